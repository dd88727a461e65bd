/- Texts of the proof, one behind the other. -/
import Derived.Test.YtidclioghdbphaaGreatDoorMd
import Derived.Shelf.Strings.Builder1
import Derived.Shelf.Strings.Builder2
import Derived.Shelf.Strings.OnBuilder
import Derived.Shelf.Strings.BuilderF
import Derived.Shelf.Strings.BuilderK
import Derived.Shelf.Strings.Builder2Cap
import Derived.Shelf.Strconv.Itoa0
import Derived.Shelf.Strconv.Itoa1
import Derived.Shelf.LaysM
import Derived.Shelf.Strconv.Itoa2
import Derived.Shelf.Strconv.Itoa3
import Derived.Shelf.Strconv.Itoa4
import Derived.Shelf.Strings.Search1
import Derived.Shelf.Strings.Search2
import Derived.Shelf.Strings.Cut
import Derived.Shelf.Strings.Shaped
import Derived.Shelf.Strings.Prefix
import Derived.Shelf.Strings.BuilderCap
import Derived.Test.YtidclioghdbphaaGreatDoorProg
set_option linter.all false
set_option maxRecDepth 100000
namespace Go.Proofs.YtidclioghdbphaaGreatDoor
open Go.RowKit Go.Par Go.Sx Tryz
def mes (l:Tks) (q:Rq):Nat:=if q.er=0 then l.length - q.i else 0
variable {l:Tks} {q:Rq} {w:Str}
theorem mO (h:q.ac l w=true) (hi:q.i<l.length):mes l q.nx<mes l q:=by
 have e:=eX h;unfold mes;rw [aM e,aM (show q.nx.er=0 from e)];show l.length - (q.i+1)<_;omega
theorem mY {r:Rq} (h:Mq q r):mes l r<=mes l q:=by
 unfold mes
 by_cases e:q.er=0
 ·rw [aM e];have:=h.i
  split <;> omega
 ·rw [h.er e];exact aW _
def NdC (f:FuncId) (vs:List Value) (nt:Nt) (M:Nat):Prop:=∀ {H:Hp} {w0 W:World} {bs:List Res} {b:Nat} {l:Tks} {tp:Option Addr} {tc:Nat} {mi:Bool} {q:Rq},(_ :  Tkq H l tp tc)->(_:q.i<l.length)->mes l q<M->St H w0 (.box b [.slice tp l.length tc,iN q.i,iN q.er,iN q.off,.bool (mi)] 140::bs) W ->
 Calls prg f (.pointer (some ⟨b,0,none⟩)::vs).toArray W λe W'=>∃ z:Fn × Bool × Rq × List Value × Hp,(Gd l (nt) q z.1 z.2.1 z.2.2.1/\HUp w0 H z.2.2.2.2/\Rep z.2.2.2.2 (dFn z.1) z.2.2.2.1/\z.2.2.1.i<l.length/\Mq q z.2.2.1)/\e=.returned (.agg z.2.2.2.1.toArray)/\St z.2.2.2.2 w0 (.box b [.slice tp l.length tc,iN z.2.2.1.i,iN z.2.2.1.er,iN z.2.2.1.off,.bool (mi || z.2.1)] 140::bs) W'
theorem NdC.zero (f:FuncId) (vs:List Value) (nt:Nt):NdC f vs nt 0:=λ_ _ h _=>absurd h (pQ _)
theorem LO (H:Hp):Rep H (dEx .i64 zE) [.int .i64 0,.string ⟨#[]⟩,.int .i64 0,.slice none 0 0]:=uF (op:=0) (nm:=[]) (n:=0) (args:=[]) (by decide) (Rep.empty (p:=none) (c:=0) (by decide))
theorem yK (H:Hp):Rep H (dFm .i64 zF) [.int .i64 0,.string ⟨#[]⟩,.string ⟨#[]⟩,.int .i64 0,.int .i64 0,.slice none 0 0,.slice none 0 0]:=sU (op:=0) (nm:=[]) (fd:=[]) (a:=0) (b:=0) (ex:=[]) (args:=[]) (by decide) (by decide) (Rep.empty (p:=none) (c:=0) (by decide)) (Rep.empty (p:=none) (c:=0) (by decide))
variable {H:Hp} {f:Fm} {c1:List Value}
theorem wE (h:Rep H (dFm .i64 f) c1):Rep H (dFn (mdN f)) (.bool true::.bool false::(c1++[.int .i64 0,.string ⟨#[]⟩,.int .i64 0,.slice none 0 0])):=HV (n:=mdN f) h (LO H)
variable {e:Ex}
theorem CA (h:Rep H (dEx .i64 e) c1):Rep H (dFn (vlN e)) (.bool false::.bool true::([.int .i64 0,.string ⟨#[]⟩,.string ⟨#[]⟩,.int .i64 0,.int .i64 0,.slice none 0 0,.slice none 0 0]++c1)):=HV (n:=vlN e) (yK H) h
theorem or5 {a b c d e:Bool} :((((a || b) || c) || d) || e)=(a || (b || (c || (d || e)))):=by cases a <;> cases b <;> cases c <;> cases d <;> rfl
variable {a:Int64} {bb:Nat}
theorem aF7 {op:UInt8} {b:Int64} {g:Fm} {c2:List Value} (h1:Rep H (dFm .i64 f) c1) (h2:Rep H (dFm .i64 g) c2) (m:uP H bb 0 (c1++c2)):Rep H (dFm .i64 (.mk op [] [] a b [] [f,g])) [.int .i64 op.toNat,.string ⟨#[]⟩,.string ⟨#[]⟩,.int .i64 a.toInt,.int .i64 b.toInt,.slice none 0 0,.slice (some ⟨bb,0,none⟩) 2 2] :=
 sU (op:=op) (nm:=[]) (fd:=[]) (ex:=[]) (args:=[f,g]) (by decide) (by decide) (Rep.empty (p:=none) (c:=0) (by decide)) (Rep.mk (n:=2) (c:=2) m (eJ.app (eJ.single h1 (xV h1)) (eJ.single h2 (xV h2))) rfl (aW _) (by decide))
variable {k:Nat}
theorem bR0 (h1:1<=k) (h3:k<=3):([.string ⟨#[]⟩,.string ⟨#[105,109,112,108,105,101,115]⟩,.string ⟨#[111,114]⟩,.string ⟨#[97,110,100]⟩]:List Value)[k]? = some (bV (joW k)):=by
 have:k=1\/k=2\/k=3:=by omega
 rcases this with rfl | rfl | rfl <;> rfl
theorem IE (M k:Nat) (hk:1<=k/\k<=4) (hsin:k=4->NdC 121 [] (.lev 4) M) (hrec:k<4->NdC 63 [.int .i64 ((k+1:Nat):Int)] (.lev (k+1)) M):NdC 63 [iN k] (.lev k) M:=by
 intro H w0 W bs b l tp tc mi q K hq hM s;refine fN func63 rfl ntmps63 rfl s ?_;refine .sr<|.al fD Z λb4=>.nt<|.sq<|.sm Z<|.yw (.eql Z Z)<|.nt<|.ce Z (λh9=>?_) (λh9=>?_)
 ·obtain rfl:k=4:=by omega
  refine .sm Z<|.cs (X:=Fn × Bool × Rq × List Value × Hp) aE5 Z (λW s=>hsin Z K hq hM (s.p2_2 [1,0] Z)) Z λz1 hz1=>?_
  obtain ⟨n1,m1,q1,cs1,H1⟩:=z1;obtain ⟨g1,u1,p1,i1,M1⟩:=hz1;dsimp only at g1 u1 p1 i1 M1|-;obtain ⟨a1,b1x,c1,d1,e1,f1,k1,x1,y1,z1,w1,rfl,rf1,re1⟩:=gH p1;have K1:=Tkq.up K u1.up;refine .sW jS Z Z cZ (Rep.one p1) Z<|.nt<|.rt<|.tR<|?_
  refine y8 Z (.cell Z dA cR rfl) λW s=>?_;exact ⟨(n1,m1,q1,[.bool n1.fm,.bool n1.tm,a1,b1x,c1,d1,e1,f1,k1,x1,y1,z1,w1],H1),⟨g1,u1,p1,i1,M1⟩,Z,s.p2_1 [0] rfl⟩
 have hk3:k<=3:=by omega
 have hne:¬ k=4:=by omega
 refine .sk<|.tN<|.sr<|.bl Z (aE8 _ _ _ _) Z λb12=>?_

 refine .mv Z<|.yw (.indexSl uG Z Z (i:=k) Z (by omega) (q:=k) (by omega))<|.yw (.load (v:=bV (joW k)) Z cP Hm (bR0 hk.1 hk3))<|.a Z Z<|.ns<|.mv Z<|.mv Z<|.yw (.add Z Z (c:=((k+1:Nat):Int)) ((w6 (by omega)).trans (by omega)))<|.cs (X:=Fn × Bool × Rq × List Value × Hp) zW Z (λW s=>hrec (by omega) K hq hM (s.p3_3 [2,0,1] Z)) Z λz1 hz1=>?_
 obtain ⟨n1,m1,q1,cs1,H1⟩:=z1;obtain ⟨g1,u1,p1,i1,M1⟩:=hz1;dsimp only at g1 u1 p1 i1 M1|-;obtain ⟨a1,b1x,c1,d1,e1,f1,k1,x1,y1,z1,w1,rfl,rf1,re1⟩:=gH p1;have K1:=Tkq.up K u1.up;refine .al fD Z λb6=>.sW .head Z Z cZ (Rep.one p1) Z<|.nt<|.sq<|.bk<|.lp (X:=Fn × Bool × Rq × List Value × Hp) [(0,_),(1,_),(4,_),(5,_),(6,_)] ⟨Z,Z,Z,Z,Z,Jt⟩ (_::_::bs) (λz=>[]) (λz=>z.2.2.2.2) (λz=>[.box b6 z.2.2.2.1 142,.box b [.slice tp l.length tc,iN z.2.2.1.i,iN z.2.2.1.er,iN z.2.2.1.off,.bool (mi || z.2.1)] 140]) (λz=>(∀ n m r2,Gd l (.lp k z.1) z.2.2.1 n m r2->Gd l (.lev k) q n (z.2.1 || m) r2)/\HUp w0 H z.2.2.2.2/\Rep z.2.2.2.2 (dFn z.1) z.2.2.2.1/\z.2.2.1.i<l.length/\Mq q z.2.2.1) (λz=>mes l z.2.2.1) (n1,m1,q1,[.bool n1.fm,.bool n1.tm,a1,b1x,c1,d1,e1,f1,k1,x1,y1,z1,w1],H1) (λ_ s=>s) trivial ⟨λn m r2 g=>Gd.seq (.inl hk) g1 g,u1,p1,i1,M1⟩ λz hC=>?_
 obtain ⟨nx,mx,qx,csx,Hx⟩:=z;obtain ⟨hI,ux,px,ix,Mx⟩:=hC;dsimp only at hI ux px ix Mx|-;obtain ⟨ax,bxx,cx,dx,ex,fx,kx,xx,yx,zx,wx,rfl,rfx,rex⟩:=gH px;have Kx:=Tkq.up K ux.up;refine .sq<|.sm Z<|.mv Z<|.cs (X:=Unit) fW Z (λW s=>mN Kx ix (joW k) (s.p4_4 [1,0,2,3] Z)) Z λ_ _=>.nt<|.cd Z (λh22=>?_) (λh22=>?_)
 ·have hac:Rq.ac l (joW k) qx=true:=h22;rw [qL hac];refine .sk<|.tN<|.bk<|.sm Z<|.mv Z<|.yw (.add Z Z (c:=((k+1:Nat):Int)) ((w6 (by omega)).trans (by omega)))<|.cs (X:=Fn × Bool × Rq × List Value × Hp) zW Z (λW s=>hrec (by omega) Kx (cC Kx.gd.last ix hac) (by have:=mO hac ix;have:=mY (l:=l) Mx;omega) (s.p4_4 [0,1,2,3] Z)) Z λz2 hz2=>?_
  obtain ⟨n2,m2,q2,cs2,H2⟩:=z2;obtain ⟨g2,u2,p2,i2,M2⟩:=hz2;dsimp only at g2 u2 p2 i2 M2|-;obtain ⟨a2,b2x,c2,d2,e2,f2,k2,x2,y2,z2,w2,rfl,rf2,re2⟩:=gH p2;have K2:=Tkq.up Kx u2.up;exact .al fD Z λb7=>.sW .head Z Z cZ (Rep.one p2) Z<|.nt<|.fL 11 [(0,0),(1,0),(2,0),(3,0),(5,0),(6,0),(4,3),(7,3),(8,1),(9,0),(10,0)]<|.mv Z<|.yw (.sub Z Z (c:=(((UInt8.ofNat (12 - k)).toNat:Nat):Int)) ((w6 (by omega)).trans (by rw [cW (show 12 - k<256 by omega)];omega)))<|.mv Z<|.yw (.loadW Z dA kP Z)<|.mv Z<|.yw (.loadW Z dA Hm Z)<|.c3 (X:=Unit) qE Z (λW s=>EV K2 i2 (n:=nx) (Rep.one (rfx.up u2.up)) (s.p5_5 [1,0,2,3,4] Z)) Z (λ_ _=>(.yv (.loadW Z dA cR Z)<|.yv (.move Z)<|.d2<|.yv (.sub Z Z (c:=(((UInt8.ofNat (12 - k)).toNat:Nat):Int)) ((w6 (by omega)).trans (by rw [cW (show 12 - k<256 by omega)];omega)))<|.yv (.move Z)<|.nl)) λ_ _=>.c3 (X:=Unit) qE Z (λW s=>EV K2 i2 (n:=n2) (Rep.one rf2) (s.p5_5 [0,1,2,3,4] Z)) Z (λ_ _=>(.d4<|.yv (.sub Z Z (c:=(((UInt8.ofNat (12 - k)).toNat:Nat):Int)) ((w6 (by omega)).trans (by rw [cW (show 12 - k<256 by omega)];omega)))<|.yv (.move Z)<|.nl)) λ_ _=>.blF Z (OQ _ _ _ _ _ _ _ _ _ _ _ _ _ _) Z λb35 H4 u4 m4=>.yw (.build Z (VE _ _ _ _))<|.yw (.call kH Z (λW s=>tA H4 (by simp [Value.oneCell',bV]) W s.agr))<|.fn (tl:=[_]) Z<|.sX jW Z Z cZ Z<|.nl<|.bN<|.tN<|.ag (x:=(nx,mx,qx,[.bool nx.fm,.bool nx.tm,ax,bxx,cx,dx,ex,fx,kx,xx,yx,zx,wx],Hx)) ((mdN (.mk (UInt8.ofNat (12 - k)) [] [] 0 0 [] [nx.f,n2.f])),(mx || (m2 || (!nx.fm || !n2.fm))),q2,[.bool true,.bool false,.int .i64 (UInt8.ofNat (12 - k)).toNat,.string ⟨#[]⟩,.string ⟨#[]⟩,.int .i64 0,.int .i64 0,.slice none 0 0,.slice (some ⟨b35,0,none⟩) 2 2,.int .i64 0,.string ⟨#[]⟩,.int .i64 0,.slice none 0 0],H4) trivial ⟨rfl,rfl,rfl,rfl,rfl,trivial⟩ (λ_ s=>by rw [or5] at s;exact (s.p5_4 [2,0,3,4] Z)) ⟨λn m r2 g=>by have:=hI _ _ _ (Gd.join hk hac (by unfold Rq.jnS;rw [aD hne];exact g2) (by unfold Rq.jnF;rw [aD hne];exact g));rwa [<-Bool.or_assoc] at this,(ux.trans u2).trans u4,wE (aF7 ((rfx.up u2.up).up u4.up) (rf2.up u4.up) m4),i2,(Mx.trans (.nx (eX hac))).trans M2⟩ (Nat.lt_of_le_of_lt (mY M2) (mO hac ix))
 have hac:Rq.ac l (joW k) qx=false:=h22;rw [qM hac];refine .ex<|.eb<|.sr<|.yw (.loadW Z dA cR Z)<|.sW nP Z Z cZ (Rep.one px) Z<|.nt<|.rt<|?_
 refine y8 Z (.cell Z dA qP rfl) λW s=>?_;exact ⟨(nx,mx,qx,[.bool nx.fm,.bool nx.tm,ax,bxx,cx,dx,ex,fx,kx,xx,yx,zx,wx],Hx),⟨by have:=hI _ _ _ (Gd.outJ hk hac);rwa [Bool.or_false] at this,ux,px,ix,Mx⟩,Z,s.p4_1 [0] rfl⟩
theorem vH:cV prg 166=true:=by kernel_rfl
theorem FZ:cV prg 167=true:=by kernel_rfl
theorem nV:cV prg 201=true:=by kernel_rfl
theorem NZ:cV prg 207=true:=by kernel_rfl
theorem BH:cV prg 208=true:=by kernel_rfl
theorem rH:cV prg 209=true:=by kernel_rfl
theorem JS (x0 x3 x4:Int) (x6p:Option Addr) (x6n x6c:Nat):fK prg 27 [(0,.int .i64 x0),(3,.int .i64 x3),(4,.int .i64 x4),(6,.slice x6p x6n x6c)]=some [.int .i64 x0,.string ⟨#[]⟩,.string ⟨#[]⟩,.int .i64 x3,.int .i64 x4,.slice none 0 0,.slice x6p x6n x6c]:=by kernel_rfl
theorem OO (x0 x1:ByteArray):uO prg 71 2 [(0,.string x0),(1,.string x1)]=some (9,[.string x0,.string x1]):=by kernel_rfl
theorem bN4 (M:Nat) (hpre:NdC 166 [] (.lev 5) M):NdC 121 [] (.lev 4) M:=by
 intro H w0 W bs b l tp tc mi q K hq hM s;refine fN func121 rfl ntmps121 rfl s ?_;refine .sr<|.al fD Z λb2=>.ns<|.mv Z<|.cs (X:=Fn × Bool × Rq × List Value × Hp) vH Z (λW s=>hpre K hq hM (s.p2_2 [1,0] Z)) Z λz1 hz1=>?_
 obtain ⟨n1,m1,q1,cs1,H1⟩:=z1;obtain ⟨g1,u1,p1,i1,M1⟩:=hz1;dsimp only at g1 u1 p1 i1 M1|-;obtain ⟨a1,b1x,c1,d1,e1,f1,k1,x1,y1,z1,w1,rfl,rf1,re1⟩:=gH p1;have K1:=Tkq.up K u1.up;refine .al fD Z λb3=>.sW .head Z Z cZ (Rep.one p1) Z<|.nt<|.sq<|.bk<|.lp (X:=Fn × Bool × Rq × List Value × Hp) [(0,_),(2,_),(3,_)] ⟨Z,Z,Z,Jt⟩ (_::bs) (λz=>[]) (λz=>z.2.2.2.2) (λz=>[.box b3 z.2.2.2.1 142,.box b [.slice tp l.length tc,iN z.2.2.1.i,iN z.2.2.1.er,iN z.2.2.1.off,.bool (mi || z.2.1)] 140]) (λz=>(∀ n m r2,Gd l (.lp 4 z.1) z.2.2.1 n m r2->Gd l (.lev 4) q n (z.2.1 || m) r2)/\HUp w0 H z.2.2.2.2/\Rep z.2.2.2.2 (dFn z.1) z.2.2.2.1/\z.2.2.1.i<l.length/\Mq q z.2.2.1) (λz=>mes l z.2.2.1) (n1,m1,q1,[.bool n1.fm,.bool n1.tm,a1,b1x,c1,d1,e1,f1,k1,x1,y1,z1,w1],H1) (λ_ s=>s) trivial ⟨λn m r2 g=>Gd.seq (.inl (by decide)) g1 g,u1,p1,i1,M1⟩ λz hC=>?_
 obtain ⟨nx,mx,qx,csx,Hx⟩:=z;obtain ⟨hI,ux,px,ix,Mx⟩:=hC;dsimp only at hI ux px ix Mx|-;obtain ⟨ax,bxx,cx,dx,ex,fx,kx,xx,yx,zx,wx,rfl,rfx,rex⟩:=gH px;have Kx:=Tkq.up K ux.up;refine .sq<|.sm Z<|.cs (X:=Unit) fW Z (λW s=>mN Kx ix [115,105,110,99,101] (s.p3_3 [1,0,2] Z)) Z λ_ _=>.nt<|.cd Z (λh10=>?_) (λh10=>?_)
 ·have hac:Rq.ac l [115,105,110,99,101] qx=true:=h10;rw [qL hac];refine .sk<|.tN<|.bk<|.sm Z<|.cs (X:=Unit) FZ Z (λW s=>aW3 Kx (cC Kx.gd.last ix hac)  (s.p3_3 [0,1,2] Z)) Z λ_ _=>.mv Z<|.yw (.extract Z Z)<|.yw (.extract Z Z)<|.a Z Z<|.a Z Z<|.ns<|.mv Z<|.cs (X:=Fn × Bool × Rq × List Value × Hp) vH Z (λW s=>hpre Kx (EL K.gd.last (cC Kx.gd.last ix hac)) (by have:=mO hac ix;have:=mY (l:=l) Mx;have:=mY (l:=l) (Mq.wiS (l:=l) (q:=qx.nx));omega) (s.p3_3 [0,1,2] Z)) Z λz2 hz2=>?_
  obtain ⟨n2,m2,q2,cs2,H2⟩:=z2;obtain ⟨g2,u2,p2,i2,M2⟩:=hz2;dsimp only at g2 u2 p2 i2 M2|-;obtain ⟨a2,b2x,c2,d2,e2,f2,k2,x2,y2,z2,w2,rfl,rf2,re2⟩:=gH p2;have K2:=Tkq.up Kx u2.up;exact .al fD Z λb6=>.sW .head Z Z cZ (Rep.one p2) Z<|.nt<|.fL 11 [(0,0),(1,0),(2,0),(3,0),(5,0),(6,0),(4,3),(7,3),(8,1),(9,0),(10,0)]<|.mv Z<|.mv Z<|.mv Z<|.yw (.loadW Z dA kP Z)<|.mv Z<|.yw (.loadW Z dA Hm Z)<|.c3 (X:=Unit) qE Z (λW s=>EV K2 i2 (n:=nx) (Rep.one (rfx.up u2.up)) (s.p4_4 [1,0,2,3] Z)) Z (λ_ _=>(.yv (.loadW Z dA cR Z)<|.yv (.move Z)<|.d2<|.yv (.move Z)<|.yv (.move Z)<|.nl)) λ_ _=>.c3 (X:=Unit) qE Z (λW s=>EV K2 i2 (n:=n2) (Rep.one rf2) (s.p4_4 [0,1,2,3] Z)) Z (λ_ _=>(.d4<|.yv (.move Z)<|.yv (.move Z)<|.nl)) λ_ _=>.blF Z (OQ _ _ _ _ _ _ _ _ _ _ _ _ _ _) Z λb26 H4 u4 m4=>.yw (.build Z (JS _ _ _ _ _ _))<|.yw (.call kH Z (λW s=>tA H4 (by simp [Value.oneCell',bV]) W s.agr))<|.fn (tl:=[_]) Z<|.sX jW Z Z cZ Z<|.nl<|.bN<|.tN<|.ag (x:=(nx,mx,qx,[.bool nx.fm,.bool nx.tm,ax,bxx,cx,dx,ex,fx,kx,xx,yx,zx,wx],Hx)) ((mdN (.mk 15 [] [] (qx.nx.wiA l) (qx.nx.wiB l) [] [nx.f,n2.f])),(mx || (m2 || (!nx.fm || !n2.fm))),q2,[.bool true,.bool false,.int .i64 15,.string ⟨#[]⟩,.string ⟨#[]⟩,.int .i64 (qx.nx.wiA l).toInt,.int .i64 (qx.nx.wiB l).toInt,.slice none 0 0,.slice (some ⟨b26,0,none⟩) 2 2,.int .i64 0,.string ⟨#[]⟩,.int .i64 0,.slice none 0 0],H4) trivial ⟨rfl,rfl,rfl,trivial⟩ (λ_ s=>by rw [or5] at s;exact (s.p4_3 [2,0,3] Z)) ⟨λn m r2 g=>by have:=hI _ _ _ (Gd.join (k:=4) (by decide) hac g2 g);rwa [<-Bool.or_assoc] at this,(ux.trans u2).trans u4,wE (aF7 (op:=15) ((rfx.up u2.up).up u4.up) (rf2.up u4.up) m4),i2,((Mx.trans (.nx (eX hac))).trans .wiS).trans M2⟩ (Nat.lt_of_le_of_lt (aV (mY M2) (mY Mq.wiS)) (mO hac ix))
 have hac:Rq.ac l [115,105,110,99,101] qx=false:=h10;rw [qM hac];refine .ex<|.eb<|.sr<|.yw (.loadW Z dA cR Z)<|.sW jW Z Z cZ (Rep.one px) Z<|.nt<|.rt<|?_
 refine y8 Z (.cell Z dA kP rfl) λW s=>?_;exact ⟨(nx,mx,qx,[.bool nx.fm,.bool nx.tm,ax,bxx,cx,dx,ex,fx,kx,xx,yx,zx,wx],Hx),⟨by have:=hI _ _ _ (Gd.outJ (by decide) hac);rwa [Bool.or_false] at this,ux,px,ix,Mx⟩,Z,s.p3_1 [0] rfl⟩
def oqV (first:Nat):Option Nat->Nat
 | none=>0
 | some i=>first+i
def oqS (q:Rq):Option Nat->Rq
 | none=>q
 | some _=>q.nx
def OqC (l:Tks) (ws:List Str) (q:Rq):Option Nat->Prop
 | none=>∀ i,i<ws.length->q.ac l (ws.getD i [])=false
 | some i=>i<ws.length/\q.ac l (ws.getD i [])=true
theorem bB9 {ws:List Str} {first:Nat} (hf:0<first):∀ o,OqC l ws q o->(0:Int)<(oqV first o:Nat)->∃ i,o=some i/\i<ws.length/\q.ac l (ws.getD i [])=true
 | none,_,h=>by simp [oqV] at h
 | some i,h,_=>⟨i,Z,h⟩
theorem aH6 {ws:List Str} {first:Nat} (hf:0<first):∀ o,OqC l ws q o->¬ (0:Int)<(oqV first o:Nat)->o=none
 | none,_,_=>rfl
 | some i,_,h=>absurd (show (0:Int)<((first+i:Nat):Int) by omega) h
theorem aH7 {ws:List Str} (h:∀ i,i<k->q.ac l (ws.getD i [])=false) (h2:q.ac l (ws.getD k [])=false):∀ i,i<k+1->q.ac l (ws.getD i [])=false:=λi hi=>by
 by_cases e:i=k
 ·rw [e];exact h2
 ·exact h i (by omega)
variable {w0 W:World} {bs:List Res} {b tc:Nat} {tp:Option Addr} {mi:Bool}
theorem TR (K:Tkq H l tp tc) (hq:q.i<l.length) (ws:List Str) (first bw:Nat) (hw:kU H bw 0 (ws.map bV)) (hl:ws.length<=10) (hf:first<=100) (s:St H w0 (.box b [.slice tp l.length tc,iN q.i,iN q.er,iN q.off,.bool (mi)] 140::bs) W) :
 Calls prg 208 #[.pointer (some ⟨b,0,none⟩),.slice (some ⟨bw,0,none⟩) ws.length ws.length,iN first] W λe W'=>∃ o:Option Nat,(OqC l ws q o)/\e=.returned (iN (oqV first o))/\St H w0 (.box b [.slice tp l.length tc,iN ((oqS q o).i),iN ((oqS q o).er),iN ((oqS q o).off),.bool (mi)] 140::bs) W':=by
 have hcap:=K.rep.cap;refine fN func208 rfl ntmps208 rfl s ?_;refine .sr<|.aq Z<|.sq<|.sm Z<|.yw (.lenSl uG Z)<|.mv Z<|.nt<|.bk<|.lp (X:=Nat) [(0,_),(2,_),(9,_),(10,_)] ⟨Z,Z,Z,Z,Jt⟩ (bs) (λk=>[(11,iN k)]) (λk=>H) (λk=>[.box b [.slice tp l.length tc,iN q.i,iN q.er,iN q.off,.bool (mi)] 140]) (λk=>k<=ws.length/\∀ i,i<k->q.ac l (ws.getD i [])=false) (λk=>ws.length - k) 0 (λ_ s=>s) ⟨Z,Jt⟩ ⟨aP _,λi hi=>absurd hi (pQ _)⟩ λk hC=>?_
 obtain ⟨hk0,hno⟩:=hC;refine .sr<|.yw (.lss Z Z)<|.nt<|.sq<|.ce Z (λh12=>?_) (λh12=>?_)
 ·have hk:k<ws.length:=by omega
  refine .sk<|.tN<|.sq<|.bk<|.sm Z<|.yw (.indexSl uG Z Z Z (by omega) (q:=k) (by omega))<|.yw (.loadM Z cP hw (k:=k) (v:=bV (ws.getD k [])) (by omega) (uD (f:=bV) hk []))<|.a Z Z<|.a Z Z<|.ns<|.mv Z<|.mv Z<|.cs (X:=Unit) fW Z (λW s=>mN K hq (ws.getD k []) (s.p1_1 [0] Z)) Z λ_ _=>.nt<|.cd Z (λh18=>?_) (λh18=>?_)
  ·have hac:Rq.ac l (ws.getD k []) q=true:=h18;rw [qL hac];refine .sm Z<|.mv Z<|.yw (.add Z Z (c:=((first+k:Nat):Int)) ((w6 (by omega)).trans (by omega)))<|.az Z<|.bR<|.tR<|.tR<|.bR<|.tR<|?_
   refine y9 Z Z λW s=>?_;exact ⟨some k,⟨hk,hac⟩,Z,s.p1_1 [0] rfl⟩
  have hac:Rq.ac l (ws.getD k []) q=false:=h18;rw [qM hac];exact .sk<|.bN<|.tN<|.rg<|.yw (.add Z Z w7)<|.mv Z<|.nt<|.ag (k+1) ⟨Z,Jt⟩ ⟨Z,Z,Z,Z,Jt⟩ (λ_ s=>s) ⟨by omega,aH7 hno hac⟩ (by omega)
 obtain rfl:k=ws.length:=by omega
 refine .ex<|.eb<|.sr<|.az Z<|?_
 refine y9 Z Z λW s=>?_;exact ⟨none,hno,Z,s.p1_1 [0] rfl⟩
variable {i:Nat}
theorem TS {g:Ex} {c2:List Value} (h0:(0:Nat)=0) (h1:Rep H (dEx .i64 e) c1) (h2:Rep H (dEx .i64 g) c2) (m:uP H bb 0 (c1++c2)) (hi:i<256):Rep H (dEx .i64 (opB i [e,g])) [iN i,.string ⟨#[]⟩,.int .i64 0,.slice (some ⟨bb,0,none⟩) 2 2]:=by
 have:=uF (H:=H) (k:=.i64) (op:=UInt8.ofNat i) (nm:=[]) (n:=0) (args:=[e,g]) (by decide) (Rep.mk (n:=2) (c:=2) m (eJ.app (eJ.single h1 (AW h1)) (eJ.single h2 (AW h2))) rfl (aW _) (by decide));rw [show (UInt8.ofNat i).toNat=i from cW hi] at this;exact this
theorem bX1 (h:i<([[43],[45]]:List Str).length):kO.getD (14+i) []=([[43],[45]]:List Str).getD i []:=by
 have key:∀ i∈List.range 2,kO.getD (14+i) []=([[43],[45]]:List Str).getD i []:=by decide
 exact key i (bU.2 h)
theorem bZ8 (h:∀ i,i<([[43],[45]]:List Str).length->q.ac l (([[43],[45]]:List Str).getD i [])=false) (i:Nat) (hi:BB 7 i):q.ac l (kO.getD i [])=false:=by
 have:14<=i/\i<16:=by unfold BB at hi;omega
 have h1:=h (i - 14) (show i - 14<2 by omega);rw [<-bX1 (show i - 14<2 by omega),show 14+(i - 14)=i by omega] at h1;exact h1
theorem cG6 (M:Nat) (hsub:NdC 207 [] (.lev 8) M):NdC 200 [] (.lev 7) M:=by
 intro H w0 W bs b l tp tc mi q K hq hM s;refine fN func200 rfl ntmps200 rfl s ?_;refine .sr<|.al fD Z λb2=>.ns<|.mv Z<|.cs (X:=Fn × Bool × Rq × List Value × Hp) NZ Z (λW s=>hsub K hq hM (s.p2_2 [1,0] Z)) Z λz1 hz1=>?_
 obtain ⟨n1,m1,q1,cs1,H1⟩:=z1;obtain ⟨g1,u1,p1,i1,M1⟩:=hz1;dsimp only at g1 u1 p1 i1 M1|-;obtain ⟨a1,b1x,c1,d1,e1,f1,k1,x1,y1,z1,w1,rfl,rf1,re1⟩:=gH p1;have K1:=Tkq.up K u1.up;refine .al fD Z λb3=>.sW .head Z Z cZ (Rep.one p1) Z<|.nt<|.sq<|.sm Z<|.bl Z (OO _ _) Z λb9=>?_
 refine rR λH2 u2 m2x=>?_;have K2:=Tkq.up K1 u2.up;refine .cs (X:=Option Nat) BH Z (λW s=>TR K2 i1 ([[43],[45]]:List Str) 14 _ m2x (by decide) (by decide) (s.p3_3 [1,0,2] Z)) Z λo1 ho1=>.aq Z<|.bk<|.lp (X:=Fn × Bool × Rq × List Value × Hp × Option Nat) [(0,_),(2,_),(3,_)] ⟨Z,Z,Z,Jt⟩ (_::bs) (λz=>[(4,iN (oqV 14 z.2.2.2.2.2))]) (λz=>z.2.2.2.2.1) (λz=>[.box b3 z.2.2.2.1 142,.box b [.slice tp l.length tc,iN ((oqS z.2.2.1 z.2.2.2.2.2).i),iN ((oqS z.2.2.1 z.2.2.2.2.2).er),iN ((oqS z.2.2.1 z.2.2.2.2.2).off),.bool (mi || z.2.1)] 140]) (λz=>(∀ n m r2,Gd l (.lp 7 z.1) z.2.2.1 n m r2->Gd l (.lev 7) q n (z.2.1 || m) r2)/\HUp w0 H z.2.2.2.2.1/\Rep z.2.2.2.2.1 (dFn z.1) z.2.2.2.1/\z.2.2.1.i<l.length/\Mq q z.2.2.1/\OqC l ([[43],[45]]:List Str) z.2.2.1 z.2.2.2.2.2) (λz=>mes l z.2.2.1) (n1,m1,q1,[.bool n1.fm,.bool n1.tm,a1,b1x,c1,d1,e1,f1,k1,x1,y1,z1,w1],H2,o1) (λ_ s=>(s.p3_3 [1,0,2] Z)) ⟨Z,Jt⟩ ⟨λn m r2 g=>Gd.seq (.inr (by decide)) g1 g,u1.trans u2,p1.up u2.up,i1,M1,ho1⟩ λz hC=>?_
 obtain ⟨nx,mx,qx,csx,Hx,ox⟩:=z;obtain ⟨hI,ux,px,ix,Mx,hox⟩:=hC;dsimp only at hI ux px ix Mx hox|-;obtain ⟨ax,bxx,cx,dx,ex,fx,kx,xx,yx,zx,wx,rfl,rfx,rex⟩:=gH px;have Kx:=Tkq.up K ux.up;refine .sq<|.sm Z<|.yw (.gtr Z Z)<|.nt<|.ce Z (λh12=>?_) (λh12=>?_)
 ·obtain ⟨i,rfl,hil,hac⟩:=bB9 (first:=14) (by decide) _ hox (by omega);refine .sk<|.tN<|.sq<|.bk<|.sm Z<|.cs (X:=Fn × Bool × Rq × List Value × Hp) NZ Z (λW s=>hsub Kx (cC K.gd.last ix hac) (by have:=mO hac ix;have:=mY (l:=l) Mx;omega) (s.p3_3 [1,0,2] Z)) Z λz2 hz2=>?_
  obtain ⟨n2,m2,q2,cs2,H2⟩:=z2;obtain ⟨g2,u2,p2,i2,M2⟩:=hz2;dsimp only at g2 u2 p2 i2 M2|-;obtain ⟨a2,b2x,c2,d2,e2,f2,k2,x2,y2,z2,w2,rfl,rf2,re2⟩:=gH p2;have K2:=Tkq.up Kx u2.up;refine .al fD Z λb5=>.sW .head Z Z cZ (Rep.one p2) Z<|.nt<|.fL 10 [(0,0),(1,0),(2,0),(4,0),(5,0),(3,3),(6,3),(7,1),(8,0),(9,0)]<|.mv Z<|.mv Z<|.yw (.loadW Z dA kP Z)<|.mv Z<|.yw (.loadW Z dA Hm Z)<|.c3 (X:=Unit) nV Z (λW s=>EU K2 i2 (n:=nx) (Rep.one (rex.up u2.up)) (s.p4_4 [1,0,2,3] Z)) Z (λ_ _=>(.yv (.loadW Z dA cR Z)<|.yv (.move Z)<|.d2<|.yv (.move Z)<|.nl)) λ_ _=>.c3 (X:=Unit) nV Z (λW s=>EU K2 i2 (n:=n2) (Rep.one re2) (s.p4_4 [0,1,2,3] Z)) Z (λ_ _=>(.d4<|.yv (.move Z)<|.nl)) λ_ _=>.blF Z (GG _ _ _ _ _ _ _ _) Z λb25 H4 u4 m4=>.yw (.build Z (wW _ _ _ _))<|.yw (.call rH Z (λW s=>JZ H4 (by simp [Value.oneCell',bV]) W s.agr))<|.fn (tl:=[_]) Z<|.sX jW Z Z cZ Z<|.nl<|.bN<|.tN<|.rg<|.mv Z<|.bl Z (OO _ _) Z λb14=>?_
  refine rR λH5 u5 m5=>?_;have K4:=Tkq.up K2 u4.up;have K5:=Tkq.up K4 u5.up;exact .cs (X:=Option Nat) BH Z (λW s=>TR K5 i2 ([[43],[45]]:List Str) 14 _ m5 (by decide) (by decide) (s.p4_4 [0,1,2,3] Z)) Z λo2 ho2=>.aq Z<|.ag (x:=(nx,mx,qx,[.bool nx.fm,.bool nx.tm,ax,bxx,cx,dx,ex,fx,kx,xx,yx,zx,wx],Hx,some i)) ((vlN (opB (14+i) [nx.e,n2.e])),(mx || (m2 || (!nx.tm || !n2.tm))),q2,[.bool false,.bool true,.int .i64 0,.string ⟨#[]⟩,.string ⟨#[]⟩,.int .i64 0,.int .i64 0,.slice none 0 0,.slice none 0 0,iN (14+i),.string ⟨#[]⟩,.int .i64 0,.slice (some ⟨b25,0,none⟩) 2 2],H5,o2) ⟨rfl,trivial⟩ ⟨rfl,rfl,rfl,trivial⟩ (λ_ s=>by rw [or5] at s;exact (s.p4_3 [2,0,3] Z)) ⟨λn m r2 g=>by have:=hI _ _ _ (Gd.ari (k:=7) (i:=14+i) (by unfold BB;have:=hil;simp only [aK,aQ] at this;omega) (by rw [bX1 hil];exact hac) g2 g);rwa [<-Bool.or_assoc] at this,((ux.trans u2).trans u4).trans u5,CA ((TS (by decide) ((rex.up u2.up).up u4.up) (re2.up u4.up) m4 (by have:=hil;simp only [aK,aQ] at this;omega)).up u5.up),i2,(Mx.trans (.nx (eX hac))).trans M2,ho2⟩ (Nat.lt_of_le_of_lt (mY M2) (mO hac ix))
 obtain rfl:=aH6 (first:=14) (by decide) _ hox (by omega);have hac:=hox;refine .ex<|.eb<|.sr<|.yw (.loadW Z dA Hm Z)<|.sW jW Z Z cZ (Rep.one px) Z<|.nt<|.rt<|?_
 refine y8 Z (.cell Z dA kP rfl) λW s=>?_;exact ⟨(nx,mx,qx,[.bool nx.fm,.bool nx.tm,ax,bxx,cx,dx,ex,fx,kx,xx,yx,zx,wx],Hx),⟨by have:=hI _ _ _ (Gd.outA (.inl Z) (λi hi=>bZ8 hac i hi));rwa [Bool.or_false] at this,ux,px,ix,Mx⟩,Z,s.p3_1 [1] rfl⟩
theorem FY:cV prg 212=true:=by kernel_rfl
theorem aC9:cV prg 213=true:=by kernel_rfl
theorem bX0 (h:i<([[42],[47],[37]]:List Str).length):kO.getD (11+i) []=([[42],[47],[37]]:List Str).getD i []:=by
 have key:∀ i∈List.range 3,kO.getD (11+i) []=([[42],[47],[37]]:List Str).getD i []:=by decide
 exact key i (bU.2 h)
theorem bZ7 (h:∀ i,i<([[42],[47],[37]]:List Str).length->q.ac l (([[42],[47],[37]]:List Str).getD i [])=false) (i:Nat) (hi:BB 8 i):q.ac l (kO.getD i [])=false:=by
 have:11<=i/\i<14:=by unfold BB at hi;omega
 have h1:=h (i - 11) (show i - 11<3 by omega);rw [<-bX0 (show i - 11<3 by omega),show 11+(i - 11)=i by omega] at h1;exact h1
theorem aN3 (M:Nat) (hsub:NdC 212 [] (.lev 9) M):NdC 207 [] (.lev 8) M:=by
 intro H w0 W bs b l tp tc mi q K hq hM s;refine fN func207 rfl ntmps207 rfl s ?_;refine .sr<|.al fD Z λb2=>.ns<|.mv Z<|.cs (X:=Fn × Bool × Rq × List Value × Hp) FY Z (λW s=>hsub K hq hM (s.p2_2 [1,0] Z)) Z λz1 hz1=>?_
 obtain ⟨n1,m1,q1,cs1,H1⟩:=z1;obtain ⟨g1,u1,p1,i1,M1⟩:=hz1;dsimp only at g1 u1 p1 i1 M1|-;obtain ⟨a1,b1x,c1,d1,e1,f1,k1,x1,y1,z1,w1,rfl,rf1,re1⟩:=gH p1;have K1:=Tkq.up K u1.up;refine .al fD Z λb3=>.sW .head Z Z cZ (Rep.one p1) Z<|.nt<|.sq<|.sm Z<|.bl Z (ON _ _ _) Z λb9=>?_
 refine rR λH2 u2 m2x=>?_;have K2:=Tkq.up K1 u2.up;refine .cs (X:=Option Nat) BH Z (λW s=>TR K2 i1 ([[42],[47],[37]]:List Str) 11 _ m2x (by decide) (by decide) (s.p3_3 [1,0,2] Z)) Z λo1 ho1=>.aq Z<|.bk<|.lp (X:=Fn × Bool × Rq × List Value × Hp × Option Nat) [(0,_),(2,_),(3,_)] ⟨Z,Z,Z,Jt⟩ (_::bs) (λz=>[(4,iN (oqV 11 z.2.2.2.2.2))]) (λz=>z.2.2.2.2.1) (λz=>[.box b3 z.2.2.2.1 142,.box b [.slice tp l.length tc,iN ((oqS z.2.2.1 z.2.2.2.2.2).i),iN ((oqS z.2.2.1 z.2.2.2.2.2).er),iN ((oqS z.2.2.1 z.2.2.2.2.2).off),.bool (mi || z.2.1)] 140]) (λz=>(∀ n m r2,Gd l (.lp 8 z.1) z.2.2.1 n m r2->Gd l (.lev 8) q n (z.2.1 || m) r2)/\HUp w0 H z.2.2.2.2.1/\Rep z.2.2.2.2.1 (dFn z.1) z.2.2.2.1/\z.2.2.1.i<l.length/\Mq q z.2.2.1/\OqC l ([[42],[47],[37]]:List Str) z.2.2.1 z.2.2.2.2.2) (λz=>mes l z.2.2.1) (n1,m1,q1,[.bool n1.fm,.bool n1.tm,a1,b1x,c1,d1,e1,f1,k1,x1,y1,z1,w1],H2,o1) (λ_ s=>(s.p3_3 [1,0,2] Z)) ⟨Z,Jt⟩ ⟨λn m r2 g=>Gd.seq (.inr (by decide)) g1 g,u1.trans u2,p1.up u2.up,i1,M1,ho1⟩ λz hC=>?_
 obtain ⟨nx,mx,qx,csx,Hx,ox⟩:=z;obtain ⟨hI,ux,px,ix,Mx,hox⟩:=hC;dsimp only at hI ux px ix Mx hox|-;obtain ⟨ax,bxx,cx,dx,ex,fx,kx,xx,yx,zx,wx,rfl,rfx,rex⟩:=gH px;have Kx:=Tkq.up K ux.up;refine .sq<|.sm Z<|.yw (.gtr Z Z)<|.nt<|.ce Z (λh12=>?_) (λh12=>?_)
 ·obtain ⟨i,rfl,hil,hac⟩:=bB9 (first:=11) (by decide) _ hox (by omega);refine .sk<|.tN<|.sq<|.bk<|.sm Z<|.cs (X:=Fn × Bool × Rq × List Value × Hp) FY Z (λW s=>hsub Kx (cC K.gd.last ix hac) (by have:=mO hac ix;have:=mY (l:=l) Mx;omega) (s.p3_3 [1,0,2] Z)) Z λz2 hz2=>?_
  obtain ⟨n2,m2,q2,cs2,H2⟩:=z2;obtain ⟨g2,u2,p2,i2,M2⟩:=hz2;dsimp only at g2 u2 p2 i2 M2|-;obtain ⟨a2,b2x,c2,d2,e2,f2,k2,x2,y2,z2,w2,rfl,rf2,re2⟩:=gH p2;have K2:=Tkq.up Kx u2.up;refine .al fD Z λb5=>.sW .head Z Z cZ (Rep.one p2) Z<|.nt<|.fL 10 [(0,0),(1,0),(2,0),(4,0),(5,0),(3,3),(6,3),(7,1),(8,0),(9,0)]<|.mv Z<|.mv Z<|.yw (.loadW Z dA kP Z)<|.mv Z<|.yw (.loadW Z dA Hm Z)<|.c3 (X:=Unit) nV Z (λW s=>EU K2 i2 (n:=nx) (Rep.one (rex.up u2.up)) (s.p4_4 [1,0,2,3] Z)) Z (λ_ _=>(.yv (.loadW Z dA cR Z)<|.yv (.move Z)<|.d2<|.yv (.move Z)<|.nl)) λ_ _=>.c3 (X:=Unit) nV Z (λW s=>EU K2 i2 (n:=n2) (Rep.one re2) (s.p4_4 [0,1,2,3] Z)) Z (λ_ _=>(.d4<|.yv (.move Z)<|.nl)) λ_ _=>.blF Z (GG _ _ _ _ _ _ _ _) Z λb25 H4 u4 m4=>.yw (.build Z (wW _ _ _ _))<|.yw (.call rH Z (λW s=>JZ H4 (by simp [Value.oneCell',bV]) W s.agr))<|.fn (tl:=[_]) Z<|.sX jW Z Z cZ Z<|.nl<|.bN<|.tN<|.rg<|.mv Z<|.bl Z (ON _ _ _) Z λb14=>?_
  refine rR λH5 u5 m5=>?_;have K4:=Tkq.up K2 u4.up;have K5:=Tkq.up K4 u5.up;exact .cs (X:=Option Nat) BH Z (λW s=>TR K5 i2 ([[42],[47],[37]]:List Str) 11 _ m5 (by decide) (by decide) (s.p4_4 [0,1,2,3] Z)) Z λo2 ho2=>.aq Z<|.ag (x:=(nx,mx,qx,[.bool nx.fm,.bool nx.tm,ax,bxx,cx,dx,ex,fx,kx,xx,yx,zx,wx],Hx,some i)) ((vlN (opB (11+i) [nx.e,n2.e])),(mx || (m2 || (!nx.tm || !n2.tm))),q2,[.bool false,.bool true,.int .i64 0,.string ⟨#[]⟩,.string ⟨#[]⟩,.int .i64 0,.int .i64 0,.slice none 0 0,.slice none 0 0,iN (11+i),.string ⟨#[]⟩,.int .i64 0,.slice (some ⟨b25,0,none⟩) 2 2],H5,o2) ⟨rfl,trivial⟩ ⟨rfl,rfl,rfl,trivial⟩ (λ_ s=>by rw [or5] at s;exact (s.p4_3 [2,0,3] Z)) ⟨λn m r2 g=>by have:=hI _ _ _ (Gd.ari (k:=8) (i:=11+i) (by unfold BB;have:=hil;simp only [aK,aQ] at this;omega) (by rw [bX0 hil];exact hac) g2 g);rwa [<-Bool.or_assoc] at this,((ux.trans u2).trans u4).trans u5,CA ((TS (by decide) ((rex.up u2.up).up u4.up) (re2.up u4.up) m4 (by have:=hil;simp only [aK,aQ] at this;omega)).up u5.up),i2,(Mx.trans (.nx (eX hac))).trans M2,ho2⟩ (Nat.lt_of_le_of_lt (mY M2) (mO hac ix))
 obtain rfl:=aH6 (first:=11) (by decide) _ hox (by omega);have hac:=hox;refine .ex<|.eb<|.sr<|.yw (.loadW Z dA Hm Z)<|.sW jW Z Z cZ (Rep.one px) Z<|.nt<|.rt<|?_
 refine y8 Z (.cell Z dA kP rfl) λW s=>?_;exact ⟨(nx,mx,qx,[.bool nx.fm,.bool nx.tm,ax,bxx,cx,dx,ex,fx,kx,xx,yx,zx,wx],Hx),⟨by have:=hI _ _ _ (Gd.outA (.inr Z) (λi hi=>bZ7 hac i hi));rwa [Bool.or_false] at this,ux,px,ix,Mx⟩,Z,s.p3_1 [1] rfl⟩
def PrC (M:Nat):Prop:=∀ {H:Hp} {w0 W:World} {bs:List Res} {b:Nat} {l:Tks} {tp:Option Addr} {tc:Nat} {mi:Bool} {q:Rq},(_ :  Tkq H l tp tc)->(_:q.i<l.length)->q.ac l [45]=false->mes l q<M->St H w0 (.box b [.slice tp l.length tc,iN q.i,iN q.er,iN q.off,.bool (mi)] 140::bs) W ->
 Calls prg 213 #[.pointer (some ⟨b,0,none⟩)] W λe W'=>∃ z:Fn × Bool × Rq × List Value × Hp,(Gd l (.lev 10) q z.1 z.2.1 z.2.2.1/\HUp w0 H z.2.2.2.2/\Rep z.2.2.2.2 (dFn z.1) z.2.2.2.1/\z.2.2.1.i<l.length/\Mq q z.2.2.1)/\e=.returned (.agg z.2.2.2.1.toArray)/\St z.2.2.2.2 w0 (.box b [.slice tp l.length tc,iN z.2.2.1.i,iN z.2.2.1.er,iN z.2.2.1.off,.bool (mi || z.2.1)] 140::bs) W'
theorem bP8 {op:UInt8} (h1:Rep H (dEx .i64 e) c1) (m:uP H bb 0 c1):Rep H (dEx .i64 (.mk op [] 0 [e])) [.int .i64 op.toNat,.string ⟨#[]⟩,.int .i64 0,.slice (some ⟨bb,0,none⟩) 1 1] :=
 uF (op:=op) (nm:=[]) (n:=0) (args:=[e]) (by decide) (Rep.mk (n:=1) (c:=1) m (eJ.single h1 (AW h1)) rfl (aW _) (by decide))
theorem bL7 (M:Nat) (hun:NdC 212 [] (.lev 9) M) (hpri:PrC (M+1)):NdC 212 [] (.lev 9) (M+1):=by
 intro H w0 W bs b l tp tc mi q K hq hM s;refine fN func212 rfl ntmps212 rfl s ?_;refine .sr<|.al fD Z λb2=>.nt<|.sq<|.sm Z<|.cs (X:=Unit) fW Z (λW s=>mN K hq [45] (s.p2_2 [1,0] Z)) Z λ_ _=>.nt<|.cd Z (λh5=>?_) (λh5=>?_)
 ·have a5:Rq.ac l [45] q=true:=h5;rw [qL a5];refine .sm Z<|.cs (X:=Fn × Bool × Rq × List Value × Hp) FY Z (λW s=>hun K (cC K.gd.last hq a5) (by have:=mO a5 hq;omega) (s.p2_2 [0,1] Z)) Z λz1 hz1=>?_
  obtain ⟨n1,m1,q1,cs1,H1⟩:=z1;obtain ⟨g1,u1,p1,i1,M1⟩:=hz1;dsimp only at g1 u1 p1 i1 M1|-;obtain ⟨a1,b1x,c1,d1,e1,f1,k1,x1,y1,z1,w1,rfl,rf1,re1⟩:=gH p1;have K1:=Tkq.up K u1.up;refine .al fD Z λb3=>.sW .head Z Z cZ (Rep.one p1) Z<|.ns<|.mv Z<|.yw (.loadW Z dA Hm Z)<|.cs (X:=Unit) nV Z (λW s=>EU K1 i1 (n:=n1) (Rep.one re1) (s.p3_3 [1,0,2] Z)) Z λ_ _=>.bl Z (tF _ _ _ _) Z λb11=>?_
  refine Sx.freezeBoxN λH4 u4 m4=>?_;have K4:=Tkq.up K1 u4.up;refine .yw (.build Z (wW _ _ _ _))<|.yw (.call rH Z (λW s=>JZ H4 (by simp [Value.oneCell',bV]) W s.agr))<|.sX jW Z Z cZ Z<|.nt<|.rt<|.tR<|?_
  refine y8 Z (.cell Z dA kP rfl) λW s=>?_;rw [Bool.or_assoc] at s;exact ⟨(vlN (.mk 9 [] 0 [n1.e]),(m1 || !n1.tm),q1,[.bool false,.bool true,.int .i64 0,.string ⟨#[]⟩,.string ⟨#[]⟩,.int .i64 0,.int .i64 0,.slice none 0 0,.slice none 0 0,.int .i64 9,.string ⟨#[]⟩,.int .i64 0,.slice (some ⟨b11,0,none⟩) 1 1],H4),⟨Gd.neg a5 g1,u1.trans u4,CA (bP8 (op:=9) (re1.up u4.up) m4),i1,(Mq.nx (eX a5)).trans M1⟩,Z,s.p3_1 [0] rfl⟩
 have a5:Rq.ac l [45] q=false:=h5;rw [qM a5];refine .sk<|.tN<|.sm Z<|.cs (X:=Fn × Bool × Rq × List Value × Hp) aC9 Z (λW s=>hpri K hq a5 hM (s.p2_2 [0,1] Z)) Z λz2 hz2=>?_
 obtain ⟨n2,m2,q2,cs2,H2⟩:=z2;obtain ⟨g2,u2,p2,i2,M2⟩:=hz2;dsimp only at g2 u2 p2 i2 M2|-;obtain ⟨a2,b2x,c2,d2,e2,f2,k2,x2,y2,z2,w2,rfl,rf2,re2⟩:=gH p2;have K2:=Tkq.up K u2.up;refine .sW jS Z Z cZ (Rep.one p2) Z<|.nt<|.rt<|?_
 refine y8 Z (.cell Z dA cR rfl) λW s=>?_;exact ⟨(n2,m2,q2,[.bool n2.fm,.bool n2.tm,a2,b2x,c2,d2,e2,f2,k2,x2,y2,z2,w2],H2),⟨Gd.pri a5 g2,u2,p2,i2,M2⟩,Z,s.p2_1 [0] rfl⟩
theorem yC:cV prg 200=true:=by kernel_rfl
theorem VF (x0:Int) (x5p:Option Addr) (x5n x5c:Nat):fK prg 27 [(0,.int .i64 x0),(5,.slice x5p x5n x5c)]=some [.int .i64 x0,.string ⟨#[]⟩,.string ⟨#[]⟩,.int .i64 0,.int .i64 0,.slice x5p x5n x5c,.slice none 0 0]:=by kernel_rfl
theorem aE7 (x0 x1 x2 x3 x4 x5:ByteArray):uO prg 71 6 [(0,.string x0),(1,.string x1),(2,.string x2),(3,.string x3),(4,.string x4),(5,.string x5)]=some (9,[.string x0,.string x1,.string x2,.string x3,.string x4,.string x5]):=by kernel_rfl
def cmW:List Str:=([[61,61],[33,61],[60],[60,61],[62],[62,61]]:List Str)
def pxW:List Str:=([[110,111,116],[],[],[],[112,114,101,118,105,111,117,115],[111,110,99,101],[97,108,119,97,121,115],[],[102,111,114,97,108,108],[101,120,105,115,116,115],[99,111,117,110,116]]:List Str)
theorem bX2 (h:i<6):kO.getD (16+i) []=cmW.getD i []:=by
 have key:∀ i∈List.range 6,kO.getD (16+i) []=cmW.getD i []:=by decide
 exact key i (bU.2 h)
theorem cH9 (h:∀ i,i<6->q.ac l (cmW.getD i [])=false) (i:Nat) (h1:16<=i) (h2:i<=21):q.ac l (kO.getD i [])=false:=by
 have h3:=h (i - 16) (by omega);rw [<-bX2 (show i - 16<6 by omega),show 16+(i - 16)=i by omega] at h3;exact h3
theorem bU1 {op:UInt8} (h1:Rep H (dEx .i64 e) c1) (m:uP H bb 0 c1):Rep H (dFm .i64 (.mk op [] [] 0 0 [e] [])) [.int .i64 op.toNat,.string ⟨#[]⟩,.string ⟨#[]⟩,.int .i64 0,.int .i64 0,.slice (some ⟨bb,0,none⟩) 1 1,.slice none 0 0] :=
 sU (op:=op) (nm:=[]) (fd:=[]) (ex:=[e]) (args:=[]) (by decide) (by decide) (Rep.mk (n:=1) (c:=1) m (eJ.single h1 (AW h1)) rfl (aW _) (by decide)) (Rep.empty (p:=none) (c:=0) (by decide))
theorem cE3 {b2:Nat} {g:Ex} {c2:List Value} (h1:Rep H (dEx .i64 e) c1) (h2:Rep H (dEx .i64 g) c2) (m:uP H bb 0 (c1++c2)) (hi:i<256) (m2:uP H b2 0 [iN i,.string ⟨#[]⟩,.int .i64 0,.slice (some ⟨bb,0,none⟩) 2 2]) :
 Rep H (dFn (mdN (.mk 3 [] [] 0 0 [opB i [e,g]] []))) [.bool true,.bool false,.int .i64 3,.string ⟨#[]⟩,.string ⟨#[]⟩,.int .i64 0,.int .i64 0,.slice (some ⟨b2,0,none⟩) 1 1,.slice none 0 0,.int .i64 0,.string ⟨#[]⟩,.int .i64 0,.slice none 0 0] :=
 wE (bU1 (op:=3) (TS (by decide) h1 h2 m hi) m2)
theorem aQ7 (M:Nat) (hsum:NdC 200 [] (.lev 7) M):NdC 190 [] (.lev 6) M:=by
 intro H w0 W bs b l tp tc mi q K hq hM s;refine fN func190 rfl ntmps190 rfl s ?_;refine .sr<|.al fD Z λb2=>.ns<|.mv Z<|.cs (X:=Fn × Bool × Rq × List Value × Hp) yC Z (λW s=>hsum K hq hM (s.p2_2 [1,0] Z)) Z λz1 hz1=>?_
 obtain ⟨n1,m1,q1,cs1,H1⟩:=z1;obtain ⟨g1,u1,p1,i1,M1⟩:=hz1;dsimp only at g1 u1 p1 i1 M1|-;obtain ⟨a1,b1x,c1,d1,e1,f1,k1,x1,y1,z1,w1,rfl,rf1,re1⟩:=gH p1;have K1:=Tkq.up K u1.up;refine .al fD Z λb3=>.sW .head Z Z cZ (Rep.one p1) Z<|.nt<|.sq<|.sr<|.bl Z (aE7 _ _ _ _ _ _) Z λb9=>?_
 refine Sx.freezeBoxN λH2 u2 m2=>?_;have K2:=Tkq.up K1 u2.up;have hw:kU H2 b9 0 (cmW.map bV):=m2.mem;refine .yw (.lenSl uG Z)<|.mv Z<|.nt<|.bk<|.lp (X:=Nat) [(0,_),(2,_),(3,_),(9,_),(10,_)] ⟨Z,Z,Z,Z,Z,Jt⟩ (_::bs) (λk=>[(11,iN k)]) (λk=>H2) (λk=>[.box b3 [.bool n1.fm,.bool n1.tm,a1,b1x,c1,d1,e1,f1,k1,x1,y1,z1,w1] 142,.box b [.slice tp l.length tc,iN q1.i,iN q1.er,iN q1.off,.bool (mi || m1)] 140]) (λk=>k<=6/\∀ i,i<k->q1.ac l (cmW.getD i [])=false) (λk=>6 - k) 0 (λ_ s=>s) ⟨Z,Jt⟩ ⟨aP _,λi hi=>absurd hi (pQ _)⟩ λk hC=>?_
 obtain ⟨hk0,hno⟩:=hC;refine .sr<|.yw (.lss Z Z)<|.nt<|.sq<|.ce Z (λh12=>?_) (λh12=>?_)
 ·have hk:k<6:=by omega
  refine .sk<|.tN<|.sq<|.bk<|.sm Z<|.yw (.indexSl uG Z Z Z (by omega) (q:=k) (by omega))<|.yw (.loadM Z cP hw (k:=k) (v:=bV (cmW.getD k [])) (by omega) (uD (f:=bV) (show k<cmW.length from hk) []))<|.a Z Z<|.a Z Z<|.ns<|.mv Z<|.mv Z<|.cs (X:=Unit) fW Z (λW s=>mN K2 i1 (cmW.getD k []) (s.p3_3 [1,0,2] Z)) Z λ_ _=>.nt<|.cd Z (λh18=>?_) (λh18=>?_)
  ·have hac:Rq.ac l (cmW.getD k []) q1=true:=h18;rw [qL hac];refine .sm Z<|.cs (X:=Fn × Bool × Rq × List Value × Hp) yC Z (λW s=>hsum K2 (cC K2.gd.last i1 hac) (by have:=mO hac i1;have:=mY (l:=l) M1;omega) (s.p3_3 [0,1,2] Z)) Z λz3 hz3=>?_
   obtain ⟨n3,m3,q3,cs3,H3⟩:=z3;obtain ⟨g3,u3,p3,i3,M3⟩:=hz3;dsimp only at g3 u3 p3 i3 M3|-;obtain ⟨a3,b3x,c3,d3,e3,f3,k3,x3,y3,z3,w3,rfl,rf3,re3⟩:=gH p3;have K3:=Tkq.up K2 u3.up;refine .al fD Z λb6=>.sW .head Z Z cZ (Rep.one p3) Z<|.nt<|.sq<|.fL 13 [(0,0),(1,0),(2,0),(3,0),(5,0),(6,0),(4,3),(7,3),(8,1),(9,0),(10,1),(11,0),(12,0)]<|.mv Z<|.yw (.add Z Z (c:=((16+k:Nat):Int)) ((w6 (by omega)).trans (by omega)))<|.mv Z<|.yw (.loadW Z dA kP Z)<|.mv Z<|.yw (.loadW Z dA Hm Z)<|.c3 (X:=Unit) nV Z (λW s=>EU K3 i3 (n:=n1) (Rep.one ((re1.up u2.up).up u3.up)) (s.p4_4 [1,0,2,3] Z)) Z (λ_ _=>(.yv (.loadW Z dA cR Z)<|.yv (.move Z)<|.d2<|.yv (.add Z Z (c:=((16+k:Nat):Int)) ((w6 (by omega)).trans (by omega)))<|.yv (.move Z)<|.nl)) λ_ _=>.c3 (X:=Unit) nV Z (λW s=>EU K3 i3 (n:=n3) (Rep.one re3) (s.p4_4 [0,1,2,3] Z)) Z (λ_ _=>(.d4<|.yv (.add Z Z (c:=((16+k:Nat):Int)) ((w6 (by omega)).trans (by omega)))<|.yv (.move Z)<|.nl)) λ_ _=>.blF Z (GG _ _ _ _ _ _ _ _) Z λb29 H4 u4 m4=>.yw (.build Z (wW _ _ _ _))<|.blF Z (tF _ _ _ _) Z λb31 H5 u5 m5=>.yw (.build Z (VF _ _ _ _))<|.yw (.call kH Z (λW s=>tA H5 (by simp [Value.oneCell',bV]) W s.agr))<|.fn (tl:=[_]) Z<|.sX nP Z Z cZ Z<|.zR<|.tR<|.bR<|.tR<|?_
   refine y8 Z (.cell Z dA qP rfl) λW s=>?_;rw [or5] at s;exact ⟨(mdN (.mk 3 [] [] 0 0 [opB (16+k) [n1.e,n3.e]] []),(m1 || (m3 || (!n1.tm || !n3.tm))),q3,[.bool true,.bool false,.int .i64 3,.string ⟨#[]⟩,.string ⟨#[]⟩,.int .i64 0,.int .i64 0,.slice (some ⟨b31,0,none⟩) 1 1,.slice none 0 0,.int .i64 0,.string ⟨#[]⟩,.int .i64 0,.slice none 0 0],H5),⟨by have:=Gd.cm1 (i:=16+k) ⟨by omega,by omega⟩ g1 (by rw [bX2 hk];exact hac) g3;rwa [Bool.or_assoc] at this,(u1.trans u2).trans ((u3.trans u4).trans u5),cE3 ((re1.up u2.up).up ((u3.trans u4).trans u5).up) (re3.up (u4.trans u5).up) (m4.up u5.up) (by omega) m5,i3,(M1.trans (.nx (eX hac))).trans M3⟩,Z,s.p4_1 [0] rfl⟩
  have hac:Rq.ac l (cmW.getD k []) q1=false:=h18;rw [qM hac];exact .sk<|.bN<|.tN<|.rg<|.yw (.add Z Z w7)<|.mv Z<|.nt<|.ag (k+1) ⟨Z,Jt⟩ ⟨Z,Z,Z,Z,Z,Jt⟩ (λ_ s=>(s.p3_3 [1,0,2] Z)) ⟨by omega,aH7 hno hac⟩ (by omega)
 obtain rfl:k=6:=by omega
 refine .ex<|.eb<|.sr<|.yw (.loadW Z dA Hm Z)<|.sW jW Z Z cZ (Rep.one p1) Z<|.nt<|.rt<|?_
 refine y8 Z (.cell Z dA kP rfl) λW s=>?_;exact ⟨(n1,m1,q1,[.bool n1.fm,.bool n1.tm,a1,b1x,c1,d1,e1,f1,k1,x1,y1,z1,w1],H2),⟨Gd.cm0 g1 (cH9 hno),u1.trans u2,p1.up u2.up,i1,M1⟩,Z,s.p3_1 [1] rfl⟩
theorem OA:cV prg 188=true:=by kernel_rfl
theorem aD1:cV prg 190=true:=by kernel_rfl
theorem cH1 (hk:k<11) (h:¬ pxW.getD k []=[]):k=0\/k=4\/k=5\/k=6\/k=8\/k=9\/k=10:=by
 have key:∀ k∈List.range 11,pxW.getD k []=[]\/(k=0\/k=4\/k=5\/k=6\/k=8\/k=9\/k=10):=by decide
 exact (key k (bU.2 hk)).resolve_left h
theorem bV8 (h:∀ i,i<11->pxW.getD i []=[]\/q.ac l (pxW.getD i [])=false):(∀ w op,(w,op)∈IV->q.ac l w=false)/\q.ac l [99,111,117,110,116]=false:=by
 have f:∀ i,i<11->pxW.getD i []≠[]->q.ac l (pxW.getD i [])=false:=λi hi hn=>(h i hi).resolve_left hn;refine ⟨λw op hm=>?_,f 10 (by decide) (by decide)⟩;simp only [IV,bP,iV,List.not_mem_nil,or_false] at hm;rcases hm with ⟨rfl,_⟩ | ⟨rfl,_⟩ | ⟨rfl,_⟩ | ⟨rfl,_⟩ | ⟨rfl,_⟩ | ⟨rfl,_⟩
 ·exact f 0 (by decide) (by decide)
 ·exact f 4 (by decide) (by decide)
 ·exact f 5 (by decide) (by decide)
 ·exact f 6 (by decide) (by decide)
 ·exact f 8 (by decide) (by decide)
 ·exact f 9 (by decide) (by decide)
theorem aH0 (h:∀ i,i<k->pxW.getD i []=[]\/q.ac l (pxW.getD i [])=false) (h2:pxW.getD k []=[]\/q.ac l (pxW.getD k [])=false):∀ i,i<k+1->pxW.getD i []=[]\/q.ac l (pxW.getD i [])=false:=λi hi=>by
 by_cases e:i=k
 ·rw [e];exact h2
 ·exact h i (by omega)
theorem HJ {nm:Str} {b:Int64} {g:Fm} (hi:i<256) (hn:nm.length<=400000) (h1:Rep H (dFm .i64 g) c1) (m:uP H bb 0 c1) :
 Rep H (dFn (mdN (.mk (UInt8.ofNat i) nm [] a b [] [g]))) [.bool true,.bool false,iN i,bV nm,.string ⟨#[]⟩,.int .i64 a.toInt,.int .i64 b.toInt,.slice none 0 0,.slice (some ⟨bb,0,none⟩) 1 1,.int .i64 0,.string ⟨#[]⟩,.int .i64 0,.slice none 0 0]:=by
 have:=sU (H:=H) (op:=UInt8.ofNat i) (nm:=nm) (fd:=[]) (a:=a) (b:=b) (ex:=[]) (args:=[g]) (aV hn (by decide)) (by decide) (Rep.empty (p:=none) (c:=0) (by decide)) (Rep.mk (n:=1) (c:=1) m (eJ.single h1 (xV h1)) rfl (aW _) (by decide));unfold cFm at this;rw [show (UInt8.ofNat i).toNat=i from cW hi] at this;exact wE this
theorem bU6 {b2:Nat} {nm:Str} {b n:Int64} {g:Fm} (hn:nm.length<=400000) (h1:Rep H (dFm .i64 g) c1) (m:uP H bb 0 c1) (m2:uP H b2 0 [.int .i64 1,.string ⟨#[]⟩,.int .i64 n.toInt,.slice none 0 0]) :
 Rep H (dFn (mdN (.mk 18 nm [] a b [.mk 1 [] n []] [g]))) [.bool true,.bool false,.int .i64 18,bV nm,.string ⟨#[]⟩,.int .i64 a.toInt,.int .i64 b.toInt,.slice (some ⟨b2,0,none⟩) 1 1,.slice (some ⟨bb,0,none⟩) 1 1,.int .i64 0,.string ⟨#[]⟩,.int .i64 0,.slice none 0 0] :=
 wE (sU (op:=18) (nm:=nm) (fd:=[]) (ex:=[.mk 1 [] n []]) (args:=[g]) (aV hn (by decide)) (by decide) (Rep.mk (n:=1) (c:=1) m2 (eJ.single (uF (op:=1) (nm:=[]) (n:=n) (args:=[]) (by decide) (Rep.empty (p:=none) (c:=0) (by decide))) rfl) rfl (aW _) (by decide)) (Rep.mk (n:=1) (c:=1) m (eJ.single h1 (xV h1)) rfl (aW _) (by decide)))
section
variable {l:Tks} {q q1:Rq} {k:Nat} {x:Fn} {m:Bool}
theorem aI8 (hk:k=5\/k=6) (hac:q.ac l (pxW.getD k [])=true) (g:Gd l (.lev 5) (q.nx.wiS l) x m q1):Gd l (.lev 5) q (mdN (.mk (UInt8.ofNat (8+k)) [] [] (q.nx.wiA l) (q.nx.wiB l) [] [x.f])) (m || !x.fm) q1:=by
 rcases hk with rfl | rfl
 ·exact Gd.pre (op:=13) (by decide) hac g
 ·exact Gd.pre (op:=14) (by decide) hac g
theorem bR7 (hk:k=8\/k=9) (hac:q.ac l (pxW.getD k [])=true) (g:Gd l (.lev 5) (q.nx.amS l) x m q1):Gd l (.lev 5) q (mdN (.mk (UInt8.ofNat (8+k)) (q.nx.nmV l) [] ((q.nx.ama l).boV l) ((q.nx.amb l).boV l) [] [x.f])) (m || !x.fm) q1:=by
 rcases hk with rfl | rfl
 ·exact Gd.pre (op:=16) (by decide) hac g
 ·exact Gd.pre (op:=17) (by decide) hac g
theorem bR8 (hk:k=0\/k=4) (hac:q.ac l (pxW.getD k [])=true) (g:Gd l (.lev 5) q.nx x m q1):Gd l (.lev 5) q (mdN (.mk (UInt8.ofNat (8+k)) [] [] 0 0 [] [x.f])) (m || !x.fm) q1:=by
 rcases hk with rfl | rfl
 ·exact Gd.pre (op:=8) (by decide) hac g
 ·exact Gd.pre (op:=12) (by decide) hac g
end
set_option maxHeartbeats 4000000 in
theorem bB3 (M:Nat) (hpre:NdC 166 [] (.lev 5) M) (hbin:NdC 63 [.int .i64 1] (.lev 1) M) (hcmp:NdC 190 [] (.lev 6) (M+1)):NdC 166 [] (.lev 5) (M+1):=by
 intro H w0 W bs b l tp tc mi q K hq hM s;refine fN func166 rfl ntmps166 rfl s ?_;refine .sr<|.al fD Z λb2=>.ns<|.bl Z (YV _ _ _ _ _ _ _ _ _ _ _) Z λb7=>?_
 refine Sx.freezeBoxN λH2 u2 m2=>?_;have K2:=Tkq.up K u2.up;have hw:kU H2 b7 0 (pxW.map bV):=m2.mem;refine .aq Z<|.sq<|.sm Z<|.yw (.lenSl uG Z)<|.mv Z<|.nt<|.bk<|.lp (X:=Nat) [(0,_),(2,_),(8,_),(9,_)] ⟨Z,Z,Z,Z,Jt⟩ (_::bs) (λk=>[(10,iN k)]) (λk=>H2) (λk=>[.box b [.slice tp l.length tc,iN q.i,iN q.er,iN q.off,.bool (mi)] 140]) (λk=>k<=11/\∀ i,i<k->pxW.getD i []=[]\/q.ac l (pxW.getD i [])=false) (λk=>11 - k) 0 (λ_ s=>(s.p2_2 [1,0] Z)) ⟨Z,Jt⟩ ⟨aP _,λi hi=>absurd hi (pQ _)⟩ λk hC=>?_
 obtain ⟨hk0,hno⟩:=hC;refine .sr<|.yw (.lss Z Z)<|.nt<|.sq<|.ce Z (λh11=>?_) (λh11=>?_)
 ·have hk:k<11:=by omega
  refine .sk<|.tN<|.sq<|.bk<|.sm Z<|.yw (.indexSl uG Z Z Z (by omega) (q:=k) (by omega))<|.yw (.loadM Z cP hw (k:=k) (v:=bV (pxW.getD k [])) (by omega) (uD (f:=bV) (show k<pxW.length from hk) []))<|.a Z Z<|.aq Z<|.sq<|.sm Z<|.yw (.eqS Z Z)<|.mv Z<|.e2 (λh17=>?_) (λh17=>?_)
  ·have he:pxW.getD k []=[]:=h17;exact .gG<|.gG<|.gG<|.gG<|.yw (.pickT Z Z)<|.nt<|.cT Z<|.ex<|.tE<|.bE<|.tN<|.rg<|.yw (.add Z Z w7)<|.mv Z<|.nt<|.ag (k+1) ⟨Z,Jt⟩ ⟨Z,Z,Z,Z,Jt⟩ (λ_ s=>s) ⟨by omega,aH0 hno (.inl he)⟩ (by omega)
  have hne:¬ pxW.getD k []=[]:=h17;have hkk:=cH1 hk hne;refine .gy (.move Z)<|.gy (.move Z)<|.gd Z Z<|.cs (X:=Unit) fW Z (λW s=>mN K2 hq (pxW.getD k []) (s.p2_2 [0,1] Z)) Z λ_ _=>.gy (.not Z)<|.yw (.pickF Z Z)<|.nt<|.cd Z (λh22=>?_) (λh22=>?_)
  ·try simp only [dt] at h22
   have hac:Rq.ac l (pxW.getD k []) q=false:=by simpa using h22
   rw [qM hac];exact .ex<|.tE<|.bE<|.tN<|.rg<|.yw (.add Z Z w7)<|.mv Z<|.nt<|.ag (k+1) ⟨Z,Jt⟩ ⟨Z,Z,Z,Z,Jt⟩ (λ_ s=>s) ⟨by omega,aH0 hno (.inr hac)⟩ (by omega)
  try simp only [df] at h22
  have hac:Rq.ac l (pxW.getD k []) q=true:=by simpa using h22
  rw [qL hac];refine .sk<|.tN<|.sm Z<|.yw (.add Z Z (c:=((8+k:Nat):Int)) ((w6 (by omega)).trans (by omega)))<|.yw (.build Z (GJ _))<|.al oQ Z λb6=>.sX .head Z Z kL Z<|.nt<|.sq<|.sr<|.fA Z hZ<|.lD Z bS Hm Z<|.yw (.eql Z Z)<|.mv Z<|.e2 (λh29=>?_) (λh29=>?_)
  ·have hkk:k=5\/k=6:=by omega
   refine .gG<|.gG<|.gG<|.yw (.pickT Z Z)<|.nt<|.cT Z<|.rg<|.mv Z<|.cs (X:=Unit) FZ Z (λW s=>aW3 K2 (cC K2.gd.last hq hac)  (s.p3_3 [1,0,2] Z)) Z λ_ _=>.mv Z<|.yw (.extract Z Z)<|.yw (.extract Z Z)<|.fA Z jR<|.st jS Z Z iG Z (nb Z) Z<|.fA Z jQ<|.st jS Z Z iG Z (nb Z) Z<|.nt<|.sq<|.sr<|.fA Z hZ<|.lD Z bS cR Z<|.yw (.geq Z Z)<|.nt<|.cd Z (λh43=>?_) (λh43=>?_)
   ·exact absurd (aJ h43) (by omega)
   try simp only [df] at h43
   refine .sk<|.tN<|.sq<|.sr<|.fA Z hZ<|.lD Z bS cR Z<|.yw (.eql Z Z)<|.nt<|.cd Z (λh59=>?_) (λh59=>?_)
   ·exact absurd (aJ h59) (by omega)
   try simp only [df] at h59
   refine .sk<|.tN<|.sm Z<|.mv Z<|.cs (X:=Fn × Bool × Rq × List Value × Hp) vH Z (λW s=>hpre K2 (EL K.gd.last (cC K2.gd.last hq hac)) (by have:=mO hac hq;have:=mY (l:=l) (Mq.wiS (l:=l) (q:=q.nx));omega) (s.p3_3 [0,1,2] Z)) Z λz1 hz1=>?_
   obtain ⟨n1,m1,q1,cs1,H1⟩:=z1;obtain ⟨g1,u1,p1,i1,M1⟩:=hz1;dsimp only at g1 u1 p1 i1 M1|-;obtain ⟨a1,b1x,c1,d1,e1,f1,k1,x1,y1,z1,w1,rfl,rf1,re1⟩:=gH p1;have K1:=Tkq.up K2 u1.up;refine .cs (X:=Unit) qE Z (λW s=>EV K1 i1 (n:=n1) (Rep.one rf1) (s.p3_3 [0,1,2] Z)) Z λ_ _=>.bl Z (yF _ _ _ _ _ _ _) Z λb83=>?_;refine Sx.freezeBoxN λH6 u6 m6=>?_;have K6:=Tkq.up K1 u6.up;refine .fA Z kQ<|.st jS Z Z zU Z (nb Z) Z<|.ns<|.yw (.loadW Z eD cR Z)<|.yw (.call kH Z (λW s=>tA H6 (by simp [Value.oneCell',bV]) W s.agr))<|.sX jW Z Z cZ Z<|.zR<|.tR<|.bR<|.tR<|?_
   refine y8 Z (.cell Z dA kP rfl) λW s=>?_;rw [Bool.or_assoc] at s;exact ⟨(mdN (.mk (UInt8.ofNat (8+k)) [] [] (Rq.wiA l q.nx) (Rq.wiB l q.nx) [] [n1.f]),(m1 || !n1.fm),q1,[.bool true,.bool false,iN (8+k),.string ⟨#[]⟩,.string ⟨#[]⟩,.int .i64 (Rq.wiA l q.nx).toInt,.int .i64 (Rq.wiB l q.nx).toInt,.slice none 0 0,.slice (some ⟨b83,0,none⟩) 1 1,.int .i64 0,.string ⟨#[]⟩,.int .i64 0,.slice none 0 0],H6),⟨aI8 hkk hac g1,u2.trans (u1.trans u6),HJ (by omega) (by decide) (rf1.up u6.up) m6,i1,((Mq.nx (eX hac)).trans .wiS).trans M1⟩,Z,s.p3_1 [0] rfl⟩
  refine .gy (.fieldAddr Z hZ)<|.gy (.load Z bS Hm Z)<|.gy (.eql Z Z)<|.yw (.pickF Z Z)<|.nt<|.ce Z (λh33=>?_) (λh33=>?_)
  ·have hkk:k=5\/k=6:=by omega
   refine .rg<|.mv Z<|.cs (X:=Unit) FZ Z (λW s=>aW3 K2 (cC K2.gd.last hq hac)  (s.p3_3 [1,0,2] Z)) Z λ_ _=>.mv Z<|.yw (.extract Z Z)<|.yw (.extract Z Z)<|.fA Z jR<|.st jS Z Z iG Z (nb Z) Z<|.fA Z jQ<|.st jS Z Z iG Z (nb Z) Z<|.nt<|.sq<|.sr<|.fA Z hZ<|.lD Z bS cR Z<|.yw (.geq Z Z)<|.nt<|.cd Z (λh43=>?_) (λh43=>?_)
   ·exact absurd (aJ h43) (by omega)
   try simp only [df] at h43
   refine .sk<|.tN<|.sq<|.sr<|.fA Z hZ<|.lD Z bS cR Z<|.yw (.eql Z Z)<|.nt<|.cd Z (λh59=>?_) (λh59=>?_)
   ·exact absurd (aJ h59) (by omega)
   try simp only [df] at h59
   refine .sk<|.tN<|.sm Z<|.mv Z<|.cs (X:=Fn × Bool × Rq × List Value × Hp) vH Z (λW s=>hpre K2 (EL K.gd.last (cC K2.gd.last hq hac)) (by have:=mO hac hq;have:=mY (l:=l) (Mq.wiS (l:=l) (q:=q.nx));omega) (s.p3_3 [0,1,2] Z)) Z λz1 hz1=>?_
   obtain ⟨n1,m1,q1,cs1,H1⟩:=z1;obtain ⟨g1,u1,p1,i1,M1⟩:=hz1;dsimp only at g1 u1 p1 i1 M1|-;obtain ⟨a1,b1x,c1,d1,e1,f1,k1,x1,y1,z1,w1,rfl,rf1,re1⟩:=gH p1;have K1:=Tkq.up K2 u1.up;refine .cs (X:=Unit) qE Z (λW s=>EV K1 i1 (n:=n1) (Rep.one rf1) (s.p3_3 [0,1,2] Z)) Z λ_ _=>.bl Z (yF _ _ _ _ _ _ _) Z λb83=>?_;refine Sx.freezeBoxN λH6 u6 m6=>?_;have K6:=Tkq.up K1 u6.up;refine .fA Z kQ<|.st jS Z Z zU Z (nb Z) Z<|.ns<|.yw (.loadW Z eD cR Z)<|.yw (.call kH Z (λW s=>tA H6 (by simp [Value.oneCell',bV]) W s.agr))<|.sX jW Z Z cZ Z<|.zR<|.tR<|.bR<|.tR<|?_
   refine y8 Z (.cell Z dA kP rfl) λW s=>?_;rw [Bool.or_assoc] at s;exact ⟨(mdN (.mk (UInt8.ofNat (8+k)) [] [] (Rq.wiA l q.nx) (Rq.wiB l q.nx) [] [n1.f]),(m1 || !n1.fm),q1,[.bool true,.bool false,iN (8+k),.string ⟨#[]⟩,.string ⟨#[]⟩,.int .i64 (Rq.wiA l q.nx).toInt,.int .i64 (Rq.wiB l q.nx).toInt,.slice none 0 0,.slice (some ⟨b83,0,none⟩) 1 1,.int .i64 0,.string ⟨#[]⟩,.int .i64 0,.slice none 0 0],H6),⟨aI8 hkk hac g1,u2.trans (u1.trans u6),HJ (by omega) (by decide) (rf1.up u6.up) m6,i1,((Mq.nx (eX hac)).trans .wiS).trans M1⟩,Z,s.p3_1 [0] rfl⟩
  refine .sk<|.tN<|.sq<|.sr<|.fA Z hZ<|.lD Z bS Hm Z<|.yw (.geq Z Z)<|.nt<|.cd Z (λh43=>?_) (λh43=>?_)
  ·try simp only [dt] at h43
   refine .sm Z<|.cs (X:=Unit) vG Z (λW s=>IZ K2 (cC K2.gd.last hq hac)  (s.p3_3 [1,0,2] Z)) Z λ_ _=>.fA Z wV<|.st jS Z Z YN Z (nb Z) Z<|.ns<|.mv Z<|.cs (X:=Unit) kG Z (λW s=>sZ K2 (iB K.gd.last (cC K2.gd.last hq hac)) [105,110] (s.p3_3 [0,1,2] Z)) Z λ_ _=>.ns<|.mv Z<|.cs (X:=Unit) OA Z (λW s=>bV6 K2 (fM K.gd.last (iB K.gd.last (cC K2.gd.last hq hac)))  (s.p3_3 [0,1,2] Z)) Z λ_ _=>.fA Z jR<|.st jS Z Z iG Z (nb Z) Z<|.ns<|.mv Z<|.cs (X:=Unit) kG Z (λW s=>sZ K2 (BP K.gd.last (fM K.gd.last (iB K.gd.last (cC K2.gd.last hq hac)))) [46,46] (s.p3_3 [0,1,2] Z)) Z λ_ _=>.nt<|.rg<|.mv Z<|.cs (X:=Unit) OA Z (λW s=>bV6 K2 (fM K.gd.last (BP K.gd.last (fM K.gd.last (iB K.gd.last (cC K2.gd.last hq hac)))))  (s.p3_3 [0,1,2] Z)) Z λ_ _=>.fA Z jQ<|.st jS Z Z iG Z (nb Z) Z<|.nt<|.sq<|.sr<|.fA Z hZ<|.lD Z bS cR Z<|.yw (.eql Z Z)<|.nt<|.cd Z (λh59=>?_) (λh59=>?_)
   ·try simp only [dt] at h59
    obtain rfl:k=10:=by omega
    refine .sm Z<|.cs (X:=Unit) kG Z (λW s=>sZ K2 (BP K.gd.last (fM K.gd.last (BP K.gd.last (fM K.gd.last (iB K.gd.last (cC K2.gd.last hq hac)))))) [40] (s.p3_3 [0,1,2] Z)) Z λ_ _=>.ns<|.mv Z<|.mv Z<|.cs (X:=Fn × Bool × Rq × List Value × Hp) zW Z (λW s=>hbin K2 (fM K.gd.last (BP K.gd.last (fM K.gd.last (BP K.gd.last (fM K.gd.last (iB K.gd.last (cC K2.gd.last hq hac))))))) (by have:=mO hac hq;have:=mY (l:=l) ((Mq.amS (l:=l) (q:=q.nx)).trans (Mq.exS (l:=l) (w:=[40])));have e2:mes l ((Rq.amS l q.nx).exS l [40])=mes l (Rq.exS l [40] (Rq.boS l (Rq.exS l [46,46] (Rq.boS l (Rq.exS l [105,110] (Rq.nmS l q.nx)))))):=rfl;omega) (s.p3_3 [0,1,2] Z)) Z λz3 hz3=>?_
    obtain ⟨n3,m3,q3,cs3,H3⟩:=z3;obtain ⟨g3,u3,p3,i3,M3⟩:=hz3;dsimp only at g3 u3 p3 i3 M3|-;obtain ⟨a3,b3x,c3,d3,e3,f3,k3,x3,y3,z3,w3,rfl,rf3,re3⟩:=gH p3;have K3:=Tkq.up K2 u3.up;refine .cs (X:=Unit) qE Z (λW s=>EV K3 i3 (n:=n3) (Rep.one rf3) (s.p3_3 [0,1,2] Z)) Z λ_ _=>.bl Z (yF _ _ _ _ _ _ _) Z λb66=>?_;refine Sx.freezeBoxN λH4 u4 m4=>?_;have K4:=Tkq.up K3 u4.up;refine .fA Z kQ<|.st jS Z Z zU Z (nb Z) Z<|.ns<|.mv Z<|.cs (X:=Unit) kG Z (λW s=>sZ K4 i3 [41] (s.p3_3 [0,1,2] Z)) Z λ_ _=>.ns<|.mv Z<|.cs (X:=Unit) kG Z (λW s=>sZ K4 (fM K.gd.last i3) [62,61] (s.p3_3 [0,1,2] Z)) Z λ_ _=>.ns<|.mv Z<|.cs (X:=Unit) vF Z (λW s=>QL K4 (fM K.gd.last (fM K.gd.last i3))  (s.p3_3 [0,1,2] Z)) Z λ_ _=>.yw (.build Z (II _ _))<|.bl Z (tF _ _ _ _) Z λb75=>?_
    refine Sx.freezeBoxN λH5 u5 m5=>?_;have K5:=Tkq.up K4 u5.up;refine .fA Z eZ<|.st jS Z Z JN Z (nb Z) Z<|.ns<|.yw (.loadW Z eD cR Z)<|.yw (.call kH Z (λW s=>tA H5 (by simp [Value.oneCell',bV]) W s.agr))<|.sX jW Z Z cZ Z<|.nt<|.rt<|.tR<|.bR<|.tR<|.tR<|.bR<|.tR<|?_
    refine y8 Z (.cell Z dA kP rfl) λW s=>?_;rw [Bool.or_assoc] at s;exact ⟨(mdN (.mk 18 (Rq.nmV l q.nx) [] ((Rq.ama l q.nx).boV l) ((Rq.amb l q.nx).boV l) [.mk 1 [] (Rq.nbV l (Rq.exS l [62,61] (Rq.exS l [41] q3))) []] [n3.f]),(m3 || !n3.fm),Rq.nbS l (Rq.exS l [62,61] (Rq.exS l [41] q3)),[.bool true,.bool false,iN (8+10),bV (Rq.nmV l q.nx),.string ⟨#[]⟩,.int .i64 ((Rq.ama l q.nx).boV l).toInt,.int .i64 ((Rq.amb l q.nx).boV l).toInt,.slice (some ⟨b75,0,none⟩) 1 1,.slice (some ⟨b66,0,none⟩) 1 1,.int .i64 0,.string ⟨#[]⟩,.int .i64 0,.slice none 0 0],H5),⟨Gd.cnt hac g3,u2.trans (u3.trans (u4.trans u5)),bU6 (iD K2 (cC K.gd.last hq hac)) (rf3.up (u4.trans u5).up) (m4.up u5.up) m5,tK K.gd.last (fM K.gd.last (fM K.gd.last i3)),((((Mq.nx (eX hac)).trans .amS).trans .exS).trans M3).trans ((Mq.exS.trans .exS).trans .nbS)⟩,Z,s.p3_1 [0] rfl⟩
   try simp only [df] at h59
   have hkk:k=8\/k=9:=by omega
   refine .sk<|.tN<|.sm Z<|.mv Z<|.cs (X:=Fn × Bool × Rq × List Value × Hp) vH Z (λW s=>hpre K2 (BP K.gd.last (fM K.gd.last (BP K.gd.last (fM K.gd.last (iB K.gd.last (cC K2.gd.last hq hac)))))) (by have:=mO hac hq;have:=mY (l:=l) (Mq.amS (l:=l) (q:=q.nx));have e2:mes l (Rq.amS l q.nx)=mes l (Rq.boS l (Rq.exS l [46,46] (Rq.boS l (Rq.exS l [105,110] (Rq.nmS l q.nx))))):=rfl;omega) (s.p3_3 [0,1,2] Z)) Z λz1 hz1=>?_
   obtain ⟨n1,m1,q1,cs1,H1⟩:=z1;obtain ⟨g1,u1,p1,i1,M1⟩:=hz1;dsimp only at g1 u1 p1 i1 M1|-;obtain ⟨a1,b1x,c1,d1,e1,f1,k1,x1,y1,z1,w1,rfl,rf1,re1⟩:=gH p1;have K1:=Tkq.up K2 u1.up;refine .cs (X:=Unit) qE Z (λW s=>EV K1 i1 (n:=n1) (Rep.one rf1) (s.p3_3 [0,1,2] Z)) Z λ_ _=>.bl Z (yF _ _ _ _ _ _ _) Z λb83=>?_;refine Sx.freezeBoxN λH6 u6 m6=>?_;have K6:=Tkq.up K1 u6.up;refine .fA Z kQ<|.st jS Z Z zU Z (nb Z) Z<|.ns<|.yw (.loadW Z eD cR Z)<|.yw (.call kH Z (λW s=>tA H6 (by simp [Value.oneCell',bV]) W s.agr))<|.sX jW Z Z cZ Z<|.zR<|.tR<|.bR<|.tR<|?_
   refine y8 Z (.cell Z dA kP rfl) λW s=>?_;rw [Bool.or_assoc] at s;exact ⟨(mdN (.mk (UInt8.ofNat (8+k)) (Rq.nmV l q.nx) [] ((Rq.ama l q.nx).boV l) ((Rq.amb l q.nx).boV l) [] [n1.f]),(m1 || !n1.fm),q1,[.bool true,.bool false,iN (8+k),bV (Rq.nmV l q.nx),.string ⟨#[]⟩,.int .i64 ((Rq.ama l q.nx).boV l).toInt,.int .i64 ((Rq.amb l q.nx).boV l).toInt,.slice none 0 0,.slice (some ⟨b83,0,none⟩) 1 1,.int .i64 0,.string ⟨#[]⟩,.int .i64 0,.slice none 0 0],H6),⟨bR7 hkk hac g1,u2.trans (u1.trans u6),HJ (by omega) (iD K2 (cC K.gd.last hq hac)) (rf1.up u6.up) m6,i1,((Mq.nx (eX hac)).trans .amS).trans M1⟩,Z,s.p3_1 [0] rfl⟩
  try simp only [df] at h43
  refine .sk<|.tN<|.sq<|.sr<|.fA Z hZ<|.lD Z bS Hm Z<|.yw (.eql Z Z)<|.nt<|.cd Z (λh59=>?_) (λh59=>?_)
  ·exact absurd (aJ h59) (by omega)
  try simp only [df] at h59
  have hkk:k=0\/k=4:=by omega
  refine .sk<|.tN<|.sm Z<|.mv Z<|.cs (X:=Fn × Bool × Rq × List Value × Hp) vH Z (λW s=>hpre K2 (cC K2.gd.last hq hac) (by have:=mO hac hq;omega) (s.p3_3 [1,0,2] Z)) Z λz1 hz1=>?_
  obtain ⟨n1,m1,q1,cs1,H1⟩:=z1;obtain ⟨g1,u1,p1,i1,M1⟩:=hz1;dsimp only at g1 u1 p1 i1 M1|-;obtain ⟨a1,b1x,c1,d1,e1,f1,k1,x1,y1,z1,w1,rfl,rf1,re1⟩:=gH p1;have K1:=Tkq.up K2 u1.up;refine .cs (X:=Unit) qE Z (λW s=>EV K1 i1 (n:=n1) (Rep.one rf1) (s.p3_3 [0,1,2] Z)) Z λ_ _=>.bl Z (yF _ _ _ _ _ _ _) Z λb83=>?_;refine Sx.freezeBoxN λH6 u6 m6=>?_;have K6:=Tkq.up K1 u6.up;refine .fA Z kQ<|.st jS Z Z zU Z (nb Z) Z<|.ns<|.yw (.loadW Z eD cR Z)<|.yw (.call kH Z (λW s=>tA H6 (by simp [Value.oneCell',bV]) W s.agr))<|.sX jW Z Z cZ Z<|.zR<|.tR<|.bR<|.tR<|?_
  refine y8 Z (.cell Z dA kP rfl) λW s=>?_;rw [Bool.or_assoc] at s;exact ⟨(mdN (.mk (UInt8.ofNat (8+k)) [] [] 0 0 [] [n1.f]),(m1 || !n1.fm),q1,[.bool true,.bool false,iN (8+k),.string ⟨#[]⟩,.string ⟨#[]⟩,.int .i64 0,.int .i64 0,.slice none 0 0,.slice (some ⟨b83,0,none⟩) 1 1,.int .i64 0,.string ⟨#[]⟩,.int .i64 0,.slice none 0 0],H6),⟨bR8 hkk hac g1,u2.trans (u1.trans u6),HJ (by omega) (by decide) (rf1.up u6.up) m6,i1,(Mq.nx (eX hac)).trans M1⟩,Z,s.p3_1 [0] rfl⟩
 obtain rfl:k=11:=by omega
 refine .ex<|.eb<|.sm Z<|.cs (X:=Fn × Bool × Rq × List Value × Hp) aD1 Z (λW s=>hcmp K2 hq hM (s.p2_2 [0,1] Z)) Z λz8a hz8a=>?_
 obtain ⟨n8a,m8a,q8a,cs8a,H8a⟩:=z8a;obtain ⟨g8a,u8a,p8a,i8a,M8a⟩:=hz8a;dsimp only at g8a u8a p8a i8a M8a|-;obtain ⟨a8a,b8ax,c8a,d8a,e8a,f8a,k8a,x8a,y8a,z8a,w8a,rfl,rf8a,re8a⟩:=gH p8a;have K8a:=Tkq.up K2 u8a.up;refine .sW jS Z Z cZ (Rep.one p8a) Z<|.nt<|.rt<|?_
 refine y8 Z (.cell Z dA cR rfl) λW s=>?_;exact ⟨(n8a,m8a,q8a,[.bool n8a.fm,.bool n8a.tm,a8a,b8ax,c8a,d8a,e8a,f8a,k8a,x8a,y8a,z8a,w8a],H8a),⟨Gd.cmp0 (bV8 hno).1 (bV8 hno).2 g8a,u2.trans u8a,p8a,i8a,M8a⟩,Z,s.p2_1 [0] rfl⟩
theorem IJ (x0 x1:Bool) (x20 x21 x22 x23 x24 x25 x26 x30 x31 x32 x33:Value):fK prg 142 [(0,.bool x0),(1,.bool x1),(2,.agg [x20,x21,x22,x23,x24,x25,x26].toArray),(3,.agg [x30,x31,x32,x33].toArray)]=some [.bool x0,.bool x1,x20,x21,x22,x23,x24,x25,x26,x30,x31,x32,x33]:=by kernel_rfl
theorem DC (x0:Int) (x1 x2:ByteArray):fK prg 27 [(0,.int .i64 x0),(1,.string x1),(2,.string x2)]=some [.int .i64 x0,.string x1,.string x2,.int .i64 0,.int .i64 0,.slice none 0 0,.slice none 0 0]:=by kernel_rfl
theorem MQ {op:UInt8} {nm:Str} (hn:nm.length<=1000000):Rep H (dEx .i64 (.mk op nm 0 [])) [.int .i64 op.toNat,bV nm,.int .i64 0,.slice none 0 0] :=
 uF (op:=op) (nm:=nm) (n:=0) (args:=[]) hn (Rep.empty (p:=none) (c:=0) (by decide))
theorem bR6 {op:UInt8} {nm:Str} (hn:nm.length<=1000000) (h1:Rep H (dEx .i64 e) c1) (m:uP H bb 0 c1):Rep H (dEx .i64 (.mk op nm 0 [e])) [.int .i64 op.toNat,bV nm,.int .i64 0,.slice (some ⟨bb,0,none⟩) 1 1] :=
 uF (op:=op) (nm:=nm) (n:=0) (args:=[e]) hn (Rep.mk (n:=1) (c:=1) m (eJ.single h1 (AW h1)) rfl (aW _) (by decide))
theorem LY {op:UInt8} {nm fd:Str} (hn:nm.length<=1000000) (hf:fd.length<=1000000):Rep H (dFm .i64 (.mk op nm fd 0 0 [] [])) [.int .i64 op.toNat,bV nm,bV fd,.int .i64 0,.int .i64 0,.slice none 0 0,.slice none 0 0] :=
 sU (op:=op) (nm:=nm) (fd:=fd) (a:=0) (b:=0) (ex:=[]) (args:=[]) hn hf (Rep.empty (p:=none) (c:=0) (by decide)) (Rep.empty (p:=none) (c:=0) (by decide))
theorem bX9 (M:Nat) (hsum:NdC 200 [] (.lev 7) M) (K:Tkq H l tp tc) (hq:q.i<l.length) (hM:mes l q<M+1) (h0:q.er=0) (hk:(tkf l q.i).k=1) (s:St H w0 (.box b [.slice tp l.length tc,iN q.i,iN q.er,iN q.off,.bool (mi)] 140::bs) W) :
 Calls prg 216 #[.pointer (some ⟨b,0,none⟩)] W λe W'=>∃ z:Fn × Bool × Rq × List Value × Hp,(Gd l (.lev 10) q z.1 z.2.1 z.2.2.1/\HUp w0 H z.2.2.2.2/\Rep z.2.2.2.2 (dFn z.1) z.2.2.2.1/\z.2.2.1.i<l.length/\Mq q z.2.2.1)/\e=.returned (.agg z.2.2.2.1.toArray)/\St z.2.2.2.2 w0 (.box b [.slice tp l.length tc,iN z.2.2.1.i,iN z.2.2.1.er,iN z.2.2.1.off,.bool (mi || z.2.1)] 140::bs) W':=by
 have hok:q.nmK l=true:=by unfold Rq.nmK;rw [aF h0,aF hk];rfl
 have eN1:q.nmS l=q.nx:=by unfold Rq.nmS;rw [aM hok]
 have hi1:=LS K.gd.last hq hok
 have hM1:mes l q.nx<M:=by
  have:mes l q.nx<mes l q:=by unfold mes;rw [aM h0,aM (show q.nx.er=0 from h0)];show l.length - (q.i+1)<_;omega
  omega
 refine fN func216 rfl ntmps216 rfl s ?_;refine .sr<|.al fD Z λb2=>.ns<|.mv Z<|.cs (X:=Unit) vG Z (λW s=>IZ K hq  (s.p2_2 [1,0] Z)) Z λ_ _=>?_
 rw [eN1];refine .aq Z<|.sq<|.sm Z<|.cs (X:=Unit) fW Z (λW s=>mN K hi1 [46] (s.p2_2 [0,1] Z)) Z λ_ _=>.yw (.not Z)<|.nt<|.cd Z (λh10=>?_) (λh10=>?_)
 ·try simp only [dt] at h10
  have a9:Rq.ac l [46] q.nx=false:=by simpa using h10
  rw [qM a9];refine .sm Z<|.yw (.build Z (BL _ _))<|.yw (.call rH Z (λW s=>JZ H (by simp [Value.oneCell',bV]) W s.agr))<|.sX jS Z Z cZ Z<|.nt<|.rt<|.tR<|?_
  refine y8 Z (.cell Z dA cR rfl) λW s=>?_;rw [<-Bool.or_false mi] at s;exact ⟨(vlN (.mk 5 (q.nmV l) 0 []),false,q.nx,[.bool false,.bool true,.int .i64 0,.string ⟨#[]⟩,.string ⟨#[]⟩,.int .i64 0,.int .i64 0,.slice none 0 0,.slice none 0 0,.int .i64 5,bV (Rq.nmV l q),.int .i64 0,.slice none 0 0],H),⟨Gd.nam0 h0 hk a9,.refl,CA (MQ (op:=5) (aV (iD K hq) (by decide))),hi1,.nx h0⟩,Z,s.p2_1 [0] rfl⟩
 try simp only [df] at h10
 have a9:Rq.ac l [46] q.nx=true:=by simpa using h10
 rw [qL a9];refine .sk<|.tN<|.sm Z<|.cs (X:=Unit) vG Z (λW s=>IZ K (cC K.gd.last hi1 a9)  (s.p2_2 [0,1] Z)) Z λ_ _=>.aq Z<|.sq<|.sm Z<|.cs (X:=Unit) fW Z (λW s=>mN K (iB K.gd.last (cC K.gd.last hi1 a9)) [91] (s.p2_2 [0,1] Z)) Z λ_ _=>.nt<|.cd Z (λh17=>?_) (λh17=>?_)
 ·have a17:Rq.ac l [91] (Rq.nmS l q.nx.nx)=true:=h17;rw [qL a17];refine .sm Z<|.cs (X:=Fn × Bool × Rq × List Value × Hp) yC Z (λW s=>hsum K (cC K.gd.last (iB K.gd.last (cC K.gd.last hi1 a9)) a17) (by have:=mO a17 (iB K.gd.last (cC K.gd.last hi1 a9));have:=mY (l:=l) (((Mq.nx h0).trans (.nx (eX a9))).trans (Mq.nmS (l:=l)));omega) (s.p2_2 [0,1] Z)) Z λz1 hz1=>?_
  obtain ⟨n1,m1,q1,cs1,H1⟩:=z1;obtain ⟨g1,u1,p1,i1,M1⟩:=hz1;dsimp only at g1 u1 p1 i1 M1|-;obtain ⟨a1,b1x,c1,d1,e1,f1,k1,x1,y1,z1,w1,rfl,rf1,re1⟩:=gH p1;have K1:=Tkq.up K u1.up;refine .al fD Z λb5=>.sW .head Z Z cZ (Rep.one p1) Z<|.ns<|.mv Z<|.cs (X:=Unit) kG Z (λW s=>sZ K1 i1 [93] (s.p3_3 [1,0,2] Z)) Z λ_ _=>.ns<|.mv Z<|.yw (.app Z Z (by have h1:=iD K hq;have h2:=iD K (cC K.gd.last hi1 a9);simp only [aE,aK,aQ];omega))<|.mv Z<|.yw (.app Z Z (by have h1:=iD K hq;have h2:=iD K (cC K.gd.last hi1 a9);simp only [aE,aK,aQ];omega))<|.mv Z<|.yw (.loadW Z dA cR Z)<|.cs (X:=Unit) nV Z (λW s=>EU K1 (fM K.gd.last i1) (n:=n1) (Rep.one re1) (s.p3_3 [0,1,2] Z)) Z λ_ _=>.bl Z (tF _ _ _ _) Z λb29=>?_
  refine Sx.freezeBoxN λH4 u4 m4=>?_;have K4:=Tkq.up K1 u4.up;refine .yw (.build Z (OT _ _ _ _ _))<|.yw (.call rH Z (λW s=>JZ H4 (by simp [Value.oneCell',bV]) W s.agr))<|.sX jW Z Z cZ Z<|.nt<|.rt<|.tR<|?_
  refine y8 Z (.cell Z dA kP rfl) λW s=>?_;rw [Bool.or_assoc] at s;exact ⟨(vlN (.mk 6 (q.ful l) 0 [n1.e]),(m1 || !n1.tm),Rq.exS l [93] q1,[.bool false,.bool true,.int .i64 0,.string ⟨#[]⟩,.string ⟨#[]⟩,.int .i64 0,.int .i64 0,.slice none 0 0,.slice none 0 0,.int .i64 6,bV (Rq.nmV l q++[46]++Rq.nmV l q.nx.nx),.int .i64 0,.slice (some ⟨b29,0,none⟩) 1 1],H4),⟨Gd.get h0 hk a9 a17 g1,u1.trans u4,by have hr:=CA (bR6 (op:=6) (nm:=q.ful l) (by have h1:=iD K hq;have h2:=iD K (cC K.gd.last hi1 a9);show (Rq.ful l q).length<=1000000;unfold Rq.ful;rw [eN1];simp only [aE,aK,aQ];omega) (re1.up u4.up) m4);unfold Rq.ful at hr|-;rw [eN1] at hr|-;exact hr,fM K.gd.last i1,((((Mq.nx h0).trans (.nx (eX a9))).trans .nmS).trans (.nx (eX a17))).trans (M1.trans .exS)⟩,Z,s.p3_1 [0] rfl⟩
 have a17:Rq.ac l [91] (Rq.nmS l q.nx.nx)=false:=h17;rw [qM a17];refine .sk<|.tN<|.sm Z<|.mv Z<|.yw (.build Z (DC _ _ _))<|.mv Z<|.yw (.app Z Z (by have h1:=iD K hq;have h2:=iD K (cC K.gd.last hi1 a9);simp only [aE,aK,aQ];omega))<|.mv Z<|.yw (.app Z Z (by have h1:=iD K hq;have h2:=iD K (cC K.gd.last hi1 a9);simp only [aE,aK,aQ];omega))<|.yw (.build Z (BL _ _))<|.yw (.build Z (IJ _ _ _ _ _ _ _ _ _ _ _ _ _))<|.sX jS Z Z cZ Z<|.nt<|.rt<|?_
 refine y8 Z (.cell Z dA cR rfl) λW s=>?_;rw [<-Bool.or_false mi] at s;exact ⟨(⟨true,true,.mk 4 (q.nmV l) (q.nx.nx.nmV l) 0 0 [] [],.mk 5 (q.ful l) 0 []⟩,false,(Rq.nmS l q.nx.nx),[.bool true,.bool true,.int .i64 4,bV (Rq.nmV l q),bV (Rq.nmV l q.nx.nx),.int .i64 0,.int .i64 0,.slice none 0 0,.slice none 0 0,.int .i64 5,bV (Rq.nmV l q++[46]++Rq.nmV l q.nx.nx),.int .i64 0,.slice none 0 0],H),⟨Gd.nam1 h0 hk a9 a17,.refl,by have hr:=MQ (H:=H) (op:=5) (nm:=q.ful l) (by have h1:=iD K hq;have h2:=iD K (cC K.gd.last hi1 a9);show (Rq.ful l q).length<=1000000;unfold Rq.ful;rw [eN1];simp only [aE,aK,aQ];omega);unfold Rq.ful at hr|-;rw [eN1] at hr|-;exact HV (n:=⟨true,true,.mk 4 (q.nmV l) (q.nx.nx.nmV l) 0 0 [] [],.mk 5 (Rq.nmV l q++[46]++Rq.nmV l q.nx.nx) 0 []⟩) (LY (op:=4) (aV (iD K hq) (by decide)) (aV (iD K (cC K.gd.last hi1 a9)) (by decide))) hr,iB K.gd.last (cC K.gd.last hi1 a9),((Mq.nx h0).trans (.nx (eX a9))).trans .nmS⟩,Z,s.p2_1 [0] rfl⟩
theorem FX:cV prg 214=true:=by kernel_rfl
theorem aR5 (M:Nat) (hsum:NdC 200 [] (.lev 7) M) (K:Tkq H l tp tc) (hq:q.i<l.length) (hM:mes l q<M) {q0:Rq} (hA0:(Rq.exS l [40] (q.paS l)).ac l [41]=true->Gd l (.lev 10) q0 (mdN (q.paV l 7)) false (Rq.exS l [40] (q.paS l)).nx)
 (hA:(Rq.exS l [40] (q.paS l)).ac l [41]=false->∀ n m r,Gd l (.arg (q.paV l 7)) (Rq.exS l [40] (q.paS l)) n m r->Gd l (.lev 10) q0 n m r) (s:St H w0 (.box b [.slice tp l.length tc,iN q.i,iN q.er,iN q.off,.bool (mi)] 140::bs) W) :
 Calls prg 215 #[.pointer (some ⟨b,0,none⟩)] W λe W'=>∃ z:Fn × Bool × Rq × List Value × Hp,(Gd l (.lev 10) q0 z.1 z.2.1 z.2.2.1/\HUp w0 H z.2.2.2.2/\Rep z.2.2.2.2 (dFn z.1) z.2.2.2.1/\z.2.2.1.i<l.length/\Mq q z.2.2.1)/\e=.returned (.agg z.2.2.2.1.toArray)/\St z.2.2.2.2 w0 (.box b [.slice tp l.length tc,iN z.2.2.1.i,iN z.2.2.1.er,iN z.2.2.1.off,.bool (mi || z.2.1)] 140::bs) W':=by
 have hq2:=fM K.gd.last (w:=[46]) (iB K.gd.last hq);have hq1:=fM K.gd.last (w:=[40]) (tU K.gd.last hq);refine fN func215 rfl ntmps215 rfl s ?_;refine .sr<|.al fD Z λb2=>.ns<|.mv Z<|.cs (X:=Unit) FX Z (λW s=>ZZ K hq  (s.p2_2 [1,0] Z)) Z λ_ _=>.mv Z<|.yw (.extract Z Z)<|.yw (.extract Z Z)<|.a Z Z<|.a Z Z<|.ns<|.mv Z<|.mv Z<|.yw (.build Z (DC _ _ _))<|.al oQ Z λb5=>.sX .head Z Z kL Z<|.ns<|.mv Z<|.cs (X:=Unit) kG Z (λW s=>sZ K (tU K.gd.last hq) [40] (s.p3_3 [1,0,2] Z)) Z λ_ _=>.nt<|.sq<|.sm Z<|.cs (X:=Unit) fW Z (λW s=>mN K (fM K.gd.last (tU K.gd.last hq)) [41] (s.p3_3 [0,1,2] Z)) Z λ_ _=>.nt<|.cd Z (λh17=>?_) (λh17=>?_)
 ·have a17:Rq.ac l [41] (Rq.exS l [40] (Rq.paS l q))=true:=h17;rw [qL a17];refine .sr<|.yw (.loadW Z eD cR Z)<|.yw (.call kH Z (λW s=>tA H (by simp [Value.oneCell',bV]) W s.agr))<|.sX jW Z Z cZ Z<|.nt<|.rt<|.tR<|?_
  refine y8 Z (.cell Z dA kP rfl) λW s=>?_;rw [<-Bool.or_false mi] at s;exact ⟨(mdN (q.paV l 7),false,Rq.nx (Rq.exS l [40] (Rq.paS l q)),[.bool true,.bool false,.int .i64 7,bV (Rq.paN l q),bV (Rq.paF l q),.int .i64 0,.int .i64 0,.slice none 0 0,.slice none 0 0,.int .i64 0,.string ⟨#[]⟩,.int .i64 0,.slice none 0 0],H),⟨hA0 a17,.refl,wE (LY (op:=7) (aV (iD K hq) (by decide)) (aV (iD K hq2) (by decide))),cC K.gd.last hq1 a17,(Mq.paS.trans .exS).trans (.nx (eX a17))⟩,Z,s.p3_1 [0] rfl⟩
 have a17:Rq.ac l [41] (Rq.exS l [40] (Rq.paS l q))=false:=h17;rw [qM a17];refine Sx.row0 83 4 ?_;refine .sk<|.tN<|.bk<|.lp (X:=Hp × Value × Rq × Bool × List Ex × List Value) [(0,_),(2,_),(5,_)] ⟨Z,Z,Z,Jt⟩ (_::bs) (λz=>[]) (λz=>z.1) (λz=>[.row 83 4 z.2.1 z.2.2.2.2.1.length z.2.2.2.2.2,.box b5 [.int .i64 7,bV (Rq.paN l q),bV (Rq.paF l q),.int .i64 0,.int .i64 0,z.2.1,.slice none 0 0] 27,.box b [.slice tp l.length tc,iN z.2.2.1.i,iN z.2.2.1.er,iN z.2.2.1.off,.bool (mi || z.2.2.2.1)] 140]) (λz=>(∀ n m r2,Gd l (.arg (.mk 7 (Rq.paN l q) (Rq.paF l q) 0 0 (z.2.2.2.2.1) [])) z.2.2.1 n m r2->Gd l (.lev 10) q0 n (z.2.2.2.1 || m) r2)/\HUp w0 H z.1/\eJ z.1 4 (z.2.2.2.2.1.map (dEx .i64)) z.2.2.2.2.2/\z.2.2.1.i<l.length/\Mq q z.2.2.1/\z.2.2.2.2.1.length<=z.2.2.1.i) (λz=>mes l z.2.2.1) (H,.slice none 0 0,Rq.exS l [40] (Rq.paS l q),false,[],[]) (λ_ s=>by rw [<-Bool.or_false mi] at s;exact (s.p4_4 [0,2,1,3] Z)) trivial ⟨λn m r2 g=>by rw [aL];exact hA a17 _ _ _ g,.refl,eJ.nil,hq1,Mq.paS.trans .exS,aP _⟩ λz hC=>?_
 obtain ⟨H1,rv,q1,m1,ex,xs⟩:=z;obtain ⟨hI,u1,hz,i1,M1,hel⟩:=hC;dsimp only at hI u1 hz i1 M1 hel|-;refine At.ra Hm λpr cr er=>?_;subst er;have K1:=Tkq.up K u1.up;have hel2:=K.few;refine .bk<|.sq<|.sm Z<|.cs (X:=Unit) fW Z (λW s=>mN K1 i1 [95] (s.p4_4 [2,0,1,3] Z)) Z λ_ _=>.nt<|.cd Z (λh21=>?_) (λh21=>?_)
 ·have hus:Rq.ac l [95] q1=true:=h21;rw [qL hus];refine .rg<|.fA Z eZ<|.lD Z gR kP Z<|.yw (.build Z bL1)<|.bl Z (tF _ _ _ _) Z λb25=>.ap (news:=[.int .i64 0,.string ⟨#[]⟩,.int .i64 0,.slice none 0 0]) YQ Z (λ_=>jW) Z (.box Hm z0) Z (by simp [Value.oneCell',bV]) (by simp [maxLen];omega) (by omega) Z λr26 _=>?_
  rw [show ex.length+1=(ex++[zE]).length by simp];refine At.ra kP λp26x c26x e26x=>?_;subst e26x;refine .fA Z eZ<|.st nP Z Z JN Z (nb Z) Z<|.ns<|.mv Z<|.cs (X:=Unit) fW Z (λW s=>mN K1 (cC K1.gd.last i1 hus) [44] (s.p5_5 [1,0,2,3,4] Z)) Z λ_ _=>.yw (.not Z)<|.nt<|.cd Z (λh39=>?_) (λh39=>?_)
  ·try simp only [dt] at h39
   have hco:Rq.ac l [44] q1.nx=false:=by simpa using h39
   rw [qM hco];refine .sm Z<|.cs (X:=Unit) kG Z (λW s=>sZ K1 (cC K1.gd.last i1 hus) [41] (s.p5_5 [0,1,2,3,4] Z)) Z λ_ _=>.ns<|.yw (.loadW Z eD qP Z)<|.yw (.call kH Z (λW s=>tA H1 (by simp [Value.oneCell',bV]) W s.agr))<|.sX SN Z Z cZ Z<|.zR<|.bR<|?_
   refine Sx.reSt (λW s=>s.p5_3 [2,4,0] rfl) ?_;refine nB (ds:=(ex++[zE]).map (dEx .i64)) (bJ ..) (by rw [bT];exact hz.snoc (LO H1) rfl) λH6 p6 c6 u6 hr6 hs6=>?_;refine y8 Z (.cell Z dA Hm rfl) λW s=>?_;exact ⟨(mdN (.mk 7 (Rq.paN l q) (Rq.paF l q) 0 0 ((ex++[zE])) []),m1,Rq.exS l [41] q1.nx,[.bool true,.bool false,.int .i64 7,bV (Rq.paN l q),bV (Rq.paF l q),.int .i64 0,.int .i64 0,.slice p26x (ex++[zE]).length c26x,.slice none 0 0,.int .i64 0,.string ⟨#[]⟩,.int .i64 0,.slice none 0 0],H6),⟨by have hx:=hI _ _ _ (Gd.arU hus (Gd.afE hco));simp only [Bool.or_false] at hx;exact hx,u1.trans u6,wE (sU (op:=7) (aV (iD K hq) (by decide)) (aV (iD K hq2) (by decide)) hs6 (Rep.empty (p:=none) (c:=0) (by decide))),fM K.gd.last (cC K.gd.last i1 hus),(M1.trans (.nx (eX hus))).trans .exS⟩,Z,s.p2_1 [1] rfl⟩
  try simp only [df] at h39
  have hco:Rq.ac l [44] q1.nx=true:=by simpa using h39
  rw [qL hco];exact .sk<|.bN<|.tN<|.ag (x:=(H1,.slice pr ex.length cr,q1,m1,ex,xs)) (H1,.slice p26x (ex++[zE]).length c26x,Rq.nx q1.nx,m1,(ex++[zE]),(xs++[.int .i64 0,.string ⟨#[]⟩,.int .i64 0,.slice none 0 0])) trivial ⟨Z,Z,Z,Jt⟩ (λ_ s=>by first | exact (s.p5_4 [2,3,0,4] Z) | (rw [Bool.or_assoc,Bool.or_assoc] at s;exact (s.p5_4 [2,3,0,4] Z))) ⟨λn m r2 g=>by have hx:=hI _ _ _ (Gd.arU hus (Gd.afC hco g));simp only [<-Bool.or_assoc] at hx|-;exact hx,u1,(by rw [bT];exact hz.snoc (LO H1) Z),cC K.gd.last (cC K.gd.last i1 hus) hco,(M1.trans (.nx (eX hus))).trans (.nx (eX hco)),by have h1:=(Mq.nx (eX hus)).i;have h2:=(Mq.nx (eX hco)).i;have h3:(Rq.nx q1.nx).i=q1.nx.i+1:=rfl;dsimp only;rw [aE];simp only [aK,aQ];omega⟩ (by first | exact dR (mO hco (cC K.gd.last i1 hus)) (mY (.nx (eX hus))) | exact dR (mO hco i3) (mY M3))
 have hus:Rq.ac l [95] q1=false:=h21;rw [qM hus];refine .fL 7 [(0,0),(1,0),(2,0),(3,0),(4,3),(5,3),(6,1)]<|.fA Z eZ<|.lD Z gR kP Z<|.mv Z<|.mv Z<|.c3 (X:=Fn × Bool × Rq × List Value × Hp) yC Z (λW s=>hsum K1 i1 (by have:=mY (l:=l) M1;omega) (s.p4_4 [0,1,2,3] Z)) Z (λ_ _=>(.dn<|.yv (.move Z)<|.yv (.load Z gR kP Z)<|.yv (.fieldAddr Z eZ)<|.nl)) λz3 hz3=>?_
 obtain ⟨n3,m3,q3,cs3,H3⟩:=z3;obtain ⟨g3,u3,p3,i3,M3⟩:=hz3;dsimp only at g3 u3 p3 i3 M3|-;obtain ⟨a3,b3x,c3,d3,e3,f3,k3,x3,y3,z3,w3,rfl,rf3,re3⟩:=gH p3;have K3:=Tkq.up K1 u3.up;refine .c3 (X:=Unit) nV Z (λW s=>EU K3 i3 (n:=n3) (Rep.one re3) (s.p4_4 [0,1,2,3] Z)) Z (λ_ _=>(.d2<|.yv (.load Z gR kP Z)<|.yv (.fieldAddr Z eZ)<|.nl)) λ_ _=>.bl Z (tF _ _ _ _) Z λb34=>.fn (tl:=[_,_,_]) Z<|.ap (news:=[x3,y3,z3,w3]) YQ Z (λ_=>jW) Z (.box Hm z0) Z (Rep.one re3) (by simp [maxLen];omega) (by omega) Z λr35 _=>?_
 rw [show ex.length+1=(ex++[n3.e]).length by simp];refine At.ra kP λp35x c35x e35x=>?_;subst e35x;refine .fA Z eZ<|.st nP Z Z JN Z (nb Z) Z<|.ns<|.mv Z<|.cs (X:=Unit) fW Z (λW s=>mN K3 i3 [44] (s.p5_5 [1,0,2,3,4] Z)) Z λ_ _=>.yw (.not Z)<|.nt<|.cd Z (λh39=>?_) (λh39=>?_)
 ·try simp only [dt] at h39
  have hco:Rq.ac l [44] q3=false:=by simpa using h39
  rw [qM hco];refine .sm Z<|.cs (X:=Unit) kG Z (λW s=>sZ K3 i3 [41] (s.p5_5 [0,1,2,3,4] Z)) Z λ_ _=>.ns<|.yw (.loadW Z eD qP Z)<|.yw (.call kH Z (λW s=>tA H3 (by simp [Value.oneCell',bV]) W s.agr))<|.sX SN Z Z cZ Z<|.zR<|.bR<|?_
  refine Sx.reSt (λW s=>s.p5_3 [2,4,0] rfl) ?_;refine nB (ds:=(ex++[n3.e]).map (dEx .i64)) (bJ ..) (by rw [bT];exact (hz.up u3.up).snoc re3 rfl) λH6 p6 c6 u6 hr6 hs6=>?_;refine y8 Z (.cell Z dA Hm rfl) λW s=>?_;rw [Bool.or_assoc,Bool.or_assoc] at s;exact ⟨(mdN (.mk 7 (Rq.paN l q) (Rq.paF l q) 0 0 ((ex++[n3.e])) []),(m1 || (m3 || !n3.tm)),Rq.exS l [41] q3,[.bool true,.bool false,.int .i64 7,bV (Rq.paN l q),bV (Rq.paF l q),.int .i64 0,.int .i64 0,.slice p35x (ex++[n3.e]).length c35x,.slice none 0 0,.int .i64 0,.string ⟨#[]⟩,.int .i64 0,.slice none 0 0],H6),⟨by have hx:=hI _ _ _ (Gd.arT hus g3 (Gd.afE hco));simp only [Bool.or_false] at hx;exact hx,(u1.trans u3).trans u6,wE (sU (op:=7) (aV (iD K hq) (by decide)) (aV (iD K hq2) (by decide)) hs6 (Rep.empty (p:=none) (c:=0) (by decide))),fM K.gd.last i3,(M1.trans M3).trans .exS⟩,Z,s.p2_1 [1] rfl⟩
 try simp only [df] at h39
 have hco:Rq.ac l [44] q3=true:=by simpa using h39
 rw [qL hco];exact .sk<|.bN<|.tN<|.ag (x:=(H1,.slice pr ex.length cr,q1,m1,ex,xs)) (H3,.slice p35x (ex++[n3.e]).length c35x,Rq.nx q3,(m1 || (m3 || !n3.tm)),(ex++[n3.e]),(xs++[x3,y3,z3,w3])) trivial ⟨rfl,rfl,rfl,trivial⟩ (λ_ s=>by first | exact (s.p5_4 [2,3,0,4] Z) | (rw [Bool.or_assoc,Bool.or_assoc] at s;exact (s.p5_4 [2,3,0,4] Z))) ⟨λn m r2 g=>by have hx:=hI _ _ _ (Gd.arT hus g3 (Gd.afC hco g));simp only [<-Bool.or_assoc] at hx|-;exact hx,(u1.trans u3),(by rw [bT];exact (hz.up u3.up).snoc re3 Z),cC K.gd.last i3 hco,(M1.trans M3).trans (.nx (eX hco)),by have h1:=M3.i;have h2:=(Mq.nx (eX hco)).i;have h3:(Rq.nx q3).i=q3.i+1:=rfl;dsimp only;rw [aE];simp only [aK,aQ];omega⟩ (by first | exact dR (mO hco (cC K.gd.last i1 hus)) (mY (.nx (eX hus))) | exact dR (mO hco i3) (mY M3))
theorem aC8:cV prg 215=true:=by kernel_rfl
theorem aC7:cV prg 216=true:=by kernel_rfl
theorem SK  : fK prg 142 []=some [.bool false,.bool false,.int .i64 0,.string ⟨#[]⟩,.string ⟨#[]⟩,.int .i64 0,.int .i64 0,.slice none 0 0,.slice none 0 0,.int .i64 0,.string ⟨#[]⟩,.int .i64 0,.slice none 0 0]:=by kernel_rfl
theorem VG (x0:Int) (x1:ByteArray):fK prg 27 [(0,.int .i64 x0),(1,.string x1)]=some [.int .i64 x0,.string x1,.string ⟨#[]⟩,.int .i64 0,.int .i64 0,.slice none 0 0,.slice none 0 0]:=by kernel_rfl
theorem JT (x0:Int) (x1 x2:ByteArray) (x5p:Option Addr) (x5n x5c:Nat):fK prg 27 [(0,.int .i64 x0),(1,.string x1),(2,.string x2),(5,.slice x5p x5n x5c)]=some [.int .i64 x0,.string x1,.string x2,.int .i64 0,.int .i64 0,.slice x5p x5n x5c,.slice none 0 0]:=by kernel_rfl
theorem bR4 {op:UInt8} {nm fd:Str} (hn:nm.length<=400000) (hf:fd.length<=400000) (h1:Rep H (dEx .i64 e) c1) (m:uP H bb 0 c1):Rep H (dFm .i64 (.mk op nm fd 0 0 [e] [])) [.int .i64 op.toNat,bV nm,bV fd,.int .i64 0,.int .i64 0,.slice (some ⟨bb,0,none⟩) 1 1,.slice none 0 0] :=
 sU (op:=op) (nm:=nm) (fd:=fd) (a:=0) (b:=0) (ex:=[e]) (args:=[]) (aV hn (by decide)) (aV hf (by decide)) (Rep.mk (n:=1) (c:=1) m (eJ.single h1 (AW h1)) rfl (aW _) (by decide)) (Rep.empty (p:=none) (c:=0) (by decide))
theorem bC5 {n:Int64} :Rep H (dEx .i64 (.mk 1 [] n [])) [.int .i64 1,.string ⟨#[]⟩,.int .i64 n.toInt,.slice none 0 0]:=uF (op:=1) (nm:=[]) (n:=n) (args:=[]) (by decide) (Rep.empty (p:=none) (c:=0) (by decide))
theorem bP7 {op:UInt8} :Rep H (dEx .i64 (.mk op [] 0 [])) [.int .i64 op.toNat,.string ⟨#[]⟩,.int .i64 0,.slice none 0 0]:=uF (op:=op) (nm:=[]) (n:=0) (args:=[]) (by decide) (Rep.empty (p:=none) (c:=0) (by decide))
theorem UN {op:UInt8} {nm:Str} (hn:nm.length<=400000):Rep H (dFm .i64 (.mk op nm [] 0 0 [] [])) [.int .i64 op.toNat,bV nm,.string ⟨#[]⟩,.int .i64 0,.int .i64 0,.slice none 0 0,.slice none 0 0]:=LY (fd:=[]) (aV hn (by decide)) (by decide)
set_option maxHeartbeats 4000000 in
theorem aN4 (M:Nat) (hsum:NdC 200 [] (.lev 7) M) (hbin:NdC 63 [.int .i64 1] (.lev 1) M):PrC (M+1):=by
 intro H w0 W bs b l tp tc mi q K hq hmi hM s;refine fN func213 rfl ntmps213 rfl s ?_;refine .sr<|.al fD Z λb2=>.nt<|.sq<|.bk<|.sm Z<|.nC Z<|.fA Z gD<|.lD Z bS cR Z<|.yw (.neq Z Z)<|.aq Z<|.ce Z (λh9=>?_) (λh9=>?_)
 ·have h0:¬ q.er=0:=by omega
  refine .sr<|.yw (.build Z SK)<|.sX .head Z Z cZ Z<|.zR<|?_
  refine y8 Z (.cell Z dA Hm rfl) λW s=>?_;rw [<-Bool.or_false mi] at s;exact ⟨(zN,false,q,[.bool false,.bool false,.int .i64 0,.string ⟨#[]⟩,.string ⟨#[]⟩,.int .i64 0,.int .i64 0,.slice none 0 0,.slice none 0 0,.int .i64 0,.string ⟨#[]⟩,.int .i64 0,.slice none 0 0],H),⟨Gd.bad h0,.refl,HV (n:=zN) (yK H) (LO H),hq,.refl q⟩,Z,s.p2_1 [1] rfl⟩
 have h0:q.er=0:=by omega
 refine .sm Z<|.cs (X:=Unit) vE Z (λW s=>MV K hq  (s.p2_2 [1,0] Z)) Z λ_ _=>.yw (.fld Z (aB2 _ _ _))<|.yw (.eql Z Z)<|.aq Z<|.ce Z (λh16=>?_) (λh16=>?_)
 ·have hk3:(tkf l q.i).k=3:=aR.1 (by show (tkf l q.i).k.toNat=3;omega);refine .sm Z<|.cs (X:=Unit) vF Z (λW s=>QL K hq  (s.p2_2 [0,1] Z)) Z λ_ _=>.yw (.build Z (II _ _))<|.yw (.call rH Z (λW s=>JZ H (by simp [Value.oneCell',bV]) W s.agr))<|.sX jS Z Z cZ Z<|.zR<|?_
  refine y8 Z (.cell Z dA cR rfl) λW s=>?_;rw [<-Bool.or_false mi] at s;exact ⟨(vlN (.mk 1 [] (q.nbV l) []),false,q.nbS l,[.bool false,.bool true,.int .i64 0,.string ⟨#[]⟩,.string ⟨#[]⟩,.int .i64 0,.int .i64 0,.slice none 0 0,.slice none 0 0,.int .i64 1,.string ⟨#[]⟩,.int .i64 (q.nbV l).toInt,.slice none 0 0],H),⟨Gd.num h0 hk3,.refl,CA bC5,tK K.gd.last hq,.nbS⟩,Z,s.p2_1 [0] rfl⟩
 have hk3:¬ (tkf l q.i).k=3:=λe=>by rw [e] at h16;exact h16 rfl
 refine .sm Z<|.cs (X:=Unit) fW Z (λW s=>mN K hq [110,111,119] (s.p2_2 [0,1] Z)) Z λ_ _=>.aq Z<|.cd Z (λh25=>?_) (λh25=>?_)
 ·have a25:Rq.ac l [110,111,119] q=true:=h25;rw [qL a25];refine .sr<|.yw (.build Z (aF1 _))<|.yw (.call rH Z (λW s=>JZ H (by simp [Value.oneCell',bV]) W s.agr))<|.sX jS Z Z cZ Z<|.zR<|?_
  refine y8 Z (.cell Z dA cR rfl) λW s=>?_;rw [<-Bool.or_false mi] at s;exact ⟨(vlN (.mk 4 [] 0 []),false,q.nx,[.bool false,.bool true,.int .i64 0,.string ⟨#[]⟩,.string ⟨#[]⟩,.int .i64 0,.int .i64 0,.slice none 0 0,.slice none 0 0,.int .i64 4,.string ⟨#[]⟩,.int .i64 0,.slice none 0 0],H),⟨Gd.now a25,.refl,CA (bP7 (op:=4)),(cC K.gd.last hq a25),.nx h0⟩,Z,s.p2_1 [0] rfl⟩
 have a25:Rq.ac l [110,111,119] q=false:=h25;rw [qM a25];refine .sm Z<|.cs (X:=Unit) fW Z (λW s=>mN K hq [116,114,117,101] (s.p2_2 [0,1] Z)) Z λ_ _=>.aq Z<|.cd Z (λh30=>?_) (λh30=>?_)
 ·have a30:Rq.ac l [116,114,117,101] q=true:=h30;rw [qL a30];refine .sr<|.yw (.build Z (GJ _))<|.yw (.call kH Z (λW s=>tA H (by simp [Value.oneCell',bV]) W s.agr))<|.sX jS Z Z cZ Z<|.zR<|?_
  refine y8 Z (.cell Z dA cR rfl) λW s=>?_;rw [<-Bool.or_false mi] at s;exact ⟨(mdN (.mk 1 [] [] 0 0 [] []),false,q.nx,[.bool true,.bool false,.int .i64 1,.string ⟨#[]⟩,.string ⟨#[]⟩,.int .i64 0,.int .i64 0,.slice none 0 0,.slice none 0 0,.int .i64 0,.string ⟨#[]⟩,.int .i64 0,.slice none 0 0],H),⟨Gd.tru a30,.refl,wE (UN (op:=1) (nm:=[]) (by decide)),(cC K.gd.last hq a30),.nx h0⟩,Z,s.p2_1 [0] rfl⟩
 have a30:Rq.ac l [116,114,117,101] q=false:=h30;rw [qM a30];refine .sm Z<|.cs (X:=Unit) fW Z (λW s=>mN K hq [102,97,108,115,101] (s.p2_2 [0,1] Z)) Z λ_ _=>.aq Z<|.cd Z (λh35=>?_) (λh35=>?_)
 ·have a35:Rq.ac l [102,97,108,115,101] q=true:=h35;rw [qL a35];refine .sr<|.yw (.build Z (GJ _))<|.yw (.call kH Z (λW s=>tA H (by simp [Value.oneCell',bV]) W s.agr))<|.sX jS Z Z cZ Z<|.zR<|?_
  refine y8 Z (.cell Z dA cR rfl) λW s=>?_;rw [<-Bool.or_false mi] at s;exact ⟨(mdN (.mk 2 [] [] 0 0 [] []),false,q.nx,[.bool true,.bool false,.int .i64 2,.string ⟨#[]⟩,.string ⟨#[]⟩,.int .i64 0,.int .i64 0,.slice none 0 0,.slice none 0 0,.int .i64 0,.string ⟨#[]⟩,.int .i64 0,.slice none 0 0],H),⟨Gd.fal a35,.refl,wE (UN (op:=2) (nm:=[]) (by decide)),(cC K.gd.last hq a35),.nx h0⟩,Z,s.p2_1 [0] rfl⟩
 have a35:Rq.ac l [102,97,108,115,101] q=false:=h35;rw [qM a35];refine .sm Z<|.cs (X:=Unit) fW Z (λW s=>mN K hq [102,108,97,103] (s.p2_2 [0,1] Z)) Z λ_ _=>.aq Z<|.cd Z (λh40=>?_) (λh40=>?_)
 ·have a40:Rq.ac l [102,108,97,103] q=true:=h40;rw [qL a40];refine .sm Z<|.cs (X:=Unit) vG Z (λW s=>IZ K (cC K.gd.last hq a40)  (s.p2_2 [0,1] Z)) Z λ_ _=>.yw (.build Z (VG _ _))<|.yw (.call kH Z (λW s=>tA H (by simp [Value.oneCell',bV]) W s.agr))<|.sX jS Z Z cZ Z<|.zR<|?_
  refine y8 Z (.cell Z dA cR rfl) λW s=>?_;rw [<-Bool.or_false mi] at s;exact ⟨(mdN (.mk 6 (q.nx.nmV l) [] 0 0 [] []),false,q.nx.nmS l,[.bool true,.bool false,.int .i64 6,bV (Rq.nmV l q.nx),.string ⟨#[]⟩,.int .i64 0,.int .i64 0,.slice none 0 0,.slice none 0 0,.int .i64 0,.string ⟨#[]⟩,.int .i64 0,.slice none 0 0],H),⟨Gd.flg a40,.refl,wE (UN (op:=6) (iD K (cC K.gd.last hq a40))),iB K.gd.last (cC K.gd.last hq a40),(Mq.nx h0).trans .nmS⟩,Z,s.p2_1 [0] rfl⟩
 have a40:Rq.ac l [102,108,97,103] q=false:=h40;rw [qM a40];refine .sm Z<|.cs (X:=Unit) fW Z (λW s=>mN K hq [104,97,115] (s.p2_2 [0,1] Z)) Z λ_ _=>.aq Z<|.cd Z (λh47=>?_) (λh47=>?_)
 ·have a47:Rq.ac l [104,97,115] q=true:=h47;rw [qL a47];refine .sm Z<|.cs (X:=Unit) FX Z (λW s=>ZZ K (cC K.gd.last hq a47)  (s.p2_2 [0,1] Z)) Z λ_ _=>.mv Z<|.yw (.extract Z Z)<|.yw (.extract Z Z)<|.a Z Z<|.a Z Z<|.ns<|.mv Z<|.cs (X:=Unit) kG Z (λW s=>sZ K (tU K.gd.last (cC K.gd.last hq a47)) [91] (s.p2_2 [0,1] Z)) Z λ_ _=>.ns<|.mv Z<|.cs (X:=Fn × Bool × Rq × List Value × Hp) yC Z (λW s=>hsum K (fM K.gd.last (tU K.gd.last (cC K.gd.last hq a47))) (by have:=mO a47 hq;have:=mY (l:=l) ((Mq.paS (l:=l) (q:=q.nx)).trans (Mq.exS (l:=l) (w:=[91])));omega) (s.p2_2 [0,1] Z)) Z λz1 hz1=>?_
  obtain ⟨n1,m1,q1,cs1,H1⟩:=z1;obtain ⟨g1,u1,p1,i1,M1⟩:=hz1;dsimp only at g1 u1 p1 i1 M1|-;obtain ⟨a1,b1x,c1,d1,e1,f1,k1,x1,y1,z1,w1,rfl,rf1,re1⟩:=gH p1;have K1:=Tkq.up K u1.up;refine .al fD Z λb5=>.sW .head Z Z cZ (Rep.one p1) Z<|.ns<|.mv Z<|.cs (X:=Unit) kG Z (λW s=>sZ K1 i1 [93] (s.p3_3 [1,0,2] Z)) Z λ_ _=>.ns<|.mv Z<|.mv Z<|.mv Z<|.yw (.loadW Z dA cR Z)<|.cs (X:=Unit) nV Z (λW s=>EU K1 (fM K.gd.last i1) (n:=n1) (Rep.one re1) (s.p3_3 [0,1,2] Z)) Z λ_ _=>.bl Z (tF _ _ _ _) Z λb66=>?_
  refine Sx.freezeBoxN λH4 u4 m4=>?_;have K4:=Tkq.up K1 u4.up;refine .yw (.build Z (JT _ _ _ _ _ _))<|.yw (.call kH Z (λW s=>tA H4 (by simp [Value.oneCell',bV]) W s.agr))<|.sX jW Z Z cZ Z<|.zR<|?_
  refine y8 Z (.cell Z dA kP rfl) λW s=>?_;rw [Bool.or_assoc] at s;exact ⟨(mdN (.mk 5 (q.nx.paN l) (q.nx.paF l) 0 0 [n1.e] []),(m1 || !n1.tm),Rq.exS l [93] q1,[.bool true,.bool false,.int .i64 5,bV (Rq.paN l q.nx),bV (Rq.paF l q.nx),.int .i64 0,.int .i64 0,.slice (some ⟨b66,0,none⟩) 1 1,.slice none 0 0,.int .i64 0,.string ⟨#[]⟩,.int .i64 0,.slice none 0 0],H4),⟨Gd.has a47 g1,u1.trans u4,wE (bR4 (op:=5) (iD K (cC K.gd.last hq a47)) (iD K (fM K.gd.last (iB K.gd.last (cC K.gd.last hq a47)) (w:=[46]))) (re1.up u4.up) m4),fM K.gd.last i1,(((Mq.nx h0).trans .paS).trans .exS).trans (M1.trans .exS)⟩,Z,s.p3_1 [0] rfl⟩
 have a47:Rq.ac l [104,97,115] q=false:=h47;rw [qM a47];refine .sm Z<|.cs (X:=Unit) fW Z (λW s=>mN K hq [97,114,114,105,118,101,115] (s.p2_2 [0,1] Z)) Z λ_ _=>.aq Z<|.cd Z (λh69=>?_) (λh69=>?_)
 ·have a69:Rq.ac l [97,114,114,105,118,101,115] q=true:=h69;rw [qL a69];refine .sm Z<|.cs (X:=Fn × Bool × Rq × List Value × Hp) aC8 Z (λW s=>aR5 M hsum K (cC K.gd.last hq a69) (by have:=mO a69 hq;omega) (λh=>Gd.arr0 a69 h) (λh _ _ _ g=>Gd.arr a69 h g) (s.p2_2 [0,1] Z)) Z λz2 hz2=>?_
  obtain ⟨n2,m2,q2,cs2,H2⟩:=z2;obtain ⟨g2,u2,p2,i2,M2⟩:=hz2;dsimp only at g2 u2 p2 i2 M2|-;obtain ⟨a2,b2x,c2,d2,e2,f2,k2,x2,y2,z2,w2,rfl,rf2,re2⟩:=gH p2;have K2:=Tkq.up K u2.up;refine .sW jS Z Z cZ (Rep.one p2) Z<|.zR<|?_
  refine y8 Z (.cell Z dA cR rfl) λW s=>?_;exact ⟨(n2,m2,q2,[.bool n2.fm,.bool n2.tm,a2,b2x,c2,d2,e2,f2,k2,x2,y2,z2,w2],H2),⟨g2,u2,p2,i2,(Mq.nx h0).trans M2⟩,Z,s.p2_1 [0] rfl⟩
 have a69:Rq.ac l [97,114,114,105,118,101,115] q=false:=h69;rw [qM a69];refine .sm Z<|.cs (X:=Unit) fW Z (λW s=>mN K hq [115,105,122,101] (s.p2_2 [0,1] Z)) Z λ_ _=>.aq Z<|.cd Z (λh74=>?_) (λh74=>?_)
 ·have a74:Rq.ac l [115,105,122,101] q=true:=h74;rw [qL a74];refine .sm Z<|.cs (X:=Unit) FX Z (λW s=>ZZ K (cC K.gd.last hq a74)  (s.p2_2 [0,1] Z)) Z λ_ _=>.mv Z<|.yw (.extract Z Z)<|.yw (.extract Z Z)<|.a Z Z<|.a Z Z<|.ns<|.mv Z<|.yw (.app Z Z (by have h1:=iD K (cC K.gd.last hq a74);have h2:=iD K (fM K.gd.last (iB K.gd.last (cC K.gd.last hq a74)) (w:=[46]));simp only [aE,aK,aQ];(try unfold Rq.paN);(try unfold Rq.paF);omega))<|.mv Z<|.yw (.app Z Z (by have h1:=iD K (cC K.gd.last hq a74);have h2:=iD K (fM K.gd.last (iB K.gd.last (cC K.gd.last hq a74)) (w:=[46]));simp only [aE,aK,aQ];(try unfold Rq.paN);(try unfold Rq.paF);omega))<|.yw (.build Z (BL _ _))<|.yw (.call rH Z (λW s=>JZ H (by simp [Value.oneCell',bV]) W s.agr))<|.sX jS Z Z cZ Z<|.zR<|?_
  refine y8 Z (.cell Z dA cR rfl) λW s=>?_;rw [<-Bool.or_false mi] at s;exact ⟨(vlN (.mk 8 (q.nx.paN l++[46]++q.nx.paF l) 0 []),false,q.nx.paS l,[.bool false,.bool true,.int .i64 0,.string ⟨#[]⟩,.string ⟨#[]⟩,.int .i64 0,.int .i64 0,.slice none 0 0,.slice none 0 0,.int .i64 8,bV (Rq.paN l q.nx++[46]++Rq.paF l q.nx),.int .i64 0,.slice none 0 0],H),⟨Gd.siz a74,.refl,CA (MQ (op:=8) (by have h1:=iD K (cC K.gd.last hq a74);have h2:=iD K (fM K.gd.last (iB K.gd.last (cC K.gd.last hq a74)) (w:=[46]));show (Rq.paN l q.nx++[46]++Rq.paF l q.nx).length<=1000000;unfold Rq.paN Rq.paF;simp only [aE,aK,aQ];omega)),tU K.gd.last (cC K.gd.last hq a74),(Mq.nx h0).trans .paS⟩,Z,s.p2_1 [0] rfl⟩
 have a74:Rq.ac l [115,105,122,101] q=false:=h74;rw [qM a74];refine .sm Z<|.cs (X:=Unit) fW Z (λW s=>mN K hq [40] (s.p2_2 [0,1] Z)) Z λ_ _=>.aq Z<|.cd Z (λh88=>?_) (λh88=>?_)
 ·have a88:Rq.ac l [40] q=true:=h88;rw [qL a88];refine .sm Z<|.cs (X:=Fn × Bool × Rq × List Value × Hp) zW Z (λW s=>hbin K (cC K.gd.last hq a88) (by have:=mO a88 hq;omega) (s.p2_2 [0,1] Z)) Z λz3 hz3=>?_
  obtain ⟨n3,m3,q3,cs3,H3⟩:=z3;obtain ⟨g3,u3,p3,i3,M3⟩:=hz3;dsimp only at g3 u3 p3 i3 M3|-;obtain ⟨a3,b3x,c3,d3,e3,f3,k3,x3,y3,z3,w3,rfl,rf3,re3⟩:=gH p3;have K3:=Tkq.up K u3.up;refine .al fD Z λb8=>.sW .head Z Z cZ (Rep.one p3) Z<|.ns<|.mv Z<|.cs (X:=Unit) kG Z (λW s=>sZ K3 i3 [41] (s.p3_3 [1,0,2] Z)) Z λ_ _=>.ns<|.yw (.loadW Z dA cR Z)<|.sW jW Z Z cZ (Rep.one p3) Z<|.zR<|?_
  refine y8 Z (.cell Z dA kP rfl) λW s=>?_;exact ⟨(n3,m3,Rq.exS l [41] q3,[.bool n3.fm,.bool n3.tm,a3,b3x,c3,d3,e3,f3,k3,x3,y3,z3,w3],H3),⟨Gd.par a88 g3,u3,p3,fM K.gd.last i3,((Mq.nx h0).trans M3).trans .exS⟩,Z,s.p3_1 [0] rfl⟩
 have a88:Rq.ac l [40] q=false:=h88;rw [qM a88];refine .sm Z<|.cs (X:=Unit) vE Z (λW s=>MV K hq  (s.p2_2 [0,1] Z)) Z λ_ _=>.yw (.fld Z (aB2 _ _ _))<|.yw (.eql Z Z)<|.aq Z<|.ce Z (λh96=>?_) (λh96=>?_)
 ·have hk1:(tkf l q.i).k=1:=aR.1 (by show (tkf l q.i).k.toNat=1;omega);refine .sm Z<|.cs (X:=Fn × Bool × Rq × List Value × Hp) aC7 Z (λW s=>bX9 M hsum K hq hM h0 hk1 (s.p2_2 [0,1] Z)) Z λz4 hz4=>?_
  obtain ⟨n4,m4,q4,cs4,H4⟩:=z4;obtain ⟨g4,u4,p4,i4,M4⟩:=hz4;dsimp only at g4 u4 p4 i4 M4|-;obtain ⟨a4,b4x,c4,d4,e4,f4,k4,x4,y4,z4,w4,rfl,rf4,re4⟩:=gH p4;have K4:=Tkq.up K u4.up;refine .sW jS Z Z cZ (Rep.one p4) Z<|.zR<|?_
  refine y8 Z (.cell Z dA cR rfl) λW s=>?_;exact ⟨(n4,m4,q4,[.bool n4.fm,.bool n4.tm,a4,b4x,c4,d4,e4,f4,k4,x4,y4,z4,w4],H4),⟨g4,u4,p4,i4,M4⟩,Z,s.p2_1 [0] rfl⟩
 have hk1:¬ (tkf l q.i).k=1:=λe=>by rw [e] at h96;exact h96 rfl
 refine .sk<|.bN<|.tN<|.sm Z<|.cs (X:=Unit) tT Z (λW s=>CT K hq 8 (s.p2_2 [0,1] Z)) Z λ_ _=>.ns<|.yw (.build Z SK)<|.sX jS Z Z cZ Z<|.nt<|.rt<|?_
 refine y8 Z (.cell Z dA cR rfl) λW s=>?_;rw [<-Bool.or_false mi] at s;exact ⟨(zN,false,q.fail l 8,[.bool false,.bool false,.int .i64 0,.string ⟨#[]⟩,.string ⟨#[]⟩,.int .i64 0,.int .i64 0,.slice none 0 0,.slice none 0 0,.int .i64 0,.string ⟨#[]⟩,.int .i64 0,.slice none 0 0],H),⟨Gd.non h0 hmi hk3 hk1 (by intro w hw;simp only [aN6,bP,List.not_mem_nil,or_false] at hw;rcases hw with rfl | rfl | rfl | rfl | rfl | rfl | rfl | rfl;exact a25;exact a30;exact a35;exact a40;exact a47;exact a69;exact a74;exact a88),.refl,HV (n:=zN) (yK H) (LO H),by rw [AV];exact hq,.fail⟩,Z,s.p2_1 [0] rfl⟩
theorem XD:∀ M,NdC 166 [] (.lev 5) M/\NdC 63 [.int .i64 1] (.lev 1) M/\NdC 200 [] (.lev 7) M/\NdC 212 [] (.lev 9) M
 | 0=>⟨NdC.zero _ _ _,NdC.zero _ _ _,NdC.zero _ _ _,NdC.zero _ _ _⟩
 | M+1=>by
  obtain ⟨hp,hb,hs,hu⟩:=XD M;have u:NdC 212 [] (.lev 9) (M+1):=bL7 M hu (aN4 M hs hb);have s:NdC 200 [] (.lev 7) (M+1):=cG6 (M+1) (aN3 (M+1) u);have p:NdC 166 [] (.lev 5) (M+1):=bB3 M hp hb (aQ7 (M+1) s);have b4:NdC 63 [.int .i64 ((4:Nat):Int)] (.lev 4) (M+1):=IE (M+1) 4 (by decide) (λ_=>bN4 (M+1) p) (λh=>absurd h (by decide));have b3:NdC 63 [.int .i64 ((3:Nat):Int)] (.lev 3) (M+1):=IE (M+1) 3 (by decide) (λh=>absurd h (by decide)) (λ_=>b4);have b2:NdC 63 [.int .i64 ((2:Nat):Int)] (.lev 2) (M+1):=IE (M+1) 2 (by decide) (λh=>absurd h (by decide)) (λ_=>b3);exact ⟨p,IE (M+1) 1 (by decide) (λh=>absurd h (by decide)) (λ_=>b2),s,u⟩
theorem bA9 (M:Nat):NdC 63 [.int .i64 1] (.lev 1) M:=(XD M).2.1
theorem pT (op:UInt8) (nm:Str) (n:Int64) (args:List Ex):Ex.count (.mk op nm n args)=Ex.counts args+1:=by rw [Ex.count]
theorem jT (op:UInt8) (nm fd:Str) (a b:Int64) (ex:List Ex) (args:List Fm):Fm.count (.mk op nm fd a b ex args)=Ex.counts ex+Fm.counts args+1:=by rw [Fm.count]
theorem nR:∀ (l m:List Ex),Ex.counts (l++m)=Ex.counts l+Ex.counts m
 | [],m=>by rw [dB,Ex.counts,dT]
 | e::l,m=>by rw [bL,Ex.counts,Ex.counts,nR l m,dQ]
theorem fG:∀ (l m:List Fm),Fm.counts (l++m)=Fm.counts l+Fm.counts m
 | [],m=>by rw [dB,Fm.counts,dT]
 | e::l,m=>by rw [bL,Fm.counts,Fm.counts,fG l m,dQ]
theorem bH8 (e:Ex):1<=e.count:=by obtain ⟨op,nm,n,args⟩:=e;rw [pT];omega
theorem bG1 (f:Fm):1<=f.count:=by obtain ⟨op,nm,fd,a,b,ex,args⟩:=f;rw [jT];omega
theorem bH9:∀ l:List Ex,l.length<=Ex.counts l
 | []=>aP _
 | e::l=>by rw [Ex.counts,aK];have:=bH9 l;have:=bH8 e;omega
theorem bS3:∀ l:List Fm,l.length<=Fm.counts l
 | []=>aP _
 | e::l=>by rw [Fm.counts,aK];have:=bS3 l;have:=bG1 e;omega
theorem KM (e:Ex):e.depth<=e.count:=by
 induction e using Ex.ind with | _ op nm n args ih
 rw [CV,pT]
 have:Ex.deeps args<=Ex.counts args:=by
  clear n nm op;induction args with
  | nil=>rw [Ex.deeps];exact aP _
  | cons a r ih2 =>
   rw [Ex.deeps,Ex.counts];have h1:=ih a (bQ ..);have h2:=ih2 λx hx=>ih x (cI _ hx);omega
 omega
theorem AX:∀ {l:List Ex} {e:Ex},e∈l->e.count<=Ex.counts l
 | a::r,e,h=>by
  rw [Ex.counts];rcases bP.1 h with rfl | h
  ·omega
  ·have:=AX h;omega
theorem AS:∀ {l:List Fm} {e:Fm},e∈l->e.count<=Fm.counts l
 | a::r,e,h=>by
  rw [Fm.counts];rcases bP.1 h with rfl | h
  ·omega
  ·have:=AS h;omega
theorem XV (q:Fm->Bool):∀ l,Fm.alls q l=l.all (Fm.all q)
 | []=>rfl
 | f::r=>by rw [Fm.alls,fE,XV q r]
theorem iM (q:Fm->Bool) (op:UInt8) (nm fd:Str) (a b:Int64) (ex:List Ex) (args:List Fm):Fm.all q (.mk op nm fd a b ex args)=(q (.mk op nm fd a b ex args) && args.all (Fm.all q)):=by rw [Fm.all,XV]
theorem KK (f:Fm):Fm.all (λ_=>true) f=true:=by
 induction f using Fm.ind with | _ op nm fd a b ex args ih
 rw [iM,aG];exact bC.2 ih
def cK0 (f:Fm):Bool:=f.ex.all λe=>decide (e.depth<=1000000)
theorem aB0 (f:Fm) (h:f.count<=1000000):Fm.all cK0 f=true:=by
 induction f using Fm.ind with | _ op nm fd a b ex args ih
 rw [jT] at h;rw [iM,aC];refine ⟨bC.2 λe he=>aF ?_,bC.2 λx hx=>ih x hx ?_⟩
 ·have h1:=AX (l:=ex) he;have h2:=KM e;omega
 ·have h1:=AS hx;omega
def blE (N:Nat) (e:Ex):Bool:=Ex.all (λe=>decide (e.args.length<=N)) e
def blF (N:Nat) (f:Fm):Bool:=Fm.all (λf=>decide (f.ex.length<=N) && decide (f.args.length<=N) && f.ex.all (blE N)) f
theorem xC (q:Ex->Bool):∀ l,Ex.alls q l=l.all (Ex.all q)
 | []=>rfl
 | e::r=>by rw [Ex.alls,fE,xC q r]
variable {N:Nat}
theorem CZ {op:UInt8} {nm:Str} {n:Int64} {args:List Ex} :blE N (.mk op nm n args)=true↔args.length<=N/\∀ a∈args,blE N a=true:=by
 unfold blE;rw [BD,xC,aC,aA,bC];rfl
theorem xX {op:UInt8} {nm fd:Str} {b:Int64} {ex:List Ex} {args:List Fm} :blF N (.mk op nm fd a b ex args)=true↔(ex.length<=N/\args.length<=N/\∀ e∈ex,blE N e=true)/\∀ g∈args,blF N g=true:=by
 unfold blF;rw [iM,aC,aC,aC,aA,aA,bC,bC];exact ⟨λh=>⟨⟨h.1.1.1,h.1.1.2,h.1.2⟩,h.2⟩,λh=>⟨⟨⟨h.1.1,h.1.2.1⟩,h.1.2.2⟩,h.2⟩⟩
theorem QR:∀ l,MX l=l.any rQ
 | []=>rfl
 | e::r=>by rw [MX,List.any_cons,QR r]
theorem sY:∀ l,AE l=l.all eL
 | []=>rfl
 | e::r=>by rw [AE,fE,sY r]
theorem aI2 (op:UInt8) (nm:Str) (n:Int64) (args:List Ex):rQ (.mk op nm n args)=((decide (op=5) && !yU nm && !fB nm) || ((decide (op=6) || decide (op=8)) && !yU nm) || args.any rQ):=by rw [rQ,QR]
def bI4 (f:Fm):Bool:=f.ex.any λe=>decide (9<e.depth) || (decide (8<e.depth) && !decide (f.op=3))
theorem aQ4 (f:Fm):bI4 f=!oL f:=by
 unfold bI4 oL;rw [Bool.not_not]
 congr 1
 funext e
 by_cases h:f.op=3
 ·rw [aM h,aF h];simp
 ·rw [aD h,aI h];rw [aX];simp;omega
def tnB (op:UInt8) (nm:Str):Bool :=
 if op=5\/op=6\/op=8 then (match eA nm with | some (a,b)=>fB a && fB b | none=>decide (op=5) && fB nm) else true
theorem aA2:∀ {l:Str},l.all iR=true->eA l=none
 | [],_=>rfl
 | c::r,h=>by
  rw [fE,aC] at h
  have hc:¬ c=46:=by
   rintro rfl;exact absurd h.1 (by decide)
  rw [eA,aD hc,aA2 h.2];rfl
theorem aA3 {n:Str} (h:fB n=true):eA n=none:=aA2 (yR h).2.2.1
theorem aX4 (op:UInt8) (nm:Str):((decide (op=5) && !yU nm && !fB nm) || ((decide (op=6) || decide (op=8)) && !yU nm))=!tnB op nm:=by
 unfold tnB yU
 by_cases h5:op=5
 ·subst h5;rw [aM (.inl Z)];cases hs:eA nm with
  | none=>simp
  | some x =>
   have hn:fB nm=false:=by
    cases h:fB nm with
    | false=>rfl
    | true=>rw [aA3 h] at hs;cases hs
   rw [hn];simp
 ·by_cases h6:op=6\/op=8
  ·rw [aM (.inr h6)];have e:(decide (op=6) || decide (op=8))=true:=by rcases h6 with rfl | rfl <;> decide
   rw [e,aI h5];cases hs:eA nm with
   | none=>simp
   | some x=>simp
  ·have e:(decide (op=6) || decide (op=8))=false:=by
    simp only [JX] at h6;rw [aI h6.1,aI h6.2];rfl
   rw [aD (by rintro (h | h | h);exact h5 h;exact h6 (.inl h);exact h6 (.inr h)),e,aI h5];rfl
def fdN (op:UInt8):Bool:=(decide (4<=op.toNat) && decide (op.toNat<=7)) || (decide (16<=op.toNat) && decide (op.toNat<=18))
def fdF (op:UInt8):Bool:=decide (op=4) || decide (op=5) || decide (op=7)
theorem qX {q:UInt8->Prop} [DecidablePred q] (h:∀ i∈List.range 256,q (UInt8.ofNat i)) (op:UInt8):q op:=by
 have:=h op.toNat (bU.2 op.toNat_lt)
 rwa [iH] at this
theorem bX3 (op:UInt8):(dD op).nm=fdN op:=qX (q:=λop=>(dD op).nm=fdN op) (by decide +kernel) op
theorem bX4 (op:UInt8):(dD op).fd=fdF op:=qX (q:=λop=>(dD op).fd=fdF op) (by decide +kernel) op
def VM (op:UInt8) (nm:Str) (n:Int64) (k:Nat):Bool :=
 (decide (op=1) || decide (op=4) || decide (op=5) || decide (op=6) || decide (op=8) || decide (op=9) || (decide (11<=op.toNat) && decide (op.toNat<=15))) && decide (arR op.toNat=(k:Nat)) && (decide (op=1) || decide (n=0)) && decide (0<=n.toInt) && (decide (nm=[]) || decide (op=5) || decide (op=6) || decide (op=8))
def bC0 (op:UInt8):Int:=if op.toNat<1\/18<op.toNat then -1 else if op.toNat<=7 then 0 else if (9<=op.toNat/\op.toNat<=11)\/op.toNat=15 then 2 else 1
theorem cC7 (op:UInt8):(¬ (dD op).lv=0/\bC0 op=((dD op).ar:Nat))\/((dD op).lv=0/\bC0 op=-1):=qX (q:=λop=>(¬ (dD op).lv=0/\bC0 op=((dD op).ar:Nat))\/((dD op).lv=0/\bC0 op=-1)) (by decide +kernel) op
variable {n:Nat}
theorem RE {m:Int} (h:m=(k:Nat)):decide (m=(n:Nat))=decide (n=k):=by
 rw [h,aX,aA,aA];omega
theorem CD (op:UInt8) (nm:Str) (n:Int64) (args:List Ex):eL (.mk op nm n args)=(VM op nm n args.length && args.all eL):=by
 rw [eL,sY];unfold VM
 have r1:decide (n=0)=true->decide (0<=n.toInt)=true:=by
  intro h;rw [aA] at h;subst h
  decide
 have r2:decide (args.length=0)=true->args.all eL=true:=by
  intro h;rw [aA] at h;rw [bK h];rfl
 generalize args.all eL=z at r2|-;generalize decide (0<=n.toInt)=c at r1|-;generalize decide (n=0)=b at r1|-;generalize decide (nm=[])=a
 by_cases h1:op=1
 ·subst h1;rw [RE (k:=0) (by decide)];generalize decide (args.length=0)=d at r2|-;simp only [aU]
  revert a b c d z;decide
 by_cases h4:op=4
 ·subst h4;rw [RE (k:=0) (by decide)];generalize decide (args.length=0)=d at r2|-;simp only [aD (show ¬ (4:UInt8)=1 by decide),aU]
  revert a b c d z;decide
 by_cases h5:op=5\/op=8
 ·rw [aD h1,aD h4,aM h5];have e:arR op.toNat=0:=by rcases h5 with rfl | rfl <;> decide
  rw [RE (k:=0) (by rw [e];rfl)];generalize decide (args.length=0)=d at r2|-;rcases h5 with rfl | rfl <;> (revert a b c d z;decide)
 by_cases h6:op=6
 ·subst h6;rw [RE (k:=1) (by decide)];generalize decide (args.length=1)=d;clear r2;simp only [aD (show ¬ (6:UInt8)=1 by decide),aD (show ¬ (6:UInt8)=4 by decide),aD (show ¬ ((6:UInt8)=5\/(6:UInt8)=8) by decide),aU]
  revert a b c d z;decide
 by_cases h9:op=9
 ·subst h9;rw [RE (k:=1) (by decide)];generalize decide (args.length=1)=d;clear r2;simp only [aD (show ¬ (9:UInt8)=1 by decide),aD (show ¬ (9:UInt8)=4 by decide),aD (show ¬ ((9:UInt8)=5\/(9:UInt8)=8) by decide),aD (show ¬ (9:UInt8)=6 by decide),aU]
  revert a b c d z;decide
 rw [aD h1,aD h4,aD h5,aD h6,aD h9];clear r2
 by_cases hb:op=11\/op=12\/op=13\/op=14\/op=15
 ·rw [aM hb];have e:arR op.toNat=2:=by rcases hb with rfl | rfl | rfl | rfl | rfl <;> decide
  rw [RE (k:=2) (by rw [e];rfl)];generalize decide (args.length=2)=d;rcases hb with rfl | rfl | rfl | rfl | rfl <;> (revert a b c d z;decide)
 ·rw [aD hb]
  have e:(decide (op=1) || decide (op=4) || decide (op=5) || decide (op=6) || decide (op=8) || decide (op=9) || (decide (11<=op.toNat) && decide (op.toNat<=15)))=false:=by
   have:=qX (q:=λop=>op=1\/op=4\/(op=5\/op=8)\/op=6\/op=9\/(op=11\/op=12\/op=13\/op=14\/op=15)\/(decide (op=1) || decide (op=4) || decide (op=5) || decide (op=6) || decide (op=8) || decide (op=9) || (decide (11<=op.toNat) && decide (op.toNat<=15)))=false) (by decide +kernel) op;rcases this with h | h | h | h | h | h | h
   ·exact absurd h h1
   ·exact absurd h h4
   ·exact absurd h h5
   ·exact absurd h h6
   ·exact absurd h h9
   ·exact absurd h hb
   ·exact h
  rw [e];rfl
def gdE (e:Ex):Bool:=decide (e.depth<=34) && Ex.all FI e
def gdN (f:Fm):Bool:=decide (f.op.toNat<=18) && decide (f.ex.length<=4) && decide (f.args.length<=3) && f.ex.all gdE
def gdF (f:Fm):Bool:=Fm.all gdN f
theorem aA7 {op:UInt8} {nm fd:Str} {b:Int64} {ex:List Ex} {args:List Fm} :gdF (.mk op nm fd a b ex args)=true↔(op.toNat<=18/\ex.length<=4/\args.length<=3/\∀ e∈ex,gdE e=true)/\∀ g∈args,gdF g=true:=by
 unfold gdF;rw [iM,aC,bC];unfold gdN;rw [aC,aC,aC,aA,aA,aA,bC];exact ⟨λh=>⟨⟨h.1.1.1.1,h.1.1.1.2,h.1.1.2,h.1.2⟩,h.2⟩,λh=>⟨⟨⟨⟨h.1.1,h.1.2.1⟩,h.1.2.2.1⟩,h.1.2.2.2⟩,h.2⟩⟩
theorem cJ8 (e:Ex):∃ o m n a,e=.mk o m n a:=by
 obtain ⟨o,m,n,a⟩:=e;exact ⟨o,m,n,a,Z⟩
def rfN (k:Nat):Bool:=(decide (4<=k) && decide (k<=7)) || (decide (16<=k) && decide (k<=18))
def rfF (k:Nat):Bool:=decide (k=4) || decide (k=5) || decide (k=7)
theorem FF {a b c d:Bool} (h1:a=c) (h2:b=d):Ending.returned (.tuple #[.bool a,.bool b])=.returned (.tuple #[.bool c,.bool d]):=by rw [h1,h2]
theorem NM (H:Hp) (k:Nat) (w:World) (hA:Agr H w):Calls prg 82 #[iN k] w λr w'=>r=.returned (.tuple #[.bool (rfN k),.bool (rfF k)])/\Ext w w':=by
 refine Sx.enter (H:=H) func82 rfl ntmps82 rfl hA ?_;refine .sr<|.a Z Z<|.a Z Z<|.ns<|.mv Z<|.yw (.geq Z Z)<|.mv Z<|.e2 (λh6=>?_) (λh6=>?_)
 ·refine .gy (.move Z)<|.gy (.leq Z Z)<|.yw (.pickT Z Z)<|.mv Z<|.e2 (λh10=>?_) (λh10=>?_)
  ·refine .gG<|.gG<|.gG<|.gV<|.gV<|.gG<|.yw (.pickT Z Z)<|.mv Z<|.yw (.eql Z Z)<|.mv Z<|.b2 (λh20=>?_) (λh20=>?_)
   ·try simp only [dt] at h20
    refine .gG<|.gG<|.yw (.pickT Z Z)<|.mv Z<|.gG<|.gG<|.yw (.pickT Z Z)<|.a Z Z<|.az Z<|?_
    refine y7 Z (.cons (.tmp Z) (.cons (.tmp Z) .nil)) rfl λW s=>⟨FF (by unfold rfN;rw [aX];(try simp only [aT,aC,aA,reduceCtorEq,cD,bZ,cH,bY,aZ,aB]);omega) (by unfold rfF;rw [aX];(try simp only [aT,aC,aA,reduceCtorEq,cD,bZ,cH,bY,aZ,aB]);omega),s.ext⟩
   try simp only [df] at h20
   refine .gy (.move Z)<|.gy (.eql Z Z)<|.yw (.pickF Z Z)<|.mv Z<|.b2 (λh24=>?_) (λh24=>?_)
   ·try simp only [dt] at h24
    refine .gG<|.gG<|.yw (.pickT Z Z)<|.a Z Z<|.az Z<|?_
    refine y7 Z (.cons (.tmp Z) (.cons (.tmp Z) .nil)) rfl λW s=>⟨FF (by unfold rfN;rw [aX];(try simp only [aT,aC,aA,reduceCtorEq,cD,bZ,cH,bY,aZ,aB]);omega) (by unfold rfF;rw [aX];(try simp only [aT,aC,aA,reduceCtorEq,cD,bZ,cH,bY,aZ,aB]);omega),s.ext⟩
   try simp only [df] at h24
   refine .gy (.move Z)<|.gy (.eql Z Z)<|.yw (.pickF Z Z)<|.a Z Z<|.az Z<|?_
   refine y7 Z (.cons (.tmp Z) (.cons (.tmp Z) .nil)) rfl λW s=>⟨FF (by unfold rfN;rw [aX];(try simp only [aT,aC,aA,reduceCtorEq,cD,bZ,cH,bY,aZ,aB]);omega) (by unfold rfF;rw [aX];(try simp only [aT,aC,aA,reduceCtorEq,cD,bZ,cH,bY,aZ,aB]);omega),s.ext⟩
  refine .gy (.move Z)<|.gy (.geq Z Z)<|.gy (.move Z)<|.b2 (λh13=>?_) (λh13=>?_)
  ·try simp only [dt] at h13
   refine .gy (.move Z)<|.gy (.leq Z Z)<|.gy (.pickT Z Z)<|.yw (.pickF Z Z)<|.mv Z<|.yw (.eql Z Z)<|.mv Z<|.b2 (λh20=>?_) (λh20=>?_)
   ·try simp only [dt] at h20
    refine .gG<|.gG<|.yw (.pickT Z Z)<|.mv Z<|.gG<|.gG<|.yw (.pickT Z Z)<|.a Z Z<|.az Z<|?_
    refine y7 Z (.cons (.tmp Z) (.cons (.tmp Z) .nil)) rfl λW s=>⟨FF (by unfold rfN;rw [aX];(try simp only [aT,aC,aA,reduceCtorEq,cD,bZ,cH,bY,aZ,aB]);omega) (by unfold rfF;rw [aX];(try simp only [aT,aC,aA,reduceCtorEq,cD,bZ,cH,bY,aZ,aB]);omega),s.ext⟩
   try simp only [df] at h20
   refine .gy (.move Z)<|.gy (.eql Z Z)<|.yw (.pickF Z Z)<|.mv Z<|.b2 (λh24=>?_) (λh24=>?_)
   ·try simp only [dt] at h24
    refine .gG<|.gG<|.yw (.pickT Z Z)<|.a Z Z<|.az Z<|?_
    refine y7 Z (.cons (.tmp Z) (.cons (.tmp Z) .nil)) rfl λW s=>⟨FF (by unfold rfN;rw [aX];(try simp only [aT,aC,aA,reduceCtorEq,cD,bZ,cH,bY,aZ,aB]);omega) (by unfold rfF;rw [aX];(try simp only [aT,aC,aA,reduceCtorEq,cD,bZ,cH,bY,aZ,aB]);omega),s.ext⟩
   try simp only [df] at h24
   refine .gy (.move Z)<|.gy (.eql Z Z)<|.yw (.pickF Z Z)<|.a Z Z<|.az Z<|?_
   refine y7 Z (.cons (.tmp Z) (.cons (.tmp Z) .nil)) rfl λW s=>⟨FF (by unfold rfN;rw [aX];(try simp only [aT,aC,aA,reduceCtorEq,cD,bZ,cH,bY,aZ,aB]);omega) (by unfold rfF;rw [aX];(try simp only [aT,aC,aA,reduceCtorEq,cD,bZ,cH,bY,aZ,aB]);omega),s.ext⟩
  try simp only [df] at h13
  refine .gG<|.gG<|.gy (.pickF Z Z)<|.yw (.pickF Z Z)<|.mv Z<|.yw (.eql Z Z)<|.mv Z<|.b2 (λh20=>?_) (λh20=>?_)
  ·try simp only [dt] at h20
   refine .gG<|.gG<|.yw (.pickT Z Z)<|.mv Z<|.gG<|.gG<|.yw (.pickT Z Z)<|.a Z Z<|.az Z<|?_
   refine y7 Z (.cons (.tmp Z) (.cons (.tmp Z) .nil)) rfl λW s=>⟨FF (by unfold rfN;rw [aX];(try simp only [aT,aC,aA,reduceCtorEq,cD,bZ,cH,bY,aZ,aB]);omega) (by unfold rfF;rw [aX];(try simp only [aT,aC,aA,reduceCtorEq,cD,bZ,cH,bY,aZ,aB]);omega),s.ext⟩
  try simp only [df] at h20
  refine .gy (.move Z)<|.gy (.eql Z Z)<|.yw (.pickF Z Z)<|.mv Z<|.b2 (λh24=>?_) (λh24=>?_)
  ·try simp only [dt] at h24
   refine .gG<|.gG<|.yw (.pickT Z Z)<|.a Z Z<|.az Z<|?_
   refine y7 Z (.cons (.tmp Z) (.cons (.tmp Z) .nil)) rfl λW s=>⟨FF (by unfold rfN;rw [aX];(try simp only [aT,aC,aA,reduceCtorEq,cD,bZ,cH,bY,aZ,aB]);omega) (by unfold rfF;rw [aX];(try simp only [aT,aC,aA,reduceCtorEq,cD,bZ,cH,bY,aZ,aB]);omega),s.ext⟩
  try simp only [df] at h24
  refine .gy (.move Z)<|.gy (.eql Z Z)<|.yw (.pickF Z Z)<|.a Z Z<|.az Z<|?_
  refine y7 Z (.cons (.tmp Z) (.cons (.tmp Z) .nil)) rfl λW s=>⟨FF (by unfold rfN;rw [aX];(try simp only [aT,aC,aA,reduceCtorEq,cD,bZ,cH,bY,aZ,aB]);omega) (by unfold rfF;rw [aX];(try simp only [aT,aC,aA,reduceCtorEq,cD,bZ,cH,bY,aZ,aB]);omega),s.ext⟩
 refine .gG<|.gG<|.yw (.pickF Z Z)<|.mv Z<|.gy (.move Z)<|.gy (.geq Z Z)<|.gy (.move Z)<|.b2 (λh13=>?_) (λh13=>?_)
 ·try simp only [dt] at h13
  refine .gy (.move Z)<|.gy (.leq Z Z)<|.gy (.pickT Z Z)<|.yw (.pickF Z Z)<|.mv Z<|.yw (.eql Z Z)<|.mv Z<|.b2 (λh20=>?_) (λh20=>?_)
  ·try simp only [dt] at h20
   refine .gG<|.gG<|.yw (.pickT Z Z)<|.mv Z<|.gG<|.gG<|.yw (.pickT Z Z)<|.a Z Z<|.az Z<|?_
   refine y7 Z (.cons (.tmp Z) (.cons (.tmp Z) .nil)) rfl λW s=>⟨FF (by unfold rfN;rw [aX];(try simp only [aT,aC,aA,reduceCtorEq,cD,bZ,cH,bY,aZ,aB]);omega) (by unfold rfF;rw [aX];(try simp only [aT,aC,aA,reduceCtorEq,cD,bZ,cH,bY,aZ,aB]);omega),s.ext⟩
  try simp only [df] at h20
  refine .gy (.move Z)<|.gy (.eql Z Z)<|.yw (.pickF Z Z)<|.mv Z<|.b2 (λh24=>?_) (λh24=>?_)
  ·try simp only [dt] at h24
   refine .gG<|.gG<|.yw (.pickT Z Z)<|.a Z Z<|.az Z<|?_
   refine y7 Z (.cons (.tmp Z) (.cons (.tmp Z) .nil)) rfl λW s=>⟨FF (by unfold rfN;rw [aX];(try simp only [aT,aC,aA,reduceCtorEq,cD,bZ,cH,bY,aZ,aB]);omega) (by unfold rfF;rw [aX];(try simp only [aT,aC,aA,reduceCtorEq,cD,bZ,cH,bY,aZ,aB]);omega),s.ext⟩
  try simp only [df] at h24
  refine .gy (.move Z)<|.gy (.eql Z Z)<|.yw (.pickF Z Z)<|.a Z Z<|.az Z<|?_
  refine y7 Z (.cons (.tmp Z) (.cons (.tmp Z) .nil)) rfl λW s=>⟨FF (by unfold rfN;rw [aX];(try simp only [aT,aC,aA,reduceCtorEq,cD,bZ,cH,bY,aZ,aB]);omega) (by unfold rfF;rw [aX];(try simp only [aT,aC,aA,reduceCtorEq,cD,bZ,cH,bY,aZ,aB]);omega),s.ext⟩
 try simp only [df] at h13
 refine .gG<|.gG<|.gy (.pickF Z Z)<|.yw (.pickF Z Z)<|.mv Z<|.yw (.eql Z Z)<|.mv Z<|.b2 (λh20=>?_) (λh20=>?_)
 ·try simp only [dt] at h20
  refine .gG<|.gG<|.yw (.pickT Z Z)<|.mv Z<|.gG<|.gG<|.yw (.pickT Z Z)<|.a Z Z<|.az Z<|?_
  refine y7 Z (.cons (.tmp Z) (.cons (.tmp Z) .nil)) rfl λW s=>⟨FF (by unfold rfN;rw [aX];(try simp only [aT,aC,aA,reduceCtorEq,cD,bZ,cH,bY,aZ,aB]);omega) (by unfold rfF;rw [aX];(try simp only [aT,aC,aA,reduceCtorEq,cD,bZ,cH,bY,aZ,aB]);omega),s.ext⟩
 try simp only [df] at h20
 refine .gy (.move Z)<|.gy (.eql Z Z)<|.yw (.pickF Z Z)<|.mv Z<|.b2 (λh24=>?_) (λh24=>?_)
 ·try simp only [dt] at h24
  refine .gG<|.gG<|.yw (.pickT Z Z)<|.a Z Z<|.az Z<|?_
  refine y7 Z (.cons (.tmp Z) (.cons (.tmp Z) .nil)) rfl λW s=>⟨FF (by unfold rfN;rw [aX];(try simp only [aT,aC,aA,reduceCtorEq,cD,bZ,cH,bY,aZ,aB]);omega) (by unfold rfF;rw [aX];(try simp only [aT,aC,aA,reduceCtorEq,cD,bZ,cH,bY,aZ,aB]);omega),s.ext⟩
 try simp only [df] at h24
 refine .gy (.move Z)<|.gy (.eql Z Z)<|.yw (.pickF Z Z)<|.a Z Z<|.az Z<|?_
 refine y7 Z (.cons (.tmp Z) (.cons (.tmp Z) .nil)) rfl λW s=>⟨FF (by unfold rfN;rw [aX];(try simp only [aT,aC,aA,reduceCtorEq,cD,bZ,cH,bY,aZ,aB]);omega) (by unfold rfF;rw [aX];(try simp only [aT,aC,aA,reduceCtorEq,cD,bZ,cH,bY,aZ,aB]);omega),s.ext⟩
def opI (k:Nat):Int:=if k<1\/18<k then -1 else if k<=7 then 0 else if (9<=k/\k<=11)\/k=15 then 2 else 1
theorem KE {a b:Int} (h:a=b):Ending.returned (.int .i64 a)=.returned (.int .i64 b):=by rw [h]
theorem aN7 (H:Hp) (k:Nat) (w:World) (hA:Agr H w):Calls prg 70 #[iN k] w λr w'=>r=.returned (.int .i64 (opI k))/\Ext w w':=by
 refine Sx.enter (H:=H) func70 rfl ntmps70 rfl hA ?_;refine .sr<|.aq Z<|.sq<|.bk<|.sm Z<|.yw (.lss Z Z)<|.mv Z<|.e2 (λh6=>?_) (λh6=>?_)
 ·refine .gG<|.gG<|.yw (.pickT Z Z)<|.aq Z<|.cT Z<|.sr<|.az Z<|.bR<|.tR<|?_
  refine y9 Z Z λW s=>⟨KE ?_,s.ext⟩;unfold opI
  repeat' split
  all_goals omega
 refine .gy (.move Z)<|.gy (.gtr Z Z)<|.yw (.pickF Z Z)<|.aq Z<|.ce Z (λh3=>?_) (λh3=>?_)
 ·refine .sr<|.az Z<|.bR<|.tR<|?_
  refine y9 Z Z λW s=>⟨KE ?_,s.ext⟩;unfold opI
  repeat' split
  all_goals omega
 refine .sm Z<|.yw (.leq Z Z)<|.aq Z<|.ce Z (λh10=>?_) (λh10=>?_)
 ·refine .sr<|.az Z<|.bR<|.tR<|?_
  refine y9 Z Z λW s=>⟨KE ?_,s.ext⟩;unfold opI
  repeat' split
  all_goals omega
 refine .sm Z<|.yw (.geq Z Z)<|.mv Z<|.e2 (λh16=>?_) (λh16=>?_)
 ·refine .gy (.move Z)<|.gy (.leq Z Z)<|.yw (.pickT Z Z)<|.mv Z<|.e2 (λh20=>?_) (λh20=>?_)
  ·refine .gG<|.gG<|.yw (.pickT Z Z)<|.aq Z<|.cT Z<|.sr<|.az Z<|.bR<|.tR<|?_
   refine y9 Z Z λW s=>⟨KE ?_,s.ext⟩;unfold opI
   repeat' split
   all_goals omega
  refine .gy (.move Z)<|.gy (.eql Z Z)<|.yw (.pickF Z Z)<|.aq Z<|.cd Z (λh13=>?_) (λh13=>?_)
  ·try simp only [dt] at h13
   refine .sr<|.az Z<|.bR<|.tR<|?_
   refine y9 Z Z λW s=>⟨KE ?_,s.ext⟩;unfold opI
   repeat' split
   all_goals omega
  try simp only [df] at h13
  refine .sk<|.bN<|.tN<|.sr<|.az Z<|?_
  refine y9 Z Z λW s=>⟨KE ?_,s.ext⟩;unfold opI
  repeat' split
  all_goals omega
 refine .gG<|.gG<|.yw (.pickF Z Z)<|.mv Z<|.gy (.move Z)<|.gy (.eql Z Z)<|.yw (.pickF Z Z)<|.aq Z<|.cd Z (λh13=>?_) (λh13=>?_)
 ·try simp only [dt] at h13
  refine .sr<|.az Z<|.bR<|.tR<|?_
  refine y9 Z Z λW s=>⟨KE ?_,s.ext⟩;unfold opI
  repeat' split
  all_goals omega
 try simp only [df] at h13
 refine .sk<|.bN<|.tN<|.sr<|.az Z<|?_
 refine y9 Z Z λW s=>⟨KE ?_,s.ext⟩;unfold opI
 repeat' split
 all_goals omega
theorem aJ0 (h:gdE e=true):Ex.all FI e=true:=by
 unfold gdE at h;rw [aC] at h;exact h.2
theorem MB {l:List Fm} (h:k<l.length):l.take (k+1)=l.take k++[l[k]]:=by rw [List.take_succ,List.getElem?_eq_getElem h];rfl
theorem cJ3 (f:Fm):∃ o n d a b e r,f=.mk o n d a b e r:=by
 obtain ⟨o,n,d,a,b,e,r⟩:=f;exact ⟨o,n,d,a,b,e,r,Z⟩
def cF2 (g:Fm):Prop:=gdF g=true->∀ (H:Hp) (cs:List Value) (w:World),Rep H (dFm .i64 g) cs->Agr H w ->
 Calls prg 16 #[.agg cs.toArray] w λr w'=>∃ x H',Rep H' (dFm .u8 g) x/\r=.returned (.agg x.toArray)/\zT H w H' w'
set_option maxHeartbeats 1000000 in
theorem bF9 (g:Fm):cF2 g:=by
 induction g using Fm.ind with | _ op nm fd a b ex args ih
 intro hgd H cs w h hA;obtain ⟨⟨hop,hexl,hal,hge⟩,hga⟩:=aA7.1 hgd;obtain ⟨p1,c1,p2,c2,rfl,hs1,hs2,hnm,hfd⟩:=gZ h;have hcap1:=hs1.cap;have hcap2:=hs2.cap;refine Sx.enter (H:=H) func16 rfl ntmps16 rfl hA ?_;refine .sr<|.bx Z Z Z λb1=>.al eS Z λb2=>.ns<|.fA Z hZ<|.lD Z bS cR Z<|.yw (.conv Z rU YR (c:=(op.toNat:Nat)) (by have:=op.toNat_lt;simp only [IntKind.wrap,IntKind.signed,IntKind.bits];simp;omega))<|.fA Z wV<|.lD Z cP cR Z<|.fA Z uK<|.lD Z cP cR Z<|.fA Z jR<|.lD Z bS cR Z<|.fA Z jQ<|.lD Z bS cR Z<|.yw (.build Z (GI _ _ _ _ _))<|.al eS Z λb3=>.sX .head Z Z dC Z<|.nt<|.sq<|.sq<|?_
 refine Sx.row0 76 4 ?_;refine .rg<|.fA Z eZ<|.lD Z gR qP Z<|.yw (.lenSl gP Z)<|.mv Z<|.nt<|.bk<|.pm [1,0,2,3] [_,_,_,_] Z Z<|.lp (X:=Nat × Hp × Value × List Value) [(1,_),(2,_),(3,_),(21,_),(22,_)] ⟨Z,Z,Z,Z,Z,Jt⟩ [_,_] (λz=>[(23,iN z.1)]) (λz=>z.2.1) (λz=>[.box b3 [.int .u8 op.toNat,bV nm,bV fd,.int .i64 a.toInt,.int .i64 b.toInt,z.2.2.1,.slice none 0 0] 35,.row 76 4 z.2.2.1 z.1 z.2.2.2]) (λz=>z.1<=ex.length/\HUp w H z.2.1/\eJ z.2.1 4 ((ex.take z.1).map (dEx .u8)) z.2.2.2) (λz=>ex.length - z.1) (0,H,.slice none 0 0,[]) (λ_ s=>s) ⟨Z,Jt⟩ ⟨by simp,.refl,eJ.nil⟩ λz hC=>?_
 obtain ⟨k,H1,r,xs⟩:=z;dsimp only at hC|-;obtain ⟨hk0,u1,hz⟩:=hC;refine .sr<|.yw (.lss Z Z)<|.nt<|.sq<|.ce Z (λh24=>?_) (λh24=>?_)
 ·have hk:k<ex.length:=by omega
  obtain ⟨bE,oE,cE,hpE,rE,lE,mE⟩:=(hs1.up u1.up).elem (iL (f:=dEx .i64) hk);cases hpE;have hnr:=aJ0 (hge _ (bI hk));refine .sk<|.tN<|.sq<|.bk<|.sr<|.yw (.indexSl gP Z Z Z (by omega) (q:=oE+k * 4) Z)<|.yw (.loadMW Z fT mE lE)<|.al nD Z λb5=>.sV .head Z Z mM lE rE.one Z<|.nt<|.fL 5 [(0,0),(1,0),(2,0),(3,1),(4,1)]<|.fA Z cQ<|.lD Z dG cR Z<|.yw (.loadW Z fT Hm lE)<|.ct (X:=List Value) SF Z (λW s=>bH7 _ hnr H1 cE W rE s.agr) Z λx2 H2 hc2 u2=>?_
  obtain ⟨op2,nm2,n2,zS,hx⟩:=cJ8 (ex[k]);rw [hx] at hc2;obtain ⟨p2,c2,rfl,hs2,hnm2⟩:=jB hc2;refine .bl Z (nY _ _ _ _) Z λb31=>.fn (tl:=[_,_,_]) Z<|.ap (news:=[.int .u8 op2.toNat,bV nm2,.int .i64 n2.toInt,.slice p2 zS.length c2]) vY Z (λ_=>nP) Z (.box Hm z0) Z (by simp [Value.oneCell',bV]) (by simp [maxLen];omega) (by omega) Z λr32 _=>?_
  refine At.ra qP λp32 c32 e32=>?_;exact .fA Z cQ<|.st jW Z Z nE (by rw [e32];rfl) (nb Z) Z<|.nl<|.bN<|.tN<|.rg<|.yw (.add Z Z w7)<|.mv Z<|.nt<|.ag (x:=(k,H1,r,xs)) (k+1,H2,r32,xs++[.int .u8 op2.toNat,bV nm2,.int .i64 n2.toInt,.slice p2 zS.length c2]) ⟨Z,Jt⟩ ⟨Z,Z,Z,Z,Z,Jt⟩ (λ_ s=>(s.pick [2,3,4,5] _ Z Z)) ⟨by dsimp only;omega,u1.trans u2,by dsimp only;rw [uT hk,bT,hx];exact (hz.up u2.up).snoc hc2 Z⟩ (by dsimp only;omega)
 obtain rfl:k=ex.length:=by omega
 rw [aY] at hz;refine At.ra (.tail _ Hm) λp32 c32 e32=>?_;subst e32;obtain ⟨HX,hHX⟩:∃ h,h=H1:=⟨_,Z⟩;rw [<-hHX] at u1 hz|-;have uX:=u1;have hzX:=hz;clear u1 hz hHX;refine .ex<|.eb<|.sq<|.sq<|?_
 refine Sx.row0 35 7 ?_;refine .rg<|.fA Z kQ<|.lD Z AB zC Z<|.yw (.lenSl uH Z)<|.mv Z<|.nt<|.bk<|.pm [1,0,2,3,4] [_,_,_,_,_] Z Z<|.lp (X:=Nat × Hp × Value × List Value) [(2,_),(3,_),(36,_),(37,_)] ⟨Z,Z,Z,Z,Jt⟩ [_,_,_] (λz=>[(38,iN z.1)]) (λz=>z.2.1) (λz=>[.box b3 [.int .u8 op.toNat,bV nm,bV fd,.int .i64 a.toInt,.int .i64 b.toInt,.slice p32 ex.length c32,z.2.2.1] 35,.row 35 7 z.2.2.1 z.1 z.2.2.2]) (λz=>z.1<=args.length/\HUp w HX z.2.1/\eJ z.2.1 7 ((args.take z.1).map (dFm .u8)) z.2.2.2) (λz=>args.length - z.1) (0,HX,.slice none 0 0,[]) (λ_ s=>s) ⟨Z,Jt⟩ ⟨by simp,.refl,eJ.nil⟩ λz hC=>?_
 obtain ⟨k,H1,r,xs2⟩:=z;dsimp only at hC|-;obtain ⟨hk0,u1,hz⟩:=hC;refine .sr<|.yw (.lss Z Z)<|.nt<|.sq<|.ce Z (λh39=>?_) (λh39=>?_)
 ·have hk:k<args.length:=by omega
  obtain ⟨bE,oE,cE,hpE,rE,lE,mE⟩:=((hs2.up uX.up).up u1.up).elem (iL (f:=dFm .i64) hk);cases hpE;refine .sk<|.tN<|.sq<|.bk<|.sr<|.yw (.indexSl uH Z Z Z (by omega) (q:=oE+k * 7) Z)<|.yw (.loadMW Z eD mE lE)<|.al oQ Z λb7=>.sV .head Z Z kL lE rE.one Z<|.nt<|.fL 5 [(0,0),(1,0),(2,0),(3,1),(4,1)]<|.fA Z dF<|.lD Z fY cR Z<|.yw (.loadW Z eD Hm lE)<|.ct (X:=List Value) SJ Z (λW s=>ih _ (bI hk) (hga _ (bI hk)) H1 cE W rE s.agr) Z λx2 H2 hc2 u2=>?_
  obtain ⟨op2,nm2,fd2,a2,b2x,ex2,as2,hx⟩:=cJ3 (args[k]);rw [hx] at hc2;obtain ⟨p2,c2,q2,d2,rfl,_,_,_,_⟩:=gZ hc2;refine .bl Z (rK _ _ _ _ _ _ _) Z λb46=>.fn (tl:=[_,_,_]) Z<|.ap (news:=[.int .u8 op2.toNat,bV nm2,bV fd2,.int .i64 a2.toInt,.int .i64 b2x.toInt,.slice p2 ex2.length c2,.slice q2 as2.length d2]) sN Z (λ_=>nP) Z (.box Hm z0) Z (by simp [Value.oneCell',bV]) (by simp [maxLen];omega) (by omega) Z λr47 _=>?_
  refine At.ra qP λp47 c47 e47=>?_;exact .fA Z dF<|.st jW Z Z DV (by rw [e47];rfl) (nb Z) Z<|.nl<|.bN<|.tN<|.rg<|.yw (.add Z Z w7)<|.mv Z<|.nt<|.ag (x:=(k,H1,r,xs2)) (k+1,H2,r47,xs2++[.int .u8 op2.toNat,bV nm2,bV fd2,.int .i64 a2.toInt,.int .i64 b2x.toInt,.slice p2 ex2.length c2,.slice q2 as2.length d2]) ⟨Z,Jt⟩ ⟨Z,Z,Z,Z,Jt⟩ (λ_ s=>(s.pick [2,3,4,5,6] _ Z Z)) ⟨by dsimp only;omega,u1.trans u2,by dsimp only;rw [MB hk,bT,hx];exact (hz.up u2.up).snoc hc2 Z⟩ (by dsimp only;omega)
 obtain rfl:k=args.length:=by omega
 rw [aY] at hz;refine At.ra (.tail _ Hm) λp47 c47 e47=>?_;subst e47;refine .ex<|.eb<|.sr<|.yw (.loadW Z cL Hm Z)<|.sX nP Z Z dC Z<|.nt<|.rt<|?_
 refine At.pm [2,1,3] [_,_,_] rfl rfl ?_;refine nB (ds:=ex.map (dEx .u8)) (bJ ..) (hzX.up u1.up) λH3 p3 c3 u3 hr3 hs3=>?_;refine nB (ds:=args.map (dFm .u8)) (bJ ..) (hz.up u3.up) λH4 p4 c4 u4 hr4 hs4=>?_;refine y8 Z (.cell Z cL Hm rfl) λW s=>⟨_,H4,sU hnm hfd (hs3.up u4.up) hs4,Z,(((uX.trans u1).trans u3).trans u4).grow s⟩
end Go.Proofs.YtidclioghdbphaaGreatDoor
namespace Go.Sx
open Go.RowKit Go.Par
section
variable {dfs:List Deferred} {P:Program} {n:Nat} {L:Sl} {H:Hp} {w0:World} {bs:List Res} {Q:Exit->Act->World->Prop} {ops:Array Oper} {rest:List Oper} {K:Act->World->Prop}
variable {d:Option Tmp} {ty:TypeId} {pos:String} {aft:Array Edge} {v:Value} {t:Tmp} {x y:Operand} {T:TypeId}
variable {N hn:Nat} {pa:List (Nat × Oper × Value)} {E:Sl->Hp->List Res->Prop} {fr:List (Nat × Nat × Oper)} {i k:Nat}
theorem St.perm {W:World} {bs':List Res} (s:St H w0 bs W) (h:bs.Perm bs'):St H w0 bs' W :=
 ⟨s.ext,s.agr,λz hz=>s.own z (h.mem_iff.2 hz),h.pairwise s.apart (λ{x y} k=>Res.apart.symm k),s.lo⟩
theorem St.mid {W:World} {a d c e:List Res} (s:St H w0 (a++(d++(c++e))) W):St H w0 (a++(c++(d++e))) W :=
 s.perm (List.Perm.append_left a (by rw [<-bW,<-bW];exact List.Perm.append_right e List.perm_append_comm))
theorem Yl.loadR1 {e:TypeId} {size k g c off:Nat} {xs:List Value} (hp:ev L x=some (.pointer (some ⟨g,off,none⟩))) (hT:lR P T=some none) (hm:Res.row e size (.slice (some ⟨g,0,none⟩) k c) k xs∈bs) (hv:xs[off]? = some v) {gd:Option (Nat × Bool)}:Yl P L H w0 bs ⟨d,.load T x,ty,pos,aft,gd⟩ v:=.of_run λa W f s=>by
 have ho:W.ownsRow w0.heap.size e size (.slice (some ⟨g,0,none⟩) k c) k xs:=(s.own _ hm).1;have hc:=World.ownsRow.cells ho (g:=g) rfl off v hv;rw [Addr.add_lit,dT] at hc;unfold execOp;simp only [f x _ hp,Instr.loadAt,Instr.sureAddr,loadVar,Sem.run_bind,Sem.run_pure,Result.andThen,uA hT,aB,aS];rw [show (Go.load ⟨g,off,none⟩).run P W=.ok v W from by simp [Go.load,Sem.run,hc]]
theorem dU.apB {e:TypeId} {size bytes m c k b off:Nat} {r:Value} {xs news:List Value} {bs':Value->List Res} (hT:AH P T=some (e,size,bytes)) (hx:ev L x=some r)
 (hm:∀ r',Upd bs (.row e size r k xs) (.row e size r' (k+m) (xs++news)) (bs' r')) (hy:ev L y=some (.slice (some ⟨b,off,none⟩) m c)) (hs:Src H bs b off news) (hl:news.length=m * size) (h1:∀ u∈news,u.oneCell'=true)
 (h63:k+m<=maxLen) (hb:(k+m) * bytes<=140737488355328) (ht:Nat.blt t N=true)
 (hr2:∀ r',iX dfs P ops hn w0 N L H (bs' r') i pa) (h:∀ p c,dU dfs P ops hn w0 N E fr pa ((t,.slice p (k+m) c)::L) H (bs' (.slice p (k+m) c))) :
 dU dfs P ops hn w0 N E ((i,3,⟨some t,.call ⟨.builtin .append,#[x,y],#[T,T]⟩,ty,pos,aft,none⟩)::fr) pa L H bs :=
 ⟨rD ht,append hT hx hm hy hs hl h1 h63 hb ht λr' _=>At.ra (hm r').new λp c e=>by subst e;exact dU.into (.inr<|.inr<|hr2 _) (h p c)⟩
theorem At.s1Q {g off k c size:Nat} {e:TypeId} {xs ys:List Value} {v:Value} {bs':List Res} (he:xs.set off v=ys) (hp:ev L x=some (.pointer (some ⟨g,off,none⟩))) (hv:ev L y=some v) (hT:iP P T=some 1) (h1:v.oneCell'=true)
 (hm:Upd bs (.row e size (.slice (some ⟨g,0,none⟩) k c) k xs) (.row e size (.slice (some ⟨g,0,none⟩) k c) k ys) bs') (ho:off<xs.length) (h:At dfs n L H w0 bs' (wpList P ops Q rest)) :
 At dfs n L H w0 bs (wpList P ops Q (⟨none,.store T x y,ty,pos,aft,none⟩::rest)):=by
 subst he;exact At.s1R hp hv hT h1 hm ho h
theorem tG.s1Q {kk:Nat} {q:PlT} {bs':List Res} {g off k c size:Nat} {e:TypeId} {xs ys:List Value} {v:Value} (he:xs.set off v=ys) (hp:ev L x=some (.pointer (some ⟨g,off,none⟩))) (hv:ev L y=some v) (hT:iP P T=some 1) (h1:v.oneCell'=true)
 (hm:Upd bs (.row e size (.slice (some ⟨g,0,none⟩) k c) k xs) (.row e size (.slice (some ⟨g,0,none⟩) k c) k ys) bs') (ho:off<xs.length)
 (hr:iX dfs P ops hn w0 N L H bs' i pa) (h:fU dfs P ops hn w0 N E q pa L H bs'):tG dfs P ops hn w0 N E i kk ⟨none,.store T x y,ty,pos,aft,none⟩ q pa L H bs:=by
 subst he;exact ⟨λ_ e=>(by cases e),aG5 hp hv hT h1 hm ho (tG.into0 hr h)⟩
theorem tZ {xr cs cs':List Value} {n j:Nat} {v:Value} (hl:xr.length=n) (h:cs.set j v=cs'):(xr++cs).set (n+j) v=xr++cs':=by
 subst hl h;rw [lL _ _ (Nat.le_add_right _ _),jJ]
end
end Go.Sx
namespace Go.Proofs.YtidclioghdbphaaGreatDoor
open Go.RowKit Go.Par Go.Sx Tryz
variable {g k c:Nat}
variable {H:Hp} {w0 W:World} {bs:List Res} {b tc:Nat} {l:Tks} {tp:Option Addr} {rv:Value} {bd:Bool} {q:Rq}
theorem CB {rd dn:Bool} (K:Tkf H l tp tc) (hq:q.i<l.length) (hkm:k<=600001) (s:St H w0 (.box b [.slice tp l.length tc,iN q.i,.slice (some ⟨g,0,none⟩) (k+1) c,rv,.bool rd,.bool dn,.bool bd,iN q.off,iN q.er] 102::bs) W) :
 Calls prg 105 #[.pointer (some ⟨b,0,none⟩)] W λe W'=>∃ _:Unit,(True)/\e=.returned (.pointer (some ⟨g,k * 11,none⟩))/\St H w0 (.box b [.slice tp l.length tc,iN q.i,.slice (some ⟨g,0,none⟩) (k+1) c,rv,.bool rd,.bool dn,.bool bd,iN q.off,iN q.er] 102::bs) W':=by
 have hcap:=K.rep.cap;refine fN func105 rfl ntmps105 rfl s ?_;refine .sr<|.aq Z<|.sq<|.fL 11 [(0,0),(1,0),(2,0),(3,0),(4,0),(5,0),(6,0),(7,0),(8,0),(9,0),(10,0)]<|.mv Z<|.nC Z<|.fA Z jO<|.lD Z vZ Hm Z<|.mv Z<|.nC Z<|.fA Z jO<|.lD Z vZ Hm Z<|.yw (.lenSl DT Z)<|.yw (.sub Z Z (c:=((k:Nat):Int)) ((w6 (by omega)).trans (by omega)))<|.yw (.indexSl DT Z Z (i:=k) Z (by omega) (q:=k * 11) (by omega))<|.fn (tl:=[_]) Z<|.az Z<|?_
 refine y9 Z Z λW s=>?_;exact ⟨(),Jt,Z,s.p1_1 [0] rfl⟩
theorem bW2 {lv:Nat} {t:Bool} {a0 a3 a4 a5 a6 a7 a8 a9 a10:Value} (h1:∀ u∈[a0,a3,a4,a5,a6,a7,a8,a9,a10],u.oneCell'=true):∀ u∈[a0,iN lv,.bool t,a3,a4,a5,a6,a7,a8,a9,a10],u.oneCell'=true:=by
 intro u hu;simp only [bP,List.not_mem_nil,or_false] at hu h1;rcases hu with h | h | h | h | h | h | h | h | h | h | h
 ·exact h1 u (by simp [h])
 ·rw [h];rfl
 ·rw [h];rfl
 all_goals exact h1 u (by simp [h])
variable {xo:List Value}
variable {ro:Value}
theorem mW {rd dn:Bool} (K:Tkf H l tp tc) (hq:q.i<l.length) {lv:Nat} {t t':Bool} {a0 a3 a4 a5 a6 a7 a8 a9 a10:Value} (h1:∀ u∈[a0,a3,a4,a5,a6,a7,a8,a9,a10],u.oneCell'=true) (hkm:k<=600001) (hT:0<lv->∃ k1,k=k1+1/\xo[k1 * 11+2]? = some (.bool t')) (s:St H w0 (.box b [.slice tp l.length tc,iN q.i,ro,rv,.bool rd,.bool dn,.bool bd,iN q.off,iN q.er] 102::.row 97 11 (ro) (k) (xo)::bs) W) :
 Calls prg 109 #[.pointer (some ⟨b,0,none⟩),.agg [a0,iN lv,.bool t,a3,a4,a5,a6,a7,a8,a9,a10].toArray] W λe W'=>∃ z:Option Addr × Nat,(True)/\e=.returned (.tuple #[])/\St H w0 (.box b [.slice tp l.length tc,iN q.i,(.slice z.1 (k+1) z.2),rv,.bool false,.bool dn,.bool bd,iN q.off,iN q.er] 102::.row 97 11 (.slice z.1 (k+1) z.2) (k+1) (xo++[a0,iN lv,.bool (if 0<lv then t' else t),a3,a4,a5,a6,a7,a8,a9,a10])::bs) W':=by
 have hcap:=K.rep.cap;refine fN func109 rfl ntmps109 rfl s ?_;refine .sr<|.bx Z Z Z λb3=>.nt<|.sq<|.sr<|.fA Z pJ<|.lD Z bS Hm Z<|.yw (.gtr Z Z)<|.nt<|.ce Z (λh6=>?_) (λh6=>?_)
 ·obtain ⟨k1,rfl,ht⟩:=hT (by omega);refine Sx.At.rs (size:=11) (k:=k1+1) (r:=ro) (xs:=xo) (e:=97) kP (by omega) λg c e=>?_;subst e;refine .rg<|.mv Z<|.cs (X:=Unit) mS Z (λW s=>CB K hq (g:=g) (k:=k1) (c:=c) (by omega) (s.p3_3 [1,0,2] Z)) Z λ_ _=>.nC Z<|.fA Z uJ<|.yw (.loadR1 Z kB kP ht)<|.fA Z uJ<|.st jS Z Z lZ Z (nb Z) Z<|.nt<|.sq<|.fL 8 [(0,0),(1,0),(2,0),(3,0),(4,0),(5,0),(6,1),(7,3)]<|.mv Z<|.mv Z<|.nC Z<|.fA Z jO<|.lD Z vZ Hm Z<|.yw (.loadW Z AA cR Z)<|.bl Z (GE _ _ _ _ _ _ _ _ _ _ _) Z λb19=>.apB YP Z (λ_=>nP) Z (.box Hm z0) Z (bW2 h1) (by simp only [maxLen];omega) (by omega) Z (λ_=>(.d3<|.d2<|.yv (.move Z)<|.nl)) λp20 c20=>.fn (tl:=[_,_,_]) Z<|.nC Z<|.fA Z jO<|.st jS Z Z DU Z (nb Z) Z<|.nt<|.rg<|.mv Z<|.nC Z<|.fA Z mJ<|.st jS Z Z lZ Z (nb Z) Z<|.nl<|?_
  refine jE (.inr Z) rfl .nil rfl λW s=>⟨(p20,c20),Jt,Z,?_⟩;rw [aM (show 0<lv by omega)];exact s.p4_2 [1,3] rfl
 refine .sk<|.tN<|.sq<|.fL 8 [(0,0),(1,0),(2,0),(3,0),(4,0),(5,0),(6,1),(7,3)]<|.mv Z<|.mv Z<|.nC Z<|.fA Z jO<|.lD Z vZ cR Z<|.yw (.loadW Z AA Hm Z)<|.bl Z (GE _ _ _ _ _ _ _ _ _ _ _) Z λb19=>.apB YP Z (λ_=>nP) Z (.box Hm z0) Z (bW2 h1) (by simp only [maxLen];omega) (by omega) Z (λ_=>(.d3<|.d2<|.yv (.move Z)<|.nl)) λp20 c20=>.fn (tl:=[_,_,_]) Z<|.nC Z<|.fA Z jO<|.st jW Z Z DU Z (nb Z) Z<|.nt<|.rg<|.mv Z<|.nC Z<|.fA Z mJ<|.st jW Z Z lZ Z (nb Z) Z<|.nl<|?_
 refine jE (.inr Z) rfl .nil rfl λW s=>⟨(p20,c20),Jt,Z,?_⟩;rw [aD (show ¬ 0<lv by omega)];exact s.p4_2 [2,3] rfl
variable {v0 v1:Value} {xv:List Value}
theorem mP {rd dn:Bool} (K:Tkf H l tp tc) (hq:q.i<l.length) {v2 v3 v4 v5 v6 v7 v8 v9 va vb vc:Value} (h1:∀ u∈[v0,v1,v2,v3,v4,v5,v6,v7,v8,v9,va,vb,vc],u.oneCell'=true) (hkm:k<=600001) (s:St H w0 (.box b [.slice tp l.length tc,iN q.i,ro,rv,.bool rd,.bool dn,.bool bd,iN q.off,iN q.er] 102::.row 179 13 (rv) (k) (xv)::bs) W) :
 Calls prg 108 #[.pointer (some ⟨b,0,none⟩),.agg [v0,v1,v2,v3,v4,v5,v6,v7,v8,v9,va,vb,vc].toArray] W λe W'=>∃ z:Option Addr × Nat,(True)/\e=.returned (.tuple #[])/\St H w0 (.box b [.slice tp l.length tc,iN q.i,ro,(.slice z.1 (k+1) z.2),.bool true,.bool dn,.bool bd,iN q.off,iN q.er] 102::.row 179 13 (.slice z.1 (k+1) z.2) (k+1) (xv++[v0,v1,v2,v3,v4,v5,v6,v7,v8,v9,va,vb,vc])::bs) W':=by
 have hcap:=K.rep.cap;refine fN func108 rfl ntmps108 rfl s ?_;refine .sr<|.bx Z Z Z λb3=>.nt<|.sq<|.fL 8 [(0,0),(1,0),(2,0),(3,0),(4,0),(5,0),(6,1),(7,3)]<|.mv Z<|.mv Z<|.nC Z<|.fA Z jN<|.lD Z qF cR Z<|.yw (.loadW Z xG Hm Z)<|.bl Z (YW _ _ _ _ _ _ _ _ _ _ _ _ _) Z λb10=>.apB aS4 Z (λ_=>nP) Z (.box Hm z0) Z h1 (by simp only [maxLen];omega) (by omega) Z (λ_=>(.d3<|.d2<|.yv (.move Z)<|.nl)) λp20 c20=>.fn (tl:=[_,_,_]) Z<|.nC Z<|.fA Z jN<|.st jW Z Z NX Z (nb Z) Z<|.nt<|.rg<|.mv Z<|.nC Z<|.fA Z mJ<|.st jW Z Z lZ Z (nb Z) Z<|.nl<|?_
 refine jE (.inr Z) rfl .nil rfl λW s=>⟨(p20,c20),Jt,Z,?_⟩;exact s.p4_2 [2,3] rfl
variable {xr:List Value}
theorem bB6 {rd dn:Bool} (K:Tkf H l tp tc) (hq:q.i<l.length) {v2 v3 v4 v5 v6 v7 v8 v9 va vb vc:Value} (h1:∀ u∈[v0,v1,v2,v3,v4,v5,v6,v7,v8,v9,va,vb,vc],u.oneCell'=true) (hkm:k<=600001) (hl:xr.length=k * 13) (s:St H w0 (.box b [.slice tp l.length tc,iN q.i,ro,rv,.bool rd,.bool dn,.bool bd,iN q.off,iN q.er] 102::.row 179 13 (rv) (k+1) (xr++[v0,v1,v2,v3,v4,v5,v6,v7,v8,v9,va,vb,vc])::bs) W) :
 Calls prg 116 #[.pointer (some ⟨b,0,none⟩)] W λe W'=>∃ z:Nat × Nat,(True)/\e=.returned (.agg [v0,v1,v2,v3,v4,v5,v6,v7,v8,v9,va,vb,vc].toArray)/\St H w0 (.box b [.slice tp l.length tc,iN q.i,ro,(.slice (some ⟨z.1,0,none⟩) k z.2),.bool rd,.bool dn,.bool bd,iN q.off,iN q.er] 102::.row 179 13 (.slice (some ⟨z.1,0,none⟩) k z.2) (k) (xr)::bs) W':=by
 have hcap:=K.rep.cap;refine fN func116 rfl ntmps116 rfl s ?_;refine Sx.rowCase (size:=13) (k:=k+1) (r:=rv) (e:=179) cR (by omega) λg c e hkc=>?_;subst e;refine .sr<|.al xY Z λb2=>.ns<|.mv Z<|.nC Z<|.fA Z jN<|.lD Z qF cR Z<|.yw (.lenSl uI Z)<|.yw (.sub Z Z (c:=((k:Nat):Int)) ((w6 (by omega)).trans (by omega)))<|.a Z Z<|.ns<|.mv Z<|.nC Z<|.fA Z jN<|.lD Z qF cR Z<|.mv Z<|.yw (.indexSl uI Z Z (i:=k) Z (by omega) (q:=k * 13) (by omega))<|.yw (.loadR (vs:=[v0,v1,v2,v3,v4,v5,v6,v7,v8,v9,va,vb,vc]) Z xG kP Z (λj u h=>(List.getElem?_append_right (by omega)).trans (by rw [hl,jJ];exact h)))<|.al xY Z λb4=>.sW .head Z Z yA h1 Z<|.ns<|.mv Z<|.mv Z<|.nC Z<|.fA Z jN<|.lD Z qF kP Z<|.mv Z<|.yw (.cutHi uI Z Z Z (by omega) (λq e=>by cases e;rfl))<|.nC Z<|.fA Z jN<|.st jW Z Z NX Z (nb Z) Z<|?_
 refine Sx.At.rcut (size:=13) (m:=k) (ys:=xr) nP (by omega) (by rw [<-hl,jV]) ?_;refine .ns<|.yw (.loadW Z xG Hm Z)<|.sW jS Z Z yA h1 Z<|.nt<|.rt<|?_
 refine y8 Z (.cell Z xG cR rfl) λW s=>?_;exact ⟨(g,c),Jt,Z,s.p4_2 [2,3] rfl⟩
abbrev vC (v:Vl) (s0 s1 s2:Value):List Value:=[.bool v.tm,.bool v.wh,.int .u8 v.e.op.toNat,bV v.e.nm,.int .i64 v.e.n.toInt,s0,.int .u8 v.f.op.toNat,bV v.f.nm,bV v.f.fd,.int .i64 v.f.a.toInt,.int .i64 v.f.b.toInt,s1,s2]
abbrev oC (o:Ov) (s1 s2:Value):List Value:=[.int .u8 o.kd.toNat,iN o.lv,.bool o.tm,.int .u8 o.op.toNat,.int .u8 o.f.op.toNat,bV o.f.nm,bV o.f.fd,.int .i64 o.f.a.toInt,.int .i64 o.f.b.toInt,s1,s2]
structure FmR (H:Hp) (f:Fm) (s1 s2:Value):Prop where
 ex:Rep H (.seq 4 (f.ex.map (dEx .u8))) [s1]
 ar:Rep H (.seq 7 (f.args.map (dFm .u8))) [s2]
 nm:f.nm.length<=1000000
 fd:f.fd.length<=1000000
structure ExR (H:Hp) (e:Ex) (s:Value):Prop where
 ar:Rep H (.seq 4 (e.args.map (dEx .u8))) [s]
 nm:e.nm.length<=1000000
structure VlR (H:Hp) (v:Vl) (s0 s1 s2:Value):Prop where
 e:ExR H v.e s0
 f:FmR H v.f s1 s2
variable {H':Hp} {f:Fm} {s1 s2:Value}
theorem FmR.up (h:FmR H f s1 s2) (u:Up H H'):FmR H' f s1 s2:=⟨h.ex.up u,h.ar.up u,h.nm,h.fd⟩
variable {e:Ex}
theorem ExR.up {s:Value} (h:ExR H e s) (u:Up H H'):ExR H' e s:=⟨h.ar.up u,h.nm⟩
theorem VlR.up {v:Vl} {s0:Value} (h:VlR H v s0 s1 s2) (u:Up H H'):VlR H' v s0 s1 s2:=⟨h.e.up u,h.f.up u⟩
theorem ExR.rep {s:Value} (h:ExR H e s):Rep H (dEx .u8 e) [.int .u8 e.op.toNat,bV e.nm,.int .i64 e.n.toInt,s]:=by
 obtain ⟨op,nm,n,args⟩:=e;exact uF h.nm h.ar
theorem FmR.rep (h:FmR H f s1 s2):Rep H (dFm .u8 f) (cFm .u8 f.op f.nm f.fd f.a f.b s1 s2):=by
 obtain ⟨op,nm,fd,a,b,ex,args⟩:=f;exact sU h.nm h.fd h.ex h.ar
variable {z:Nat}
theorem Rep.nil4:Rep H (.seq z []) [.slice none 0 0]:=Rep.empty (p:=none) (c:=0) (by decide)
theorem FmR.zero (h1:f.ex=[]) (h2:f.args=[]) (h3:f.nm.length<=1000000) (h4:f.fd.length<=1000000):FmR H f (.slice none 0 0) (.slice none 0 0):=⟨by rw [h1];exact Rep.nil4,by rw [h2];exact Rep.nil4,h3,h4⟩
theorem ExR.zero (h1:e.args=[]) (h3:e.nm.length<=1000000):ExR H e (.slice none 0 0):=⟨by rw [h1];exact Rep.nil4,h3⟩
theorem MO {ds:List D} {s:Value} (h:Rep H (.seq z ds) [s]):s.oneCell'=true:=h.one s (cO.2 rfl)
theorem VlR.one {v:Vl} {s0:Value} (h:VlR H v s0 s1 s2):∀ u∈vC v s0 s1 s2,u.oneCell'=true:=by
 intro u hu;simp only [bP,List.not_mem_nil,or_false] at hu;rcases hu with rfl | rfl | rfl | rfl | rfl | rfl | rfl | rfl | rfl | rfl | rfl | rfl | rfl <;> first | rfl | exact MO h.e.ar | exact MO h.f.ex | exact MO h.f.ar
inductive VR (H:Hp):List Vl->List Value->Prop
 | nil:VR H [] []
 | cons {v:Vl} {vs:List Vl} {xv:List Value} {s0 s1 s2:Value}:VR H vs xv->VlR H v s0 s1 s2->VR H (v::vs) (xv++vC v s0 s1 s2)
theorem VR.up (u:Up H H'):∀ {vs:List Vl} {xv:List Value},VR H vs xv->VR H' vs xv
 | _,_,.nil=>.nil
 | _,_,.cons h k=>.cons (h.up u) (k.up u)
theorem VR.len:∀ {vs:List Vl} {xv:List Value},VR H vs xv->xv.length=vs.length * 13
 | _,_,.nil=>rfl
 | _,_,.cons h _=>by have:=h.len;simp only [aE,aK,aQ];omega
inductive Ops (H:Hp):List Ov->List Value->List Res->Prop
 | nil:Ops H [] [] []
 | cons {o:Ov} {r:List Ov} {xo:List Value} {s1 s2:Value} {AR:List Res}:Ops H r xo AR->o.kd≠5->FmR H o.f s1 s2->Ops H (o::r) (xo++oC o s1 s2) AR
 | arg {o:Ov} {r:List Ov} {xo xe:List Value} {s1:Value} {AR:List Res}:Ops H r xo AR->o.kd=5->o.f.args=[]->o.f.nm.length<=1000000->o.f.fd.length<=1000000->eJ H 4 (o.f.ex.map (dEx .u8)) xe->s1.oneCell'=true->Ops H (o::r) (xo++oC o s1 (.slice none 0 0)) (.row 76 4 s1 o.f.ex.length xe::AR)
theorem Ops.up (u:Up H H'):∀ {os:List Ov} {xo:List Value} {AR:List Res},Ops H os xo AR->Ops H' os xo AR
 | _,_,_,.nil=>.nil
 | _,_,_,.cons h k f=>.cons (h.up u) k (f.up u)
 | _,_,_,.arg h k a b c z s=>.arg (h.up u) k a b c (z.up u) s
theorem Ops.len:∀ {os:List Ov} {xo:List Value} {AR:List Res},Ops H os xo AR->xo.length=os.length * 11
 | _,_,_,.nil=>rfl
 | _,_,_,.cons h _ _=>by have:=h.len;simp only [aE,aK,aQ];omega
 | _,_,_,.arg h _ _ _ _ _ _=>by have:=h.len;simp only [aE,aK,aQ];omega
variable {AR:List Res}
theorem Ops.top {o:Ov} {r:List Ov} (h:Ops H (o::r) xo AR):∃ xr s1 s2,xo=xr++oC o s1 s2/\xr.length=r.length * 11/\s1.oneCell'=true/\s2.oneCell'=true:=by
 cases h with
 | cons h k f=>exact ⟨_,_,_,Z,h.len,MO f.ex,MO f.ar⟩
 | arg h k a b c z s=>exact ⟨_,_,_,Z,h.len,s,Z⟩
variable {n j:Nat}
theorem kY {cs:List Value} {u:Value} (hl:xr.length=n) (h:cs[j]? = some u):(xr++cs)[n+j]? = some u:=by
 subst hl;rw [List.getElem?_append_right (Nat.le_add_right _ _),jJ];exact h
theorem cA3 {o:Ov} (h1:s1.oneCell'=true) (h2:s2.oneCell'=true):∀ u∈oC o s1 s2,u.oneCell'=true:=by
 intro u hu;simp only [bP,List.not_mem_nil,or_false] at hu;rcases hu with rfl | rfl | rfl | rfl | rfl | rfl | rfl | rfl | rfl | rfl | rfl <;> first | rfl | exact h1 | exact h2
structure Sq (H:Hp) (q:Ps) (xo xv:List Value) (AR:List Res):Prop where
 ops:Ops H q.op xo AR
 vls:VR H q.x.1 xv
theorem Sq.up {q:Ps} (h:Sq H q xo xv AR) (u:Up H H'):Sq H' q xo xv AR:=⟨h.ops.up u,h.vls.up u⟩
theorem Sq.at {q:Ps} {c:Rq} (h:Sq H q xo xv AR):Sq H (q.at c) xo xv AR:=⟨h.ops,h.vls⟩
abbrev pB (tp:Option Addr) (n tc:Nat) (q:Ps) (b:Nat) (ro rv:Value) (xo xv:List Value):List Res:=[.box b [.slice tp n tc,iN q.c.i,ro,rv,.bool q.rd,.bool q.dn,.bool q.x.2,iN q.c.off,iN q.c.er] 102,.row 97 11 ro q.op.length xo,.row 179 13 rv q.x.1.length xv]
abbrev StP (H:Hp) (w0:World) (bs:List Res) (W:World) (b:Nat) (l:Tks) (tp:Option Addr) (tc:Nat) (q:Ps) (ro rv:Value) (xo xv:List Value) (AR:List Res):Prop:=St H w0 (pB tp l.length tc q b ro rv xo xv++(AR++bs)) W
def Get (w0:World) (bs:List Res) (b:Nat) (l:Tks) (tp:Option Addr) (tc:Nat) (H:Hp) (q:Ps) (e:Ending) (W:World):Prop :=
 ∃ z:Hp × Value × Value × List Value × List Value × List Res,(HUp w0 H z.1/\Sq z.1 q z.2.2.2.1 z.2.2.2.2.1 z.2.2.2.2.2)/\e=.returned (.tuple #[])/\StP z.1 w0 bs W b l tp tc q z.2.1 z.2.2.1 z.2.2.2.1 z.2.2.2.2.1 z.2.2.2.2.2
end Go.Proofs.YtidclioghdbphaaGreatDoor
namespace Go.Proofs
open Go.Shelf
def Tryz.lays156_ren:Go.Shelf.Ren:=⟨λ| 156=>90 | 165=>141 | 166=>142 | 169=>143 | 240=>172 | 241=>173 | 276=>195 | 277=>196 | n=>n,λ| 31=>71 | 9=>9 | 3=>3 | 4=>4 | 0=>0 | 20=>20 | 72=>209 | 76=>212 | 70=>207 | 37=>50 | 75=>211 | 127=>232 | 164=>247 | 5=>5 | 80=>40 | n=>n,λ| n=>n⟩
theorem Tryz.lays156:Go.Proofs.Lays.n156 prg Tryz.lays156_ren:={
 mixed:=by kernel_rfl
 f156:=Tryz.func90.trans (congrArg some (by kernel_rfl))
 f165:=Tryz.func141.trans (congrArg some (by kernel_rfl))
 f166:=Tryz.func142.trans (congrArg some (by kernel_rfl))
 f169:=Tryz.func143.trans (congrArg some (by kernel_rfl))
 f240:=Tryz.func172.trans (congrArg some (by kernel_rfl))
 f241:=Tryz.func173.trans (congrArg some (by kernel_rfl))
 f276:=Tryz.func195.trans (congrArg some (by kernel_rfl))
 f277:=Tryz.func196.trans (congrArg some (by kernel_rfl))
 t0:=Tryz.underlying0
 a0:=Tryz.isAgg0
 z0:=Tryz.sizeOf0
 v0:=Tryz.zeroValue0
 t3:=Tryz.underlying3
 a3:=Tryz.isAgg3
 z3:=Tryz.sizeOf3
 v3:=Tryz.zeroValue3
 t4:=Tryz.underlying4
 a4:=Tryz.isAgg4
 z4:=Tryz.sizeOf4
 v4:=Tryz.zeroValue4
 t9:=Tryz.underlying9
 a9:=Tryz.isAgg9
 z9:=Tryz.sizeOf9
 v9:=Tryz.zeroValue9
 t20:=Tryz.underlying20
 a20:=Tryz.isAgg20
 z20:=Tryz.sizeOf20
 v20:=Tryz.zeroValue20
 t31:=Tryz.underlying71
 a31:=Tryz.isAgg71
 z31:=Tryz.sizeOf71
 v31:=Tryz.zeroValue71
 t37:=Tryz.underlying50
 a37:=Tryz.isAgg50
 z37:=Tryz.sizeOf50
 v37:=Tryz.zeroValue50
 t70:=Tryz.underlying207
 a70:=Tryz.isAgg207
 z70:=Tryz.sizeOf207
 v70:=Tryz.zeroValue207
 t72:=Tryz.underlying209
 a72:=Tryz.isAgg209
 z72:=Tryz.sizeOf209
 v72:=Tryz.zeroValue209
 t75:=Tryz.underlying211
 a75:=Tryz.isAgg211
 z75:=Tryz.sizeOf211
 v75:=Tryz.zeroValue211
 t76:=Tryz.underlying212
 a76:=Tryz.isAgg212
 z76:=Tryz.sizeOf212
 v76:=Tryz.zeroValue212
 t127:=Tryz.underlying232
 a127:=Tryz.isAgg232
 z127:=Tryz.sizeOf232
 v127:=Tryz.zeroValue232
 t164:=Tryz.underlying247
 a164:=Tryz.isAgg247
 z164:=Tryz.sizeOf247
 v164:=Tryz.zeroValue247 }
theorem Tryz.Builder_Extra_156:Builder.Extra prg Tryz.lays156_ren:={
 sizeBuilder:=by kernel_rfl
 liesBuilder:=by kernel_rfl
 t5:=Tryz.underlying5
 a5:=Tryz.isAgg5
 z5:=Tryz.sizeOf5
 v5:=Tryz.zeroValue5
 infoByte:=by kernel_rfl
 cellsByte:=by kernel_rfl
 sizeByte:=by kernel_rfl
 neB5:=by decide }
open Go.RowKit in
theorem Tryz.strings_Join_none (a:Option Addr) (c:Nat) (sep:ByteArray) (w:World) :
 Calls prg 90 #[.slice a 0 c,.string sep] w λe w'=>e=.returned (.string ⟨#[]⟩)/\w'=w:=Any.strings_Join_none Tryz.lays156 Tryz.Builder_Extra_156 a c sep w
open Go.RowKit in
theorem Tryz.strings_Join (bk o c:Nat) (xs:List ByteArray) (sep:ByteArray) (w:World) (hcells:∀ (j:Nat) x,xs[j]? = some x->w.cell? ⟨bk,o+j,none⟩=some (.string x)) (hbk:bk<w.heap.size) (hN:xs.length<=140737488355328) (hcap:xs.length<=c) (hlen:(Lib.join (xs.map (·.data.toList)) sep.data.toList).length<=140737488355328) :
 Calls prg 90 #[.slice (some ⟨bk,o,none⟩) xs.length c,.string sep] w λe w'=>e=.returned (.string ⟨(Lib.join (xs.map (·.data.toList)) sep.data.toList).toArray⟩)/\Below w.heap.size w w':=Any.strings_Join Tryz.lays156 Tryz.Builder_Extra_156 bk o c xs sep w hcells hbk hN hcap hlen
def Tryz.laysM171_ren:Go.Shelf.Ren:=⟨λ| 171=>144 | 243=>174 | 246=>171 | 283=>191 | 284=>192 | 285=>193 | 286=>194 | 129=>203 | 317=>202 | 318=>204 | 319=>205 | 320=>206 | 337=>210 | 338=>211 | n=>n,λ| 3=>3 | 9=>9 | 2=>2 | 4=>4 | 171=>241 | 0=>0 | 53=>242 | 37=>50 | 5=>5 | 173=>245 | 212=>257 | 51=>250 | 20=>20 | 213=>258 | 46=>234 | 232=>264 | 233=>265 | n=>n,λ| 17=>6 | 18=>7 | 19=>8 | n=>n⟩
theorem Tryz.laysM171:Go.Proofs.LaysM.n171 prg Tryz.laysM171_ren:={
 mixed:=by kernel_rfl
 f129:=Tryz.func203.trans (congrArg some (by kernel_rfl))
 f171:=Tryz.func144.trans (congrArg some (by kernel_rfl))
 f243:=Tryz.func174.trans (congrArg some (by kernel_rfl))
 f246:=Tryz.func171.trans (congrArg some (by kernel_rfl))
 f283:=Tryz.func191.trans (congrArg some (by kernel_rfl))
 f284:=Tryz.func192.trans (congrArg some (by kernel_rfl))
 f285:=Tryz.func193.trans (congrArg some (by kernel_rfl))
 f286:=Tryz.func194.trans (congrArg some (by kernel_rfl))
 f317:=Tryz.func202.trans (congrArg some (by kernel_rfl))
 f318:=Tryz.func204.trans (congrArg some (by kernel_rfl))
 f319:=Tryz.func205.trans (congrArg some (by kernel_rfl))
 f320:=Tryz.func206.trans (congrArg some (by kernel_rfl))
 f337:=Tryz.func210.trans (congrArg some (by kernel_rfl))
 f338:=Tryz.func211.trans (congrArg some (by kernel_rfl))
 t0:=Tryz.underlying0
 a0:=Tryz.isAgg0
 z0:=Tryz.sizeOf0
 v0:=Tryz.zeroValue0
 t2:=Tryz.underlying2
 a2:=Tryz.isAgg2
 z2:=Tryz.sizeOf2
 v2:=Tryz.zeroValue2
 t3:=Tryz.underlying3
 a3:=Tryz.isAgg3
 z3:=Tryz.sizeOf3
 v3:=Tryz.zeroValue3
 t4:=Tryz.underlying4
 a4:=Tryz.isAgg4
 z4:=Tryz.sizeOf4
 v4:=Tryz.zeroValue4
 t5:=Tryz.underlying5
 a5:=Tryz.isAgg5
 z5:=Tryz.sizeOf5
 v5:=Tryz.zeroValue5
 t9:=Tryz.underlying9
 a9:=Tryz.isAgg9
 z9:=Tryz.sizeOf9
 v9:=Tryz.zeroValue9
 t20:=Tryz.underlying20
 a20:=Tryz.isAgg20
 z20:=Tryz.sizeOf20
 v20:=Tryz.zeroValue20
 t37:=Tryz.underlying50
 a37:=Tryz.isAgg50
 z37:=Tryz.sizeOf50
 v37:=Tryz.zeroValue50
 t46:=Tryz.underlying234
 a46:=Tryz.isAgg234
 z46:=Tryz.sizeOf234
 v46:=Tryz.zeroValue234
 t51:=Tryz.underlying250
 a51:=Tryz.isAgg250
 z51:=Tryz.sizeOf250
 v51:=Tryz.zeroValue250
 t53:=Tryz.underlying242
 a53:=Tryz.isAgg242
 z53:=Tryz.sizeOf242
 v53:=Tryz.zeroValue242
 t171:=Tryz.underlying241
 a171:=Tryz.isAgg241
 z171:=Tryz.sizeOf241
 v171:=Tryz.zeroValue241
 t173:=Tryz.underlying245
 a173:=Tryz.isAgg245
 z173:=Tryz.sizeOf245
 v173:=Tryz.zeroValue245
 t212:=Tryz.underlying257
 a212:=Tryz.isAgg257
 z212:=Tryz.sizeOf257
 v212:=Tryz.zeroValue257
 t213:=Tryz.underlying258
 a213:=Tryz.isAgg258
 z213:=Tryz.sizeOf258
 t232:=Tryz.underlying264
 a232:=Tryz.isAgg264
 z232:=Tryz.sizeOf264
 v232:=Tryz.zeroValue264
 t233:=Tryz.underlying265
 a233:=Tryz.isAgg265
 z233:=Tryz.sizeOf265
 v233:=Tryz.zeroValue265
 g17:=by kernel_rfl
 g18:=by kernel_rfl
 g19:=by kernel_rfl
 i0:=by kernel_rfl
 i2:=by kernel_rfl
 i3:=by kernel_rfl
 i4:=by kernel_rfl
 i5:=by kernel_rfl
 i9:=by kernel_rfl
 i20:=by kernel_rfl
 i37:=by kernel_rfl
 i46:=by kernel_rfl
 i51:=by kernel_rfl
 i53:=by kernel_rfl
 i171:=by kernel_rfl
 i173:=by kernel_rfl
 i212:=by kernel_rfl
 i232:=by kernel_rfl
 i233:=by kernel_rfl
 m17:=by kernel_rfl
 m18:=by kernel_rfl
 m19:=by kernel_rfl }
open Go.RowKit Go.Sort Go.Lib in
theorem Tryz.strconv_Itoa (n:Int) (h0:-9223372036854775808<=n) (h1:n<=9223372036854775807) (w:World) (htab:Lib.TabIs prg w "internal/strconv.uint64pow10" .u64 Lib.pow10Tab) :
 Calls prg 144 #[.int .i64 n] w λe w'=>e=.returned (.string ⟨(Lib.itoa n).toArray⟩)/\∃ k os,w'=grow (w.drewN k) os:=Any.strconv_Itoa Tryz.laysM171 n h0 h1 w htab
def Tryz.laysM173_ren:Go.Shelf.Ren:=⟨λ| 173=>138 | 246=>171 | 283=>191 | 284=>192 | 285=>193 | 286=>194 | 129=>203 | 317=>202 | 318=>204 | 319=>205 | 320=>206 | 337=>210 | 338=>211 | n=>n,λ| 2=>2 | 3=>3 | 9=>9 | 4=>4 | 171=>241 | 0=>0 | 53=>242 | 37=>50 | 5=>5 | 173=>245 | 212=>257 | 51=>250 | 20=>20 | 213=>258 | 46=>234 | 232=>264 | 233=>265 | n=>n,λ| 17=>6 | 18=>7 | 19=>8 | n=>n⟩
theorem Tryz.laysM173:Go.Proofs.LaysM.n173 prg Tryz.laysM173_ren:={
 mixed:=by kernel_rfl
 f129:=Tryz.func203.trans (congrArg some (by kernel_rfl))
 f173:=Tryz.func138.trans (congrArg some (by kernel_rfl))
 f246:=Tryz.func171.trans (congrArg some (by kernel_rfl))
 f283:=Tryz.func191.trans (congrArg some (by kernel_rfl))
 f284:=Tryz.func192.trans (congrArg some (by kernel_rfl))
 f285:=Tryz.func193.trans (congrArg some (by kernel_rfl))
 f286:=Tryz.func194.trans (congrArg some (by kernel_rfl))
 f317:=Tryz.func202.trans (congrArg some (by kernel_rfl))
 f318:=Tryz.func204.trans (congrArg some (by kernel_rfl))
 f319:=Tryz.func205.trans (congrArg some (by kernel_rfl))
 f320:=Tryz.func206.trans (congrArg some (by kernel_rfl))
 f337:=Tryz.func210.trans (congrArg some (by kernel_rfl))
 f338:=Tryz.func211.trans (congrArg some (by kernel_rfl))
 t0:=Tryz.underlying0
 a0:=Tryz.isAgg0
 z0:=Tryz.sizeOf0
 v0:=Tryz.zeroValue0
 t2:=Tryz.underlying2
 a2:=Tryz.isAgg2
 z2:=Tryz.sizeOf2
 v2:=Tryz.zeroValue2
 t3:=Tryz.underlying3
 a3:=Tryz.isAgg3
 z3:=Tryz.sizeOf3
 v3:=Tryz.zeroValue3
 t4:=Tryz.underlying4
 a4:=Tryz.isAgg4
 z4:=Tryz.sizeOf4
 v4:=Tryz.zeroValue4
 t5:=Tryz.underlying5
 a5:=Tryz.isAgg5
 z5:=Tryz.sizeOf5
 v5:=Tryz.zeroValue5
 t9:=Tryz.underlying9
 a9:=Tryz.isAgg9
 z9:=Tryz.sizeOf9
 v9:=Tryz.zeroValue9
 t20:=Tryz.underlying20
 a20:=Tryz.isAgg20
 z20:=Tryz.sizeOf20
 v20:=Tryz.zeroValue20
 t37:=Tryz.underlying50
 a37:=Tryz.isAgg50
 z37:=Tryz.sizeOf50
 v37:=Tryz.zeroValue50
 t46:=Tryz.underlying234
 a46:=Tryz.isAgg234
 z46:=Tryz.sizeOf234
 v46:=Tryz.zeroValue234
 t51:=Tryz.underlying250
 a51:=Tryz.isAgg250
 z51:=Tryz.sizeOf250
 v51:=Tryz.zeroValue250
 t53:=Tryz.underlying242
 a53:=Tryz.isAgg242
 z53:=Tryz.sizeOf242
 v53:=Tryz.zeroValue242
 t171:=Tryz.underlying241
 a171:=Tryz.isAgg241
 z171:=Tryz.sizeOf241
 v171:=Tryz.zeroValue241
 t173:=Tryz.underlying245
 a173:=Tryz.isAgg245
 z173:=Tryz.sizeOf245
 v173:=Tryz.zeroValue245
 t212:=Tryz.underlying257
 a212:=Tryz.isAgg257
 z212:=Tryz.sizeOf257
 v212:=Tryz.zeroValue257
 t213:=Tryz.underlying258
 a213:=Tryz.isAgg258
 z213:=Tryz.sizeOf258
 t232:=Tryz.underlying264
 a232:=Tryz.isAgg264
 z232:=Tryz.sizeOf264
 v232:=Tryz.zeroValue264
 t233:=Tryz.underlying265
 a233:=Tryz.isAgg265
 z233:=Tryz.sizeOf265
 v233:=Tryz.zeroValue265
 g17:=by kernel_rfl
 g18:=by kernel_rfl
 g19:=by kernel_rfl
 i0:=by kernel_rfl
 i2:=by kernel_rfl
 i3:=by kernel_rfl
 i4:=by kernel_rfl
 i5:=by kernel_rfl
 i9:=by kernel_rfl
 i20:=by kernel_rfl
 i37:=by kernel_rfl
 i46:=by kernel_rfl
 i51:=by kernel_rfl
 i53:=by kernel_rfl
 i171:=by kernel_rfl
 i173:=by kernel_rfl
 i212:=by kernel_rfl
 i232:=by kernel_rfl
 i233:=by kernel_rfl
 m17:=by kernel_rfl
 m18:=by kernel_rfl
 m19:=by kernel_rfl }
open Go.RowKit Go.Sort Go.Lib in
theorem Tryz.strconv_FormatInt_10 (n:Int) (h0:-9223372036854775808<=n) (h1:n<=9223372036854775807) (w:World) (htab:Lib.TabIs prg w "internal/strconv.uint64pow10" .u64 Lib.pow10Tab) :
 Calls prg 138 #[.int .i64 n,.int .i64 10] w λe w'=>e=.returned (.string ⟨(Lib.itoa n).toArray⟩)/\∃ k os,w'=grow (w.drewN k) os:=Any.strconv_FormatInt_10 Tryz.laysM173 n h0 h1 w htab
def Tryz.lays219_ren:Go.Shelf.Ren:=⟨λ| 219=>145 | 217=>175 | 225=>176 | 224=>177 | 267=>178 | 266=>197 | 314=>198 | n=>n,λ| 9=>9 | 3=>3 | 4=>4 | 5=>5 | 46=>234 | 146=>251 | 51=>250 | n=>n,λ| 1=>4 | n=>n⟩
theorem Tryz.lays219:Go.Proofs.Lays.n219 prg Tryz.lays219_ren:={
 mixed:=by kernel_rfl
 f217:=Tryz.func175.trans (congrArg some (by kernel_rfl))
 f219:=Tryz.func145.trans (congrArg some (by kernel_rfl))
 f224:=Tryz.func177.trans (congrArg some (by kernel_rfl))
 f225:=Tryz.func176.trans (congrArg some (by kernel_rfl))
 f266:=Tryz.func197.trans (congrArg some (by kernel_rfl))
 f267:=Tryz.func178.trans (congrArg some (by kernel_rfl))
 f314:=Tryz.func198.trans (congrArg some (by kernel_rfl))
 t3:=Tryz.underlying3
 a3:=Tryz.isAgg3
 z3:=Tryz.sizeOf3
 v3:=Tryz.zeroValue3
 t4:=Tryz.underlying4
 a4:=Tryz.isAgg4
 z4:=Tryz.sizeOf4
 v4:=Tryz.zeroValue4
 t5:=Tryz.underlying5
 a5:=Tryz.isAgg5
 z5:=Tryz.sizeOf5
 v5:=Tryz.zeroValue5
 t9:=Tryz.underlying9
 a9:=Tryz.isAgg9
 z9:=Tryz.sizeOf9
 v9:=Tryz.zeroValue9
 t46:=Tryz.underlying234
 a46:=Tryz.isAgg234
 z46:=Tryz.sizeOf234
 v46:=Tryz.zeroValue234
 t51:=Tryz.underlying250
 a51:=Tryz.isAgg250
 z51:=Tryz.sizeOf250
 v51:=Tryz.zeroValue250
 t146:=Tryz.underlying251
 a146:=Tryz.isAgg251
 z146:=Tryz.sizeOf251
 v146:=Tryz.zeroValue251
 g1:=by kernel_rfl }
open Go.RowKit Go.Lib in
theorem Tryz.stringslite_Index_one (s:ByteArray) (c:UInt8) (w:World) :
 Calls prg 145 #[.string s,.string ⟨#[c]⟩] w λe w'=>e=.returned (.int .i64 (Lib.indexByte s.data.toList c))/\w'=w:=Any.stringslite_Index_one Tryz.lays219 s c w
end Go.Proofs
namespace Go.Proofs.YtidclioghdbphaaGreatDoor
open Go.RowKit Go.Par Go.Sx Tryz
theorem xJ:∀ n:Str,(∃ i:Nat,Lib.indexByte n 46=(i:Int)/\i<n.length/\eA n=some (n.take i,n.drop (i+1)))\/(Lib.indexByte n 46=-1/\eA n=none)
 | []=>.inr ⟨Z,Z⟩
 | c::r=>by
  by_cases hc:c=46
  ·refine .inl ⟨0,?_,Nat.succ_pos _,?_⟩
   ·rw [Lib.indexByte,aM (by rw [hc];rfl)];rfl
   ·rw [eA,aM hc];rfl
  ·have hb:¬ (c == 46)=true:=λe=>hc (by simpa using e);rcases xJ r with ⟨i,h1,h2,h3⟩ | ⟨h1,h2⟩
   ·refine .inl ⟨i+1,?_,Nat.succ_lt_succ h2,?_⟩
    ·rw [Lib.indexByte,aD hb,h1,aD (by intro e;have:=eq_of_beq e;omega)];omega
    ·rw [eA,aD hc,h3];rfl
   ·refine .inr ⟨?_,?_⟩
    ·rw [Lib.indexByte,aD hb,h1];rfl
    ·rw [eA,aD hc,h2];rfl
def spV (n:Str):Value:=.tuple #[bV (spA n),bV (spB n),.bool (eA n).isSome]
def aQ5 (n:Str):Value:=.tuple #[bV (if (eA n).isSome then spA n else n),bV (spB n),.bool (eA n).isSome]
theorem bI7 (n:Str) (hn:n.length<=9223372036854775807) (w:World):Calls prg 94 #[bV n,bV [46]] w λe w'=>e=.returned (aQ5 n)/\Ext w w':=by
 refine y6 func94 Z ntmps94 Z ?_;refine .sr<|.a Z Z<|.a Z Z<|.aq Z<|.sq<|.sm Z<|.mv Z<|.yw (.call (v:=.int .i64 (Lib.indexByte n 46)) aE0 Z λW s=>(Tryz.stringslite_Index_one ⟨n.toArray⟩ 46 W).mono λ_ _ h=>⟨h.1,by rw [h.2];exact Ext.refl _⟩)<|.a Z Z<|.ns<|.mv Z<|.yw (.geq Z Z)<|.nt<|.ce Z (λh12=>?_) (λh12=>?_)
 ·obtain ⟨i,hx,hi,hs⟩:∃ i:Nat,Lib.indexByte n 46=(i:Int)/\i<n.length/\eA n=some (n.take i,n.drop (i+1)):=by
   rcases xJ n with h | ⟨h,_⟩
   ·exact h
   ·omega
  refine .sq<|.fL 11 [(0,0),(1,0),(2,0),(3,0),(4,0),(5,0),(6,0),(7,0),(8,0),(9,0),(10,0)]<|.mv Z<|.mv Z<|.yw (.takeS dE Z Z (hi:=i) hx (by omega))<|.mv Z<|.mv Z<|.mv Z<|.yw (.lenS dE Z)<|.yw (.add Z Z (c:=((i+1:Nat):Int)) (by rw [hx];exact (w64 (by show _<=(i:Int)+((1:Nat):Int);omega) (by show (i:Int)+((1:Nat):Int)<=_;omega)).trans (by show (i:Int)+((1:Nat):Int)=_;omega)))<|.yw (.dropS dE Z Z (lo:=i+1) Z (by omega))<|.a Z Z<|.a Z Z<|.fn (tl:=[_]) Z<|.az Z<|.tR<|?_
  refine y7 Z (.cons (.tmp Z) (.cons (.tmp Z) (.cons (.tmp Z) .nil))) rfl λW s=>⟨(by unfold aQ5 spA spB;rw [hs];rfl),s.ext⟩
 have hs:eA n=none:=by
  rcases xJ n with ⟨i,h,_⟩ | ⟨_,h⟩
  ·omega
  ·exact h
 refine .sk<|.tN<|.sm Z<|.a Z Z<|.a Z Z<|.az Z<|?_
 refine y7 Z (.cons (.tmp Z) (.cons (.tmp Z) (.cons (.tmp Z) .nil))) rfl λW s=>⟨(by unfold aQ5 spA spB;rw [hs];rfl),s.ext⟩
theorem bU5 (n:Str) (hn:n.length<=9223372036854775807) (w:World):Calls prg 49 #[bV n,bV [46]] w λe w'=>e=.returned (aQ5 n)/\Ext w w':=by
 refine y6 func49 Z ntmps49 Z ?_;refine .sr<|.a Z Z<|.a Z Z<|.a Z Z<|.ns<|.mv Z<|.mv Z<|.yw (.call (v:=aQ5 n) aS7 Z λW s=>bI7 n hn W)<|.yw (.extract Z Z)<|.yw (.extract Z Z)<|.yw (.extract Z Z)<|.a Z Z<|.a Z Z<|.az Z<|?_
 refine y7 Z (.cons (.tmp Z) (.cons (.tmp Z) (.cons (.tmp Z) .nil))) rfl λW s=>⟨Z,s.ext⟩
theorem PY (n:Str) (hn:n.length<=9223372036854775807) (w:World):Calls prg 20 #[bV n] w λe w'=>e=.returned (spV n)/\Ext w w':=by
 refine y6 func20 Z ntmps20 Z ?_;refine .sr<|.a Z Z<|.a Z Z<|.a Z Z<|.ns<|.mv Z<|.yw (.call (v:=aQ5 n) aT7 Z λW s=>bU5 n hn W)<|.mv Z<|.yw (.extract Z Z)<|.yw (.extract Z Z)<|.yw (.extract Z Z)<|.a Z Z<|.a Z Z<|.aq Z<|.sq<|.sm Z<|.yw (.not Z)<|.nt<|.cd Z (λh12=>?_) (λh12=>?_)
 ·have hs:eA n=none:=by cases e:eA n with | none=>rfl | some x=>rw [e] at h12;cases h12
  refine .sr<|.a Z Z<|.a Z Z<|.az Z<|.tR<|?_
  refine y7 Z (.cons (.tmp Z) (.cons (.tmp Z) (.cons (.tmp Z) .nil))) rfl λW s=>⟨(by unfold spV spA spB;rw [hs];rfl),s.ext⟩
 obtain ⟨x,hs⟩:∃ x,eA n=some x:=by cases e:eA n with | some x=>exact ⟨x,rfl⟩ | none=>rw [e] at h12;cases h12
 refine .sk<|.tN<|.sm Z<|.mv Z<|.a Z Z<|.a Z Z<|.az Z<|?_
 refine y7 Z (.cons (.tmp Z) (.cons (.tmp Z) (.cons (.tmp Z) .nil))) rfl λW s=>⟨(by unfold spV spA spB;rw [hs];rfl),s.ext⟩
theorem cH6 {p:Value->Prop} {t u e0 e1 e2 e3:Value} {l:List Value} (h1:∀ x∈t::u::e0::e1::e2::e3::l,p x):∀ x∈[e0,e1,e2,e3],p x:=λx hx=>h1 x (cI _<|cI _<|(cK.2 (.inl hx):x∈[e0,e1,e2,e3]++l))
theorem cM1 {p:Value->Prop} {t u e0 e1 e2 e3:Value} {l:List Value} (h1:∀ x∈t::u::e0::e1::e2::e3::l,p x):∀ x∈l,p x:=λx hx=>h1 x (cI _<|cI _<|(cK.2 (.inr hx):x∈[e0,e1,e2,e3]++l))
variable {k:Nat} {xr:List Value}
variable {H:Hp} {w0 W:World} {bs:List Res} {b tc:Nat} {l:Tks} {tp:Option Addr} {ro rv:Value} {bd:Bool} {q:Rq}
theorem zA {rd dn:Bool} (K:Tkf H l tp tc) (hq:q.i<l.length) {tm wh:Bool} {eop:UInt8} {enm:Str} {e2 e3 f0 f1 f2 f3 f4 f5 f6:Value} (h1:∀ u∈[.bool tm,.bool wh,.int .u8 eop.toNat,bV enm,e2,e3,f0,f1,f2,f3,f4,f5,f6],u.oneCell'=true) (hkm:k<=600001) (hl:xr.length=k * 13) (s:St H w0 (.box b [.slice tp l.length tc,iN q.i,ro,rv,.bool rd,.bool dn,.bool bd,iN q.off,iN q.er] 102::.row 179 13 (rv) (k+1) (xr++[.bool tm,.bool wh,.int .u8 eop.toNat,bV enm,e2,e3,f0,f1,f2,f3,f4,f5,f6])::bs) W) :
 Calls prg 155 #[.pointer (some ⟨b,0,none⟩)] W λe W'=>∃ z:Nat × Nat,(True)/\e=.returned (.agg [.int .u8 eop.toNat,bV enm,e2,e3].toArray)/\St H w0 (.box b [.slice tp l.length tc,iN q.i,ro,(.slice (some ⟨z.1,0,none⟩) k z.2),.bool rd,.bool dn,.bool (bd || !tm),iN q.off,iN q.er] 102::.row 179 13 (.slice (some ⟨z.1,0,none⟩) k z.2) (k) (xr)::bs) W':=by
 have hcap:=K.rep.cap;refine fN func155 rfl ntmps155 rfl s ?_;refine .sr<|.al kS Z λb2=>.ns<|.mv Z<|.cs (X:=Nat × Nat) GD Z (λW s=>bB6 K hq h1 hkm hl (s.p3_3 [1,2,0] Z)) Z λz _=>.al xY Z λb3=>.sW .head Z Z yA h1 Z<|.ns<|.mv Z<|.mv Z<|.nC Z<|.fA Z nU<|.lD Z kB cR Z<|.mv Z<|.b2 (λh11=>?_) (λh11=>?_)
 ·subst h11;refine .gG<|.gG<|.gG<|.yw (.pickT Z Z)<|.nC Z<|.fA Z nU<|.st jS Z Z lZ Z (nb Z) Z<|.ns<|.fA Z vO<|.yw (.loadS (vs:=[_,_,_,_]) Z dS Hm Z (SX Z))<|.sW nP Z Z gM (cH6 h1) Z<|.nt<|.rt<|?_
  refine y8 Z (.cell Z dS qP rfl) λW s=>?_;exact ⟨z,Jt,Z,s.p4_2 [1,2] rfl⟩
 subst h11;refine .gy (.fieldAddr Z EW)<|.gy (.load Z kB Hm Z)<|.gy (.not Z)<|.yw (.pickF Z Z)<|.nC Z<|.fA Z nU<|.st jS Z Z lZ Z (nb Z) Z<|.ns<|.fA Z vO<|.yw (.loadS (vs:=[_,_,_,_]) Z dS Hm Z (SX Z))<|.sW nP Z Z gM (cH6 h1) Z<|.nt<|.rt<|?_
 refine y8 Z (.cell Z dS qP rfl) λW s=>?_;exact ⟨z,Jt,Z,s.p4_2 [1,2] rfl⟩
def fmC (tm:Bool) (enm:Str) (fs:List Value):List Value:=if tm then [.int .u8 4,bV (spA enm),bV (spB enm),.int .i64 0,.int .i64 0,.slice none 0 0,.slice none 0 0] else fs
theorem xB {rd dn:Bool} (K:Tkf H l tp tc) (hq:q.i<l.length) {tm wh:Bool} {eop:UInt8} {enm:Str} {e2 e3 f0 f1 f2 f3 f4 f5 f6:Value} (h1:∀ u∈[.bool tm,.bool wh,.int .u8 eop.toNat,bV enm,e2,e3,f0,f1,f2,f3,f4,f5,f6],u.oneCell'=true) (hen:enm.length<=1000000) (hkm:k<=600001) (hl:xr.length=k * 13) (s:St H w0 (.box b [.slice tp l.length tc,iN q.i,ro,rv,.bool rd,.bool dn,.bool bd,iN q.off,iN q.er] 102::.row 179 13 (rv) (k+1) (xr++[.bool tm,.bool wh,.int .u8 eop.toNat,bV enm,e2,e3,f0,f1,f2,f3,f4,f5,f6])::bs) W) :
 Calls prg 57 #[.pointer (some ⟨b,0,none⟩)] W λe W'=>∃ z:Nat × Nat,(True)/\e=.returned (.agg (fmC tm enm [f0,f1,f2,f3,f4,f5,f6]).toArray)/\St H w0 (.box b [.slice tp l.length tc,iN q.i,ro,(.slice (some ⟨z.1,0,none⟩) k z.2),.bool rd,.bool dn,.bool (bd || (tm && (!decide (eop=5) || (eA enm).isNone))),iN q.off,iN q.er] 102::.row 179 13 (.slice (some ⟨z.1,0,none⟩) k z.2) (k) (xr)::bs) W':=by
 have hcap:=K.rep.cap;refine fN func57 rfl ntmps57 rfl s ?_;refine .sr<|.al eS Z λb2=>.ns<|.mv Z<|.cs (X:=Nat × Nat) GD Z (λW s=>bB6 K hq h1 hkm hl (s.p3_3 [1,2,0] Z)) Z λz _=>.al xY Z λb3=>.sW .head Z Z yA h1 Z<|.nt<|.sq<|.sr<|.fA Z EW<|.lD Z kB Hm Z<|.yw (.not Z)<|.nt<|.cd Z (λh11=>?_) (λh11=>?_)
 ·have ht:tm=false:=by simpa using h11
  subst ht;refine .sr<|.fA Z PH<|.yw (.loadS (vs:=[_,_,_,_,_,_,_]) Z cL Hm Z (SX Z))<|.sW nP Z Z dC (cM1 h1) Z<|.nt<|.rt<|.tR<|?_
  refine y8 Z (.cell Z cL qP rfl) λW s=>?_;rw [aN,Bool.or_false];exact ⟨z,Jt,Z,s.p4_2 [1,2] rfl⟩
 have ht:tm=true:=by simpa using h11
 subst ht;refine .sk<|.tN<|.sr<|.fA Z vO<|.fA Z fZ<|.lD Z cP Hm Z<|.yw (.call SI Z λW s=>PY enm (by omega) W)<|.mv Z<|.yw (.extract Z Z)<|.yw (.extract Z Z)<|.yw (.extract Z Z)<|.a Z Z<|.a Z Z<|.aq Z<|.sq<|.sr<|.fA Z vO<|.fA Z hU<|.lD Z kR Hm Z<|.yw (.neq Z Z)<|.mv Z<|.b2 (λh26=>?_) (λh26=>?_)
 ·have e5:¬ eop=5:=λe=>by subst e;simp at h26
  have hb:(!decide (eop=5) || (eA enm).isNone)=true:=by rw [aI e5];rfl
  refine .gG<|.gG<|.yw (.pickT Z Z)<|.nt<|.cT Z<|.rg<|.mv Z<|.nC Z<|.fA Z nU<|.st jS Z Z lZ Z (nb Z) Z<|.ns<|.mv Z<|.mv Z<|.yw (.build Z (yH _ _ _))<|.sX nP Z Z dC Z<|.nt<|.rt<|?_
  refine y8 Z (.cell Z cL qP rfl) λW s=>?_;rw [hb,aG,Bool.or_true];exact ⟨z,Jt,Z,s.p4_2 [1,2] rfl⟩
 have e5:eop=5:=aR.1 (by have:=aO h26;show eop.toNat=5;omega);refine .gy (.move Z)<|.gy (.not Z)<|.yw (.pickF Z Z)<|.nt<|.cd Z (λh29=>?_) (λh29=>?_)
 ·have hb:(!decide (eop=5) || (eA enm).isNone)=true:=by
   rw [aF e5];cases hs:eA enm with
   | none=>rfl
   | some x=>rw [hs] at h29;cases h29
  refine .rg<|.mv Z<|.nC Z<|.fA Z nU<|.st jS Z Z lZ Z (nb Z) Z<|.ns<|.mv Z<|.mv Z<|.yw (.build Z (yH _ _ _))<|.sX nP Z Z dC Z<|.nt<|.rt<|?_
  refine y8 Z (.cell Z cL qP rfl) λW s=>?_;rw [hb,aG,Bool.or_true];exact ⟨z,Jt,Z,s.p4_2 [1,2] rfl⟩
 have hb:(!decide (eop=5) || (eA enm).isNone)=false:=by
  rw [aF e5];cases hs:eA enm with
  | some x=>rfl
  | none=>rw [hs] at h29;cases h29
 refine .sk<|.tN<|.sm Z<|.mv Z<|.yw (.build Z (yH _ _ _))<|.sX nP Z Z dC Z<|.nt<|.rt<|?_
 refine y8 Z (.cell Z cL qP rfl) λW s=>?_;rw [hb,aG,Bool.or_false];exact ⟨z,Jt,Z,s.p4_2 [1,2] rfl⟩
variable {j:Nat} {v0 v1:Value} {xv:List Value}
theorem yT {rd dn:Bool} (K:Tkf H l tp tc) (hq:q.i<l.length) {v2 v3 v4 v5 v6 v7 v8 v9 va vb vc:Value} {os:List Value} (h1:∀ u∈[v0,v1,v2,v3,v4,v5,v6,v7,v8,v9,va,vb,vc],u.oneCell'=true) (hkm:k<=600001) (hjm:j<=600001) (hl:xr.length=k * 11) (s:St H w0 (.box b [.slice tp l.length tc,iN q.i,ro,rv,.bool rd,.bool dn,.bool bd,iN q.off,iN q.er] 102::.row 97 11 (ro) (k+1) (xr++os)::.row 179 13 (rv) (j) (xv)::bs) W) :
 Calls prg 156 #[.pointer (some ⟨b,0,none⟩),.agg [v0,v1,v2,v3,v4,v5,v6,v7,v8,v9,va,vb,vc].toArray] W λe W'=>∃ z:(Nat × Nat) × (Option Addr × Nat),(True)/\e=.returned (.tuple #[])/\St H w0 (.box b [.slice tp l.length tc,iN q.i,(.slice (some ⟨z.1.1,0,none⟩) k z.1.2),(.slice z.2.1 (j+1) z.2.2),.bool true,.bool dn,.bool bd,iN q.off,iN q.er] 102::.row 97 11 (.slice (some ⟨z.1.1,0,none⟩) k z.1.2) (k) (xr)::.row 179 13 (.slice z.2.1 (j+1) z.2.2) (j+1) (xv++[v0,v1,v2,v3,v4,v5,v6,v7,v8,v9,va,vb,vc])::bs) W':=by
 have hcap:=K.rep.cap;refine fN func156 rfl ntmps156 rfl s ?_;refine Sx.rowCase (size:=11) (k:=k+1) (r:=ro) (e:=97) cR (by omega) λg c e hkc=>?_;subst e;refine .sr<|.bx Z Z Z λb3=>.nt<|.sq<|.fL 12 [(0,0),(1,0),(2,0),(3,0),(4,0),(5,0),(6,0),(7,0),(8,0),(9,0),(10,0),(11,0)]<|.mv Z<|.mv Z<|.nC Z<|.fA Z jO<|.lD Z vZ cR Z<|.mv Z<|.nC Z<|.fA Z jO<|.lD Z vZ cR Z<|.yw (.lenSl DT Z)<|.yw (.sub Z Z (c:=((k:Nat):Int)) ((w6 (by omega)).trans (by omega)))<|.yw (.cutHi DT Z Z Z (by omega) (λq e=>by cases e;rfl))<|.fn (tl:=[_,_,_]) Z<|.nC Z<|.fA Z jO<|.st jS Z Z DU Z (nb Z) Z<|?_
 refine Sx.At.rcut (size:=11) (m:=k) (ys:=xr) jW (by omega) (by rw [<-hl,jV]) ?_;refine .nt<|.rg<|.mv Z<|.yw (.loadW Z xG Hm Z)<|.cs (X:=Option Addr × Nat) fX Z (λW s=>mP K hq h1 hjm (s.p4_4 [1,3,0,2] Z)) Z λz _=>.nl<|?_
 refine jE (.inr Z) rfl .nil rfl λW s=>⟨((g,c),z),Jt,Z,?_⟩;exact s.p4_3 [0,3,1] rfl
theorem RG {l:List Ex} (h:k<l.length):Ex.counts (l.take (k+1))=Ex.counts (l.take k)+l[k].count:=by rw [uT h,nR,Ex.counts,Ex.counts,kC]
theorem RF (l:List Ex) (k:Nat):Ex.counts (l.take k)<=Ex.counts l:=by
 have h:=nR (l.take k) (l.drop k);rw [eU] at h;omega
theorem aC0 {l:List Fm} (h:k<l.length):Fm.counts (l.take (k+1))=Fm.counts (l.take k)+l[k].count:=by rw [MB h,fG,Fm.counts,Fm.counts,kC]
theorem aB9 (l:List Fm) (k:Nat):Fm.counts (l.take k)<=Fm.counts l:=by
 have h:=fG (l.take k) (l.drop k);rw [eU] at h;omega
theorem aO3 (e:Ex):∀ (H:Hp) (cs:List Value) (w:World),Rep H (dEx .i64 e) cs->e.count<=1000000->Agr H w ->
 Calls prg 50 #[.agg cs.toArray] w λr w'=>r=.returned (iN e.count)/\Ext w w':=by
 induction e using Ex.ind with | _ op nm nn args ih
 intro H cs w h hc hA;rw [pT] at hc;obtain ⟨p,c,rfl,hs,hnm⟩:=jB h;have hcap:=hs.cap;refine Sx.enter (H:=H) func50 rfl ntmps50 rfl hA ?_;refine .sr<|.bx Z Z Z λb1=>.a Z Z<|.ns<|.aq Z<|.sq<|.sr<|.fA Z kZ<|.lD Z gR Hm Z<|.yw (.lenSl gP Z)<|.mv Z<|.nt<|.bk<|.lp (X:=Nat) [(7,_),(8,_)] ⟨Z,Z,Jt⟩ [_] (λk=>[(3,iN (1+Ex.counts (args.take k))),(9,iN k)]) (λk=>H) (λk=>[]) (λk=>k<=args.length) (λk=>args.length - k) 0 (λ_ s=>s) ⟨Z,Z,Jt⟩ (aP _) λk hC=>?_
 have hk0:=hC;refine .sr<|.yw (.lss Z Z)<|.nt<|.sq<|.ce Z (λh10=>?_) (λh10=>?_)
 ·have hk:k<args.length:=by omega
  obtain ⟨bE,oE,cE,hpE,rE,lE,mE⟩:=hs.elem (iL (f:=dEx .i64) hk);cases hpE;have h1:=RG hk;have h2:=RF args (k+1);exact .sk<|.tN<|.sq<|.bk<|.sr<|.yw (.indexSl gP Z Z Z (by omega) (q:=oE+k * 4) Z)<|.yw (.loadMW Z fT mE lE)<|.al nD Z λb5=>.sV .head Z Z mM lE rE.one Z<|.nt<|.rg<|.mv Z<|.yw (.loadW Z fT Hm lE)<|.yw (.call SB Z (λW s=>ih _ (bI hk) H cE W rE (by omega) s.agr))<|.yw (.add Z Z (c:=((1+Ex.counts (args.take (k+1)):Nat):Int)) ((w6 (by omega)).trans (by omega)))<|.a Z Z<|.nl<|.bN<|.tN<|.rg<|.yw (.add Z Z w7)<|.mv Z<|.nt<|.ag (k+1) ⟨Z,Z,Jt⟩ ⟨Z,Z,Jt⟩ (λ_ s=>s.pick [1] [_] Z Z) (by omega) (by omega)
 obtain rfl:k=args.length:=by omega
 rw [aY];refine .ex<|.eb<|.sm Z<|.az Z<|?_
 exact y9 Z Z λW s=>⟨by rw [pT,Nat.add_comm],s.ext⟩
theorem aZ4 (f:Fm):∀ (H:Hp) (cs:List Value) (w:World),Rep H (dFm .i64 f) cs->f.count<=1000000->Agr H w ->
 Calls prg 23 #[.agg cs.toArray] w λr w'=>r=.returned (iN f.count)/\Ext w w':=by
 induction f using Fm.ind with | _ op nm fd a b ex args ih
 intro H cs w h hc hA;rw [jT] at hc;obtain ⟨p1,c1,p2,c2,rfl,hs1,hs2,hnm,hfd⟩:=gZ h;have hcap1:=hs1.cap;have hcap2:=hs2.cap;refine Sx.enter (H:=H) func23 rfl ntmps23 rfl hA ?_;refine .sr<|.bx Z Z Z λb1=>.a Z Z<|.ns<|.aq Z<|.sq<|.sr<|.fA Z eZ<|.lD Z gR Hm Z<|.yw (.lenSl gP Z)<|.mv Z<|.nt<|.bk<|.lp (X:=Nat) [(1,_),(9,_),(10,_)] ⟨Z,Z,Z,Jt⟩ [_] (λk=>[(3,iN (1+Ex.counts (ex.take k))),(11,iN k)]) (λk=>H) (λk=>[]) (λk=>k<=ex.length) (λk=>ex.length - k) 0 (λ_ s=>s) ⟨Z,Z,Jt⟩ (aP _) λk hC=>?_
 have hk0:=hC;refine .sr<|.yw (.lss Z Z)<|.nt<|.sq<|.ce Z (λh12=>?_) (λh12=>?_)
 ·have hk:k<ex.length:=by omega
  obtain ⟨bE,oE,cE,hpE,rE,lE,mE⟩:=hs1.elem (iL (f:=dEx .i64) hk);cases hpE;have h1:=RG hk;have h2:=RF ex (k+1);exact .sk<|.tN<|.sq<|.bk<|.sr<|.yw (.indexSl gP Z Z Z (by omega) (q:=oE+k * 4) Z)<|.yw (.loadMW Z fT mE lE)<|.al nD Z λb5=>.sV .head Z Z mM lE rE.one Z<|.nt<|.rg<|.mv Z<|.yw (.loadW Z fT Hm lE)<|.yw (.call SB Z (λW s=>aO3 _ H cE W rE (by omega) s.agr))<|.yw (.add Z Z (c:=((1+Ex.counts (ex.take (k+1)):Nat):Int)) ((w6 (by omega)).trans (by omega)))<|.a Z Z<|.nl<|.bN<|.tN<|.rg<|.yw (.add Z Z w7)<|.mv Z<|.nt<|.ag (k+1) ⟨Z,Z,Jt⟩ ⟨Z,Z,Z,Jt⟩ (λ_ s=>s.pick [1] [_] Z Z) (by omega) (by omega)
 obtain rfl:k=ex.length:=by omega
 rw [aY];refine .ex<|.eb<|.sq<|.sr<|.fA Z kQ<|.lD Z AB Hm Z<|.yw (.lenSl uH Z)<|.mv Z<|.nt<|.bk<|.lp (X:=Nat) [(21,_),(22,_)] ⟨Z,Z,Jt⟩ [_] (λk=>[(3,iN (1+Ex.counts ex+Fm.counts (args.take k))),(23,iN k)]) (λk=>H) (λk=>[]) (λk=>k<=args.length) (λk=>args.length - k) 0 (λ_ s=>s) ⟨Z,Z,Jt⟩ (aP _) λk hC=>?_
 have hk0:=hC;refine .sr<|.yw (.lss Z Z)<|.nt<|.sq<|.ce Z (λh24=>?_) (λh24=>?_)
 ·have hk:k<args.length:=by omega
  obtain ⟨bF,oF,cF,hpF,rF,lF,mF⟩:=hs2.elem (iL (f:=dFm .i64) hk);cases hpF;have h1:=aC0 hk;have h2:=aB9 args (k+1);exact .sk<|.tN<|.sq<|.bk<|.sr<|.yw (.indexSl uH Z Z Z (by omega) (q:=oF+k * 7) Z)<|.yw (.loadMW Z eD mF lF)<|.al oQ Z λb7=>.sV .head Z Z kL lF rF.one Z<|.nt<|.rg<|.mv Z<|.yw (.loadW Z eD Hm lF)<|.yw (.call SH Z (λW s=>ih _ (bI hk) H cF W rF (by omega) s.agr))<|.yw (.add Z Z (c:=((1+Ex.counts ex+Fm.counts (args.take (k+1)):Nat):Int)) ((w6 (by omega)).trans (by omega)))<|.a Z Z<|.nl<|.bN<|.tN<|.rg<|.yw (.add Z Z w7)<|.mv Z<|.nt<|.ag (k+1) ⟨Z,Z,Jt⟩ ⟨Z,Z,Jt⟩ (λ_ s=>s.pick [1] [_] Z Z) (by omega) (by omega)
 obtain rfl:k=args.length:=by omega
 rw [aY];refine .ex<|.eb<|.sm Z<|.az Z<|?_
 exact y9 Z Z λW s=>⟨by rw [jT,show Ex.counts ex+Fm.counts args+1=1+Ex.counts ex+Fm.counts args by omega],s.ext⟩
theorem ZM {l:Str} (h:k<l.length):l.take (k+1)=l.take k++[l[k]]:=by rw [List.take_succ,List.getElem?_eq_getElem h];rfl
theorem aY5:∀ {l:Str},l.all (λc=>decide (¬ c=46))=true->eA l=none
 | [],_=>rfl
 | c::r,h=>by
  rw [fE,aC,aA] at h;rw [eA,aD h.1,aY5 h.2];rfl
theorem aY6:∀ {l:Str} {k:Nat} (hk:k<l.length),l[k]=46->(l.take k).all (λc=>decide (¬ c=46))=true->eA l=some (l.take k,l.drop (k+1))
 | c::r,0,_,h,_=>by
  have h':c=46:=h;rw [eA,aM h'];rfl
 | c::r,k+1,hk,h,ha=>by
  rw [List.take_succ_cons,fE,aC,aA] at ha;rw [eA,aD ha.1,aY6 (l:=r) (k:=k) (Nat.lt_of_succ_lt_succ hk) h ha.2];rfl
theorem aY8 {n:Str} (hk:k<n.length) (h:n[k]=46) (ha:(n.take k).all (λc=>decide (¬ c=46))=true):spV n=.tuple #[bV (n.take k),bV (n.drop (k+1)),.bool true]:=by
 unfold spV spA spB;rw [aY6 hk h ha];rfl
theorem aY7 {n:Str} (ha:n.all (λc=>decide (¬ c=46))=true):spV n=.tuple #[bV [],bV [],.bool false]:=by
 unfold spV spA spB;rw [aY5 ha];rfl
theorem ZS (H:Hp) (n:Str) (hn:n.length<=9223372036854775807) (w:World) (hA:Agr H w):Calls prg 21 #[bV n] w λe w'=>e=.returned (spV n)/\Ext w w':=by
 refine Sx.enter (H:=H) func21 rfl ntmps21 rfl hA ?_;refine .sr<|.a Z Z<|.a Z Z<|.aq Z<|.sq<|.sr<|.aq Z<|.bk<|.lp (X:=Nat) [(0,_)] ⟨Z,Jt⟩ [] (λk=>[(5,iN k)]) (λk=>H) (λk=>[]) (λk=>k<=n.length/\(n.take k).all (λc=>decide (¬ c=46))=true) (λk=>n.length - k) 0 (λ_ s=>s) ⟨Z,Jt⟩ ⟨aP _,Z⟩ λk hC=>?_
 obtain ⟨hk0,hal⟩:=hC;refine .sq<|.sm Z<|.mv Z<|.yw (.lenS dE Z)<|.yw (.lss Z Z)<|.nt<|.ce Z (λh9=>?_) (λh9=>?_)
 ·have hk:k<n.length:=by omega
  refine .sk<|.tN<|.sq<|.bk<|.sm Z<|.mv Z<|.yw (.idxS dE Z Z (by omega) (List.getElem?_eq_getElem hk))<|.yw (.eql Z Z)<|.nt<|.cd Z (λh15=>?_) (λh15=>?_)
  ·have he:n[k]=46:=aR.1 (by have:=aJ h15;show n[k].toNat=46;omega);refine .sq<|.fL 9 [(0,0),(1,0),(2,0),(3,0),(4,0),(5,0),(6,0),(7,0),(8,0)]<|.mv Z<|.mv Z<|.yw (.takeS dE Z Z (hi:=k) Z (by omega))<|.mv Z<|.mv Z<|.yw (.add Z Z w7)<|.yw (.dropS dE Z Z (lo:=k+1) Z (by omega))<|.a Z Z<|.a Z Z<|.fn (tl:=[_]) Z<|.az Z<|.bR<|.tR<|.tR<|.bR<|.tR<|?_
   refine y7 Z (.cons (.tmp Z) (.cons (.tmp Z) (.cons (.tmp Z) .nil))) rfl λW s=>⟨?_,s.ext⟩
   first
    | (rw [aY8 hk he hal];rfl)
    | (rw [aY7 hal];rfl)
  have hne:¬ n[k]=46:=λe=>aO h15 (by rw [e];rfl);exact .sk<|.bN<|.tN<|.rg<|.mv Z<|.yw (.add Z Z w7)<|.aq Z<|.ag (k+1) ⟨Z,Jt⟩ ⟨Z,Jt⟩ (λ_ s=>s) ⟨by omega,by rw [ZM hk,List.all_append,hal,fE,aF hne];rfl⟩ (by omega)
 obtain rfl:k=n.length:=by omega
 rw [aY] at hal;refine .ex<|.eb<|.sr<|.a Z Z<|.a Z Z<|.az Z<|?_
 refine y7 Z (.cons (.tmp Z) (.cons (.tmp Z) (.cons (.tmp Z) .nil))) rfl λW s=>⟨?_,s.ext⟩
 first
  | (rw [aY8 hk he hal];rfl)
  | (rw [aY7 hal];rfl)
end Go.Proofs.YtidclioghdbphaaGreatDoor
