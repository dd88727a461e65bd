/- Texts of the proof, one behind the other. -/
import Derived.Test.YtidclioghdbphaaGreatDoorMc
import Derived.Lib.ItoaNum
import Derived.Lib.ItoaLen
import Derived.Lib.ParseIntB
import Derived.Lib.ParseIntBCases
import Derived.Lib.IndexMore
set_option linter.all false
set_option maxRecDepth 100000
namespace Go.Proofs.YtidclioghdbphaaGreatDoor
open Go.RowKit Go.Par Go.Sx Tryz
theorem EE (x0:Int) (x1 x2:ByteArray):eX prg 27 [(0,.int .i64 x0),(1,.string x1),(2,.string x2)]=some [.int .i64 x0,.string x1,.string x2,.int .i64 0,.int .i64 0,cL,cL]:=by kernel_rfl
theorem WD (x0:Int) (x1:ByteArray):eX prg 27 [(0,.int .i64 x0),(1,.string x1)]=some [.int .i64 x0,.string x1,dV,.int .i64 0,.int .i64 0,cL,cL]:=by kernel_rfl
theorem KK (x0:Int) (x1 x2:ByteArray) (x5p:Option Addr) (x5n x5c:Nat):eX prg 27 [(0,.int .i64 x0),(1,.string x1),(2,.string x2),(5,.slice x5p x5n x5c)]=some [.int .i64 x0,.string x1,.string x2,.int .i64 0,.int .i64 0,.slice x5p x5n x5c,cL]:=by kernel_rfl
theorem wE:dU prg 113 1=some 4:=by kernel_rfl
structure Wz where
 l:List UInt8
 tp:Option Addr
 tc:Nat
 lf:Int
 bd:Nat
structure Gcp (c:Cp):Prop where
 nm:c.nm.length<=100
 vars:0<c.vars.length/\c.vars.length<=100
 vnm:∀ v∈c.vars,v.nm.length<=100
 ints:0<c.vars.countP (λv=>decide (v.ty=1))/\c.vars.countP (λv=>decide (v.ty=1))<=c.vars.length
 vers:c.vers.length<=100/\∃ v∈c.vers,v≠[]
 hds:∀ v∈c.vers,v.length<=100/\∀ h∈v,h.ps.length<=2
structure qN (H:Hp) (ft:Ft) (pf:Option Addr) (cf:Nat) (pk:Option Addr) (ck:Nat):Prop where
 flags:Rep H (.seq 2 (ft.flags.map dFg)) [.slice pf ft.flags.length cf]
 comps:Rep H (.seq 3 (ft.comps.map (dCp .i64))) [.slice pk ft.comps.length ck]
 ne:0<ft.comps.length
 good:∀ c∈ft.comps,Gcp c
variable {H H':Hp}
theorem qN.up {ft:Ft} {pf pk:Option Addr} {cf ck:Nat} (E:qN H ft pf cf pk ck) (u:Up H H'):qN H' ft pf cf pk ck:=⟨E.flags.up u,E.comps.up u,E.ne,E.good⟩
structure Wok (H:Hp) (z:Wz):Prop where
 rep:Rep H (.seq 1 (z.l.map dU8)) [.slice z.tp z.l.length z.tc]
 bd:z.bd<=2
theorem Wok.up {z:Wz} (h:Wok H z) (u:Up H H'):Wok H' z:=⟨h.rep.up u,h.bd⟩
variable {k n:Nat}
theorem CW (h:0<n):((k:Nat):Int).tmod ((n:Nat):Int)=((k % n:Nat):Int):=by rw [dJ aD];omega
variable {w0 W:World} {bs:List Res}
theorem rH {b:Nat} {ft:Ft} {pf pl pk:Option Addr} {cf cl ck:Nat} {z:Wz} (E:qN H ft pf cf pk ck) (hz:Wok H z) (n:Nat) (hn:0<n) (s:St H w0 (.box b [bJ ft.nm,.slice pf ft.flags.length cf,.slice pl ft.links.length cl,.slice pk ft.comps.length ck,.slice z.tp z.l.length z.tc,.int .i64 z.lf,iN z.bd] 113::bs) W) :
 Calls prg 117 #[.pointer (dI b),iN n] W λe W'=>∃ x:Nat × Wz,((x.1<n/\Wok H x.2/\x.2.lf=z.lf/\x.2.bd=z.bd))/\e=.returned (iN x.1)/\St H w0 (.box b [bJ ft.nm,.slice pf ft.flags.length cf,.slice pl ft.links.length cl,.slice pk ft.comps.length ck,.slice x.2.tp x.2.l.length x.2.tc,.int .i64 x.2.lf,iN x.2.bd] 113::bs) W':=by
 obtain ⟨l,tp,tc,lf,bd⟩:=z;refine iB func117 rfl ntmps117 rfl s ?_;refine .sr<|.aq Z<|.sq<|.sm Z<|.nC Z<|.fA Z wE<|.lD Z qP Hm Z<|.yw (.lenSl rP Z)<|.yw (.eql Z Z)<|.nt<|.cd Z (λh11=>?_) (λh11=>?_)
 ·try simp only [dt] at h11
  refine .sr<|.az Z<|.tR<|?_
  refine y9 Z Z λW s=>?_;exact ⟨(0,⟨l,tp,tc,lf,bd⟩),⟨hn,hz,Z,Z⟩,Z,s.p1_1 [0] rfl⟩
 try simp only [df] at h11
 have hlen:0<l.length:=aD
 obtain ⟨bE,oE,cE,hpE,rE,lE,mE⟩:=hz.rep.elem (eR (f:=dU8) hlen);dsimp only at hpE;cases hpE;obtain rfl:=CV rE;have hR:=XF hz.rep (lo:=1) hlen;rw [<-KP,<-dA] at hR;have hu:=(l[0]).toNat_lt;have hl2:=hz.rep.len.2.1;dsimp only at hR hl2|-;refine .sk<|.tN<|.sm Z<|.nC Z<|.fA Z wE<|.lD Z qP Hm Z<|.yw (.indexSl rP Z Z (i:=0) Z aD (q:=oE+0 * 1) aD)<|.yw (.loadM Z nM mE (k:=0) Z Z)<|.yw (.conv Z kN kG (c:=((l[0].toNat:Nat):Int)) (w6 aD))<|.a Z Z<|.ns<|.mv Z<|.mv Z<|.nC Z<|.fA Z wE<|.lD Z qP Hm Z<|.yw (.cutLo rP Z Z (lo:=1) Z aD aD)<|?_
 rw [<-dA];refine .nC Z<|.fA Z wE<|.st .head Z Z KF Z (nb Z) Z<|.ns<|.mv Z<|.mv Z<|.yw (.rem Z Z aD (c:=((l[0].toNat % n:Nat):Int)) (CW hn))<|.az Z<|?_
 refine y9 Z Z λW s=>?_;exact ⟨(l[0].toNat % n,⟨l.drop 1,_,tc - 1,lf,bd⟩),⟨rC _ hn,⟨hR,hz.bd⟩,Z,Z⟩,Z,s.p1_1 [0] rfl⟩
theorem cI4 (h:n<=1000000):(Int64.ofNat n).toInt=(n:Int):=iC aD
theorem WI {b:Nat} {ft:Ft} {pf pl pk:Option Addr} {cf cl ck:Nat} {z:Wz} (E:qN H ft pf cf pk ck) (hz:Wok H z) (s:St H w0 (.box b [bJ ft.nm,.slice pf ft.flags.length cf,.slice pl ft.links.length cl,.slice pk ft.comps.length ck,.slice z.tp z.l.length z.tc,.int .i64 z.lf,iN z.bd] 113::bs) W) :
 Calls prg 119 #[.pointer (dI b)] W λe W'=>∃ x:(Int64 × Int64) × Wz,(Wok H x.2/\x.2.lf=z.lf/\x.2.bd=z.bd)/\e=.returned (.tuple #[.int .i64 x.1.1.toInt,.int .i64 x.1.2.toInt])/\St H w0 (.box b [bJ ft.nm,.slice pf ft.flags.length cf,.slice pl ft.links.length cl,.slice pk ft.comps.length ck,.slice x.2.tp x.2.l.length x.2.tc,.int .i64 x.2.lf,iN x.2.bd] 113::bs) W':=by
 refine iB func119 rfl ntmps119 rfl s ?_;refine .sr<|.a Z Z<|.aq Z<|.sq<|.sm Z<|.xs (X:=Nat × Wz) Z (λW s=>rH E hz 3 aS (s.p1_1 [0] Z)) λx1 hx1=>?_
 obtain ⟨k1,z1⟩:=x1;obtain ⟨hk1,hz1,e1l,e1b⟩:=hx1;dsimp only at hk1 hz1 e1l e1b|-;refine .yw (.eql Z Z)<|.nt<|.ce Z (λh7=>?_) (λh7=>?_)
 ·refine .sr<|.a Z Z<|.az Z<|.tR<|?_
  refine y7 Z (.cons (.tmp Z) (.cons (.tmp Z) .nil)) rfl λW s=>?_;exact ⟨((0,-1),z1),⟨hz1,e1l,e1b⟩,Z,s.p1_1 [0] rfl⟩
 refine .sk<|.tN<|.sm Z<|.xs (X:=Nat × Wz) Z (λW s=>rH E hz1 4 aS (s.p1_1 [0] Z)) λx2 hx2=>?_
 obtain ⟨k2,z2⟩:=x2;obtain ⟨hk2,hz2,e2l,e2b⟩:=hx2;dsimp only at hk2 hz2 e2l e2b|-;refine .a Z Z<|.ns<|.mv Z<|.mv Z<|.mv Z<|.xs (X:=Nat × Wz) Z (λW s=>rH E hz2 5 aS (s.p1_1 [0] Z)) λx3 hx3=>?_
 obtain ⟨k3,z3⟩:=x3;obtain ⟨hk3,hz3,e3l,e3b⟩:=hx3;dsimp only at hk3 hz3 e3l e3b|-;refine .yw (.add Z Z (c:=((k2+k3:Nat):Int)) ((w6 aD).trans aD))<|.a Z Z<|.az Z<|?_
 refine y7 Z (.cons (.tmp Z) (.cons (.tmp Z) .nil)) rfl λW s=>?_;exact ⟨((Int64.ofNat k2,Int64.ofNat (k2+k3)),z3),⟨hz3,by rw [e3l,e2l,e1l],by rw [e3b,e2b,e1b]⟩,(by rw [cI4 aD,cI4 aD]),s.p1_1 [0] rfl⟩
theorem aX5:jI prg 131=some (some 3):=by kernel_rfl
theorem oW:dU prg 113 0=some 0:=by kernel_rfl
theorem FX:dU prg 131 1=some 1:=by kernel_rfl
theorem aH3:gQ prg 131=some 3:=by kernel_rfl
theorem aO1:slN prg 57=some 3:=by kernel_rfl
theorem AQ:slN prg 126=some 3:=by kernel_rfl
theorem aH0:nA prg 131=some
 [Go.Value.string { data:={ toList:=[] } },Go.Value.int Go.IntKind.i64 (Int.ofNat 0),
  Go.Value.int Go.IntKind.i64 (Int.ofNat 0)]:=by kernel_rfl
theorem LI {b:Nat} {ft:Ft} {pf pl pk:Option Addr} {cf cl ck:Nat} {z:Wz} (E:qN H ft pf cf pk ck) (hz:Wok H z) (s:St H w0 (.box b [bJ ft.nm,.slice pf ft.flags.length cf,.slice pl ft.links.length cl,.slice pk ft.comps.length ck,.slice z.tp z.l.length z.tc,.int .i64 z.lf,iN z.bd] 113::bs) W) :
 Calls prg 159 #[.pointer (dI b)] W λe W'=>∃ x:(Cp × Option Addr × Nat × Option Addr × Nat) × Wz,((x.1.1∈ft.comps/\Rep H (dCp .i64 x.1.1) [bJ x.1.1.nm,.slice x.1.2.1 x.1.1.vars.length x.1.2.2.1,.slice x.1.2.2.2.1 x.1.1.vers.length x.1.2.2.2.2]/\Rep H (.seq 3 (x.1.1.vars.map (dVr .i64))) [.slice x.1.2.1 x.1.1.vars.length x.1.2.2.1]/\Rep H (.seq 1 (x.1.1.vers.map (dVs .i64))) [.slice x.1.2.2.2.1 x.1.1.vers.length x.1.2.2.2.2])/\Wok H x.2/\x.2.lf=z.lf/\x.2.bd=z.bd)/\e=.returned (.agg [bJ x.1.1.nm,.slice x.1.2.1 x.1.1.vars.length x.1.2.2.1,.slice x.1.2.2.2.1 x.1.1.vers.length x.1.2.2.2.2].toArray)/\St H w0 (.box b [bJ ft.nm,.slice pf ft.flags.length cf,.slice pl ft.links.length cl,.slice pk ft.comps.length ck,.slice x.2.tp x.2.l.length x.2.tc,.int .i64 x.2.lf,iN x.2.bd] 113::bs) W':=by
 refine iB func159 rfl ntmps159 rfl s ?_;refine .sr<|.al BT Z λb2=>.nt<|.sq<|.fL 15 [(0,0),(1,0),(2,0),(3,0),(4,0),(5,0),(6,0),(7,0),(8,0),(9,0),(10,0),(11,0),(12,3),(13,0),(14,0)]<|.mv Z<|.nC Z<|.fA Z oW<|.fA Z uV<|.lD Z IW cU Z<|.mv Z<|.mv Z<|.nC Z<|.fA Z oW<|.fA Z uV<|.lD Z IW cU Z<|.yw (.lenSl aO1 Z)<|.x3 (X:=Nat × Wz) Z (λW s=>rH E hz ft.comps.length E.ne (s.p2_2 [1,0] Z)) (λ_ _=>(.d4<|.d3<|.yv (.load Z IW Hm Z)<|.yv (.fieldAddr Z uV)<|.yv (.fieldAddr Z oW)<|.yv (.nilCheck Z)<|.yv (.move Z)<|.nl)) λx1 hx1=>?_
 obtain ⟨k1,z1⟩:=x1;obtain ⟨hk1,hz1,e1l,e1b⟩:=hx1;dsimp only at hk1 hz1 e1l e1b|-;obtain ⟨bE,oE,cE,hpE,rE,lE,mE⟩:=E.comps.elem (eR (f:=dCp .i64) hk1);cases hpE;obtain ⟨p1,c1,p2,c2,rfl,hnm,hv,hs⟩:=IG rE;refine .yw (.indexSl aO1 Z Z (i:=k1) Z aD (q:=oE+k1 * 3) aD)<|.yw (.loadMW Z qY mE Z)<|.fn (tl:=[_]) Z<|.sX iJ Z Z BV Z<|.nt<|.rt<|?_
 refine y8 Z (.cell Z qY cU rfl) λW s=>?_;exact ⟨((ft.comps[k1],p1,c1,p2,c2),z1),⟨⟨aX hk1,rE,hv,hs⟩,hz1,e1l,e1b⟩,Z,s.p2_1 [0] rfl⟩
def cN0 (c:Cp):Bool:=decide ((((c.vars.getD (c.vars.length - 1) ⟨[],0,0⟩).ty.toNat:Nat):Int)=3)
theorem JH (H:Hp) (c:Cp) (G:Gcp c) (cs:List Value) (w:World) (h:Rep H (dCp .i64 c) cs) (hA:Agr H w):Calls prg 160 #[.agg cs.toArray] w λr w'=>r=.returned (.bool (cN0 c))/\Ext w w':=by
 obtain ⟨p1,c1,p2,c2,rfl,hnm,hv,hs⟩:=IG h;have hv0:=G.vars;have hlt:c.vars.length - 1<c.vars.length:=aD
 obtain ⟨bE,oE,cE,hpE,rE,lE,mE⟩:=hv.elem (eR (f:=dVr .i64) hlt);cases hpE;obtain ⟨rfl,hvn⟩:=TW rE;refine Sx.enter (H:=H) func160 rfl ntmps160 rfl hA ?_;refine .sr<|.bx Z Z Z λb1=>.a Z Z<|.ns<|.fA Z jC<|.lD Z sE Hm Z<|.fA Z jC<|.lD Z sE Hm Z<|.yw (.lenSl AQ Z)<|.yw (.sub Z Z (c:=((c.vars.length - 1:Nat):Int)) ((w6 aD).trans aD))<|.yw (.indexSl AQ Z Z (i:=(c.vars.length - 1)) Z aD (q:=oE+(c.vars.length - 1) * 3) aD)<|.fA Z FX<|.yw (.loadM Z bQ mE (k:=1) Z Z)<|.yw (.eql Z Z)<|.az Z<|?_
 exact yE Z Z (by rw [cN0,List.getD_eq_getElem?_getD,List.getElem?_eq_getElem hlt];rfl)
theorem NM {l:List Vr} (h:k<l.length):l.take (k+1)=l.take k++[l[k]]:=by rw [List.take_succ,List.getElem?_eq_getElem h];rfl
theorem aP8 (H:Hp) (c:Cp) (cs:List Value) (w:World) (h:Rep H (dCp .i64 c) cs) (hA:Agr H w):Calls prg 181 #[.agg cs.toArray] w λr w'=>r=.returned (iN (c.vars.countP (λv=>decide (v.ty=1))))/\Ext w w':=by
 obtain ⟨p1,c1,p2,c2,rfl,hnm,hv,hs⟩:=IG h;have hcap:=hv.cap;refine Sx.enter (H:=H) func181 rfl ntmps181 rfl hA ?_;refine .sr<|.bx Z Z Z λb1=>.a Z Z<|.ns<|.aq Z<|.sq<|.sr<|.fA Z jC<|.lD Z sE Hm Z<|.yw (.lenSl AQ Z)<|.mv Z<|.nt<|.bk<|.lp (X:=Nat × Nat) [(7,_),(8,_)] ⟨Z,Z,Jt⟩ [_] (λz=>[(9,iN z.1),(3,iN z.2)]) (λz=>H) (λz=>[]) (λz=>z.1<=c.vars.length/\z.2=(c.vars.take z.1).countP (λv=>decide (v.ty=1))) (λz=>c.vars.length - z.1) (0,0) (λ_ s=>s) ⟨Z,Z,Jt⟩ ⟨aN _,Z⟩ λz hC=>?_
 obtain ⟨k,n⟩:=z;obtain ⟨hk0,hn⟩:=hC;dsimp only at hk0 hn|-;refine .sr<|.yw (.lss Z Z)<|.nt<|.sq<|.ce Z (λh10=>?_) (λh10=>?_)
 ·have hk:k<c.vars.length:=aD
  have hnk:n<=k:=by rw [hn];exact aZ List.countP_le_length (by rw [dG];omega)
  obtain ⟨bE,oE,cE,hpE,rE,lE,mE⟩:=hv.elem (eR (f:=dVr .i64) hk);cases hpE;obtain ⟨rfl,hvn⟩:=TW rE;refine .sk<|.tN<|.sq<|.bk<|.sr<|.yw (.indexSl AQ Z Z (i:=k) Z aD (q:=oE+k * 3) aD)<|.yw (.loadMW Z aX5 mE Z)<|.al aH0 Z λb5=>.sX .head Z Z aH3 Z<|.ns<|.fA Z FX<|.lD Z bQ Hm Z<|.yw (.eql Z Z)<|.nt<|.ce Z (λh15=>?_) (λh15=>?_)
  ·have hty:c.vars[k].ty=1:=aR.1 (by show (c.vars[k]).ty.toNat=1;omega);exact .rg<|.mv Z<|.yw (.add Z Z (c:=((n+1:Nat):Int)) ((w6 aD).trans aD))<|.a Z Z<|.nl<|.bN<|.tN<|.rg<|.yw (.add Z Z w7)<|.mv Z<|.nt<|.ag (x:=(k,n)) (k+1,n+1) ⟨Z,Z,Jt⟩ ⟨Z,Z,Jt⟩ (λ_ s=>(s.pick [1] _ Z Z)) ⟨hk,by dsimp only;rw [NM hk,List.countP_append,<-hn];simp [hty]⟩ (by dsimp only;omega)
  have hty:¬ c.vars[k].ty=1:=λe=>by rw [e] at h15;exact h15 rfl
  exact .sk<|.bN<|.tN<|.rg<|.yw (.add Z Z w7)<|.mv Z<|.nt<|.ag (x:=(k,n)) (k+1,n) ⟨Z,Z,Jt⟩ ⟨Z,Z,Jt⟩ (λ_ s=>(s.pick [1] _ Z Z)) ⟨hk,by dsimp only;rw [NM hk,List.countP_append,<-hn];simp [hty]⟩ (by dsimp only;omega)
 obtain rfl:k=c.vars.length:=aD
 rw [bW] at hn;refine .ex<|.eb<|.sm Z<|.az Z<|?_
 exact yE Z Z (by rw [hn])
inductive Fm where
 | mk (op:UInt8) (nm fd:Str) (a b:Int64) (ex:List Ex) (args:List Fm)
def Fm.op:Fm->UInt8 | .mk op _ _ _ _ _ _=>op
def Fm.nm:Fm->Str | .mk _ nm _ _ _ _ _=>nm
def Fm.fd:Fm->Str | .mk _ _ fd _ _ _ _=>fd
def Fm.a:Fm->Int64 | .mk _ _ _ a _ _ _=>a
def Fm.b:Fm->Int64 | .mk _ _ _ _ b _ _=>b
def Fm.ex:Fm->List Ex | .mk _ _ _ _ _ ex _=>ex
def Fm.args:Fm->List Fm | .mk _ _ _ _ _ _ args=>args
mutual
def dFm (k:IntKind):Fm->D
 | .mk op nm fd a b ex args=>.str [.val (.int k op.toNat),.val (bJ nm),.val (bJ fd),.val (.int .i64 a.toInt),.val (.int .i64 b.toInt),.seq 4 (ex.map (dEx k)),.seq 7 (bZ7 k args)]
def bZ7 (k:IntKind):List Fm->List D
 | []=>[]
 | f::r=>dFm k f::bZ7 k r
end
theorem YV (k:IntKind):∀ l,bZ7 k l=l.map (dFm k)
 | []=>rfl
 | e::r=>by rw [bZ7,YV k r];rfl
theorem bL3 (k:IntKind) (op:UInt8) (nm fd:Str) (a b:Int64) (ex:List Ex) (args:List Fm):dFm k (.mk op nm fd a b ex args)=.str [.val (.int k op.toNat),.val (bJ nm),.val (bJ fd),.val (.int .i64 a.toInt),.val (.int .i64 b.toInt),.seq 4 (ex.map (dEx k)),.seq 7 (args.map (dFm k))]:=by rw [dFm,YV]
theorem Fm.ind {C:Fm->Prop} (h:∀ op nm fd a b ex args,(∀ x∈args,C x)->C (.mk op nm fd a b ex args)):∀ e,C e
 | .mk op nm fd a b ex args=>h op nm fd a b ex args λx hx=>Fm.ind h x
termination_by e=>SizeOf.sizeOf e
decreasing_by
 have:=tF hx;simp;omega
section
variable {H:Hp}
abbrev cFm (k:IntKind) (op:UInt8) (nm fd:Str) (a b:Int64) (s1 s2:Value):List Value:=[.int k op.toNat,bJ nm,bJ fd,.int .i64 a.toInt,.int .i64 b.toInt,s1,s2]
theorem gK {k:IntKind} {op:UInt8} {nm fd:Str} {a b:Int64} {ex:List Ex} {args:List Fm} {cs:List Value} (h:Rep H (dFm k (.mk op nm fd a b ex args)) cs) :
 ∃ p c p1 c1,cs=cFm k op nm fd a b (.slice p ex.length c) (.slice p1 args.length c1)/\Rep H (.seq 4 (ex.map (dEx k))) [.slice p ex.length c]/\Rep H (.seq 7 (args.map (dFm k))) [.slice p1 args.length c1]/\nm.length<=1000000/\fd.length<=1000000:=by
 rw [bL3,xF] at h;obtain ⟨_,rfl,_,_,h⟩:=dY.1 h;obtain ⟨_,rfl,_,hn,h⟩:=dY.1 h;obtain ⟨_,rfl,_,hm,h⟩:=dY.1 h;obtain ⟨_,rfl,_,_,h⟩:=dY.1 h;obtain ⟨_,rfl,_,_,h⟩:=dY.1 h;obtain ⟨p,c,_,rfl,hs,h⟩:=lT.1 h;obtain ⟨p1,c1,_,rfl,hs1,h⟩:=lT.1 h;rw [iT] at h;subst h;rw [aP] at hs hs1;exact ⟨p,c,p1,c1,by rw [aP,aP],hs,hs1,okS.1 hn,okS.1 hm⟩
theorem xI {k:IntKind} {op:UInt8} {nm fd:Str} {a b:Int64} {ex:List Ex} {args:List Fm} {s s1:Value} (hn:nm.length<=1000000) (hm:fd.length<=1000000) (h:Rep H (.seq 4 (ex.map (dEx k))) [s]) (h1:Rep H (.seq 7 (args.map (dFm k))) [s1]) :
 Rep H (dFm k (.mk op nm fd a b ex args)) (cFm k op nm fd a b s s1):=by
 rw [bL3,xF];exact dY.2 ⟨_,Z,Z,Jt,dY.2 ⟨_,Z,Z,okS.2 hn,dY.2 ⟨_,Z,Z,okS.2 hm,dY.2 ⟨_,Z,Z,Jt,dY.2 ⟨_,Z,Z,Jt,jK.2 ⟨[s],_,Z,h,jK.2 ⟨[s1],[],Z,h1,iT.2 rfl⟩⟩⟩⟩⟩⟩⟩
theorem qD {k:IntKind} {f:Fm} {cs:List Value} (h:Rep H (dFm k f) cs):cs.length=7:=by
 obtain ⟨op,nm,fd,a,b,ex,args⟩:=f;obtain ⟨_,_,_,_,rfl,_⟩:=gK h
 rfl
end
mutual
def Fm.all (q:Fm->Bool):Fm->Bool
 | .mk op nm fd a b ex args=>q (.mk op nm fd a b ex args) && Fm.alls q args
def Fm.alls (q:Fm->Bool):List Fm->Bool
 | []=>true
 | f::r=>Fm.all q f && Fm.alls q r
end
mutual
def Ex.count:Ex->Nat
 | .mk _ _ _ args=>Ex.counts args+1
def Ex.counts:List Ex->Nat
 | []=>0
 | e::r=>Ex.count e+Ex.counts r
end
mutual
def Fm.count:Fm->Nat
 | .mk _ _ _ _ _ ex args=>Ex.counts ex+Fm.counts args+1
def Fm.counts:List Fm->Nat
 | []=>0
 | f::r=>Fm.count f+Fm.counts r
end
structure Fs where
 lv:Nat
 nm:Bool
 fd:Bool
 wn:Bool
 am:Bool
 ex:Nat
 ar:Nat
def zFs:Fs:=⟨0,false,false,false,false,0,0⟩
def MP:List Fs:=[zFs,⟨6,false,false,false,false,0,0⟩,⟨6,false,false,false,false,0,0⟩,⟨6,false,false,false,false,1,0⟩,⟨6,true,true,false,false,0,0⟩,⟨6,true,true,false,false,1,0⟩,⟨6,true,false,false,false,0,0⟩,⟨6,true,true,false,false,0,0⟩,
 ⟨5,false,false,false,false,0,1⟩,⟨3,false,false,false,false,0,2⟩,⟨2,false,false,false,false,0,2⟩,⟨1,false,false,false,false,0,2⟩,⟨5,false,false,false,false,0,1⟩,⟨5,false,false,true,false,0,1⟩,⟨5,false,false,true,false,0,1⟩,⟨4,false,false,true,false,0,2⟩,
 ⟨5,true,false,false,true,0,1⟩,⟨5,true,false,false,true,0,1⟩,⟨5,true,false,false,true,1,1⟩]
def cK (op:UInt8):Fs:=MP.getD op.toNat zFs
def eN:Str->Option (Str × Str)
 | []=>none
 | c::r=>if c=46 then some ([],r) else (eN r).map λx=>(c::x.1,x.2)
def zJ (n:Str):Bool:=match eN n with | some (a,b)=>gL a && gL b | none=>false
def rM (f:Fm):Bool:=!f.ex.any λe=>decide ((if f.op=3 then 9 else 8)<e.depth)
mutual
def oT:Ex->Bool
 | .mk op nm _ args=>(decide (op=5) && !zJ nm && !gL nm) || ((decide (op=6) || decide (op=8)) && !zJ nm) || LB args
def LB:List Ex->Bool
 | []=>false
 | e::r=>oT e || LB r
end
def rN (f:Fm):Bool:=!((cK f.op).nm && !gL f.nm || (cK f.op).fd && !gL f.fd) && !LB f.ex
mutual
def eI:Ex->Bool
 | .mk op nm n args =>
  if op=1 then decide (nm=[]) && decide (0<=n.toInt) && decide (args.length=0)
  else if op=4 then decide (nm=[]) && decide (n=0) && decide (args.length=0)
  else if op=5\/op=8 then decide (n=0) && decide (args.length=0)
  else if op=6 then decide (n=0) && (BE args && decide (args.length=1))
  else if op=9 then decide (nm=[]) && decide (n=0) && (BE args && decide (args.length=1))
  else if op=11\/op=12\/op=13\/op=14\/op=15 then decide (nm=[]) && decide (n=0) && (BE args && decide (args.length=2))
  else false
def BE:List Ex->Bool
 | []=>true
 | e::r=>eI e && BE r
end
def CM:Ex->Bool
 | .mk op nm n args=>decide (op=0) && decide (nm=[]) && decide (n=0) && decide (args.length=0)
def KA:Ex->Bool
 | .mk op nm n args=>decide (16<=op.toNat) && decide (op.toNat<=21) && decide (nm=[]) && decide (n=0) && (BE args && decide (args.length=2))
def DU (f:Fm):Bool :=
 if (cK f.op).wn then (decide (f.a=0) && decide (f.b.toInt=-1)) || (decide (0<=f.a.toInt) && decide (f.a.toInt<=f.b.toInt) && decide (f.b.toInt<=200))
 else if (cK f.op).am then decide (-1000000<=f.a.toInt) && decide (f.a.toInt<=f.b.toInt) && decide (f.b.toInt<=1000000) && decide (f.b.toInt - f.a.toInt<32)
 else decide (f.a=0) && decide (f.b=0)
def vN (f:Fm):Bool :=
 if f.op=7 then decide (f.ex.length<=4) && f.ex.all λe=>CM e || eI e
 else decide (f.ex.length=(cK f.op).ex) && (if f.op=3 then KA (f.ex.headD (.mk 0 [] 0 [])) else if f.op=5 then eI (f.ex.headD (.mk 0 [] 0 []))
  else if f.op=18 then decide ((f.ex.headD (.mk 0 [] 0 [])).op=1) && eI (f.ex.headD (.mk 0 [] 0 [])) && decide ((f.ex.headD (.mk 0 [] 0 [])).n.toInt<=32) else true)
def jJ (f:Fm):Bool :=
 decide (¬ (cK f.op).lv=0) && ((cK f.op).nm || decide (f.nm=[])) && ((cK f.op).fd || decide (f.fd=[])) && decide (f.args.length=(cK f.op).ar) && DU f && vN f
def gT (f:Fm):Nat:=if 60<Fm.count f\/Fm.all rM f=false then 3 else if Fm.all rN f=false then 9 else if Fm.all jJ f=false then 6 else 0
theorem nF (op:UInt8) (nm:Str) (n:Int64) (args:List Ex):Ex.count (.mk op nm n args)=Ex.counts args+1:=by rw [Ex.count]
theorem iA (op:UInt8) (nm fd:Str) (a b:Int64) (ex:List Ex) (args:List Fm):Fm.count (.mk op nm fd a b ex args)=Ex.counts ex+Fm.counts args+1:=by rw [Fm.count]
theorem oU:∀ (l m:List Ex),Ex.counts (l++m)=Ex.counts l+Ex.counts m
 | [],m=>by rw [dE,Ex.counts,dO]
 | e::l,m=>by rw [bY,Ex.counts,Ex.counts,oU l m,fP]
theorem fQ:∀ (l m:List Fm),Fm.counts (l++m)=Fm.counts l+Fm.counts m
 | [],m=>by rw [dE,Fm.counts,dO]
 | e::l,m=>by rw [bY,Fm.counts,Fm.counts,fQ l m,fP]
theorem cK5 (e:Ex):1<=e.count:=by obtain ⟨op,nm,n,args⟩:=e;rw [nF];omega
theorem cJ4 (f:Fm):1<=f.count:=by obtain ⟨op,nm,fd,a,b,ex,args⟩:=f;rw [iA];omega
theorem aF0:∀ l:List Ex,l.length<=Ex.counts l
 | []=>aN _
 | e::l=>by rw [Ex.counts,aF];have:=aF0 l;have:=cK5 e;omega
theorem bX2:∀ l:List Fm,l.length<=Fm.counts l
 | []=>aN _
 | e::l=>by rw [Fm.counts,aF];have:=bX2 l;have:=cJ4 e;omega
theorem YS (e:Ex):e.depth<=e.count:=by
 induction e using Ex.ind with | _ op nm n args ih
 rw [wK,nF]
 have:Ex.deeps args<=Ex.counts args:=by
  clear n nm op;induction args with
  | nil=>rw [Ex.deeps];exact aN _
  | cons a r ih2 =>
   rw [Ex.deeps,Ex.counts];have h1:=ih a (bH ..);have h2:=ih2 λx hx=>ih x (cD _ hx);omega
 omega
theorem xJ:∀ {l:List Ex} {e:Ex},e∈l->e.count<=Ex.counts l
 | a::r,e,h=>by
  rw [Ex.counts];rcases bM.1 h with rfl | h
  ·omega
  ·have:=xJ h;omega
theorem uQ:∀ {l:List Fm} {e:Fm},e∈l->e.count<=Fm.counts l
 | a::r,e,h=>by
  rw [Fm.counts];rcases bM.1 h with rfl | h
  ·omega
  ·have:=uQ h;omega
theorem YL (q:Fm->Bool):∀ l,Fm.alls q l=l.all (Fm.all q)
 | []=>rfl
 | f::r=>by rw [Fm.alls,gJ,YL q r]
theorem kF (q:Fm->Bool) (op:UInt8) (nm fd:Str) (a b:Int64) (ex:List Ex) (args:List Fm):Fm.all q (.mk op nm fd a b ex args)=(q (.mk op nm fd a b ex args) && args.all (Fm.all q)):=by rw [Fm.all,YL]
theorem LF (f:Fm):Fm.all (λ_=>true) f=true:=by
 induction f using Fm.ind with | _ op nm fd a b ex args ih
 rw [kF,aO];exact bD.2 ih
def cQ0 (f:Fm):Bool:=f.ex.all λe=>decide (e.depth<=1000000)
theorem aE4 (f:Fm) (h:f.count<=1000000):Fm.all cQ0 f=true:=by
 induction f using Fm.ind with | _ op nm fd a b ex args ih
 rw [iA] at h;rw [kF,aE];refine ⟨bD.2 λe he=>aG ?_,bD.2 λx hx=>ih x hx ?_⟩
 ·have h1:=xJ (l:=ex) he;have h2:=YS e;omega
 ·have h1:=uQ hx;omega
def blE (N:Nat) (e:Ex):Bool:=Ex.all (λe=>decide (e.args.length<=N)) e
def blF (N:Nat) (f:Fm):Bool:=Fm.all (λf=>decide (f.ex.length<=N) && decide (f.args.length<=N) && f.ex.all (blE N)) f
theorem nS (q:Ex->Bool):∀ l,Ex.alls q l=l.all (Ex.all q)
 | []=>rfl
 | e::r=>by rw [Ex.alls,gJ,nS q r]
variable {N:Nat}
theorem GV {op:UInt8} {nm:Str} {n:Int64} {args:List Ex} :blE N (.mk op nm n args)=true↔args.length<=N/\∀ a∈args,blE N a=true:=by
 unfold blE;rw [uR,nS,aE,aB,bD];rfl
theorem yN {op:UInt8} {nm fd:Str} {a b:Int64} {ex:List Ex} {args:List Fm} :blF N (.mk op nm fd a b ex args)=true↔(ex.length<=N/\args.length<=N/\∀ e∈ex,blE N e=true)/\∀ g∈args,blF N g=true:=by
 unfold blF;rw [kF,aE,aE,aE,aB,aB,bD,bD];exact ⟨λh=>⟨⟨h.1.1.1,h.1.1.2,h.1.2⟩,h.2⟩,λh=>⟨⟨⟨h.1.1,h.1.2.1⟩,h.1.2.2⟩,h.2⟩⟩
theorem kI:dU prg 113 2=some 5:=by kernel_rfl
theorem jS:dU prg 113 3=some 6:=by kernel_rfl
theorem lL:dU prg 129 0=some 0:=by kernel_rfl
theorem QZ:dU prg 131 0=some 0:=by kernel_rfl
theorem ZQ (x0 x1 x2 x3 x4:Int):pG prg 124 5 [(0,.int .i64 x0),(1,.int .i64 x1),(2,.int .i64 x2),(3,.int .i64 x3),(4,.int .i64 x4)]=some (3,[.int .i64 x0,.int .i64 x1,.int .i64 x2,.int .i64 x3,.int .i64 x4]):=by kernel_rfl
def TD:Nat->Nat
 | 0=>1
 | k+1=>2 * TD k+1
theorem bO5:∀ k,1<=TD k
 | 0=>aY _
 | k+1=>by rw [TD];omega
def cB3 (d k:Nat):Prop:=∀ {H:Hp} {w0 W:World} {bs:List Res} {b:Nat} {ft:Ft} {pf pl pk:Option Addr} {cf cl ck:Nat} {z:Wz},(_ :  qN H ft pf cf pk ck)->(_ :  Wok H z)->-100000<=z.lf - (TD k:Nat)->z.lf<=100->St H w0 (.box b [bJ ft.nm,.slice pf ft.flags.length cf,.slice pl ft.links.length cl,.slice pk ft.comps.length ck,.slice z.tp z.l.length z.tc,.int .i64 z.lf,iN z.bd] 113::bs) W ->
 Calls prg 161 #[.pointer (some ⟨b,0,none⟩),iN d] W λe W'=>∃ x:Ex × List Value × Hp × Wz,(Rep x.2.2.1 (dEx .i64 x.1) x.2.1/\HUp w0 H x.2.2.1/\(x.1.depth<=k+1/\blE 3 x.1=true/\x.1.count<=TD (k))/\Wok x.2.2.1 x.2.2.2/\(z.lf - (TD (k):Nat)<=x.2.2.2.lf/\x.2.2.2.lf<=z.lf)/\x.2.2.2.bd=z.bd)/\e=.returned (.agg x.2.1.toArray)/\St x.2.2.1 w0 (.box b [bJ ft.nm,.slice pf ft.flags.length cf,.slice pl ft.links.length cl,.slice pk ft.comps.length ck,.slice x.2.2.2.tp x.2.2.2.l.length x.2.2.2.tc,.int .i64 x.2.2.2.lf,iN x.2.2.2.bd] 113::bs) W'
def aC5:List Nat:=[14,15,11,12,13]
theorem bV1 (h:k<5):aC5.getD k 0<256:=by
 have key:∀ k∈List.range 5,aC5.getD k 0<256:=aS
 exact key k (bZ.2 h)
theorem lf0 {op:UInt8} {nm:Str} {n:Int64} :(Ex.mk op nm n []).depth<=1/\blE 3 (.mk op nm n [])=true/\(Ex.mk op nm n []).count<=1:=⟨by rw [wK,Ex.deeps];exact aY _,GV.2 ⟨aS,λx hx=>(by cases hx)⟩,by rw [nF,Ex.counts];exact aY _⟩
theorem lfk {op:UInt8} {nm:Str} {n:Int64} (k:Nat):(Ex.mk op nm n []).depth<=k+1/\blE 3 (.mk op nm n [])=true/\(Ex.mk op nm n []).count<=TD k:=⟨aZ lf0.1 aD,lf0.2.1,aZ lf0.2.2 (bO5 k)⟩
theorem lf1 {op:UInt8} {nm:Str} {n:Int64} {e:Ex} (h:e.depth<=k+1/\blE 3 e=true/\e.count<=TD k):(Ex.mk op nm n [e]).depth<=k+1+1/\blE 3 (.mk op nm n [e])=true/\(Ex.mk op nm n [e]).count<=TD (k+1) :=
 ⟨by rw [wK,Ex.deeps,Ex.deeps];omega,GV.2 ⟨(by decide:1<=3),λx hx=>by rw [bS.1 hx];exact h.2.1⟩,by rw [nF,Ex.counts,Ex.counts,TD];omega⟩
theorem lf2 {op:UInt8} {nm:Str} {n:Int64} {e g:Ex} (h:e.depth<=k+1/\blE 3 e=true/\e.count<=TD k) (h2:g.depth<=k+1/\blE 3 g=true/\g.count<=TD k):(Ex.mk op nm n [e,g]).depth<=k+1+1/\blE 3 (.mk op nm n [e,g])=true/\(Ex.mk op nm n [e,g]).count<=TD (k+1) :=
 ⟨by rw [wK,Ex.deeps,Ex.deeps,Ex.deeps];omega,GV.2 ⟨(by decide:2<=3),λx hx=>by
  simp only [bM,List.not_mem_nil,or_false] at hx;rcases hx with rfl | rfl
  ·exact h.2.1
  ·exact h2.2.1⟩,by rw [nF,Ex.counts,Ex.counts,Ex.counts,TD];omega⟩
theorem UU {op:UInt8} {nm:Str} (hn:nm.length<=1000000):Rep H (dEx .i64 (.mk op nm 0 [])) [.int .i64 op.toNat,bJ nm,.int .i64 0,cL]:=kK (op:=op) (nm:=nm) (n:=0) (args:=[]) hn (Rep.empty (p:=none) (c:=0) aS)
theorem bE6 (hn:n<=1000000):Rep H (dEx .i64 (.mk 1 [] (Int64.ofNat n) [])) [.int .i64 1,dV,iN n,cL]:=by
 have h:=kK (H:=H) (k:=.i64) (op:=1) (nm:=[]) (n:=Int64.ofNat n) (args:=[]) aS (Rep.empty (p:=none) (c:=0) aS);rw [cI4 hn] at h;exact h
variable {bb:Nat}
theorem aN6 {op:UInt8} {nm:Str} {e:Ex} {c1:List Value} (hn:nm.length<=1000000) (h1:Rep H (dEx .i64 e) c1) (hl:c1.length=4) (m:EA H bb 0 c1):Rep H (dEx .i64 (.mk op nm 0 [e])) [.int .i64 op.toNat,bJ nm,.int .i64 0,.slice (dI bb) 1 1] :=
 kK (op:=op) (nm:=nm) (n:=0) (args:=[e]) hn (Rep.mk (n:=1) (c:=1) m (dT.single h1 hl) rfl (aY _) aS)
variable {i:Nat}
theorem aN5 {e g:Ex} {c1 c2:List Value} (h1:Rep H (dEx .i64 e) c1) (l1:c1.length=4) (h2:Rep H (dEx .i64 g) c2) (l2:c2.length=4) (m:EA H bb 0 (c1++c2)) (hi:i<256):Rep H (dEx .i64 (.mk (UInt8.ofNat i) [] 0 [e,g])) [iN i,dV,.int .i64 0,.slice (dI bb) 2 2]:=by
 have:=kK (H:=H) (k:=.i64) (op:=UInt8.ofNat i) (nm:=[]) (n:=0) (args:=[e,g]) aS (Rep.mk (n:=2) (c:=2) m (dT.app (dT.single h1 l1) (dT.single h2 l2)) rfl (aY _) aS);rw [show (UInt8.ofNat i).toNat=i from dH hi] at this;exact this
variable {cs:List Value}
theorem ex4 {e:Ex} (h:Rep H (dEx .i64 e) cs):∃ x y z w,cs=[x,y,z,w]/\cs.length=4:=by
 obtain ⟨op,nm,n,args⟩:=e;obtain ⟨_,_,rfl,_⟩:=eV h;exact ⟨_,_,_,_,Z,Z⟩
set_option maxHeartbeats 4000000 in
theorem RI (d k:Nat) (hdk:d+k=2) (hih:∀ k',k=k'+1->cB3 (d+1) k'):cB3 d k:=by
 intro H w0 W bs b ft pf pl pk cf cl ck z E hz hlo hhi s;have hTP:=bO5 k;refine iB func161 rfl ntmps161 rfl s ?_;refine .sr<|.al gX Z λb4=>.ns<|.mv Z<|.nC Z<|.fA Z kI<|.lD Z bQ cU Z<|.yw (.sub Z Z (c:=z.lf - 1) (w6 aD))<|.nC Z<|.fA Z kI<|.st iJ Z Z iM Z (nb Z) Z<|.nt<|.sq<|?_
 have hz0:Wok H (⟨z.l,z.tp,z.tc,z.lf - 1,z.bd⟩:Wz):=⟨hz.rep,hz.bd⟩;refine .rg<|.mv Z<|.xs (X:=Nat × Wz) Z (λW s=>rH E hz0 10 aS (s.p2_2 [1,0] Z)) λx1 hx1=>?_
 obtain ⟨k1,z1⟩:=x1;obtain ⟨hk1,hz1,e1l,e1b⟩:=hx1;dsimp only at hk1 hz1 e1l e1b|-;refine .a Z Z<|.ns<|.mv Z<|.xs (X:=(Cp × Option Addr × Nat × Option Addr × Nat) × Wz) Z (λW s=>LI E hz1  (s.p2_2 [0,1] Z)) λx2 hx2=>?_
 obtain ⟨⟨c2,p2,c2x,r2,d2x⟩,z2⟩:=x2;obtain ⟨⟨hc2,rc2,hv2,hs2⟩,hz2,e2l,e2b⟩:=hx2;dsimp only at hc2 rc2 hv2 hs2 hz2 e2l e2b|-;have G2:=E.good c2 hc2;refine .al BT Z λb6=>.sX .head Z Z BV Z<|.nt<|.sq<|.bk<|.cu (X:=Bool) [(0,_),(1,_),(4,_),(5,_),(6,_)] ⟨Z,Z,Z,Z,Z,Jt⟩ (λq20=>[(20,.bool q20)]) (λq20=>H) (λq20=>(.box b6 [bJ c2.nm,.slice p2 c2.vars.length c2x,.slice r2 c2.vers.length d2x] 129::.box b4 [.int .i64 0,dV,.int .i64 0,cL] 83::.box b [bJ ft.nm,.slice pf ft.flags.length cf,.slice pl ft.links.length cl,.slice pk ft.comps.length ck,.slice z2.tp z2.l.length z2.tc,.int .i64 z2.lf,iN z2.bd] 113::bs)) (λq20=>True) ?_ λq20 hC=>?_
 ·
  refine .rg<|.mv Z<|.nC Z<|.fA Z kI<|.lD Z bQ cU Z<|.yw (.leq Z Z)<|.mv Z<|.b2 (λh26=>?_) (λh26=>?_)
  ·exact .g2<|.pT Z<|.aq Z<|.me _ ⟨Z,Jt⟩ ⟨Z,Z,Z,Z,Z,Jt⟩ (λ_ s=>(s.p3_3 [0,2,1] Z)) trivial
  exact .gy (.move Z)<|.gy (.lss Z Z)<|.pF Z<|.aq Z<|.me _ ⟨Z,Jt⟩ ⟨Z,Z,Z,Z,Z,Jt⟩ (λ_ s=>(s.p3_3 [0,2,1] Z)) trivial
 have e20q:=hC;refine .cd Z (λh20=>?_) (λh20=>?_)
 ·refine .sm Z<|.xs (X:=Nat × Wz) Z (λW s=>rH E hz2 8 aS (s.p3_3 [2,0,1] Z)) λx3 hx3=>?_
  obtain ⟨k3,z3⟩:=x3;obtain ⟨hk3,hz3,e3l,e3b⟩:=hx3;dsimp only at hk3 hz3 e3l e3b|-;refine .yw (.build Z (CB _ _))<|.sX iE Z Z eD Z<|.zR<|?_
  refine y8 Z (.cell Z cY iG rfl) λW s=>?_;exact ⟨(.mk 1 [] (Int64.ofNat k3) [],[.int .i64 1,dV,iN k3,cL],H,z3),⟨bE6 aD,.refl,lfk _,hz3,⟨by dsimp only;omega,by dsimp only;omega⟩,by dsimp only;omega⟩,Z,s.p3_1 [0] rfl⟩
 refine .cu (X:=Bool) [(0,_),(1,_),(4,_),(5,_),(6,_)] ⟨Z,Z,Z,Z,Z,Jt⟩ (λq33=>[(33,.bool q33)]) (λq33=>H) (λq33=>(.box b6 [bJ c2.nm,.slice p2 c2.vars.length c2x,.slice r2 c2.vers.length d2x] 129::.box b4 [.int .i64 0,dV,.int .i64 0,cL] 83::.box b [bJ ft.nm,.slice pf ft.flags.length cf,.slice pl ft.links.length cl,.slice pk ft.comps.length ck,.slice z2.tp z2.l.length z2.tc,.int .i64 z2.lf,iN z2.bd] 113::bs)) (λq33=>q33=false->d<=1) ?_ λq33 hC=>?_
 ·
  refine .rg<|.mv Z<|.yw (.lss Z Z)<|.mv Z<|.b2 (λh36=>?_) (λh36=>?_)
  ·exact .g2<|.pT Z<|.aq Z<|.me _ ⟨Z,Jt⟩ ⟨Z,Z,Z,Z,Z,Jt⟩ (λ_ s=>s) (λh=>by first | (cases h;done) | (have h2:=aJ h;omega))
  exact .gy (.move Z)<|.gy (.gtr Z Z)<|.pF Z<|.aq Z<|.me _ ⟨Z,Jt⟩ ⟨Z,Z,Z,Z,Z,Jt⟩ (λ_ s=>s) (λh=>by first | (cases h;done) | (have h2:=aJ h;omega))
 have e33q:=hC;refine .cd Z (λh33=>?_) (λh33=>?_)
 ·refine .sq<|.fL 18 [(0,0),(1,0),(2,0),(3,0),(4,0),(5,0),(6,0),(7,0),(8,0),(10,0),(9,3),(11,0),(12,0),(13,0),(14,0),(15,0),(16,0),(17,0)]<|.fA Z lL<|.lD Z bT Hm Z<|.yw (.app Z Z (by have h1:=G2.nm;simp only [aC,aF,aH];omega))<|.fA Z jC<|.lD Z sE Hm Z<|.mv Z<|.fA Z jC<|.lD Z sE Hm Z<|.yw (.lenSl AQ Z)<|.yw (.loadW Z qY Hm Z)<|.x3 (X:=Nat × Wz) Z (λW s=>rH E hz2 c2.vars.length G2.vars.1 (s.p3_3 [2,0,1] Z)) (λ_ _=>(.yv (.loadW Z qY cU Z)<|.d4<|.yv (.load Z sE cU Z)<|.yv (.fieldAddr Z jC)<|.yv (.app Z Z (by have h1:=G2.nm;simp only [aC,aF,aH];omega))<|.yv (.load Z bT cU Z)<|.yv (.fieldAddr Z lL)<|.nl)) λx3 hx3=>?_
  obtain ⟨k3,z3⟩:=x3;obtain ⟨hk3,hz3,e3l,e3b⟩:=hx3;dsimp only at hk3 hz3 e3l e3b|-;have hn0:=G2.ints;have hix:k3 % (c2.vars.countP (λv=>decide (v.ty=1)))<c2.vars.length:=eK (rC _ hn0.1) hn0.2;obtain ⟨bE,oE,cE,hpE,rE,lE,mE⟩:=hv2.elem (eR (f:=dVr .i64) hix);cases hpE;obtain ⟨rfl,hvn⟩:=TW rE;refine .yw (.xl Z (λW s=>aP8 H c2 _ W rc2 s.agr))<|.yw (.rem Z Z aD (c:=((k3 % (c2.vars.countP (λv=>decide (v.ty=1))):Nat):Int)) (CW hn0.1))<|.yw (.indexSl AQ Z Z (i:=k3 % (c2.vars.countP (λv=>decide (v.ty=1)))) Z aD (q:=oE+k3 % (c2.vars.countP (λv=>decide (v.ty=1))) * 3) aD)<|.fA Z QZ<|.yw (.loadM Z bT mE (k:=0) Z Z)<|.yw (.app Z Z (by have h1:=G2.nm;have h2:=G2.vnm _ (aX hix);simp only [aC,aF,aH];omega))<|.yw (.build Z (oO _ _))<|.fn (tl:=[_]) Z<|.sX iE Z Z eD Z<|.zR<|?_
  refine y8 Z (.cell Z cY iG rfl) λW s=>?_;exact ⟨(.mk 5 (c2.nm++[46]++c2.vars[k3 % (c2.vars.countP (λv=>decide (v.ty=1)))].nm) 0 [],[.int .i64 5,bJ (c2.nm++[46]++c2.vars[k3 % (c2.vars.countP (λv=>decide (v.ty=1)))].nm),.int .i64 0,cL],H,z3),⟨UU (op:=5) (by have h1:=G2.nm;have h2:=G2.vnm _ (aX hix);simp only [aC,aF,aH];omega),.refl,lfk _,hz3,⟨by dsimp only;omega,by dsimp only;omega⟩,by dsimp only;omega⟩,Z,s.p3_1 [0] rfl⟩
 have hd1:d<=1:=e33q h33;obtain ⟨k',rfl⟩:∃ k',k=k'+1:=⟨k - 1,aD⟩;have ih:cB3 (d+1) k':=hih k' rfl;have hTD:TD (k'+1)=2 * TD k'+1:=rfl;refine .cu (X:=Bool) [(0,_),(1,_),(4,_),(5,_),(6,_)] ⟨Z,Z,Z,Z,Z,Jt⟩ (λq58=>[(58,.bool q58)]) (λq58=>H) (λq58=>(.box b6 [bJ c2.nm,.slice p2 c2.vars.length c2x,.slice r2 c2.vers.length d2x] 129::.box b4 [.int .i64 0,dV,.int .i64 0,cL] 83::.box b [bJ ft.nm,.slice pf ft.flags.length cf,.slice pl ft.links.length cl,.slice pk ft.comps.length ck,.slice z2.tp z2.l.length z2.tc,.int .i64 z2.lf,iN z2.bd] 113::bs)) (λq58=>q58=true->0<z2.bd) ?_ λq58 hC=>?_
 ·
  refine .rg<|.mv Z<|.yw (.eql Z Z)<|.mv Z<|.b2 (λh61=>?_) (λh61=>?_)
  ·exact .gy (.move Z)<|.gy (.nilCheck Z)<|.gy (.fieldAddr Z jS)<|.gy (.load Z bQ iG Z)<|.gy (.gtr Z Z)<|.pT Z<|.aq Z<|.me _ ⟨Z,Jt⟩ ⟨Z,Z,Z,Z,Z,Jt⟩ (λ_ s=>s) (λh=>by first | (cases h;done) | (have h2:=aI h;omega))
  exact .g4<|.gG<|.pF Z<|.aq Z<|.me _ ⟨Z,Jt⟩ ⟨Z,Z,Z,Z,Z,Jt⟩ (λ_ s=>s) (λh=>by first | (cases h;done) | (have h2:=aI h;omega))
 have e58q:=hC;refine .cd Z (λh58=>?_) (λh58=>?_)
 ·have hb0:=e58q h58;refine .sq<|.fL 10 [(1,0),(2,0),(3,0),(4,0),(5,0),(0,1),(6,3),(7,0),(8,0),(9,0)]<|.mv Z<|.mv Z<|.nC Z<|.fA Z jS<|.lD Z bQ iG Z<|.xt (X:=Value) Z (λW s=>lZ H 107 4 aS W s.agr) λv9 H9 hv9 u9=>?_
  obtain ⟨p9,c9,e9,_⟩:=hv9.sl;simp only [bV,dL] at e9;subst e9;have E9:=qN.up E u9.up;have hz9:=hz2.up u9.up;refine .x3 (X:=Nat × Wz) Z (λW s=>rH E9 hz9 z2.bd hb0 (s.p3_3 [2,0,1] Z)) (λ_ _=>(.d3<|.d2<|.nl)) λx3 hx3=>?_;obtain ⟨k3,z3⟩:=x3;obtain ⟨hk3,hz3,e3l,e3b⟩:=hx3;dsimp only at hk3 hz3 e3l e3b|-;have hix:k3<(kZ 107 4).length:=by have h1:=hz2.bd;have h2:(kZ 107 4).length=4:=rfl;omega
  obtain ⟨bE,oE,cE,hpE,rE,lE,mE⟩:=hv9.elem (eR (f:=zU) hix);cases hpE;obtain rfl:=CV rE;have hnk:((kZ 107 4)[k3]).length<=1000000:=okS.1 (by unfold zU Rep at rE;exact rE.2.2);refine .yw (.indexSl fD Z Z (i:=k3) Z (by rw [aP];exact hix) (q:=oE+k3 * 1) aD)<|.yw (.loadM Z bT mE (k:=0) Z Z)<|.yw (.build Z (oO _ _))<|.fn (tl:=[_]) Z<|.sX iE Z Z eD Z<|.zR<|?_
  refine y8 Z (.cell Z cY iG rfl) λW s=>?_;exact ⟨(.mk 5 (kZ 107 4)[k3] 0 [],[.int .i64 5,bJ (kZ 107 4)[k3],.int .i64 0,cL],H9,z3),⟨UU (op:=5) hnk,u9,lfk _,hz3,⟨by dsimp only;omega,by dsimp only;omega⟩,by dsimp only;omega⟩,Z,s.p3_1 [0] rfl⟩
 refine .cu (X:=Bool) [(0,_),(1,_),(4,_),(5,_),(6,_)] ⟨Z,Z,Z,Z,Z,Jt⟩ (λq78=>[(78,.bool q78)]) (λq78=>H) (λq78=>(.box b6 [bJ c2.nm,.slice p2 c2.vars.length c2x,.slice r2 c2.vers.length d2x] 129::.box b4 [.int .i64 0,dV,.int .i64 0,cL] 83::.box b [bJ ft.nm,.slice pf ft.flags.length cf,.slice pl ft.links.length cl,.slice pk ft.comps.length ck,.slice z2.tp z2.l.length z2.tc,.int .i64 z2.lf,iN z2.bd] 113::bs)) (λq78=>True) ?_ λq78 hC=>?_
 ·
  refine .rg<|.mv Z<|.yw (.eql Z Z)<|.mv Z<|.b2 (λh81=>?_) (λh81=>?_)
  ·exact .gy (.loadW Z qY Hm Z)<|.gy (.xl Z (λW s=>JH H c2 G2 _ W rc2 s.agr))<|.pT Z<|.aq Z<|.me _ ⟨Z,Jt⟩ ⟨Z,Z,Z,Z,Z,Jt⟩ (λ_ s=>s) trivial
  exact .g2<|.pF Z<|.aq Z<|.me _ ⟨Z,Jt⟩ ⟨Z,Z,Z,Z,Z,Jt⟩ (λ_ s=>s) trivial
 have e78q:=hC;refine .cd Z (λh78=>?_) (λh78=>?_)
 ·refine .sq<|.fL 9 [(0,0),(1,0),(2,0),(3,0),(4,0),(5,0),(6,3),(7,1),(8,0)]<|.fA Z lL<|.lD Z bT Hm Z<|.yw (.app Z Z (by have h1:=G2.nm;simp only [aC,aF,aH];omega))<|.mv Z<|.mv Z<|.yw (.add Z Z (c:=((d+1:Nat):Int)) ((w6 aD).trans aD))<|.x3 (X:=Ex × List Value × Hp × Wz) Z (λW s=>ih E hz2 aD aD (s.p3_3 [2,0,1] Z)) (λ_ _=>(.d3<|.yv (.app Z Z (by have h1:=G2.nm;simp only [aC,aF,aH];omega))<|.yv (.load Z bT cU Z)<|.yv (.fieldAddr Z lL)<|.nl)) λy4 hy4=>?_
  obtain ⟨t4,cs4,H4,z4⟩:=y4;obtain ⟨rt4,u4,g4,hz4,l4,b4d⟩:=hy4;dsimp only at rt4 u4 g4 hz4 l4 b4d|-;obtain ⟨w4a,w4b,w4c,w4d,rfl,_⟩:=ex4 rt4;have E4:=qN.up E u4.up;refine .blF Z (gH _ _ _ _) Z λb92 H5 u5 m5=>.yw (.build Z (yV _ _ _ _ _))<|.fn (tl:=[_]) Z<|.sX iE Z Z eD Z<|.zR<|?_
  refine y8 Z (.cell Z cY iG rfl) λW s=>?_;exact ⟨(.mk 6 (c2.nm++[46,116,48]) 0 [t4],[.int .i64 6,bJ (c2.nm++[46,116,48]),.int .i64 0,.slice (dI b92) 1 1],H5,z4),⟨aN6 (op:=6) (by have h1:=G2.nm;simp only [aC,aF,aH];omega) (rt4.up u5.up) rfl m5,u4.trans u5,lf1 g4,hz4.up u5.up,⟨by dsimp only;omega,by dsimp only;omega⟩,by dsimp only;omega⟩,Z,s.p3_1 [0] rfl⟩
 refine .cu (X:=Bool) [(0,_),(1,_),(4,_),(5,_),(6,_)] ⟨Z,Z,Z,Z,Z,Jt⟩ (λq94=>[(94,.bool q94)]) (λq94=>H) (λq94=>(.box b6 [bJ c2.nm,.slice p2 c2.vars.length c2x,.slice r2 c2.vers.length d2x] 129::.box b4 [.int .i64 0,dV,.int .i64 0,cL] 83::.box b [bJ ft.nm,.slice pf ft.flags.length cf,.slice pl ft.links.length cl,.slice pk ft.comps.length ck,.slice z2.tp z2.l.length z2.tc,.int .i64 z2.lf,iN z2.bd] 113::bs)) (λq94=>True) ?_ λq94 hC=>?_
 ·
  refine .rg<|.mv Z<|.yw (.eql Z Z)<|.mv Z<|.b2 (λh97=>?_) (λh97=>?_)
  ·exact .gy (.loadW Z qY Hm Z)<|.gy (.xl Z (λW s=>JH H c2 G2 _ W rc2 s.agr))<|.pT Z<|.aq Z<|.me _ ⟨Z,Jt⟩ ⟨Z,Z,Z,Z,Z,Jt⟩ (λ_ s=>s) trivial
  exact .g2<|.pF Z<|.aq Z<|.me _ ⟨Z,Jt⟩ ⟨Z,Z,Z,Z,Z,Jt⟩ (λ_ s=>s) trivial
 have e94q:=hC;refine .cd Z (λh94=>?_) (λh94=>?_)
 ·refine .sr<|.fA Z lL<|.lD Z bT Hm Z<|.yw (.app Z Z (by have h1:=G2.nm;simp only [aC,aF,aH];omega))<|.yw (.build Z (oO _ _))<|.sX iJ Z Z eD Z<|.zR<|?_
  refine y8 Z (.cell Z cY cU rfl) λW s=>?_;exact ⟨(.mk 8 (c2.nm++[46,116,48]) 0 [],[.int .i64 8,bJ (c2.nm++[46,116,48]),.int .i64 0,cL],H,z2),⟨UU (op:=8) (by have h1:=G2.nm;simp only [aC,aF,aH];omega),.refl,lfk _,hz2,⟨by dsimp only;omega,by dsimp only;omega⟩,by dsimp only;omega⟩,Z,s.p3_1 [2] rfl⟩
 refine .sm Z<|.yw (.eql Z Z)<|.aq Z<|.cd Z (λh105=>?_) (λh105=>?_)
 ·refine .sr<|.yw (.build Z (HD _))<|.sX iJ Z Z eD Z<|.zR<|?_
  refine y8 Z (.cell Z cY cU rfl) λW s=>?_;exact ⟨(.mk 4 [] 0 [],[.int .i64 4,dV,.int .i64 0,cL],H,z2),⟨UU (op:=4) (nm:=[]) aS,.refl,lfk _,hz2,⟨by dsimp only;omega,by dsimp only;omega⟩,by dsimp only;omega⟩,Z,s.p3_1 [2] rfl⟩
 refine .sm Z<|.yw (.eql Z Z)<|.aq Z<|.cd Z (λh109=>?_) (λh109=>?_)
 ·refine .sm Z<|.mv Z<|.yw (.add Z Z (c:=((d+1:Nat):Int)) ((w6 aD).trans aD))<|.xs (X:=Ex × List Value × Hp × Wz) Z (λW s=>ih E hz2 aD aD (s.p3_3 [2,0,1] Z)) λy4 hy4=>?_
  obtain ⟨t4,cs4,H4,z4⟩:=y4;obtain ⟨rt4,u4,g4,hz4,l4,b4d⟩:=hy4;dsimp only at rt4 u4 g4 hz4 l4 b4d|-;obtain ⟨w4a,w4b,w4c,w4d,rfl,_⟩:=ex4 rt4;have E4:=qN.up E u4.up;refine .bl Z (gH _ _ _ _) Z λb116=>?_;refine Sx.freezeBoxN λH5 u5 m5=>?_;refine .yw (.build Z (oM _ _ _ _))<|.sX iE Z Z eD Z<|.zR<|?_
  refine y8 Z (.cell Z cY iG rfl) λW s=>?_;exact ⟨(.mk 9 [] 0 [t4],[.int .i64 9,dV,.int .i64 0,.slice (dI b116) 1 1],H5,z4),⟨aN6 (op:=9) (nm:=[]) aS (rt4.up u5.up) rfl m5,u4.trans u5,lf1 g4,hz4.up u5.up,⟨by dsimp only;omega,by dsimp only;omega⟩,by dsimp only;omega⟩,Z,s.p3_1 [0] rfl⟩
 refine .sk<|.bN<|.tN<|.sr<|.bl Z (ZQ _ _ _ _ _) Z λb118=>.mv Z<|.xs (X:=Nat × Wz) Z (λW s=>rH E hz2 5 aS (s.p4_4 [3,0,1,2] Z)) λx3 hx3=>?_
 obtain ⟨k3,z3⟩:=x3;obtain ⟨hk3,hz3,e3l,e3b⟩:=hx3;dsimp only at hk3 hz3 e3l e3b|-;refine .yw (.indexSl yR Z Z (i:=k3) Z aD (q:=k3) aD)<|.yw (.load (v:=.int .i64 (aC5.getD k3 0:Nat)) Z bQ cU (tI (f:=λn:Nat=>Value.int .i64 (n:Nat)) (l:=aC5) (show k3<aC5.length from hk3) 0))<|.a Z Z<|.ns<|.mv Z<|.mv Z<|.yw (.add Z Z (c:=((d+1:Nat):Int)) ((w6 aD).trans aD))<|.xs (X:=Ex × List Value × Hp × Wz) Z (λW s=>ih E hz3 aD aD (s.p4_4 [0,1,2,3] Z)) λy4 hy4=>?_
 obtain ⟨t4,cs4,H4,z4⟩:=y4;obtain ⟨rt4,u4,g4,hz4,l4,b4d⟩:=hy4;dsimp only at rt4 u4 g4 hz4 l4 b4d|-;obtain ⟨w4a,w4b,w4c,w4d,rfl,_⟩:=ex4 rt4;have E4:=qN.up E u4.up;refine .al gX Z λb8=>.sW .head Z Z eD (Rep.one rt4) Z<|.nt<|.sq<|.fL 8 [(0,0),(1,0),(2,0),(3,0),(4,0),(5,3),(6,1),(7,0)]<|.mv Z<|.yw (.loadW Z cY Hm Z)<|.mv Z<|.mv Z<|.yw (.add Z Z (c:=((d+1:Nat):Int)) ((w6 aD).trans aD))<|.x3 (X:=Ex × List Value × Hp × Wz) Z (λW s=>ih E4 hz4 aD aD (s.p5_5 [1,0,2,3,4] Z)) (λ_ _=>(.d3<|.yv (.loadW Z cY cU Z)<|.yv (.move Z)<|.nl)) λy6 hy6=>?_
 obtain ⟨t6,cs6,H6,z6⟩:=y6;obtain ⟨rt6,u6,g6,hz6,l6,b6d⟩:=hy6;dsimp only at rt6 u6 g6 hz6 l6 b6d|-;obtain ⟨w6a,w6b,w6c,w6d,rfl,_⟩:=ex4 rt6;have E6:=qN.up E4 u6.up;refine .blF Z (vP _ _ _ _ _ _ _ _) Z λb133 H7 u7 m7=>.yw (.build Z (oM _ _ _ _))<|.fn (tl:=[_]) Z<|.sX QD Z Z eD Z<|.nt<|.rt<|?_
 refine y8 Z (.cell Z cY wI rfl) λW s=>?_;exact ⟨(.mk (UInt8.ofNat (aC5.getD k3 0)) [] 0 [t4,t6],[iN (aC5.getD k3 0),dV,.int .i64 0,.slice (dI b133) 2 2],H7,z6),⟨aN5 (rt4.up (u6.trans u7).up) rfl (rt6.up u7.up) rfl m7 (bV1 hk3),(u4.trans u6).trans u7,lf2 g4 g6,hz6.up u7.up,⟨by dsimp only;omega,by dsimp only;omega⟩,by dsimp only;omega⟩,Z,s.p5_1 [0] rfl⟩
end Go.Proofs.YtidclioghdbphaaGreatDoor
namespace Go.Sx
open Go.RowKit Go.Par
section
variable {dfs:List Deferred} {P:Program} {n:Nat} {L:Sl} {H:Hp} {w0:World} {bs:List Res} {Q:Exit->Act->World->Prop} {ops:Array Oper} {rest:List Oper} {K:Act->World->Prop}
variable {d:Option Tmp} {ty:TypeId} {pos:String} {aft:Array Edge} {v:Value} {t:Tmp} {x y:Operand} {T:TypeId}
theorem At.rcut {e:TypeId} {size k m g c:Nat} {xs ys:List Value} {bs':List Res} {G:Act->World->Prop} (hm:Upd bs (.row e size (.slice (dI g) k c) k xs) (.row e size (.slice (dI g) m c) m ys) bs') (hk:m<=k) (hy:ys=xs.take (m * size)) (h:At dfs n L H w0 bs' G):At dfs n L H w0 bs G:=λa W f s=>by
 have ho:W.ownsRow w0.heap.size e size (.slice (some ⟨g,0,none⟩) k c) k xs:=(s.own _ hm.mem).1;rcases ho.2 with ⟨hr,_⟩ | ⟨g',cap,cur,hr,hbg,hgc,hnc,hcm,hcs,htake⟩
 ·cases hr
 ·injection hr with e1 _ e3
  injection e1 with e1
  injection e1 with e1
  subst e1 e3;have hms:m * size<=k * size:=mD size hk;have hl:=ho.1;refine h a W f (s.put1 hm ⟨?_,.inr ⟨g,c,cur,Z,hbg,hgc,aD,hcm,hcs,?_⟩⟩ (λb e=>e))
  ·rw [hy,dG];omega
  ·rw [hy,<-htake,List.take_take,iK hms]
theorem aJ7 {g off k c size:Nat} {e:TypeId} {xs:List Value} {v:Value} {bs':List Res} (hp:ev L x=some (.pointer (some ⟨g,off,none⟩))) (hv:ev L y=some v) (hT:gQ P T=some 1) (h1:v.oneCell'=true)
 (hm:Upd bs (.row e size (.slice (dI g) k c) k xs) (.row e size (.slice (dI g) k c) k (xs.set off v)) bs') (ho:off<xs.length) (h:At dfs n L H w0 bs' K) :
 At dfs n L H w0 bs (one P ops Q ⟨none,.store T x y,ty,pos,aft,none⟩ K):=by
 intro a W f s;have ho1:W.ownsRow w0.heap.size e size (.slice (some ⟨g,0,none⟩) k c) k xs:=(s.own _ hm.mem).1;rcases ho1.2 with ⟨hr,_⟩ | ⟨g',cap,cur,hr,hbg,hgc,hnc,hcm,hcs,htake⟩
 ·cases hr
 ·injection hr with e1 _ e3
  injection e1 with e1
  injection e1 with e1
  subst e1 e3;obtain ⟨more,hmo⟩:∃ more,more=cur.toList.drop (k * size):=⟨_,Z⟩;have hcur:cur.toList=xs++more:=by rw [hmo,<-htake,eW]
  have hcur2:cur=(xs++more).toArray:=by rw [<-hcur]
  obtain ⟨b1,u1,u2⟩:=hm.mid (.box g (xs++more) e);obtain ⟨b2,u3,u4⟩:=u2.mid (.box g ((xs++more).set off v) e);have s1:St H w0 b1 W:=s.put1 u1 ⟨hbg,by rw [hgc,<-hcur2]⟩ (λb e=>e);refine store hp hv hT h1 u3 (by rw [aC];omega) rfl ?_ a W f s1;intro a W f s2;have ob:=(s2.own _ u4.mem).1;have e4:(xs++more).set off v=xs.set off v++more:=List.set_append_left off v ho;have hz:xs.length=k * size:=ho1.1;refine h a W f (s2.put1 u4 ⟨by rw [List.length_set];exact hz,.inr ⟨g,c,((xs++more).set off v).toArray,Z,ob.1,ob.2,hnc,hcm,?_,?_⟩⟩ (λb e=>e))
  ·rw [List.size_toArray,List.length_set,<-hcur];simpa using hcs
  ·rw [e4];show List.take (k * size) (xs.set off v++more)=xs.set off v;rw [List.take_append_of_le_length (by rw [List.length_set];omega),fX (by rw [List.length_set];omega)]
theorem At.s1R {g off k c size:Nat} {e:TypeId} {xs:List Value} {v:Value} {bs':List Res} (hp:ev L x=some (.pointer (some ⟨g,off,none⟩))) (hv:ev L y=some v) (hT:gQ P T=some 1) (h1:v.oneCell'=true)
 (hm:Upd bs (.row e size (.slice (dI g) k c) k xs) (.row e size (.slice (dI g) k c) k (xs.set off v)) bs') (ho:off<xs.length) (h:At dfs n L H w0 bs' (wpList P ops Q rest)) :
 At dfs n L H w0 bs (wpList P ops Q (⟨none,.store T x y,ty,pos,aft,none⟩::rest)):=cons (aJ7 hp hv hT h1 hm ho h)
end
section
variable {dfs:List Deferred} {P:Program} {n:Nat} {L:Sl} {H:Hp} {w0:World} {bs:List Res} {Q:Exit->Act->World->Prop} {ops:Array Oper} {rest:List Oper} {K:Act->World->Prop}
variable {d:Option Tmp} {ty:TypeId} {pos:String} {aft:Array Edge} {v:Value} {t:Tmp} {x y:Operand} {T:TypeId}
variable {N hn:Nat} {pa:List (Nat × Oper × Value)} {E:Sl->Hp->List Res->Prop} {fr:List (Nat × Nat × Oper)} {i k:Nat}
theorem St.perm {W:World} {bs':List Res} (s:St H w0 bs W) (h:bs.Perm bs'):St H w0 bs' W :=
 ⟨s.ext,s.agr,λz hz=>s.own z (h.mem_iff.2 hz),h.pairwise s.apart (λ{x y} k=>Res.apart.symm k),s.lo⟩
theorem St.mid {W:World} {a d c e:List Res} (s:St H w0 (a++(d++(c++e))) W):St H w0 (a++(c++(d++e))) W :=
 s.perm (List.Perm.append_left a (by rw [<-aV,<-aV];exact List.Perm.append_right e List.perm_append_comm))
theorem Yl.loadR1 {e:TypeId} {size k g c off:Nat} {xs:List Value} (hp:ev L x=some (.pointer (some ⟨g,off,none⟩))) (hT:jI P T=some none) (hm:Res.row e size (.slice (dI g) k c) k xs∈bs) (hv:xs[off]? = some v) {gd:Option (Nat × Bool)}:Yl P L H w0 bs ⟨d,.load T x,ty,pos,aft,gd⟩ v:=.of_run λa W f s=>by
 have ho:W.ownsRow w0.heap.size e size (.slice (dI g) k c) k xs:=(s.own _ hm).1;have hc:=World.ownsRow.cells ho (g:=g) rfl off v hv;rw [Addr.add_lit,dO] at hc;unfold execOp;simp only [f x _ hp,Instr.loadAt,Instr.sureAddr,loadVar,Sem.run_bind,Sem.run_pure,Result.andThen,uJ hT,aM,cZ];rw [show (Go.load ⟨g,off,none⟩).run P W=.ok v W from by simp [Go.load,Sem.run,hc]]
theorem dW.apB {e:TypeId} {size bytes m c k b off:Nat} {r:Value} {xs news:List Value} {bs':Value->List Res} (hT:tQ P T=some (e,size,bytes)) (hx:ev L x=some r)
 (hm:∀ r',Upd bs (.row e size r k xs) (.row e size r' (k+m) (xs++news)) (bs' r')) (hy:ev L y=some (.slice (some ⟨b,off,none⟩) m c)) (hs:Src H bs b off news) (hl:news.length=m * size) (h1:∀ u∈news,u.oneCell'=true)
 (h63:k+m<=maxLen) (hb:(k+m) * bytes<=140737488355328) (ht:Nat.blt t N=true)
 (hr2:∀ r',iV dfs P ops hn w0 N L H (bs' r') i pa) (h:∀ p c,dW dfs P ops hn w0 N E fr pa ((t,.slice p (k+m) c)::L) H (bs' (.slice p (k+m) c))) :
 dW dfs P ops hn w0 N E ((i,3,⟨some t,.call ⟨.builtin .append,#[x,y],#[T,T]⟩,ty,pos,aft,none⟩)::fr) pa L H bs :=
 ⟨oV ht,append hT hx hm hy hs hl h1 h63 hb ht λr' _=>At.ra (hm r').new λp c e=>by subst e;exact dW.into (.inr<|.inr<|hr2 _) (h p c)⟩
theorem At.s1Q {g off k c size:Nat} {e:TypeId} {xs ys:List Value} {v:Value} {bs':List Res} (he:xs.set off v=ys) (hp:ev L x=some (.pointer (some ⟨g,off,none⟩))) (hv:ev L y=some v) (hT:gQ P T=some 1) (h1:v.oneCell'=true)
 (hm:Upd bs (.row e size (.slice (dI g) k c) k xs) (.row e size (.slice (dI g) k c) k ys) bs') (ho:off<xs.length) (h:At dfs n L H w0 bs' (wpList P ops Q rest)) :
 At dfs n L H w0 bs (wpList P ops Q (⟨none,.store T x y,ty,pos,aft,none⟩::rest)):=by
 subst he;exact At.s1R hp hv hT h1 hm ho h
theorem rI.s1Q {kk:Nat} {q:PlT} {bs':List Res} {g off k c size:Nat} {e:TypeId} {xs ys:List Value} {v:Value} (he:xs.set off v=ys) (hp:ev L x=some (.pointer (some ⟨g,off,none⟩))) (hv:ev L y=some v) (hT:gQ P T=some 1) (h1:v.oneCell'=true)
 (hm:Upd bs (.row e size (.slice (dI g) k c) k xs) (.row e size (.slice (dI g) k c) k ys) bs') (ho:off<xs.length)
 (hr:iV dfs P ops hn w0 N L H bs' i pa) (h:fZ dfs P ops hn w0 N E q pa L H bs'):rI dfs P ops hn w0 N E i kk ⟨none,.store T x y,ty,pos,aft,none⟩ q pa L H bs:=by
 subst he;exact ⟨λ_ e=>(by cases e),aJ7 hp hv hT h1 hm ho (rI.into0 hr h)⟩
theorem uI {xr cs cs':List Value} {n j:Nat} {v:Value} (hl:xr.length=n) (h:cs.set j v=cs'):(xr++cs).set (n+j) v=xr++cs':=by
 subst hl h;rw [lQ _ _ (Nat.le_add_right _ _),jB]
end
end Go.Sx
namespace Go.Proofs.YtidclioghdbphaaGreatDoor
open Go.RowKit Go.Par Go.Sx Tryz
theorem TQ:jI prg 136=some none:=by kernel_rfl
theorem vQ:jI prg 191=some (some 3):=by kernel_rfl
theorem zW:dU prg 191 0=some 0:=by kernel_rfl
theorem vO:gQ prg 191=some 3:=by kernel_rfl
theorem EB:slN prg 127=some 1:=by kernel_rfl
theorem IP:slN prg 136=some 3:=by kernel_rfl
theorem yO:nA prg 191=some
 [Go.Value.string { data:={ toList:=[] } },Go.Value.slice none 0 0,Go.Value.slice none 0 0]:=by kernel_rfl
variable {k:Nat}
theorem aB1 {α:Type} {l:List α} (h:k<l.length):l.take (k+1)=l.take k++[l[k]]:=by rw [List.take_succ,List.getElem?_eq_getElem h];rfl
theorem WZ {H:Hp}:∀ {l:List Str},(∀ s∈l,s.length<=1000000)->dT H 1 (l.map zU) (l.map bJ)
 | [],_=>dT.nil
 | a::r,h=>by
  have h1:dT H 1 [zU a] [bJ a]:=dT.single (cF4 rfl (okS.2 (h a (bH ..)))) rfl;exact h1.app (WZ λs hs=>h s (cD _ hs))
theorem CR:∀ k d,d+k=2->cB3 d k
 | 0,d,h=>RI d 0 h (λk' e=>by cases e)
 | k+1,d,h=>RI d (k+1) h (λk' e=>by
  have e1:k=k':=Nat.succ.inj e;subst e1;exact @CR k (d+1) aD)
set_option maxHeartbeats 1000000 in
theorem VA (H:Hp) (c:Cp) (G:Gcp c) (cs:List Value) (w:World) (h:Rep H (dCp .i64 c) cs) (hA:Agr H w):Calls prg 162 #[.agg cs.toArray] w λr w'=>∃ (v:Value) (H':Hp),(∃ l:List Str,Rep H' (.seq 1 (l.map zU)) [v]/\0<l.length/\l.length<=10000)/\r=.returned v/\wV H w H' w':=by
 obtain ⟨p1,c1,p2,c2,rfl,hnm,hv,hs⟩:=IG h;refine Sx.enter (H:=H) func162 rfl ntmps162 rfl hA ?_;refine .sr<|.bx Z Z Z λb1=>.a Z Z<|.ns<|.aq Z<|.sq<|.sq<|?_
 refine Sx.row0 9 1 ?_;refine .rg<|.fA Z kH<|.lD Z uA cU Z<|.yw (.lenSl EB Z)<|.mv Z<|.nt<|.bk<|.lp (X:=Nat × Value × List Str) [(12,_),(13,_)] ⟨Z,Z,Jt⟩ [_] (λz=>[(14,iN z.1),(3,z.2.1)]) (λz=>H) (λz=>[.row 9 1 z.2.1 z.2.2.length (z.2.2.map bJ)]) (λz=>z.1<=c.vers.length/\(∀ s∈z.2.2,s.length<=1000000)/\z.2.2.length<=100 * z.1/\∀ v∈c.vers.take z.1,v≠[]->0<z.2.2.length) (λz=>c.vers.length - z.1) (0,.slice none 0 0,[]) (λ_ s=>s) ⟨Z,Z,Jt⟩ ⟨aN _,λs h=>(by cases h),aN _,λv h=>(by simp at h)⟩ λz hC=>?_
 obtain ⟨k,rv,l⟩:=z;obtain ⟨hk0,hls,hl1,hne⟩:=hC;dsimp only at hk0 hls hl1 hne|-;have hv1:=G.vers.1;refine .sr<|.yw (.lss Z Z)<|.nt<|.sq<|.ce Z (λh15=>?_) (λh15=>?_)
 ·have hk:k<c.vers.length:=aD
  obtain ⟨bE,oE,cE,hpE,rE,lE,mE⟩:=hs.elem (eR (f:=dVs .i64) hk);cases hpE;have rE:Rep H (.seq 3 ((c.vers[k]).map (dHd .i64))) cE:=rE;obtain ⟨pv,cv,rfl,hvl⟩:=rE.sl;rw [aP] at rE mE;have hgv:=G.hds _ (aX hk);refine .sk<|.tN<|.sq<|.bk<|.sr<|.yw (.indexSl EB Z Z (i:=k) Z aD (q:=oE+k * 1) aD)<|.yw (.loadM Z TQ mE (k:=0) Z Z)<|.a Z Z<|.ns<|.mv Z<|.yw (.lenSl IP Z)<|.mv Z<|.nt<|.bk<|.lp (X:=Nat × Value × List Str) [(12,_),(13,_),(14,_),(18,_),(19,_)] ⟨Z,Z,Z,Z,Z,Jt⟩ [_] (λz=>[(20,iN z.1),(3,z.2.1)]) (λz=>H) (λz=>[.row 9 1 z.2.1 z.2.2.length (z.2.2.map bJ)]) (λz=>z.1<=(c.vers[k]).length/\(∀ s∈z.2.2,s.length<=1000000)/\z.2.2.length<=l.length+z.1/\(0<l.length->0<z.2.2.length)/\(0<z.1->0<z.2.2.length)) (λz=>(c.vers[k]).length - z.1) (0,rv,l) (λ_ s=>s) ⟨Z,Z,Jt⟩ ⟨aN _,hls,aY _,id,λh=>absurd h (Nat.lt_irrefl 0)⟩ λz hC=>?_
  obtain ⟨j,rv2,l2⟩:=z;obtain ⟨hj0,hls2,hl2,hn2,hj2⟩:=hC;dsimp only at hj0 hls2 hl2 hn2 hj2|-;have hgv1:=hgv.1;refine .sr<|.yw (.lss Z Z)<|.nt<|.sq<|.ce Z (λh21=>?_) (λh21=>?_)
  ·have hj:j<(c.vers[k]).length:=aD
   obtain ⟨bF,oF,cF,hpF,rF,lF,mF⟩:=rE.elem (eR (f:=dHd .i64) hj);cases hpF;obtain ⟨p8,c8,p9,c9,rfl,hn8,h8,h9⟩:=aK9 rF;have hps:=hgv.2 _ (aX hj);refine At.ra Hm λpr cr er=>?_;subst er;refine .sk<|.tN<|.sq<|.bk<|.sr<|.yw (.indexSl IP Z Z (i:=j) Z aD (q:=oF+j * 3) aD)<|.yw (.loadMW Z vQ mF Z)<|.al yO Z λb7=>.sX .head Z Z vO Z<|.ns<|.aq Z<|.sq<|.sm Z<|.yw (.lenSl fD Z)<|.mv Z<|.nt<|.bk<|.pm [1,0,2] [_,_,_] Z Z<|.lp (X:=Nat × Bool) [(3,_),(7,_),(12,_),(13,_),(14,_),(18,_),(19,_),(20,_),(24,_),(25,_)] ⟨Z,Z,Z,Z,Z,Z,Z,Z,Z,Z,Jt⟩ [_] (λy=>[(26,iN y.1),(8,.bool y.2)]) (λy=>H) (λy=>[.row 9 1 (.slice pr l2.length cr) l2.length (l2.map bJ),.box b7 [bJ c.vers[k][j].nm,.slice p8 c.vers[k][j].ps.length c8,.slice p9 c.vers[k][j].body.length c9] 191]) (λy=>y.1<=l2.length/\(y.2=true->0<y.1)) (λy=>l2.length - y.1) (0,false) (λ_ s=>s) ⟨Z,Z,Jt⟩ ⟨aN _,λh=>(by cases h)⟩ λy hC=>?_
   obtain ⟨i,ob⟩:=y;obtain ⟨hi0,hob⟩:=hC;dsimp only at hi0 hob|-;refine .sr<|.yw (.lss Z Z)<|.nt<|.sq<|.ce Z (λh27=>?_) (λh27=>?_)
   ·have hi:i<l2.length:=aD
    refine Sx.rowCase (size:=1) (k:=l2.length) (r:=.slice pr l2.length cr) (e:=9) Hm aD λg cg eg hgc=>?_;cases eg;refine .sk<|.tN<|.sq<|.bk<|.sr<|.yw (.indexSl fD Z Z (i:=i) Z aD (q:=0+i * 1) aD)<|.yw (.loadR1 Z bT Hm (v:=bJ (l2.getD i [])) (by rw [dO,Nat.mul_one];exact tI (f:=bJ) hi []))<|.aq Z<|.rg<|.mv Z<|.mv Z<|.b2 (λh31=>?_) (λh31=>?_)
    ·exact .g4<|.pT Z<|.a Z Z<|.nl<|.bN<|.tN<|.rg<|.yw (.add Z Z w7)<|.mv Z<|.nt<|.ag (x:=(i,ob)) (i+1,_) ⟨Z,Z,Jt⟩ ⟨Z,Z,Z,Z,Z,Z,Z,Z,Z,Z,Jt⟩ (λ_ s=>(s.pick [0,1,2] _ Z Z)) ⟨by dsimp only;omega,λ_=>Nat.succ_pos _⟩ (by dsimp only;omega)
    exact .gy (.move Z)<|.gy (.fieldAddr Z zW)<|.gy (.load Z bT cU Z)<|.gy (.eqS Z Z)<|.pF Z<|.a Z Z<|.nl<|.bN<|.tN<|.rg<|.yw (.add Z Z w7)<|.mv Z<|.nt<|.ag (x:=(i,ob)) (i+1,_) ⟨Z,Z,Jt⟩ ⟨Z,Z,Z,Z,Z,Z,Z,Z,Z,Z,Jt⟩ (λ_ s=>(s.pick [0,1,2] _ Z Z)) ⟨by dsimp only;omega,λ_=>Nat.succ_pos _⟩ (by dsimp only;omega)
   obtain rfl:i=l2.length:=aD
   refine .ex<|.eb<|.sm Z<|.yw (.not Z)<|.nt<|.cd Z (λh39=>?_) (λh39=>?_)
   ·try simp only [dt] at h39
    refine .rg<|.mv Z<|.fA Z zW<|.lD Z bT cU Z<|.bl Z (HB _) Z λb43=>.ap (news:=[bJ c.vers[k][j].nm]) PR Z (λ_=>iJ) Z (.box Hm z0) Z (by simp [Value.oneCell',bJ]) (by simp [maxLen];omega) aD Z λr44 _=>?_
    rw [show l2.length+1=(l2++[c.vers[k][j].nm]).length by simp,show l2.map bJ++[bJ c.vers[k][j].nm]=(l2++[c.vers[k][j].nm]).map bJ by simp];refine At.ra cU λp44 c44 e44=>?_;subst e44;exact .a Z Z<|.nl<|.bN<|.tN<|.rg<|.yw (.add Z Z w7)<|.mv Z<|.nt<|.ag (x:=(j,.slice pr l2.length cr,l2)) (j+1,.slice p44 (l2++[c.vers[k][j].nm]).length c44,l2++[c.vers[k][j].nm]) ⟨Z,Z,Jt⟩ ⟨Z,Z,Z,Z,Z,Jt⟩ (λ_ s=>(s.pick [1,3] _ Z Z)) ⟨by dsimp only;omega,λs hs=>by rcases cJ.1 hs with h | h;exact hls2 s h;rw [bS.1 h];exact hn8,by dsimp only;rw [aC];simp only [aF,aH];omega,λ_=>by dsimp only;rw [aC];simp only [aF,aH];omega,λ_=>by dsimp only;rw [aC];simp only [aF,aH];omega⟩ (by dsimp only;omega)
   try simp only [df] at h39
   have hob1:ob=true:=by simpa using h39
   have hob2:0<l2.length:=hob hob1;exact .sk<|.bN<|.tN<|.rg<|.yw (.add Z Z w7)<|.mv Z<|.nt<|.ag (x:=(j,.slice pr l2.length cr,l2)) (j+1,.slice pr l2.length cr,l2) ⟨Z,Z,Jt⟩ ⟨Z,Z,Z,Z,Z,Jt⟩ (λ_ s=>(s.pick [0,2] _ Z Z)) ⟨by dsimp only;omega,hls2,by dsimp only;omega,hn2,λ_=>hob2⟩ (by dsimp only;omega)
  obtain rfl:j=(c.vers[k]).length:=aD
  exact .ex<|.tE<|.tE<|.bE<|.bN<|.tN<|.rg<|.yw (.add Z Z w7)<|.mv Z<|.nt<|.ag (x:=(k,rv,l)) (k+1,rv2,l2) ⟨Z,Z,Jt⟩ ⟨Z,Z,Jt⟩ (λ_ s=>(s.pick [0,1] _ Z Z)) ⟨by dsimp only;omega,hls2,by dsimp only;omega,λv hv hvn=>by dsimp only;rw [aB1 hk] at hv;rcases cJ.1 hv with h | h;exact hn2 (hne v h hvn);rw [bS.1 h] at hvn;exact hj2 (vD.2 hvn)⟩ (by dsimp only;omega)
 obtain rfl:k=c.vers.length:=aD
 rw [bW] at hne;obtain ⟨v0,hv0,hv0n⟩:=G.vers.2;have hpos:=hne v0 hv0 hv0n;have hl2:l.length<=10000:=aD
 refine .ex<|.eb<|.sm Z<|.az Z<|?_
 refine At.pm [0] [_] rfl rfl ?_;refine iI (ds:=l.map zU) (aP ..) (WZ hls) λH3 p3 c3 u3 hr3 hs3=>?_;exact y9 Z Z λW t=>⟨_,H3,⟨l,hs3,hpos,hl2⟩,Z,u3.grow t⟩
set_option maxHeartbeats 1000000 in
theorem bJ1 (H:Hp) (c:Cp) (G:Gcp c) (n:Nat) (hn:n<=1000000) (nm:Str) (cs:List Value) (w:World) (h:Rep H (dCp .i64 c) cs) (hA:Agr H w):Calls prg 163 #[.agg cs.toArray,iN n,bJ nm] w λr w'=>∃ (x:(Str × Option Addr × Nat × Nat × Option Addr × Nat × Nat) × Bool) (H':Hp),x.1.2.2.1<=2/\r=.returned (.tuple #[.agg [bJ x.1.1,.slice x.1.2.1 x.1.2.2.1 x.1.2.2.2.1,.slice x.1.2.2.2.2.1 x.1.2.2.2.2.2.1 x.1.2.2.2.2.2.2].toArray,.bool x.2])/\wV H w H' w':=by
 obtain ⟨p1,c1,p2,c2,rfl,hnm,hv,hs⟩:=IG h;refine Sx.enter (H:=H) func163 rfl ntmps163 rfl hA ?_;refine .sr<|.bx Z Z Z λb3=>.al yO Z λb6=>.a Z Z<|.ns<|.al yO Z λb8=>.ns<|.aq Z<|.sq<|.sr<|.aq Z<|.bk<|.lp (X:=Nat × Bool × (Str × Option Addr × Nat × Nat × Option Addr × Nat × Nat)) [(1,_),(2,_),(3,_),(6,_),(8,_)] ⟨Z,Z,Z,Z,Z,Jt⟩ [_,_] (λz=>[(10,iN z.1),(9,.bool z.2.1)]) (λz=>H) (λz=>[.box b8 [bJ z.2.2.1,.slice z.2.2.2.1 z.2.2.2.2.1 z.2.2.2.2.2.1,.slice z.2.2.2.2.2.2.1 z.2.2.2.2.2.2.2.1 z.2.2.2.2.2.2.2.2] 191]) (λz=>z.1<=c.vers.length/\z.2.2.2.2.1<=2) (λz=>c.vers.length - z.1) (0,false,[],none,0,0,none,0,0) (λ_ s=>s) ⟨Z,Z,Jt⟩ ⟨aN _,aN _⟩ λz hC=>?_
 obtain ⟨k,bb,h8s⟩:=z;obtain ⟨hk0,hp2⟩:=hC;dsimp only at hk0 hp2|-;have hv1:=G.vers.1;refine .sq<|.sm Z<|.mv Z<|.yw (.lss Z Z)<|.mv Z<|.e2 (λh16=>?_) (λh16=>?_)
 ·refine .gy (.move Z)<|.gy (.fieldAddr Z kH)<|.gy (.load Z uA iG Z)<|.gy (.lenSl EB Z)<|.gy (.lss Z Z)<|.pT Z<|.nt<|.ce Z (λh22=>?_) (λh22=>?_)
  ·have hk:k<c.vers.length:=aD
   obtain ⟨bE,oE,cE,hpE,rE,lE,mE⟩:=hs.elem (eR (f:=dVs .i64) hk);cases hpE;have rE:Rep H (.seq 3 ((c.vers[k]).map (dHd .i64))) cE:=rE;obtain ⟨pv,cv,rfl,hvl⟩:=rE.sl;rw [aP] at rE mE;have hgv:=G.hds _ (aX hk);refine .sk<|.tN<|.sq<|.bk<|.sr<|.fA Z kH<|.lD Z uA iG Z<|.mv Z<|.yw (.indexSl EB Z Z (i:=k) Z aD (q:=oE+k * 1) aD)<|.yw (.loadM Z TQ mE (k:=0) Z Z)<|.yw (.lenSl IP Z)<|.mv Z<|.nt<|.bk<|.lp (X:=Nat × Bool × (Str × Option Addr × Nat × Nat × Option Addr × Nat × Nat)) [(1,_),(2,_),(3,_),(6,_),(8,_),(10,_),(29,_),(30,_)] ⟨Z,Z,Z,Z,Z,Z,Z,Z,Jt⟩ [_,_] (λz=>[(31,iN z.1),(9,.bool z.2.1)]) (λz=>H) (λz=>[.box b8 [bJ z.2.2.1,.slice z.2.2.2.1 z.2.2.2.2.1 z.2.2.2.2.2.1,.slice z.2.2.2.2.2.2.1 z.2.2.2.2.2.2.2.1 z.2.2.2.2.2.2.2.2] 191]) (λz=>z.1<=(c.vers[k]).length/\z.2.2.2.2.1<=2) (λz=>(c.vers[k]).length - z.1) (0,bb,h8s) (λ_ s=>s) ⟨Z,Z,Jt⟩ ⟨aN _,hp2⟩ λz hC=>?_
   obtain ⟨j,bb2,h9s⟩:=z;obtain ⟨hj0,hp3⟩:=hC;dsimp only at hj0 hp3|-;have hgv1:=hgv.1;refine .sr<|.yw (.lss Z Z)<|.nt<|.sq<|.ce Z (λh32=>?_) (λh32=>?_)
   ·have hj:j<(c.vers[k]).length:=aD
    obtain ⟨bF,oF,cF,hpF,rF,lF,mF⟩:=rE.elem (eR (f:=dHd .i64) hj);cases hpF;obtain ⟨p8,c8,p9,c9,rfl,hn8,h8,h9⟩:=aK9 rF;have hps:=hgv.2 _ (aX hj);refine .sk<|.tN<|.sq<|.bk<|.sr<|.yw (.indexSl IP Z Z (i:=j) Z aD (q:=oF+j * 3) aD)<|.yw (.loadMW Z vQ mF Z)<|.al yO Z λb12=>.sX .head Z Z vO Z<|.ns<|.fA Z zW<|.lD Z bT Hm Z<|.mv Z<|.yw (.eqS Z Z)<|.nt<|.cd Z (λh38=>?_) (λh38=>?_)
    ·exact .rg<|.yw (.loadW Z vQ Hm Z)<|.sX iJ Z Z vO Z<|.a Z Z<|.nl<|.bN<|.tN<|.rg<|.yw (.add Z Z w7)<|.mv Z<|.nt<|.ag (x:=(j,bb2,h9s)) (j+1,true,(c.vers[k][j].nm,p8,c.vers[k][j].ps.length,c8,p9,c.vers[k][j].body.length,c9)) ⟨Z,Z,Jt⟩ ⟨Z,Z,Z,Z,Z,Z,Z,Z,Jt⟩ (λ_ s=>(s.pick [1,2,3] _ Z Z)) ⟨by dsimp only;omega,hps⟩ (by dsimp only;omega)
    exact .sk<|.bN<|.tN<|.rg<|.yw (.add Z Z w7)<|.mv Z<|.nt<|.ag (x:=(j,bb2,h9s)) (j+1,bb2,h9s) ⟨Z,Z,Jt⟩ ⟨Z,Z,Z,Z,Z,Z,Z,Z,Jt⟩ (λ_ s=>(s.pick [1,2,3] _ Z Z)) ⟨by dsimp only;omega,hp3⟩ (by dsimp only;omega)
   obtain rfl:j=(c.vers[k]).length:=aD
   exact .ex<|.tE<|.tE<|.bE<|.bN<|.tN<|.rg<|.mv Z<|.yw (.add Z Z (c:=((k+1:Nat):Int)) ((w6 aD).trans aD))<|.aq Z<|.ag (x:=(k,bb,h8s)) (k+1,bb2,h9s) ⟨Z,Z,Jt⟩ ⟨Z,Z,Z,Z,Z,Jt⟩ (λ_ s=>(s.pick [0,1,2] _ Z Z)) ⟨by dsimp only;omega,hp3⟩ (by dsimp only;omega)
  refine .ex<|.eb<|.sr<|.yw (.loadW Z vQ Hm Z)<|.mv Z<|.sX iJ Z Z vO Z<|.az Z<|?_
  refine y7 Z (.cons (.cell Z vQ cU rfl) (.cons (.tmp Z) .nil)) rfl λW t=>⟨(h8s,bb),H,hp2,Z,HUp.refl.grow t⟩
 refine .g4<|.gG<|.pF Z<|.nt<|.cF Z<|.ex<|.eb<|.sr<|.yw (.loadW Z vQ Hm Z)<|.mv Z<|.sX iJ Z Z vO Z<|.az Z<|?_
 refine y7 Z (.cons (.cell Z vQ cU rfl) (.cons (.tmp Z) .nil)) rfl λW t=>⟨(h8s,bb),H,hp2,Z,HUp.refl.grow t⟩
def sK (s:Str):Nat:=s.foldl (λv c=>10 * v+(c.toNat - 48)) 0
/-! ### Enough fuel -/
def zE:Ex:=.mk 0 [] 0 []
def zF:Fm:=.mk 0 [] [] 0 0 [] []
structure Ov where
 kd:UInt8
 lv:Nat
 tm:Bool
 op:UInt8
 f:Fm
structure Vl where
 tm:Bool
 wh:Bool
 e:Ex
 f:Fm
structure Rq where
 i:Nat
 off:Nat
 er:Nat
abbrev Vb:=List Vl × Bool
structure Ps where
 c:Rq
 op:List Ov
 x:Vb
 rd:Bool
 dn:Bool
abbrev Tks:=List Tk
def zV:Vl:=⟨false,false,zE,zF⟩
def bO:Ov:=⟨1,0,false,0,zF⟩
section
variable (l:Tks)
def tkf (i:Nat):Tk:=l.getD i ⟨0,[],0⟩
def Rq.fail (c:Nat) (q:Rq):Rq:=if q.er=0 then ⟨q.i,(tkf l q.i).o,c⟩ else q
def Rq.is (w:Str) (q:Rq):Bool:=(decide ((tkf l q.i).k=2) || decide ((tkf l q.i).k=4)) && decide ((tkf l q.i).t=w)
def Rq.ac (w:Str) (q:Rq):Bool:=decide (q.er=0) && q.is l w
def Rq.nx (q:Rq):Rq:=⟨q.i+1,q.off,q.er⟩
def Rq.acS (w:Str) (q:Rq):Rq:=if q.ac l w then q.nx else q
def Rq.exS (w:Str) (q:Rq):Rq:=if q.ac l w then q.nx else q.fail l 8
def Rq.nmK (q:Rq):Bool:=decide (q.er=0) && decide ((tkf l q.i).k=1)
def Rq.nmV (q:Rq):Str:=if q.nmK l then (tkf l q.i).t else []
def Rq.nmS (q:Rq):Rq:=if q.nmK l then q.nx else q.fail l 8
def Rq.nbB (q:Rq):Bool:=decide (q.er=0) && decide ((tkf l q.i).k=3)
def Rq.fit (q:Rq):Bool:=decide (sK (tkf l q.i).t<=9223372036854775807)
def Rq.nbV (q:Rq):Int64:=if q.nbB l && q.fit l then Int64.ofNat (sK (tkf l q.i).t) else 0
def Rq.nbS (q:Rq):Rq:=if q.nbB l then (if q.fit l then q.nx else q.fail l 2) else q.fail l 8
def Rq.paS (q:Rq):Rq:=((q.nmS l).exS l [46]).nmS l
def Rq.paN (q:Rq):Str:=q.nmV l
def Rq.paF (q:Rq):Str:=((q.nmS l).exS l [46]).nmV l
def Rq.paV (op:UInt8) (q:Rq):Fm:=.mk op (q.paN l) (q.paF l) 0 0 [] []
def Rq.wiA (q:Rq):Int64:=if q.ac l [91] then q.nx.nbV l else 0
def Rq.wiB (q:Rq):Int64:=if q.ac l [91] then ((q.nx.nbS l).exS l [44]).nbV l else -1
def Rq.wiS (q:Rq):Rq:=if q.ac l [91] then (((q.nx.nbS l).exS l [44]).nbS l).exS l [93] else q
def Rq.wiV (op:UInt8) (q:Rq):Fm:=.mk op [] [] (q.wiA l) (q.wiB l) [] []
def Rq.boV (q:Rq):Int64:=if q.ac l [45] then -(q.nx.nbV l) else q.nbV l
def Rq.boS (q:Rq):Rq:=if q.ac l [45] then q.nx.nbS l else q.nbS l
def Rq.ama (q:Rq):Rq:=(q.nmS l).exS l [105,110]
def Rq.amb (q:Rq):Rq:=((q.ama l).boS l).exS l [46,46]
def Rq.amV (op:UInt8) (q:Rq):Fm:=.mk op (q.nmV l) [] ((q.ama l).boV l) ((q.amb l).boV l) [] []
def Rq.amS (q:Rq):Rq:=(q.amb l).boS l
end
def eC (q:Ps):Ov:=q.op.headD bO
def sH (x:Vb):Vl:=x.1.headD zV
def Ps.at (c:Rq) (q:Ps):Ps:=⟨c,q.op,q.x,q.rd,q.dn⟩
def Ov.inh (o:Ov) (b:Bool):Ov:=if 0<o.lv then ⟨o.kd,o.lv,b,o.op,o.f⟩ else o
def gD (o:Ov) (q:Ps):Ps:=⟨q.c,o.inh (eC q).tm::q.op,q.x,false,q.dn⟩
def iU (v:Vl) (q:Ps):Ps:=⟨q.c,q.op,(v::q.x.1,q.x.2),true,q.dn⟩
def tE (x:Vb):Ex:=(sH x).e
def tS (x:Vb):Vb:=(x.1.tail,x.2 || !(sH x).tm)
def Vl.noF (v:Vl):Bool:=v.tm && (!decide (v.e.op=5) || (eN v.e.nm).isNone)
def spA (n:Str):Str:=match eN n with | some (a,_)=>a | none=>[]
def spB (n:Str):Str:=match eN n with | some (_,b)=>b | none=>[]
def Vl.fm (v:Vl):Fm:=if v.tm then .mk 4 (spA v.e.nm) (spB v.e.nm) 0 0 [] [] else v.f
def fF (x:Vb):Fm:=(sH x).fm
def fS (x:Vb):Vb:=(x.1.tail,x.2 || (sH x).noF)
def tmv (e:Ex):Vl:=⟨true,false,e,zF⟩
def fmv (f:Fm):Vl:=⟨false,false,zE,f⟩
def Fm.wEx (f:Fm) (ex:List Ex):Fm:=.mk f.op f.nm f.fd f.a f.b ex f.args
def Fm.wAr (f:Fm) (args:List Fm):Fm:=.mk f.op f.nm f.fd f.a f.b f.ex args
def Vb.put (v:Vl) (x:Vb):Vb:=(v::x.1,x.2)
def wT (o:Ov) (x:Vb):Vb :=
 if o.kd=10 then (tS x).put (tmv (.mk 9 [] 0 [tE x]))
 else if o.kd=9 then (tS (tS x)).put (tmv (.mk o.op [] 0 [tE (tS x),tE x]))
 else if o.kd=8 then (tS (tS x)).put (fmv (.mk 3 [] [] 0 0 [.mk o.op [] 0 [tE (tS x),tE x]] []))
 else if o.kd=7 then (fS x).put (fmv (o.f.wAr [fF x]))
 else if o.kd=6 then (fS (fS x)).put (fmv (o.f.wAr [fF (fS x),fF x]))
 else x
def yB (lv:Nat):List Ov->Vb->List Ov × Vb
 | [],x=>([],x)
 | o::r,x=>if lv<=o.lv then yB lv r (wT o x) else (o::r,x)
def kD (lv:Nat) (q:Ps):Ps:=⟨q.c,(yB lv q.op q.x).1,(yB lv q.op q.x).2,q.rd,q.dn⟩
section
variable (l:Tks)
def nN (q:Ps):Option Ps :=
 if q.c.ac l [110,111,116] then some (gD ⟨7,5,false,0,.mk 8 [] [] 0 0 [] []⟩ (q.at q.c.nx))
 else if q.c.ac l [112,114,101,118,105,111,117,115] then some (gD ⟨7,5,false,0,.mk 12 [] [] 0 0 [] []⟩ (q.at q.c.nx))
 else if q.c.ac l [111,110,99,101] then some (gD ⟨7,5,false,0,q.c.nx.wiV l 13⟩ (q.at (q.c.nx.wiS l)))
 else if q.c.ac l [97,108,119,97,121,115] then some (gD ⟨7,5,false,0,q.c.nx.wiV l 14⟩ (q.at (q.c.nx.wiS l)))
 else if q.c.ac l [102,111,114,97,108,108] then some (gD ⟨7,5,false,0,q.c.nx.amV l 16⟩ (q.at (q.c.nx.amS l)))
 else if q.c.ac l [101,120,105,115,116,115] then some (gD ⟨7,5,false,0,q.c.nx.amV l 17⟩ (q.at (q.c.nx.amS l)))
 else if q.c.ac l [99,111,117,110,116] then some (gD ⟨3,0,false,0,q.c.nx.amV l 18⟩ (q.at ((q.c.nx.amS l).exS l [40])))
 else none
def Rq.ful (q:Rq):Str:=q.nmV l++[46]++(q.nmS l).nx.nmV l
def xD (q:Ps):Ps :=
 if (q.c.nmS l).ac l [46] then
  if ((q.c.nmS l).nx.nmS l).ac l [91] then gD ⟨4,0,true,6,.mk 0 (q.c.ful l) [] 0 0 [] []⟩ (q.at ((q.c.nmS l).nx.nmS l).nx)
  else iU (tmv (.mk 5 (q.c.ful l) 0 [])) (q.at ((q.c.nmS l).nx.nmS l))
 else iU (tmv (.mk 5 (q.c.nmV l) 0 [])) (q.at (q.c.nmS l))
def AP (q:Ps):Ps :=
 if ((q.c.paS l).exS l [40]).ac l [41] then iU (fmv (q.c.paV l 7)) (q.at ((q.c.paS l).exS l [40]).nx)
 else gD ⟨5,0,true,0,q.c.paV l 7⟩ (q.at ((q.c.paS l).exS l [40]))
def zT (q:Ps):Bool:=!(eC q).tm && decide ((eC q).lv<=5)
def rQ (q:Ps):Ps :=
 if q.c.ac l [45] then gD ⟨10,9,false,0,zF⟩ (q.at q.c.nx)
 else if q.c.ac l [40] then gD ⟨2,0,false,0,zF⟩ (q.at q.c.nx)
 else if (tkf l q.c.i).k=3 then iU (tmv (.mk 1 [] (q.c.nbV l) [])) (q.at (q.c.nbS l))
 else if (tkf l q.c.i).k=1 then xD l q
 else if q.c.ac l [110,111,119] then iU (tmv (.mk 4 [] 0 [])) (q.at q.c.nx)
 else if q.c.ac l [115,105,122,101] then iU (tmv (.mk 8 (q.c.nx.paN l++[46]++q.c.nx.paF l) 0 [])) (q.at (q.c.nx.paS l))
 else if q.c.ac l [116,114,117,101] then iU (fmv (.mk 1 [] [] 0 0 [] [])) (q.at q.c.nx)
 else if q.c.ac l [102,97,108,115,101] then iU (fmv (.mk 2 [] [] 0 0 [] [])) (q.at q.c.nx)
 else if q.c.ac l [102,108,97,103] then iU (fmv (.mk 6 (q.c.nx.nmV l) [] 0 0 [] [])) (q.at (q.c.nx.nmS l))
 else if q.c.ac l [104,97,115] then gD ⟨4,0,true,0,q.c.nx.paV l 5⟩ (q.at ((q.c.nx.paS l).exS l [91]))
 else if q.c.ac l [97,114,114,105,118,101,115] then AP l (q.at q.c.nx)
 else q.at (q.c.fail l 8)
def yA (q:Ps):Ps:=if (eC q).kd=5/\q.c.ac l [95]=true then iU ⟨true,true,zE,zF⟩ (q.at q.c.nx) else rQ l q
def eQ (q:Ps):Ps:=match (if zT q then nN l q else none) with | some q'=>q' | none=>yA l q
def nE:List Str:=[[],[],[],[],[],[],[],[],[],[],[],[42],[47],[37],[43],[45],[61,61],[33,61],[60],[60,61],[62],[62,61]]
def sL (op:UInt8) (q:Ps):Ps :=
 if 16<=op then
  (if (sH q.x).wh || (eC (kD 7 q)).tm || decide ((eC (kD 7 q)).kd=8) then (kD 7 q).at (q.c.fail l 8) else gD ⟨8,6,false,op,zF⟩ ((kD 7 q).at q.c.nx))
 else if op<=13 then
  (if (sH q.x).wh then (kD 8 q).at (q.c.fail l 8) else gD ⟨9,8,false,op,zF⟩ ((kD 8 q).at q.c.nx))
 else (if (sH q.x).wh then (kD 7 q).at (q.c.fail l 8) else gD ⟨9,7,false,op,zF⟩ ((kD 7 q).at q.c.nx))
def Rq.joV (q:Rq):Fm:=if q.ac l [115,105,110,99,101] then q.nx.wiV l 15 else if q.ac l [97,110,100] then .mk 9 [] [] 0 0 [] [] else if q.ac l [111,114] then .mk 10 [] [] 0 0 [] [] else if q.ac l [105,109,112,108,105,101,115] then .mk 11 [] [] 0 0 [] [] else zF
def Rq.joS (q:Rq):Rq:=if q.ac l [115,105,110,99,101] then q.nx.wiS l else if q.ac l [97,110,100] then q.nx else if q.ac l [111,114] then q.nx else if q.ac l [105,109,112,108,105,101,115] then q.nx else q
def yJ (q:Ps):Ps:=if (eC q).tm then q.at (q.c.fail l 8) else gD ⟨6,(cK (q.c.joV l).op).lv,false,0,q.c.joV l⟩ (kD (cK (q.c.joV l).op).lv (q.at (q.c.joS l)))
def II (c:Rq) (v:Vl) (x:Vb) (q:Ps):Ps:=⟨c,q.op.tail,x.put v,true,q.dn⟩
def nG (q:Ps):Ps :=
 if (eC q).kd=1/\(tkf l q.c.i).k=0 then ⟨q.c,q.op,q.x,q.rd,true⟩
 else if (eC q).kd=2/\q.c.ac l [41]=true then II q.c.nx ⟨(sH q.x).tm,false,(sH q.x).e,(sH q.x).f⟩ (q.x.1.tail,q.x.2) q
 else if (eC q).kd=3/\q.c.ac l [41]=true then
  II ((q.c.nx.exS l [62,61]).nbS l) ⟨false,true,zE,((eC q).f.wEx [.mk 1 [] ((q.c.nx.exS l [62,61]).nbV l) []]).wAr [fF q.x]⟩ (fS q.x) q
 else if (eC q).kd=4/\q.c.ac l [93]=true then
  (if (eC q).op=6 then II q.c.nx (tmv (.mk 6 (eC q).f.nm 0 [tE q.x])) (tS q.x) q
  else II q.c.nx (fmv ((eC q).f.wEx [tE q.x])) (tS q.x) q)
 else if (eC q).kd=5/\q.c.ac l [44]=true then
  ⟨q.c.nx,⟨(eC q).kd,(eC q).lv,(eC q).tm,(eC q).op,(eC q).f.wEx ((eC q).f.ex++[tE q.x])⟩::q.op.tail,tS q.x,false,q.dn⟩
 else if (eC q).kd=5/\q.c.ac l [41]=true then II q.c.nx (fmv ((eC q).f.wEx ((eC q).f.ex++[tE q.x]))) (tS q.x) q
 else q.at (q.c.fail l 8)
def aP2 (t:Str):Option Nat:=(List.range 22).find? λi=>decide (nE.getD i []=t) && decide (¬ i=0)
def Rq.endB (q:Rq):Bool:=q.is l [41] || q.is l [93] || q.is l [44] || decide ((tkf l q.i).k=0)
def Rq.wrd (q:Rq):Bool:=q.is l [115,105,110,99,101] || q.is l [97,110,100] || q.is l [111,114] || q.is l [105,109,112,108,105,101,115]
def rS (q:Ps):Ps:=if q.c.wrd l then yJ l q else if q.c.endB l then nG l (kD 1 q) else q.at (q.c.fail l 8)
def Rq.sym (q:Rq):Option Nat:=if (tkf l q.i).k=2\/(tkf l q.i).k=4 then aP2 (tkf l q.i).t else none
def gB (q:Ps):Ps:=match q.c.sym l with | some i=>sL l (UInt8.ofNat i) q | none=>rS l q
def lS (q:Ps):Ps:=if q.rd then gB l q else eQ l q
def Ps.fin (q:Ps):Prop:=q.dn=true\/¬ q.c.er=0
instance (q:Ps):Decidable q.fin:=by unfold Ps.fin;infer_instance
def CT:Nat->Ps->Ps
 | 0,q=>q
 | n+1,q=>if q.fin then q else CT n (lS l q)
def ON:Ps:=⟨⟨0,0,0⟩,[bO],([],false),false,false⟩
def JY (q:Ps):Fm × Nat × Nat :=
 if ¬ q.c.er=0 then (zF,q.c.off,q.c.er)
 else if (fS q.x).2 then (zF,0,6)
 else if ¬ gT (fF q.x)=0 then (zF,0,gT (fF q.x))
 else (fF q.x,0,0)
def EY:Fm × Nat × Nat:=JY (CT l l.length ON)
end
def bO3 (l:Tks):Prop:=∀ i,i<l.length->(tkf l i).k≠0->i+1<l.length
section
variable {l:Tks} {q:Rq} {w:Str} {c:Nat}
theorem GU:(q.fail l c).i=q.i:=by unfold Rq.fail;split <;> rfl
theorem cT1 (h:q.is l w=true):(tkf l q.i).k≠0:=by
 unfold Rq.is at h;rw [aE,aW,aB,aB] at h;rcases h.1 with e | e <;> rw [e] <;> decide
theorem VW (h:q.ac l w=true):q.is l w=true:=by unfold Rq.ac at h;rw [aE] at h;exact h.2
theorem jR (h:q.ac l w=true):q.er=0:=by unfold Rq.ac at h;rw [aE,aB] at h;exact h.1
theorem ZE (h:q.ac l w=true):(tkf l q.i).t=w:=by
 have:=VW h;unfold Rq.is at this;rw [aE,aB] at this;exact this.2
theorem ZF (h:q.ac l w=true):(tkf l q.i).k=2\/(tkf l q.i).k=4:=by
 have:=VW h;unfold Rq.is at this;rw [aE,aW,aB,aB] at this;exact this.1
structure Mq (q q':Rq):Prop where
 i:q.i<=q'.i
 er:q.er≠0->q'=q
theorem Mq.refl (q:Rq):Mq q q:=⟨aY _,λ_=>rfl⟩
theorem Mq.trans {a b c:Rq} (h:Mq a b) (k:Mq b c):Mq a c:=⟨aZ h.i k.i,λe=>by have:=h.er e;subst this;exact k.er e⟩
theorem Mq.nx (h:q.er=0):Mq q q.nx:=⟨Nat.le_succ _,λe=>absurd h e⟩
theorem Mq.fail:Mq q (q.fail l c):=⟨by rw [GU];exact aY _,λe=>by unfold Rq.fail;rw [aA e]⟩
theorem Mq.exS:Mq q (q.exS l w):=by
 unfold Rq.exS
 split
 ·rename_i h;exact .nx (jR h)
 ·exact .fail
theorem UV (h:q.nmK l=true):q.er=0/\(tkf l q.i).k=1:=by
 unfold Rq.nmK at h;rw [aE,aB,aB] at h;exact h
theorem UW (h:q.nbB l=true):q.er=0/\(tkf l q.i).k=3:=by
 unfold Rq.nbB at h;rw [aE,aB,aB] at h;exact h
theorem Mq.nmS:Mq q (q.nmS l):=by
 unfold Rq.nmS
 split
 ·rename_i h;exact .nx (UV h).1
 ·exact .fail
theorem Mq.nbS:Mq q (q.nbS l):=by
 unfold Rq.nbS
 split
 ·rename_i h
  split
  ·exact .nx (UW h).1
  ·exact .fail
 ·exact .fail
theorem Mq.paS:Mq q (q.paS l):=(Mq.nmS.trans .exS).trans .nmS
theorem Mq.wiS:Mq q (q.wiS l):=by
 unfold Rq.wiS
 split
 ·rename_i h;exact (((Mq.nx (jR h)).trans .nbS).trans .exS).trans (.trans .nbS .exS)
 ·exact .refl q
theorem Mq.boS:Mq q (q.boS l):=by
 unfold Rq.boS
 split
 ·rename_i h;exact (Mq.nx (jR h)).trans .nbS
 ·exact .nbS
theorem Mq.ama:Mq q (q.ama l):=Mq.nmS.trans .exS
theorem Mq.amb:Mq q (q.amb l):=(Mq.ama.trans .boS).trans .exS
theorem Mq.amS:Mq q (q.amS l):=Mq.amb.trans .boS
theorem Mq.joS:Mq q (q.joS l):=by
 unfold Rq.joS
 split
 ·rename_i h;exact (Mq.nx (jR h)).trans .wiS
 split
 ·rename_i h;exact .nx (jR h)
 split
 ·rename_i h;exact .nx (jR h)
 split
 ·rename_i h;exact .nx (jR h)
 exact .refl q
variable (T:bO3 l) (hq:q.i<l.length)
include T hq
theorem dN (h:q.ac l w=true):q.nx.i<l.length:=T _ hq (cT1 (VW h))
theorem lR:(q.exS l w).i<l.length:=by
 unfold Rq.exS
 split
 ·rename_i h;exact dN T hq h
 ·rw [GU];exact hq
theorem aA2 (h:q.nmK l=true):q.nx.i<l.length:=T _ hq (by rw [(UV h).2];decide)
theorem lI:(q.nmS l).i<l.length:=by
 unfold Rq.nmS
 split
 ·rename_i h;exact aA2 T hq h
 ·rw [GU];exact hq
theorem zC:(q.nbS l).i<l.length:=by
 unfold Rq.nbS
 split
 ·rename_i h
  split
  ·exact T _ hq (by rw [(UW h).2];decide)
  ·rw [GU];exact hq
 ·rw [GU];exact hq
theorem AA:(q.paS l).i<l.length:=lI T (lR T (lI T hq))
theorem ND:(q.wiS l).i<l.length:=by
 unfold Rq.wiS
 split
 ·rename_i h;exact lR T (zC T (lR T (zC T (dN T hq h))))
 ·exact hq
theorem aJ0:(q.boS l).i<l.length:=by
 unfold Rq.boS
 split
 ·rename_i h;exact zC T (dN T hq h)
 ·exact zC T hq
theorem cD4:(q.ama l).i<l.length:=lR T (lI T hq)
theorem cD3:(q.amb l).i<l.length:=lR T (aJ0 T (cD4 T hq))
theorem NE:(q.amS l).i<l.length:=aJ0 T (cD3 T hq)
theorem cM2:(q.joS l).i<l.length:=by
 unfold Rq.joS
 split
 ·rename_i h;exact ND T (dN T hq h)
 split
 ·rename_i h;exact dN T hq h
 split
 ·rename_i h;exact dN T hq h
 split
 ·rename_i h;exact dN T hq h
 exact hq
end
def cnO (o:Ov):Bool:=decide (o.kd=6) || decide (o.kd=8) || decide (o.kd=9)
def FA (l:List Ov):Nat:=(l.filter cnO).length
def okO (o:Ov):Bool:=decide (2<=o.kd.toNat) && decide (o.kd.toNat<=10) && (decide (5<o.kd.toNat) == decide (0<o.lv))
structure Fwf (l:Tks) (q:Ps):Prop where
 i:q.c.i<l.length
 op:∃ r,q.op=r++[bO]/\∀ o∈r,okO o=true
 vs:q.x.1.length=FA q.op+(if q.rd then 1 else 0)
 so:q.op.length<=q.c.i+1
section
variable {l:Tks} {q:Ps} {w:Str} {c:Nat} {o:Ov} {b:Bool}
theorem sU (o:Ov) (r:List Ov):FA (o::r)=(if cnO o then 1 else 0)+FA r:=by unfold FA;rw [List.filter_cons];split <;> simp [Nat.add_comm]
theorem bH9:(o.inh b).kd=o.kd:=by unfold Ov.inh;split <;> rfl
theorem cI2:(o.inh b).lv=o.lv:=by unfold Ov.inh;split <;> rfl
theorem cC6:(o.inh b).f=o.f:=by unfold Ov.inh;split <;> rfl
theorem cI1:okO (o.inh b)=okO o:=by unfold okO;rw [bH9,cI2]
theorem cI3:cnO (o.inh b)=cnO o:=by unfold cnO;rw [bH9]
theorem bQ3 {c:Rq} (h:Fwf l q) (hc:c.i<l.length) (hi:q.c.i<c.i) (ho:okO o=true) (hr:cnO o=q.rd):Fwf l (gD o (q.at c)):=by
 obtain ⟨r,e,hr2⟩:=h.op;refine ⟨hc,⟨o.inh (eC q).tm::r,?_,?_⟩,?_,?_⟩
 ·show _::q.op=_;rw [e];rfl
 ·intro x hx;rcases bM.1 hx with rfl | hx
  ·rw [cI1];exact ho
  ·exact hr2 x hx
 ·show q.x.1.length=FA (_::q.op)+0;rw [sU,cI3,hr,h.vs];cases q.rd <;> simp [Nat.add_comm]
 ·show q.op.length+1<=c.i+1;have:=h.so;omega
theorem aJ1 {v:Vl} {c:Rq} (h:Fwf l q) (hc:c.i<l.length) (hi:q.c.i<=c.i) (hr:q.rd=false):Fwf l (iU v (q.at c)):=by
 refine ⟨hc,h.op,?_,?_⟩
 ·show (v::q.x.1).length=FA q.op+1;rw [aF,h.vs,hr];simp
 ·show q.op.length<=c.i+1;have:=h.so;omega
theorem NF {c:Rq} (h:Fwf l q) (hc:c.i<l.length) (hi:q.c.i<=c.i):Fwf l (q.at c):=⟨hc,h.op,h.vs,by show q.op.length<=c.i+1;have:=h.so;omega⟩
theorem Fwf.top (h:Fwf l q):(q.op=[bO]/\eC q=bO)\/∃ r,q.op=eC q::(r++[bO])/\okO (eC q)=true/\∀ o∈r,okO o=true:=by
 obtain ⟨r,e,hr⟩:=h.op;unfold eC;rw [e];cases r with
 | nil=>exact .inl ⟨Z,Z⟩
 | cons o r=>exact .inr ⟨r,Z,hr _ (bH ..),λx hx=>hr x (cD _ hx)⟩
theorem Fwf.ne (h:Fwf l q):q.op≠[]:=by
 obtain ⟨r,e,_⟩:=h.op;rw [e];simp
theorem bU8 (v:Vl) (x:Vb):(x.put v).1.length=x.1.length+1:=rfl
theorem NP (x:Vb):(tS x).1.length=x.1.length - 1:=List.length_tail
theorem bK2 (x:Vb):(fS x).1.length=x.1.length - 1:=List.length_tail
theorem cG7 (h:okO o=true):o.kd=2\/o.kd=3\/o.kd=4\/o.kd=5\/o.kd=6\/o.kd=7\/o.kd=8\/o.kd=9\/o.kd=10:=by
 unfold okO at h;rw [aE,aE,aB,aB] at h;have h1:=h.1.1;have h2:=h.1.2;have hk:∀ n:Nat,n<256->o.kd.toNat=n->o.kd=UInt8.ofNat n:=λn hn e=>aR.1 (by rw [dH hn];exact e);have:o.kd.toNat=2\/o.kd.toNat=3\/o.kd.toNat=4\/o.kd.toNat=5\/o.kd.toNat=6\/o.kd.toNat=7\/o.kd.toNat=8\/o.kd.toNat=9\/o.kd.toNat=10:=aD
 rcases this with e | e | e | e | e | e | e | e | e <;> have:=hk _ aS e <;> rw [this] <;> decide
theorem bE2 (h:okO o=true):(o.kd=6\/o.kd=7\/o.kd=8\/o.kd=9\/o.kd=10)↔0<o.lv:=by
 have hk:=cG7 h;unfold okO at h;rw [aE,eJ] at h;have h2:=h.2;rcases hk with e | e | e | e | e | e | e | e | e <;> rw [e] at h2 <;> rw [e] <;> by_cases h0:0<o.lv <;> simp [h0] at h2|-
theorem YX (ho:okO o=true) (h0:0<o.lv) {x:Vb} (h:(if cnO o then 2 else 1)<=x.1.length):(wT o x).1.length=x.1.length - (if cnO o then 1 else 0):=by
 have hk:=(bE2 ho).2 h0;unfold wT cnO at *;rcases hk with e | e | e | e | e <;> simp [e,bU8,NP,bK2] at h|- <;> omega
theorem aK0 {lv:Nat} (hl:1<=lv):∀ (r:List Ov) (x:Vb),(∀ o∈r,okO o=true)->x.1.length=FA (r++[bO])+1->∃ r' y,yB lv (r++[bO]) x=(r'++[bO],y)/\r'<:+r/\y.1.length=FA (r'++[bO])+1/\(∀ o,r'.head? = some o->o.lv<lv)
 | [],x,_,h=>⟨[],x,by rw [dE,yB,aA (by show ¬ lv<=0;omega)],xC _,h,λo e=>by cases e⟩
 | o::r,x,ho,h=>by
  rw [bY,yB];rw [bY,sU] at h;have hok:=ho o (bH ..)
  split
  ·rename_i h1;have h2:=YX hok aD (x:=x) (by rw [h];split <;> omega);obtain ⟨r',y,e,hs,hy,ht⟩:=aK0 hl r (wT o x) (λz hz=>ho z (cD _ hz)) (by rw [h2,h];split <;> omega);exact ⟨r',y,e,hs.trans (FF o r),hy,ht⟩
  ·rename_i h1;exact ⟨o::r,x,Z,xC _,by rw [bY,sU];exact h,λz e=>by injection e with e;subst e;omega⟩
theorem vJ {lv:Nat} (hl:1<=lv) (h:Fwf l q) (hr:q.rd=true):Fwf l (kD lv q):=by
 obtain ⟨r,e,ho⟩:=h.op;have hv:=h.vs;rw [e,hr] at hv;obtain ⟨r',y,e2,hs,hy,_⟩:=aK0 hl r q.x ho hv;have h1:(kD lv q).op=r'++[bO]:=by unfold kD;rw [e,e2]
 have h2:(kD lv q).x=y:=by unfold kD;rw [e,e2]
 refine ⟨h.i,⟨r',h1,λo hz=>ho o (hs.subset hz)⟩,?_,?_⟩
 ·rw [h1,h2];show _=_+(if q.rd then 1 else 0);rw [hr];exact hy
 ·rw [h1];have:=hs.length_le;have h3:=h.so;rw [e] at h3;show _<=q.c.i+1;rw [aC] at h3|-;omega
end
section
variable {l:Tks} {q:Ps}
structure Fsp (l:Tks) (q q':Ps):Prop where
 wf:Fwf l q'
 go:q'.fin\/q.c.i<q'.c.i
theorem vW {l:Tks} {q:Rq} {c:Nat} (hc:c≠0):(q.fail l c).er≠0:=by
 unfold Rq.fail
 split
 ·exact hc
 ·assumption
theorem sI {c:Prop} [Decidable c] {a b:Ps} (h1:c->Fsp l q a) (h2:¬ c->Fsp l q b):Fsp l q (if c then a else b):=by
 by_cases hc:c
 ·rw [aK hc];exact h1 hc
 ·rw [aA hc];exact h2 hc
theorem Fsp.red {lv:Nat} {q':Ps} (h:Fsp l (kD lv q) q'):Fsp l q q':=⟨h.wf,h.go⟩
theorem xY {c:Nat} (h:Fwf l q) (hc:c≠0):Fsp l q (q.at (q.c.fail l c)):=⟨NF h (by rw [GU];exact h.i) (by rw [GU];exact aY _),.inl (.inr (vW hc))⟩
theorem mM {o:Ov} {c:Rq} (h:Fwf l q) (hc:c.i<l.length) (hi:q.c.i<c.i) (ho:okO o=true) (hr:cnO o=q.rd):Fsp l q (gD o (q.at c)):=⟨bQ3 h hc hi ho hr,.inr hi⟩
theorem uG {v:Vl} {c:Rq} (h:Fwf l q) (hc:c.i<l.length) (hi:q.c.i<c.i) (hr:q.rd=false):Fsp l q (iU v (q.at c)):=⟨aJ1 h hc (tK hi) hr,.inr hi⟩
variable (T:bO3 l)
include T
theorem bA3 {q':Ps} (h:Fwf l q) (hr:q.rd=false) (e:nN l q=some q'):Fsp l q q':=by
 have n {w:Str} (a:q.c.ac l w=true):q.c.nx.i<l.length:=dN T h.i a;have m {c:Rq} (k:Mq q.c.nx c):q.c.i<c.i:=eK (dF _) k.i;unfold nN at e
 split at e
 ·rename_i a;injection e with e;subst e;exact mM h (n a) (m (.refl _)) rfl (by rw [hr];rfl)
 split at e
 ·rename_i a;injection e with e;subst e;exact mM h (n a) (m (.refl _)) rfl (by rw [hr];rfl)
 split at e
 ·rename_i a;injection e with e;subst e;exact mM h (ND T (n a)) (m .wiS) rfl (by rw [hr];rfl)
 split at e
 ·rename_i a;injection e with e;subst e;exact mM h (ND T (n a)) (m .wiS) rfl (by rw [hr];rfl)
 split at e
 ·rename_i a;injection e with e;subst e;exact mM h (NE T (n a)) (m .amS) rfl (by rw [hr];rfl)
 split at e
 ·rename_i a;injection e with e;subst e;exact mM h (NE T (n a)) (m .amS) rfl (by rw [hr];rfl)
 split at e
 ·rename_i a;injection e with e;subst e;exact mM h (lR T (NE T (n a))) (m (.trans .amS .exS)) rfl (by rw [hr];rfl)
 ·cases e
theorem bR8 (h:Fwf l q) (h0:q.c.er=0) (hr:q.rd=false) (hk:(tkf l q.c.i).k=1):Fsp l q (xD l q):=by
 have k1:q.c.nmK l=true:=by unfold Rq.nmK;rw [aG h0,aG hk];rfl
 have e1:q.c.nmS l=q.c.nx:=by unfold Rq.nmS;rw [aK k1]
 have n1:q.c.nx.i<l.length:=aA2 T h.i k1;have lt {c:Rq} (k:Mq q.c.nx c):q.c.i<c.i:=eK (dF _) k.i;unfold xD;rw [e1]
 split
 ·rename_i a;have n2:=lI T (dN T n1 a);have m2:Mq q.c.nx (q.c.nx.nx.nmS l):=(Mq.nx (jR a)).trans .nmS
  split
  ·rename_i b;exact mM h (dN T n2 b) (lt (m2.trans (.nx (jR b)))) rfl (by rw [hr];rfl)
  ·exact uG h n2 (lt m2) hr
 ·exact uG h n1 (lt (.refl _)) hr
theorem bS4 {w:Str} (h:Fwf l q) (hr:q.rd=false) (a:q.c.ac l w=true):Fsp l q (AP l (q.at q.c.nx)):=by
 have n1:q.c.nx.i<l.length:=dN T h.i a;have n2:=lR T (w:=[40]) (AA T n1);have m2:Mq q.c.nx ((q.c.nx.paS l).exS l [40]):=Mq.paS.trans .exS;have lt {c:Rq} (k:Mq q.c.nx c):q.c.i<c.i:=eK (dF _) k.i;unfold AP
 split
 ·rename_i b;exact uG (c:=((q.c.nx.paS l).exS l [40]).nx) h (dN T n2 b) (lt (m2.trans (.nx (jR b)))) hr
 ·exact mM (c:=(q.c.nx.paS l).exS l [40]) h n2 (lt m2) rfl (by rw [hr];rfl)
theorem bR9 (h:Fwf l q) (h0:q.c.er=0) (hr:q.rd=false):Fsp l q (rQ l q):=by
 have n {w:Str} (a:q.c.ac l w=true):q.c.nx.i<l.length:=dN T h.i a;have m {c:Rq} (k:Mq q.c.nx c):q.c.i<c.i:=eK (dF _) k.i
 have num:(tkf l q.c.i).k=3->Fsp l q (iU (tmv (.mk 1 [] (q.c.nbV l) [])) (q.at (q.c.nbS l))):=λhk=>by
  have k1:q.c.nbB l=true:=by unfold Rq.nbB;rw [aG h0,aG hk];rfl
  refine ⟨aJ1 h (zC T h.i) Mq.nbS.i hr,?_⟩
  by_cases hf:q.c.fit l=true
  ·refine .inr ?_;show q.c.i<(q.c.nbS l).i;unfold Rq.nbS;rw [aK k1,aK hf];exact dF _
  ·refine .inl (.inr ?_);show (q.c.nbS l).er≠0;unfold Rq.nbS;rw [aK k1,aA hf];exact vW aS
 unfold rQ
 exact sI (λa=>mM h (n a) (m (.refl _)) rfl (by rw [hr];rfl)) λ_ =>
  sI (λa=>mM h (n a) (m (.refl _)) rfl (by rw [hr];rfl)) λ_ =>
  sI num λ_=>sI (λhk=>bR8 T h h0 hr hk) λ_ =>
  sI (λa=>uG h (n a) (m (.refl _)) hr) λ_ =>
  sI (λa=>uG h (AA T (n a)) (m .paS) hr) λ_ =>
  sI (λa=>uG h (n a) (m (.refl _)) hr) λ_ =>
  sI (λa=>uG h (n a) (m (.refl _)) hr) λ_ =>
  sI (λa=>uG h (lI T (n a)) (m .nmS) hr) λ_ =>
  sI (λa=>mM h (lR T (AA T (n a))) (m (.trans .paS .exS)) rfl (by rw [hr];rfl)) λ_ =>
  sI (λa=>bS4 T h hr a) λ_=>xY h aS
theorem XB (h:Fwf l q) (h0:q.c.er=0) (hr:q.rd=false):Fsp l q (eQ l q):=by
 unfold eQ;cases e:(if zT q then nN l q else none) with
 | some q' =>
  split at e
  ·exact bA3 T h hr e
  ·cases e
 | none =>
  show Fsp l q (yA l q);unfold yA
  split
  ·rename_i a;exact uG h (dN T h.i a.2) (dF _) hr
  ·exact bR9 T h h0 hr
theorem bS3 {op:UInt8} {w:Str} (h:Fwf l q) (hr:q.rd=true) (a:q.c.ac l w=true):Fsp l q (sL l op q):=by
 have n:=dN T h.i a;have w7:=vJ (lv:=7) aS h hr;have w8:=vJ (lv:=8) aS h hr;unfold sL
 exact sI (λ_=>sI (λ_=>(xY (c:=8) w7 aS).red) λ_=>(mM (o:=⟨8,6,false,op,zF⟩) (c:=q.c.nx) w7 n (dF _) rfl hr.symm).red) λ_ =>
  sI (λ_=>sI (λ_=>(xY (c:=8) w8 aS).red) λ_=>(mM (o:=⟨9,8,false,op,zF⟩) (c:=q.c.nx) w8 n (dF _) rfl hr.symm).red) λ_ =>
  sI (λ_=>(xY (c:=8) w7 aS).red) λ_=>(mM (o:=⟨9,7,false,op,zF⟩) (c:=q.c.nx) w7 n (dF _) rfl hr.symm).red
theorem cO1 {c:Rq} (h0:c.er=0) (hw:c.wrd l=true):(1<=(cK (c.joV l).op).lv/\(cK (c.joV l).op).lv<=4)/\c.i<(c.joS l).i:=by
 have ac {w:Str} (e:c.is l w=true):c.ac l w=true:=by unfold Rq.ac;rw [e,aG h0];rfl
 have lt {c':Rq} (k:Mq c.nx c'):c.i<c'.i:=eK (dF _) k.i;unfold Rq.joV Rq.joS
 by_cases a1:c.ac l [115,105,110,99,101]=true
 ·rw [aK a1,aK a1];exact ⟨by show 1<=(cK 15).lv/\(cK 15).lv<=4;decide,lt .wiS⟩
 by_cases a2:c.ac l [97,110,100]=true
 ·rw [aA a1,aA a1,aK a2,aK a2];exact ⟨by show 1<=(cK 9).lv/\(cK 9).lv<=4;decide,lt (.refl _)⟩
 by_cases a3:c.ac l [111,114]=true
 ·rw [aA a1,aA a1,aA a2,aA a2,aK a3,aK a3];exact ⟨by show 1<=(cK 10).lv/\(cK 10).lv<=4;decide,lt (.refl _)⟩
 by_cases a4:c.ac l [105,109,112,108,105,101,115]=true
 ·rw [aA a1,aA a1,aA a2,aA a2,aA a3,aA a3,aK a4,aK a4];exact ⟨by show 1<=(cK 11).lv/\(cK 11).lv<=4;decide,lt (.refl _)⟩
 unfold Rq.wrd at hw;rw [aW,aW,aW] at hw;rcases hw with ((e | e) | e) | e
 ·exact absurd (ac e) a1
 ·exact absurd (ac e) a2
 ·exact absurd (ac e) a3
 ·exact absurd (ac e) a4
theorem okJ {f:Fm} {lv:Nat} (h:1<=lv):okO ⟨6,lv,false,0,f⟩=true:=by
 unfold okO;rw [aG (show 0<lv by omega)];rfl
theorem bS1 (h:Fwf l q) (h0:q.c.er=0) (hr:q.rd=true) (hw:q.c.wrd l=true):Fsp l q (yJ l q):=by
 obtain ⟨⟨h1,_⟩,hi⟩:=cO1 T h0 hw;unfold yJ
 split
 ·exact xY h aS
 ·exact (mM (o:=⟨6,_,false,0,q.c.joV l⟩) (c:=q.c.joS l) (vJ h1 h hr) (cM2 T h.i) hi (okJ T h1) hr.symm).red
theorem HL {c:Rq} {v:Vl} {x:Vb} (h:Fwf l q) (hr:q.rd=true) (ho:okO (eC q)=true) (hk:cnO (eC q)=false) (hc:c.i<l.length) (hi:q.c.i<c.i) (hx:x.1.length=q.x.1.length - 1):Fsp l q (II c v x q):=by
 obtain ⟨r,e,hro⟩:=h.op;have hv:=h.vs
 have ht:eC q=bO\/∃ o r',r=o::r'/\eC q=o:=by
  unfold eC;rw [e];cases r with
  | nil=>exact .inl rfl
  | cons o r'=>exact .inr ⟨o,r',Z,Z⟩
 rcases ht with ht | ⟨o,r',rfl,ht⟩
 ·rw [ht] at ho;exact absurd ho aS
 ·rw [ht] at hk;rw [e,bY,sU,hk,hr] at hv;simp only [aM,cZ,dC] at hv;refine ⟨⟨hc,⟨r',by show q.op.tail=_;rw [e];rfl,λo ho=>hro o (cD _ ho)⟩,?_,?_⟩,.inr hi⟩
  ·show x.1.length+1=FA q.op.tail+1;rw [e];show _=FA (r'++[bO])+1;omega
  ·show q.op.tail.length<=c.i+1;have:=h.so;rw [List.length_tail];omega
theorem JE (h:Fwf l q) {k:UInt8} (hk:(eC q).kd=k) (h1:¬ k=1):okO (eC q)=true:=by
 rcases h.top with ⟨_,e⟩ | ⟨r,_,ho,_⟩
 ·rw [e] at hk;exact absurd hk.symm h1
 ·exact ho
theorem bS2 (h:Fwf l q) (hr:q.rd=true):Fsp l q (nG l q):=by
 unfold nG
 split
 ·exact ⟨⟨h.i,h.op,h.vs,h.so⟩,.inl (.inl Z)⟩
 split
 ·rename_i a;exact HL T h hr (JE T h a.1 aS) (by unfold cnO;rw [a.1];decide) (dN T h.i a.2) (dF _) List.length_tail
 split
 ·rename_i a;exact HL T h hr (JE T h a.1 aS) (by unfold cnO;rw [a.1];decide) (zC T (lR T (dN T h.i a.2))) (eK (dF _) (Mq.trans (a:=q.c.nx) .exS .nbS).i) (bK2 _)
 split
 ·rename_i a
  split
  ·exact HL T h hr (JE T h a.1 aS) (by unfold cnO;rw [a.1];decide) (dN T h.i a.2) (dF _) (NP _)
  ·exact HL T h hr (JE T h a.1 aS) (by unfold cnO;rw [a.1];decide) (dN T h.i a.2) (dF _) (NP _)
 split
 ·rename_i a;have ho:=JE T h a.1 aS;obtain ⟨r,e,hro⟩:=h.op;have hv:=h.vs;rcases h.top with ⟨_,e1⟩ | ⟨r,e1,_,hr1⟩
  ·rw [e1] at ho;exact absurd ho aS
  ·have hc:cnO (eC q)=false:=by unfold cnO;rw [a.1];decide
   rw [e1,sU,hc,hr] at hv;simp only [aM,cZ,dC] at hv;refine ⟨⟨dN T h.i a.2,⟨_::r,by rw [e1];rfl,?_⟩,?_,?_⟩,.inr (dF _)⟩
   ·intro o hz;rcases bM.1 hz with rfl | hz
    ·exact ho
    ·exact hr1 o hz
   ·show (tS q.x).1.length=FA (_::q.op.tail)+0;rw [NP,e1,sU];show _=(if cnO (eC q) then 1 else 0)+FA (r++[bO])+0;rw [hc];simp only [aM,cZ];omega
   ·show q.op.tail.length+1<=q.c.i+1+1;have:=h.so;rw [List.length_tail];omega
 split
 ·rename_i a;exact HL T h hr (JE T h a.1 aS) (by unfold cnO;rw [a.1];decide) (dN T h.i a.2) (dF _) (NP _)
 ·exact xY h aS
theorem bS0 (h:Fwf l q) (h0:q.c.er=0) (hr:q.rd=true):Fsp l q (rS l q):=by
 unfold rS
 split
 ·rename_i hw;exact bS1 T h h0 hr hw
 split
 ·have:=bS2 T (vJ (lv:=1) aS h hr) hr;exact ⟨this.wf,this.go⟩
 ·exact xY h aS
theorem aB4 {c:Rq} {i:Nat} (h0:c.er=0) (e:c.sym l=some i):c.ac l (nE.getD i [])=true/\i<22/\i≠0:=by
 unfold Rq.sym at e
 split at e
 ·rename_i hk;unfold aP2 at e;have h1:=List.find?_some e;have h2:=bZ.1 (List.mem_of_find?_eq_some e);rw [aE,aB,aB] at h1;refine ⟨?_,h2,h1.2⟩;unfold Rq.ac Rq.is;rw [h1.1,aG h0,aG (show (tkf l c.i).t=(tkf l c.i).t from rfl)];rcases hk with e | e <;> rw [e] <;> decide
 ·cases e
theorem UD (h:Fwf l q) (h0:q.c.er=0) (hr:q.rd=true):Fsp l q (gB l q):=by
 unfold gB;cases e:q.c.sym l with
 | some i=>exact bS3 T h hr (aB4 T h0 e).1
 | none=>exact bS0 T h h0 hr
theorem XA (h:Fwf l q) (hf:¬ q.fin):Fsp l q (lS l q):=by
 have h0:q.c.er=0:=Classical.byContradiction λe=>hf (.inr e);unfold lS
 split
 ·rename_i hr;exact UD T h h0 hr
 ·rename_i hr;exact XB T h h0 (by simpa using hr)
omit T in
theorem TT (h:0<l.length):Fwf l ON:=⟨h,⟨[],Z,λ_ h=>(by cases h)⟩,Z,aS⟩
theorem ME:∀ (n:Nat) (q:Ps),Fwf l q->l.length<=q.c.i+n->(CT l n q).fin/\Fwf l (CT l n q)
 | 0,q,h,hn=>by have:=h.i;omega
 | n+1,q,h,hn=>by
  rw [CT]
  split
  ·rename_i hf;exact ⟨hf,h⟩
  ·rename_i hf;have s:=XA T h hf;rcases s.go with hg | hg
   ·cases n with
    | zero=>exact ⟨hg,s.wf⟩
    | succ n=>rw [CT,aK hg];exact ⟨hg,s.wf⟩
   ·exact ME n _ s.wf aD
end
theorem UE {l:Tks} {q:Ps} (h:q.fin):∀ n,CT l n q=q
 | 0=>rfl
 | n+1=>by rw [CT,aK h]
theorem MF {l:Tks}:∀ (n m:Nat) (q:Ps),CT l (n+m) q=CT l m (CT l n q)
 | 0,m,q=>by rw [dO];rfl
 | n+1,m,q=>by
  rw [show n+1+m=(n+m)+1 by omega,CT,CT]
  split
  ·rename_i hf;rw [UE hf]
  ·exact MF n m _
structure Fn where
 fm:Bool
 tm:Bool
 f:Fm
 e:Ex
def mdN (f:Fm):Fn:=⟨true,false,f,zE⟩
def vlN (e:Ex):Fn:=⟨false,true,zF,e⟩
def zN:Fn:=⟨false,false,zF,zE⟩
inductive Nt where
 | lev (k:Nat)
 | lp (k:Nat) (a:Fn)
 | arg (f:Fm)
 | aft (f:Fm)
def joW (k:Nat):Str:=if k=1 then [105,109,112,108,105,101,115] else if k=2 then [111,114] else if k=3 then [97,110,100] else [115,105,110,99,101]
def LN:List (Str × UInt8):=[([110,111,116],8),([112,114,101,118,105,111,117,115],12),([111,110,99,101],13),([97,108,119,97,121,115],14),([102,111,114,97,108,108],16),([101,120,105,115,116,115],17)]
def bD0:List Str:=[[110,111,119],[116,114,117,101],[102,97,108,115,101],[102,108,97,103],[104,97,115],[97,114,114,105,118,101,115],[115,105,122,101],[40]]
section
variable (l:Tks)
def Rq.prS (op:UInt8) (r:Rq):Rq:=if op=13\/op=14 then r.nx.wiS l else if op=16\/op=17 then r.nx.amS l else r.nx
def Rq.prF (op:UInt8) (r:Rq):Fm:=if op=13\/op=14 then r.nx.wiV l op else if op=16\/op=17 then r.nx.amV l op else .mk op [] [] 0 0 [] []
def Rq.jnS (k:Nat) (r:Rq):Rq:=if k=4 then r.nx.wiS l else r.nx
def Rq.jnF (k:Nat) (r:Rq):Fm:=if k=4 then r.nx.wiV l 15 else .mk (UInt8.ofNat (12 - k)) [] [] 0 0 [] []
def KE (k i:Nat):Prop:=(k=7/\(i=14\/i=15))\/(k=8/\(i=11\/i=12\/i=13))
def opB (i:Nat) (es:List Ex):Ex:=.mk (UInt8.ofNat i) [] 0 es
inductive Gd:Nt->Rq->Fn->Bool->Rq->Prop
 | seq {k:Nat} {r r1 r2:Rq} {x n:Fn} {m m':Bool} (hk:(1<=k/\k<=4)\/k=7\/k=8) (h1:Gd (.lev (k+1)) r x m r1) (h2:Gd (.lp k x) r1 n m' r2):Gd (.lev k) r n (m || m') r2
 | outJ {k:Nat} {r:Rq} {a:Fn} (hk:1<=k/\k<=4) (h:r.ac l (joW k)=false):Gd (.lp k a) r a false r
 | outA {k:Nat} {r:Rq} {a:Fn} (hk:k=7\/k=8) (h:∀ i,KE k i->r.ac l (nE.getD i [])=false):Gd (.lp k a) r a false r
 | join {k:Nat} {r r1 r2:Rq} {a y n:Fn} {m m':Bool} (hk:1<=k/\k<=4) (h:r.ac l (joW k)=true) (h1:Gd (.lev (k+1)) (r.jnS l k) y m r1) (h2:Gd (.lp k (mdN ((r.jnF l k).wAr [a.f,y.f]))) r1 n m' r2):Gd (.lp k a) r n ((m || (!a.fm || !y.fm)) || m') r2
 | ari {k i:Nat} {r r1 r2:Rq} {a y n:Fn} {m m':Bool} (hk:KE k i) (h:r.ac l (nE.getD i [])=true) (h1:Gd (.lev (k+1)) r.nx y m r1) (h2:Gd (.lp k (vlN (opB i [a.e,y.e]))) r1 n m' r2):Gd (.lp k a) r n ((m || (!a.tm || !y.tm)) || m') r2
 | pre {w:Str} {op:UInt8} {r r1:Rq} {x:Fn} {m:Bool} (hp:(w,op)∈LN) (h:r.ac l w=true) (h1:Gd (.lev 5) (r.prS l op) x m r1):Gd (.lev 5) r (mdN ((r.prF l op).wAr [x.f])) (m || !x.fm) r1
 | cnt {r r1:Rq} {x:Fn} {m:Bool} (h:r.ac l [99,111,117,110,116]=true) (h1:Gd (.lev 1) ((r.nx.amS l).exS l [40]) x m r1):Gd (.lev 5) r (mdN (((r.nx.amV l 18).wEx [.mk 1 [] (((r1.exS l [41]).exS l [62,61]).nbV l) []]).wAr [x.f])) (m || !x.fm) (((r1.exS l [41]).exS l [62,61]).nbS l)
 | cmp0 {r r1:Rq} {x:Fn} {m:Bool} (hp:∀ w op,(w,op)∈LN->r.ac l w=false) (hc:r.ac l [99,111,117,110,116]=false) (h1:Gd (.lev 6) r x m r1):Gd (.lev 5) r x m r1
 | cm0 {r r1:Rq} {x:Fn} {m:Bool} (h1:Gd (.lev 7) r x m r1) (h:∀ i,16<=i->i<=21->r1.ac l (nE.getD i [])=false):Gd (.lev 6) r x m r1
 | cm1 {i:Nat} {r r1 r2:Rq} {x y:Fn} {m m':Bool} (hi:16<=i/\i<=21) (h1:Gd (.lev 7) r x m r1) (h:r1.ac l (nE.getD i [])=true) (h2:Gd (.lev 7) r1.nx y m' r2):Gd (.lev 6) r (mdN (.mk 3 [] [] 0 0 [opB i [x.e,y.e]] [])) ((m || m') || (!x.tm || !y.tm)) r2
 | neg {r r1:Rq} {x:Fn} {m:Bool} (h:r.ac l [45]=true) (h1:Gd (.lev 9) r.nx x m r1):Gd (.lev 9) r (vlN (.mk 9 [] 0 [x.e])) (m || !x.tm) r1
 | pri {r r1:Rq} {x:Fn} {m:Bool} (h:r.ac l [45]=false) (h1:Gd (.lev 10) r x m r1):Gd (.lev 9) r x m r1
 | bad {r:Rq} (h:r.er≠0):Gd (.lev 10) r zN false r
 | num {r:Rq} (h:r.er=0) (hk:(tkf l r.i).k=3):Gd (.lev 10) r (vlN (.mk 1 [] (r.nbV l) [])) false (r.nbS l)
 | now {r:Rq} (h:r.ac l [110,111,119]=true):Gd (.lev 10) r (vlN (.mk 4 [] 0 [])) false r.nx
 | tru {r:Rq} (h:r.ac l [116,114,117,101]=true):Gd (.lev 10) r (mdN (.mk 1 [] [] 0 0 [] [])) false r.nx
 | fal {r:Rq} (h:r.ac l [102,97,108,115,101]=true):Gd (.lev 10) r (mdN (.mk 2 [] [] 0 0 [] [])) false r.nx
 | flg {r:Rq} (h:r.ac l [102,108,97,103]=true):Gd (.lev 10) r (mdN (.mk 6 (r.nx.nmV l) [] 0 0 [] [])) false (r.nx.nmS l)
 | has {r r1:Rq} {x:Fn} {m:Bool} (h:r.ac l [104,97,115]=true) (h1:Gd (.lev 7) ((r.nx.paS l).exS l [91]) x m r1):Gd (.lev 10) r (mdN ((r.nx.paV l 5).wEx [x.e])) (m || !x.tm) (r1.exS l [93])
 | arr0 {r:Rq} (h:r.ac l [97,114,114,105,118,101,115]=true) (h1:((r.nx.paS l).exS l [40]).ac l [41]=true):Gd (.lev 10) r (mdN (r.nx.paV l 7)) false ((r.nx.paS l).exS l [40]).nx
 | arr {r r1:Rq} {n:Fn} {m:Bool} (h:r.ac l [97,114,114,105,118,101,115]=true) (h0:((r.nx.paS l).exS l [40]).ac l [41]=false) (h1:Gd (.arg (r.nx.paV l 7)) ((r.nx.paS l).exS l [40]) n m r1):Gd (.lev 10) r n m r1
 | siz {r:Rq} (h:r.ac l [115,105,122,101]=true):Gd (.lev 10) r (vlN (.mk 8 (r.nx.paN l++[46]++r.nx.paF l) 0 [])) false (r.nx.paS l)
 | par {r r1:Rq} {x:Fn} {m:Bool} (h:r.ac l [40]=true) (h1:Gd (.lev 1) r.nx x m r1):Gd (.lev 10) r x m (r1.exS l [41])
 | nam0 {r:Rq} (h:r.er=0) (hk:(tkf l r.i).k=1) (hd:r.nx.ac l [46]=false):Gd (.lev 10) r (vlN (.mk 5 (r.nmV l) 0 [])) false r.nx
 | nam1 {r:Rq} (h:r.er=0) (hk:(tkf l r.i).k=1) (hd:r.nx.ac l [46]=true) (hb:(r.nx.nx.nmS l).ac l [91]=false):Gd (.lev 10) r ⟨true,true,.mk 4 (r.nmV l) (r.nx.nx.nmV l) 0 0 [] [],.mk 5 (r.ful l) 0 []⟩ false (r.nx.nx.nmS l)
 | get {r r1:Rq} {x:Fn} {m:Bool} (h:r.er=0) (hk:(tkf l r.i).k=1) (hd:r.nx.ac l [46]=true) (hb:(r.nx.nx.nmS l).ac l [91]=true) (h1:Gd (.lev 7) (r.nx.nx.nmS l).nx x m r1):Gd (.lev 10) r (vlN (.mk 6 (r.ful l) 0 [x.e])) (m || !x.tm) (r1.exS l [93])
 | non {r:Rq} (h:r.er=0) (h0:r.ac l [45]=false) (h3:(tkf l r.i).k≠3) (h1:(tkf l r.i).k≠1) (hw:∀ w∈bD0,r.ac l w=false):Gd (.lev 10) r zN false (r.fail l 8)
 | arU {r r1:Rq} {f:Fm} {n:Fn} {m:Bool} (h:r.ac l [95]=true) (h1:Gd (.aft (f.wEx (f.ex++[zE]))) r.nx n m r1):Gd (.arg f) r n m r1
 | arT {r r1 r2:Rq} {f:Fm} {x n:Fn} {m m':Bool} (h:r.ac l [95]=false) (h1:Gd (.lev 7) r x m r1) (h2:Gd (.aft (f.wEx (f.ex++[x.e]))) r1 n m' r2):Gd (.arg f) r n ((m || !x.tm) || m') r2
 | afC {r r1:Rq} {f:Fm} {n:Fn} {m:Bool} (h:r.ac l [44]=true) (h1:Gd (.arg f) r.nx n m r1):Gd (.aft f) r n m r1
 | afE {r:Rq} {f:Fm} (h:r.ac l [44]=false):Gd (.aft f) r (mdN f) false (r.exS l [41])
end
section
variable {l:Tks} {r r':Rq} {w:Str}
theorem aN8 (h:r.er≠0):r.ac l w=false:=by unfold Rq.ac;rw [aL h];rfl
theorem oH (h:r.er≠0) (h2:r.ac l w=true):False:=by rw [aN8 h] at h2;cases h2
theorem VH (h:r.er≠0):r.exS l w=r:=Mq.exS.er h
theorem DG {nt:Nt} {n:Fn} {m:Bool} (g:Gd l nt r n m r'):r.er≠0->r'=r:=by
 induction g with
 | seq hk h1 h2 i1 i2=>intro e;have:=i1 e;subst this;exact i2 e
 | outJ=>intro _;rfl
 | outA=>intro _;rfl
 | join hk h=>intro e;exact (oH e h).elim
 | ari hk h=>intro e;exact (oH e h).elim
 | pre hp h=>intro e;exact (oH e h).elim
 | cnt h=>intro e;exact (oH e h).elim
 | cmp0 hp hc h1 i1=>exact i1
 | cm0 h1 h i1=>exact i1
 | cm1 hi h1 h h2 i1 i2=>intro e;have:=i1 e;subst this;exact (oH e h).elim
 | neg h=>intro e;exact (oH e h).elim
 | pri h h1 i1=>exact i1
 | bad=>intro _;rfl
 | num h=>intro e;exact absurd h e
 | now h=>intro e;exact (oH e h).elim
 | tru h=>intro e;exact (oH e h).elim
 | fal h=>intro e;exact (oH e h).elim
 | flg h=>intro e;exact (oH e h).elim
 | has h=>intro e;exact (oH e h).elim
 | arr0 h=>intro e;exact (oH e h).elim
 | arr h=>intro e;exact (oH e h).elim
 | siz h=>intro e;exact (oH e h).elim
 | par h=>intro e;exact (oH e h).elim
 | nam0 h=>intro e;exact absurd h e
 | nam1 h=>intro e;exact absurd h e
 | get h=>intro e;exact absurd h e
 | non h=>intro e;exact absurd h e
 | arU h=>intro e;exact (oH e h).elim
 | arT h h1 h2 i1 i2=>intro e;have:=i1 e;subst this;exact i2 e
 | afC h=>intro e;exact (oH e h).elim
 | afE h=>intro e;exact VH e
end
structure Nok (v:Vl) (n:Fn):Prop where
 tm:v.tm=n.tm
 e:n.tm=true->v.e=n.e
 fm:n.fm=!v.noF
 f:n.fm=true->v.fm=n.f
def YK (P:List Ov) (x:Vb):Vb:=P.foldl (λx o=>wT o x) x
theorem aS2 (P R:List Ov) (x:Vb):YK (P++R) x=YK R (YK P x):=oP ..
theorem XG {lv:Nat} {O:List Ov}:∀ (P:List Ov) (x:Vb),(∀ p∈P,lv<=p.lv)->yB lv (P++O) x=yB lv O (YK P x)
 | [],_,_=>rfl
 | p::P,x,h=>by
  rw [bY,yB,aK (h p (bH ..)),XG P _ λq hq=>h q (cD _ hq)]
  rfl
theorem aQ0 {lv:Nat} {q:Ps} (h:(eC q).lv<lv) (x:Vb):yB lv q.op x=(q.op,x):=by
 unfold eC at h;cases e:q.op with
 | nil=>rfl
 | cons o r =>
  rw [e] at h;rw [yB,aA (by show ¬ lv<=o.lv;have:o.lv<lv:=h;omega)]
def Rch (l:Tks) (q q':Ps):Prop:=∃ n,CT l n q=q'
section
variable {l:Tks} {q q' q'':Ps}
theorem Rch.refl:Rch l q q:=⟨0,Z⟩
theorem Rch.trans (h:Rch l q q') (k:Rch l q' q''):Rch l q q'':=by
 obtain ⟨n,h⟩:=h;obtain ⟨m,k⟩:=k;exact ⟨n+m,by rw [MF,h,k]⟩
theorem Rch.one (h0:q.c.er=0) (hd:q.dn=false) (h:lS l q=q'):Rch l q q':=⟨1,by
 rw [CT,aA,h];rfl;rintro (e | e)
 ·rw [hd] at e;cases e
 ·exact e h0⟩
structure Rdy (k:Nat) (q q':Ps) (n:Fn) (m:Bool) (r:Rq):Prop where
 c:q'.c=r
 rd:q'.rd=true
 dn:q'.dn=false
 st:∃ P v,q'.op=P++q.op/\(∀ p∈P,k<=p.lv/\p.tm=(eC q).tm)/\YK P q'.x=(v::q.x.1,q.x.2 || m)/\(m=false->Nok v n)
 wh:6<=k->(sH q'.x).wh=false
structure Stop (l:Tks) (k:Nat) (q:Ps):Prop where
 s8:k<=8->∀ i,KE 8 i->q.c.ac l (nE.getD i [])=true->(sH q.x).wh=true
 s7:k<=7->∀ i,KE 7 i->q.c.ac l (nE.getD i [])=true->(sH q.x).wh=true
 s6:k<=6->∀ i,16<=i->i<=21->q.c.ac l (nE.getD i [])=true->(sH q.x).wh=true\/(eC (kD 7 q)).kd=8
 sj:∀ j,k<=j->1<=j->j<=4->q.c.ac l (joW j)=false
structure Ctx (l:Tks) (k:Nat) (q:Ps):Prop where
 lo:k<=5->(eC q).tm=false/\(eC q).kd≠5/\(eC q).kd≠8/\(eC q).lv<=5/\(k<=4->(eC q).lv<k)
 c6:k=6->(eC q).tm=false/\(eC q).kd≠8/\(eC q).lv<7
 mid:k=7\/k=8->(eC q).lv<k
 hop:6<=k->eQ l q=rQ l q
theorem Rdy.mono {k j:Nat} {n:Fn} {m:Bool} {r:Rq} (h:Rdy k q q' n m r) (hj:j<=k) (hw:6<=j->6<=k):Rdy j q q' n m r:=by
 obtain ⟨P,v,a,b,c,d⟩:=h.st;exact ⟨h.c,h.rd,h.dn,⟨P,v,a,λp hp=>⟨aZ hj (b p hp).1,(b p hp).2⟩,c,d⟩,λe=>h.wh (hw e)⟩
theorem Rdy.top {k:Nat} {n:Fn} {m:Bool} {r:Rq} (h:Rdy k q q' n m r):(eC q').tm=(eC q).tm:=by
 obtain ⟨P,v,a,b,c,d⟩:=h.st;have ht:eC q'=(P++q.op).headD bO:=by unfold eC;rw [a]
 cases P with
 | nil=>rw [ht];rfl
 | cons p P=>rw [ht];exact (b p (bH ..)).2
theorem Rdy.red {k:Nat} {n:Fn} {m:Bool} {r:Rq} (h:Rdy k q q' n m r) (hk:(eC q).lv<k):∃ v,kD k q'=⟨r,q.op,(v::q.x.1,q.x.2 || m),true,false⟩/\(m=false->Nok v n):=by
 obtain ⟨P,v,a,b,c,d⟩:=h.st;refine ⟨v,?_,d⟩;unfold kD;rw [a,XG P _ λp hp=>(b p hp).1,c,aQ0 hk,h.c,h.rd,h.dn]
theorem Rdy.up {k j:Nat} {o:Ov} {q1 q2 q3:Ps} {n N:Fn} {m M:Bool} {r:Rq} (h:Rdy j q2 q3 n m r) (hop:q2.op=o::q1.op) (hk:k<=o.lv) (hj:k<=j) (ht:o.tm=(eC q1).tm)
 (hx:∀ v,(m=false->Nok v n)->∃ u,wT o (v::q2.x.1,q2.x.2 || m)=(u::q1.x.1,q1.x.2 || M)/\(M=false->Nok u N)) (hw:6<=k->(sH q3.x).wh=false):Rdy k q1 q3 N M r:=by
 obtain ⟨P,v,a,b,c,d⟩:=h.st;obtain ⟨u,e,f⟩:=hx v d;have ht2:(eC q2)=o:=by unfold eC;rw [hop];rfl
 refine ⟨h.c,h.rd,h.dn,⟨P++[o],u,by rw [a,hop,aV];rfl,?_,?_,f⟩,hw⟩
 ·intro p hp;rcases cJ.1 hp with hp | hp
  ·have:=b p hp;rw [ht2,ht] at this;exact ⟨aZ hj this.1,this.2⟩
  ·rw [bS] at hp;subst hp;exact ⟨hk,ht⟩
 ·rw [aS2,c];exact e
theorem wU {c:Rq} {w w':Str} (h:c.ac l w=true) (hw:w≠w'):c.ac l w'=false:=by
 cases h2:c.ac l w' with
 | false=>rfl
 | true=>exact absurd ((ZE h).symm.trans (ZE h2)) hw
theorem GW {c:Rq} {w:Str} (h:c.ac l w=true):¬ (tkf l c.i).k=3:=by rcases ZF h with e | e <;> rw [e] <;> decide
theorem GX {c:Rq} {w:Str} (h:c.ac l w=true):¬ (tkf l c.i).k=1:=by rcases ZF h with e | e <;> rw [e] <;> decide
theorem XY {c:Rq} {w:Str} (h:¬ ((tkf l c.i).k=2\/(tkf l c.i).k=4)):c.ac l w=false:=by
 cases h2:c.ac l w with
 | false=>rfl
 | true=>exact absurd (ZF h2) h
theorem YE {c:Rq} {i:Nat} (hi:11<=i) (hi2:i<=21) (h:c.ac l (nE.getD i [])=true):c.sym l=some i:=by
 unfold Rq.sym;rw [aK (ZF h),ZE h];have:∀ i∈List.range 22,11<=i->aP2 (nE.getD i [])=some i:=by decide +kernel
 exact this i (bZ.2 aD) hi
theorem WW {c:Rq} {w:Str} (h:c.ac l w=true) (hw:aP2 w=none):c.sym l=none:=by
 unfold Rq.sym
 split
 ·rw [ZE h];exact hw
 ·rfl
theorem OM {c:Rq} {w:Str} (h:c.ac l w=true):c.is l w=true:=VW h
theorem GQ {c:Rq} {w:Str} (h0:c.er=0):c.is l w=c.ac l w:=by unfold Rq.ac;rw [aG h0,aO]
end
structure Tgd (l:Tks):Prop where
 last:bO3 l
 ne:∀ i,(tkf l i).k=2\/(tkf l i).k=4->(tkf l i).t≠[]
 nm:∀ i,(tkf l i).k=1->eN (tkf l i).t=none
section
variable {l:Tks} {q q' q'':Ps} {w w':Str} {c r r':Rq} {k i:Nat} {n:Fn} {m:Bool} {v:Vl}
theorem nw (h:c.ac l w=true) (hw:w≠w'):¬ c.ac l w'=true:=by rw [wU h hw];decide
theorem uH (hr:q.rd=false):lS l q=eQ l q:=by unfold lS;rw [hr];rfl
theorem AC (hr:q.rd=true):lS l q=gB l q:=by unfold lS;rw [hr];rfl
theorem BJ {op:UInt8} (h:q.c.ac l w=true) (hp:(w,op)∈LN):nN l q=some (gD ⟨7,5,false,0,q.c.prF l op⟩ (q.at (q.c.prS l op))):=by
 unfold LN at hp;simp only [bM,BB,List.not_mem_nil,or_false] at hp;unfold nN Rq.prF Rq.prS;rcases hp with ⟨rfl,rfl⟩ | ⟨rfl,rfl⟩ | ⟨rfl,rfl⟩ | ⟨rfl,rfl⟩ | ⟨rfl,rfl⟩ | ⟨rfl,rfl⟩
 ·rw [aK h];rfl
 ·rw [aA (nw h aS),aK h];rfl
 ·rw [aA (nw h aS),aA (nw h aS),aK h];rfl
 ·rw [aA (nw h aS),aA (nw h aS),aA (nw h aS),aK h];rfl
 ·rw [aA (nw h aS),aA (nw h aS),aA (nw h aS),aA (nw h aS),aK h];rfl
 ·rw [aA (nw h aS),aA (nw h aS),aA (nw h aS),aA (nw h aS),aA (nw h aS),aK h];rfl
theorem XK (h:q.c.ac l [99,111,117,110,116]=true):nN l q=some (gD ⟨3,0,false,0,q.c.nx.amV l 18⟩ (q.at ((q.c.nx.amS l).exS l [40]))):=by
 unfold nN;rw [aA (nw h aS),aA (nw h aS),aA (nw h aS),aA (nw h aS),aA (nw h aS),aA (nw h aS),aK h]
theorem aK2 (hp:∀ w op,(w,op)∈LN->q.c.ac l w=false) (hc:q.c.ac l [99,111,117,110,116]=false):nN l q=none:=by
 have no {w:Str} {op:UInt8} (h:(w,op)∈LN):¬ q.c.ac l w=true:=by rw [hp w op h];decide
 unfold nN;rw [aA (no (op:=8) aS),aA (no (op:=12) aS),aA (no (op:=13) aS),aA (no (op:=14) aS),aA (no (op:=16) aS),aA (no (op:=17) aS),aA (by rw [hc];decide)]
theorem XN (hr:q.rd=false) (hf:zT q=true) (h:nN l q=some q'):lS l q=q':=by
 rw [uH hr];unfold eQ;rw [aK hf,h]
theorem kY (hf:zT q=false\/nN l q=none) (hk:(eC q).kd=5->q.c.ac l [95]=false):eQ l q=rQ l q:=by
 have e:(if zT q then nN l q else none)=none:=by
  rcases hf with e | e
  ·rw [e];rfl
  ·rw [e];split <;> rfl
 unfold eQ;rw [e];show yA l q=_;unfold yA;rw [aA];rintro ⟨h1,h2⟩;rw [hk h1] at h2;cases h2
theorem aE3 (h:5<(eC q).lv):zT q=false:=by unfold zT;rw [aL aD,Bool.and_false]
theorem cJ3 (h:(eC q).tm=true):zT q=false:=by unfold zT;rw [h];rfl
theorem bI6 (h:(eC q).tm=false) (h2:(eC q).lv<=5):zT q=true:=by unfold zT;rw [h,aG h2];rfl
theorem UM (h:q.c.ac l [45]=true):rQ l q=gD ⟨10,9,false,0,zF⟩ (q.at q.c.nx):=by unfold rQ;rw [aK h]
theorem UI (h:q.c.ac l [40]=true):rQ l q=gD ⟨2,0,false,0,zF⟩ (q.at q.c.nx):=by unfold rQ;rw [aA (nw h aS),aK h]
theorem cC3 (h:(tkf l c.i).k=3):¬ c.ac l w=true:=by rw [XY (by rw [h];decide)];decide
theorem cC4 (h:(tkf l c.i).k=1):¬ c.ac l w=true:=by rw [XY (by rw [h];decide)];decide
theorem UJ (h:(tkf l q.c.i).k=3):rQ l q=iU (tmv (.mk 1 [] (q.c.nbV l) [])) (q.at (q.c.nbS l)):=by unfold rQ;rw [aA (cC3 h),aA (cC3 h),aK h]
theorem HT (h:(tkf l q.c.i).k=1):rQ l q=xD l q:=by unfold rQ;rw [aA (cC4 h),aA (cC4 h),aA (by rw [h];decide),aK h]
theorem UK (h:q.c.ac l [110,111,119]=true):rQ l q=iU (tmv (.mk 4 [] 0 [])) (q.at q.c.nx):=by
 unfold rQ;rw [aA (nw h aS),aA (nw h aS),aA (GW h),aA (GX h),aK h]
theorem UH (h:q.c.ac l [115,105,122,101]=true):rQ l q=iU (tmv (.mk 8 (q.c.nx.paN l++[46]++q.c.nx.paF l) 0 [])) (q.at (q.c.nx.paS l)):=by
 unfold rQ;rw [aA (nw h aS),aA (nw h aS),aA (GW h),aA (GX h),aA (nw h aS),aK h]
theorem UG (h:q.c.ac l [116,114,117,101]=true):rQ l q=iU (fmv (.mk 1 [] [] 0 0 [] [])) (q.at q.c.nx):=by
 unfold rQ;rw [aA (nw h aS),aA (nw h aS),aA (GW h),aA (GX h),aA (nw h aS),aA (nw h aS),aK h]
theorem UP (h:q.c.ac l [102,97,108,115,101]=true):rQ l q=iU (fmv (.mk 2 [] [] 0 0 [] [])) (q.at q.c.nx):=by
 unfold rQ;rw [aA (nw h aS),aA (nw h aS),aA (GW h),aA (GX h),aA (nw h aS),aA (nw h aS),aA (nw h aS),aK h]
theorem UO (h:q.c.ac l [102,108,97,103]=true):rQ l q=iU (fmv (.mk 6 (q.c.nx.nmV l) [] 0 0 [] [])) (q.at (q.c.nx.nmS l)):=by
 unfold rQ;rw [aA (nw h aS),aA (nw h aS),aA (GW h),aA (GX h),aA (nw h aS),aA (nw h aS),aA (nw h aS),aA (nw h aS),aK h]
theorem UN (h:q.c.ac l [104,97,115]=true):rQ l q=gD ⟨4,0,true,0,q.c.nx.paV l 5⟩ (q.at ((q.c.nx.paS l).exS l [91])):=by
 unfold rQ;rw [aA (nw h aS),aA (nw h aS),aA (GW h),aA (GX h),aA (nw h aS),aA (nw h aS),aA (nw h aS),aA (nw h aS),aA (nw h aS),aK h]
theorem MG (h:q.c.ac l [97,114,114,105,118,101,115]=true):rQ l q=AP l (q.at q.c.nx):=by
 unfold rQ;rw [aA (nw h aS),aA (nw h aS),aA (GW h),aA (GX h),aA (nw h aS),aA (nw h aS),aA (nw h aS),aA (nw h aS),aA (nw h aS),aA (nw h aS),aK h]
theorem UL (h0:q.c.ac l [45]=false) (h3:(tkf l q.c.i).k≠3) (h1:(tkf l q.c.i).k≠1) (hw:∀ w∈bD0,q.c.ac l w=false):rQ l q=q.at (q.c.fail l 8):=by
 have no {w:Str} (h:w∈bD0):¬ q.c.ac l w=true:=by rw [hw w h];decide
 unfold rQ;rw [aA (by rw [h0];decide),aA (no aS),aA h3,aA h1,aA (no aS),aA (no aS),aA (no aS),aA (no aS),aA (no aS),aA (no aS),aA (no aS)]
theorem XO (h:c.er=0) (hk:(tkf l c.i).k=1):c.nmS l=c.nx:=by
 unfold Rq.nmS;rw [aK (by unfold Rq.nmK;rw [aG h,aG hk];rfl)]
theorem bE9 (h:c.er=0) (hk:(tkf l c.i).k=1):c.nmV l=(tkf l c.i).t:=by
 unfold Rq.nmV;rw [aK (by unfold Rq.nmK;rw [aG h,aG hk];rfl)]
theorem cM5 (h:q.c.er=0) (hk:(tkf l q.c.i).k=1) (hd:q.c.nx.ac l [46]=false):xD l q=iU (tmv (.mk 5 (q.c.nmV l) 0 [])) (q.at q.c.nx):=by
 unfold xD;rw [XO h hk,aA (by rw [hd];decide)]
theorem cM4 (h:q.c.er=0) (hk:(tkf l q.c.i).k=1) (hd:q.c.nx.ac l [46]=true) (hb:(q.c.nx.nx.nmS l).ac l [91]=false):xD l q=iU (tmv (.mk 5 (q.c.ful l) 0 [])) (q.at (q.c.nx.nx.nmS l)):=by
 unfold xD;rw [XO h hk,aK hd,aA (by rw [hb];decide)]
theorem cM3 (h:q.c.er=0) (hk:(tkf l q.c.i).k=1) (hd:q.c.nx.ac l [46]=true) (hb:(q.c.nx.nx.nmS l).ac l [91]=true):xD l q=gD ⟨4,0,true,6,.mk 0 (q.c.ful l) [] 0 0 [] []⟩ (q.at (q.c.nx.nx.nmS l).nx):=by
 unfold xD;rw [XO h hk,aK hd,aK hb]
theorem cR5 (h:((c.paS l).exS l [40]).ac l [41]=true):AP l (q.at c)=iU (fmv (c.paV l 7)) (q.at ((c.paS l).exS l [40]).nx):=by
 unfold AP;exact aK h
theorem cR4 (h:((c.paS l).exS l [40]).ac l [41]=false):AP l (q.at c)=gD ⟨5,0,true,0,c.paV l 7⟩ (q.at ((c.paS l).exS l [40])):=by
 unfold AP;exact aA (by show ¬ ((c.paS l).exS l [40]).ac l [41]=true;rw [h];decide)
theorem HN (hr:q.rd=true) (h:q.c.ac l w=true) (hw:w=[41]\/w=[93]\/w=[44]):lS l q=nG l (kD 1 q):=by
 rw [AC hr];unfold gB;rw [WW h (by rcases hw with rfl | rfl | rfl <;> decide +kernel)];show rS l q=_;have h0:=jR h;have nI {w':Str} (e:w≠w'):q.c.is l w'=false:=by rw [GQ h0];exact wU h e
 unfold rS Rq.wrd Rq.endB;rcases hw with rfl | rfl | rfl
 ·rw [nI (w':=[115,105,110,99,101]) aS,nI (w':=[97,110,100]) aS,nI (w':=[111,114]) aS,nI (w':=[105,109,112,108,105,101,115]) aS,OM h];rfl
 ·rw [nI (w':=[115,105,110,99,101]) aS,nI (w':=[97,110,100]) aS,nI (w':=[111,114]) aS,nI (w':=[105,109,112,108,105,101,115]) aS,nI (w':=[41]) aS,OM h];rfl
 ·rw [nI (w':=[115,105,110,99,101]) aS,nI (w':=[97,110,100]) aS,nI (w':=[111,114]) aS,nI (w':=[105,109,112,108,105,101,115]) aS,nI (w':=[41]) aS,nI (w':=[93]) aS,OM h];rfl
theorem DP (h1:(eC q).kd=1->(tkf l q.c.i).k≠0) (h2:(eC q).kd=2\/(eC q).kd=3\/(eC q).kd=5->q.c.ac l [41]=false) (h4:(eC q).kd=4->q.c.ac l [93]=false) (h5:(eC q).kd=5->q.c.ac l [44]=false):nG l q=q.at (q.c.fail l 8):=by
 have no {w:Str} (e:q.c.ac l w=false):¬ q.c.ac l w=true:=by rw [e];decide
 unfold nG;rw [aA (λe=>h1 e.1 e.2),aA (λe=>no (h2 (.inl e.1)) e.2),aA (λe=>no (h2 (.inr (.inl e.1))) e.2),aA (λe=>no (h4 e.1) e.2),aA (λe=>no (h5 e.1) e.2),aA (λe=>no (h2 (.inr (.inr e.1))) e.2)]
theorem cN2 (G:Tgd l) (hr:q.rd=true) (h0:q.c.er=0) (ar:∀ i,KE 8 i\/KE 7 i->q.c.ac l (nE.getD i [])=true->(sH q.x).wh=true)
 (cm:∀ i,16<=i->i<=21->q.c.ac l (nE.getD i [])=true->(sH q.x).wh=true\/(eC (kD 7 q)).tm=true\/(eC (kD 7 q)).kd=8)
 (jn:∀ j,1<=j->j<=4->q.c.ac l (joW j)=true->(eC q).tm=true) (cl:(nG l (kD 1 q)).c=q.c.fail l 8):(lS l q).c=q.c.fail l 8:=by
 rw [AC hr];unfold gB;cases e:q.c.sym l with
 | some i =>
  obtain ⟨ha,hi,_⟩:=aB4 G.last h0 e;have hne:=G.ne q.c.i (ZF ha);rw [ZE ha] at hne
  have h11:11<=i:=by
   refine Classical.byContradiction λhn=>hne ?_;have:∀ i∈List.range 11,nE.getD i []=[]:=aS
   exact this i (bZ.2 aD)
  show (sL l (UInt8.ofNat i) q).c=_;unfold sL
  by_cases h16:16<=i
  ·have:(16:UInt8)<=UInt8.ofNat i:=by rw [UInt8.le_iff_toNat_le,dH (show i<256 by omega)];exact h16
   rw [aK this,aK]
   ·rfl
   ·rcases cm i h16 aD ha with e | e | e
    ·rw [e];rfl
    ·rw [e,Bool.or_true];rfl
    ·rw [aG e,Bool.or_true]
  ·have hn:¬ (16:UInt8)<=UInt8.ofNat i:=by rw [UInt8.le_iff_toNat_le,dH (show i<256 by omega)];exact h16
   have hw:=ar i (by
    have:i=11\/i=12\/i=13\/i=14\/i=15:=aD
    rcases this with h | h | h | h | h
    ·exact .inl (.inr ⟨Z,.inl h⟩)
    ·exact .inl (.inr ⟨Z,.inr (.inl h)⟩)
    ·exact .inl (.inr ⟨Z,.inr (.inr h)⟩)
    ·exact .inr (.inl ⟨Z,.inl h⟩)
    ·exact .inr (.inl ⟨Z,.inr h⟩)) ha
   rw [aA hn,aK hw,aK hw]
   split <;> rfl
 | none =>
  show (rS l q).c=_;unfold rS
  split
  ·rename_i hw
   have ht:(eC q).tm=true:=by
    unfold Rq.wrd at hw;rw [aW,aW,aW] at hw;simp only [GQ h0] at hw;rcases hw with ((e | e) | e) | e
    ·exact jn 4 aS aS e
    ·exact jn 3 aS aS e
    ·exact jn 2 aS aS e
    ·exact jn 1 aS aS e
   unfold yJ;rw [aK ht];rfl
  split
  ·exact cl
  ·rfl
end
section
variable {l:Tks} {q q' q'':Ps} {w w':Str} {c r r':Rq} {k i:Nat} {n x y:Fn} {m ma b:Bool} {v u:Vl} {V:List Vl}
def Sim (l:Tks):Nt->Rq->Fn->Bool->Rq->Prop
 | .lev k,r,n,m,r'=>∀ q,q.c=r->q.rd=false->q.dn=false->Ctx l k q->(r'.er≠0/\∃ q',Rch l q q'/\q'.c=r')\/(r'.er=0/\∃ q',Rch l q q'/\Rdy k q q' n m r'/\Stop l k q')
 | .lp k a,r,n,m,r'=>∀ q q' ma,Rdy k q q' a ma r->Ctx l k q->Stop l (k+1) q'->(r'.er≠0/\∃ q'',Rch l q' q''/\q''.c=r')\/(r'.er=0/\∃ q'',Rch l q' q''/\Rdy k q q'' n (ma || m) r'/\Stop l k q'')
 | .arg f,r,n,m,r'=>∀ O V b ma f',(ma=false->f'=f)->(r'.er≠0/\∃ q',Rch l ⟨r,⟨5,0,true,0,f'⟩::O,(V,b || ma),false,false⟩ q'/\q'.c=r') \/
  (r'.er=0/\∃ v,Rch l ⟨r,⟨5,0,true,0,f'⟩::O,(V,b || ma),false,false⟩ ⟨r',O,(v::V,b || (ma || m)),true,false⟩/\v.wh=false/\((ma || m)=false->Nok v n))
 | .aft f,r,n,m,r'=>∀ q O V v b bb ma f',q.c=r->q.rd=true->q.dn=false->(eC q).tm=true->(eC (kD 7 q)).tm=true->kD 1 q=⟨r,⟨5,0,true,0,f'⟩::O,(v::V,bb),true,false⟩->(bb || !v.tm)=(b || ma)->(ma=false->f'.wEx (f'.ex++[v.e])=f)->Stop l 7 q\/(sH q.x).wh=true ->
  (r'.er≠0/\∃ q',Rch l q q'/\q'.c=r')\/(r'.er=0/\∃ v,Rch l q ⟨r',O,(v::V,b || (ma || m)),true,false⟩/\v.wh=false/\((ma || m)=false->Nok v n))
theorem cL0 {t:Bool} {op:UInt8} {f:Fm} {lv:Nat}:wT ⟨10,lv,t,op,f⟩ (v::V,b)=(tmv (.mk 9 [] 0 [v.e])::V,b || !v.tm):=rfl
theorem cQ6 {t:Bool} {op:UInt8} {f:Fm} {lv:Nat}:wT ⟨9,lv,t,op,f⟩ (v::u::V,b)=(tmv (.mk op [] 0 [u.e,v.e])::V,b || !v.tm || !u.tm):=rfl
theorem cQ7 {t:Bool} {op:UInt8} {f:Fm} {lv:Nat}:wT ⟨8,lv,t,op,f⟩ (v::u::V,b)=(fmv (.mk 3 [] [] 0 0 [.mk op [] 0 [u.e,v.e]] [])::V,b || !v.tm || !u.tm):=rfl
theorem cQ8 {t:Bool} {op:UInt8} {f:Fm} {lv:Nat}:wT ⟨7,lv,t,op,f⟩ (v::V,b)=(fmv (f.wAr [v.fm])::V,b || v.noF):=rfl
theorem cQ9 {t:Bool} {op:UInt8} {f:Fm} {lv:Nat}:wT ⟨6,lv,t,op,f⟩ (v::u::V,b)=(fmv (f.wAr [u.fm,v.fm])::V,b || v.noF || u.noF):=rfl
theorem Nok.md (f:Fm):Nok (fmv f) (mdN f):=⟨Z,λh=>(by cases h),Z,λ_=>rfl⟩
theorem Nok.vl {e:Ex} (h:¬ e.op=5\/eN e.nm=none):Nok (tmv e) (vlN e):=⟨Z,λ_=>rfl,by
 show false=!(true && (!decide (e.op=5) || (eN e.nm).isNone));rcases h with h | h
 ·rw [aL h];rfl
 ·rw [h,aO];simp,λh=>(by cases h)⟩
theorem Nok.vl' {op:UInt8} {nm:Str} {z:Int64} {es:List Ex} (h:¬ op=5):Nok (tmv (.mk op nm z es)) (vlN (.mk op nm z es)):=.vl (.inl h)
theorem bD7 {v:Vl} {x:Fn} (h:m=false->Nok v x):(m || !v.tm)=(m || !x.tm):=by
 cases m with
 | true=>rfl
 | false=>rw [(h rfl).tm]
theorem bD8 {v:Vl} {x:Fn} (h:m=false->Nok v x):(m || v.noF)=(m || !x.fm):=by
 cases m with
 | true=>rfl
 | false=>rw [(h rfl).fm,Bool.not_not]
theorem cN4 (h:ma=false->Nok u x) (k:m=false->Nok v y):(b || ma || m || v.noF || u.noF)=(b || (ma || (m || (!x.fm || !y.fm)))):=by
 cases ma with
 | true=>simp
 | false =>
  cases m with
  | true=>simp
  | false=>rw [(h rfl).fm,(k rfl).fm];cases b <;> cases v.noF <;> cases u.noF <;> rfl
theorem cC0 (h:ma=false->Nok u x) (k:m=false->Nok v y):(b || ma || m || !v.tm || !u.tm)=(b || (ma || (m || (!x.tm || !y.tm)))):=by
 cases ma with
 | true=>simp
 | false =>
  cases m with
  | true=>simp
  | false=>rw [(h rfl).tm,(k rfl).tm];cases b <;> cases y.tm <;> cases x.tm <;> rfl
theorem orF {a b:Bool} (h:(a || b)=false):a=false/\b=false:=by cases a <;> cases b <;> simp at h|-
theorem bC6 (hr:(iU v (q.at c)).c=c) (hn:Nok v n) (hw:v.wh=false) (hd:q.dn=false):Rdy k q (iU v (q.at c)) n false c :=
 ⟨Z,Z,hd,⟨[],v,Z,λp hp=>(by cases hp),by show (v::q.x.1,q.x.2)=_;rw [Bool.or_false],λ_=>hn⟩,λ_=>hw⟩
theorem UQ (hn:m=false->Nok v n) (hw:6<=k->v.wh=false):Rdy k q ⟨c,q.op,(v::q.x.1,q.x.2 || m),true,false⟩ n m c :=
 ⟨Z,Z,Z,⟨[],v,Z,λp hp=>(by cases hp),Z,hn⟩,hw⟩
theorem EI (h:9<=k):Stop l k q:=⟨λe=>by omega,λe=>by omega,λe=>by omega,λj e _ _=>by omega⟩
theorem aF2 (hk:7<=k) (h:(eC q).lv<k\/9<=k) (hf:zT q=false) (h5:(eC q).kd≠5):Ctx l k q :=
 ⟨λe=>by omega,λe=>by omega,λe=>by omega,λ_=>kY (.inl hf) λe=>absurd e h5⟩
theorem PG {o:Ov} {K:UInt8} (hk:k<=5) (hq:eC q=o) (h1:o.tm=false) (hK:o.kd=K) (h2:K≠5/\K≠8) (h4:o.lv<=5) (h5:k<=4->o.lv<k):Ctx l k q:=by
 subst hq hK;exact ⟨λ_=>⟨h1,h2.1,h2.2,h4,h5⟩,λe=>by omega,λe=>by omega,λe=>by omega⟩
theorem bB9 (hr:q.rd=false) (hd:q.dn=false) (h0:q.c.er=0) (C:Ctx l 10 q) (e:rQ l q=iU v (q.at c)) (hn:Nok v n) (hw:v.wh=false) :
 (c.er≠0/\∃ q',Rch l q q'/\q'.c=c)\/(c.er=0/\∃ q',Rch l q q'/\Rdy 10 q q' n false c/\Stop l 10 q'):=by
 have s:Rch l q (iU v (q.at c)):=.one h0 hd (by rw [uH hr,C.hop aS,e])
 by_cases hc:c.er=0
 ·exact .inr ⟨hc,_,s,bC6 Z hn hw hd,EI aS⟩
 ·exact .inl ⟨hc,_,s,Z⟩
theorem EM {o:Ov} {P:Prop} (hr:q.rd=false) (hd:q.dn=false) (h0:q.c.er=0) (e:lS l q=gD o (q.at c)) (hb:c.er≠0->P) (hg:c.er=0->Rch l q (gD o (q.at c))->P):P:=by
 by_cases hc:c.er=0
 ·exact hg hc (.one h0 hd e)
 ·exact hb hc
theorem bC8 {o:Ov}:eC (gD o q)=o.inh (eC q).tm:=rfl
theorem HW (G:Tgd l) (h0:q'.c.er=0) (hr:q'.rd=true) (hd:q'.dn=false) (S:Stop l 1 q'\/(Stop l 7 q'/\(eC q').tm=true/\(eC (kD 7 q')).tm=true))
 (cl:(nG l (kD 1 q')).c=q'.c.fail l 8):∃ q'',Rch l q' q''/\q''.c=q'.c.fail l 8 :=
 ⟨_,.one h0 hd rfl,cN2 G hr h0
  (λi hi ha=>by
   rcases S with S | ⟨S,_⟩
   ·rcases hi with hi | hi
    ·exact S.s8 aS i hi ha
    ·exact S.s7 aS i hi ha
   ·rcases hi with hi | hi
    ·exact S.s8 aS i hi ha
    ·exact S.s7 aS i hi ha)
  (λi h1 h2 ha=>by
   rcases S with S | ⟨S,_,h⟩
   ·rcases S.s6 aS i h1 h2 ha with e | e
    ·exact .inl e
    ·exact .inr (.inr e)
   ·exact .inr (.inl h))
  (λj h1 h2 ha=>by
   rcases S with S | ⟨S,h,_⟩
   ·rw [S.sj j h1 h1 h2] at ha;cases ha
   ·exact h) cl⟩
theorem SQ (h:r.ac l w=true):r.exS l w=r.nx:=by unfold Rq.exS;rw [aK h]
theorem SP (h:r.ac l w=false):r.exS l w=r.fail l 8:=by unfold Rq.exS;rw [aA (by rw [h];decide)]
theorem YB (hk:1<=k/\k<=4) (h:r.ac l (joW k)=true):r.joV l=r.jnF l k/\r.joS l=r.jnS l k/\(cK (r.jnF l k).op).lv=k/\r.wrd l=true/\r.sym l=none:=by
 have h0:=jR h;have e:k=1\/k=2\/k=3\/k=4:=aD
 rcases e with rfl | rfl | rfl | rfl
 ·replace h:r.ac l [105,109,112,108,105,101,115]=true:=h;refine ⟨?_,?_,Z,?_,WW h qS⟩
  ·unfold Rq.joV;rw [aA (nw h aS),aA (nw h aS),aA (nw h aS),aK h];rfl
  ·unfold Rq.joS;rw [aA (nw h aS),aA (nw h aS),aA (nw h aS),aK h];rfl
  ·unfold Rq.wrd;rw [show r.is l [105,109,112,108,105,101,115]=true from OM h,Bool.or_true]
 ·replace h:r.ac l [111,114]=true:=h;refine ⟨?_,?_,Z,?_,WW h qS⟩
  ·unfold Rq.joV;rw [aA (nw h aS),aA (nw h aS),aK h];rfl
  ·unfold Rq.joS;rw [aA (nw h aS),aA (nw h aS),aK h];rfl
  ·unfold Rq.wrd;rw [show r.is l [111,114]=true from OM h,Bool.or_true];rfl
 ·replace h:r.ac l [97,110,100]=true:=h;refine ⟨?_,?_,Z,?_,WW h qS⟩
  ·unfold Rq.joV;rw [aA (nw h aS),aK h];rfl
  ·unfold Rq.joS;rw [aA (nw h aS),aK h];rfl
  ·unfold Rq.wrd;rw [show r.is l [97,110,100]=true from OM h,Bool.or_true];rfl
 ·replace h:r.ac l [115,105,110,99,101]=true:=h;refine ⟨?_,?_,Z,?_,WW h qS⟩
  ·unfold Rq.joV;rw [aK h];rfl
  ·unfold Rq.joS;rw [aK h];rfl
  ·unfold Rq.wrd;rw [show r.is l [115,105,110,99,101]=true from OM h];rfl
theorem aP3 (D:Rdy k q q' n ma r) (hk:1<=k/\k<=4) (C:Ctx l k q) (h:r.ac l (joW k)=true):∃ v,lS l q'=⟨r.jnS l k,⟨6,k,false,0,r.jnF l k⟩::q.op,(v::q.x.1,q.x.2 || ma),false,false⟩/\(ma=false->Nok v n):=by
 obtain ⟨e1,e2,e3,e4,e5⟩:=YB hk h;obtain ⟨c1,c2,c3,c4,c5⟩:=C.lo aD;obtain ⟨v,hv,hn⟩:=D.red (c5 hk.2);refine ⟨v,?_,hn⟩;rw [AC D.rd];unfold gB;rw [D.c,e5];show rS l q'=_;unfold rS;rw [D.c,aK e4];unfold yJ;rw [aA (by rw [D.top,c1];decide),D.c,e1,e2,e3];have:kD k (q'.at (r.jnS l k))=(kD k q').at (r.jnS l k):=rfl;rw [this,hv];show (⟨r.jnS l k,Ov.inh ⟨6,k,false,0,r.jnF l k⟩ (eC q).tm::q.op,_,false,false⟩:Ps)=_;rw [c1];unfold Ov.inh;rw [aK (show 0<k by omega)];rfl
theorem bA5 (D:Rdy k q q' n ma r) (hk:KE k i) (C:Ctx l k q) (h:r.ac l (nE.getD i [])=true):∃ v,lS l q'=⟨r.nx,⟨9,k,(eC q).tm,UInt8.ofNat i,zF⟩::q.op,(v::q.x.1,q.x.2 || ma),false,false⟩/\(ma=false->Nok v n):=by
 have hk7:(k=7\/k=8)/\11<=i/\i<=15:=by
  rcases hk with ⟨rfl,e⟩ | ⟨rfl,e⟩
  ·exact ⟨.inl rfl,aD⟩
  ·exact ⟨.inr rfl,aD⟩
 obtain ⟨v,hv,hn⟩:=D.red (C.mid hk7.1);have hw:=D.wh aD;refine ⟨v,?_,hn⟩;rw [AC D.rd];unfold gB;rw [D.c,YE hk7.2.1 aD h];show sL l (UInt8.ofNat i) q'=_;unfold sL;rw [hw,D.c];rcases hk with ⟨rfl,e⟩ | ⟨rfl,e⟩
 ·have e1:¬ (16:UInt8)<=UInt8.ofNat i:=by rcases e with rfl | rfl <;> decide
  have e2:¬ UInt8.ofNat i<=13:=by rcases e with rfl | rfl <;> decide
  rw [aA e1,aA e2,aA aS,hv];rfl
 ·have e1:¬ (16:UInt8)<=UInt8.ofNat i:=by rcases e with rfl | rfl | rfl <;> decide
  have e2:UInt8.ofNat i<=13:=by rcases e with rfl | rfl | rfl <;> decide
  rw [aA e1,aK e2,aA aS,hv];rfl
theorem bA4 (D:Rdy 7 q q' n ma r) (hi:16<=i/\i<=21) (C:Ctx l 6 q) (h:r.ac l (nE.getD i [])=true):∃ v,lS l q'=⟨r.nx,⟨8,6,false,UInt8.ofNat i,zF⟩::q.op,(v::q.x.1,q.x.2 || ma),false,false⟩/\(ma=false->Nok v n):=by
 obtain ⟨c1,c2,c3⟩:=C.c6 rfl;obtain ⟨v,hv,hn⟩:=D.red c3;have hw:=D.wh aD;refine ⟨v,?_,hn⟩;rw [AC D.rd];unfold gB;rw [D.c,YE aD hi.2 h];show sL l (UInt8.ofNat i) q'=_;unfold sL;have e1:(16:UInt8)<=UInt8.ofNat i:=by rw [UInt8.le_iff_toNat_le,dH (show i<256 by omega)];exact hi.1
 rw [hw,D.c,aK e1,hv]
 have e2:(false || (eC (⟨r,q.op,(v::q.x.1,q.x.2 || ma),true,false⟩:Ps)).tm || decide ((eC (⟨r,q.op,(v::q.x.1,q.x.2 || ma),true,false⟩:Ps)).kd=8))=false:=by
  show (false || (eC q).tm || decide ((eC q).kd=8))=false;rw [c1,aL c2];rfl
 rw [aA (by rw [e2];decide)];show (⟨r.nx,Ov.inh ⟨8,6,false,UInt8.ofNat i,zF⟩ (eC q).tm::q.op,_,false,false⟩:Ps)=_;rw [c1];rfl
end
section
variable {l:Tks} {q q' q'':Ps} {w w':Str} {c r r' r1 r2:Rq} {k i:Nat} {n x y a:Fn} {m m' ma b:Bool} {v u:Vl} {V:List Vl}
theorem bS7 (hk:(1<=k/\k<=4)\/k=7\/k=8) (h2:Gd l (.lp k x) r1 n m' r2) (i1:r.er=0->Sim l (.lev (k+1)) r x m r1) (i2:r1.er=0->Sim l (.lp k x) r1 n m' r2) (h0:r.er=0):Sim l (.lev k) r n (m || m') r2:=by
 intro q hc hr hd C
 have C1:Ctx l (k+1) q:=⟨λe=>by
  obtain ⟨a,b,c,d,f⟩:=C.lo aD;exact ⟨a,b,c,d,λg=>by have:=f aD;omega⟩,λe=>by omega,λe=>by have:=C.mid aD;omega,λe=>C.hop aD⟩
 rcases i1 h0 q hc hr hd C1 with ⟨e,q1,R,hc1⟩ | ⟨e,q1,R,D,S⟩
 ·have:=DG h2 e;subst this;exact .inl ⟨e,q1,R,hc1⟩
 ·rcases i2 e q q1 m (D.mono aD aD) C S with ⟨e',q2,R2,c2⟩ | ⟨e',q2,R2,D2,S2⟩
  ·exact .inl ⟨e',q2,R.trans R2,c2⟩
  ·exact .inr ⟨e',q2,R.trans R2,D2,S2⟩
theorem bB7 (hk:1<=k/\k<=4) (h:r.ac l (joW k)=false) (h0:r.er=0):Sim l (.lp k a) r a false r:=by
 intro q q' ma D C S;refine .inr ⟨h0,q',.refl,by rw [Bool.or_false];exact D,λ_=>S.s8 aD,λ_=>S.s7 aD,λ_=>S.s6 aD,λj h1 h2 h3=>?_⟩
 by_cases e:j=k
 ·rw [e,D.c];exact h
 ·exact S.sj j aD h2 h3
theorem bB8 (hk:k=7\/k=8) (h:∀ i,KE k i->r.ac l (nE.getD i [])=false) (h0:r.er=0):Sim l (.lp k a) r a false r:=by
 intro q q' ma D C S
 have z:∀ i,KE k i->q'.c.ac l (nE.getD i [])=true->(sH q'.x).wh=true:=λi hi ha=>by
  rw [D.c,h i hi] at ha;cases ha
 refine .inr ⟨h0,q',.refl,by rw [Bool.or_false];exact D,λ_=>?_,λe=>?_,λe=>by omega,λj h1 h2 h3=>by omega⟩
 ·rcases hk with rfl | rfl
  ·exact S.s8 aS
  ·exact z
 ·rcases hk with rfl | rfl
  ·exact z
  ·omega
theorem bC0 (hk:1<=k/\k<=4) (h:r.ac l (joW k)=true) (h1:Gd l (.lev (k+1)) (r.jnS l k) y m r1) (h2:Gd l (.lp k (mdN ((r.jnF l k).wAr [a.f,y.f]))) r1 n m' r2)
 (i1:(r.jnS l k).er=0->Sim l (.lev (k+1)) (r.jnS l k) y m r1) (i2:r1.er=0->Sim l (.lp k (mdN ((r.jnF l k).wAr [a.f,y.f]))) r1 n m' r2):Sim l (.lp k a) r n ((m || (!a.fm || !y.fm)) || m') r2:=by
 intro q q' ma D C S;obtain ⟨va,hs,hn⟩:=aP3 D hk C h;obtain ⟨c1,c2,c3,c4,c5⟩:=C.lo aD;have R:=Rch.one (by rw [D.c];exact jR h) D.dn hs
 by_cases hj:(r.jnS l k).er=0
 ·have C2:Ctx l (k+1) ⟨r.jnS l k,⟨6,k,false,0,r.jnF l k⟩::q.op,(va::q.x.1,q.x.2 || ma),false,false⟩:=PG (K:=6) aD rfl rfl rfl aS (show k<=5 by omega) (λ_=>dF k);rcases i1 hj _ rfl rfl rfl C2 with ⟨e,q3,R3,c3⟩ | ⟨e,q3,R3,D3,S3⟩
  ·have:=DG h2 e;subst this;exact .inl ⟨e,q3,R.trans R3,c3⟩
  ·have D4:Rdy k q q3 (mdN ((r.jnF l k).wAr [a.f,y.f])) (ma || (m || (!a.fm || !y.fm))) r1:=by
    refine D3.up rfl (aY k) (Nat.le_succ k) c1.symm (λv hv=>⟨_,cQ9.trans (Prod.ext rfl (cN4 hn hv)),λhm=>?_⟩) (λe=>by omega);have hm1:=orF hm;have hm2:=orF hm1.2;have hm3:=orF hm2.2;have hv':=hv hm2.1;have hn':=hn hm1.1;rw [hn'.f (by simpa using hm3.1),hv'.f (by simpa using hm3.2)];exact .md _
   rcases i2 e q q3 _ D4 C S3 with ⟨e',q4,R4,c4⟩ | ⟨e',q4,R4,D5,S5⟩
   ·exact .inl ⟨e',q4,(R.trans R3).trans R4,c4⟩
   ·exact .inr ⟨e',q4,(R.trans R3).trans R4,by rw [Bool.or_assoc] at D5;exact D5,S5⟩
 ·have:=DG h1 hj;subst this;have:=DG h2 hj;subst this;exact .inl ⟨hj,_,R,Z⟩
theorem bT8 (hk:KE k i) (h:r.ac l (nE.getD i [])=true) (h2:Gd l (.lp k (vlN (opB i [a.e,y.e]))) r1 n m' r2) (i1:r.nx.er=0->Sim l (.lev (k+1)) r.nx y m r1) (i2:r1.er=0->Sim l (.lp k (vlN (opB i [a.e,y.e]))) r1 n m' r2) :
 Sim l (.lp k a) r n ((m || (!a.tm || !y.tm)) || m') r2:=by
 intro q q' ma D C S
 have hk7:(k=7\/k=8)/\11<=i/\i<=15:=by
  rcases hk with ⟨rfl,e⟩ | ⟨rfl,e⟩
  ·exact ⟨.inl rfl,aD⟩
  ·exact ⟨.inr rfl,aD⟩
 obtain ⟨va,hs,hn⟩:=bA5 D hk C h;have R:=Rch.one (by rw [D.c];exact jR h) D.dn hs;have C2:Ctx l (k+1) ⟨r.nx,⟨9,k,(eC q).tm,UInt8.ofNat i,zF⟩::q.op,(va::q.x.1,q.x.2 || ma),false,false⟩:=aF2 aD (.inl (dF k)) (aE3 (by show 5<k;omega)) (by show (9:UInt8)≠5;decide);rcases i1 (show r.nx.er=0 from (jR h:r.er=0)) _ rfl rfl rfl C2 with ⟨e,q3,R3,c3⟩ | ⟨e,q3,R3,D3,S3⟩
 ·have:=DG h2 e;subst this;exact .inl ⟨e,q3,R.trans R3,c3⟩
 ·have hop:¬ UInt8.ofNat i=5:=by
   intro e;have:=congrArg UInt8.toNat e;rw [dH (show i<256 by omega)] at this;have h5:(5:UInt8).toNat=5:=rfl;omega
  have D4:Rdy k q q3 (vlN (opB i [a.e,y.e])) (ma || (m || (!a.tm || !y.tm))) r1:=by
   refine D3.up rfl (aY k) (Nat.le_succ k) rfl (λv hv=>⟨_,cQ6.trans (Prod.ext rfl (cC0 hn hv)),λhm=>?_⟩) (λe=>D3.wh aD);have hm1:=orF hm;have hm2:=orF hm1.2;have hm3:=orF hm2.2;rw [(hn hm1.1).e (by simpa using hm3.1),(hv hm2.1).e (by simpa using hm3.2)];exact .vl' hop
  rcases i2 e q q3 _ D4 C S3 with ⟨e',q4,R4,c4⟩ | ⟨e',q4,R4,D5,S5⟩
  ·exact .inl ⟨e',q4,(R.trans R3).trans R4,c4⟩
  ·exact .inr ⟨e',q4,(R.trans R3).trans R4,by rw [Bool.or_assoc] at D5;exact D5,S5⟩
theorem bS9 {op:UInt8} (hp:(w,op)∈LN) (h:r.ac l w=true) (h1:Gd l (.lev 5) (r.prS l op) x m r1) (i1:(r.prS l op).er=0->Sim l (.lev 5) (r.prS l op) x m r1):Sim l (.lev 5) r (mdN ((r.prF l op).wAr [x.f])) (m || !x.fm) r1:=by
 intro q hc hr hd C;subst hc;obtain ⟨c1,c2,c3,c4,c5⟩:=C.lo aD;have st:=XN hr (bI6 c1 c4) (BJ h hp);refine EM (c:=q.c.prS l op) hr hd (jR h) st (λhj=>?_) λhj R=>?_
 ·have:=DG h1 hj;subst this;exact .inl ⟨hj,_,.one (jR h) hd st,Z⟩
 ·have ht:eC (gD ⟨7,5,false,0,q.c.prF l op⟩ (q.at (q.c.prS l op)))=⟨7,5,false,0,q.c.prF l op⟩:=by
   rw [bC8];show Ov.inh _ (eC q).tm=_;rw [c1];rfl
  have C2:Ctx l 5 (gD ⟨7,5,false,0,q.c.prF l op⟩ (q.at (q.c.prS l op))):=PG (K:=7) aS ht rfl rfl aS (aY 5) (λe=>by omega);rcases i1 hj (gD ⟨7,5,false,0,q.c.prF l op⟩ (q.at (q.c.prS l op))) rfl rfl hd C2 with ⟨e,q3,R3,c3⟩ | ⟨e,q3,R3,D3,S3⟩
  ·exact .inl ⟨e,q3,R.trans R3,c3⟩
  ·refine .inr ⟨e,q3,R.trans R3,?_,S3⟩;refine D3.up (o:=⟨7,5,false,0,q.c.prF l op⟩) (by show Ov.inh _ (eC q).tm::q.op=_;rw [c1];rfl) (aY 5) (aY 5) c1.symm (λv hv=>⟨_,cQ8.trans (Prod.ext rfl ?_),λhm=>?_⟩) (λe=>by omega)
   ·show ((q.x.2 || m) || v.noF)=(q.x.2 || (m || !x.fm));rw [Bool.or_assoc,bD8 hv]
   ·have hm2:=orF hm;rw [(hv hm2.1).f (by simpa using hm2.2)];exact .md _
end
section
variable {l:Tks} {q q' q'':Ps} {w w':Str} {c r r' r1 r2:Rq} {k i:Nat} {n x y a:Fn} {m m' ma b:Bool} {v u:Vl} {V:List Vl} {f:Fm}
theorem aM7 {o:Ov} (ht:eC q=o) (hk:o.kd=2) (h:q.c.ac l [41]=true):nG l q=II q.c.nx ⟨(sH q.x).tm,false,(sH q.x).e,(sH q.x).f⟩ (q.x.1.tail,q.x.2) q:=by
 subst ht;unfold nG;rw [aA (λe=>by rw [hk] at e;exact absurd e.1 aS),aK ⟨hk,h⟩]
theorem aN0 {o:Ov} (ht:eC q=o) (hk:o.kd=3) (h:q.c.ac l [41]=true):nG l q=II ((q.c.nx.exS l [62,61]).nbS l) ⟨false,true,zE,((eC q).f.wEx [.mk 1 [] ((q.c.nx.exS l [62,61]).nbV l) []]).wAr [fF q.x]⟩ (fS q.x) q:=by
 subst ht;unfold nG;rw [aA (λe=>by rw [hk] at e;exact absurd e.1 aS),aA (λe=>by rw [hk] at e;exact absurd e.1 aS),aK ⟨hk,h⟩]
theorem aM9 {o:Ov} (ht:eC q=o) (hk:o.kd=4) (ho:o.op=6) (h:q.c.ac l [93]=true):nG l q=II q.c.nx (tmv (.mk 6 o.f.nm 0 [tE q.x])) (tS q.x) q:=by
 subst ht;unfold nG;rw [aA (λe=>by rw [hk] at e;exact absurd e.1 aS),aA (λe=>by rw [hk] at e;exact absurd e.1 aS),aA (λe=>by rw [hk] at e;exact absurd e.1 aS),aK ⟨hk,h⟩,aK ho]
theorem aM8 {o:Ov} (ht:eC q=o) (hk:o.kd=4) (ho:¬ o.op=6) (h:q.c.ac l [93]=true):nG l q=II q.c.nx (fmv (o.f.wEx [tE q.x])) (tS q.x) q:=by
 subst ht;unfold nG;rw [aA (λe=>by rw [hk] at e;exact absurd e.1 aS),aA (λe=>by rw [hk] at e;exact absurd e.1 aS),aA (λe=>by rw [hk] at e;exact absurd e.1 aS),aK ⟨hk,h⟩,aA ho]
theorem IJ {o:Ov} (ht:eC q=o) (hk:o.kd=5) (h:q.c.ac l [44]=true):nG l q=⟨q.c.nx,⟨o.kd,o.lv,o.tm,o.op,o.f.wEx (o.f.ex++[tE q.x])⟩::q.op.tail,tS q.x,false,q.dn⟩:=by
 subst ht;unfold nG;rw [aA (λe=>by rw [hk] at e;exact absurd e.1 aS),aA (λe=>by rw [hk] at e;exact absurd e.1 aS),aA (λe=>by rw [hk] at e;exact absurd e.1 aS),aA (λe=>by rw [hk] at e;exact absurd e.1 aS),aK ⟨hk,h⟩]
theorem IK {o:Ov} (ht:eC q=o) (hk:o.kd=5) (h:q.c.ac l [41]=true):nG l q=II q.c.nx (fmv (o.f.wEx (o.f.ex++[tE q.x]))) (tS q.x) q:=by
 subst ht;unfold nG;rw [aA (λe=>by rw [hk] at e;exact absurd e.1 aS),aA (λe=>by rw [hk] at e;exact absurd e.1 aS),aA (λe=>by rw [hk] at e;exact absurd e.1 aS),aA (λe=>by rw [hk] at e;exact absurd e.1 aS),aA (λe=>absurd e.2 (nw h aS)),aK ⟨hk,h⟩]
theorem NW (D:Rdy k q q' n ma r) (hk:1<=k) (ht:(eC q).lv=0):∃ v,kD 1 q'=⟨r,q.op,(v::q.x.1,q.x.2 || ma),true,false⟩/\(ma=false->Nok v n):=(D.mono hk (λe=>by omega)).red (by rw [ht];decide)
theorem UF (D:Rdy 7 q q' n ma r) (ht:(eC q).lv<7):eC (kD 7 q')=eC q:=by
 obtain ⟨v,e,_⟩:=D.red ht;rw [e];rfl
theorem bK6 (G:Tgd l) {o:Ov} (D:Rdy 1 q q' n m r) (S:Stop l 1 q') (h0:r.er=0) (ht:eC q=o) (hl:o.lv=0) (hk:o.kd=2\/o.kd=3) (h:r.ac l [41]=false):∃ q'',Rch l q' q''/\q''.c=r.fail l 8:=by
 obtain ⟨v,e,_⟩:=NW D (aY 1) (by rw [ht];exact hl);have t2:eC (kD 1 q')=o:=by rw [e];exact ht
 have:=HW G (by rw [D.c];exact h0) D.rd D.dn (.inl S) (by
  rw [DP (by rw [t2];rcases hk with hk | hk <;> rw [hk] <;> intro e <;> exact absurd e aS) (λ_=>by rw [show (kD 1 q').c=r from D.c];exact h) (by rw [t2];rcases hk with hk | hk <;> rw [hk] <;> intro e <;> exact absurd e aS) (by rw [t2];rcases hk with hk | hk <;> rw [hk] <;> intro e <;> exact absurd e aS)];rfl)
 rw [D.c] at this;exact this
theorem cK6 (G:Tgd l) {o:Ov} (D:Rdy 7 q q' n m r) (S:Stop l 7 q') (h0:r.er=0) (ht:eC q=o) (hl:o.lv=0) (htm:o.tm=true) (hk:o.kd=4) (h:r.ac l [93]=false):∃ q'',Rch l q' q''/\q''.c=r.fail l 8:=by
 obtain ⟨v,e,_⟩:=NW D aS (by rw [ht];exact hl);have t2:eC (kD 1 q')=o:=by rw [e];exact ht
 have:=HW G (by rw [D.c];exact h0) D.rd D.dn (.inr ⟨S,by rw [D.top,ht];exact htm,by rw [UF D (by rw [ht,hl];decide),ht];exact htm⟩) (by
  rw [DP (by rw [t2,hk];intro e;exact absurd e aS) (by rw [t2,hk];intro e;exact absurd e aS) (λ_=>by rw [show (kD 1 q').c=r from D.c];exact h) (by rw [t2,hk];intro e;exact absurd e aS)];rfl)
 rw [D.c] at this;exact this
theorem bT4 (G:Tgd l) (h:r.ac l [99,111,117,110,116]=true) (h1:Gd l (.lev 1) ((r.nx.amS l).exS l [40]) x m r1) (i1:((r.nx.amS l).exS l [40]).er=0->Sim l (.lev 1) ((r.nx.amS l).exS l [40]) x m r1) :
 Sim l (.lev 5) r (mdN (((r.nx.amV l 18).wEx [.mk 1 [] (((r1.exS l [41]).exS l [62,61]).nbV l) []]).wAr [x.f])) (m || !x.fm) (((r1.exS l [41]).exS l [62,61]).nbS l):=by
 intro q hc hr hd C;subst hc;obtain ⟨c1,c2,c3,c4,c5⟩:=C.lo aD;have st:=XN hr (bI6 c1 c4) (XK h);have bad {z:Rq} (e:z.er≠0):((z.exS l [41]).exS l [62,61]).nbS l=z:=((Mq.exS.trans .exS).trans .nbS).er e;refine EM (c:=(q.c.nx.amS l).exS l [40]) hr hd (jR h) st (λhj=>?_) λhj R=>?_
 ·have:=DG h1 hj;subst this;rw [bad hj];exact .inl ⟨hj,_,.one (jR h) hd st,Z⟩
 ·have C2:Ctx l 1 (gD ⟨3,0,false,0,q.c.nx.amV l 18⟩ (q.at ((q.c.nx.amS l).exS l [40]))):=PG (o:=⟨3,0,false,0,q.c.nx.amV l 18⟩) (K:=3) aS rfl rfl rfl aS (show (0:Nat)<=5 by decide) (λ_=>(show (0:Nat)<1 by decide));rcases i1 hj (gD ⟨3,0,false,0,q.c.nx.amV l 18⟩ (q.at ((q.c.nx.amS l).exS l [40]))) rfl rfl hd C2 with ⟨e,q3,R3,c3⟩ | ⟨e,q3,R3,D3,S3⟩
  ·rw [bad e];exact .inl ⟨e,q3,R.trans R3,c3⟩
  ·cases ha:r1.ac l [41] with
   | false =>
    obtain ⟨q4,R4,c4⟩:=bK6 G D3 S3 e rfl rfl (.inr Z) ha;have hf:(r1.exS l [41]).er≠0:=by rw [SP ha];exact vW aS
    have e2:((r1.exS l [41]).exS l [62,61]).nbS l=r1.fail l 8:=by
     rw [<-SP ha];exact (Mq.trans .exS .nbS).er hf
    rw [e2];exact .inl ⟨vW aS,q4,(R.trans R3).trans R4,c4⟩
   | true =>
    obtain ⟨v,ev,hn⟩:=NW D3 (aY 1) rfl;have s4:lS l q3=_:=HN D3.rd (by rw [D3.c];exact ha) (.inl Z);rw [ev,aN0 (o:=⟨3,0,false,0,q.c.nx.amV l 18⟩) rfl rfl ha] at s4;have R4:=(R.trans R3).trans (.one (by rw [D3.c];exact e) D3.dn s4);rw [SQ ha]
    by_cases hz:((r1.nx.exS l [62,61]).nbS l).er=0
    ·refine .inr ⟨hz,_,R4,⟨Z,Z,Z,⟨[],_,Z,λp hp=>(by cases hp),Prod.ext Z ?_,λhm=>?_⟩,λe=>by omega⟩,⟨λ_ i _ _=>rfl,λ_ i _ _=>rfl,λ_ i _ _ _=>.inl Z,λj e _ _=>by omega⟩⟩
     ·show ((q.x.2 || m) || v.noF)=(q.x.2 || (m || !x.fm));rw [Bool.or_assoc,bD8 hn]
     ·have hm2:=orF hm;have hf:fF (v::q.x.1,q.x.2 || m)=x.f:=(hn hm2.1).f (by simpa using hm2.2);refine ⟨Z,λh=>(by cases h),Z,λ_=>?_⟩;show ((q.c.nx.amV l 18).wEx _).wAr [fF (v::q.x.1,q.x.2 || m)]=_;rw [hf];rfl
    ·exact .inl ⟨hz,_,R4,Z⟩
theorem bC1 (hp:∀ w op,(w,op)∈LN->r.ac l w=false) (hc:r.ac l [99,111,117,110,116]=false) (i1:Sim l (.lev 6) r x m r1):Sim l (.lev 5) r x m r1:=by
 intro q hq hr hd C;subst hq;obtain ⟨c1,c2,c3,c4,c5⟩:=C.lo aD;have C2:Ctx l 6 q:=⟨λe=>by omega,λ_=>⟨c1,c3,aD⟩,λe=>by omega,λ_=>kY (.inr (aK2 hp hc)) λe=>absurd e c2⟩;rcases i1 q rfl hr hd C2 with ⟨e,q3,R3,c3⟩ | ⟨e,q3,R3,D3,S3⟩
 ·exact .inl ⟨e,q3,R3,c3⟩
 ·exact .inr ⟨e,q3,R3,D3.mono aS (λe=>by omega),⟨λ_=>S3.s8 aS,λ_=>S3.s7 aS,λ_=>S3.s6 aS,λj e h1 h2=>by omega⟩⟩
theorem Ctx.to7 (C:Ctx l 6 q):Ctx l 7 q:=⟨λe=>by omega,λe=>by omega,λ_=>(C.c6 rfl).2.2,λ_=>C.hop aS⟩
theorem bT6 (h:∀ i,16<=i->i<=21->r1.ac l (nE.getD i [])=false) (i1:Sim l (.lev 7) r x m r1):Sim l (.lev 6) r x m r1:=by
 intro q hq hr hd C;rcases i1 q hq hr hd C.to7 with ⟨e,q3,R3,c3⟩ | ⟨e,q3,R3,D3,S3⟩
 ·exact .inl ⟨e,q3,R3,c3⟩
 ·exact .inr ⟨e,q3,R3,D3.mono aS (λ_=>by decide),⟨λ_=>S3.s8 aS,λ_=>S3.s7 aS,λ_ i h1 h2 ha=>(by rw [D3.c,h i h1 h2] at ha;cases ha),λj e h1 h2=>by omega⟩⟩
theorem bT5 (hi:16<=i/\i<=21) (h:r1.ac l (nE.getD i [])=true) (i1:Sim l (.lev 7) r x m r1) (i2:r1.nx.er=0->Sim l (.lev 7) r1.nx y m' r2) :
 Sim l (.lev 6) r (mdN (.mk 3 [] [] 0 0 [opB i [x.e,y.e]] [])) ((m || m') || (!x.tm || !y.tm)) r2:=by
 intro q hq hr hd C;obtain ⟨c1,c2,c3⟩:=C.c6 rfl;rcases i1 q hq hr hd C.to7 with ⟨e,q3,R3,c3⟩ | ⟨e,q3,R3,D3,S3⟩
 ·exact absurd (jR h) e
 ·obtain ⟨va,hs,hn⟩:=bA4 D3 hi C h;have R:=R3.trans (.one (by rw [D3.c];exact e) D3.dn hs);have C2:Ctx l 7 ⟨r1.nx,⟨8,6,false,UInt8.ofNat i,zF⟩::q.op,(va::q.x.1,q.x.2 || m),false,false⟩:=aF2 aS (.inl (by show 6<7;decide)) (aE3 (by show 5<6;decide)) (by show (8:UInt8)≠5;decide);rcases i2 e _ rfl rfl rfl C2 with ⟨e',q4,R4,c4⟩ | ⟨e',q4,R4,D4,S4⟩
  ·exact .inl ⟨e',q4,R.trans R4,c4⟩
  ·refine .inr ⟨e',q4,R.trans R4,?_,⟨λ_=>S4.s8 aS,λ_=>S4.s7 aS,λ_ i h1 h2 ha=>.inr ?_,λj e h1 h2=>by omega⟩⟩
   ·refine D4.up rfl (aY 6) aS c1.symm (λv hv=>⟨_,cQ7.trans (Prod.ext rfl ?_),λhm=>?_⟩) (λe=>D4.wh aS)
    ·rw [cC0 hn hv,Bool.or_assoc]
    ·rw [Bool.or_assoc] at hm;have hm1:=orF hm;have hm2:=orF hm1.2;have hm3:=orF hm2.2;rw [(hn hm1.1).e (by simpa using hm3.1),(hv hm2.1).e (by simpa using hm3.2)];exact .md _
   ·rw [UF D4 (by show 6<7;decide)];rfl
theorem bT1 (h:r.ac l [45]=true) (i1:r.nx.er=0->Sim l (.lev 9) r.nx x m r1):Sim l (.lev 9) r (vlN (.mk 9 [] 0 [x.e])) (m || !x.tm) r1:=by
 intro q hq hr hd C;subst hq;have st:lS l q=gD ⟨10,9,false,0,zF⟩ (q.at q.c.nx):=by rw [uH hr,C.hop aS,UM h]
 have R:=Rch.one (jR h) hd st;have C2:Ctx l 9 (gD ⟨10,9,false,0,zF⟩ (q.at q.c.nx)):=aF2 aS (.inr (aY 9)) (aE3 (by show 5<9;decide)) (by show (10:UInt8)≠5;decide);rcases i1 (jR h:q.c.er=0) (gD ⟨10,9,false,0,zF⟩ (q.at q.c.nx)) rfl rfl hd C2 with ⟨e,q3,R3,c3⟩ | ⟨e,q3,R3,D3,S3⟩
 ·exact .inl ⟨e,q3,R.trans R3,c3⟩
 ·refine .inr ⟨e,q3,R.trans R3,?_,EI aS⟩;refine D3.up (o:=⟨10,9,(eC q).tm,0,zF⟩) rfl (aY 9) (aY 9) rfl (λv hv=>⟨_,cL0.trans (Prod.ext rfl ?_),λhm=>?_⟩) (λe=>D3.wh aS)
  ·show ((q.x.2 || m) || !v.tm)=(q.x.2 || (m || !x.tm));rw [Bool.or_assoc,bD7 hv]
  ·have hm2:=orF hm;rw [(hv hm2.1).e (by simpa using hm2.2)];exact .vl' aS
theorem bS8 (i1:Sim l (.lev 10) r x m r1):Sim l (.lev 9) r x m r1:=by
 intro q hq hr hd C;have C2:Ctx l 10 q:=⟨λe=>by omega,λe=>by omega,λe=>by omega,λ_=>C.hop aS⟩;rcases i1 q hq hr hd C2 with ⟨e,q3,R3,c3⟩ | ⟨e,q3,R3,D3,S3⟩
 ·exact .inl ⟨e,q3,R3,c3⟩
 ·exact .inr ⟨e,q3,R3,D3.mono aS (λ_=>by decide),EI aS⟩
end
theorem aB6 {a b:Str} (h:eN a=none):eN (a++[46]++b)=some (a,b):=by
 induction a with
 | nil=>rfl
 | cons c r ih =>
  rw [eN] at h
  by_cases hc:c=46
  ·rw [aK hc] at h;cases h
  ·rw [aA hc] at h;have h2:eN r=none:=zA.1 h;show eN (c::(r++[46]++b))=_;rw [eN,aA hc,ih h2];rfl
section
variable {l:Tks} {q q' q'':Ps} {w w':Str} {c r r' r1 r2:Rq} {k i:Nat} {n x y a:Fn} {m m' ma b:Bool} {v u:Vl} {V:List Vl} {f:Fm}
theorem cQ3 {o:Ov} (hq:eC q=o) (h1:o.lv=0) (h2:o.tm=true) (h5:o.kd=5->q.c.ac l [95]=false):Ctx l 7 q:=by
 subst hq;exact ⟨λe=>by omega,λe=>by omega,λ_=>by omega,λ_=>kY (.inl (cJ3 h2)) h5⟩
theorem aJ8 (G:Tgd l) {o:Ov} {N:Fn} {F:Ex->Vl} (hr:q.rd=false) (hd:q.dn=false) (h0:q.c.er=0) (st:lS l q=gD o (q.at c)) (hl:o.lv=0) (htm:o.tm=true) (hk:o.kd=4)
 (h1:Gd l (.lev 7) c x m r1) (i1:c.er=0->Sim l (.lev 7) c x m r1) (hF:∀ v:Vl,(F v.e).wh=false) (hN:(m || !x.tm)=false->Nok (F x.e) N)
 (hc:∀ q:Ps,eC q=o->q.c.ac l [93]=true->nG l q=II q.c.nx (F (tE q.x)) (tS q.x) q):((r1.exS l [93]).er≠0/\∃ q',Rch l q q'/\q'.c=r1.exS l [93])\/((r1.exS l [93]).er=0/\∃ q',Rch l q q'/\Rdy 10 q q' N (m || !x.tm) (r1.exS l [93])/\Stop l 10 q'):=by
 have inh:o.inh (eC q).tm=o:=by unfold Ov.inh;rw [aA aD]
 refine EM hr hd h0 st (λhj=>?_) λhj R=>?_
 ·have:=DG h1 hj;subst this;rw [VH hj];exact .inl ⟨hj,_,.one h0 hd st,Z⟩
 ·have ht:eC (gD o (q.at c))=o:=inh;have hop:(gD o (q.at c)).op=o::q.op:=by show Ov.inh _ _::_=_;rw [show eC (q.at c)=eC q from rfl,inh];rfl
  rcases i1 hj (gD o (q.at c)) rfl rfl hd (cQ3 ht hl htm λe=>by rw [hk] at e;exact absurd e aS) with ⟨e,q3,R3,c3⟩ | ⟨e,q3,R3,D3,S3⟩
  ·rw [VH e];exact .inl ⟨e,q3,R.trans R3,c3⟩
  ·cases ha:r1.ac l [93] with
   | false =>
    obtain ⟨q4,R4,c4⟩:=cK6 G D3 S3 e ht hl htm hk ha;rw [SP ha];exact .inl ⟨vW aS,q4,(R.trans R3).trans R4,c4⟩
   | true =>
    obtain ⟨v,ev,hn⟩:=NW D3 aS (by rw [ht];exact hl);have s4:lS l q3=_:=HN D3.rd (by rw [D3.c];exact ha) (.inr (.inl Z));rw [ev,hop,hc _ rfl ha] at s4;rw [SQ ha];refine .inr ⟨e,_,(R.trans R3).trans (.one (by rw [D3.c];exact e) D3.dn s4),?_,EI aS⟩;have e2:(tS (v::q.x.1,q.x.2 || m))=(q.x.1,q.x.2 || (m || !x.tm)):=Prod.ext rfl (by show ((q.x.2 || m) || !v.tm)=_;rw [Bool.or_assoc,bD7 hn]);show Rdy 10 q ⟨r1.nx,q.op,((tS (v::q.x.1,q.x.2 || m)).put (F v.e)),true,false⟩ N _ _;rw [e2];refine UQ (λhm=>?_) λ_=>hF v;have hm2:=orF hm;rw [(hn hm2.1).e (by simpa using hm2.2)];exact hN hm
theorem bT2 (G:Tgd l) (h:r.ac l [104,97,115]=true) (h1:Gd l (.lev 7) ((r.nx.paS l).exS l [91]) x m r1) (i1:((r.nx.paS l).exS l [91]).er=0->Sim l (.lev 7) ((r.nx.paS l).exS l [91]) x m r1) :
 Sim l (.lev 10) r (mdN ((r.nx.paV l 5).wEx [x.e])) (m || !x.tm) (r1.exS l [93]):=by
 intro q hq hr hd C;subst hq
 exact aJ8 G (o:=⟨4,0,true,0,q.c.nx.paV l 5⟩) (F:=λe=>fmv ((q.c.nx.paV l 5).wEx [e])) hr hd (jR h) (by rw [uH hr,C.hop aS,UN h]) rfl rfl rfl h1 i1 (λ_=>rfl) (λ_=>.md _)
  (λq ht ha=>aM8 ht rfl (by show ¬ (0:UInt8)=6;decide) ha)
theorem bT3 (G:Tgd l) (h0:r.er=0) (hk:(tkf l r.i).k=1) (hd':r.nx.ac l [46]=true) (hb:(r.nx.nx.nmS l).ac l [91]=true) (h1:Gd l (.lev 7) (r.nx.nx.nmS l).nx x m r1) (i1:(r.nx.nx.nmS l).nx.er=0->Sim l (.lev 7) (r.nx.nx.nmS l).nx x m r1) :
 Sim l (.lev 10) r (vlN (.mk 6 (r.ful l) 0 [x.e])) (m || !x.tm) (r1.exS l [93]):=by
 intro q hq hr hd C;subst hq
 exact aJ8 G (o:=⟨4,0,true,6,.mk 0 (q.c.ful l) [] 0 0 [] []⟩) (F:=λe=>tmv (.mk 6 (q.c.ful l) 0 [e])) hr hd h0 (by rw [uH hr,C.hop aS,HT hk,cM3 h0 hk hd' hb]) rfl rfl rfl h1 i1 (λ_=>rfl) (λ_=>.vl' aS)
  (λq ht ha=>aM9 ht rfl rfl ha)
theorem bT0 (G:Tgd l) (h:r.ac l [40]=true) (i1:r.nx.er=0->Sim l (.lev 1) r.nx x m r1):Sim l (.lev 10) r x m (r1.exS l [41]):=by
 intro q hq hr hd C;subst hq;have st:lS l q=gD ⟨2,0,false,0,zF⟩ (q.at q.c.nx):=by rw [uH hr,C.hop aS,UI h]
 have R:=Rch.one (jR h) hd st;have C2:Ctx l 1 (gD ⟨2,0,false,0,zF⟩ (q.at q.c.nx)):=PG (o:=⟨2,0,false,0,zF⟩) (K:=2) aS rfl rfl rfl aS (show (0:Nat)<=5 by decide) (λ_=>(show (0:Nat)<1 by decide));rcases i1 (jR h:q.c.er=0) (gD ⟨2,0,false,0,zF⟩ (q.at q.c.nx)) rfl rfl hd C2 with ⟨e,q3,R3,c3⟩ | ⟨e,q3,R3,D3,S3⟩
 ·rw [VH e];exact .inl ⟨e,q3,R.trans R3,c3⟩
 ·cases ha:r1.ac l [41] with
  | false =>
   obtain ⟨q4,R4,c4⟩:=bK6 G D3 S3 e rfl rfl (.inl Z) ha;rw [SP ha];exact .inl ⟨vW aS,q4,(R.trans R3).trans R4,c4⟩
  | true =>
   obtain ⟨v,ev,hn⟩:=NW D3 (aY 1) rfl;have s4:lS l q3=_:=HN D3.rd (by rw [D3.c];exact ha) (.inl Z);rw [ev,aM7 (o:=⟨2,0,false,0,zF⟩) rfl rfl ha] at s4;rw [SQ ha];refine .inr ⟨e,_,(R.trans R3).trans (.one (by rw [D3.c];exact e) D3.dn s4),?_,EI aS⟩;exact UQ (v:=⟨v.tm,false,v.e,v.f⟩) (λhm=>⟨(hn hm).tm,(hn hm).e,(hn hm).fm,(hn hm).f⟩) λ_=>rfl
theorem bT7 (h:r.ac l [97,114,114,105,118,101,115]=true) (h0:((r.nx.paS l).exS l [40]).ac l [41]=false) (h1:Gd l (.arg (r.nx.paV l 7)) ((r.nx.paS l).exS l [40]) n m r1) (i1:((r.nx.paS l).exS l [40]).er=0->Sim l (.arg (r.nx.paV l 7)) ((r.nx.paS l).exS l [40]) n m r1) :
 Sim l (.lev 10) r n m r1:=by
 intro q hq hr hd C;subst hq;have st:lS l q=gD ⟨5,0,true,0,q.c.nx.paV l 7⟩ (q.at ((q.c.nx.paS l).exS l [40])):=by rw [uH hr,C.hop aS,MG h,cR4 h0]
 refine EM hr hd (jR h) st (λhj=>?_) λhj R=>?_
 ·have:=DG h1 hj;subst this;exact .inl ⟨hj,_,.one (jR h) hd st,Z⟩
 ·have eq:gD ⟨5,0,true,0,q.c.nx.paV l 7⟩ (q.at ((q.c.nx.paS l).exS l [40]))=⟨(q.c.nx.paS l).exS l [40],⟨5,0,true,0,q.c.nx.paV l 7⟩::q.op,(q.x.1,q.x.2 || false),false,false⟩:=by
   rw [Bool.or_false];unfold gD Ps.at
   rw [hd];rfl
  rw [eq] at R;rcases i1 hj q.op q.x.1 q.x.2 false _ (λ_=>rfl) with ⟨e,q3,R3,c3⟩ | ⟨e,v,R3,hw,hn⟩
  ·exact .inl ⟨e,q3,R.trans R3,c3⟩
  ·exact .inr ⟨e,_,R.trans R3,UQ (λhm=>hn hm) λ_=>hw,EI aS⟩
theorem bT9 (h:r.ac l [95]=true) (i1:r.nx.er=0->Sim l (.aft (f.wEx (f.ex++[zE]))) r.nx n m r1):Sim l (.arg f) r n m r1:=by
 intro O V b ma f' hf
 have st:lS l ⟨r,⟨5,0,true,0,f'⟩::O,(V,b || ma),false,false⟩=⟨r.nx,⟨5,0,true,0,f'⟩::O,(⟨true,true,zE,zF⟩::V,b || ma),true,false⟩:=by
  rw [uH rfl]
  have e:yA l ⟨r,⟨5,0,true,0,f'⟩::O,(V,b || ma),false,false⟩=iU ⟨true,true,zE,zF⟩ ⟨r.nx,⟨5,0,true,0,f'⟩::O,(V,b || ma),false,false⟩:=by
   unfold yA;rw [aK ⟨Z,h⟩];rfl
  exact e
 have R:=Rch.one (jR h) rfl st;rcases i1 (jR h:r.er=0) ⟨r.nx,⟨5,0,true,0,f'⟩::O,(⟨true,true,zE,zF⟩::V,b || ma),true,false⟩ O V ⟨true,true,zE,zF⟩ b (b || ma) ma f' rfl rfl rfl rfl rfl rfl (by rw [show (!(⟨true,true,zE,zF⟩:Vl).tm)=false from rfl,Bool.or_false]) (λhm=>by rw [hf hm]) (.inr rfl) with ⟨e,q3,R3,c3⟩ | ⟨e,v,R3,hw,hn⟩
 ·exact .inl ⟨e,q3,R.trans R3,c3⟩
 ·exact .inr ⟨e,v,R.trans R3,hw,hn⟩
theorem bU0 (h:r.ac l [95]=false) (h2:Gd l (.aft (f.wEx (f.ex++[x.e]))) r1 n m' r2) (h0:r.er=0) (i1:Sim l (.lev 7) r x m r1) (i2:r1.er=0->Sim l (.aft (f.wEx (f.ex++[x.e]))) r1 n m' r2):Sim l (.arg f) r n ((m || !x.tm) || m') r2:=by
 intro O V b ma f' hf;rcases i1 ⟨r,⟨5,0,true,0,f'⟩::O,(V,b || ma),false,false⟩ rfl rfl rfl (cQ3 (o:=⟨5,0,true,0,f'⟩) rfl rfl rfl λ_=>h) with ⟨e,q3,R3,c3⟩ | ⟨e,q3,R3,D3,S3⟩
 ·have:=DG h2 e;subst this;exact .inl ⟨e,q3,R3,c3⟩
 ·obtain ⟨v,ev,hn⟩:=NW D3 aS rfl;have t7:=UF D3 (show (0:Nat)<7 by decide)
  rcases i2 e q3 O V v b ((b || ma) || m) (ma || (m || !x.tm)) f' D3.c D3.rd D3.dn D3.top (by rw [t7];rfl) ev (by
   show (((b || ma) || m) || !v.tm)=_;rw [Bool.or_assoc,bD7 hn,Bool.or_assoc]) (λhm=>by
   have hm1:=orF hm;have hm2:=orF hm1.2;rw [hf hm1.1,(hn hm2.1).e (by simpa using hm2.2)]) (.inl S3) with ⟨e',q4,R4,c4⟩ | ⟨e',u,R4,hw,hu⟩
  ·exact .inl ⟨e',q4,R3.trans R4,c4⟩
  ·refine .inr ⟨e',u,R3.trans ?_,hw,λhm=>hu ?_⟩
   ·rw [Bool.or_assoc] at R4;exact R4
   ·rw [Bool.or_assoc];exact hm
theorem bU2 (h:r.ac l [44]=true) (i1:r.nx.er=0->Sim l (.arg f) r.nx n m r1):Sim l (.aft f) r n m r1:=by
 intro q O V v b bb ma f' hc hr hd ht ht7 ev hb hf S;subst hc;have s4:lS l q=_:=HN hr h (.inr (.inr Z));rw [ev,IJ (q:=⟨q.c,⟨5,0,true,0,f'⟩::O,(v::V,bb),true,false⟩) (o:=⟨5,0,true,0,f'⟩) rfl rfl h] at s4;have R:=Rch.one (jR h) hd s4;have eq:(⟨q.c.nx,⟨5,0,true,0,f'.wEx (f'.ex++[v.e])⟩::O,(V,bb || !v.tm),false,false⟩:Ps)=⟨q.c.nx,⟨5,0,true,0,f'.wEx (f'.ex++[v.e])⟩::O,(V,b || ma),false,false⟩:=by rw [hb]
 have R2:Rch l q ⟨q.c.nx,⟨5,0,true,0,f'.wEx (f'.ex++[v.e])⟩::O,(V,b || ma),false,false⟩:=by rw [<-eq];exact R
 rcases i1 (jR h:q.c.er=0) O V b ma _ hf with ⟨e,q3,R3,c3⟩ | ⟨e,u,R3,hw,hn⟩
 ·exact .inl ⟨e,q3,R2.trans R3,c3⟩
 ·exact .inr ⟨e,u,R2.trans R3,hw,hn⟩
theorem bU1 (G:Tgd l) (h:r.ac l [44]=false) (h0:r.er=0):Sim l (.aft f) r (mdN f) false (r.exS l [41]):=by
 intro q O V v b bb ma f' hc hr hd ht ht7 ev hb hf S;subst hc
 have S7:Stop l 7 q:=by
  rcases S with S | S
  ·exact S
  ·exact ⟨λ_ _ _ _=>S,λ_ _ _ _=>S,λe=>by omega,λj e _ _=>by omega⟩
 cases ha:q.c.ac l [41] with
 | false =>
  have t2:eC (kD 1 q)=⟨5,0,true,0,f'⟩:=by rw [ev];rfl
  have:=HW G h0 hr hd (.inr ⟨S7,ht,ht7⟩) (by
   rw [DP (q:=kD 1 q) (by rw [t2];intro e;exact absurd (show (5:UInt8)=_ from e) aS) (λ_=>ha) (by rw [t2];intro e;exact absurd (show (5:UInt8)=_ from e) aS) (λ_=>h)];rfl)
  rw [SP ha];exact .inl ⟨vW aS,this⟩
 | true =>
  have s4:lS l q=_:=HN hr ha (.inl Z);rw [ev,IK (q:=⟨q.c,⟨5,0,true,0,f'⟩::O,(v::V,bb),true,false⟩) (o:=⟨5,0,true,0,f'⟩) rfl rfl ha] at s4;have R:=Rch.one h0 hd s4;rw [SQ ha];refine .inr ⟨h0,fmv (f'.wEx (f'.ex++[v.e])),?_,Z,λhm=>?_⟩
  ·rw [Bool.or_false,<-hb];exact R
  ·rw [Bool.or_false] at hm;rw [hf hm];exact .md _
theorem SC (G:Tgd l) (h0:r.er=0) (hk:(tkf l r.i).k=1):eN (r.nmV l)=none:=by rw [bE9 h0 hk];exact G.nm _ hk
theorem sim (G:Tgd l) {nt:Nt} (g:Gd l nt r n m r'):r.er=0->Sim l nt r n m r':=by
 have leaf {r c:Rq} {v:Vl} {n:Fn} (h0:r.er=0) (e:∀ q:Ps,q.c=r->rQ l q=iU v (q.at c)) (hn:Nok v n) (hw:v.wh=false):Sim l (.lev 10) r n false c:=by
  intro q hq hr hd C;subst hq;exact bB9 hr hd h0 C (e q rfl) hn hw
 induction g with
 | seq hk h1 h2 i1 i2=>exact λh0=>bS7 hk h2 i1 i2 h0
 | outJ hk h=>exact bB7 hk h
 | outA hk h=>exact bB8 hk h
 | join hk h h1 h2 i1 i2=>exact λ_=>bC0 hk h h1 h2 i1 i2
 | ari hk h h1 h2 i1 i2=>exact λ_=>bT8 hk h h2 i1 i2
 | pre hp h h1 i1=>exact λ_=>bS9 hp h h1 i1
 | cnt h h1 i1=>exact λ_=>bT4 G h h1 i1
 | cmp0 hp hc h1 i1=>exact λh0=>bC1 hp hc (i1 h0)
 | cm0 h1 h i1=>exact λh0=>bT6 h (i1 h0)
 | cm1 hi h1 h h2 i1 i2=>exact λh0=>bT5 hi h (i1 h0) i2
 | neg h h1 i1=>exact λ_=>bT1 h i1
 | pri h h1 i1=>exact λh0=>bS8 (i1 h0)
 | bad h=>exact λh0=>absurd h0 h
 | num h hk=>exact λh0=>leaf h0 (λq e=>by subst e;exact UJ hk) (.vl' aS) rfl
 | now h=>exact λh0=>leaf h0 (λq e=>by subst e;exact UK h) (.vl' aS) rfl
 | tru h=>exact λh0=>leaf h0 (λq e=>by subst e;exact UG h) (.md _) rfl
 | fal h=>exact λh0=>leaf h0 (λq e=>by subst e;exact UP h) (.md _) rfl
 | flg h=>exact λh0=>leaf h0 (λq e=>by subst e;exact UO h) (.md _) rfl
 | has h h1 i1=>exact λ_=>bT2 G h h1 i1
 | arr0 h h1=>exact λh0=>leaf h0 (λq e=>by subst e;rw [MG h];exact cR5 h1) (.md _) rfl
 | arr h h0 h1 i1=>exact λ_=>bT7 h h0 h1 i1
 | siz h=>exact λh0=>leaf h0 (λq e=>by subst e;exact UH h) (.vl' aS) rfl
 | par h h1 i1=>exact λ_=>bT0 G h i1
 | nam0 h hk hd=>exact λh0=>leaf h0 (λq e=>by subst e;rw [HT hk,cM5 h hk hd]) (.vl (.inr (SC G h hk))) rfl
 | @nam1 r h hk hd hb =>
  intro h0;have hs:eN (r.ful l)=some (r.nmV l,r.nx.nx.nmV l):=by unfold Rq.ful;rw [XO h hk];exact aB6 (SC G h hk)
  refine leaf (v:=tmv (.mk 5 (r.ful l) 0 [])) h0 (λq e=>by subst e;rw [HT hk,cM4 h hk hd hb]) ⟨Z,λ_=>rfl,?_,λ_=>?_⟩ rfl
  ·show true=!(true && (!decide ((5:UInt8)=5) || (eN (r.ful l)).isNone));rw [hs];rfl
  ·show Fm.mk 4 (spA (r.ful l)) (spB (r.ful l)) 0 0 [] []=_;unfold spA spB;rw [hs]
 | get h hk hd hb h1 i1=>exact λ_=>bT3 G h hk hd hb h1 i1
 | non h h0 h3 h1 hw =>
  intro _ q hq hr hd C;subst hq;have st:lS l q=q.at (q.c.fail l 8):=by rw [uH hr,C.hop aS,UL h0 h3 h1 hw]
  exact .inl ⟨vW aS,_,.one h hd st,Z⟩
 | arU h h1 i1=>exact λ_=>bT9 h i1
 | arT h h1 h2 i1 i2=>exact λh0=>bU0 h h2 h0 (i1 h0) i2
 | afC h h1 i1=>exact λ_=>bU2 h i1
 | afE h=>exact λh0=>bU1 G h h0
def NV (l:Tks) (r:Rq):Rq:=if r.er=0/\(tkf l r.i).k≠0 then r.fail l 8 else r
def bC5 (l:Tks) (n:Fn) (m:Bool) (r:Rq):Fm × Nat × Nat :=
 if ¬ (NV l r).er=0 then (zF,(NV l r).off,(NV l r).er)
 else if m || !n.fm then (zF,0,6)
 else if ¬ gT n.f=0 then (zF,0,gT n.f)
 else (n.f,0,0)
theorem BG {N:Nat} (h:Rch l q q') (hf:q'.fin) (hN:(CT l N q).fin):CT l N q=q':=by
 obtain ⟨k,e⟩:=h;have e1:=MF (l:=l) k N q;have e2:=MF (l:=l) N k q;rw [e,UE hf] at e1;rw [UE hN] at e2;rw [<-e2,Nat.add_comm,e1]
theorem cF7 (G:Tgd l) (hl:0<l.length) (g:Gd l (.lev 1) ⟨0,0,0⟩ n m r):EY l=bC5 l n m r:=by
 have F:=ME G.last l.length ON (TT hl) (by show l.length<=0+_;omega);have C:Ctx l 1 ON:=PG (o:=bO) (K:=1) aS rfl rfl rfl aS aS (λ_=>by decide)
 have bad:∀ q':Ps,Rch l ON q'->q'.c.er≠0->q'.c=NV l r->EY l=bC5 l n m r:=λq' h e ec=>by
  unfold EY bC5 JY;rw [BG h (.inr e) F.1,aK e,ec,aK (by rw [<-ec];exact e)]
 rcases sim G g rfl ON rfl rfl rfl C with ⟨e,q3,R3,c3⟩ | ⟨e,q3,R3,D3,S3⟩
 ·exact bad q3 R3 (by rw [c3];exact e) (by rw [c3];unfold NV;rw [aA (λh=>e h.1)])
 ·obtain ⟨v,ev,hn⟩:=NW D3 (aY 1) rfl
  by_cases hk:(tkf l r.i).k=0
  ·have s4:lS l q3=nG l (kD 1 q3):=by
    have no {w:Str}:q3.c.is l w=false:=by
     unfold Rq.is;rw [D3.c,hk];rfl
    rw [AC D3.rd];unfold gB;have:q3.c.sym l=none:=by unfold Rq.sym;rw [D3.c,aA (by rw [hk];decide)]
    rw [this];show rS l q3=_;unfold rS;rw [aA (by unfold Rq.wrd;rw [no,no,no,no];decide),aK (by unfold Rq.endB;rw [D3.c,hk];simp)]
   have s5:nG l (kD 1 q3)=⟨r,[bO],([v],false || m),true,true⟩:=by
    rw [ev];unfold nG;rw [aK ⟨Z,hk⟩];rfl
   have R:=R3.trans (.one (by rw [D3.c];exact e) D3.dn (s4.trans s5));have er:NV l r=r:=by unfold NV;rw [aA (λh=>h.2 hk)]
   unfold EY bC5 JY;have ne:¬ ¬ r.er=0:=by rw [e];decide
   rw [BG R (.inl Z) F.1,er,aA ne];rw [aA ne]
   have e1:(fS ([v],false || m)).2=(m || !n.fm):=by
    show ((false || m) || v.noF)=_;rw [aT,bD8 hn]
   show (if (fS ([v],false || m)).2=true then _ else if ¬ gT v.fm=0 then (zF,0,gT v.fm) else (v.fm,0,0))=_;rw [e1];cases hb:(m || !n.fm) with
   | true=>rfl
   | false =>
    have h2:=orF hb;rw [(hn h2.1).f (by simpa using h2.2)]
  ·have t2:eC (kD 1 q3)=bO:=by rw [ev];rfl
   obtain ⟨q4,R4,c4⟩:=HW G (by rw [D3.c];exact e) D3.rd D3.dn (.inl S3) (by
    rw [DP (q:=kD 1 q3) (λ_=>by rw [show (kD 1 q3).c=r from D3.c];exact hk) (by rw [t2];intro e;exact absurd e aS) (by rw [t2];intro e;exact absurd e aS) (by rw [t2];intro e;exact absurd e aS)];rfl)
   have er:NV l r=r.fail l 8:=by unfold NV;rw [aK ⟨e,hk⟩]
   exact bad q4 (R3.trans R4) (by rw [c4];exact vW aS) (by rw [c4,er,D3.c])
end
def VC:List Str:=[[],[116,114,117,101],[102,97,108,115,101],[],[],[104,97,115],[102,108,97,103],[97,114,114,105,118,101,115],[110,111,116],[97,110,100],[111,114],[105,109,112,108,105,101,115],[112,114,101,118,105,111,117,115],[111,110,99,101],[97,108,119,97,121,115],[115,105,110,99,101],[102,111,114,97,108,108],[101,120,105,115,116,115],[99,111,117,110,116]]
def iQ (op:UInt8):Str:=VC.getD op.toNat []
def vK (op:UInt8):Str:=nE.getD op.toNat []
def tlv (op:UInt8):Nat:=if op=14\/op=15 then 4 else if op=11\/op=12\/op=13 then 5 else if op=9 then 6 else 7
def wQ (b:Bool) (s:Str):Str:=if b then [40]++s++[41] else s
def aA6 (op:UInt8) (nm:Str) (n:Int64) (l:List (UInt8 × Str)):Str :=
 if op=1 then Lib.itoa n.toInt
 else if op=4 then [110,111,119]
 else if op=5 then nm
 else if op=6 then nm++[91]++(l.headD (0,[])).2++[93]
 else if op=8 then [115,105,122,101,32]++nm
 else if op=9 then [45]++wQ (decide (tlv (l.headD (0,[])).1<6)) (l.headD (0,[])).2
 else if op=11\/op=12\/op=13\/op=14\/op=15 then
  wQ (decide (tlv (l.headD (0,[])).1<tlv op)) (l.headD (0,[])).2++[32]++vK op++[32]++wQ (decide (tlv ((l.drop 1).headD (0,[])).1<tlv op+1)) ((l.drop 1).headD (0,[])).2
 else [95]
mutual
def tmT:Ex->Str
 | .mk op nm n args=>aA6 op nm n (aZ4 args)
def aZ4:List Ex->List (UInt8 × Str)
 | []=>[]
 | e::r=>(e.op,tmT e)::aZ4 r
end
def wF (f:Fm):Str:=if !(cK f.op).wn || decide (f.b.toInt<0) then [] else [91]++Lib.itoa f.a.toInt++[44,32]++Lib.itoa f.b.toInt++[93]
def DX (f:Fm):Str:=[32]++f.nm++[32,105,110,32]++Lib.itoa f.a.toInt++[46,46]++Lib.itoa f.b.toInt
def qM (sep:Str):List Str->Str
 | []=>[]
 | [x]=>x
 | x::r=>x++sep++qM sep r
def exH (f:Fm):Ex:=f.ex.headD zE
def ex0 (e:Ex):Ex:=e.args.headD zE
def ex1 (e:Ex):Ex:=(e.args.drop 1).headD zE
def PA (f:Fm) (l:List (UInt8 × Str)):Str :=
 if f.op=3 then tmT (ex0 (exH f))++[32]++vK (exH f).op++[32]++tmT (ex1 (exH f))
 else if f.op=4 then f.nm++[46]++f.fd
 else if f.op=5 then iQ f.op++[32]++f.nm++[46]++f.fd++[91]++tmT (exH f)++[93]
 else if f.op=6 then iQ f.op++[32]++f.nm
 else if f.op=7 then iQ f.op++[32]++f.nm++[46]++f.fd++[40]++qM [44,32] (f.ex.map tmT)++[41]
 else if f.op=8\/f.op=12\/f.op=13\/f.op=14 then iQ f.op++wF f++[32]++wQ (decide ((cK (l.headD (0,[])).1).lv<5)) (l.headD (0,[])).2
 else if f.op=16\/f.op=17 then iQ f.op++DX f++[32]++wQ (decide ((cK (l.headD (0,[])).1).lv<5)) (l.headD (0,[])).2
 else if f.op=18 then iQ f.op++DX f++[32,40]++(l.headD (0,[])).2++[41,32,62,61,32]++tmT (exH f)
 else if f.op=15\/f.op=9\/f.op=10\/f.op=11 then
  wQ (decide ((cK (l.headD (0,[])).1).lv<(cK f.op).lv)) (l.headD (0,[])).2++[32]++iQ f.op++wF f++[32]++wQ (decide ((cK ((l.drop 1).headD (0,[])).1).lv<(cK f.op).lv+1)) ((l.drop 1).headD (0,[])).2
 else iQ f.op
mutual
def fmT:Fm->Str
 | .mk op nm fd a b ex args=>PA (.mk op nm fd a b ex args) (bI7 args)
def bI7:List Fm->List (UInt8 × Str)
 | []=>[]
 | f::r=>(f.op,fmT f)::bI7 r
end
def NK (f:Fm):Str:=if gT f=0 then fmT f else []
end Go.Proofs.YtidclioghdbphaaGreatDoor
namespace Go.Plain
open Go.Lib

theorem digits_more (x:Nat) (h:¬ x<10):decDigits x=decDigits (x / 10)++[UInt8.ofNat (48+x % 10)]:=by
 rw [decDigits,qH h]
theorem digit_nat (d:Nat) (h:d<10):(UInt8.ofNat (48+d)).toNat=48+d:=by
 rw [rJ];omega
theorem digits_are:∀ (u:Nat) (c:UInt8),c∈decDigits u->48<=c.toNat/\c.toNat<=57:=by
 intro u;induction u using Nat.strongRecOn with
 | _ u ih =>
  intro c hc
  by_cases h:u<10
  ·rw [decDigits_one h] at hc;obtain rfl:=bS.1 hc;rw [digit_nat u h];omega
  ·rw [digits_more u h] at hc;rcases cJ.1 hc with hc | hc
   ·exact ih (u / 10) aD c hc
   ·obtain rfl:=bS.1 hc;rw [digit_nat (u % 10) aD];omega
end Go.Plain
namespace Go.Proofs.YtidclioghdbphaaGreatDoor
abbrev Kt:=UInt8 × Str
def kt (t:Tk):Kt:=(t.k,t.t)
theorem LA (u:Nat):sK (Lib.decDigits u)=u:=by
 induction u using Nat.strongRecOn with
 | _ u ih =>
  by_cases h:u<10
  ·rw [Lib.decDigits_one h];simp only [sK,tW,zP,Plain.digit_nat u h];omega
  ·rw [Plain.digits_more u h];have:=ih (u / 10) aD;unfold sK at this|-;rw [oP,this];simp only [tW,zP,Plain.digit_nat (u % 10) aD];omega
theorem args0 {l:List Ex} (h:l.length=0):l=[]:=bK h
theorem cD1 {l:List Ex} (h:l.length=1):∃ a,l=[a]:=List.length_eq_one_iff.1 h
theorem PL {l:List Ex} (h:l.length=2):∃ a b,l=[a,b]:=by
 match l,h with
 | [a,b],_=>exact ⟨a,b,Z⟩
def binOp (op:UInt8):Bool:=decide (11<=op.toNat) && decide (op.toNat<=23)
structure Tok (x:Kt) (r:Str):Prop where
 ne:x.2≠[]
 read:dD (x.2++r)=(x.1,x.2.length)
 skip:eU false (x.2++r)=x.2++r
 k5:x.1≠5
 sh:x.2.length<=1000000
inductive Lx:Str->List Kt->Prop where
 | nil:Lx [] []
 | blk {c:UInt8} {s:Str} {k:List Kt} (h:mS c=true) (l:Lx s k):Lx (c::s) k
 | tok {x:Kt} {s:Str} {k:List Kt} (h:Tok x s) (l:Lx s k):Lx (x.2++s) (x::k)
variable {s:Str}
theorem Lx.toks {k:List Kt} (h:Lx s k):∀ (f o:Nat),(eU false s).length<f->(CL f o (eU false s)).map kt=k:=by
 induction h with
 | nil=>intro f o _;rw [sA,qJ];rfl
 | blk h _ ih=>intro f o hf;rw [JI h] at hf|-;exact ih f o hf
 | @tok x s k h _ ih =>
  intro f o hf;rw [h.skip] at hf|-
  match f,hf with
  | f+1,hf =>
   have hne:x.2++s≠[]:=by intro e;exact h.ne (zB.1 e).1
   rw [nQ hne,h.read];simp only [iY,List.drop_left,eP];have hl:=pJ false s;have h1:1<=x.2.length:=vD.2 h.ne;rw [ih f _ (by rw [aC] at hf;omega)]
   rfl
theorem Lx.lex {k:List Kt} (h:Lx s k):(pL s).map kt=k:=by
 unfold pL;have:=pJ false s;exact h.toks _ _ aD
def AE (r:Str):Prop:=∀ c,r.head? = some c->kT c=false/\c≠46/\c≠61/\c≠62/\c≠47
def hdB (r:Str):Prop:=∀ c,r.head? = some c->c≠46/\c≠61/\c≠62/\c≠47
variable {r:Str}
theorem AE.hd (h:AE r):hdB r:=λc e=>(h c e).2
theorem bC3:AE []:=λc e=>by cases e
theorem vL {c:UInt8} (h:kT c=false/\c≠46/\c≠61/\c≠62/\c≠47):AE (c::r):=λd e=>by cases e;exact h
theorem yL {c:UInt8} (h:c≠46/\c≠61/\c≠62/\c≠47):hdB (c::r):=λd e=>by cases e;exact h
theorem MI {q:UInt8->Bool}:∀ {w r:Str},w.all q=true->(∀ c,r.head? = some c->q c=false)->pre q (w++r)=w.length
 | [],[],_,_=>rfl
 | [],c::r,_,h=>by unfold pre;rw [dE,fI,h c rfl];rfl
 | a::w,r,hw,h=>by
  rw [gJ,aE] at hw;have:=MI hw.2 h;unfold pre at this|-;rw [bY,fI,hw.1];simp [this]
theorem US {q:UInt8->Bool}:∀ {w:Str},pre q w=w.length->w.all q=true
 | [],_=>rfl
 | a::w,h=>by
  unfold pre at h;rw [fI] at h;cases ha:q a with
  | false=>rw [ha] at h;simp at h
  | true =>
   rw [ha] at h;have:=US (q:=q) (w:=w) (by unfold pre;simpa using h);rw [gJ,ha,this];rfl
theorem PK {Q:UInt8->Prop} (h:∀ i∈List.range 256,Q (UInt8.ofNat i)) (c:UInt8):Q c:=by
 have:=h c.toNat (bZ.2 c.toNat_lt)
 rwa [fU] at this
theorem MM (c:UInt8) (h:pO c=true):mS c=false/\c≠47/\c≠46/\c≠61/\c≠62/\kT c=true/\iZ c=false:=by
 revert h
 exact PK (Q:=λc=>pO c=true->mS c=false/\c≠47/\c≠46/\c≠61/\c≠62/\kT c=true/\iZ c=false) qS c
theorem aM3 (c:UInt8) (h:iZ c=true):mS c=false/\c≠47/\c≠46/\c≠61/\c≠62/\pO c=false:=by
 revert h
 exact PK (Q:=λc=>iZ c=true->mS c=false/\c≠47/\c≠46/\c≠61/\c≠62/\pO c=false) qS c
theorem bW2 (c:UInt8) (h:kT c=false):iZ c=false:=by
 revert h
 exact PK (Q:=λc=>kT c=false->iZ c=false) qS c
theorem aO3:∀ w∈words,w.length<=12:=by decide +kernel
variable {w:Str}
theorem WO {k:UInt8} (h0:w≠[]) (hl:pO (w.headD 0)=true) (hw:w.all kT=true) (hk:(if words.contains w then (2:UInt8) else if w.length<=12 then 1 else 5)=k) (h5:k≠5) (hr:AE r):Tok (k,w) r:=by
 match w,h0 with
 | c::t,h0 =>
  have hlb:=MM c hl;have hp:pre kT ((c::t)++r)=(c::t).length:=MI hw λd hd=>(hr d hd).1;refine ⟨h0,?_,?_,h5,?_⟩
  ·show dD ((c::t)++r)=(k,(c::t).length);unfold dD;simp only;rw [show ((c::t)++r).headD 0=c from rfl,show pO c=true from hl,aK rfl,hp,iY]
   split at hk
   ·rename_i e;rw [aK e,<-hk]
   ·rename_i e;rw [aA e]
    split at hk
    ·rename_i e2;rw [aK e2,<-hk]
    ·exact absurd hk.symm h5
  ·exact tP hlb.1 (λe=>hlb.2.1 e.1)
  ·show (c::t).length<=1000000
   split at hk
   ·rename_i e;have:=aO3 _ (gI.1 e);omega
   ·split at hk
    ·omega
    ·exact absurd hk.symm h5
theorem XW:∀ w∈words,w≠[]/\pO (w.headD 0)=true/\w.all kT=true:=by decide +kernel
theorem cE3 (hw:w∈words) (hr:AE r):Tok (2,w) r:=by
 obtain ⟨h1,h2,h3⟩:=XW w hw;exact WO h1 h2 h3 (by rw [aK (gI.2 hw)]) aS hr
theorem nX (h:gL w=true):w≠[]/\pO (w.headD 0)=true/\w.all kT=true/\words.contains w=false/\w.length<=12:=by
 have hlen:=bF4 h;simp only [gL,aE,aB,eJ] at h;obtain ⟨⟨h0,h1⟩,h2⟩:=h
 match w,h0 with
 | c::t,h0 =>
  have hl:=RV h1
  have h3:words.contains ((c::t).take (pre kT (c::t)))=false/\pre kT (c::t)=(c::t).length:=by
   unfold dD at h1 h2;simp only [bU,hl,dC] at h1 h2
   split at h1
   ·simp at h1
   ·rename_i e;rw [aA e] at h2
    split at h1
    ·rename_i e2;rw [aK e2] at h2;exact ⟨by simpa using e,h2⟩
    ·simp at h1
  obtain ⟨h4,h5⟩:=h3;rw [h5,bW] at h4;exact ⟨h0,hl,US h5,h4,hlen⟩
theorem aZ2 (hw:gL w=true) (hr:AE r):Tok (1,w) r:=by
 obtain ⟨h1,h2,h3,h4,h5⟩:=nX hw;exact WO h1 h2 h3 (by rw [h4,aA aS,aK h5]) aS hr
theorem BM (hw:gL w=true):hdB (w++r):=by
 obtain ⟨h1,h2,_⟩:=nX hw
 match w,h1 with
 | c::t,_=>have:=MM c h2;exact yL ⟨this.2.2.1,this.2.2.2.1,this.2.2.2.2.1,this.2.1⟩
theorem DB (hw:w∈words):hdB (w++r):=by
 obtain ⟨h1,h2,_⟩:=XW w hw
 match w,h1 with
 | c::t,_=>have:=MM c h2;exact yL ⟨this.2.2.1,this.2.2.2.1,this.2.2.2.2.1,this.2.1⟩
theorem SR:∀ (u:Nat),∃ c t,Lib.decDigits u=c::t/\(t=[]\/c≠48)/\(u≠0->c≠48):=by
 intro u;induction u using Nat.strongRecOn with
 | _ u ih =>
  by_cases h:u<10
  ·rw [Lib.decDigits_one h];refine ⟨_,[],Z,.inl rfl,λhu e=>?_⟩;have:=congrArg UInt8.toNat e;rw [Plain.digit_nat u h] at this;have h48:(48:UInt8).toNat=48:=rfl;omega
  ·rw [Plain.digits_more u h];obtain ⟨c,t,e,_,h2⟩:=ih (u / 10) aD;rw [e];exact ⟨c,_,Z,.inr (h2 aD),λ_=>h2 aD⟩
theorem bZ6 {u:Nat} (h:u<=9223372036854775808):(Lib.decDigits u).length<=21:=by
 have h1:=Lib.itoa_length_le (-(u:Int)) aD aD
 by_cases h0:u=0
 ·subst h0;decide +kernel
 ·rw [Lib.itoa,aK aD,show (-(u:Int)).natAbs=u by omega,aF] at h1;omega
theorem cQ1 {n:Int64} :n.toInt.toNat<=9223372036854775808:=by have:=n.toInt_lt;omega
theorem bE3 {u:Nat} :hdB (Lib.decDigits u++r):=by
 obtain ⟨c,t,e,_⟩:=SR u;have:=Plain.digits_are u c (by rw [e];simp);have hd:iZ c=true:=by simp only [iZ,aE,aB];exact this
 have hb:=aM3 c hd;rw [e];exact yL ⟨hb.2.2.1,hb.2.2.2.1,hb.2.2.2.2.1,hb.2.1⟩
def bR5:Str:=[123,125,40,41,91,93,44,59,58,46,61,60,62,43,45,42,47,37]
theorem bR1 {c:UInt8} (hc:c∈bR5) (hr:hdB r):Tok (4,[c]) r:=by
 have hx:∀ d,r.head? = some d->d≠46/\d≠61/\d≠62/\d≠47:=hr;refine ⟨by simp,?_,?_,(show (4:UInt8)≠5 by decide),(by show (1:Nat)<=_;omega)⟩
 ·show dD (c::r)=(4,1);have hl:pO c=false/\iZ c=false:=by revert c;decide
  have hf:symbols.find? (λx=>x.isPrefixOf (c::r))=some [c]:=by
   cases r with
   | nil=>revert c;decide
   | cons d t =>
    obtain ⟨e1,e2,e3,e4⟩:=hx d rfl;have b1:((46:UInt8) == d)=false:=tV (vS e1);have b2:((61:UInt8) == d)=false:=tV (vS e2);have b3:((62:UInt8) == d)=false:=tV (vS e3);simp only [bR5,bM,List.not_mem_nil,or_false] at hc
    rcases hc with rfl | rfl | rfl | rfl | rfl | rfl | rfl | rfl | rfl | rfl | rfl | rfl | rfl | rfl | rfl | rfl | rfl | rfl <;>
     simp [symbols,List.find?,List.isPrefixOf,b1,b2,b3]
  unfold dD;simp only [bU,hl.1,hl.2,hf,aM,cZ,zZ]
 ·refine tP (by revert c;decide) ?_;rintro ⟨_,h⟩;exact (hx 47 h).2.2.2 rfl
def cF0:List Str:=[[61,61],[33,61],[60,61],[62,61],[45,62]]
theorem aJ3 (hw:w∈cF0):Tok (4,w) r:=by
 simp only [cF0,bM,List.not_mem_nil,or_false] at hw;rcases hw with rfl | rfl | rfl | rfl | rfl <;> refine ⟨by simp,?_,?_,(show (4:UInt8)≠5 by decide),(by show (2:Nat)<=_;omega)⟩ <;> simp [dD,pO,iZ,symbols,List.find?,List.isPrefixOf,eU,mS]
theorem oS:AE (32::r):=vL aS
theorem aF7:AE (41::r):=vL aS
theorem aF9:AE (91::r):=vL aS
theorem aG1:AE (93::r):=vL aS
theorem Lx.sp {k:List Kt} (h:Lx r k):Lx (32::r) k:=.blk aS h
theorem Lx.sy {c:UInt8} {k:List Kt} (hc:c∈bR5) (hr:hdB r) (h:Lx r k):Lx (c::r) ((4,[c])::k):=.tok (x:=(4,[c])) (bR1 hc hr) h
theorem Lx.kw {k:List Kt} (hw:w∈words) (hr:AE r) (h:Lx r k):Lx (w++r) ((2,w)::k):=.tok (x:=(2,w)) (cE3 hw hr) h
theorem Lx.nm {k:List Kt} (hw:gL w=true) (hr:AE r) (h:Lx r k):Lx (w++r) ((1,w)::k):=.tok (x:=(1,w)) (aZ2 hw hr) h
end Go.Proofs.YtidclioghdbphaaGreatDoor
namespace Go.Proofs.YtidclioghdbphaaGreatDoor
open Go.RowKit Go.Par Go.Sx
theorem JN:∀ l,LB l=l.any oT
 | []=>rfl
 | e::r=>by rw [LB,List.any_cons,JN r]
theorem tO:∀ l,BE l=l.all eI
 | []=>rfl
 | e::r=>by rw [BE,gJ,tO r]
theorem aK5 (op:UInt8) (nm:Str) (n:Int64) (args:List Ex):oT (.mk op nm n args)=((decide (op=5) && !zJ nm && !gL nm) || ((decide (op=6) || decide (op=8)) && !zJ nm) || args.any oT):=by rw [oT,JN]
def bL0 (f:Fm):Bool:=f.ex.any λe=>decide (9<e.depth) || (decide (8<e.depth) && !decide (f.op=3))
theorem aS9 (f:Fm):bL0 f=!rM f:=by
 unfold bL0 rM;rw [Bool.not_not]
 congr 1
 funext e
 by_cases h:f.op=3
 ·rw [aK h,aG h];simp
 ·rw [aA h,aL h];rw [aQ];simp;omega
def tnB (op:UInt8) (nm:Str):Bool :=
 if op=5\/op=6\/op=8 then (match eN nm with | some (a,b)=>gL a && gL b | none=>decide (op=5) && gL nm) else true
theorem aD0:∀ {l:Str},l.all kT=true->eN l=none
 | [],_=>rfl
 | c::r,h=>by
  rw [gJ,aE] at h
  have hc:¬ c=46:=by
   rintro rfl;exact absurd h.1 aS
  rw [eN,aA hc,aD0 h.2];rfl
theorem aD2 {n:Str} (h:gL n=true):eN n=none:=aD0 (nX h).2.2.1
theorem aZ3 (op:UInt8) (nm:Str):((decide (op=5) && !zJ nm && !gL nm) || ((decide (op=6) || decide (op=8)) && !zJ nm))=!tnB op nm:=by
 unfold tnB zJ
 by_cases h5:op=5
 ·subst h5;rw [aK (.inl Z)];cases hs:eN nm with
  | none=>simp
  | some x =>
   have hn:gL nm=false:=by
    cases h:gL nm with
    | false=>rfl
    | true=>rw [aD2 h] at hs;cases hs
   rw [hn];simp
 ·by_cases h6:op=6\/op=8
  ·rw [aK (.inr h6)];have e:(decide (op=6) || decide (op=8))=true:=by rcases h6 with rfl | rfl <;> decide
   rw [e,aL h5];cases hs:eN nm with
   | none=>simp
   | some x=>simp
  ·have e:(decide (op=6) || decide (op=8))=false:=by
    simp only [vR] at h6;rw [aL h6.1,aL h6.2];rfl
   rw [aA (by rintro (h | h | h);exact h5 h;exact h6 (.inl h);exact h6 (.inr h)),e,aL h5];rfl
def fdN (op:UInt8):Bool:=(decide (4<=op.toNat) && decide (op.toNat<=7)) || (decide (16<=op.toNat) && decide (op.toNat<=18))
def fdF (op:UInt8):Bool:=decide (op=4) || decide (op=5) || decide (op=7)
theorem pK {q:UInt8->Prop} [DecidablePred q] (h:∀ i∈List.range 256,q (UInt8.ofNat i)) (op:UInt8):q op:=by
 have:=h op.toNat (bZ.2 op.toNat_lt)
 rwa [fU] at this
theorem cC7 (op:UInt8):(cK op).nm=fdN op:=pK (q:=λop=>(cK op).nm=fdN op) qS op
theorem cC8 (op:UInt8):(cK op).fd=fdF op:=pK (q:=λop=>(cK op).fd=fdF op) qS op
def WL (op:UInt8) (nm:Str) (n:Int64) (k:Nat):Bool :=
 (decide (op=1) || decide (op=4) || decide (op=5) || decide (op=6) || decide (op=8) || decide (op=9) || (decide (11<=op.toNat) && decide (op.toNat<=15))) && decide (arR op.toNat=(k:Nat)) && (decide (op=1) || decide (n=0)) && decide (0<=n.toInt) && (decide (nm=[]) || decide (op=5) || decide (op=6) || decide (op=8))
def bD9 (op:UInt8):Int:=if op.toNat<1\/18<op.toNat then -1 else if op.toNat<=7 then 0 else if (9<=op.toNat/\op.toNat<=11)\/op.toNat=15 then 2 else 1
theorem cJ1 (op:UInt8):(¬ (cK op).lv=0/\bD9 op=((cK op).ar:Nat))\/((cK op).lv=0/\bD9 op=-1):=pK (q:=λop=>(¬ (cK op).lv=0/\bD9 op=((cK op).ar:Nat))\/((cK op).lv=0/\bD9 op=-1)) qS op
variable {k n:Nat}
theorem SU {m:Int} (h:m=(k:Nat)):decide (m=(n:Nat))=decide (n=k):=by
 rw [h,aQ,aB,aB];omega
theorem CQ (op:UInt8) (nm:Str) (n:Int64) (args:List Ex):eI (.mk op nm n args)=(WL op nm n args.length && args.all eI):=by
 rw [eI,tO];unfold WL
 have r1:decide (n=0)=true->decide (0<=n.toInt)=true:=by
  intro h;rw [aB] at h;subst h
  decide
 have r2:decide (args.length=0)=true->args.all eI=true:=by
  intro h;rw [aB] at h;rw [bK h];rfl
 generalize args.all eI=z at r2|-;generalize decide (0<=n.toInt)=c at r1|-;generalize decide (n=0)=b at r1|-;generalize decide (nm=[])=a
 by_cases h1:op=1
 ·subst h1;rw [SU (k:=0) aS];generalize decide (args.length=0)=d at r2|-;simp only [dC]
  revert a b c d z;decide
 by_cases h4:op=4
 ·subst h4;rw [SU (k:=0) aS];generalize decide (args.length=0)=d at r2|-;simp only [aA (show ¬ (4:UInt8)=1 by decide),dC]
  revert a b c d z;decide
 by_cases h5:op=5\/op=8
 ·rw [aA h1,aA h4,aK h5];have e:arR op.toNat=0:=by rcases h5 with rfl | rfl <;> decide
  rw [SU (k:=0) (by rw [e];rfl)];generalize decide (args.length=0)=d at r2|-;rcases h5 with rfl | rfl <;> (revert a b c d z;decide)
 by_cases h6:op=6
 ·subst h6;rw [SU (k:=1) aS];generalize decide (args.length=1)=d;clear r2;simp only [aA (show ¬ (6:UInt8)=1 by decide),aA (show ¬ (6:UInt8)=4 by decide),aA (show ¬ ((6:UInt8)=5\/(6:UInt8)=8) by decide),dC]
  revert a b c d z;decide
 by_cases h9:op=9
 ·subst h9;rw [SU (k:=1) aS];generalize decide (args.length=1)=d;clear r2;simp only [aA (show ¬ (9:UInt8)=1 by decide),aA (show ¬ (9:UInt8)=4 by decide),aA (show ¬ ((9:UInt8)=5\/(9:UInt8)=8) by decide),aA (show ¬ (9:UInt8)=6 by decide),dC]
  revert a b c d z;decide
 rw [aA h1,aA h4,aA h5,aA h6,aA h9];clear r2
 by_cases hb:op=11\/op=12\/op=13\/op=14\/op=15
 ·rw [aK hb];have e:arR op.toNat=2:=by rcases hb with rfl | rfl | rfl | rfl | rfl <;> decide
  rw [SU (k:=2) (by rw [e];rfl)];generalize decide (args.length=2)=d;rcases hb with rfl | rfl | rfl | rfl | rfl <;> (revert a b c d z;decide)
 ·rw [aA hb]
  have e:(decide (op=1) || decide (op=4) || decide (op=5) || decide (op=6) || decide (op=8) || decide (op=9) || (decide (11<=op.toNat) && decide (op.toNat<=15)))=false:=by
   have:=pK (q:=λop=>op=1\/op=4\/(op=5\/op=8)\/op=6\/op=9\/(op=11\/op=12\/op=13\/op=14\/op=15)\/(decide (op=1) || decide (op=4) || decide (op=5) || decide (op=6) || decide (op=8) || decide (op=9) || (decide (11<=op.toNat) && decide (op.toNat<=15)))=false) qS op;rcases this with h | h | h | h | h | h | h
   ·exact absurd h h1
   ·exact absurd h h4
   ·exact absurd h h5
   ·exact absurd h h6
   ·exact absurd h h9
   ·exact absurd h hb
   ·exact h
  rw [e];rfl
end Go.Proofs.YtidclioghdbphaaGreatDoor
