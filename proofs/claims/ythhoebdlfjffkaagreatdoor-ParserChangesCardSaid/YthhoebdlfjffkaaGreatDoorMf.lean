/- Texts of the proof, one behind the other. -/
import Derived.Test.YthhoebdlfjffkaaGreatDoorMe
import Derived.OrdersIn
set_option linter.all false
set_option maxRecDepth 100000
namespace Go.Proofs.YthhoebdlfjffkaaGreatDoor
open Go.RowKit Go.Par Go.Sx Tryz
theorem cP5 (M:Nat) (hop:ExC 49 (gX 1) M):ExC 23 (gX 0) M:=by
 intro H w0 W bs b n ts tp tc t0 t1 t2 t3 q K hq hmu s;refine fD func23 rfl ntmps23 rfl s ?_;refine .sr<|.al jX Z λb2=>.ns<|.mv Z<|.mv Z<|.yw (.mkF Z Z)<|.yw (.build Z (jK _ _))<|.bl Z (QL _ _) Z λb7=>?_
 refine dD λH1 u1 m1=>?_
 have hs1:Rep H1 (.seq 2 (([([111,114],23)]:List (Str × UInt8)).map dSy)) [.slice (some ⟨b7,0,none⟩) 1 1]:=by
  simp only [dT,jD];exact Rep.mk (n:=1) (c:=1) m1 (ds:=[dSy ([111,114],23)]) (.single (sU (x:=([111,114],23)) (by decide)) rfl) rfl (aK _) (by decide)
 have K1:=K.up u1.up;refine .cs (X:=Ex × List Value × Hp) JH Z (λW s=>RT K1 hq 0 (by decide) (by decide) M 49 bS6 hop hmu (by decide +kernel) _ _ hs1 (s.p2_2 [1,0] Z)) Z λz1 hz1=>?_;obtain ⟨a1,c1,H2⟩:=z1;obtain ⟨hv1,u2,r1⟩:=hz1;dsimp only at hv1 u2 r1|-;obtain ⟨x1,x2,x3,x4,rfl⟩:=qA (iM r1);refine .sW fG Z Z dO (Rep.one r1) Z<|.nt<|.rt<|?_
 refine y8 Z (.cell Z fI dN rfl) λW s=>?_;exact ⟨(a1,[x1,x2,x3,x4],H2),⟨hv1,u1.trans u2,r1⟩,Z,s.p2_1 [0] rfl⟩
theorem cQ3 (M:Nat) (hop:ExC 90 (gX 2) M):ExC 49 (gX 1) M:=by
 intro H w0 W bs b n ts tp tc t0 t1 t2 t3 q K hq hmu s;refine fD func49 rfl ntmps49 rfl s ?_;refine .sr<|.al jX Z λb2=>.ns<|.mv Z<|.mv Z<|.yw (.mkF Z Z)<|.yw (.build Z (jK _ _))<|.bl Z (QL _ _) Z λb7=>?_
 refine dD λH1 u1 m1=>?_
 have hs1:Rep H1 (.seq 2 (([([97,110,100],22)]:List (Str × UInt8)).map dSy)) [.slice (some ⟨b7,0,none⟩) 1 1]:=by
  simp only [dT,jD];exact Rep.mk (n:=1) (c:=1) m1 (ds:=[dSy ([97,110,100],22)]) (.single (sU (x:=([97,110,100],22)) (by decide)) rfl) rfl (aK _) (by decide)
 have K1:=K.up u1.up;refine .cs (X:=Ex × List Value × Hp) JH Z (λW s=>RT K1 hq 1 (by decide) (by decide) M 90 bQ9 hop hmu (by decide +kernel) _ _ hs1 (s.p2_2 [1,0] Z)) Z λz1 hz1=>?_;obtain ⟨a1,c1,H2⟩:=z1;obtain ⟨hv1,u2,r1⟩:=hz1;dsimp only at hv1 u2 r1|-;obtain ⟨x1,x2,x3,x4,rfl⟩:=qA (iM r1);refine .sW fG Z Z dO (Rep.one r1) Z<|.nt<|.rt<|?_
 refine y8 Z (.cell Z fI dN rfl) λW s=>?_;exact ⟨(a1,[x1,x2,x3,x4],H2),⟨hv1,u1.trans u2,r1⟩,Z,s.p2_1 [0] rfl⟩
theorem cV1 (M:Nat) (hop:ExC 157 (gX 4) M):ExC 130 (gX 3) M:=by
 intro H w0 W bs b n ts tp tc t0 t1 t2 t3 q K hq hmu s;refine fD func130 rfl ntmps130 rfl s ?_;refine .sr<|.al jX Z λb2=>.ns<|.mv Z<|.mv Z<|.yw (.mkF Z Z)<|.yw (.build Z (jK _ _))<|.yw (.build Z (jK _ _))<|.bl Z (QK _ _ _ _) Z λb8=>?_
 refine dD λH1 u1 m1=>?_
 have hs1:Rep H1 (.seq 2 (([([43],14),([45],15)]:List (Str × UInt8)).map dSy)) [.slice (some ⟨b8,0,none⟩) 2 2]:=by
  simp only [dT,jD];exact Rep.mk (n:=2) (c:=2) m1 (ds:=[dSy ([43],14),dSy ([45],15)]) (dA.snoc (.single (sU (x:=([43],14)) (by decide)) rfl) (sU (x:=([45],15)) (by decide)) rfl) rfl (aK _) (by decide)
 have K1:=K.up u1.up;refine .cs (X:=Ex × List Value × Hp) JH Z (λW s=>RT K1 hq 3 (by decide) (by decide) M 157 aZ6 hop hmu (by decide +kernel) _ _ hs1 (s.p2_2 [1,0] Z)) Z λz1 hz1=>?_;obtain ⟨a1,c1,H2⟩:=z1;obtain ⟨hv1,u2,r1⟩:=hz1;dsimp only at hv1 u2 r1|-;obtain ⟨x1,x2,x3,x4,rfl⟩:=qA (iM r1);refine .sW fG Z Z dO (Rep.one r1) Z<|.nt<|.rt<|?_
 refine y8 Z (.cell Z fI dN rfl) λW s=>?_;exact ⟨(a1,[x1,x2,x3,x4],H2),⟨hv1,u1.trans u2,r1⟩,Z,s.p2_1 [0] rfl⟩
theorem aV4 (M:Nat) (hop:ExC 172 (gX 5) M):ExC 157 (gX 4) M:=by
 intro H w0 W bs b n ts tp tc t0 t1 t2 t3 q K hq hmu s;refine fD func157 rfl ntmps157 rfl s ?_;refine .sr<|.al jX Z λb2=>.ns<|.mv Z<|.mv Z<|.yw (.mkF Z Z)<|.yw (.build Z (jK _ _))<|.yw (.build Z (jK _ _))<|.yw (.build Z (jK _ _))<|.bl Z (aR4 _ _ _ _ _ _) Z λb9=>?_
 refine dD λH1 u1 m1=>?_
 have hs1:Rep H1 (.seq 2 (([([42],11),([47],12),([37],13)]:List (Str × UInt8)).map dSy)) [.slice (some ⟨b9,0,none⟩) 3 3]:=by
  simp only [dT,jD];exact Rep.mk (n:=3) (c:=3) m1 (ds:=[dSy ([42],11),dSy ([47],12),dSy ([37],13)]) (dA.snoc (dA.snoc (.single (sU (x:=([42],11)) (by decide)) rfl) (sU (x:=([47],12)) (by decide)) rfl) (sU (x:=([37],13)) (by decide)) rfl) rfl (aK _) (by decide)
 have K1:=K.up u1.up;refine .cs (X:=Ex × List Value × Hp) JH Z (λW s=>RT K1 hq 4 (by decide) (by decide) M 172 UQ hop hmu (by decide +kernel) _ _ hs1 (s.p2_2 [1,0] Z)) Z λz1 hz1=>?_;obtain ⟨a1,c1,H2⟩:=z1;obtain ⟨hv1,u2,r1⟩:=hz1;dsimp only at hv1 u2 r1|-;obtain ⟨x1,x2,x3,x4,rfl⟩:=qA (iM r1);refine .sW fG Z Z dO (Rep.one r1) Z<|.nt<|.rt<|?_
 refine y8 Z (.cell Z fI dN rfl) λW s=>?_;exact ⟨(a1,[x1,x2,x3,x4],H2),⟨hv1,u1.trans u2,r1⟩,Z,s.p2_1 [0] rfl⟩
variable {n:Nat} {q:Sg} {a:Ex}
theorem cQ6 {b:Ex} {op:UInt8} (hv1:vl (gX 3) q a) (hS:opF (qG 2) (up n (gX 3) q)=some op) (hv2:vl (gX 3) (up n (gX 3) q).tl b):up n (gX 3) (up n (gX 3) q).tl=up n (gX 2) q/\vl (gX 2) q (opE op [a,b]):=by
 rw [MH] at hS;have e:gK 2 op a b=eR (opE op [a,b]):=by unfold gK;rw [aE rfl]
 rw [OL (lv:=2) (by decide)];refine ⟨?_,aM hv1 (aT9 (by decide) hS (aM (n:=n) hv2 (by rw [e];exact dB)))⟩;rw [aO (Cz.ex _) hv1,aU1 (by decide) hS,aO (Cz.ex _) hv2,e,dE]
theorem cQ5 (hv1:vl (gX 3) q a) (hN:opF (qG 2) (up n (gX 3) q)=none):up n (gX 3) q=up n (gX 2) q/\vl (gX 2) q a:=by
 rw [MH] at hN;obtain ⟨e1,e2⟩:=bW3 (n:=n) (a:=a) hN;rw [OL (lv:=2) (by decide)];exact ⟨by rw [aO (Cz.ex _) hv1,e1],aM hv1 e2⟩
theorem cQ4 (M:Nat) (hop:ExC 130 (gX 3) M):ExC 90 (gX 2) M:=by
 intro H w0 W bs b n ts tp tc t0 t1 t2 t3 q K hq hmu s;refine fD func90 rfl ntmps90 rfl s ?_;refine .sr<|.al jX Z λb2=>.ns<|.mv Z<|.cs (X:=Ex × List Value × Hp) UV Z (λW s=>hop K hq hmu (s.p2_2 [1,0] Z)) Z λz1 hz1=>?_
 obtain ⟨a1,c1,H1⟩:=z1;obtain ⟨hv1,u1,r1⟩:=hz1;dsimp only at hv1 u1 r1|-;obtain ⟨x1,x2,x3,x4,rfl⟩:=qA (iM r1);have hq1:=(Suf.ex 3).up (n:=n) hq;refine .al jX Z λb3=>.sW .head Z Z dO (Rep.one r1) Z<|.ns<|.mv Z<|.yw (.build Z (jK _ _))<|.yw (.build Z (jK _ _))<|.yw (.build Z (jK _ _))<|.yw (.build Z (jK _ _))<|.yw (.build Z (jK _ _))<|.yw (.build Z (jK _ _))<|.bl Z (aR3 _ _ _ _ _ _ _ _ _ _ _ _) Z λb16=>?_
 refine dD λH2 u2 m2=>?_
 have hs1:Rep H2 (.seq 2 (([([61,61],16),([33,61],17),([60],18),([60,61],19),([62],20),([62,61],21)]:List (Str × UInt8)).map dSy)) [.slice (some ⟨b16,0,none⟩) 6 6]:=by
  simp only [dT,jD];exact Rep.mk (n:=6) (c:=6) m2 (ds:=[dSy ([61,61],16),dSy ([33,61],17),dSy ([60],18),dSy ([60,61],19),dSy ([62],20),dSy ([62,61],21)]) (dA.snoc (dA.snoc (dA.snoc (dA.snoc (dA.snoc (.single (sU (x:=([61,61],16)) (by decide)) rfl) (sU (x:=([33,61],17)) (by decide)) rfl) (sU (x:=([60],18)) (by decide)) rfl) (sU (x:=([60,61],19)) (by decide)) rfl) (sU (x:=([62],20)) (by decide)) rfl) (sU (x:=([62,61],21)) (by decide)) rfl) rfl (aK _) (by decide)
 have K2:=K.up (u1.trans u2).up;refine .cs (X:=Unit) PJ Z (λW s=>GY K2 hq1 (qG 2) (by decide +kernel) _ _ hs1 (s.p3_3 [1,0,2] Z)) Z λ_ _=>.mv Z<|.yw (.extract Z Z)<|.yw (.extract Z Z)<|.a Z Z<|.aq Z<|.cu (X:=(Ex × Value × Value × Value × Value) × Hp × Sg) [(2,_),(3,_)] ⟨Z,Z,Jt⟩ (λz=>[]) (λz=>z.2.1) (λz=>(.box b3 [z.1.2.1,z.1.2.2.1,z.1.2.2.2.1,z.1.2.2.2.2] 27::PB b tp ts tc n t0 t1 t2 t3 z.2.2::.box b2 [.int .u8 0,.string ⟨#[]⟩,.int .i64 0,.slice none 0 0] 27::bs)) (λz=>(z.2.2=up n (gX 2) q/\vl (gX 2) q z.1.1)/\HUp w0 H z.2.1/\Rep z.2.1 (dEx .u8 z.1.1) [z.1.2.1,z.1.2.2.1,z.1.2.2.2.1,z.1.2.2.2.2]) ?_ λz hC=>?_
 ·
  refine .sm Z<|.nt<|.cd Z (λh20=>?_) (λh20=>?_)
  ·obtain ⟨op,hS⟩:∃ op,opF (qG 2) (up n (gX 3) q)=some op:=kN.1 h20;rw [cA2 hS,hS];have hmu1:(up n (gX 3) q).tl.mu<M:=by have:=SS hS;have:=jE (n:=n) (s:=q) (Shs.gx 3).le (Cz.ex 3);omega
   refine .fL 6 [(0,0),(1,0),(2,0),(3,3),(4,1),(5,0)]<|.mv Z<|.yw (.loadW Z fI dN Z)<|.mv Z<|.c3 (X:=Ex × List Value × Hp) UV Z (λW s=>hop K2 (Suf.tl hq1) hmu1 (s.p3_3 [0,1,2] Z)) Z (λ_ _=>(.dn<|.yv (.loadW Z fI dN Z)<|.yv (.move Z)<|.nl)) λz2 hz2=>?_
   obtain ⟨a2,c2,H3⟩:=z2;obtain ⟨hv2,u3,r2⟩:=hz2;dsimp only at hv2 u3 r2|-;obtain ⟨w1,w2,w3,w4,rfl⟩:=qA (iM r2);exact .blF Z (VH _ _ _ _ _ _ _ _) Z λb25 H4 u4 m4=>.yw (.build Z (GK _ _ _ _))<|.fn (tl:=[_]) Z<|.sW fG Z Z dO (by simp [Value.oneCell']) Z<|.nt<|.me ((opE op [a1,a2],.int .u8 op.toNat,.string ⟨#[]⟩,.int .i64 0,.slice (some ⟨b25,0,none⟩) 2 2),H4,up n (gX 3) (up n (gX 3) q).tl) trivial ⟨Z,Z,Jt⟩ (λ_ s=>(s.p3_3 [1,0,2] Z)) ⟨cQ6 hv1 hS hv2,u1.trans (u2.trans (u3.trans u4)),iE (op:=op) (nm:=[]) (n:=0) (args:=[a1,a2]) (by decide) (Rep.mk (n:=2) (c:=2) m4 (dA.app (dA.single (r1.up (u2.trans (u3.trans u4)).up) Z) (dA.single (r2.up u4.up) Z)) Z (aK _) (by decide))⟩
  have hN:opF (qG 2) (up n (gX 3) q)=none:=by simpa using h20
  rw [cA3 hN];exact .sk<|.tN<|.me ((a1,x1,x2,x3,x4),H2,up n (gX 3) q) trivial ⟨Z,Z,Jt⟩ (λ_ s=>(s.p3_3 [1,0,2] Z)) ⟨cQ5 hv1 hN,u1.trans u2,r1.up u2.up⟩
 obtain ⟨⟨a5,y1,y2,y3,y4⟩,H5,q5⟩:=z;obtain ⟨⟨e5,hv5⟩,u5,r5⟩:=hC;dsimp only at e5 hv5 u5 r5|-;subst e5;refine .sr<|.yw (.loadW Z fI Hm Z)<|.sW fU Z Z dO (Rep.one r5) Z<|.nt<|.rt<|?_
 refine y8 Z (.cell Z fI fN rfl) λW s=>?_;exact ⟨(a5,[y1,y2,y3,y4],H5),⟨hv5,u5,r5⟩,Z,s.p3_1 [1] rfl⟩
theorem cS7 (hN:opF [([45],9),([110,111,116],10)] q=none) (hv:vl gY q a):up n (gX 5) q=up n gY q/\vl (gX 5) q a:=by
 have h:=(wI.1 hN);rw [List.find?_eq_none] at h;have h1:ac [45] q=false:=by have:=h ([45],9) (by simp);simpa using this
 have h2:ac [110,111,116] q=false:=by have:=h ([110,111,116],10) (by simp);simpa using this
 rw [GL,RG];exact ⟨by rw [aZ h1,aZ h2],aY h1 (aY h2 hv)⟩
theorem cS6 {op:UInt8} (hS:opF [([45],9),([110,111,116],10)] q=some op) (hv:vl (gX 5) q.tl a):up n (gX 5) q=up n (gX 5) q.tl/\vl (gX 5) q (opE op [a]):=by
 obtain ⟨x,hx,e⟩:=eC.1 hS;have hp:=List.find?_some (p:=λx:Str × UInt8=>ac x.1 q) hx;rcases bJ.1 (List.mem_of_find?_eq_some hx) with rfl | hm
 ·have h1:ac [45] q=true:=hp;obtain rfl:9=op:=e;rw [show up n (gX 5) q=up n (gX 5) q.tl by conv=>lhs;rw [GL,eU h1,BB]];exact ⟨Z,by rw [GL];exact eG h1 (yL (f:=λx=>opE 9 [x]) hv)⟩
 ·obtain rfl:=dQ.1 hm;have h1:ac [45] q=false:=gP (w:=[110,111,116]) hp (by decide);have h2:ac [110,111,116] q=true:=hp;obtain rfl:10=op:=e;rw [show up n (gX 5) q=up n (gX 5) q.tl by conv=>lhs;rw [GL,aZ h1,eU h2,BB]];exact ⟨Z,by rw [GL];exact aY h1 (eG h2 (yL (f:=λx=>opE 10 [x]) hv))⟩
theorem bW6 (M:Nat) (hun:ExC 172 (gX 5) M) (hprim:ExC 182 gY (M+1)):ExC 172 (gX 5) (M+1):=by
 intro H w0 W bs b n ts tp tc t0 t1 t2 t3 q K hq hmu s;refine fD func172 rfl ntmps172 rfl s ?_;refine .sr<|.al jX Z λb2=>.ns<|.mv Z<|.yw (.build Z (jK _ _))<|.yw (.build Z (jK _ _))<|.bl Z (QK _ _ _ _) Z λb9=>?_
 refine dD λH1 u1 m1=>?_
 have hs1:Rep H1 (.seq 2 (([([45],9),([110,111,116],10)]:List (Str × UInt8)).map dSy)) [.slice (some ⟨b9,0,none⟩) 2 2]:=by
  simp only [dT,jD];exact Rep.mk (n:=2) (c:=2) m1 (ds:=[dSy ([45],9),dSy ([110,111,116],10)]) (dA.snoc (.single (sU (x:=([45],9)) (by decide)) rfl) (sU (x:=([110,111,116],10)) (by decide)) rfl) rfl (aK _) (by decide)
 have K1:=K.up u1.up;refine .cs (X:=Unit) PJ Z (λW s=>GY K1 hq [([45],9),([110,111,116],10)] (by decide +kernel) _ _ hs1 (s.p2_2 [1,0] Z)) Z λ_ _=>.mv Z<|.yw (.extract Z Z)<|.yw (.extract Z Z)<|.a Z Z<|.aq Z<|.sq<|.sm Z<|.yw (.not Z)<|.nt<|.cd Z (λh14=>?_) (λh14=>?_)
 ·have hN:opF [([45],9),([110,111,116],10)] q=none:=by simpa using h14
  rw [cA3 hN];refine .sm Z<|.cs (X:=Ex × List Value × Hp) aZ2 Z (λW s=>hprim K1 hq hmu (s.p2_2 [0,1] Z)) Z λz1 hz1=>?_
  obtain ⟨a1,c1,H2⟩:=z1;obtain ⟨hv1,u2,r1⟩:=hz1;dsimp only at hv1 u2 r1|-;obtain ⟨x1,x2,x3,x4,rfl⟩:=qA (iM r1);refine .sW fG Z Z dO (Rep.one r1) Z<|.nt<|.rt<|.tR<|?_
  refine y8 Z (.cell Z fI dN rfl) λW s=>?_;rw [(cS7 (n:=n) hN hv1).1];exact ⟨(a1,[x1,x2,x3,x4],H2),⟨(cS7 (n:=n) hN hv1).2,u1.trans u2,r1⟩,Z,s.p2_1 [0] rfl⟩
 obtain ⟨op,hS⟩:∃ op,opF [([45],9),([110,111,116],10)] q=some op:=kN.1 (by simpa using h14);rw [cA2 hS,hS];have hmu1:q.tl.mu<M:=by have:=SS hS;omega
 refine .sk<|.tN<|.sm Z<|.mv Z<|.cs (X:=Ex × List Value × Hp) UQ Z (λW s=>hun K1 (Suf.tl hq) hmu1 (s.p2_2 [0,1] Z)) Z λz1 hz1=>?_
 obtain ⟨a1,c1,H2⟩:=z1;obtain ⟨hv1,u2,r1⟩:=hz1;dsimp only at hv1 u2 r1|-;obtain ⟨x1,x2,x3,x4,rfl⟩:=qA (iM r1);refine .bl Z (kL _ _ _ _) Z λb20=>?_;refine dD λH3 u3 m3=>?_;refine .yw (.build Z (GK _ _ _ _))<|.sW fG Z Z dO (by simp [Value.oneCell']) Z<|.nt<|.rt<|?_
 refine y8 Z (.cell Z fI dN rfl) λW s=>?_;rw [(cS6 (n:=n) hS hv1).1];exact ⟨(opE op [a1],[.int .u8 op.toNat,.string ⟨#[]⟩,.int .i64 0,.slice (some ⟨b20,0,none⟩) 1 1],H3),⟨(cS6 (n:=n) hS hv1).2,u1.trans (u2.trans u3),iE (op:=op) (nm:=[]) (n:=0) (args:=[a1]) (by decide) (Rep.mk (n:=1) (c:=1) m3 (.single (r1.up u3.up) rfl) rfl (aK _) (by decide))⟩,Z,s.p2_1 [0] rfl⟩
def gKy (op:UInt8) (nm:Str):Pz Ex:=cK (gNd [91]) λ_=>aN9 op nm
theorem OH (op:UInt8) (nm:Str) (hv:vl (gX 0) (up n (gNd [91]) q) a):up n (gKy op nm) q=up n (gNd [93]) (up n (gX 0) (up n (gNd [91]) q))/\vl (gKy op nm) q (.mk op nm 0 [a]):=by
 unfold gKy aN9;refine ⟨?_,aM (n:=n) (x:=()) aU (aM (n:=n) hv (aM (n:=n) (x:=()) aU dB))⟩;rw [aO (x:=()) (Cz.nd _) aU,aO (Cz.ex _) hv,aO (x:=()) (Cz.nd _) aU,dE]
variable {H:Hp} {w0 W:World} {bs:List Res} {ts:List Tk} {tp:Option Addr} {tc:Nat} {t0 t1 t2 t3:Value}
theorem cC8 (M:Nat) (hex:ExC 23 (gX 0) M) {b:Nat} (K:Tkm H ts tp tc) (hq:q.r<:+ts) (op:UInt8) (nm:Str) (hn:nm.length<=1000000) (hm:(up n (gNd [91]) q).mu<M) (s:St H w0 (PB b tp ts tc n t0 t1 t2 t3 q::bs) W) :
 Calls prg 185 #[.pointer (some ⟨b,0,none⟩),.int .u8 op.toNat,cJ nm] W λe W'=>∃ z:Ex × List Value × Hp,(vl (gKy op nm) q z.1/\HUp w0 H z.2.2/\Rep z.2.2 (dEx .u8 z.1) z.2.1)/\e=.returned (.agg z.2.1.toArray)/\St z.2.2 w0 (PB b tp ts tc n t0 t1 t2 t3 (up n (gKy op nm) q)::bs) W':=by
 refine fD func185 rfl ntmps185 rfl s ?_;refine .sr<|.al jX Z λb6=>.ns<|.mv Z<|.cs (X:=Unit) eK Z (λW s=>eN K hq [91] (by decide +kernel) (s.p2_2 [1,0] Z)) Z λ_ _=>.ns<|.mv Z<|.cs (X:=Ex × List Value × Hp) nN Z (λW s=>hex K ((Suf.nd _).up hq) hm (s.p2_2 [0,1] Z)) Z λz1 hz1=>?_
 obtain ⟨a1,c1,H1⟩:=z1;obtain ⟨hv1,u1,r1⟩:=hz1;dsimp only at hv1 u1 r1|-;obtain ⟨x1,x2,x3,x4,rfl⟩:=qA (iM r1);have K1:=K.up u1.up;refine .al jX Z λb7=>.sW .head Z Z dO (Rep.one r1) Z<|.ns<|.mv Z<|.cs (X:=Unit) eK Z (λW s=>eN K1 ((Suf.ex 0).up ((Suf.nd _).up hq)) [93] (by decide +kernel) (s.p3_3 [1,0,2] Z)) Z λ_ _=>.ns<|.mv Z<|.mv Z<|.yw (.loadW Z fI dN Z)<|.bl Z (kL _ _ _ _) Z λb17=>?_
 refine dD λH2 u2 m2=>?_;refine .yw (.build Z (VJ _ _ _ _ _))<|.sX fU Z Z dO Z<|.nt<|.rt<|?_
 refine y8 Z (.cell Z fI fN rfl) λW s=>?_;rw [(OH (n:=n) op nm hv1).1];exact ⟨(.mk op nm 0 [a1],[.int .u8 op.toNat,cJ nm,.int .i64 0,.slice (some ⟨b17,0,none⟩) 1 1],H2),⟨(OH (n:=n) op nm hv1).2,u1.trans u2,iE (op:=op) (nm:=nm) (n:=0) (args:=[a1]) hn (Rep.mk (n:=1) (c:=1) m2 (.single (r1.up u2.up) rfl) rfl (aK _) (by decide))⟩,Z,s.p3_1 [0] rfl⟩
theorem bG7 {r:List Tk} :aN4 r=decide ((((tkH n r).k.toNat:Nat):Int)=3):=by
 cases r with
 | nil=>rfl
 | cons t l =>
  show decide (t.k=3)=decide (((t.k.toNat:Nat):Int)=3);rw [bD,aB,aB];exact ⟨λh=>by rw [h];rfl,λh=>bT.1 (by show t.k.toNat=3;omega)⟩
theorem bG5 (h:decide ((((tkH n q.r).k.toNat:Nat):Int)=3)=true):BM q.r=cD9 q.r:=by
 unfold BM;rw [bG7 (n:=n),aE h]
theorem TE (h:decide ((((tkH n q.r).k.toNat:Nat):Int)=3)=false):BM q.r=VU q.r:=by
 unfold BM;rw [bG7 (n:=n),aA (by rw [h];decide)]
theorem bW4 {α:Type} {g g':Pz α} (h:g q.r=g' q.r):up n g q=up n g' q:=by unfold up;rw [h]
theorem cS3 {α:Type} {g g':Pz α} {x:α} (h:g q.r=g' q.r) (k:vl g' q x):vl g q x:=λh0 a r e=>k h0 a r (by rw [<-h];exact e)
theorem aM6 {v:Int64} (h:decide ((((tkH n q.r).k.toNat:Nat):Int)=3)=true) (hv:vl gNu q v):vl BM q (.mk 1 [] v []):=cS3 (bG5 h) (yL (f:=λv=>Ex.mk 1 [] v []) hv)
theorem XU (h:decide ((((tkH n q.r).k.toNat:Nat):Int)=3)=true):up n BM q=up n gNu q:=by rw [bW4 (bG5 h)];exact BB
theorem MN {x:Ex} (h:decide ((((tkH n q.r).k.toNat:Nat):Int)=3)=false) (hx:vl VU q x):vl BM q x:=cS3 (TE h) hx
theorem cC7 {nm:Str} (h:ac [91] q=true) (hv:vl (gKy 6 nm) q a):vl (aN9 6 nm) q.tl a:=by
 obtain ⟨h0,h1⟩:=WF h;intro _ x r e;refine hv h0 x r ?_;unfold gKy cK gNd;rw [aE h1];exact e
theorem aM7 {nm:Str} (h:decide ((((tkH n q.r).k.toNat:Nat):Int)=3)=false) (hv:vl gNm q nm) (h1:ac [91] (up n gNm q)=true):up n BM q=up n (gKy 6 nm) (up n gNm q):=by
 rw [bW4 (TE h)];unfold VU gKy;rw [aO Cz.nm hv,eU h1,aO (x:=()) (Cz.nd _) aU,FO h1]
theorem XV {nm:Str} (h:decide ((((tkH n q.r).k.toNat:Nat):Int)=3)=false) (hv:vl gNm q nm) (h1:ac [91] (up n gNm q)=false):up n BM q=up n gNm q:=by
 rw [bW4 (TE h)];unfold VU;rw [aO Cz.nm hv,aZ h1,dE]
theorem aV5 (M:Nat) (hex:ExC 23 (gX 0) M):ExC 182 gY (M+1):=by
 intro H w0 W bs b n ts tp tc t0 t1 t2 t3 q K hq hmu s;refine fD func182 rfl ntmps182 rfl s ?_;refine .sr<|.al jX Z λb2=>.nt<|.sq<|.bk<|.sm Z<|.cs (X:=Unit) gW Z (λW s=>gZ K hq [116,114,117,101] (by decide +kernel) (s.p2_2 [1,0] Z)) Z λ_ _=>.aq Z<|.cd Z (λh5=>?_) (λh5=>?_)
 ·rw [iS h5];refine .sr<|.yw (.build Z (LY _))<|.sX fG Z Z dO Z<|.zR<|?_
  refine y8 Z (.cell Z fI dN rfl) λW s=>?_;rw [show up n gY q=q.tl by unfold gY;rw [eU h5,dE]];exact ⟨(opE 2 [],[.int .u8 2,.string ⟨#[]⟩,.int .i64 0,.slice none 0 0],H),⟨(by unfold gY;exact eG h5 (dB)),.refl,iE (op:=2) (nm:=[]) (n:=0) (args:=[]) (by decide) (Rep.empty (p:=none) (c:=0) (by decide))⟩,Z,s.p2_1 [0] rfl⟩
 rw [iT h5];refine .sm Z<|.cs (X:=Unit) gW Z (λW s=>gZ K hq [102,97,108,115,101] (by decide +kernel) (s.p2_2 [0,1] Z)) Z λ_ _=>.aq Z<|.cd Z (λh9=>?_) (λh9=>?_)
 ·rw [iS h9];refine .sr<|.yw (.build Z (LY _))<|.sX fG Z Z dO Z<|.zR<|?_
  refine y8 Z (.cell Z fI dN rfl) λW s=>?_;rw [show up n gY q=q.tl by unfold gY;rw [aZ h5,eU h9,dE]];exact ⟨(opE 3 [],[.int .u8 3,.string ⟨#[]⟩,.int .i64 0,.slice none 0 0],H),⟨(by unfold gY;exact aY h5 (eG h9 (dB))),.refl,iE (op:=3) (nm:=[]) (n:=0) (args:=[]) (by decide) (Rep.empty (p:=none) (c:=0) (by decide))⟩,Z,s.p2_1 [0] rfl⟩
 rw [iT h9];refine .sm Z<|.cs (X:=Unit) gW Z (λW s=>gZ K hq [110,111,119] (by decide +kernel) (s.p2_2 [0,1] Z)) Z λ_ _=>.aq Z<|.cd Z (λh13=>?_) (λh13=>?_)
 ·rw [iS h13];refine .sr<|.yw (.build Z (LY _))<|.sX fG Z Z dO Z<|.zR<|?_
  refine y8 Z (.cell Z fI dN rfl) λW s=>?_;rw [show up n gY q=q.tl by unfold gY;rw [aZ h5,aZ h9,eU h13,dE]];exact ⟨(opE 4 [],[.int .u8 4,.string ⟨#[]⟩,.int .i64 0,.slice none 0 0],H),⟨(by unfold gY;exact aY h5 (aY h9 (eG h13 (dB)))),.refl,iE (op:=4) (nm:=[]) (n:=0) (args:=[]) (by decide) (Rep.empty (p:=none) (c:=0) (by decide))⟩,Z,s.p2_1 [0] rfl⟩
 rw [iT h13];refine .sm Z<|.cs (X:=Unit) gW Z (λW s=>gZ K hq [115,105,122,101] (by decide +kernel) (s.p2_2 [0,1] Z)) Z λ_ _=>.aq Z<|.cd Z (λh17=>?_) (λh17=>?_)
 ·rw [iS h17];refine .sm Z<|.cs (X:=Str) nE Z (λW s=>rX K (Suf.tl hq)  (s.p2_2 [0,1] Z)) Z λnm hnm=>.yw (.build Z (NO _ _))<|.sX fG Z Z dO Z<|.zR<|?_
  refine y8 Z (.cell Z fI dN rfl) λW s=>?_;rw [show up n gY q=up n gNm q.tl by unfold gY;rw [aZ h5,aZ h9,aZ h13,eU h17,BB]];exact ⟨(.mk 8 nm 0 [],[.int .u8 8,cJ nm,.int .i64 0,.slice none 0 0],H),⟨(by unfold gY;exact aY h5 (aY h9 (aY h13 (eG h17 (yL (f:=λs=>Ex.mk 8 s 0 []) hnm.1))))),.refl,iE (op:=8) (nm:=nm) (n:=0) (args:=[]) hnm.2 (Rep.empty (p:=none) (c:=0) (by decide))⟩,Z,s.p2_1 [0] rfl⟩
 rw [iT h17];refine .sm Z<|.cs (X:=Unit) gW Z (λW s=>gZ K hq [104,97,115] (by decide +kernel) (s.p2_2 [0,1] Z)) Z λ_ _=>.aq Z<|.cd Z (λh23=>?_) (λh23=>?_)
 ·rw [iS h23];have hlt:=qH h23;refine .sm Z<|.mv Z<|.cs (X:=Str) nE Z (λW s=>rX K (Suf.tl hq)  (s.p2_2 [0,1] Z)) Z λnm hnm=>.cs (X:=Ex × List Value × Hp) UN Z (λW s=>cC8 M hex K (Suf.nm.up (Suf.tl hq)) 7 nm hnm.2 (by have h1:=jE (n:=n) (s:=q.tl) Shs.nm.le Cz.nm;have h2:=jE (n:=n) (s:=up n gNm q.tl) (Shs.nd [91]).le (Cz.nd [91]);omega) (s.p2_2 [0,1] Z)) Z λz1 hz1=>?_
  obtain ⟨a1,c1,H1⟩:=z1;obtain ⟨hv1,u1,r1⟩:=hz1;dsimp only at hv1 u1 r1|-;obtain ⟨x1,x2,x3,x4,rfl⟩:=qA (iM r1);have K1:=K.up u1.up;refine .sW fG Z Z dO (Rep.one r1) Z<|.zR<|?_
  refine y8 Z (.cell Z fI dN rfl) λW s=>?_;rw [show up n gY q=up n (gKy 7 nm) (up n gNm q.tl) by unfold gY;rw [aZ h5,aZ h9,aZ h13,aZ h17,eU h23,aO Cz.nm hnm.1];rfl];exact ⟨(a1,[x1,x2,x3,x4],H1),⟨(by unfold gY;exact aY h5 (aY h9 (aY h13 (aY h17 (eG h23 (aM (n:=n) hnm.1 hv1)))))),u1,r1⟩,Z,s.p2_1 [0] rfl⟩
 rw [iT h23];refine .sm Z<|.cs (X:=Unit) gW Z (λW s=>gZ K hq [40] (by decide +kernel) (s.p2_2 [0,1] Z)) Z λ_ _=>.aq Z<|.cd Z (λh30=>?_) (λh30=>?_)
 ·rw [iS h30];have hlt:=qH h30;refine .sm Z<|.cs (X:=Ex × List Value × Hp) nN Z (λW s=>hex K (Suf.tl hq) (by omega) (s.p2_2 [0,1] Z)) Z λz1 hz1=>?_
  obtain ⟨a1,c1,H1⟩:=z1;obtain ⟨hv1,u1,r1⟩:=hz1;dsimp only at hv1 u1 r1|-;obtain ⟨x1,x2,x3,x4,rfl⟩:=qA (iM r1);have K1:=K.up u1.up;refine .al jX Z λb3=>.sW .head Z Z dO (Rep.one r1) Z<|.ns<|.mv Z<|.cs (X:=Unit) eK Z (λW s=>eN K1 ((Suf.ex 0).up (Suf.tl hq)) [41] (by decide +kernel) (s.p3_3 [1,0,2] Z)) Z λ_ _=>.ns<|.yw (.loadW Z fI dN Z)<|.sW fU Z Z dO (Rep.one r1) Z<|.zR<|?_
  refine y8 Z (.cell Z fI fN rfl) λW s=>?_;rw [show up n gY q=up n (gNd [41]) (up n (gX 0) q.tl) by unfold gY;rw [aZ h5,aZ h9,aZ h13,aZ h17,aZ h23,eU h30,aO (Cz.ex _) hv1,aO (x:=()) (Cz.nd _) aU,dE]];exact ⟨(a1,[x1,x2,x3,x4],H1),⟨(by unfold gY;exact aY h5 (aY h9 (aY h13 (aY h17 (aY h23 (eG h30 (aM (n:=n) hv1 (aM (n:=n) (x:=()) aU dB)))))))),u1,r1⟩,Z,s.p3_1 [0] rfl⟩
 rw [iT h30];refine .sm Z<|.cs (X:=Unit) FI Z (λW s=>GU K hq  (s.p2_2 [0,1] Z)) Z λ_ _=>.yw (.fld Z (cP3 _ _ _))<|.yw (.eql Z Z)<|.aq Z<|.cd Z (λh38=>?_) (λh38=>?_)
 ·refine .sm Z<|.cs (X:=Int64) LU Z (λW s=>OE K hq  (s.p2_2 [0,1] Z)) Z λnu hnu=>.yw (.build Z (aG5 _ _))<|.sX fG Z Z dO Z<|.zR<|?_
  refine y8 Z (.cell Z fI dN rfl) λW s=>?_;rw [show up n gY q=up n gNu q by unfold gY;rw [aZ h5,aZ h9,aZ h13,aZ h17,aZ h23,aZ h30];exact XU h38];exact ⟨(.mk 1 [] nu [],[.int .u8 1,.string ⟨#[]⟩,.int .i64 nu.toInt,.slice none 0 0],H),⟨(by unfold gY;exact aY h5 (aY h9 (aY h13 (aY h17 (aY h23 (aY h30 (aM6 h38 hnu))))))),.refl,iE (op:=1) (nm:=[]) (n:=nu) (args:=[]) (by decide) (Rep.empty (p:=none) (c:=0) (by decide))⟩,Z,s.p2_1 [0] rfl⟩
 refine .sk<|.bN<|.tN<|.sm Z<|.cs (X:=Str) nE Z (λW s=>rX K hq  (s.p2_2 [0,1] Z)) Z λnm hnm=>.aq Z<|.sq<|.sm Z<|.cs (X:=Unit) GI Z (λW s=>cD1 K (Suf.nm.up hq) [91] (by decide +kernel) (s.p2_2 [0,1] Z)) Z λ_ _=>.nt<|.cd Z (λh49=>?_) (λh49=>?_)
 ·have hlt:=qH h49;have hle:=jE (n:=n) (s:=q) Shs.nm.le Cz.nm;refine .sm Z<|.mv Z<|.cs (X:=Ex × List Value × Hp) UN Z (λW s=>cC8 M hex K (Suf.nm.up hq) 6 nm hnm.2 (by rw [FO h49];omega) (s.p2_2 [0,1] Z)) Z λz1 hz1=>?_
  obtain ⟨a1,c1,H1⟩:=z1;obtain ⟨hv1,u1,r1⟩:=hz1;dsimp only at hv1 u1 r1|-;obtain ⟨x1,x2,x3,x4,rfl⟩:=qA (iM r1);have K1:=K.up u1.up;have hk1:vl (aN9 6 nm) (up n gNm q).tl a1:=cC7 h49 hv1;refine .sW fG Z Z dO (Rep.one r1) Z<|.nt<|.rt<|.tR<|?_
  refine y8 Z (.cell Z fI dN rfl) λW s=>?_;rw [show up n gY q=up n (gKy 6 nm) (up n gNm q) by unfold gY;rw [aZ h5,aZ h9,aZ h13,aZ h17,aZ h23,aZ h30];exact aM7 h38 hnm.1 h49];exact ⟨(a1,[x1,x2,x3,x4],H1),⟨(by unfold gY;exact aY h5 (aY h9 (aY h13 (aY h17 (aY h23 (aY h30 (MN h38 (aM (n:=n) hnm.1 (eG h49 hk1))))))))),u1,r1⟩,Z,s.p2_1 [0] rfl⟩
 refine .sk<|.tN<|.sm Z<|.yw (.build Z (NO _ _))<|.sX fG Z Z dO Z<|.nt<|.rt<|?_
 refine y8 Z (.cell Z fI dN rfl) λW s=>?_;rw [show up n gY q=up n gNm q by unfold gY;rw [aZ h5,aZ h9,aZ h13,aZ h17,aZ h23,aZ h30];exact XV h38 hnm.1 h49];exact ⟨(.mk 5 nm 0 [],[.int .u8 5,cJ nm,.int .i64 0,.slice none 0 0],H),⟨(by unfold gY;exact aY h5 (aY h9 (aY h13 (aY h17 (aY h23 (aY h30 (MN h38 (aM (n:=n) hnm.1 (aY h49 dB))))))))),.refl,iE (op:=5) (nm:=nm) (n:=0) (args:=[]) hnm.2 (Rep.empty (p:=none) (c:=0) (by decide))⟩,Z,s.p2_1 [0] rfl⟩
theorem XT:∀ M,ExC 23 (gX 0) M/\ExC 172 (gX 5) M
 | 0=>⟨ExC.zero _ _,ExC.zero _ _⟩
 | M+1=>by
  obtain ⟨h1,h2⟩:=XT M;have hp:ExC 182 gY (M+1):=aV5 M h1;have hu:ExC 172 (gX 5) (M+1):=bW6 M h2 hp;exact ⟨cP5 _ (cQ3 _ (cQ4 _ (cV1 _ (aV4 _ hu)))),hu⟩
theorem sG {b:Nat} (K:Tkm H ts tp tc) (hq:q.r<:+ts) (s:St H w0 (PB b tp ts tc n t0 t1 t2 t3 q::bs) W):Calls prg 23 #[.pointer (some ⟨b,0,none⟩)] W λe W'=>∃ z:Ex × List Value × Hp,(vl (gX 0) q z.1/\HUp w0 H z.2.2/\Rep z.2.2 (dEx .u8 z.1) z.2.1)/\e=.returned (.agg z.2.1.toArray)/\St z.2.2 w0 (PB b tp ts tc n t0 t1 t2 t3 (up n (gX 0) q)::bs) W':=(XT (q.mu+1)).1 K hq (wO _) s
end Go.Proofs.YthhoebdlfjffkaaGreatDoor
namespace Go.Sx
open Go.RowKit Go.Par
def Qn (Q:Exit->Act->World->Prop):Exit->Act->World->Prop
 | .normal=>Q .normal
 | _=>λ_ _=>False
def cT4 (l:List Oper):Bool:=l.all λo=>match o.op with | .defer _=>false | _=>true
section
variable {dfs:List Deferred} {P:Program} {n m:Nat} {L:Sl} {H:Hp} {w0:World} {bs:List Res} {Q:Exit->Act->World->Prop} {ops:Array Oper} {F:Fence}
theorem aH1 [hF:FW F] {o:Oper} {a:Act} {w:World} {K:Act->World->Prop} (hd:∀ c,o.op≠.defer c) (h:o.wp P a w K (Qn Q)):o.wpIn F m P a w K Q:=by
 unfold Oper.wpIn;refine ⟨λf _=>hF.fn f,?_⟩;rw [Oper.semAt_plain F _ _ hd];unfold Oper.wp at h;generalize (execOp a.eval o).run P w=r at *;cases r with
 | ok z w' =>
  cases z <;> simp only [Oper.upon] at h <;> simp only [Oper.uponIn]
  case value u=>exact h
  case skip=>exact h
  case defer d=>exact h
  case enter f args =>
   refine ⟨λe=>(by rw [hF.depth] at e;cases e),hF.calls (h.mono ?_)⟩;intro e w'' q;cases e with
   | returned v=>exact q
   | panicked c=>exact q.elim
   | outgrown=>obtain ⟨_,_,q⟩:=q;exact q.elim
  case row rw args=>exact ⟨λe=>(by rw [hF.depth] at e;cases e),hF.rows h⟩
 | halt z w' =>
  cases z <;> simp only [Oper.upon] at h <;> exact h.elim
theorem bI3 [hF:FW F] (hd:∀ (i:Nat) o,ops[i]? = some o->∀ c,o.op≠.defer c):∀ (fuel:Nat) (listed:Array Bool) (a:Act) (w:World),wpAny P .any ops (Qn Q) fuel listed a w->wpAnyIn F m P .any ops Q fuel listed a w
 | 0,_,_,_,h=>h
 | fuel+1,listed,a,w,h=>by
  refine ⟨h.1,λi hi=>?_⟩;have h1:=h.2 i hi;unfold wpOp at h1;unfold wpOpIn;cases ho:ops[i]? with
  | none =>
   rw [ho] at h1;exact bI3 hd fuel _ _ _ h1
  | some o =>
   rw [ho] at h1;dsimp only at h1|-;cases hw:Region.wanted o (yielded ops a.tmps) with
   | true =>
    rw [hw] at h1;simp only [aN] at h1|-;rcases h1 with h1 | ⟨_,_,_,h1⟩
    ·exact Oper.wpIn_mono (λa w k=>bI3 hd fuel _ a w k) (aH1 (hd i o ho) h1)
    ·exact h1.elim
   | false =>
    rw [hw] at h1;simp only [aC,aL] at h1|-;exact ⟨λf _=>hF.fn f,bI3 hd fuel _ _ _ h1⟩
theorem cB0 {l:List Oper} (h:cT4 l=true):∀ (i:Nat) o,l.toArray[i]? = some o->∀ c,o.op≠.defer c:=by
 intro i o ho c e;have hm:o∈l:=Al_List_mem_of_getElem? (by simpa using ho);have:=aP.1 h o hm;rw [e] at this;cases this
theorem At.flI [FW F] {id:Nat} {l:List Oper} {trip:List (Nat × Nat × Oper)} (nn:Nat) (ord:List (Nat × Nat)) (hm:P.follows .mixedOrders=true) (hB:YC l.toArray nn ord=true) (hd:cT4 l=true) (ht:ord.map (λx=>(x.1,x.2,l[x.1]!))=trip)
 (h:fF dfs P l.toArray nn w0 n (λL H bs=>At dfs n L H w0 bs (wpList P l.toArray (Qn Q) (l.drop nn))) trip [] L H bs):At dfs n L H w0 bs ((Code.region id l.toArray true).wpIn F m P Q) :=
 λa W f s=>wpIn_region_any hm (bI3 (cB0 hd) _ _ _ _ (bH4 nn ord hB ht h a W f s))
theorem At.nlQ (h:At dfs n L H w0 bs (Q .normal)):At dfs n L H w0 bs (wpList P ops (Qn Q) []):=h
theorem At.bkI {id:Nat} {c:Code} (h:At dfs n L H w0 bs (c.wpIn F m P (Exit.inBlock id Q))):At dfs n L H w0 bs ((Code.block id c).wpIn F m P Q):=λa W f s=>wpIn_block (h a W f s)
end
structure Apx (H:Hp) (p:Nat) (fx:List Res) (TX:TypeId) (cs:List Value) (b:Nat) (W:World):Prop where
 blk:W.heap[b]? = some (.cells cs.toArray TX (0,0))
 new:H b=none
 head:∃ u l t m,W.heap[p]? = some (.cells (u::l).toArray t m)/\u.ownBlock≠some b
 ne:b≠p
 fix:∀ x∈fx,x.blk≠some b
variable {H:Hp}
theorem Apx.grow {p b:Nat} {fx:List Res} {TX:TypeId} {cs:List Value} {A B:World} {row:Option Nat} (h:Apx H p fx TX cs b A) (g:A.grownBy B row) (hr:∀ r,row=some r->∃ o:Obj,A.heap[r]? = some o/\o.isCells=false):Apx H p fx TX cs b B:=by
 have key:∀ {k:Nat} {arr:Array Value} {t:TypeId} {m:Nat × Nat},A.heap[k]? = some (Obj.cells arr t m)->B.heap[k]? = some (Obj.cells arr t m):=λ{k arr t m} hk=>by
  rw [<-hk];refine g.block k (sI hk) λe=>?_;obtain ⟨o,h1,h2⟩:=hr k e.symm;rw [hk] at h1;cases h1;cases h2
 obtain ⟨u,l,t,m,h1,h2⟩:=h.head;exact ⟨key h.blk,h.new,⟨u,l,t,m,key h1,h2⟩,h.ne,h.fix⟩
section
variable {H:Hp} {w0:World}
def rsB (e:TypeId) (size p:Nat) (T:TypeId) (fx:List Res) (v:Value) (k:Nat) (xs l:List Value):List Res:=.row e size v k xs::.box p (v::l) T::fx
theorem Apx.of {p b size k:Nat} {e T TX:TypeId} {fx tl:List Res} {v:Value} {xs l cs:List Value} {W:World} (s:St H w0 (.box b cs TX::(rsB e size p T fx v k xs l++tl)) W):Apx H p fx TX cs b W:=by
 have hb:=s.own _ (eE ..);have ha:=(lR.1 s.apart).1;refine ⟨hb.1.2,hb.2 b rfl,⟨v,l,T,_,(s.own (.box p (v::l) T) (by simp [rsB])).1.2,λe=>ha (.row _ _ v _ _) (by simp [rsB];exact .inl ⟨Z,Z,Z,Z⟩) b rfl e⟩,λe=>ha (.box p (v::l) T) (by simp [rsB]) b rfl (by rw [e];rfl),λx hx e=>ha x (by simp [rsB,hx]) b rfl e⟩
theorem Apx.st {p b size k:Nat} {e T TX:TypeId} {fx:List Res} {v:Value} {xs l cs:List Value} {W:World} (h:Apx H p fx TX cs b W) (s:St H w0 (rsB e size p T fx v k xs l) W):St (λc=>if c=b then some (.cells cs.toArray TX (0,0)) else H c) w0 (rsB e size p T fx v k xs l) W:=by
 refine ⟨s.ext,λc o hc=>?_,λx hx=>⟨(s.own x hx).1,λc hc=>?_⟩,s.apart⟩
 ·split at hc
  ·rename_i e;subst e;rw [<-hc];exact h.blk
  ·exact s.agr c o hc
 ·rw [aA,(s.own x hx).2 c hc];intro e;subst e;unfold rsB at hx;rcases bJ.1 hx with rfl | hx
  ·obtain ⟨u,l2,t,m,h1,h2⟩:=h.head;have h3:=(s.own (.box p (v::l) T) (by simp [rsB])).1.2;rw [h1] at h3;have h4:(u::l2).toArray=(v::l).toArray:=by injection h3 with h3;injection h3
   have h5:=congrArg Array.toList h4;simp only [aT] at h5;rw [h5.1] at h2;exact h2 hc
  ·rcases bJ.1 hx with rfl | hx
   ·exact h.ne (aW hc).symm
   ·exact h.fix x hx hc
theorem cU3 {b:Nat} {o:Obj} (h:H b=none):Up H (λc=>if c=b then some o else H c):=λc x hc=>by
 dsimp only;rw [aA]
 ·exact hc
 ·intro e;subst e;rw [h] at hc;cases hc
theorem At.rfB {α Z:Type} {bs:List Res} {dfs:List Deferred} {P:Program} {n:Nat} {L:Sl} {Q:Exit->Act->World->Prop} {g:Operand} {pt:Tmp} {assign body:Code} {gf:Nat} {lb:Array Value} {enc:α->Value} {S:List α->Prop} {N:Nat} {e T TX:TypeId} {size p:Nat} {fx:List Res}
 (C:List α->Z->Prop) (v:Z->Value) (k:Z->Nat) (xs l:Z->List Value) (z0:Z) (L2:α->Nat->Sl) (cx:α->List Value)
 (hg:ev L g=some (.func (.func gf) #[] lb)) (eg:∀ args w,(callFunc gf args).run P w=.ok (.enter gf args) w) (ht:Nat.blt pt n=true)
 (hseq:∀ w,Agr H w->SeqStopsK Fence.wide 8 P gf lb (λx=>#[enc x]) (KpH H) S (λ_=>True) N w)
 (h0:C [] z0) (hb:bs=rsB e size p T fx (v z0) (k z0) (xs z0) (l z0)) (hn:aL5 fx=true)
 (hass:∀ l x bs' K,(∀ b,At [] n (L2 x b) H w0 (.box b (cx x) TX::bs') K)->At [] n ((pt,enc x)::L) H w0 bs' (assign.wpIn (Fence.wide.inRound l) 7 P (Exit.then K (λ_ _ _=>False))))
 (hbody:∀ l' pre x z tl b H2,C pre z->pre.length<N->Up H H2->lB H2 b 0 (cx x)->At [] n (L2 x b) H2 w0 (rsB e size p T fx (v z) (k z) (xs z) (l z)++tl) (body.wpIn (Fence.wide.inRound l') 7 P (Sx.rE C (λz=>rsB e size p T fx (v z) (k z) (xs z) (l z)) H w0 tl (pre++[x]))))
 (hdone:∀ D ys z,S ys->C ys z->At ({ target:=.collected D,args:=#[] }::dfs) n L H w0 (.obj D (.deferred (some []))::rsB e size p T fx (v z) (k z) (xs z) (l z)) (Q .normal)) :
 At dfs n L H w0 bs ((Code.rangeFunc g #[pt] assign body).wp P Q):=by
 intro a W f s;subst hb;have hnz:∀ z,aL5 (rsB e size p T fx (v z) (k z) (xs z) (l z))=true:=λz=>hn;have hB:w0.heap.size<=W.heap.size:=s.ext.size;have hH:∀ r,W.heap.size<=r->H r=none:=λr hr=>s.agr.lt hr
 refine (wpIn_wide (n:=9)).1 (wpIn_rangeFunc_ownH (n:=9) (ps:=#[pt]) (α:=α) (N:=N) (S:=S) (Sp:=λ_=>True) (encs:=λx=>#[enc x]) (Kp:=KpH H) (w0:=W) rfl (by decide) (f.ev hg) trivial eg (hseq W s.agr) (λh k q=>k (h q)) ?_ (Below.refl _ _) (λ_=>rfl)
  (λpre W=>∃ z,C pre z/\St H w0 (rsB e size p T fx (v z) (k z) (xs z) (l z)) W) (λ_ _ _=>False) (dB4 hB hH λ_ z _=>hnz z) (λ_ _ _ _ _ h _ _=>h.elim) ⟨z0,h0,s⟩ (λx a' W=>∃ b,Fr [] n (L2 x b) a'/\Apx H p fx TX (cx x) b W)
  (λx a' _ A B row h hg hr=>by obtain ⟨b,h1,h2⟩:=h;exact ⟨b,h1,h2.grow hg λr e=>(hr r e).2⟩) ?_ ?_ ?_ (λ_ _ _ _ _ _ h=>h.elim))
 ·intro W1 l o o' hl ho _ _ q b ob e;have hne:b≠l:=λh=>by subst h;rw [hH b hl] at e;cases e
  exact (World.putObj_heap_other hne).trans (q b ob e)
 ·rintro l' pre x W1 K ⟨z,hz,s1⟩ hK
  have f1:Fr [] n ((pt,enc x)::L) { tmps:=(#[pt].zip #[enc x]).foldl (λt (p,v)=>t.setIfInBounds p v) a.tmps,defers:=[] }:=by
   have f2:Fr [] n L { a with defers:=[] }:=⟨f.size,rfl,f.slot⟩;have e:(#[pt].zip #[enc x]).foldl (λt (x:Tmp × Value)=>match x with | (p,v)=>t.setIfInBounds p v) a.tmps=a.tmps.setIfInBounds pt (enc x):=by simp
   rw [e];exact f2.put ht (enc x)
  refine hass l' x _ K ?_ _ W1 f1 (s1.tailOf (hnz z) hB hH);intro b a' W2 f' s2;have s3:=s2.drop;exact hK a' W2 s3.keepsFrom (λ_=>s3.agr) ⟨z,hz,s3.front⟩ ⟨b,f',Apx.of s2⟩
 ·rintro l' pre x a' W1 hl _ ⟨z,hz,s1⟩ ⟨b,f',hx⟩ hlen;have s2:=hx.st s1;have hH2:∀ r,W1.heap.size<=r->(if r=b then some (Obj.cells (cx x).toArray TX (0,0)) else H r)=none:=λr hr=>s2.agr.lt hr;have ht:=s1.tailOf (B:=W.heap.size) (hnz z) hB hH
  have s4:St (λc=>if c=b then some (.cells (cx x).toArray TX (0,0)) else H c) w0 (rsB e size p T fx (v z) (k z) (xs z) (l z)++Sx.tailOf W.heap.size W1) W1:=by
   refine ⟨ht.ext,s2.agr,λy hy=>?_,ht.apart⟩;rcases gJ.1 hy with h | h
   ·exact s2.own y h
   ·refine ⟨(ht.own y hy).1,λc hc=>?_⟩;rw [aA,(ht.own y hy).2 c hc];rintro rfl;rcases KV h with rfl | ⟨d,o,rfl,ho,hc2,_⟩
    ·cases hc
    ·obtain rfl:d=c:=aW hc;rw [hx.blk] at ho;cases ho;cases hc2
  refine wpIn_mono (hbody l' pre x z _ b _ hz hlen (cU3 hx.new) ⟨_,_,_,aE rfl,λj u e=>by simpa using e⟩ a' W1 f' s4) ?_;intro e a2 W2 h;cases e with
  | normal =>
   obtain ⟨z',hz',s2⟩:=h;exact ⟨s2.keepsFrom,λ_=>s2.agr,z',hz',s2.front⟩
  | _=>exact h.elim
 ·rintro D ys W1 hD hS ⟨z,hz,s1⟩ hd;refine hdone D ys z hS hz _ W1 ⟨f.size,by show _::_=_;rw [f.defers],f.slot⟩ ⟨s1.ext,s1.agr,?_,.cons ?_ s1.apart⟩
  ·intro x hx;rcases bJ.1 hx with rfl | hx
   ·exact ⟨⟨cN hB hD,hd⟩,λb e=>by obtain rfl:D=b:=aW e;exact hH D hD⟩
   ·exact s1.own x hx
  ·intro y hy b e e';obtain rfl:D=b:=aW e;exact aC5 s1 (hnz z) hd rfl y hy e'
end
end Go.Sx
namespace Go.Proofs.YthhoebdlfjffkaaGreatDoor
open Go.RowKit Go.Par Go.Sx Tryz
theorem u8d (c k:UInt8):decide (((c.toNat:Nat):Int)=(k.toNat:Nat))=decide (c=k):=by
 rw [bD,aB,aB];exact ⟨λh=>bT.1 (by omega),λh=>by rw [h]⟩
theorem bO7 (c:UInt8) (w:World):Calls prg 111 #[kF c] w λr w'=>r=.returned (.bool (oV c))/\Ext w w':=by
 refine y6 func111 Z ntmps111 Z ?_;refine .sr<|.a Z Z<|.ns<|.mv Z<|.yw (.cast (.eql Z Z) (congrArg Value.bool (u8d c 32)))<|.mv Z<|.b2 (λh5=>?_) (λh5=>?_)
 ·refine .gG<|.gG<|.yw (.pickT Z Z)<|.mv Z<|.gG<|.gG<|.yw (.pickT Z Z)<|.mv Z<|.gG<|.gG<|.yw (.pickT Z Z)<|.az Z<|?_
  refine y9 Z Z λW s=>⟨?_,s.ext⟩
  first
   | (unfold oV;rw [h5];rfl)
   | (unfold oV;rw [h5,h9];rfl)
   | (unfold oV;rw [h5,h9,h13];rfl)
 refine .gy (.move Z)<|.gy (.cast (.eql Z Z) (congrArg Value.bool (u8d c 9)))<|.yw (.pickF Z Z)<|.mv Z<|.b2 (λh9=>?_) (λh9=>?_)
 ·refine .gG<|.gG<|.yw (.pickT Z Z)<|.mv Z<|.gG<|.gG<|.yw (.pickT Z Z)<|.az Z<|?_
  refine y9 Z Z λW s=>⟨?_,s.ext⟩
  first
   | (unfold oV;rw [h5];rfl)
   | (unfold oV;rw [h5,h9];rfl)
   | (unfold oV;rw [h5,h9,h13];rfl)
 refine .gy (.move Z)<|.gy (.cast (.eql Z Z) (congrArg Value.bool (u8d c 10)))<|.yw (.pickF Z Z)<|.mv Z<|.b2 (λh13=>?_) (λh13=>?_)
 ·refine .gG<|.gG<|.yw (.pickT Z Z)<|.az Z<|?_
  refine y9 Z Z λW s=>⟨?_,s.ext⟩
  first
   | (unfold oV;rw [h5];rfl)
   | (unfold oV;rw [h5,h9];rfl)
   | (unfold oV;rw [h5,h9,h13];rfl)
 refine .gy (.move Z)<|.gy (.cast (.eql Z Z) (congrArg Value.bool (u8d c 13)))<|.yw (.pickF Z Z)<|.az Z<|?_
 refine y9 Z Z λW s=>⟨?_,s.ext⟩
 first
  | (unfold oV;rw [h5];rfl)
  | (unfold oV;rw [h5,h9];rfl)
  | (unfold oV;rw [h5,h9,h13];rfl)
def HA (c:UInt8):Bool:=!decide (c=10)
theorem u8n (c k:UInt8):decide (¬ ((c.toNat:Nat):Int)=(k.toNat:Nat))=!decide (c=k):=by rw [<-u8d,decide_not]
theorem bK9 (c:UInt8) (w:World):Calls prg 113 #[kF c] w λr w'=>r=.returned (.bool (HA c))/\Ext w w':=by
 refine y6 func113 Z ntmps113 Z ?_;refine .sr<|.a Z Z<|.ns<|.mv Z<|.yw (.cast (.neq Z Z) (congrArg Value.bool (u8n c 10)))<|.az Z<|?_
 exact y9 Z Z λW s=>⟨Z,s.ext⟩
theorem EU (q:UInt8->Bool) (c:UInt8) (r:Str):pre q (c::r)=if q c then pre q r+1 else 0:=by
 unfold pre;rw [fW]
 split <;> simp
theorem aU7:∀ (m:Str),fZ false (m.drop (pre oV m))=fZ false m
 | []=>rfl
 | c::r=>by
  rw [EU]
  split
  ·rename_i h;rw [tK,aU7 r,NY h]
  ·rfl
theorem bY2:∀ (m:Str),fZ false (m.drop (pre HA m))=fZ true m
 | []=>by rw [List.drop_nil,yE,yE]
 | c::r=>by
  rw [EU]
  split
  ·rename_i h;unfold HA at h;rw [tK,bY2 r,XF (by simpa using h)]
  ·rename_i h;have e:c=10:=by unfold HA at h;simpa using h
   subst e;rw [uT,XE]
theorem bZ7 (q:UInt8->Bool):∀ (m:Str) (c:UInt8) (r:Str),m.drop (pre q m)=c::r->q c=false
 | [],c,r,h=>by cases h
 | x::m,c,r,h=>by
  rw [EU] at h
  split at h
  ·exact bZ7 q m c r (by simpa using h)
  ·rename_i hx;rw [uT] at h;injection h with h1 _
   subst h1;simpa using hx
theorem bY0 {m:Str} (h:DI m [47,47]=true):fZ false (m.drop (pre HA m))=fZ false m/\1<=pre HA m:=by
 rw [HD] at h;obtain ⟨r,rfl⟩:=kC.1 h;refine ⟨?_,?_⟩
 ·rw [bY2];exact (XD r).symm
 ·show 1<=pre HA (47::47::r);rw [EU,aE (by decide)];omega
theorem bK8 {m:Str} (h:DI (m.drop (pre oV m)) [47,47]=false):fZ false m=m.drop (pre oV m):=by
 rw [<-aU7];cases e:m.drop (pre oV m) with
 | nil=>rw [yE]
 | cons c r =>
  refine xS (bZ7 _ _ _ _ e) ?_;rintro ⟨rfl,h2⟩;rw [e] at h;cases r with
  | nil=>cases h2
  | cons d r =>
   obtain rfl:d=47:=aW h2;rw [HD] at h;rw [show ([47,47]:Str).isPrefixOf (47::47::r)=true by simp [List.isPrefixOf]] at h;cases h
variable {t:Str}
theorem bY3 {o:Nat} (ho:o<=t.length) (h:fZ false t=t.drop o):BL t=o:=by
 unfold BL;rw [h,dK];omega
theorem XR (t:Str) (hl:t.length<=9223372036854775807) (w:World):Calls prg 69 #[cJ t] w λr w'=>r=.returned (iN (BL t))/\Ext w w':=by
 refine y6 func69 Z ntmps69 Z ?_;refine .sr<|.a Z Z<|.ns<|.aq Z<|.bk<|.lp (X:=Nat) [(0,_)] ⟨Z,Jt⟩ [] (λo=>[(3,iN o)]) (λo=>(λ_=>none)) (λo=>[]) (λo=>o<=t.length/\fZ false (t.drop o)=fZ false t) (λo=>t.length - o) 0 (λ_ s=>s) ⟨Z,Jt⟩ ⟨cM _,Z⟩ λo hC=>?_
 obtain ⟨ho,hs⟩:=hC;have hp1:=yM oV (t.drop o);rw [dK] at hp1;replace hp1:(o+(pre oV (t.drop o)))<=t.length:=by omega
 refine .bk<|.sm Z<|.mv Z<|.mv Z<|.yw (.dropS eQ Z Z (lo:=o) Z ho)<|.yw (.call DB Z (λW s=>CJ 111 oV bB1 bO7 _ (by rw [dK];omega) W))<|.yw (.add Z Z (c:=(((o+(pre oV (t.drop o))):Nat):Int)) ((w6 (by omega)).trans (by omega)))<|.aq Z<|.sq<|.sm Z<|.mv Z<|.yw (.dropS eQ Z Z (lo:=(o+(pre oV (t.drop o)))) Z hp1)<|.yw (.call VA Z (λW s=>JU _ [47,47] W))<|.yw (.not Z)<|.nt<|.cd Z (λh14=>?_) (λh14=>?_)
 ·have hh:DI (t.drop (o+(pre oV (t.drop o)))) [47,47]=false:=by simpa using h14
  refine .sm Z<|.az Z<|.tR<|.bR<|.tR<|.bR<|?_
  exact y9 Z Z λW s=>⟨by rw [bY3 hp1 (by rw [<-hs,<-gO];exact bK8 (by rw [gO];exact hh))],s.ext⟩
 have hh:DI (t.drop (o+(pre oV (t.drop o)))) [47,47]=true:=by simpa using h14
 obtain ⟨hs2,hg2⟩:=bY0 hh;have hp2:=yM HA (t.drop (o+(pre oV (t.drop o))));rw [dK] at hp2;exact .sk<|.tN<|.rg<|.mv Z<|.mv Z<|.mv Z<|.yw (.dropS eQ Z Z (lo:=(o+(pre oV (t.drop o)))) Z hp1)<|.yw (.call DB Z (λW s=>CJ 113 HA bB0 bK9 _ (by rw [dK];omega) W))<|.yw (.add Z Z (c:=(((o+(pre oV (t.drop o)))+(pre HA (t.drop (o+(pre oV (t.drop o))))):Nat):Int)) ((w6 (by omega)).trans (by omega)))<|.a Z Z<|.nl<|.bN<|.tN<|.ag ((o+(pre oV (t.drop o)))+(pre HA (t.drop (o+(pre oV (t.drop o)))))) ⟨Z,Jt⟩ ⟨Z,Jt⟩ (λ_ s=>s) ⟨by omega,by rw [<-gO,hs2,<-gO,aU7,hs]⟩ (by omega)
theorem bG4 (H:Hp) (t:Str) (w:World) (hA:Agr H w):Calls prg 37 #[cJ t] w λr w'=>∃ (b:Nat) (H':Hp),lB H' b 0 [cJ t]/\r=.returned (.func (.func 68) #[] #[.pointer (some ⟨b,0,none⟩)])/\BX H w H' w':=by
 refine Sx.enter (H:=H) func37 rfl ntmps37 rfl hA ?_;refine .sr<|.bx Z Z Z λb1=>.a Z Z<|.ns<|.yw (.mkF Z Z)<|.az Z<|?_
 refine dD λH1 u1 m1=>?_;exact y9 Z Z λW s=>⟨b1,H1,m1,Z,u1.grow s⟩
abbrev TkS:={x:Tk // x.t.length<=1000000}
theorem bG3 (H:Hp) (G:Gl H) (t:Str) (hl:t.length<=1000000000000000000) (hs:∀ x∈sE t,x.t.length<=1000000) (b:Nat) (hm:lB H b 0 [cJ t]) (w:World) (hA:Agr H w) :
 SeqStopsK Fence.wide 8 prg 68 #[.pointer (some ⟨b,0,none⟩)] (λx:TkS=>#[.agg (cTk .u8 x.1).toArray]) (KpH H) (λxs=>xs.map (·.1)=sE t) (λ_=>True) (t.length+1) w:=by
 refine Sx.seqStops (lb:=[.pointer (some ⟨b,0,none⟩)]) func68 rfl ntmps68 rfl (λW hW=>hA.ext hW) ?_;intro l Jg Jx W hJs hJxs hY hJ0;refine .sr<|.yw (.loadM Z bZ hm (k:=0) Z Z)<|.yw (.call ZM Z (λW s=>XR t (by omega) W))<|.aq Z<|.bk<|.lj (X:=Nat × List TkS) (λz=>[(0,.func (.yield l) #[] #[]),(1,.pointer (some ⟨b,0,none⟩)),(3,iN z.1)]) (λz=>Jg z.2) (λz=>z.1<=t.length/\z.2.length<=z.1/\z.2.map (·.1)++toks z.1 (t.drop z.1)=sE t) (λz=>t.length - z.1) (BL t,[]) ⟨aJ2 t,cM _,(bN0 t).symm⟩ ⟨Z,Z,Z,Jt⟩ hJ0 λz w1 hC hJ1=>?_
 obtain ⟨o,pre1⟩:=z;obtain ⟨ho,hpl,htk⟩:=hC;dsimp only at ho hpl htk hJ1|-;refine .sq<|.sm Z<|.yw (.loadM Z bZ hm (k:=0) Z Z)<|.yw (.lenS eQ Z)<|.yw (.lss Z Z)<|.nt<|.ce Z (λh11=>?_) (λh11=>?_)
 ·have hlt:o<t.length:=by omega
  have hm0:t.drop o≠[]:=by intro e;have:=congrArg List.length e;rw [dK] at this;simp at this;omega
  have hrk:=zE hm0;rw [dK] at hrk;have hx5:((t.drop o).take (bK (t.drop o)).2).length<=1000000:=hs ⟨(bK (t.drop o)).1,(t.drop o).take (bK (t.drop o)).2,o⟩ (by rw [<-htk,WW hm0];simp);refine .sk<|.tN<|.sq<|.bk<|.sr<|.yw (.loadM Z bZ hm (k:=0) Z Z)<|.mv Z<|.yw (.dropS eQ Z Z (lo:=o) Z (by omega))<|.yw (.call ZL Z (λW s=>aJ9 H G (t.drop o) (by rw [dK];omega) hm0 W s.agr))<|.mv Z<|.yw (.extract Z Z)<|.yw (.extract Z Z)<|.a Z Z<|.aq Z<|.sq<|.sq<|.rgW 8<|.mI Z Z<|.mI Z Z<|.yvI (.loadM Z bZ hm (k:=0) Z Z) Z<|.mI Z Z<|.mI Z Z<|.mI Z Z<|.yvI (.add Z Z (c:=((o+(bK (t.drop o)).2:Nat):Int)) ((w6 (by omega)).trans (by omega))) Z<|.yvI (.cast (.midS eQ Z Z Z (lo:=o) (hi:=o+(bK (t.drop o)).2) Z Z (by omega) (by omega)) (by rw [yY,vP])) Z<|.mI Z Z<|.yvI (.build Z (VI _ _ _)) Z<|.yd Z Z Z (λW s=>hY pre1 ⟨⟨(bK (t.drop o)).1,(t.drop o).take (bK (t.drop o)).2,o⟩,hx5⟩ W (hJs _ _ _ hJ1 s.ext) (by omega)) (λw2 hj2=>?_) (λw2 hj2=>?_)
  ·have hsd:=aJ2 ((t.drop o).drop (bK (t.drop o)).2);rw [dK,dK] at hsd;exact .yvI (.not Z) Z<|.nlI<|.tN<|.cF Z<|.sk<|.tN<|.rg<|.mv Z<|.mv Z<|.yw (.add Z Z (c:=((o+(bK (t.drop o)).2:Nat):Int)) ((w6 (by omega)).trans (by omega)))<|.a Z Z<|.nl<|.bN<|.tN<|.rg<|.mv Z<|.yw (.loadM Z bZ hm (k:=0) Z Z)<|.mv Z<|.yw (.cast (.dropS eQ Z Z (lo:=o+(bK (t.drop o)).2) Z (by omega)) (by rw [<-gO];rfl))<|.yw (.call ZM Z (λW s=>XR ((t.drop o).drop (bK (t.drop o)).2) (by rw [dK,dK];omega) W))<|.yw (.add Z Z (c:=((o+(bK (t.drop o)).2+BL ((t.drop o).drop (bK (t.drop o)).2):Nat):Int)) ((w6 (by omega)).trans (by omega)))<|.aq Z<|.aj (x:=(o,pre1)) (o+(bK (t.drop o)).2+BL ((t.drop o).drop (bK (t.drop o)).2),pre1++[⟨⟨(bK (t.drop o)).1,(t.drop o).take (bK (t.drop o)).2,o⟩,hx5⟩]) ⟨by dsimp only;omega,by dsimp only;rw [aD];simp;omega,by dsimp only;rw [<-htk,aV,aQ];congr 1;rw [WW hm0,show (t.drop o).drop ((bK (t.drop o)).2+BL ((t.drop o).drop (bK (t.drop o)).2))=t.drop (o+(bK (t.drop o)).2+BL ((t.drop o).drop (bK (t.drop o)).2)) by rw [iQ];exact gO];rfl⟩ (by dsimp only;omega) hj2 ⟨Z,Z,Z,Jt⟩
  refine .yvI (.not Z) Z<|.nlI<|.tN<|.cT Z<|.rt<|.tR<|.bR<|.tR<|.tR<|.bR<|?_
  refine y7 Z .nil rfl λW s=>⟨⟨_,Z⟩,.inr ⟨_,Jt,hJxs _ _ _ hj2 s.ext⟩⟩
 have hoe:o=t.length:=by omega
 refine .ex<|.tE<|.tE<|.bE<|?_
 refine pK (.inr Z) rfl .nil rfl λW s=>⟨⟨_,Z⟩,.inl ⟨pre1,?_,hJs _ _ _ hJ1 s.ext⟩⟩;rw [<-htk,hoe,List.drop_length,bX0,aX]
variable {H:Hp} {z:Nat} {l:List Value}
theorem aJ8 {d:D} (h:dA H z [d] l):Rep H d l:=by
 unfold dA at h;obtain ⟨x,y,rfl,_,h1,h2⟩:=h;unfold dA at h2;subst h2;rw [aX];exact h1
variable {H':Hp}
theorem cK0 {x:TkS} (h:dA H 3 [dTk .u8 x.1] l):dA H' 3 (List.map (dTk .u8) (List.map (·.1) [x])) l:=by
 obtain ⟨rfl,_⟩:=aB0 (aJ8 h);exact .single (aA9 x.2) Z
theorem aK4 (q:UInt8->Bool):∀ (m:Str),pre q (m.take (pre q m))=pre q m
 | []=>rfl
 | c::r=>by
  rw [EU];cases h:q c with
  | false=>rw [aA (by decide)];rfl
  | true=>rw [aE rfl,List.take_succ_cons,EU,h,aE rfl,aK4 q r]
theorem bL3 {m:Str} (h:m≠[]) (hk:(bK m).1=3):pre kK (m.take (bK m).2)=(m.take (bK m).2).length:=by
 have key:(bK m).2=pre kK m:=by
  match m,h with
  | c::r,_ =>
   cases h1:rV c with
   | true =>
    exfalso
    revert hk
    cases h4:words.contains ((c::r).take (pre kY (c::r))) with
    | true=>simp only [bK,aG,h1,h4,aN];decide
    | false =>
     by_cases h5:pre kY (c::r)<=12
     ·simp only [bK,aG,h1,h4,h5,aN,aC,aL];decide
     ·simp only [bK,aG,h1,h4,h5,aN,aC,aL];decide
   | false =>
    cases h4:kK c with
    | true =>
     by_cases h5:pre kK (c::r)=1\/c≠48
     ·simp only [bK,aG,h1,h4,h5,aN,aC,aL]
     ·exfalso;revert hk;simp only [bK,aG,h1,h4,h5,aN,aC,aL];decide
    | false =>
     exfalso
     revert hk
     cases hx:symbols.find? (λx=>x.isPrefixOf (c::r)) <;> simp only [bK,aG,h1,h4,hx,aC,aL] <;> decide
 rw [key,aK4,dJ,iA (yM kK m)]
theorem aI1:∀ (f o:Nat) (m:Str),∀ t∈GP f o m,t.k=3->pre kK t.t=t.t.length
 | 0,_,_,t,h=>by cases h
 | f+1,o,m,t,h=>by
  by_cases h0:m=[]
  ·rw [h0,wQ] at h;cases h
  ·rw [tU h0] at h;rcases bJ.1 h with rfl | h
   ·exact λhk=>bL3 h0 hk
   ·exact aI1 f _ _ t h
theorem aM4 (s:Str):∀ t∈sE s,t.k=3->pre kK t.t=t.t.length:=aI1 _ _ _
theorem SG:∀ (f o:Nat) (m:Str),∀ t∈GP f o m,t.t.length<=m.length
 | 0,_,_,t,h=>by cases h
 | f+1,o,m,t,h=>by
  by_cases h0:m=[]
  ·rw [h0,wQ] at h;cases h
  ·rw [tU h0] at h;rcases bJ.1 h with rfl | h
   ·show (m.take _).length<=_;rw [dJ];omega
   ·have h1:=SG f _ _ t h;have h2:=qQ false (m.drop (bK m).2);rw [dK] at h2;omega
theorem KX (s:Str):∀ t∈sE s,t.t.length<=s.length:=λt h=>cN (SG _ _ _ t h) (qQ false s)
theorem bK6 (H:Hp) (G:Gl H) (t:Str) (ht:t.length<=9223372036854775807) (w:World) (hA:Agr H w) :
 Calls prg 22 #[cJ t] w λe W'=>∃ z:Nat × Hp × Option Addr × Nat,(Tkm z.2.1 (sg0 t).r z.2.2.1 z.2.2.2/\HUp w H z.2.1)/\e=.returned (.pointer (some ⟨z.1,0,none⟩))/\St z.2.1 w [.box z.1 [.slice z.2.2.1 ((sg0 t).r).length z.2.2.2,iN (sZ ((sg0 t).r) (sg0 t)),iN t.length,.string ⟨#[]⟩,.slice none 0 0,.slice none 0 0,.slice none 0 0,iN ((sg0 t).o),iN ((sg0 t).e)] 99] W':=by
 refine Sx.enterM (H:=H) func22 rfl ntmps22 rfl hA ?_;refine .sr<|.a Z Z<|.ns<|.mv Z<|.yw (.lenS eQ Z)<|.yw (.build Z (bC6 _))<|.bx Z Z Z λb8=>.al bP3 Z λb3=>.st .head Z Z bP8 Z (nb Z) Z<|.nt<|.sq<|.sm Z<|.yw (.lenS eQ Z)<|.yw (.gtr Z Z)<|.nt<|.ce Z (λh11=>?_) (λh11=>?_)
 ·have hbig:20000<t.length:=by omega
  have e0:sg0 t=⟨[],3,0⟩:=by unfold sg0;rw [aE hbig]
  refine .sr<|.lD Z fE Hm Z<|.nC Z<|.fA Z lS<|.st fG Z Z ZA Z (nb Z) Z<|.ns<|.lD Z fE Hm Z<|.az Z<|.tR<|?_
  refine Sx.ret0M (.inl rfl) ?_;refine y9 Z Z λW s=>⟨(b8,H,none,0),⟨by rw [e0];exact ⟨Rep.empty (cM _),λ_ h=>(by cases h),λ_ h=>(by cases h),λ_ h=>(by cases h)⟩,.refl⟩,rfl,?_⟩;rw [e0];exact s.pick [1] [_] rfl rfl
 have hl:t.length<=20000:=by omega
 have e0:sg0 t=⟨sE t,0,0⟩:=by unfold sg0;rw [aA (by omega)]
 refine .sk<|.tN<|.sq<|.sm Z<|.ct (X:=Nat) ZR Z (λW s=>bG4 H t W s.agr) Z λb1 H1 m1 u1=>.nt<|.bk<|?_
 refine Sx.row0 96 3 ?_;refine At.pm [0,2,1] [_,_,_] rfl rfl ?_
 refine At.rfB (α:=TkS) (Z:=Value × Nat × List Value) (N:=t.length+1) (e:=96) (T:=99) (TX:=96) (size:=3) (p:=b8) (fx:=[.box b3 [.pointer (some ⟨b8,0,none⟩)] 65]) (enc:=λx:TkS=>.agg (cTk .u8 x.1).toArray) (S:=λxs=>xs.map (·.1)=sE t)
  (λpre z=>z.2.1=pre.length/\dA H1 3 ((pre.map (·.1)).map (dTk .u8)) z.2.2) (λz=>z.1) (λz=>z.2.1) (λz=>z.2.2) (λ_=>[.int .i64 0,iN t.length,.string ⟨#[]⟩,.slice none 0 0,.slice none 0 0,.slice none 0 0,.int .i64 0,.int .i64 0]) (.slice none 0 0,0,[])
  (λ_ b=>[(3,.pointer (some ⟨b3,0,none⟩)),(4,.pointer (some ⟨b,0,none⟩))]) (λx=>cTk .u8 x.1) rfl (λ_ _=>BS ZN) rfl (λw hA=>bG3 H1 (G.up u1.up) t (by omega) (λx hx=>cN (KX t x hx) (by omega)) b1 m1 w hA) ⟨rfl,dA.nil⟩ rfl rfl ?_ ?_ ?_
 ·intro l x bs' K h;exact .rgI<|.alI IY Z λb=>.sWI .head Z Z FG (by simp [cTk,Value.oneCell',cJ]) Z<|.nlI<|.tN<|λa W f s=>h b a W (f.sub ⟨rfl,rfl,trivial⟩) s
 ·intro l' pre x z tl b H2 hC hlen u2 m2;obtain ⟨v,k,xs⟩:=z;obtain ⟨hk,hz⟩:=hC;dsimp only at hk hz|-;change At [] _ _ H2 w (.row 96 3 v k xs::.box b8 (v::[.int .i64 0,iN t.length,.string ⟨#[]⟩,.slice none 0 0,.slice none 0 0,.slice none 0 0,.int .i64 0,.int .i64 0]) 99::.box b3 [.pointer (some ⟨b8,0,none⟩)] 65::tl) _;refine At.ra Hm λpv cv ev=>?_;subst ev;refine .bkI<|.flI (trip:=[(_,_,_),(_,_,_),(_,_,_),(_,_,_),(_,_,_),(_,_,_),(_,_,_),(_,_,_)]) 8 [(0,0),(1,0),(2,0),(3,0),(4,0),(5,0),(6,1),(7,3)] (by kernel_rfl) (by kernel_rfl) (by kernel_rfl) Z<|.lD Z fE fN Z<|.lD Z fE fN Z<|.nC Z<|.fA Z yQ<|.lD Z NP dN Z<|.yw (.loadMW Z NQ m2 Z)<|.blF Z (bC0 _ _ _) Z λb25 H3 u3 m3=>.apD cI1 Z (λ_ _=>.head) Z (Rep.mk (n:=1) (c:=1) (ds:=[dTk .u8 x.1]) m3 (.single (aA9 x.2) Z) Z (aK _) (by decide)) (by simp [maxLen];omega) (by omega) Z (λ_ _=>(.d3<|.d2<|.yv (.load Z fE fN Z)<|.nl)) λxs26 p26 c26 hz26=>.fn (tl:=[_,_,_]) Z<|.nC Z<|.fA Z yQ<|.st fG Z Z bP6 Z (nb Z) Z<|.nlQ<|.bN<|?_
  refine At.rE ((.slice p26 (k+1) c26,k+1,xs++xs26):Value × Nat × List Value) (u2.trans u3.up) ?_ rfl;exact ⟨by simp [hk],by rw [aV,aV];exact hz.app (cK0 hz26)⟩
 intro D ys z hS hC;obtain ⟨v,k,xs⟩:=z;obtain ⟨hk,hz⟩:=hC;dsimp only at hk hz|-;change At _ _ _ H1 w (.obj D (.deferred (some []))::.row 96 3 v k xs::.box b8 (v::[.int .i64 0,iN t.length,.string ⟨#[]⟩,.slice none 0 0,.slice none 0 0,.slice none 0 0,.int .i64 0,.int .i64 0]) 99::.box b3 [.pointer (some ⟨b8,0,none⟩)] 65::[]) _;refine .bN<|.tN<|.sr<|.lD Z fE oU Z<|.az Z<|?_
 refine At.pm [1,0,2,3] [_,_,_,_] rfl rfl ?_;have hz2:dA H1 3 ((sE t).map (dTk .u8)) xs:=by rw [<-hS];exact hz
 have hlen:((sE t).map (dTk .u8)).length=k:=by rw [aJ,<-hS,aJ,hk]
 refine dC hlen hz2 λH3 p3 c3 u3 e3 h3=>?_;subst e3;refine Sx.retM (.inl rfl) .head ?_;refine y9 Z Z λW s=>⟨(b8,H3,p3,c3),⟨by rw [e0];rw [aJ] at hlen;subst hlen;exact ⟨h3,XS t,aM4 t,λx hx=>cN (KX t x hx) (by omega)⟩,u1.trans u3⟩,rfl,?_⟩;rw [aJ] at hlen;subst hlen;rw [e0];have s2:=s.pick [1] [_] rfl rfl;rw [show sZ (sE t) ⟨sE t,0,0⟩=0 from oW _];exact s2
theorem bS5:cU prg 51=true:=by kernel_rfl
theorem bA3:cU prg 135=true:=by kernel_rfl
theorem aR0:QW prg 12=some Go.IntKind.u64:=by kernel_rfl
theorem bP7:gH prg 73=some 1:=by kernel_rfl
theorem bC9 (x0:ByteArray):gE prg 75 [(0,.string x0)]=some [.string x0,.slice none 0 0,.int .i64 0,.int .i64 0,.int .i64 0]:=by kernel_rfl
variable {n:Nat}
theorem wU (h:n<18446744073709551616):IntKind.u64.wrap (n:Int)=(n:Int):=by
 simp only [IntKind.wrap,IntKind.signed,IntKind.bits];simp;omega
theorem aV1 (t:Tk) (hd:t.k=3->pre kK t.t=t.t.length/\¬ t.t=[]) (hl:t.t.length<=1000000) (w:World) :
 Calls prg 135 #[.agg (cTk .i64 t).toArray] w λr w'=>r=.returned (.tuple #[iN (aH6 t),iN (DY t)])/\Ext w w':=by
 refine y6 func135 Z ntmps135 Z ?_;refine .sr<|.bx Z Z Z λb1=>.a Z Z<|.aq Z<|.sq<|.sr<|.fA Z uA<|.lD Z dZ Hm Z<|.yw (.neq Z Z)<|.mv Z<|.e2 (λh11=>?_) (λh11=>?_)
 ·have hk:¬ t.k=3:=λe=>by simp [e] at h11
  obtain ⟨hv1,hv2⟩:=bW1 hk;refine .gG<|.gG<|.gG<|.yw (.pickT Z Z)<|.nt<|.cT Z<|.sr<|.a Z Z<|.az Z<|.tR<|?_
  refine y7 Z (.cons (.tmp Z) (.cons (.tmp Z) .nil)) rfl λW s=>⟨?_,s.ext⟩
  first
   | (rw [hv1,hv2];rfl)
   | (rw [hv1,hv2,hvk];rfl)
   | (rw [hv1,hv2,hvk])
 have hk:t.k=3:=bT.1 (by show t.k.toNat=3;omega);obtain ⟨hd1,hd2⟩:=hd hk;have hall:=aP.1 (RI hd1);refine .gy (.fieldAddr Z nW)<|.gy (.load Z bZ Hm Z)<|.gy (.cast (.eqS Z Z) (congrArg Value.bool (eJ hd2)))<|.yw (.pickF Z Z)<|.nt<|.cF Z<|.sk<|.tN<|.sr<|.a Z Z<|.ns<|.aq Z<|.sq<|.sr<|.aq Z<|.bk<|.lp (X:=Nat × Bool × Nat) [(1,_)] ⟨Z,Jt⟩ [_] (λz=>[(6,iN z.1),(5,.bool z.2.1),(4,.int .u64 (z.2.2:Nat))]) (λz=>(λ_=>none)) (λz=>[]) (λz=>z.1<=t.t.length/\z.2.2<=9223372036854775807/\(z.2.1=false->z.2.2=oJ (t.t.take z.1))/\(z.2.1=true->¬ oJ t.t<=9223372036854775807)) (λz=>t.t.length - z.1) (0,false,0) (λ_ s=>s) ⟨Z,Z,Z,Jt⟩ ⟨cM _,cM _,λ_=>by simp [XM],λh=>by cases h⟩ λz hC=>?_
 obtain ⟨k,ov,v⟩:=z;obtain ⟨hk0,hvb,hF,hT⟩:=hC;dsimp only at hk0 hvb hF hT|-;refine .sq<|.sm Z<|.fA Z nW<|.lD Z bZ Hm Z<|.yw (.lenS eQ Z)<|.yw (.lss Z Z)<|.nt<|.ce Z (λh20=>?_) (λh20=>?_)
 ·have hlt:k<t.t.length:=by omega
  obtain ⟨c,hc⟩:∃ c,c=t.t[k]:=⟨_,Z⟩;have hdc:kK c=true:=hall c (by rw [hc];exact cD hlt);obtain ⟨hc1,hc2⟩:=bH7 hdc;have hst:oJ (t.t.take (k+1))=10 * oJ (t.t.take k)+(c.toNat - 48):=XO (by rw [hc];exact List.getElem?_eq_getElem hlt);have hle:=XN t.t (k+1);rw [hst] at hle;refine .sk<|.tN<|.sq<|.bk<|.sq<|.sr<|.fA Z nW<|.lD Z bZ Hm Z<|.mv Z<|.yw (.idxS eQ Z Z Z (b:=c) (j:=k) (by rw [hc];exact List.getElem?_eq_getElem hlt))<|.yw (.cast (.call GH Z (λW s=>FQ _ W)) (congrArg Value.bool hdc))<|.yw (.not Z)<|.nt<|.cF Z<|.sk<|.tN<|.sr<|.fA Z nW<|.lD Z bZ Hm Z<|.mv Z<|.yw (.idxS eQ Z Z Z (b:=c) (j:=k) (by rw [hc];exact List.getElem?_eq_getElem hlt))<|.yw (.sub Z Z (u8w hc1))<|.yw (.conv Z xN aR0 (c:=((c.toNat - 48:Nat):Int)) (wU (by omega)))<|.aq Z<|.sq<|.sm Z<|.mv Z<|.b2 (λh36=>?_) (λh36=>?_)
  ·exact .gG<|.gG<|.gG<|.gG<|.gG<|.yw (.pickT Z Z)<|.nt<|.cT Z<|.sr<|.aq Z<|.ex<|.tE<|.bE<|.tN<|.rg<|.mv Z<|.yw (.add Z Z w7)<|.aq Z<|.ag (x:=(k,ov,v)) (k+1,true,v) ⟨Z,Z,Z,Jt⟩ ⟨Z,Jt⟩ (λ_ s=>s) ⟨by show k+1<=_;omega,hvb,λh=>(by cases h),λ_=>hT (by assumption)⟩ (by show t.t.length - (k+1)<t.t.length - k;omega)
  obtain rfl:ov=false:=h36;have hvk:v=oJ (t.t.take k):=hF rfl;refine .gy (.move Z)<|.gy (.move Z)<|.gy (.sub Z Z (c:=((9223372036854775807 - (c.toNat - 48):Nat):Int)) (by rw [show (9223372036854775807:Int) - ((c.toNat - 48:Nat):Int)=((9223372036854775807 - (c.toNat - 48):Nat):Int) by omega];exact wU (by omega)))<|.gy (.quo Z Z (by decide) (c:=(((9223372036854775807 - (c.toNat - 48)) / 10:Nat):Int)) (by rw [lO (by omega)];rw [show ((9223372036854775807 - (c.toNat - 48):Nat):Int) / 10=(((9223372036854775807 - (c.toNat - 48)) / 10:Nat):Int) by omega];exact wU (by omega)))<|.gy (.gtr Z Z)<|.yw (.pickF Z Z)<|.nt<|.ce Z (λh42=>?_) (λh42=>?_)
  ·have hbig:¬ oJ t.t<=9223372036854775807:=by omega
   exact .sr<|.aq Z<|.ex<|.tE<|.bE<|.tN<|.rg<|.mv Z<|.yw (.add Z Z w7)<|.aq Z<|.ag (x:=(k,false,v)) (k+1,true,v) ⟨Z,Z,Z,Jt⟩ ⟨Z,Jt⟩ (λ_ s=>s) ⟨by show k+1<=_;omega,hvb,λh=>(by cases h),λ_=>hbig⟩ (by show t.t.length - (k+1)<t.t.length - k;omega)
  have hb:10 * v+(c.toNat - 48)<=9223372036854775807:=by omega
  exact .sk<|.tN<|.rg<|.mv Z<|.yw (.mul Z Z (c:=((10 * v:Nat):Int)) (by rw [show (10:Int) * (v:Int)=((10 * v:Nat):Int) by omega];exact wU (by omega)))<|.mv Z<|.yw (.add Z Z (c:=((10 * v+(c.toNat - 48):Nat):Int)) (by rw [show ((10 * v:Nat):Int)+(((c.toNat - 48):Nat):Int)=((10 * v+(c.toNat - 48):Nat):Int) by omega];exact wU (by omega)))<|.a Z Z<|.nl<|.bN<|.tN<|.rg<|.mv Z<|.yw (.add Z Z w7)<|.aq Z<|.ag (x:=(k,false,v)) (k+1,false,10 * v+(c.toNat - 48)) ⟨Z,Z,Z,Jt⟩ ⟨Z,Jt⟩ (λ_ s=>s) ⟨by show k+1<=_;omega,(by show 10 * v+(c.toNat - 48)<=_;omega),λ_=>(by show 10 * v+(c.toNat - 48)=_;rw [hst,<-hvk]),λh=>(by cases h)⟩ (by show t.t.length - (k+1)<t.t.length - k;omega)
 obtain rfl:k=t.t.length:=by omega
 rw [aI] at hF;refine .ex<|.eb<|.sq<|.sm Z<|.nt<|.cd Z (λh47=>?_) (λh47=>?_)
 ·obtain ⟨hv1,hv2⟩:=bD2 hk (hT h47);refine .sr<|.a Z Z<|.az Z<|.tR<|?_
  refine y7 Z (.cons (.tmp Z) (.cons (.tmp Z) .nil)) rfl λW s=>⟨?_,s.ext⟩
  first
   | (rw [hv1,hv2];rfl)
   | (rw [hv1,hv2,hvk];rfl)
   | (rw [hv1,hv2,hvk])
 have hvk:=hF h47;obtain ⟨hv1,hv2⟩:=SD hk (by rw [<-hvk];exact hvb);refine .sk<|.tN<|.sm Z<|.yw (.conv Z aR0 bI8 (c:=((v:Nat):Int)) (w6 (by omega)))<|.a Z Z<|.az Z<|?_
 refine y7 Z (.cons (.tmp Z) (.cons (.tmp Z) .nil)) rfl λW s=>⟨?_,s.ext⟩
 first
  | (rw [hv1,hv2];rfl)
  | (rw [hv1,hv2,hvk];rfl)
  | (rw [hv1,hv2,hvk])
variable {w0 W:World} {bs:List Res} {ts:List Tk} {tp:Option Addr} {tc:Nat} {q:Sg}
theorem SZ {b:Nat} (K:Tkr H t n ts tp tc) (hq:q.r<:+ts) (s:St H w0 (PA b t tp ts tc q::bs) W) :
 Calls prg 99 #[.pointer (some ⟨b,0,none⟩)] W λe W'=>∃ x:Int64,(vl gNu q x)/\e=.returned (.int .i64 x.toInt)/\St H w0 (PA b t tp ts tc (up n gNu q)::bs) W':=by
 have hcap:=K.rep.cap;refine fD func99 rfl ntmps99 rfl s ?_;refine .sr<|.a Z Z<|.ns<|.mv Z<|.cs (X:=Unit) zT Z (λW s=>SF K hq  (s.p1_1 [0] Z)) Z λ_ _=>.al xV Z λb3=>.sW .head Z Z lW (by simp [cTk,Value.oneCell',cJ]) Z<|.nt<|.sq<|.sm Z<|.nC Z<|.fA Z lT<|.lD Z dZ dN Z<|.yw (.neq Z Z)<|.mv Z<|.e2 (λh13=>?_) (λh13=>?_)
 ·have h0:¬ q.e=0:=by omega
  have e1:up n gNu q=q.fail n 8:=by rw [yC h0];unfold Sg.fail;rw [aA h0]
  have hv:vl gNu q 0:=aH4 h0;rw [e1];refine .gG<|.gG<|.gG<|.yw (.pickT Z Z)<|.nt<|.cT Z<|.sm Z<|.cs (X:=Unit) uD Z (λW s=>EE K hq 8 (s.p2_2 [1,0] Z)) Z λ_ _=>.ns<|.az Z<|.tR<|?_
  refine y9 Z Z λW s=>?_;exact ⟨0,hv,Z,s.p2_1 [0] rfl⟩
 have h0:q.e=0:=by omega
 refine .gy (.fieldAddr Z uA)<|.gy (.load Z dZ Hm Z)<|.gy (.neq Z Z)<|.yw (.pickF Z Z)<|.nt<|.ce Z (λh17=>?_) (λh17=>?_)
 ·have hk:¬ (tkH n q.r).k=3:=λe=>by simp [e] at h17
  obtain ⟨e1,hv0⟩:=cT3 (n:=n) hk;have hv:=hv0 0;rw [e1];refine .sm Z<|.cs (X:=Unit) uD Z (λW s=>EE K hq 8 (s.p2_2 [1,0] Z)) Z λ_ _=>.ns<|.az Z<|.tR<|?_
  refine y9 Z Z λW s=>?_;exact ⟨0,hv,Z,s.p2_1 [0] rfl⟩
 have hk:(tkH n q.r).k=3:=bT.1 (by show (tkH n q.r).k.toNat=3;omega);refine .sk<|.tN<|.sr<|.yw (.loadW Z qC Hm Z)<|.yw (.call bA3 Z (λW s=>aV1 (tkH n q.r) (K.numD hq) (K.tk hq) W))<|.mv Z<|.yw (.extract Z Z)<|.yw (.extract Z Z)<|.a Z Z<|.aq Z<|.sq<|.sm Z<|.yw (.neq Z Z)<|.nt<|.ce Z (λh26=>?_) (λh26=>?_)
 ·have he:¬ DY (tkH n q.r)=0:=by omega
  have hn:¬ oJ (tkH n q.r).t<=9223372036854775807:=λh=>he (SD hk h).1;obtain ⟨e1,hv0⟩:=cA8 (n:=n) hk hn;have hv:=hv0 0;rw [e1];refine .sm Z<|.cs (X:=Unit) uD Z (λW s=>EE K hq 2 (s.p2_2 [1,0] Z)) Z λ_ _=>.ns<|.az Z<|.tR<|?_
  refine y9 Z Z λW s=>?_;exact ⟨0,hv,Z,s.p2_1 [0] rfl⟩
 have he:DY (tkH n q.r)=0:=by omega
 obtain ⟨_,hn⟩:=bW2 he;have hv2:=(SD hk hn).2;obtain ⟨e1,hv⟩:=cT2 h0 hk hn;rw [e1];obtain ⟨hp,hi⟩:=FR hq (SH (n:=n) (by rw [hk];decide));refine .sk<|.tN<|.sm Z<|.nC Z<|.fA Z nT<|.lD Z dZ dN Z<|.yw (.add Z Z (c:=((sZ ts q.tl:Nat):Int)) ((w6 (by omega)).trans (by omega)))<|.nC Z<|.fA Z nT<|.st fG Z Z jG Z (nb Z) Z<|.ns<|.mv Z<|.az Z<|?_
 refine y9 Z Z λW s=>?_;exact ⟨Int64.ofNat (oJ (tkH n q.r).t),hv,(by rw [hv2,dC9 hn]),s.p2_1 [1] rfl⟩
theorem bZ2 {m:Str} (h:m≠[]):(bK m).1≠0:=by
 match m,h with
 | c::r,_ =>
  cases h1:rV c with
  | true =>
   cases h4:words.contains ((c::r).take (pre kY (c::r))) with
   | true=>simp only [bK,aG,h1,h4,aN];decide
   | false =>
    by_cases h5:pre kY (c::r)<=12
    ·simp only [bK,aG,h1,h4,h5,aN,aC,aL];decide
    ·simp only [bK,aG,h1,h4,h5,aN,aC,aL];decide
  | false =>
   cases h4:kK c with
   | true =>
    by_cases h5:pre kK (c::r)=1\/c≠48
    ·simp only [bK,aG,h1,h4,h5,aN,aC,aL];decide
    ·simp only [bK,aG,h1,h4,h5,aN,aC,aL];decide
   | false=>cases hx:symbols.find? (λx=>x.isPrefixOf (c::r)) <;> simp only [bK,aG,h1,h4,hx,aC,aL] <;> decide
theorem bE6:∀ (f o:Nat) (m:Str),∀ t∈GP f o m,t.k≠0
 | 0,_,_,t,h=>by cases h
 | f+1,o,m,t,h=>by
  by_cases h0:m=[]
  ·rw [h0,wQ] at h;cases h
  ·rw [tU h0] at h;rcases bJ.1 h with rfl | h
   ·exact bZ2 h0
   ·exact bE6 f _ _ t h
theorem cO0 (s:Str):∀ t∈sE s,t.k≠0:=bE6 _ _ _
theorem cX5 (t:Str) (ht:t.length<=9223372036854775807) (s:St H w0 bs W) :
 Calls prg 25 #[cJ t] W λe W'=>∃ z:Nat × Hp × Option Addr × Nat,(Tkr z.2.1 t t.length (sg0 t).r z.2.2.1 z.2.2.2/\HUp w0 H z.2.1)/\e=.returned (.pointer (some ⟨z.1,0,none⟩))/\St z.2.1 w0 (.box z.1 [cJ t,.slice z.2.2.1 ((sg0 t).r).length z.2.2.2,iN (sZ ((sg0 t).r) (sg0 t)),iN ((sg0 t).o),iN ((sg0 t).e)] 75::bs) W':=by
 refine fD func25 rfl ntmps25 rfl s ?_;refine .sr<|.a Z Z<|.ns<|.mv Z<|.yw (.build Z (bC9 _))<|.bx Z Z Z λb6=>.aq Z<|.sq<|.sm Z<|.yw (.lenS eQ Z)<|.yw (.gtr Z Z)<|.nt<|.ce Z (λh9=>?_) (λh9=>?_)
 ·have hbig:20000<t.length:=by omega
  have e0:sg0 t=⟨[],3,0⟩:=by unfold sg0;rw [aE hbig]
  refine .sm Z<|.nC Z<|.fA Z lT<|.st .head Z Z jG Z (nb Z) Z<|.ns<|.mv Z<|.az Z<|.tR<|?_
  refine y9 Z Z λW s=>⟨(b6,H,none,0),⟨by rw [e0];exact ⟨Rep.empty (cM _),λ_ h=>(by cases h),λ_ h=>(by cases h),λ_ h=>(by cases h),λ_ h=>(by cases h),Z⟩,.refl⟩,Z,?_⟩;rw [e0];exact s.p1_1 [0] rfl
 have hl:t.length<=20000:=by omega
 have e0:sg0 t=⟨sE t,0,0⟩:=by unfold sg0;rw [aA (by omega)]
 refine .sk<|.tN<|.sm Z<|.mv Z<|.ct (X:=Value) bS5 Z (λW s=>cC3 H t (by omega) W s.agr) Z λv H1 hsq u1=>?_
 obtain ⟨p1,c1,e1,_⟩:=hsq.sl;simp only [aT,bV] at e1;subst e1;rw [aJ] at hsq|-;refine .nC Z<|.fA Z GD<|.st .head Z Z bP7 Z (nb Z) Z<|.ns<|.mv Z<|.az Z<|?_
 refine y9 Z Z λW s=>⟨(b6,H1,p1,c1),⟨by rw [e0];exact ⟨hsq,XS t,aM4 t,λx hx=>cN (KX t x hx) (by omega),cO0 t,Z⟩,u1⟩,Z,?_⟩;rw [e0];rw [show sZ (sE t) ⟨sE t,0,0⟩=0 from oW _];exact s.p1_1 [0] rfl
theorem mK:cU prg 26=true:=by kernel_rfl
theorem PL:cU prg 52=true:=by kernel_rfl
theorem bS4:cU prg 53=true:=by kernel_rfl
theorem bQ7:cU prg 94=true:=by kernel_rfl
theorem aR8 (x0 x1:Int):oK prg 129 2 [(0,.int .i64 x0),(1,.int .i64 x1)]=some (3,[.int .i64 x0,.int .i64 x1]):=by kernel_rfl
theorem aR7 (x0 x1 x2:Int):oK prg 129 3 [(0,.int .i64 x0),(1,.int .i64 x1),(2,.int .i64 x2)]=some (3,[.int .i64 x0,.int .i64 x1,.int .i64 x2]):=by kernel_rfl
def ExV (f:FuncId) (vs:List Value) (g:Pz Ex) (M:Nat):Prop:=∀ {H:Hp} {w0 W:World} {bs:List Res} {b n:Nat} {t:Str} {ts:List Tk} {tp:Option Addr} {tc:Nat} {q:Sg},(_ :  Tkr H t n ts tp tc)->(_:q.r<:+ts)->q.mu<M->St H w0 (PA b t tp ts tc q::bs) W ->
 Calls prg f (.pointer (some ⟨b,0,none⟩)::vs).toArray W λe W'=>∃ z:Ex × List Value × Hp,(vl g q z.1/\HUp w0 H z.2.2/\Rep z.2.2 (dEx .i64 z.1) z.2.1)/\e=.returned (.agg z.2.1.toArray)/\St z.2.2 w0 (PA b t tp ts tc (up n g q)::bs) W'
theorem ExV.zero (f:FuncId) (vs:List Value) (g:Pz Ex):ExV f vs g 0:=λ_ _ h _=>absurd h (lY _)
variable {q1:Sg} {a:Ex}
theorem LfI.fin {b:Ex} {op:UInt8} (h:LfI n 2 q a q1) (hop:opF (qG 2) q1=some op) (hb:vl (gX 3) q1.tl b):up n (gX 3) q1.tl=up n (gX 2) q/\vl (gX 2) q (opE op [a,b]):=by
 rw [MH] at hop;have e:gK 2 op a b=eR (opE op [a,b]):=by unfold gK;rw [aE rfl]
 refine ⟨?_,h.val _ (aT9 (by decide) hop (aM (n:=n) hb (by rw [e];exact dB)))⟩;rw [<-h.eq,aU1 (by decide) hop,aO (Cz.ex _) hb,e,dE]
def qo:Option UInt8->Sg->Sg
 | none,q=>q
 | some _,q=>q.tl
theorem cM0 (lv:Nat):∀ x∈qG lv,x.2.toNat≠0:=by
 unfold qG
 split <;> decide
theorem cA1 (lv:Nat):(qG lv).length<=6:=by
 unfold qG
 split <;> decide
theorem bF1 {lv:Nat} {ov:Option UInt8} (h:∀ op,ov=some op->opF (qG lv) q=some op) (e:(((ov.getD 0).toNat:Nat):Int)=0):ov=none:=by
 cases ov with
 | none=>rfl
 | some op =>
  have h1:=h op rfl;unfold opF at h1;obtain ⟨x,hx,rfl⟩:=eC.1 h1;exact absurd (show x.2.toNat=0 by simpa using e) (cM0 lv x (List.mem_of_find?_eq_some hx))
theorem cM1 (H:Hp) (lv:Nat) (hl:lv<=4) (w:World) (hA:Agr H w) :
 Calls prg 53 #[iN lv] w λr w'=>∃ (z:Nat × Nat) (H':Hp),(lB H' z.1 0 ((qG lv).map λx=>cJ x.1)/\lB H' z.2 0 ((qG lv).map λx=>.int .i64 x.2.toNat))/\r=.returned (.tuple #[.slice (some ⟨z.1,0,none⟩) (qG lv).length (qG lv).length,.slice (some ⟨z.2,0,none⟩) (qG lv).length (qG lv).length])/\BX H w H' w':=by
 refine Sx.enter (H:=H) func53 rfl ntmps53 rfl hA ?_;refine .sr<|.a Z Z<|.aq Z<|.sq<|.sm Z<|.nt<|.bk<|.sr<|.yw (.eql Z Z)<|.aq Z<|.ce Z (λh5=>?_) (λh5=>?_)
 ·obtain rfl:lv=0:=by omega
  refine .sr<|.bl Z (jY _) Z λb7=>?_
  refine dD λH1 u1 m1=>?_;refine .bl Z (AX _) Z λb8=>?_;refine dD λH2 u2 m2=>?_;refine .a Z Z<|.az Z<|.bR<|.tR<|?_
  refine y7 Z (.cons (.tmp Z) (.cons (.tmp Z) .nil)) rfl λW s=>⟨(b7,b8),H2,⟨m1.up u2.up,m2⟩,Z,(u1.trans u2).grow s⟩
 refine .sr<|.yw (.eql Z Z)<|.aq Z<|.ce Z (λh9=>?_) (λh9=>?_)
 ·obtain rfl:lv=1:=by omega
  refine .sr<|.bl Z (jY _) Z λb11=>?_
  refine dD λH1 u1 m1=>?_;refine .bl Z (AX _) Z λb12=>?_;refine dD λH2 u2 m2=>?_;refine .a Z Z<|.az Z<|.bR<|.tR<|?_
  refine y7 Z (.cons (.tmp Z) (.cons (.tmp Z) .nil)) rfl λW s=>⟨(b11,b12),H2,⟨m1.up u2.up,m2⟩,Z,(u1.trans u2).grow s⟩
 refine .sr<|.yw (.eql Z Z)<|.aq Z<|.ce Z (λh13=>?_) (λh13=>?_)
 ·obtain rfl:lv=2:=by omega
  refine .sr<|.bl Z (VE _ _ _ _ _ _) Z λb15=>?_
  refine dD λH1 u1 m1=>?_;refine .bl Z (QO _ _ _ _ _ _) Z λb16=>?_;refine dD λH2 u2 m2=>?_;refine .a Z Z<|.az Z<|.bR<|.tR<|?_
  refine y7 Z (.cons (.tmp Z) (.cons (.tmp Z) .nil)) rfl λW s=>⟨(b15,b16),H2,⟨m1.up u2.up,m2⟩,Z,(u1.trans u2).grow s⟩
 refine .sr<|.yw (.eql Z Z)<|.aq Z<|.ce Z (λh17=>?_) (λh17=>?_)
 ·obtain rfl:lv=3:=by omega
  refine .sr<|.bl Z (zX _ _) Z λb19=>?_
  refine dD λH1 u1 m1=>?_;refine .bl Z (aR8 _ _) Z λb20=>?_;refine dD λH2 u2 m2=>?_;refine .a Z Z<|.az Z<|.bR<|.tR<|?_
  refine y7 Z (.cons (.tmp Z) (.cons (.tmp Z) .nil)) rfl λW s=>⟨(b19,b20),H2,⟨m1.up u2.up,m2⟩,Z,(u1.trans u2).grow s⟩
 obtain rfl:lv=4:=by omega
 refine .sk<|.bN<|.tN<|.sr<|.bl Z (qK _ _ _) Z λb21=>?_
 refine dD λH1 u1 m1=>?_;refine .bl Z (aR7 _ _ _) Z λb22=>?_;refine dD λH2 u2 m2=>?_;refine .a Z Z<|.az Z<|?_
 refine y7 Z (.cons (.tmp Z) (.cons (.tmp Z) .nil)) rfl λW s=>⟨(b21,b22),H2,⟨m1.up u2.up,m2⟩,Z,(u1.trans u2).grow s⟩
theorem cF2 (M lv:Nat) (hlv:lv<=5) (hun:lv=5->ExV 52 [] (gX 5) M) (hop:lv<5->ExV 26 [.int .i64 ((lv+1:Nat):Int)] (gX (lv+1)) M):ExV 26 [iN lv] (gX lv) M:=by
 intro H w0 W bs b n t ts tp tc q K hq hmu s;have hL6:=cA1 lv;refine fD func26 rfl ntmps26 rfl s ?_;refine .sr<|.al jW Z λb4=>.nt<|.sq<|.sm Z<|.yw (.eql Z Z)<|.nt<|.ce Z (λh12=>?_) (λh12=>?_)
 ·obtain rfl:lv=5:=by omega
  refine .sm Z<|.cs (X:=Ex × List Value × Hp) PL Z (λW s=>hun Z K hq hmu (s.p2_2 [1,0] Z)) Z λz1 hz1=>?_
  obtain ⟨a1,c1,H1⟩:=z1;obtain ⟨hv1,u1,r1⟩:=hz1;dsimp only at hv1 u1 r1|-;obtain ⟨x1,x2,x3,x4,rfl⟩:=qA (iM r1);have K1:=K.up u1.up;refine .sW fG Z Z eI (Rep.one r1) Z<|.nt<|.rt<|.tR<|?_
  refine y8 Z (.cell Z dM dN rfl) λW s=>?_;exact ⟨(a1,[x1,x2,x3,x4],H1),⟨hv1,u1,r1⟩,Z,s.p2_1 [0] rfl⟩
 have hl:lv<=4:=by omega
 refine .sk<|.tN<|.sm Z<|.mv Z<|.yw (.add Z Z (c:=((lv+1:Nat):Int)) ((w6 (by omega)).trans (by omega)))<|.cs (X:=Ex × List Value × Hp) mK Z (λW s=>hop (by omega) K hq hmu (s.p2_2 [1,0] Z)) Z λz1 hz1=>?_
 obtain ⟨a1,c1,H1⟩:=z1;obtain ⟨hv1,u1,r1⟩:=hz1;dsimp only at hv1 u1 r1|-;obtain ⟨x1,x2,x3,x4,rfl⟩:=qA (iM r1);have K1:=K.up u1.up;refine .al jW Z λb5=>.sW .head Z Z eI (Rep.one r1) Z<|.ns<|.mv Z<|.ct (X:=Nat × Nat) bS4 Z (λW s=>cM1 H1 lv (by omega) W s.agr) Z λzo H2 mo u2=>?_
 obtain ⟨bw,bo⟩:=zo;obtain ⟨mw,mo⟩:=mo;dsimp only at mw mo|-;have K2:=K1.up u2.up;refine .mv Z<|.yw (.extract Z Z)<|.yw (.extract Z Z)<|.a Z Z<|.aq Z<|.bk<|.lp (X:=(Ex × Value × Value × Value × Value) × Hp × Sg) [(0,_),(1,_),(4,_),(5,_),(6,_),(7,_)] ⟨Z,Z,Z,Z,Z,Z,Jt⟩ (_::bs) (λz=>[]) (λz=>z.2.1) (λz=>[.box b5 [z.1.2.1,z.1.2.2.1,z.1.2.2.2.1,z.1.2.2.2.2] 33,PA b t tp ts tc z.2.2]) (λz=>LfI n lv q z.1.1 z.2.2/\HUp w0 H2 z.2.1/\Rep z.2.1 (dEx .i64 z.1.1) [z.1.2.1,z.1.2.2.1,z.1.2.2.2.1,z.1.2.2.2.2]/\z.2.2.r<:+ts) (λz=>z.2.2.mu) ((a1,x1,x2,x3,x4),H2,up n (gX (lv+1)) q) (λ_ s=>s) trivial ⟨LfI.start (by omega) hv1,.refl,r1.up u2.up,(Suf.ex _).up hq⟩ λz hC=>?_
 obtain ⟨⟨a,y1,y2,y3,y4⟩,H3,q1⟩:=z;obtain ⟨hI,u3,r3,hq1⟩:=hC;dsimp only at hI u3 r3 hq1|-;have K3:=K2.up u3.up;refine .bk<|.sr<|.aq Z<|.sq<|.sm Z<|.yw (.lenSl dR Z)<|.mv Z<|.nt<|.bk<|.lp (X:=Nat × Option UInt8) [(0,_),(1,_),(4,_),(5,_),(6,_),(7,_),(24,_),(25,_)] ⟨Z,Z,Z,Z,Z,Z,Z,Z,Jt⟩ (_::_::bs) (λy=>[(26,iN y.1),(8,iN ((y.2.getD 0).toNat))]) (λy=>H3) (λy=>[PA b t tp ts tc (qo y.2 q1)]) (λy=>y.1<=(qG lv).length/\(y.2=none->∀ i,i<y.1->∀ x,(qG lv)[i]? = some x->ac x.1 q1=false)/\(∀ op,y.2=some op->opF (qG lv) q1=some op)) (λy=>(qG lv).length - y.1) (0,none) (λ_ s=>(s.p3_3 [1,0,2] Z)) ⟨Z,Z,Jt⟩ ⟨cM _,λ_ i hi=>absurd hi (lY _),λop h=>(by cases h)⟩ λy hC=>?_
 obtain ⟨k,ov⟩:=y;obtain ⟨hk0,hnone,hsome⟩:=hC;dsimp only at hk0 hnone hsome|-;refine .sr<|.yw (.lss Z Z)<|.nt<|.sq<|.ce Z (λh27=>?_) (λh27=>?_)
 ·have hk:k<(qG lv).length:=by omega
  refine .sk<|.tN<|.sq<|.bk<|.sm Z<|.yw (.indexSl dR Z Z Z (by omega) (q:=k) (by omega))<|.yw (.loadM Z bZ (mw.up u3.up) (k:=k) (v:=cJ (qG lv)[k].1) (by omega) (eL (f:=λx:Str × UInt8=>cJ x.1) hk))<|.a Z Z<|.a Z Z<|.ns<|.mv Z<|.yw (.eql Z Z)<|.mv Z<|.e2 (λh33=>?_) (λh33=>?_)
  ·obtain rfl:=bF1 hsome (by omega);refine .gy (.move Z)<|.gy (.move Z)<|.gd Z Z<|.cs (X:=Unit) gD Z (λW s=>kX K3 hq1 (qG lv)[k].1 (s.p3_3 [0,1,2] Z)) Z λ_ _=>.yw (.pickT Z Z)<|.nt<|.cd Z (λh37=>?_) (λh37=>?_)
   ·rw [iS h37];exact .rg<|.mv Z<|.mv Z<|.yw (.indexSl CU Z Z Z (by omega) (q:=k) (by omega))<|.yw (.loadM Z dZ (mo.up u3.up) (k:=k) (v:=.int .i64 ((qG lv)[k].2.toNat:Nat)) (by omega) (eL (f:=λx:Str × UInt8=>Value.int .i64 x.2.toNat) hk))<|.a Z Z<|.nl<|.bN<|.tN<|.rg<|.yw (.add Z Z w7)<|.mv Z<|.nt<|.ag (x:=(k,none)) (k+1,some (qG lv)[k].2) ⟨Z,Z,Jt⟩ ⟨Z,Z,Z,Z,Z,Z,Z,Z,Jt⟩ (λ_ s=>s) ⟨by show k+1<=_;omega,λh=>(by cases h),λop h=>(by cases h;exact aV8 hk (hnone Z) h37)⟩ (by show (qG lv).length - (k+1)<(qG lv).length - k;omega)
   rw [iT h37];exact .sk<|.bN<|.tN<|.rg<|.yw (.add Z Z w7)<|.mv Z<|.nt<|.ag (x:=(k,none)) (k+1,none) ⟨Z,Z,Jt⟩ ⟨Z,Z,Z,Z,Z,Z,Z,Z,Jt⟩ (λ_ s=>s) ⟨by show k+1<=_;omega,λ_ i hi x hx=>(by
   by_cases hik:i=k
   ·subst hik;rw [List.getElem?_eq_getElem hk] at hx;cases hx;exact h37
   ·exact hnone rfl i (by omega) x hx),λop h=>(by cases h)⟩ (by show (qG lv).length - (k+1)<(qG lv).length - k;omega)
  have hz:ov≠none:=λe=>by subst e;exact h33 rfl
  exact .gG<|.gG<|.gG<|.yw (.pickF Z Z)<|.nt<|.cF Z<|.sk<|.bN<|.tN<|.rg<|.yw (.add Z Z w7)<|.mv Z<|.nt<|.ag (x:=(k,ov)) (k+1,ov) ⟨Z,Z,Jt⟩ ⟨Z,Z,Z,Z,Z,Z,Z,Z,Jt⟩ (λ_ s=>s) ⟨by show k+1<=_;omega,λh=>absurd h hz,hsome⟩ (by show (qG lv).length - (k+1)<(qG lv).length - k;omega)
 obtain rfl:k=(qG lv).length:=by omega
 refine .ex<|.eb<|.sq<|.sm Z<|.yw (.eql Z Z)<|.nt<|.ce Z (λh44=>?_) (λh44=>?_)
 ·obtain rfl:=bF1 hsome (by omega);have hN:opF (qG lv) q1=none:=aL2 (hnone rfl);obtain ⟨e1,hv⟩:=hI.stop hN;rw [e1];refine .sr<|.yw (.loadW Z dM dN Z)<|.sW fU Z Z eI (Rep.one r3) Z<|.nt<|.rt<|.tR<|.bR<|.tR<|.bR<|?_
  refine y8 Z (.cell Z dM fN rfl) λW s=>?_;exact ⟨(a,[y1,y2,y3,y4],H3),⟨hv,u1.trans (u2.trans u3),r3⟩,Z,s.p3_1 [0] rfl⟩
 have hz:ov≠none:=λe=>by subst e;exact h44 rfl
 obtain ⟨op,rfl⟩:=Option.ne_none_iff_exists'.1 hz;have hS:=hsome op rfl;have hmu1:q1.tl.mu<M:=by have:=SS hS;have:=hI.mu;omega
 refine .sk<|.tN<|.sq<|.fL 8 [(0,0),(1,0),(2,0),(3,0),(4,0),(5,3),(6,1),(7,0)]<|.mv Z<|.yw (.loadW Z dM dN Z)<|.mv Z<|.mv Z<|.yw (.add Z Z (c:=((lv+1:Nat):Int)) ((w6 (by omega)).trans (by omega)))<|.c3 (X:=Ex × List Value × Hp) mK Z (λW s=>hop (by omega) K3 (Suf.tl hq1) hmu1 (s.p3_3 [0,1,2] Z)) Z (λ_ _=>(.d3<|.yv (.loadW Z dM dN Z)<|.yv (.move Z)<|.nl)) λz4 hz4=>?_
 obtain ⟨a2,c2,H4⟩:=z4;obtain ⟨hv4,u4,r4⟩:=hz4;dsimp only at hv4 u4 r4|-;obtain ⟨w1,w2,w3,w4,rfl⟩:=qA (iM r4);refine .blF Z (yA _ _ _ _ _ _ _ _) Z λb52 H5 u5 m5=>.yw (.build Z (qZ _ _ _ _))<|.fn (tl:=[_]) Z<|.sW fG Z Z eI (by simp [Value.oneCell']) Z<|.ns<|.mv Z<|.yw (.eql Z Z)<|.nt<|.ce Z (λh55=>?_) (λh55=>?_)
 ·obtain rfl:lv=2:=by omega
  refine .sr<|.yw (.loadW Z dM dN Z)<|.sW fU Z Z eI (by simp [Value.oneCell']) Z<|.zR<|.bR<|?_
  refine y8 Z (.cell Z dM fN rfl) λW s=>?_;rw [<-(hI.fin (n:=n) hS hv4).1];exact ⟨(opE op [a,a2],[.int .i64 op.toNat,.string ⟨#[]⟩,.int .i64 0,.slice (some ⟨b52,0,none⟩) 2 2],H5),⟨(hI.fin hS hv4).2,u1.trans (u2.trans (u3.trans (u4.trans u5))),iE (op:=op) (nm:=[]) (n:=0) (args:=[a,a2]) (by decide) (Rep.mk (n:=2) (c:=2) m5 (dA.app (dA.single (r3.up (u4.trans u5).up) rfl) (dA.single (r4.up u5.up) rfl)) rfl (aK _) (by decide))⟩,Z,s.p3_1 [0] rfl⟩
 have hne:lv≠2:=by omega
 exact .sk<|.bN<|.tN<|.ag (x:=((a,y1,y2,y3,y4),H3,q1)) ((opE op [a,a2],.int .i64 op.toNat,.string ⟨#[]⟩,.int .i64 0,.slice (some ⟨b52,0,none⟩) 2 2),H5,up n (gX (lv+1)) q1.tl) trivial ⟨Z,Z,Z,Z,Z,Z,Jt⟩ (λ_ s=>(s.p3_3 [1,0,2] Z)) ⟨(hI.step hl hne hS hv4).1,u3.trans (u4.trans u5),iE (op:=op) (nm:=[]) (n:=0) (args:=[a,a2]) (by decide) (Rep.mk (n:=2) (c:=2) m5 (dA.app (dA.single (r3.up (u4.trans u5).up) Z) (dA.single (r4.up u5.up) Z)) Z (aK _) (by decide)),(Suf.ex _).up (Suf.tl hq1)⟩ (hI.step hl hne hS hv4).2
theorem cS4 (h1:ac [45] q=true) (hv:vl (gX 5) q.tl a):up n (gX 5) q=up n (gX 5) q.tl/\vl (gX 5) q (opE 9 [a]) :=
 ⟨by conv=>lhs;rw [GL,eU h1,BB],by rw [GL];exact eG h1 (yL (f:=λx=>opE 9 [x]) hv)⟩
theorem bW7 (h1:ac [45] q=false) (h2:ac [110,111,116] q=true) (hv:vl (gX 5) q.tl a):up n (gX 5) q=up n (gX 5) q.tl/\vl (gX 5) q (opE 10 [a]) :=
 ⟨by conv=>lhs;rw [GL,aZ h1,eU h2,BB],by rw [GL];exact aY h1 (eG h2 (yL (f:=λx=>opE 10 [x]) hv))⟩
theorem cS5 (h1:ac [45] q=false) (h2:ac [110,111,116] q=false) (hv:vl gY q a):up n (gX 5) q=up n gY q/\vl (gX 5) q a:=by
 rw [GL,RG];exact ⟨by rw [aZ h1,aZ h2],aY h1 (aY h2 hv)⟩
theorem cJ7 (M:Nat) (hun:ExV 52 [] (gX 5) M) (hprim:ExV 94 [] gY (M+1)):ExV 52 [] (gX 5) (M+1):=by
 intro H w0 W bs b n t ts tp tc q K hq hmu s;refine fD func52 rfl ntmps52 rfl s ?_;refine .sr<|.al jW Z λb2=>.nt<|.sq<|.sm Z<|.cs (X:=Unit) gD Z (λW s=>kX K hq [45] (s.p2_2 [1,0] Z)) Z λ_ _=>.nt<|.cd Z (λh4=>?_) (λh4=>?_)
 ·rw [iS h4];have hlt:=qH h4;refine .sm Z<|.cs (X:=Ex × List Value × Hp) PL Z (λW s=>hun K (Suf.tl hq) (by omega) (s.p2_2 [0,1] Z)) Z λz1 hz1=>?_
  obtain ⟨a1,c1,H1⟩:=z1;obtain ⟨hv1,u1,r1⟩:=hz1;dsimp only at hv1 u1 r1|-;obtain ⟨x1,x2,x3,x4,rfl⟩:=qA (iM r1);have K1:=K.up u1.up;refine .bl Z (fT _ _ _ _) Z λb7=>?_;refine dD λH2 u2 m2=>?_;refine .yw (.build Z (qZ _ _ _ _))<|.sW fG Z Z eI (by simp [Value.oneCell']) Z<|.nt<|.rt<|.tR<|?_
  refine y8 Z (.cell Z dM dN rfl) λW s=>?_;rw [(cS4 (n:=n) h4 hv1).1];exact ⟨(opE 9 [a1],[.int .i64 9,.string ⟨#[]⟩,.int .i64 0,.slice (some ⟨b7,0,none⟩) 1 1],H2),⟨(cS4 (n:=n) h4 hv1).2,u1.trans u2,iE (op:=9) (nm:=[]) (n:=0) (args:=[a1]) (by decide) (Rep.mk (n:=1) (c:=1) m2 (.single (r1.up u2.up) rfl) rfl (aK _) (by decide))⟩,Z,s.p2_1 [0] rfl⟩
 rw [iT h4];refine .sk<|.tN<|.sq<|.sm Z<|.cs (X:=Unit) gD Z (λW s=>kX K hq [110,111,116] (s.p2_2 [0,1] Z)) Z λ_ _=>.nt<|.cd Z (λh10=>?_) (λh10=>?_)
 ·rw [iS h10];have hlt:=qH h10;refine .sm Z<|.cs (X:=Ex × List Value × Hp) PL Z (λW s=>hun K (Suf.tl hq) (by omega) (s.p2_2 [0,1] Z)) Z λz1 hz1=>?_
  obtain ⟨a1,c1,H1⟩:=z1;obtain ⟨hv1,u1,r1⟩:=hz1;dsimp only at hv1 u1 r1|-;obtain ⟨x1,x2,x3,x4,rfl⟩:=qA (iM r1);have K1:=K.up u1.up;refine .bl Z (fT _ _ _ _) Z λb13=>?_;refine dD λH2 u2 m2=>?_;refine .yw (.build Z (qZ _ _ _ _))<|.sW fG Z Z eI (by simp [Value.oneCell']) Z<|.nt<|.rt<|.tR<|?_
  refine y8 Z (.cell Z dM dN rfl) λW s=>?_;rw [(bW7 (n:=n) h4 h10 hv1).1];exact ⟨(opE 10 [a1],[.int .i64 10,.string ⟨#[]⟩,.int .i64 0,.slice (some ⟨b13,0,none⟩) 1 1],H2),⟨(bW7 (n:=n) h4 h10 hv1).2,u1.trans u2,iE (op:=10) (nm:=[]) (n:=0) (args:=[a1]) (by decide) (Rep.mk (n:=1) (c:=1) m2 (.single (r1.up u2.up) rfl) rfl (aK _) (by decide))⟩,Z,s.p2_1 [0] rfl⟩
 rw [iT h10];refine .sk<|.tN<|.sm Z<|.cs (X:=Ex × List Value × Hp) bQ7 Z (λW s=>hprim K hq hmu (s.p2_2 [0,1] Z)) Z λz1 hz1=>?_
 obtain ⟨a1,c1,H1⟩:=z1;obtain ⟨hv1,u1,r1⟩:=hz1;dsimp only at hv1 u1 r1|-;obtain ⟨x1,x2,x3,x4,rfl⟩:=qA (iM r1);have K1:=K.up u1.up;refine .sW fG Z Z eI (Rep.one r1) Z<|.nt<|.rt<|?_
 refine y8 Z (.cell Z dM dN rfl) λW s=>?_;rw [(cS5 (n:=n) h4 h10 hv1).1];exact ⟨(a1,[x1,x2,x3,x4],H1),⟨(cS5 (n:=n) h4 h10 hv1).2,u1,r1⟩,Z,s.p2_1 [0] rfl⟩
theorem bT9:cU prg 25=true:=by kernel_rfl
theorem bT8:cU prg 27=true:=by kernel_rfl
theorem dP:cU prg 96=true:=by kernel_rfl
theorem lQ:cU prg 97=true:=by kernel_rfl
theorem PI:cU prg 99=true:=by kernel_rfl
theorem tX:gH prg 31=some 1:=by kernel_rfl
theorem cI7  : gE prg 33 []=some [.int .i64 0,.string ⟨#[]⟩,.int .i64 0,.slice none 0 0]:=by kernel_rfl
variable {w:Str}
theorem GM (h:decide ((((tkH n q.r).k.toNat:Nat):Int)=3)=true):ac w q=false:=by
 have h:=dF h;rw [HO (n:=n),eJ (show ¬ (((tkH n q.r).k.toNat:Nat):Int)=2 by omega),eJ (show ¬ (((tkH n q.r).k.toNat:Nat):Int)=4 by omega)];simp
theorem bL5 (M:Nat) (hex:ExV 26 [.int .i64 ((0:Nat):Int)] (gX 0) M):ExV 94 [] gY (M+1):=by
 intro H w0 W bs b n t ts tp tc q K hq hmu s;refine fD func94 rfl ntmps94 rfl s ?_;refine .sr<|.al jW Z λb2=>.nt<|.sq<|.sm Z<|.nC Z<|.fA Z lT<|.lD Z dZ dN Z<|.yw (.neq Z Z)<|.nt<|.ce Z (λh10=>?_) (λh10=>?_)
 ·have h0:¬ q.e=0:=by omega
  refine .sr<|.yw (.build Z cI7)<|.sX .head Z Z eI Z<|.nt<|.rt<|.tR<|?_
  refine y8 Z (.cell Z dM Hm rfl) λW s=>?_;rw [yC h0];exact ⟨(opE 0 [],[.int .i64 0,.string ⟨#[]⟩,.int .i64 0,.slice none 0 0],H),⟨aH4 h0,.refl,iE (op:=0) (nm:=[]) (n:=0) (args:=[]) (by decide) (Rep.empty (p:=none) (c:=0) (by decide))⟩,Z,s.p2_1 [1] rfl⟩
 have h0:q.e=0:=by omega
 refine .sk<|.tN<|.sq<|.bk<|.sm Z<|.cs (X:=Unit) zT Z (λW s=>SF K hq  (s.p2_2 [1,0] Z)) Z λ_ _=>.yw (.fld Z (bH5 _ _ _))<|.yw (.eql Z Z)<|.aq Z<|.cd Z (λh12=>?_) (λh12=>?_)
 ·refine .sm Z<|.cs (X:=Int64) PI Z (λW s=>SZ K hq  (s.p2_2 [0,1] Z)) Z λnu hnu=>.yw (.build Z (NM _ _))<|.sX fG Z Z eI Z<|.zR<|?_
  refine y8 Z (.cell Z dM dN rfl) λW s=>?_;rw [show up n gY q=up n gNu q by unfold gY;rw [aZ (GM h12),aZ (GM h12),aZ (GM h12),aZ (GM h12),aZ (GM h12),aZ (GM h12)];exact XU h12];exact ⟨(.mk 1 [] nu [],[.int .i64 1,.string ⟨#[]⟩,.int .i64 nu.toInt,.slice none 0 0],H),⟨(by unfold gY;exact aY (GM h12) (aY (GM h12) (aY (GM h12) (aY (GM h12) (aY (GM h12) (aY (GM h12) (aM6 h12 hnu))))))),.refl,iE (op:=1) (nm:=[]) (n:=nu) (args:=[]) (by decide) (Rep.empty (p:=none) (c:=0) (by decide))⟩,Z,s.p2_1 [0] rfl⟩
 refine .sm Z<|.cs (X:=Unit) gD Z (λW s=>kX K hq [116,114,117,101] (s.p2_2 [0,1] Z)) Z λ_ _=>.aq Z<|.cd Z (λh20=>?_) (λh20=>?_)
 ·rw [iS h20];refine .sr<|.yw (.build Z (DE _))<|.sX fG Z Z eI Z<|.zR<|?_
  refine y8 Z (.cell Z dM dN rfl) λW s=>?_;rw [show up n gY q=q.tl by unfold gY;rw [eU h20,dE]];exact ⟨(opE 2 [],[.int .i64 2,.string ⟨#[]⟩,.int .i64 0,.slice none 0 0],H),⟨(by unfold gY;exact eG h20 (dB)),.refl,iE (op:=2) (nm:=[]) (n:=0) (args:=[]) (by decide) (Rep.empty (p:=none) (c:=0) (by decide))⟩,Z,s.p2_1 [0] rfl⟩
 rw [iT h20];refine .sm Z<|.cs (X:=Unit) gD Z (λW s=>kX K hq [102,97,108,115,101] (s.p2_2 [0,1] Z)) Z λ_ _=>.aq Z<|.cd Z (λh24=>?_) (λh24=>?_)
 ·rw [iS h24];refine .sr<|.yw (.build Z (DE _))<|.sX fG Z Z eI Z<|.zR<|?_
  refine y8 Z (.cell Z dM dN rfl) λW s=>?_;rw [show up n gY q=q.tl by unfold gY;rw [aZ h20,eU h24,dE]];exact ⟨(opE 3 [],[.int .i64 3,.string ⟨#[]⟩,.int .i64 0,.slice none 0 0],H),⟨(by unfold gY;exact aY h20 (eG h24 (dB))),.refl,iE (op:=3) (nm:=[]) (n:=0) (args:=[]) (by decide) (Rep.empty (p:=none) (c:=0) (by decide))⟩,Z,s.p2_1 [0] rfl⟩
 rw [iT h24];refine .sm Z<|.cs (X:=Unit) gD Z (λW s=>kX K hq [110,111,119] (s.p2_2 [0,1] Z)) Z λ_ _=>.aq Z<|.cd Z (λh28=>?_) (λh28=>?_)
 ·rw [iS h28];refine .sr<|.yw (.build Z (DE _))<|.sX fG Z Z eI Z<|.zR<|?_
  refine y8 Z (.cell Z dM dN rfl) λW s=>?_;rw [show up n gY q=q.tl by unfold gY;rw [aZ h20,aZ h24,eU h28,dE]];exact ⟨(opE 4 [],[.int .i64 4,.string ⟨#[]⟩,.int .i64 0,.slice none 0 0],H),⟨(by unfold gY;exact aY h20 (aY h24 (eG h28 (dB)))),.refl,iE (op:=4) (nm:=[]) (n:=0) (args:=[]) (by decide) (Rep.empty (p:=none) (c:=0) (by decide))⟩,Z,s.p2_1 [0] rfl⟩
 rw [iT h28];refine .sm Z<|.cs (X:=Unit) gD Z (λW s=>kX K hq [115,105,122,101] (s.p2_2 [0,1] Z)) Z λ_ _=>.aq Z<|.cd Z (λh32=>?_) (λh32=>?_)
 ·rw [iS h32];refine .sm Z<|.cs (X:=Str) lQ Z (λW s=>uJ K (Suf.tl hq)  (s.p2_2 [0,1] Z)) Z λnm hnm=>.yw (.build Z (rA _ _))<|.sX fG Z Z eI Z<|.zR<|?_
  refine y8 Z (.cell Z dM dN rfl) λW s=>?_;rw [show up n gY q=up n gNm q.tl by unfold gY;rw [aZ h20,aZ h24,aZ h28,eU h32,BB]];exact ⟨(.mk 8 nm 0 [],[.int .i64 8,cJ nm,.int .i64 0,.slice none 0 0],H),⟨(by unfold gY;exact aY h20 (aY h24 (aY h28 (eG h32 (yL (f:=λs=>Ex.mk 8 s 0 []) hnm.1))))),.refl,iE (op:=8) (nm:=nm) (n:=0) (args:=[]) hnm.2 (Rep.empty (p:=none) (c:=0) (by decide))⟩,Z,s.p2_1 [0] rfl⟩
 rw [iT h32];refine .sm Z<|.cs (X:=Unit) gD Z (λW s=>kX K hq [40] (s.p2_2 [0,1] Z)) Z λ_ _=>.aq Z<|.cd Z (λh38=>?_) (λh38=>?_)
 ·rw [iS h38];have hlt:=qH h38;refine .sm Z<|.cs (X:=Ex × List Value × Hp) mK Z (λW s=>hex K (Suf.tl hq) (by omega) (s.p2_2 [0,1] Z)) Z λz1 hz1=>?_
  obtain ⟨a1,c1,H1⟩:=z1;obtain ⟨hv1,u1,r1⟩:=hz1;dsimp only at hv1 u1 r1|-;obtain ⟨x1,x2,x3,x4,rfl⟩:=qA (iM r1);have K1:=K.up u1.up;refine .al jW Z λb3=>.sW .head Z Z eI (Rep.one r1) Z<|.ns<|.mv Z<|.cs (X:=Unit) dP Z (λW s=>gI K1 ((Suf.ex _).up (Suf.tl hq)) [41] (s.p3_3 [1,0,2] Z)) Z λ_ _=>.ns<|.yw (.loadW Z dM dN Z)<|.sW fU Z Z eI (Rep.one r1) Z<|.zR<|?_
  refine y8 Z (.cell Z dM fN rfl) λW s=>?_;rw [show up n gY q=up n (gNd [41]) (up n (gX 0) q.tl) by unfold gY;rw [aZ h20,aZ h24,aZ h28,aZ h32,aZ (gP (w:=[40]) h38 (by decide)),eU h38,aO (Cz.ex _) hv1,aO (x:=()) (Cz.nd _) aU,dE]];exact ⟨(a1,[x1,x2,x3,x4],H1),⟨(by unfold gY;exact aY h20 (aY h24 (aY h28 (aY h32 (aY (gP (w:=[40]) h38 (by decide)) (eG h38 (aM (n:=n) hv1 (aM (n:=n) (x:=()) aU dB)))))))),u1,r1⟩,Z,s.p3_1 [0] rfl⟩
 rw [iT h38];refine .sm Z<|.cs (X:=Unit) gD Z (λW s=>kX K hq [104,97,115] (s.p2_2 [0,1] Z)) Z λ_ _=>.aq Z<|.cd Z (λh46=>?_) (λh46=>?_)
 ·rw [iS h46];have hlt:=qH h46;refine .sm Z<|.cs (X:=Str) lQ Z (λW s=>uJ K (Suf.tl hq)  (s.p2_2 [0,1] Z)) Z λnm hnm=>.yw (.build Z (rA _ _))<|.al jW Z λb4=>.sX .head Z Z eI Z<|.ns<|.mv Z<|.cs (X:=Unit) dP Z (λW s=>gI K (Suf.nm.up (Suf.tl hq)) [91] (s.p3_3 [1,0,2] Z)) Z λ_ _=>.ns<|.mv Z<|.cs (X:=Ex × List Value × Hp) mK Z (λW s=>hex K ((Suf.nd _).up (Suf.nm.up (Suf.tl hq))) (by have h1:=jE (n:=n) (s:=q.tl) Shs.nm.le Cz.nm;have h2:=jE (n:=n) (s:=up n gNm q.tl) (Shs.nd [91]).le (Cz.nd [91]);omega) (s.p3_3 [0,1,2] Z)) Z λz1 hz1=>?_
  obtain ⟨a1,c1,H1⟩:=z1;obtain ⟨hv1,u1,r1⟩:=hz1;dsimp only at hv1 u1 r1|-;obtain ⟨x1,x2,x3,x4,rfl⟩:=qA (iM r1);have K1:=K.up u1.up;refine .bl Z (fT _ _ _ _) Z λb56=>?_;refine dD λH2 u2 m2=>?_;have K2:=K1.up u2.up;refine .fA Z GF<|.st fG Z Z tX Z (nb Z) Z<|.ns<|.mv Z<|.cs (X:=Unit) dP Z (λW s=>gI K2 ((Suf.ex _).up ((Suf.nd _).up (Suf.nm.up (Suf.tl hq)))) [93] (s.p3_3 [0,1,2] Z)) Z λ_ _=>.ns<|.yw (.loadW Z dM dN Z)<|.sX fU Z Z eI Z<|.zR<|?_
  refine y8 Z (.cell Z dM fN rfl) λW s=>?_;rw [show up n gY q=up n (gNd [93]) (up n (gX 0) (up n (gNd [91]) (up n gNm q.tl))) by unfold gY;rw [aZ h20,aZ h24,aZ h28,aZ h32,eU h46,aO Cz.nm hnm.1];exact (OH (n:=n) 7 nm hv1).1];exact ⟨(.mk 7 nm 0 [a1],[.int .i64 7,cJ nm,.int .i64 0,.slice (some ⟨b56,0,none⟩) 1 1],H2),⟨(by unfold gY;exact aY h20 (aY h24 (aY h28 (aY h32 (eG h46 (aM (n:=n) hnm.1 (OH (n:=n) 7 nm hv1).2)))))),u1.trans u2,iE (op:=7) (nm:=nm) (n:=0) (args:=[a1]) hnm.2 (Rep.mk (n:=1) (c:=1) m2 (.single (r1.up u2.up) rfl) rfl (aK _) (by decide))⟩,Z,s.p3_1 [0] rfl⟩
 rw [iT h46];refine .sk<|.bN<|.tN<|.sm Z<|.cs (X:=Str) lQ Z (λW s=>uJ K hq  (s.p2_2 [0,1] Z)) Z λnm hnm=>.yw (.build Z (rA _ _))<|.al jW Z λb5=>.sX .head Z Z eI Z<|.nt<|.sq<|.sm Z<|.cs (X:=Unit) gD Z (λW s=>kX K (Suf.nm.up hq) [91] (s.p3_3 [1,0,2] Z)) Z λ_ _=>.nt<|.cd Z (λh65=>?_) (λh65=>?_)
 ·rw [iS h65];have hlt:=qH h65;have hle:=jE (n:=n) (s:=q) Shs.nm.le Cz.nm;refine .sr<|.fA Z NK<|.st fG Z Z jG Z (nb Z) Z<|.ns<|.mv Z<|.cs (X:=Ex × List Value × Hp) mK Z (λW s=>hex K (Suf.tl (Suf.nm.up hq)) (by omega) (s.p3_3 [0,1,2] Z)) Z λz1 hz1=>?_
  obtain ⟨a1,c1,H1⟩:=z1;obtain ⟨hv1,u1,r1⟩:=hz1;dsimp only at hv1 u1 r1|-;obtain ⟨x1,x2,x3,x4,rfl⟩:=qA (iM r1);have K1:=K.up u1.up;refine .bl Z (fT _ _ _ _) Z λb69=>?_;refine dD λH2 u2 m2=>?_;have K2:=K1.up u2.up;refine .fA Z GF<|.st fG Z Z tX Z (nb Z) Z<|.nt<|.rg<|.mv Z<|.cs (X:=Unit) dP Z (λW s=>gI K2 ((Suf.ex _).up (Suf.tl (Suf.nm.up hq))) [93] (s.p3_3 [0,1,2] Z)) Z λ_ _=>.ns<|.yw (.loadW Z dM dN Z)<|.sX fU Z Z eI Z<|.nt<|.rt<|?_
  refine y8 Z (.cell Z dM fN rfl) λW s=>?_;rw [show up n gY q=up n (gNd [93]) (up n (gX 0) (up n gNm q).tl) by unfold gY;rw [aZ h20,aZ h24,aZ h28,aZ h32,aZ h46,aZ h38,aM7 h12 hnm.1 h65,(OH (n:=n) 6 nm (show vl (gX 0) (up n (gNd [91]) (up n gNm q)) a1 by rw [FO h65];exact hv1)).1,FO h65]];exact ⟨(.mk 6 nm 0 [a1],[.int .i64 6,cJ nm,.int .i64 0,.slice (some ⟨b69,0,none⟩) 1 1],H2),⟨(by unfold gY;exact aY h20 (aY h24 (aY h28 (aY h32 (aY h46 (aY h38 (MN h12 (aM (n:=n) hnm.1 (eG h65 (cC7 h65 (OH (n:=n) 6 nm (show vl (gX 0) (up n (gNd [91]) (up n gNm q)) a1 by rw [FO h65];exact hv1)).2)))))))))),u1.trans u2,iE (op:=6) (nm:=nm) (n:=0) (args:=[a1]) hnm.2 (Rep.mk (n:=1) (c:=1) m2 (.single (r1.up u2.up) rfl) rfl (aK _) (by decide))⟩,Z,s.p3_1 [0] rfl⟩
 rw [iT h65];refine .sk<|.tN<|.sr<|.yw (.loadW Z dM dN Z)<|.sX fU Z Z eI Z<|.nt<|.rt<|?_
 refine y8 Z (.cell Z dM fN rfl) λW s=>?_;rw [show up n gY q=up n gNm q by unfold gY;rw [aZ h20,aZ h24,aZ h28,aZ h32,aZ h46,aZ h38];exact XV h12 hnm.1 h65];exact ⟨(.mk 5 nm 0 [],[.int .i64 5,cJ nm,.int .i64 0,.slice none 0 0],H),⟨(by unfold gY;exact aY h20 (aY h24 (aY h28 (aY h32 (aY h46 (aY h38 (MN h12 (aM (n:=n) hnm.1 (aY h65 dB))))))))),.refl,iE (op:=5) (nm:=nm) (n:=0) (args:=[]) hnm.2 (Rep.empty (p:=none) (c:=0) (by decide))⟩,Z,s.p3_1 [0] rfl⟩
theorem aM5:∀ M,(∀ lv,lv<=5->ExV 26 [iN lv] (gX lv) M)/\ExV 52 [] (gX 5) M
 | 0=>⟨λ_ _=>ExV.zero _ _ _,ExV.zero _ _ _⟩
 | M+1=>by
  obtain ⟨h1,h2⟩:=aM5 M;have hu:ExV 52 [] (gX 5) (M+1):=cJ7 M h2 (bL5 M (h1 0 (by omega)))
  have key:∀ k lv,lv+k=5->ExV 26 [iN lv] (gX lv) (M+1):=by
   intro k;induction k with
   | zero=>exact λlv h=>cF2 (M+1) lv (by omega) (λ_=>hu) (λh5=>absurd h (by omega))
   | succ k ih=>exact λlv h=>cF2 (M+1) lv (by omega) (λh5=>absurd h (by omega)) (λ_=>ih (lv+1) (by omega))
  exact ⟨λlv h=>key (5 - lv) lv (by omega),hu⟩
theorem qR {b:Nat} (K:Tkr H t n ts tp tc) (hq:q.r<:+ts) (s:St H w0 (PA b t tp ts tc q::bs) W):Calls prg 26 #[.pointer (some ⟨b,0,none⟩),.int .i64 ((0:Nat):Int)] W λe W'=>∃ z:Ex × List Value × Hp,(vl (gX 0) q z.1/\HUp w0 H z.2.2/\Rep z.2.2 (dEx .i64 z.1) z.2.1)/\e=.returned (.agg z.2.1.toArray)/\St z.2.2 w0 (PA b t tp ts tc (up n (gX 0) q)::bs) W':=(aM5 (q.mu+1)).1 0 (by omega) K hq (wO _) s
theorem cD2 (u:HUp W H H') (s:St H w0 bs W):HUp w0 H H':=⟨u.up,λb e hb=>u.new b e (jO hb s.ext.size)⟩
theorem bE9 (G:Gl H) (t:Str) (ht:t.length<=9223372036854775807) (s:St H w0 bs W) :
 Calls prg 22 #[cJ t] W λe W'=>∃ z:Nat × Hp × Option Addr × Nat,(Tkm z.2.1 (sg0 t).r z.2.2.1 z.2.2.2/\HUp w0 H z.2.1)/\e=.returned (.pointer (some ⟨z.1,0,none⟩))/\St z.2.1 w0 (.box z.1 [.slice z.2.2.1 ((sg0 t).r).length z.2.2.2,iN (sZ ((sg0 t).r) (sg0 t)),iN t.length,.string ⟨#[]⟩,.slice none 0 0,.slice none 0 0,.slice none 0 0,iN ((sg0 t).o),iN ((sg0 t).e)] 99::bs) W' :=
 (bK6 H G t ht W s.agr).mono λe W' ⟨z,⟨h1,h2⟩,h3,h4⟩=>⟨z,⟨h1,cD2 h2 s⟩,h3,s.join h2 h4⟩
def exE (t:Str) (x:Ex):Nat:=if (sgZ (gX 0) t).e=0 then pN x else (sgZ (gX 0) t).e
def exO (t:Str) (x:Ex):Nat:=if (sgZ (gX 0) t).e=0/\pN x=0 then 0 else (sgZ (gX 0) t).o
def exR (t:Str) (x:Ex) (cs:List Value):List Value:=if (sgZ (gX 0) t).e=0/\pN x=0 then cs else [.int .u8 0,.string ⟨#[]⟩,.int .i64 0,.slice none 0 0]
theorem aO8 (G:Gl H) (t:Str) (ht:t.length<=9223372036854775807) (s:St H w0 bs W) :
 Calls prg 11 #[cJ t] W λe W'=>∃ z:Ex × List Value × Hp,(vl (gX 0) (sg0 t) z.1/\HUp w0 H z.2.2/\Rep z.2.2 (dEx .u8 z.1) z.2.1)/\e=.returned (.tuple #[.agg (exR t z.1 z.2.1).toArray,iN (exO t z.1),iN (exE t z.1)])/\St z.2.2 w0 bs W':=by
 refine fD func11 rfl ntmps11 rfl s ?_;refine .sr<|.al jX Z λb2=>.a Z Z<|.a Z Z<|.ns<|.mv Z<|.cs (X:=Nat × Hp × Option Addr × Nat) ZV Z (λW s=>bE9 G t ht s) Z λz0 hz0=>?_
 obtain ⟨b,H0,tp,tc⟩:=z0;obtain ⟨K0,u0⟩:=hz0;dsimp only at K0 u0|-;refine .a Z Z<|.ns<|.mv Z<|.cs (X:=Ex × List Value × Hp) nN Z (λW s=>sG K0 (dI _) (s.p2_2 [0,1] Z)) Z λz1 hz1=>?_
 obtain ⟨a1,c1,H1⟩:=z1;obtain ⟨hv1,u1,r1⟩:=hz1;dsimp only at hv1 u1 r1|-;obtain ⟨x1,x2,x3,x4,rfl⟩:=qA (iM r1);have K1:=K0.up u1.up;have u2:=u0.trans u1;refine .al jX Z λb6=>.sW .head Z Z dO (Rep.one r1) Z<|.ns<|.mv Z<|.cs (X:=Unit) ZU Z (λW s=>aP3 K1 ((Suf.ex 0).up (dI _))  (s.p3_3 [1,0,2] Z)) Z λ_ _=>.mv Z<|.yw (.extract Z Z)<|.yw (.extract Z Z)<|.a Z Z<|.aq Z<|.sq<|.sm Z<|.yw (.eql Z Z)<|.nt<|.ce Z (λh19=>?_) (λh19=>?_)
 ·have hZ:(sgZ (gX 0) t).e=0:=by unfold sgZ;omega
  refine .rg<|.yw (.loadW Z fI dN Z)<|.yw (.call bU3 Z (λW s=>WA H1 (G.up u2.up) a1 _ r1 (cN (bW0 hv1 hZ) (by decide)) W s.agr))<|.aq Z<|.sq<|.sm Z<|.yw (.neq Z Z)<|.nt<|.cd Z (λh23=>?_) (λh23=>?_)
  ·try simp only [dt] at h23
   have hck:¬ pN a1=0:=by omega
   refine .sr<|.yw (.build Z aS0)<|.mv Z<|.mv Z<|.sW fU Z Z dO (by simp [Value.oneCell']) Z<|.a Z Z<|.az Z<|.tR<|?_
   refine y7 Z (.cons (.cell Z fI fN rfl) (.cons (.tmp Z) (.cons (.tmp Z) .nil))) rfl λW s=>⟨(a1,[x1,x2,x3,x4],H1),⟨hv1,u2,r1⟩,?_,s.p3_0 [] rfl⟩;unfold exR exO exE;simp only [hZ,hck,aN,aL]
   rfl
  try simp only [df] at h23
  have hck:pN a1=0:=by omega
  refine .sk<|.tN<|.sr<|.yw (.loadW Z fI dN Z)<|.sW fU Z Z dO (Rep.one r1) Z<|.a Z Z<|.az Z<|?_
  refine y7 Z (.cons (.cell Z fI fN rfl) (.cons (.tmp Z) (.cons (.tmp Z) .nil))) rfl λW s=>⟨(a1,[x1,x2,x3,x4],H1),⟨hv1,u2,r1⟩,?_,s.p3_0 [] rfl⟩;unfold exR exO exE;simp only [hZ,hck,aN]
  rfl
 have hZ:¬ (sgZ (gX 0) t).e=0:=by unfold sgZ;omega
 refine .sk<|.tN<|.sq<|.sm Z<|.yw (.neq Z Z)<|.nt<|.cd Z (λh23=>?_) (λh23=>?_)
 ·refine .sr<|.yw (.build Z aS0)<|.mv Z<|.mv Z<|.sW fU Z Z dO (by simp [Value.oneCell']) Z<|.a Z Z<|.az Z<|.tR<|?_
  refine y7 Z (.cons (.cell Z fI fN rfl) (.cons (.tmp Z) (.cons (.tmp Z) .nil))) rfl λW s=>⟨(a1,[x1,x2,x3,x4],H1),⟨hv1,u2,r1⟩,?_,s.p3_0 [] rfl⟩;unfold exR exO exE;simp only [hZ,aL]
  rfl
 exact absurd (show (sgZ (gX 0) t).e=0 by unfold sgZ;have:=kT.1 (cY h23);omega) hZ
theorem cF3 (G:Gl H) {x:Ex} (ht:t.length<=20000) (hx:gX 0 (sE t)=.ok x []) (hc:pN x=0) (s:St H w0 bs W) :
 Calls prg 11 #[cJ t] W λe W'=>∃ z:List Value × Hp,(HUp w0 H z.2/\Rep z.2 (dEx .u8 x) z.1)/\e=.returned (.tuple #[.agg z.1.toArray,.int .i64 0,.int .i64 0])/\St z.2 w0 bs W':=by
 refine (aO8 G t (by omega) s).mono ?_;rintro e W' ⟨z,⟨h1,h2,h3⟩,h4,h5⟩;have h0:sg0 t=⟨sE t,0,0⟩:=by unfold sg0;rw [aA (by omega)]
 have hz:(sgZ (gX 0) t).e=0:=by
  have hu:up t.length (gX 0) (sg0 t)=⟨[],0,0⟩:=by
   rw [h0];unfold up;rw [aE rfl,hx]
  unfold sgZ;rw [hu]
  rfl
 have e1:z.1=x:=h1 (by rw [h0]) x [] (by rw [h0];exact hx);refine ⟨(z.2.1,z.2.2),⟨h2,e1 ▸ h3⟩,?_,h5⟩;rw [h4,e1];unfold exR exO exE;simp only [hz,hc,aN]
 rfl
variable {c:Nat}
theorem YE (G:Gl H) {o:Nat} (ht:t.length<=9223372036854775807) (hc:(sgZ (gX 0) t).e=c) (ho:(sgZ (gX 0) t).o=o) (h0:c≠0) (s:St H w0 bs W) :
 Calls prg 11 #[cJ t] W λe W'=>∃ z:Hp,HUp w0 H z/\e=.returned (.tuple #[.agg ([.int .u8 0,.string ⟨#[]⟩,.int .i64 0,.slice none 0 0]:List Value).toArray,iN o,iN c])/\St z w0 bs W':=by
 subst hc ho;refine (aO8 G t ht s).mono ?_;rintro e W' ⟨z,⟨h1,h2,h3⟩,h4,h5⟩;refine ⟨z.2.2,h2,?_,h5⟩;rw [h4];unfold exR exO exE;simp only [h0,aL,false_and]
theorem Suf.gex:Suf gEx:=Suf.ex 0
theorem Suf.blk {b:Pz (List Sm)} (h:Suf b):Suf (qP b):=.bind (.nd _) λ_=>.bind h λ_=>.bind (.nd _) λ_=>.pure _
theorem Suf.els {b:Pz (List Sm)} (h:Suf b):Suf (FS b):=.alt (.blk h) (.pure _)
theorem Suf.oth {b:Pz (List Sm)} (h:Suf b):Suf (vD b):=.alt (.blk h) (.bind (.nd _) λ_=>.pure _)
theorem Suf.list {α:Type} {p:Pz α} (h:Suf p):Suf (jN p):=.bind (.nd _) λ_=>.alt (.pure _) (.bind h λ_=>.bind (.many h) λ_=>.bind (.nd _) λ_=>.pure _)
theorem Suf.st {b:Pz (List Sm)} (h:Suf b):Suf (gSt b) :=
 .alt (.bind .gex λ_=>.bind (.blk h) λ_=>.bind (.els h) λ_=>.pure _)<|.alt (.bind .gex λ_=>.bind (.blk h) λ_=>.pure _)<|.alt (.bind .gex λ_=>.bind (.nd _) λ_=>.bind .gex λ_=>.bind (.oth h) λ_=>.pure _)<|.alt (.bind .nm λ_=>.bind (.nd _) λ_=>.bind .gex λ_=>.bind (.oth h) λ_=>.pure _)<|.alt (.bind .nm λ_=>.bind (.nd _) λ_=>.bind .nm λ_=>.bind (.list .gex) λ_=>.bind (.nd _) λ_=>.pure _)<|.alt (.bind .gex λ_=>.bind (.nd _) λ_=>.bind .nm λ_=>.bind (.list .gex) λ_=>.bind (.nd _) λ_=>.pure _)<|.alt (.bind (.nd _) λ_=>.pure _)<|.alt (.bind .nm λ_=>.bind (.nd _) λ_=>.bind .gex λ_=>.bind (.nd _) λ_=>.bind (.nd _) λ_=>.pure _)<|.bind .nm λ_=>.alt (.bind .gex λ_=>.bind (.nd _) λ_=>.bind (.nd _) λ_=>.bind .gex λ_=>.bind (.nd _) λ_=>.pure _)
  (.bind (.nd _) λ_=>.bind .gex λ_=>.bind (.nd _) λ_=>.pure _)
theorem Suf.bF:∀ f,Suf (gBF f)
 | 0=>λr=>⟨λa r' e=>(by unfold gBF at e;cases e),λr' c e=>(by unfold gBF at e;injection e with e _;subst e;exact dI _)⟩
 | f+1=>λr=>by
  have h1:=Suf.st (Suf.bF f);have h2:=Suf.bF f;refine ⟨λa r' e=>?_,λr' c e=>?_⟩
  ·unfold gBF at e
   split at e
   ·injection e with _ e;subst e;exact dI _
   ·obtain ⟨s,q,k1,k2⟩:=Rs.bind_ok e;obtain ⟨l,q2,k3,k4⟩:=Rs.bind_ok k2;injection k4 with _ k4;subst k4
    exact ((h2 _).1 _ _ k3).trans ((h1 _).1 _ _ k1)
  ·unfold gBF at e
   split at e
   ·cases e
   ·rcases Rs.bind_er e with e | ⟨s,q,k1,e⟩
    ·exact (h1 _).2 _ _ e
    ·rcases Rs.bind_er e with e | ⟨l,q2,k3,e⟩
     ·exact ((h2 _).2 _ _ e).trans ((h1 _).1 _ _ k1)
     ·cases e
theorem Suf.b:Suf gB:=λr=>Suf.bF _ r
theorem Suf.tr:Suf gTr:=.alt (.pure _) (.bind (.nd _) λ_=>.pure _)
theorem Suf.fg:Suf gFg:=.bind .nm λ_=>.bind (.nd _) λ_=>.bind .tr λ_=>.bind (.nd _) λ_=>.pure _
theorem Suf.lk:Suf gLk:=.bind .nm λ_=>.bind (.nd _) λ_=>.bind .nm λ_=>.bind (.nd _) λ_=>.bind .nu λ_=>.bind (.nd _) λ_=>.pure _
theorem Suf.int:Suf EZ:=.alt (.bind .nu λ_=>.pure _) .nu
theorem Suf.vr:Suf gVr:=.bind .nm λ_=>.bind (.nd _) λ_=>.alt (.bind (.nd _) λ_=>.bind .int λ_=>.bind (.nd _) λ_=>.pure _)<|.alt (.bind (.nd _) λ_=>.bind .tr λ_=>.bind (.nd _) λ_=>.pure _)<|.bind (.nd _) λ_=>.bind (.nd _) λ_=>.pure _
theorem Suf.hd:Suf gHd:=.bind .nm λ_=>.bind (.list .nm) λ_=>.bind (.blk .b) λ_=>.pure _
theorem Suf.vs:Suf gVs:=.many .hd
theorem Suf.vn (w:Str):Suf (gVn w):=.bind (.nn _) λ_=>.bind (.nd _) λ_=>.bind .vs λ_=>.bind (.nd _) λ_=>.pure _
theorem Suf.vm:Suf gVm:=.alt (.bind (.vn _) λ_=>.alt (.bind (.vn _) λ_=>.pure _) (.pure _)) (.pure _)
theorem Suf.cp:Suf gCp:=.bind .nm λ_=>.bind (.nd _) λ_=>.bind (.many .vr) λ_=>.bind .vs λ_=>.bind .vm λ_=>.bind (.nd _) λ_=>.pure _
theorem Suf.ft:Suf gFt:=.bind (.nd _) λ_=>.bind .nm λ_=>.bind (.nd _) λ_=>.bind (.many .fg) λ_=>.bind (.many .lk) λ_=>.bind (.many .cp) λ_=>.bind (.nd _) λ_=>.pure _
theorem UY:cU prg 119=true:=by kernel_rfl
theorem mY:dL prg 99 3=some 3:=by kernel_rfl
theorem aQ3:gH prg 4=some 1:=by kernel_rfl
def YT (f:FuncId) {α:Type} (g:Pz α) (d:α->D) (T:TypeId) (size:Nat) (c0 c1 c2 c3:Value->Value) (b n:Nat) (ts:List Tk) (tp:Option Addr) (tc:Nat):Prop :=
 ∀ {H:Hp} {w0 W:World} {bs:List Res} {q:Sg} {v:Value} {k:Nat} {xs:List Value},Tkm H ts tp tc->q.r<:+ts->k<=1000000->St H w0 (.row T size v k xs::.box b [.slice tp ts.length tc,iN (sZ ts q),iN n,c0 v,c1 v,c2 v,c3 v,iN q.o,iN q.e] 99::bs) W ->
  Calls prg f #[.pointer (some ⟨b,0,none⟩)] W λe W'=>∃ z:α × Value × List Value × Hp,(vl g q z.1/\HUp w0 H z.2.2.2/\dA z.2.2.2 size [d z.1] z.2.2.1)/\e=.returned (.tuple #[])/\St z.2.2.2 w0 (.row T size z.2.1 (k+1) (xs++z.2.2.1)::.box b [.slice tp ts.length tc,iN (sZ ts (up n g q)),iN n,c0 z.2.1,c1 z.2.1,c2 z.2.1,c3 z.2.1,iN ((up n g q).o),iN ((up n g q).e)] 99::bs) W'
variable {t0 t2 t3:Value}
theorem cP4 {b:Nat} :YT 75 gFg dFg 102 2 (λ_=>t0) (λv=>v) (λ_=>t2) (λ_=>t3) b n ts tp tc:=by
 intro H w0 W bs q v k xs K hq hk s;refine fD func75 rfl ntmps75 rfl s ?_;refine .sr<|.al LF Z λb2=>.ns<|.mv Z<|.cs (X:=Str) nE Z (λW s=>rX K hq  (s.p3_3 [2,0,1] Z)) Z λnm hnm=>.fA Z EM<|.st fG Z Z qY Z (nb Z) Z<|.ns<|.mv Z<|.cs (X:=Unit) eK Z (λW s=>eN K (Suf.nm.up hq) [61] (by decide +kernel) (s.p3_3 [0,1,2] Z)) Z λ_ _=>.ns<|.mv Z<|.cs (X:=Bool) UY Z (λW s=>aH9 K ((Suf.nd _).up (Suf.nm.up hq))  (s.p3_3 [0,1,2] Z)) Z λtb htb=>.fA Z KP<|.st fG Z Z aQ3 Z (nb Z) Z<|.ns<|.mv Z<|.cs (X:=Unit) eK Z (λW s=>eN K (Suf.tr.up ((Suf.nd _).up (Suf.nm.up hq))) [59] (by decide +kernel) (s.p3_3 [0,1,2] Z)) Z λ_ _=>.nt<|.fL 9 [(0,0),(1,0),(2,0),(3,0),(4,0),(5,0),(6,0),(7,1),(8,3)]<|.mv Z<|.mv Z<|.nC Z<|.fA Z mY<|.fA Z pQ<|.lD Z DF Hm Z<|.yw (.loadW Z FM dN Z)<|.blF Z (VG _ _) Z λb25 H2 u2 m2=>.apD aQ8 Z (λ_ _=>fU) Z (Rep.mk (n:=1) (c:=1) (ds:=[dFg ⟨nm,tb⟩]) m2 (.single (RW (x:=⟨nm,tb⟩) hnm.2) Z) Z (aK _) (by decide)) (by simp [maxLen];omega) (by omega) Z (λ_ _=>(.d4<|.d2<|.yv (.move Z)<|.nl)) λxs26 p26 c26 hz26=>.fn (tl:=[_,_,_,_]) Z<|.nC Z<|.fA Z mY<|.fA Z pQ<|.st .head Z Z YZ Z (nb Z) Z<|.nl<|?_
 refine pK (.inr Z) rfl .nil rfl λW s=>⟨(⟨nm,tb⟩,.slice p26 (k+1) c26,xs26,H2),⟨aM (n:=n) hnm.1 (aM (n:=n) (x:=()) aU (aM (n:=n) htb (aM (n:=n) (x:=()) aU dB))),u2,hz26⟩,Z,?_⟩;rw [show up n gFg q=(up n (gNd [59]) (up n gTr (up n (gNd [61]) (up n gNm q)))) by unfold gFg;rw [aO Cz.nm hnm.1,aO (x:=()) (Cz.nd _) aU,aO Cz.tr htb,aO (x:=()) (Cz.nd _) aU,dE]];exact s.p3_2 [2,0] rfl
variable {t1:Value}
theorem cN8 {b:Nat} :YT 76 gLk dLk 105 3 (λ_=>t0) (λ_=>t1) (λv=>v) (λ_=>t3) b n ts tp tc:=by
 intro H w0 W bs q v k xs K hq hk s;refine fD func76 rfl ntmps76 rfl s ?_;refine .sr<|.al FZ Z λb2=>.ns<|.mv Z<|.cs (X:=Str) nE Z (λW s=>rX K hq  (s.p3_3 [2,0,1] Z)) Z λmx hmx=>.fA Z EL<|.st fG Z Z qY Z (nb Z) Z<|.ns<|.mv Z<|.cs (X:=Unit) eK Z (λW s=>eN K (Suf.nm.up hq) [45,62] (by decide +kernel) (s.p3_3 [0,1,2] Z)) Z λ_ _=>.ns<|.mv Z<|.cs (X:=Str) nE Z (λW s=>rX K ((Suf.nd _).up (Suf.nm.up hq))  (s.p3_3 [0,1,2] Z)) Z λmy hmy=>.fA Z EJ<|.st fG Z Z qY Z (nb Z) Z<|.ns<|.mv Z<|.cs (X:=Unit) eK Z (λW s=>eN K (Suf.nm.up ((Suf.nd _).up (Suf.nm.up hq))) [108,97,116,101,110,99,121] (by decide +kernel) (s.p3_3 [0,1,2] Z)) Z λ_ _=>.ns<|.mv Z<|.cs (X:=Int64) LU Z (λW s=>OE K ((Suf.nd _).up (Suf.nm.up ((Suf.nd _).up (Suf.nm.up hq))))  (s.p3_3 [0,1,2] Z)) Z λnu hnu=>.fA Z AO<|.st fG Z Z jG Z (nb Z) Z<|.ns<|.mv Z<|.cs (X:=Unit) eK Z (λW s=>eN K (Suf.nu.up ((Suf.nd _).up (Suf.nm.up ((Suf.nd _).up (Suf.nm.up hq))))) [59] (by decide +kernel) (s.p3_3 [0,1,2] Z)) Z λ_ _=>.nt<|.fL 9 [(0,0),(1,0),(2,0),(3,0),(4,0),(5,0),(6,0),(7,1),(8,3)]<|.mv Z<|.mv Z<|.nC Z<|.fA Z mY<|.fA Z nU<|.lD Z AZ Hm Z<|.yw (.loadW Z CG dN Z)<|.blF Z (VF _ _ _) Z λb25 H2 u2 m2=>.apD aQ7 Z (λ_ _=>fU) Z (Rep.mk (n:=1) (c:=1) (ds:=[dLk ⟨mx,my,nu⟩]) m2 (.single (RQ (x:=⟨mx,my,nu⟩) hmx.2 hmy.2) Z) Z (aK _) (by decide)) (by simp [maxLen];omega) (by omega) Z (λ_ _=>(.d4<|.d2<|.yv (.move Z)<|.nl)) λxs26 p26 c26 hz26=>.fn (tl:=[_,_,_,_]) Z<|.nC Z<|.fA Z mY<|.fA Z nU<|.st .head Z Z YY Z (nb Z) Z<|.nl<|?_
 refine pK (.inr Z) rfl .nil rfl λW s=>⟨(⟨mx,my,nu⟩,.slice p26 (k+1) c26,xs26,H2),⟨aM (n:=n) hmx.1 (aM (n:=n) (x:=()) aU (aM (n:=n) hmy.1 (aM (n:=n) (x:=()) aU (aM (n:=n) hnu (aM (n:=n) (x:=()) aU dB))))),u2,hz26⟩,Z,?_⟩;rw [show up n gLk q=(up n (gNd [59]) (up n gNu (up n (gNd [108,97,116,101,110,99,121]) (up n gNm (up n (gNd [45,62]) (up n gNm q)))))) by unfold gLk;rw [aO Cz.nm hmx.1,aO (x:=()) (Cz.nd _) aU,aO Cz.nm hmy.1,aO (x:=()) (Cz.nd _) aU,aO Cz.nu hnu,aO (x:=()) (Cz.nd _) aU,dE]];exact s.p3_2 [2,0] rfl
structure MnI {α:Type} (n:Nat) (w:Str) (g:Pz α) (q:Sg) (l:List α) (q1:Sg):Prop where
 eq:up n (jV w g) q1=up n (jV w g) q
 val:∀ l',vl (jV w g) q1 l'->vl (jV w g) q (l++l')
 len:l.length+q1.mu<=q.mu
 er:q1.e=0->q.e=0
theorem MnI.start {α:Type} {g:Pz α} :MnI n w g q [] q:=⟨Z,λ_ h=>h,by simp,id⟩
theorem MnI.step {α:Type} {g:Pz α} {l:List α} {a:α} (h:MnI n w g q l q1) (hs:Shr g) (hz:Cz g) (hac:ac w q1=true) (hv:vl g q1.tl a):MnI n w g q (l++[a]) (up n g q1.tl)/\(up n g q1.tl).mu<q1.mu:=by
 have h1:=jE (n:=n) (s:=q1.tl) hs hz;have h2:=qH hac;refine ⟨⟨?_,λl' hl'=>?_,by have:=h.len;simp;omega,λ_=>h.er (WF hac).1⟩,by omega⟩
 ·rw [<-h.eq,cX3 (n:=n) hs hz hac hv]
 ·rw [aQ];exact h.val _ (cN3 (n:=n) hs hac hv hl')
theorem MnI.stop {α:Type} {g:Pz α} {l:List α} (h:MnI n w g q l q1) (hs:Shr g) (hac:ac w q1=false):up n (jV w g) q=q1/\vl (jV w g) q l:=by
 refine ⟨by rw [<-h.eq,cX4 hs hac],?_⟩;have:=h.val [] (cN4 hs hac)
 rwa [aX] at this
theorem aD0 {α:Type} {b:Nat} {c0 c1 c2 c3:Value->Value} (K:Tkm H ts tp tc) (hq:q.r<:+ts) (hmu:q.mu<=1000000)
 (f:FuncId) (hcall:cU prg f=true) (w:Str) (hw:w∈words\/w∈symbols) (g:Pz α) (d:α->D) (T:TypeId) (size:Nat) (hsh:Shr g) (hcz:Cz g) (hsu:Suf g) (hit:q.e=0->YT f g d T size c0 c1 c2 c3 b n ts tp tc) (bm:Nat) (hm:lB H bm 0 [.pointer (some ⟨b,0,none⟩)]) (v:Value)
 (s:St H w0 (.row T size v 0 []::.box b [.slice tp ts.length tc,iN (sZ ts q),iN n,c0 v,c1 v,c2 v,c3 v,iN q.o,iN q.e] 99::bs) W) :
 Calls prg 71 #[cJ w,.func (.func f) #[.pointer (some ⟨b,0,none⟩)] #[],.pointer (some ⟨bm,0,none⟩)] W λe W'=>∃ z:List α × Value × List Value × Hp,(vl (jV w g) q z.1/\HUp w0 H z.2.2.2/\dA z.2.2.2 size (z.1.map d) z.2.2.1/\z.1.length<=q.mu)/\e=.returned (.tuple #[])/\St z.2.2.2 w0 (.row T size z.2.1 z.1.length z.2.2.1::.box b [.slice tp ts.length tc,iN (sZ ts (up n (jV w g) q)),iN n,c0 z.2.1,c1 z.2.1,c2 z.2.1,c3 z.2.1,iN ((up n (jV w g) q).o),iN ((up n (jV w g) q).e)] 99::bs) W':=by
 refine fD func71 rfl ntmps71 rfl s ?_;refine .bk<|.lp (X:=List α × Value × List Value × Hp × Sg) [(0,_),(1,_),(2,_)] ⟨Z,Z,Z,Jt⟩ (bs) (λz=>[]) (λz=>z.2.2.2.1) (λz=>[.row T size z.2.1 z.1.length z.2.2.1,.box b [.slice tp ts.length tc,iN (sZ ts z.2.2.2.2),iN n,c0 z.2.1,c1 z.2.1,c2 z.2.1,c3 z.2.1,iN z.2.2.2.2.o,iN z.2.2.2.2.e] 99]) (λz=>MnI n w g q z.1 z.2.2.2.2/\HUp w0 H z.2.2.2.1/\dA z.2.2.2.1 size (z.1.map d) z.2.2.1/\z.2.2.2.2.r<:+ts) (λz=>z.2.2.2.2.mu) ([],v,[],H,q) (λ_ s=>s) trivial ⟨MnI.start,.refl,dA.nil,hq⟩ λz hC=>?_
 obtain ⟨l,v1,xs1,H1,q1⟩:=z;obtain ⟨hI,u1,hz1,hq1⟩:=hC;dsimp only at hI u1 hz1 hq1|-;have K1:=K.up u1.up;have hk1:l.length<=1000000:=by have:=hI.len;omega
 refine .sq<|.sr<|.yw (.loadM Z fE (hm.up u1.up) (k:=0) Z Z)<|.mv Z<|.cs (X:=Unit) gW Z (λW s=>gZ K1 hq1 w hw (s.p2_2 [1,0] Z)) Z λ_ _=>.nt<|.cd Z (λh7=>?_) (λh7=>?_)
 ·rw [iS h7];refine .sk<|.tN<|.bk<|.rg<|.mv Z<|.sv (X:=α × Value × List Value × Hp) (fi:=[.pointer (some ⟨b,0,none⟩)]) (ca:=[]) Z hcall Z (λW s=>hit (hI.er (WF h7).1) K1 (Suf.tl hq1) hk1 (s.p2_2 [1,0] Z)) Z λz2 hz2=>?_
  obtain ⟨a2,v2,xs2,H2⟩:=z2;obtain ⟨hv2,u2,hz2⟩:=hz2;dsimp only at hv2 u2 hz2|-;exact .nl<|.bN<|.tN<|.ag (x:=(l,v1,xs1,H1,q1)) (l++[a2],v2,xs1++xs2,H2,up n g q1.tl) trivial ⟨Z,Z,Z,Jt⟩ (λ_ s=>by have s2:=s;simpa using s2) ⟨(hI.step hsh hcz h7 hv2).1,u1.trans u2,by dsimp only;rw [aV];exact (hz1.up u2.up).app hz2,hsu.up (Suf.tl hq1)⟩ (hI.step hsh hcz h7 hv2).2
 rw [iT h7];obtain ⟨e1,hv⟩:=hI.stop hsh h7;rw [e1];refine .ex<|.tE<|.tE<|.bE<|?_
 refine pK (.inr Z) rfl .nil rfl λW s=>⟨(l,v1,xs1,H1),⟨hv,u1,hz1,cN (Nat.le_add_right _ _) hI.len⟩,Z,?_⟩;exact s.p2_2 [1,0] rfl
theorem aX9 {b:Nat} (K:Tkr H t n ts tp tc) (hq:q.r<:+ts) (hmu:q.mu<=700000) (s:St H w0 (PA b t tp ts tc q::bs) W) :
 Calls prg 183 #[.pointer (some ⟨b,0,none⟩)] W λe W'=>∃ z:List Ex × Value × Hp,(vl (jN (gX 0)) q z.1/\HUp w0 H z.2.2/\Rep z.2.2 (.seq 4 (z.1.map (dEx .i64))) [z.2.1]/\z.1.length<=q.mu+1)/\e=.returned (z.2.1)/\St z.2.2 w0 (PA b t tp ts tc (up n (jN (gX 0)) q)::bs) W':=by
 refine fD func183 rfl ntmps183 rfl s ?_;refine .sr<|.a Z Z<|.ns<|.a Z Z<|?_
 refine Sx.row0 33 4 ?_;refine .ns<|.mv Z<|.cs (X:=Unit) dP Z (λW s=>gI K hq [40] (s.p2_2 [1,0] Z)) Z λ_ _=>.nt<|.sq<|.sm Z<|.cs (X:=Unit) JE Z (λW s=>cO1 K ((Suf.nd _).up hq) [41] (s.p2_2 [0,1] Z)) Z λ_ _=>.yw (.not Z)<|.nt<|.cd Z (λh8=>?_) (λh8=>?_)
 ·have hc:ac [41] (up n (gNd [40]) q)=false:=by simpa using h8
  refine .sm Z<|.mv Z<|.cs (X:=Ex × List Value × Hp) mK Z (λW s=>qR K ((Suf.nd _).up hq) (s.p2_2 [0,1] Z)) Z λz11 hz11=>?_
  obtain ⟨a11,c11,H11⟩:=z11;obtain ⟨hv11,u11,r11⟩:=hz11;dsimp only at hv11 u11 r11|-;obtain ⟨x1,x2,x3,x4,rfl⟩:=qA (iM r11);have K11:=K.up u11.up;refine .bl Z (fT _ _ _ _) Z λb12=>?_;refine dD λH12 u12 m12=>?_;refine .apD vJ Z (λ_ _=>fG) Z (Rep.mk (n:=1) (c:=1) (ds:=[dEx .i64 a11]) m12 (.single (r11.up u12.up) Z) Z (aK _) (by decide)) (by simp only [maxLen];omega) (by omega) Z λxs13 r13 hz13=>.aq Z<|.bk<|.lp (X:=List Ex × Value × List Value × Hp × Sg) [(0,_)] ⟨Z,Jt⟩ bs (λy=>[(3,y.2.1)]) (λy=>y.2.2.2.1) (λy=>[.row 33 4 y.2.1 (y.1.length+1) y.2.2.1,PA b t tp ts tc y.2.2.2.2]) (λy=>MnI n [44] (gX 0) (up n (gX 0) (up n (gNd [40]) q)) y.1 y.2.2.2.2/\HUp w0 H y.2.2.2.1/\dA y.2.2.2.1 4 ((a11::y.1).map (dEx .i64)) y.2.2.1/\y.2.2.2.2.r<:+ts) (λy=>y.2.2.2.2.mu) ([],r13,[]++xs13,H12,up n (gX 0) (up n (gNd [40]) q)) (λ_ s=>(s.p2_2 [1,0] Z)) ⟨Z,Jt⟩ ⟨MnI.start,u11.trans u12,hz13,(Suf.ex 0).up ((Suf.nd _).up hq)⟩ λy hC=>?_
  obtain ⟨l,v,xs,H2,q2⟩:=y;obtain ⟨hI,u2,hz2,hq2⟩:=hC;dsimp only at hI u2 hz2 hq2|-;have K2:=K.up u2.up;have hlen:=hI.len;have hm1:=jE (n:=n) (s:=(up n (gNd [40]) q)) (Shs.gx 0).le (Cz.ex 0);have hm2:=jE (n:=n) (s:=q) (Shs.nd [40]).le (Cz.nd [40]);refine .sq<|.sm Z<|.cs (X:=Unit) gD Z (λW s=>kX K2 hq2 [44] (s.p2_2 [1,0] Z)) Z λ_ _=>.nt<|.cd Z (λh15=>?_) (λh15=>?_)
  ·rw [iS h15];refine .sk<|.tN<|.bk<|.rg<|.mv Z<|.mv Z<|.cs (X:=Ex × List Value × Hp) mK Z (λW s=>qR K2 (Suf.tl hq2) (s.p2_2 [0,1] Z)) Z λz18 hz18=>?_
   obtain ⟨a18,c18,H18⟩:=z18;obtain ⟨hv18,u18,r18⟩:=hz18;dsimp only at hv18 u18 r18|-;obtain ⟨x1,x2,x3,x4,rfl⟩:=qA (iM r18);have K18:=K2.up u18.up;refine .bl Z (fT _ _ _ _) Z λb19=>?_;refine dD λH19 u19 m19=>?_;exact .apD vJ Z (λ_ _=>fG) Z (Rep.mk (n:=1) (c:=1) (ds:=[dEx .i64 a18]) m19 (.single (r18.up u19.up) Z) Z (aK _) (by decide)) (by simp only [maxLen];omega) (by omega) Z λxs20 r20 hz20=>.a Z Z<|.nl<|.bN<|.tN<|.ag (x:=(l,v,xs,H2,q2)) (l++[a18],r20,xs++xs20,H19,up n (gX 0) q2.tl) ⟨Z,Jt⟩ ⟨Z,Jt⟩ (λ_ s=>by have s2:=(s.p2_2 [1,0] Z);simpa using s2) ⟨(hI.step (Shs.gx 0).le (Cz.ex 0) h15 hv18).1,u2.trans (u18.trans u19),by dsimp only;rw [<-aR,aV];exact (hz2.up (u18.trans u19).up).app hz20,(Suf.ex 0).up (Suf.tl hq2)⟩ (hI.step (Shs.gx 0).le (Cz.ex 0) h15 hv18).2
  rw [iT h15];obtain ⟨eS,hvS⟩:=hI.stop (Shs.gx 0).le h15;refine .ex<|.eb<|.sm Z<|.cs (X:=Unit) dP Z (λW s=>gI K2 hq2 [41] (s.p2_2 [0,1] Z)) Z λ_ _=>.ns<|.mv Z<|.az Z<|?_
  refine Sx.reSt (λW s=>s.p2_2 [1,0] rfl) ?_;refine dC (ds:=(a11::l).map (dEx .i64)) (by simp) hz2 λH4 p4 c4 u4 e4 h4=>?_;exact y9 Z Z λW s=>⟨(a11::l,v,H4),⟨(by unfold jN;exact aM (n:=n) (x:=()) aU (aY hc (aM (n:=n) hv11 (aM (n:=n) hvS (aM (n:=n) (x:=()) aU dB))))),u2.trans u4,h4,(by show l.length+1<=_;omega)⟩,Z,by rw [show up n (jN (gX 0)) q=up n (gNd [41]) q2 by unfold jN;rw [aO (x:=()) (Cz.nd _) aU,aZ hc,aO (Cz.ex _) hv11,aO (.many (Cz.ex _)) hvS,eS,aO (x:=()) (Cz.nd _) aU,dE]];exact s⟩
 have hc:ac [41] (up n (gNd [40]) q)=true:=by simpa using h8
 refine .sk<|.tN<|.sm Z<|.cs (X:=Unit) dP Z (λW s=>gI K ((Suf.nd _).up hq) [41] (s.p2_2 [0,1] Z)) Z λ_ _=>.ns<|.mv Z<|.az Z<|?_
 refine Sx.reSt (λW s=>s.p2_2 [1,0] rfl) ?_;refine dC (ds:=[]) rfl dA.nil λH4 p4 c4 u4 e4 h4=>?_;exact y9 Z Z λW s=>⟨([],_,H4),⟨(by unfold jN;exact aM (n:=n) (x:=()) aU (eG hc dB)),u4,h4,(by show (0:Nat)<=_;omega)⟩,Z,by rw [show up n (jN (gX 0)) q=up n (gNd [41]) (up n (gNd [40]) q) by unfold jN;rw [aO (x:=()) (Cz.nd _) aU,eU hc,dE,FO hc]];exact s⟩
end Go.Proofs.YthhoebdlfjffkaaGreatDoor
namespace Go.Sx
open Go.RowKit Go.Par
variable {H:Hp} {w0 W:World} {bs bs':List Res}
theorem St.put1 {x y:Res} (h:St H w0 bs W) (u:Upd bs x y bs') (hy:y.ok w0.heap.size W) (hb:∀ b,y.blk=some b->x.blk=some b):St H w0 bs' W :=
 h.upd u h.ext (aK _) (λ_ _ _=>rfl) hy (λb e=>.inl (hb b e))
/-! ### A drawn region without an operation that waits for all others: each order of the heavy ones -/
structure aG6 (ops:Array Oper) (n:Nat):Prop where
 all:n=ops.size
 sel:∀ (j:Nat) (o:Oper) (cs:Array SelectCase) (b:Bool),ops[j]? = some o->o.op≠.select cs b
 back:∀ i o,ops[i]? = some o->∀ e∈o.after,Region.binds .any e=true->e.on<i
 apart:∀ j k,j<n->k<n->j≠k->∀ d,kE ops j=some d->kE ops k≠some d
 look:∀ i o,i<n->ops[i]? = some o->∀ t∈o.looksAt ops,∀ j,j<n->kE ops j=some t->Region.waitsFor .any ops i j=true
def cL9 (ops:Array Oper) (n:Nat):Bool :=
 Region.noSelect ops && decide (n=ops.size) &&
 (List.range ops.size).all (λi=>((ops[i]?).map λo=>o.after.all λe=>!Region.binds .any e || decide (e.on<i)).getD true) &&
 (List.range n).all (λi=>(List.range n).all λj=>decide (i=j) || (kE ops i).isNone || kE ops i != kE ops j) &&
 (List.range n).all (λi=>((ops[i]?).map λo=>(o.looksAt ops).all λt=>(List.range n).all λj=>kE ops j != some t || Region.waitsFor .any ops i j).getD true)
variable {n:Nat}
theorem aG6.of {ops:Array Oper} (h:cL9 ops n=true):aG6 ops n:=by
 simp only [cL9,aF,aB] at h;obtain ⟨⟨⟨⟨h1,h2⟩,h5⟩,h6⟩,h7⟩:=h;refine ⟨h2,Region.noSelect_spec h1,?_,?_,?_⟩
 ·intro i o ho e he hb;have hi:i<ops.size:=(Array.getElem?_eq_some_iff.1 ho).1;have:=aP.1 h5 i (bQ.2 hi);simp only [ho,nR,pG,pY] at this;have:=this e he;simpa [hb] using this
 ·intro j k hj hk hne d hd;have:=aP.1 (aP.1 h6 j (bQ.2 hj)) k (bQ.2 hk);simp only [hd,hne,xQ,sT,Option.isNone_some,bne_iff_ne] at this;exact λe=>this e.symm
 ·intro i o hi ho t ht j hj hd;have:=aP.1 h7 i (bQ.2 hi);simp only [ho,nR,pG] at this;have:=aP.1 (aP.1 this t ht) j (bQ.2 hj);simpa [hd] using this
section
variable {dfs:List Deferred} {P:Program} {ops:Array Oper} {w0:World} {n N:Nat}
variable {l:List Oper} {a0:Act} {E:Sl->Hp->List Res->Prop} {Q:Exit->Act->World->Prop} {listed:Array Bool} {a:Act} {W:World} {val:Nat->Value} {dec:Nat->Bool} {D A:List Nat} {L:Sl} {H:Hp} {bs:List Res} {pa:List (Nat × Oper × Value)}
theorem FX (F:aG6 ops n) {a0:Act} {v1 v2:Nat->Value} {S1 S2:Nat->Bool} {i:Nat} {o:Oper} (hi:i<n) (ho:ops[i]? = some o)
 (h:∀ j,j<n->Region.waitsFor .any ops i j=true->S1 j=true/\S2 j=true/\v1 j=v2 j) (t:Tmp) (ht:t∈o.looksAt ops) :
 (frm ops v1 S1 n a0).eval (.tmp t)=(frm ops v2 S2 n a0).eval (.tmp t):=by
 by_cases hw:∃ j,j<n/\kE ops j=some t
 ·obtain ⟨j,hj,hd⟩:=hw;obtain ⟨h1,h2,h3⟩:=h j hj (F.look i o hi ho t ht j hj hd);rw [LB _ S1 a0 t j h1 hd n hj (λk hk hne e=>F.apart k j hk hj hne t e hd),LB _ S2 a0 t j h2 hd n hj (λk hk hne e=>F.apart k j hk hj hne t e hd),h3]
 ·rw [DS _ S1 a0 t n (λk hk _ hd=>hw ⟨k,hk,hd⟩),DS _ S2 a0 t n (λk hk _ hd=>hw ⟨k,hk,hd⟩)]
theorem aO3 (F:aG6 ops n) {i:Nat} {o:Oper} {v:Value} (hi:i<n) (ho:ops[i]? = some o) (hd:dec i=false) :
 frm ops (upd val i v) (upd dec i true) n a0=(frm ops val dec n a0).put o.dst v:=by
 have e1:kE ops i=o.dst:=by simp [kE,ho]
 rw [tP (upd val i v) dec (upd dec i true) a0 i (jL _ _ _) hd (λk hk=>fO _ _ hk) n hi F.apart,jL,e1]
 congr 1
 refine kQ _ _ _ _ a0 n λk _=>⟨Z,λhk=>fO _ _ λe=>?_⟩;subst e;rw [hd] at hk;cases hk
theorem GT.decideE (F:aG6 ops n) {i:Nat} {o:Oper} (I:GT dfs P ops l w0 n N a0 E listed a W val dec D L H bs pa) (hi:i<n) (ho:ops[i]? = some o) (hiD:D.contains i=false) (hwt:((List.range n).all λj=>!Region.waitsFor .any ops i j || D.contains j)=true)
 {v:Value} (hy:∀ a W,Fr dfs N L a->St H w0 bs W->Yq P ops o v a W) (hN:∀ t,o.dst=some t->t<N) :
 GT dfs P ops l w0 n N a0 E listed a W (upd val i v) (upd dec i true) (i::D) (putL o.dst v L) H bs ((i,o,v)::pa):=by
 have hdi:dec i=false:=(I.set i).trans hiD;have hdeps:∀ j,j<n->Region.waitsFor .any ops i j=true->dec j=true:=λj hj hw=>(I.set j).trans (LZ hwt hj hw)
 have hii:∀ j,j<n->Region.waitsFor .any ops i j=true->j≠i:=λj hj hw e=>by
  have:=hdeps j hj hw;rw [e,hdi] at this;cases this
 have hli:st listed i=false:=by
  cases h:st listed i with
  | false=>rfl
  | true=>have:=I.sub i hi h;rw [hdi] at this;cases this
 have hput:=aO3 (a0:=a0) (val:=val) (v:=v) F hi ho hdi;refine ⟨I.head,?_,?_,?_,I.world,?_,?_,RE I.set,?_⟩
 ·rw [I.frame];refine kQ _ _ _ _ a0 n λk _=>⟨Z,λhk=>(fO _ _ λe=>?_).symm⟩;subst e;rw [hli] at hk;cases hk
 ·rw [hput];exact I.full.putL v hN
 ·intro j hj hs
  by_cases e:j=i
  ·subst e;exact jL _ _ _
  ·rw [fO _ _ e];exact I.sub j hj hs
 ·intro j oj hj hoj hd hs W hW
  by_cases e:j=i
  ·subst e;obtain rfl:oj=o:=aW (hoj.symm.trans ho);rw [jL];refine Yq.same (λcs b=>F.sel j oj cs b ho) (λt ht=>?_) (hy _ W I.full hW);refine FX F hj ho (λk hk hw=>?_) t ht;have hkd:=hdeps k hk hw;have hki:=hii k hk hw;exact ⟨by rw [fO _ _ hki];exact hkd,hkd,fO _ _ hki⟩
  ·rw [fO _ _ e] at hd|-;refine Yq.same (λcs b=>F.sel j oj cs b hoj) (λt ht=>?_) (I.light j oj hj hoj hd hs W hW);refine FX F hj hoj (λk hk hw=>?_) t ht;have hkd:=I.deps j k hj hk hd hw;have hki:k≠i:=λe=>by subst e;rw [hdi] at hkd;cases hkd
   exact ⟨by rw [fO _ _ hki];exact hkd,hkd,fO _ _ hki⟩
 ·intro j oj hj hoj hd hs
  by_cases e:j=i
  ·subst e;obtain rfl:oj=o:=aW (hoj.symm.trans ho);rw [jL];exact .head _
  ·rw [fO _ _ e] at hd|-;exact .tail _ (I.past j oj hj hoj hd hs)
 ·intro j k hj hk hd hw
  by_cases e:j=i
  ·subst e;rw [fO _ _ (hii k hk hw)];exact hdeps k hk hw
  ·rw [fO _ _ e] at hd;have:=I.deps j k hj hk hd hw
   by_cases e2:k=i
   ·subst e2;exact jL _ _ _
   ·rw [fO _ _ e2];exact this
theorem GT.stepE (F:aG6 ops n) {i:Nat} {o:Oper} {W':World} (I:GT dfs P ops l w0 n N a0 E listed a W val dec D L H bs pa) (hi:i<n) (ho:ops[i]? = some o) (hr:i∈Region.ready .any ops listed) (hd:dec i=true) (hx:Ext W W') :
 GT dfs P ops l w0 n N a0 E (listed.setIfInBounds i true) (a.put o.dst (val i)) W' val dec D L H bs pa:=by
 have hun:st listed i=false:=(mem_ready.1 hr).1;have e1:kE ops i=o.dst:=by simp [kE,ho]
 refine ⟨I.head.set hr hi,?_,I.full,?_,I.world.more hx,?_,?_,I.set,I.deps⟩
 ·rw [I.frame,tP val (st listed) (st (listed.setIfInBounds i true)) a0 i fY hun (λk hk=>jJ hk) n hi F.apart,e1]
 ·intro j hj hs
  by_cases e:j=i
  ·subst e;exact hd
  ·rw [jJ e] at hs;exact I.sub j hj hs
 ·intro j oj hj hoj hdj hs;have e:j≠i:=λe=>by subst e;rw [fY] at hs;cases hs
  rw [jJ e] at hs;exact I.light j oj hj hoj hdj hs
 ·intro j oj hj hoj hdj hs;have e:j≠i:=λe=>by subst e;rw [fY] at hs;cases hs
  rw [jJ e] at hs;exact I.past j oj hj hoj hdj hs
theorem GT.heavyE (F:aG6 ops n) {i k:Nat} {o:Oper} {v:Value} {W':World} {H':Hp} {bs':List Res} (I:GT dfs P ops l w0 n N a0 E listed a W val dec D L H bs pa) (hi:i<n) (ho:ops[i]? = some o) (hiD:D.contains i=false) (hwt:((List.range n).all λj=>!Region.waitsFor .any ops i j || D.contains j)=true) (hk1:(!(k == 1) || D.all λj=>pU ops n i j)=true) (hN:∀ t,o.dst=some t->t<N) (hr:i∈Region.ready .any ops listed)
 (hs:St H' w0 bs' W') (hws:k=1\/(∀ W,St H' w0 bs' W->St H w0 bs W)\/kH dfs P ops n w0 N L H' bs' i pa) :
 GT dfs P ops l w0 n N a0 E (listed.setIfInBounds i true) (a.put o.dst v) W' (upd val i v) (upd dec i true) (i::D) (putL o.dst v L) H' bs' pa:=by
 have hdi:dec i=false:=(I.set i).trans hiD;have hdeps:∀ j,j<n->Region.waitsFor .any ops i j=true->dec j=true:=λj hj hw=>(I.set j).trans (LZ hwt hj hw)
 have hii:∀ j,j<n->Region.waitsFor .any ops i j=true->j≠i:=λj hj hw e=>by
  have:=hdeps j hj hw;rw [e,hdi] at this;cases this
 have hun:st listed i=false:=(mem_ready.1 hr).1;have e1:kE ops i=o.dst:=by simp [kE,ho]
 have hput:=aO3 (a0:=a0) (val:=val) (v:=v) F hi ho hdi;refine ⟨I.head.set hr hi,?_,?_,?_,hs,?_,?_,RE I.set,?_⟩
 ·rw [I.frame,tP (upd val i v) (st listed) (st (listed.setIfInBounds i true)) a0 i fY hun (λk hk=>jJ hk) n hi F.apart,e1,jL]
  congr 1
  refine kQ _ _ _ _ a0 n λk _=>⟨Z,λhk=>(fO _ _ λe=>?_).symm⟩;subst e;rw [hun] at hk;cases hk
 ·rw [hput];exact I.full.putL v hN
 ·intro j hj hs
  by_cases e:j=i
  ·subst e;exact jL _ _ _
  ·rw [fO _ _ e];rw [jJ e] at hs;exact I.sub j hj hs
 ·intro j oj hj hoj hd hs W hW;have e:j≠i:=λe=>by subst e;rw [fY] at hs;cases hs
  rw [jJ e] at hs;rw [fO _ _ e] at hd|-
  have hdone:pU ops n i j=true->False:=λh1=>by
   obtain ⟨_,oi,hoi,hall⟩:=mem_ready.1 hr
   have h2:=sY I.head n i j h1 (λok hok x hx hb=>by
    obtain rfl:ok=oi:=aW (hok.symm.trans hoi);exact hall x hx hb)
   rw [getD_both hs] at h2;cases h2
  have hy:Yq P ops oj (val j) (frm ops val dec n a0) W:=by
   rcases hws with hk | hw | hw
   ·subst hk;have hjD:j∈D:=by have:=(I.set j).symm.trans hd;simpa using this
    simp only [beq_self_eq_true,zZ,sT] at hk1;exact (hdone (aP.1 hk1 j hjD)).elim
   ·exact I.light j oj hj hoj hd hs W (hw W hW)
   ·rcases hw.at (I.past j oj hj hoj hd hs) with h1 | h1
    ·exact (hdone h1).elim
    ·exact h1 _ W I.full hW
  refine Yq.same (λcs b=>F.sel j oj cs b hoj) (λt ht=>?_) hy;refine FX F hj hoj (λk hk hw=>?_) t ht;have hkd:=I.deps j k hj hk hd hw;have hki:k≠i:=λe=>by subst e;rw [hdi] at hkd;cases hkd
  exact ⟨by rw [fO _ _ hki];exact hkd,hkd,fO _ _ hki⟩
 ·intro j oj hj hoj hd hs;have e:j≠i:=λe=>by subst e;rw [fY] at hs;cases hs
  rw [jJ e] at hs;rw [fO _ _ e] at hd|-;exact I.past j oj hj hoj hd hs
 ·intro j k hj hk hd hw
  by_cases e:j=i
  ·subst e;rw [fO _ _ (hii k hk hw)];exact hdeps k hk hw
  ·rw [fO _ _ e] at hd;have:=I.deps j k hj hk hd hw
   by_cases e2:k=i
   ·subst e2;exact jL _ _ _
   ·rw [fO _ _ e2];exact this
theorem aO5 (hl:ops=l.toArray) (F:aG6 ops n) (hend:∀ L H bs,E L H bs->At dfs N L H w0 bs (Q .normal)) :
 ∀ (m:Nat) (p:Pi0) (listed:Array Bool) (a:Act) (W:World) (val:Nat->Value) (dec:Nat->Bool) (D:List Nat) (L:Sl) (H:Hp) (bs:List Res) (pa:List (Nat × Oper × Value)),cnt (st listed) n=m->okT ops n D [] p=true ->
  iU dfs P ops n w0 N E (BO l p) pa L H bs->GT dfs P ops l w0 n N a0 E listed a W val dec D L H bs pa->wpAny P .any ops Q (m+(ops.size - n)) listed a W:=by
 have hop:∀ i,i<n->ops[i]? = some l[i]! := λi hi=>by
  have h1:i<ops.size:=by have:=F.all;omega
  subst hl;have h2:i<l.length:=by simpa using h1
  simp [h2]
 intro m;induction m with
 | zero =>
  intro p;induction p with
  | done =>
   intro listed a W val dec D L H bs pa hm hok hF I;have hall:=vE _ n hm;have hsz:ops.size - n=0:=by have:=F.all;omega
   rw [hsz]
   have hrd:Region.ready .any ops listed=[]:=List.eq_nil_iff_forall_not_mem.2 λk hk=>by
    obtain ⟨h1,o,h2,_⟩:=mem_ready.1 hk;have h3:k<ops.size:=(Array.getElem?_eq_some_iff.1 h2).1;have h4:=hall k (by have:=F.all;omega);have h5:k<listed.size:=by rw [I.head.size];exact h3
    simp [st,h5] at h1 h4;rw [h4] at h1;cases h1
   have hfr:a=frm ops val dec n a0:=by
    rw [I.frame];exact kQ _ _ _ _ a0 n (λk hk=>⟨by rw [hall k hk,I.sub k hk (hall k hk)],λ_=>rfl⟩)
   rw [hfr];exact At.ae (n:=N) (L:=L) hrd (hend L H bs hF) _ W I.full I.world
  | no =>
   intro listed a W val dec D L H bs pa hm hok hF I;simp [okT] at hok
  | light i r ih =>
   intro listed a W val dec D L H bs pa hm hok hF I;have hall:=vE _ n hm;simp only [okT,aF,aB,dY] at hok;have:=I.sub i hok.1.1.1.2 (hall i hok.1.1.1.2);rw [I.set i,hok.1.1.2] at this;cases this
  | alt i k r q ih1 ih2 =>
   intro listed a W val dec D L H bs pa hm hok hF I;have hall:=vE _ n hm;simp only [okT,aF,aB,dY] at hok;have:=I.sub i hok.1.1.1.1.1 (hall i hok.1.1.1.1.1);rw [I.set i,hok.1.1.1.1.2] at this;cases this
 | succ m ih =>
  have one_step:∀ (p:Pi0) (listed:Array Bool) (a:Act) (W:World) (val:Nat->Value) (dec:Nat->Bool) (D:List Nat) (L:Sl) (H:Hp) (bs:List Res) (pa:List (Nat × Oper × Value)),cnt (st listed) n=m+1->okT ops n D [] p=true ->
   iU dfs P ops n w0 N E (BO l p) pa L H bs->GT dfs P ops l w0 n N a0 E listed a W val dec D L H bs pa->(p=.done\/p=.no\/∃ i k r q,p=.alt i k r q)->wpAny P .any ops Q (m+1+(ops.size - n)) listed a W:=by
   intro p listed a W val dec D L H bs pa hm hok hF I hp;obtain ⟨k0,hk0,hun0,hbelow⟩:=IV (st listed) n (by omega);have hk0s:k0<ops.size:=by have:=F.all;omega
   have hready0:k0∈Region.ready .any ops listed:=by
    refine mem_ready.2 ⟨hun0,ops[k0],Array.getElem?_eq_getElem hk0s,λe he hb=>?_⟩;have hlt:=F.back k0 _ (Array.getElem?_eq_getElem hk0s) e he hb;have:=hbelow e.on hlt;have hsz:e.on<listed.size:=by rw [I.head.size];omega
    simpa [st,hsz] using this
   rw [show m+1+(ops.size - n)=(m+(ops.size - n))+1 by omega];refine ⟨λh0=>(by rw [h0] at hready0;cases hready0),λj hj=>?_⟩
   have hjn:j<n:=by
    rcases jU j n with h | h
    ·exact h
    ·exfalso
     obtain ⟨_,oj,hoj,_⟩:=mem_ready.1 hj;have h3:j<ops.size:=(Array.getElem?_eq_some_iff.1 hoj).1;have:=F.all;omega
   obtain ⟨hun,oj,hoj,hall⟩:=mem_ready.1 hj
   have hcnt:cnt (st (listed.setIfInBounds j true)) n=m:=by
    have:=CS (st listed) (st (listed.setIfInBounds j true)) j fY hun (λk hk=>jJ hk) n hjn;omega
   have hS:∀ k,k<n->Region.waitsFor .any ops j k=true->st listed k=true:=by
    intro k hk hw;obtain ⟨oi,hoi,e,he,hb,hon⟩:=Region.waitsFor_spec hw;obtain rfl:oi=oj:=aW (hoi.symm.trans hoj);have h1:=hall e he hb;rw [hon] at h1;have hsz:k<listed.size:=by rw [I.head.size];have:=F.all;omega
    simp [hsz] at h1;simp [st,hsz,h1]
   have hev:∀ t∈oj.looksAt ops,a.eval (.tmp t)=(frm ops val dec n a0).eval (.tmp t):=λt ht=>by
    rw [I.frame];exact FX F hjn hoj (λk hk hw=>⟨hS k hk hw,I.sub k hk (hS k hk hw),Z⟩) t ht
   cases hd:dec j with
   | true =>
    have hy:Yq P ops oj (val j) a W:=Yq.same (λcs b=>F.sel j oj cs b hoj) hev (I.light j oj hjn hoj hd hun W I.world);exact hy.wpOp hoj λW' hx=>ih p _ _ _ _ _ _ _ _ _ _ hcnt hok hF (I.stepE F hjn hoj hj hd hx)
   | false =>
    have hjD:D.contains j=false:=(I.set j).symm.trans hd
    have hch:p=.no\/∃ i k r q',p=.alt i k r q':=by
     rcases hp with rfl | rfl | h
     ·exfalso
      simp only [okT,aF] at hok;have:=aP.1 hok.2 j (bQ.2 hjn);rw [hjD] at this;cases this
     ·exact .inl Z
     ·exact .inr h
    obtain ⟨k,r,h1,h2,h3,h4,h5⟩:=TT hl hjn hjD (λi hi hin=>by
     cases hre:pU ops n j i with
     | false=>rfl
     | true =>
      have h2:=sY I.head n j i hre (λok hok e he hb=>by
       obtain rfl:ok=oj:=aW (hok.symm.trans hoj);exact hall e he hb)
      have h3:st listed i=false:=by
       cases h:st listed i with
       | false=>rfl
       | true=>have:=I.sub i hin h;rw [I.set i,hi] at this;cases this
      rw [getD_both h3] at h2;cases h2) p [] hch hok (λi hi=>by cases hi) hF
    have hoj2:=hop j hjn;obtain rfl:oj=l[j]! := aW (hoj.symm.trans hoj2);refine ST hoj (λcs b=>F.sel j _ cs b hoj) hev (λb W' ⟨v,H',bs',hf,_⟩=>hf.defers) I.full.defers ?_ (h5 _ W I.full I.world);rintro v W' ⟨v',H',bs',hf,hs,hw,hp'⟩
    have hvv:putL (l[j]!).dst v' L=putL (l[j]!).dst v L:=by
     cases hdst:(l[j]!).dst with
     | none=>rfl
     | some t =>
      rw [hdst] at hf;have h1:=hf.slot t v' (by unfold putL look;rw [oX,pT]);have h2:t<N:=h4 t hdst;have h3:=(I.full.put (by simpa [rT] using h2) v).slot t v (by unfold look;rw [oX,pT]);rw [h3] at h1;rw [h1]
    rw [hvv] at hp';exact ih r _ _ _ _ _ _ _ _ _ _ hcnt h3 hp' (I.heavyE F hjn hoj hjD h1 h2 h4 hj hs hw)
  intro p;induction p with
  | done=>exact λlisted a W val dec D L H bs pa hm hok hF I=>one_step _ listed a W val dec D L H bs pa hm hok hF I (.inl Z)
  | no=>exact λlisted a W val dec D L H bs pa hm hok hF I=>one_step _ listed a W val dec D L H bs pa hm hok hF I (.inr (.inl Z))
  | alt i k r q _ _=>exact λlisted a W val dec D L H bs pa hm hok hF I=>one_step _ listed a W val dec D L H bs pa hm hok hF I (.inr (.inr ⟨_,_,_,_,Z⟩))
  | light i r ihr =>
   intro listed a W val dec D L H bs pa hm hok hF I;simp only [okT,aF,aB,dY] at hok;obtain ⟨⟨⟨⟨_,hi⟩,hiD⟩,hwt⟩,hok'⟩:=hok;unfold BO iU at hF;obtain ⟨v,hy,hN,hF'⟩:=hF;exact ihr listed a W _ _ _ _ H bs _ hm hok' hF' (I.decideE F hi (hop i hi) hiD hwt hy hN)
theorem cY8 {id:Nat} {l:List Oper} {p:PlT} {Q:Exit->Act->World->Prop} {L:Sl} {H:Hp} {bs:List Res} (n:Nat) (p0:Pi0) (hm:P.follows .mixedOrders=true) (hB:(cL9 l.toArray n && okT l.toArray n [] [] p0)=true) (ht:BO l p0=p)
 (h:iU dfs P l.toArray n w0 N (λL H bs=>At dfs N L H w0 bs (Q .normal)) p [] L H bs):At dfs N L H w0 bs ((Code.region id l.toArray true).wp P Q):=by
 simp only [aF] at hB;obtain ⟨h1,h2⟩:=hB;have F:=aG6.of h1;have hlt:n=l.length:=by simpa using F.all
 subst ht;intro a W f s;refine wp_region_any hm ?_;have hsz:l.toArray.size=l.length:=by simp
 have hc0:∀ m,m<=n->cnt (st (Array.replicate l.toArray.size false)) m=m:=by
  intro m;induction m with
  | zero=>intro _;rfl
  | succ m ih =>
   intro hm;unfold cnt;rw [ih (by omega)]
   have:st (Array.replicate l.toArray.size false) m=false:=by
    have:m<l.length:=by omega
    simp [st,this]
   rw [this];simp
 have hfrm:∀ (val:Nat->Value) (m:Nat),frm l.toArray val (λ_=>false) m a=a:=λval m=>by
  induction m with
  | zero=>rfl
  | succ m ih=>unfold frm;simp [ih]
 have hall:∀ m,m<=n->∀ k,k<m->st (Array.replicate l.toArray.size false) k=false:=λm hm k hk=>by
  have:k<l.length:=by omega
  simp [st,this]
 have hh:HeadInv .any l.toArray n (Array.replicate l.toArray.size false):=by
  refine ⟨by simp,λj oj hj hl=>?_,λt ht ht'=>?_⟩
  ·exfalso
   rcases jU j l.length with h | h
   ·simp [h] at hl
   ·simp [h] at hl
  ·have:t<l.length:=by simpa using ht'
   simp [this]
 have key:=aO5 (Q:=Q) (a0:=a) (l:=l) rfl F (λL H bs h=>h) n p0 (Array.replicate l.toArray.size false) a _ (λ_=>undef) (λ_=>false) [] L H bs [] (hc0 n (aK _)) h2 h
  ⟨hh,?_,by rw [hfrm];exact f,?_,s.more ((Ext.refl W).drew),λ_ _ _ _ h=>(by cases h),λ_ _ _ _ h=>(by cases h),λ_=>rfl,λ_ _ _ _ h=>(by cases h)⟩
 ·have:n+(l.toArray.size - n)=l.toArray.size:=by rw [hsz];omega
  rw [this] at key;exact key
 ·rw [kQ (λ_=>undef) (λ_=>undef) _ (λ_=>false) a n (λk hk=>⟨hall n (aK _) k hk,λ_=>rfl⟩),hfrm]
 ·intro i hi hs;rw [hall n (aK _) i hi] at hs;cases hs
end
section
variable {dfs:List Deferred} {P:Program} {n:Nat} {L:Sl} {H:Hp} {w0:World} {bs:List Res} {Q:Exit->Act->World->Prop} {ops:Array Oper} {rest:List Oper} {K:Act->World->Prop}
variable {d:Option Tmp} {ty:TypeId} {pos:String} {aft:Array Edge} {v:Value} {t:Tmp} {x y:Operand} {T:TypeId}
theorem cV3 {g off k c size:Nat} {e:TypeId} {xs vs:List Value} {bs':List Res} (hp:ev L x=some (.pointer (some ⟨g,off,none⟩))) (hv:ev L y=some (.agg vs.toArray)) (hT:gH P T=some vs.length) (h1:∀ u∈vs,u.oneCell'=true)
 (hm:Upd bs (.row e size (.slice (some ⟨g,0,none⟩) k c) k xs) (.row e size (.slice (some ⟨g,0,none⟩) k c) k (kO xs off vs)) bs') (ho:off+vs.length<=xs.length) (h:At dfs n L H w0 bs' K) :
 At dfs n L H w0 bs (one P ops Q ⟨none,.store T x y,ty,pos,aft,none⟩ K):=by
 intro a W f s;have ho1:W.ownsRow w0.heap.size e size (.slice (some ⟨g,0,none⟩) k c) k xs:=(s.own _ hm.mem).1;rcases ho1.2 with ⟨hr,_⟩ | ⟨g',cap,cur,hr,hbg,hgc,hnc,hcm,hcs,htake⟩
 ·cases hr
 ·injection hr with e1 _ e3
  injection e1 with e1
  injection e1 with e1
  subst e1 e3;obtain ⟨more,hmo⟩:∃ more,more=cur.toList.drop (k * size):=⟨_,Z⟩;have hcur:cur.toList=xs++more:=by rw [hmo,<-htake,eT]
  have hcur2:cur=(xs++more).toArray:=by rw [<-hcur]
  obtain ⟨b1,u1,u2⟩:=hm.mid (.box g (xs++more) e);obtain ⟨b2,u3,u4⟩:=u2.mid (.box g (kO (xs++more) off vs) e);have s1:St H w0 b1 W:=s.put1 u1 ⟨hbg,by rw [hgc,<-hcur2]⟩ (λb e=>e);refine aU5 hp hv hT rfl h1 u3 (by rw [aD];omega) ?_ a W f s1;intro a W f s2;have ob:=(s2.own _ u4.mem).1;have e4:kO (xs++more) off vs=kO xs off vs++more:=NZ vs xs more off ho;have hz:xs.length=k * size:=ho1.1;refine h a W f (s2.put1 u4 ⟨by rw [EQ];exact hz,.inr ⟨g,c,(kO (xs++more) off vs).toArray,Z,ob.1,ob.2,hnc,hcm,?_,?_⟩⟩ (λb e=>e))
  ·rw [List.size_toArray,EQ,<-hcur];simpa using hcs
  ·rw [e4];show List.take (k * size) (kO xs off vs++more)=kO xs off vs;rw [List.take_append_of_le_length (by rw [EQ];omega),nL (by rw [EQ];omega)]
variable {N hn i kk:Nat} {pa:List (Nat × Oper × Value)} {E:Sl->Hp->List Res->Prop} {q:PlT} {bs':List Res}
theorem uK.sR {g off k c size:Nat} {e:TypeId} {xs vs:List Value} (hp:ev L x=some (.pointer (some ⟨g,off,none⟩))) (hv:ev L y=some (.agg vs.toArray)) (hT:gH P T=some vs.length) (h1:∀ u∈vs,u.oneCell'=true)
 (hm:Upd bs (.row e size (.slice (some ⟨g,0,none⟩) k c) k xs) (.row e size (.slice (some ⟨g,0,none⟩) k c) k (kO xs off vs)) bs') (ho:off+vs.length<=xs.length)
 (hr:kH dfs P ops hn w0 N L H bs' i pa) (h:iU dfs P ops hn w0 N E q pa L H bs'):uK dfs P ops hn w0 N E i kk ⟨none,.store T x y,ty,pos,aft,none⟩ q pa L H bs :=
 ⟨λ_ e=>(by cases e),cV3 hp hv hT h1 hm ho (uK.into0 hr h)⟩
theorem uK.st {b off:Nat} {l l':List Value} {t':TypeId} (hm:Upd bs (.box b l t') (.box b l' t') bs') (hp:ev L x=some (.pointer (some ⟨b,off,none⟩))) (hv:ev L y=some v) (hT:gH P T=some 1) (h1:v.oneCell'=true) (ho:off<l.length) (hl:l.set off v=l')
 (hr:kH dfs P ops hn w0 N L H bs' i pa) (h:iU dfs P ops hn w0 N E q pa L H bs'):uK dfs P ops hn w0 N E i kk ⟨none,.store T x y,ty,pos,aft,none⟩ q pa L H bs :=
 ⟨λ_ e=>(by cases e),store hp hv hT h1 hm ho hl (uK.into0 hr h)⟩
theorem uK.apE {e:TypeId} {size bytes m c k:Nat} {p:Option Addr} {r:Value} {xs:List Value} {ds:List D} {bs':List Value->Value->List Res} (hT:tM P T=some (e,size,bytes)) (hx:ev L x=some r)
 (hm:∀ news r',Upd bs (.row e size r k xs) (.row e size r' (k+m) (xs++news)) (bs' news r')) (hy:ev L y=some (.slice p m c)) (hr:Rep H (.seq size ds) [.slice p m c]) (hpos:0<k+m)
 (h63:k+m<=maxLen) (hb:(k+m) * bytes<=140737488355328) (ht:Nat.blt t N=true)
 (hr2:∀ news r',kH dfs P ops hn w0 N L H (bs' news r') i pa) (h:∀ news g c,dA H size ds news->iU dfs P ops hn w0 N E q pa ((t,.slice (some ⟨g,0,none⟩) (k+m) c)::L) H (bs' news (.slice (some ⟨g,0,none⟩) (k+m) c))) :
 uK dfs P ops hn w0 N E i 2 ⟨some t,.call ⟨.builtin .append,#[x,y],#[T,T]⟩,ty,pos,aft,none⟩ q pa L H bs :=
 ⟨rN ht,ND hT hx hm hy hr h63 hb ht λnews r' hz=>At.rs (hm news r').new hpos λg c e=>by subst e;exact uK.into (.inr<|.inr<|hr2 _ _) (h news g c hz)⟩
theorem iU.fe {Q:Exit->Act->World->Prop} (h:At dfs N L H w0 bs (Q .normal)):iU dfs P ops hn w0 N (λL H bs=>At dfs N L H w0 bs (Q .normal)) .done pa L H bs:=h
theorem At.fx {id:Nat} {l:List Oper} {p:PlT} (nn:Nat) (p0:Pi0) (hm:P.follows .mixedOrders=true) (hB:(cL9 l.toArray nn && okT l.toArray nn [] [] p0)=true) (ht:BO l p0=p)
 (h:iU dfs P l.toArray nn w0 n (λL H bs=>At dfs n L H w0 bs (Q .normal)) p [] L H bs):At dfs n L H w0 bs ((Code.region id l.toArray true).wp P Q):=cY8 nn p0 hm hB ht h
end
end Go.Sx
namespace Go.Proofs.YthhoebdlfjffkaaGreatDoor
theorem bM6 {op:UInt8} {nm:Str} {n:Int64} :Ex.all oS (.mk op nm n [])=true:=by rw [nK,zG];rfl
variable {a:Ex}
theorem cN0 {op:UInt8} {nm:Str} {n:Int64} (h:Ex.all oS a=true):Ex.all oS (.mk op nm n [a])=true:=by rw [nK,zG];simp [Ex.alls,h]
theorem dE5 {op:UInt8} {nm:Str} {n:Int64} {b:Ex} (h:Ex.all oS a=true) (k:Ex.all oS b=true):Ex.all oS (.mk op nm n [a,b])=true:=by rw [nK,zG];simp [Ex.alls,h,k]
theorem bL6 {rec:List Tk->Rs Ex} (hr:∀ q a r',rec q=.ok a r'->Ex.all oS a=true) {r:List Tk} {r':List Tk} (h:qW rec r=.ok a r'):Ex.all oS a=true:=by
 unfold qW at h;cases r with
 | nil=>cases h
 | cons t q =>
  simp only at h
  have fin:∀ {b:Ex} {l:List Tk},(Rs.ok b l:Rs Ex)=.ok a r'->Ex.all oS b=true->Ex.all oS a=true:=by
   intro b l e hl;injection e with e1 e2
   subst e1;exact hl
  split at h
  ·split at h
   ·exact fin h bM6
   ·cases h
  split at h
  ·exact fin h bM6
  split at h
  ·exact fin h bM6
  split at h
  ·exact fin h bM6
  split at h
  ·obtain ⟨t2,r2,rfl,_,h⟩:=AU h;exact fin h bM6
  split at h
  ·obtain ⟨x,r2,h1,h⟩:=Rs.bind_ok h;obtain ⟨h2,h⟩:=pC h;exact fin h (hr _ _ _ h1)
  split at h
  ·obtain ⟨t2,r2,rfl,_,h⟩:=AU h;obtain ⟨h2,h⟩:=pC h;obtain ⟨x,r4,h1,h⟩:=Rs.bind_ok h;obtain ⟨h3,h⟩:=pC h;exact fin h (cN0 (hr _ _ _ h1))
  split at h
  ·split at h
   ·obtain ⟨x,r4,h1,h⟩:=Rs.bind_ok h;obtain ⟨h3,h⟩:=pC h;exact fin h (cN0 (hr _ _ _ h1))
   ·exact fin h bM6
  ·cases h
theorem bZ8:∀ f,(∀ lv r a r',pE f (.ex lv) r=.ok a r'->Ex.all oS a=true)/\(∀ lv x r a r',pE f (.lp lv x) r=.ok a r'->Ex.all oS x=true->Ex.all oS a=true)
 | 0=>⟨λlv r a r' e=>(by unfold pE at e;cases e),λlv x r a r' e=>(by unfold pE at e;cases e)⟩
 | f+1=>by
  obtain ⟨ih1,ih2⟩:=bZ8 f;refine ⟨λlv r a r' h=>?_,λlv x r a r' h hK=>?_⟩
  ·rw [QC] at h
   split at h
   ·obtain ⟨b,q,h1,h2⟩:=Rs.bind_ok h;exact ih2 _ _ _ _ _ h2 (ih1 _ _ _ _ h1)
   split at h
   ·obtain ⟨b,q,h1,h2⟩:=Rs.bind_ok h;injection h2 with e1 e2;subst e1;exact cN0 (ih1 _ _ _ _ h1)
   split at h
   ·obtain ⟨b,q,h1,h2⟩:=Rs.bind_ok h;injection h2 with e1 e2;subst e1;exact cN0 (ih1 _ _ _ _ h1)
   ·exact bL6 (λq b r2 e=>ih1 _ _ _ _ e) h
  ·rw [QB] at h
   split at h
   ·injection h with e1 e2;subst e1;exact hK
   ·rename_i op e;obtain ⟨b,q,h1,h2⟩:=Rs.bind_ok h;have h4:Ex.all oS (opE op [x,b])=true:=dE5 hK (ih1 _ _ _ _ h1)
    split at h2
    ·injection h2 with e1 e2;subst e1;exact h4
    ·exact ih2 _ _ _ _ _ h2 h4
theorem cY7 {lv:Nat} {r r':List Tk} (h:gX lv r=.ok a r'):Ex.all oS a=true:=(bZ8 _).1 _ _ _ _ h
variable {t:Str}
theorem SL {α:Type} {g:Pz α} (hz:Cz g) (h:(sgZ g t).e=0):(∃ a,g (sg0 t).r=.ok a [])/\(sgZ g t).o=0:=by
 have h0:sg0 t=⟨(sg0 t).r,0,0⟩:=by
  by_cases k:20000<t.length
  ·exfalso
   have e0:sg0 t=⟨[],3,0⟩:=by unfold sg0;rw [aE k]
   unfold sgZ at h;rw [e0,yC (by decide)] at h;unfold Sg.cl at h;rw [aE rfl] at h;exact absurd (show (3:Nat)=0 from h) (by decide)
  ·unfold sg0;rw [aA k]
 cases hg:g (sg0 t).r with
 | er r c =>
  have hu:up t.length g (sg0 t)=⟨r,c,cM6 t.length r⟩:=by
   rw [h0];unfold up;rw [aE rfl];show (match g (sg0 t).r with | .ok _ r=>_ | .er r c=>_)=_;rw [hg]
  unfold sgZ at h;rw [hu] at h;have hc:=hz _ _ _ hg;unfold Sg.cl at h
  split at h
  ·exact absurd h hc
  ·unfold Sg.fail at h;rw [aA hc] at h;exact absurd h hc
 | ok a r =>
  have hu:up t.length g (sg0 t)=⟨r,0,0⟩:=by
   rw [h0];unfold up;rw [aE rfl];show (match g (sg0 t).r with | .ok _ r=>_ | .er r c=>_)=_;rw [hg]
  unfold sgZ at h|-;rw [hu] at h|-
  by_cases hr:r=[]
  ·subst hr;exact ⟨⟨a,Z⟩,Z⟩
  ·exfalso
   unfold Sg.cl at h;rw [aA hr] at h;exact absurd h (by unfold Sg.fail;simp)
end Go.Proofs.YthhoebdlfjffkaaGreatDoor
namespace Go.Proofs.YthhoebdlfjffkaaGreatDoor
open Go.RowKit Go.Par Go.Sx Tryz
theorem BA (H:Hp):Rep H (dEx .u8 (opE 0 [])) [.int .u8 0,.string ⟨#[]⟩,.int .i64 0,.slice none 0 0]:=iE (op:=0) (nm:=[]) (n:=0) (args:=[]) (by decide) (Rep.empty (p:=none) (c:=0) (by decide))
variable {H:Hp} {z k:Nat} {xs news:List Value}
theorem mP {ds:List D} {d0 d:D} {vs:List Value} (hz:dA H z ds xs) (hn:dA H z [d0] news) (hd:Rep H d vs) (hl:vs.length=z) (hk:ds.length=k):dA H z (ds++[d]) (kO (xs++news) (k * z) vs):=by
 subst hk;have h:=dA.put hd hl (hz.app hn) (i:=ds.length) (by simp)
 rwa [nZ _ _ (aK _),oW,qO] at h
inductive DJ (n:Nat) (q:Sg):List Str->Sg->List Ex->Prop
 | one {e:Ex}:vl (gX 0) q e->DJ n q [] (up n (gX 0) q) [e]
 | more {L:List Str} {q1:Sg} {l:List Ex} {w:Str} {e:Ex}:DJ n q L q1 l->vl (gX 0) (up n (gNd w) q1) e->DJ n q (L++[w]) (up n (gX 0) (up n (gNd w) q1)) (l++[e])
variable {n:Nat} {q q1:Sg}
theorem DJ.len {L:List Str} {l:List Ex} (h:DJ n q L q1 l):l.length=L.length+1:=by
 induction h with
 | one _=>rfl
 | more _ _ ih=>simp [ih]
variable {i:Nat}
theorem DJ.step {L:List Str} {l:List Ex} {e:Ex} (hi:i<L.length) (h:DJ n q (L.take i) q1 l) (he:vl (gX 0) (up n (gNd L[i]) q1) e):DJ n q (L.take (i+1)) (up n (gX 0) (up n (gNd L[i]) q1)) (l++[e]):=by
 rw [gC hi];exact .more h he
variable {w0 W:World} {bs:List Res} {ts:List Tk} {tp:Option Addr} {tc:Nat} {t0 t1 t2 t3:Value}
theorem OZ {b:Nat} (K:Tkm H ts tp tc) (hq:q.r<:+ts) (bS bP:Nat) (c0 c1 c2 c4 c5:Value) (es:List Ex) (vp:Option Addr) (vc:Nat) (xs:List Value) (L:List Str) (hL:∀ w∈L,w∈words\/w∈symbols) (sp:Option Addr) (sc:Nat) (hs:Rep H (.seq 1 (L.map TR)) [.slice sp L.length sc]) (hz:dA H 4 (es.map (dEx .u8)) xs) (hk:es.length+L.length<=1000000)
 (s:St H w0 (.row 27 4 (.slice vp es.length vc) es.length xs::PB b tp ts tc n t0 t1 t2 t3 q::.box bS [c0,c1,c2,.slice vp es.length vc,c4,c5] 208::.box bP [.pointer (some ⟨b,0,none⟩)] 65::bs) W) :
 Calls prg 174 #[.slice sp L.length sc,.pointer (some ⟨bS,0,none⟩),.pointer (some ⟨bP,0,none⟩)] W λe W'=>∃ z:List Ex × Nat × Option Addr × Nat × List Value × Hp × Sg,(DJ n q L z.2.2.2.2.2.2 z.1/\z.2.1=es.length+z.1.length/\HUp w0 H z.2.2.2.2.2.1/\dA z.2.2.2.2.2.1 4 ((es++z.1).map (dEx .u8)) z.2.2.2.2.1/\z.2.2.2.2.2.2.r<:+ts)/\e=.returned (.tuple #[]) /\
  St z.2.2.2.2.2.1 w0 (.row 27 4 (.slice z.2.2.1 z.2.1 z.2.2.2.1) z.2.1 z.2.2.2.2.1::PB b tp ts tc n t0 t1 t2 t3 z.2.2.2.2.2.2::.box bS [c0,c1,c2,.slice z.2.2.1 z.2.1 z.2.2.2.1,c4,c5] 208::.box bP [.pointer (some ⟨b,0,none⟩)] 65::bs) W':=by
 have hx0:=hz.len;rw [aJ] at hx0;have hscap:=hs.cap;refine fD func174 rfl ntmps174 rfl s ?_;refine .cu (X:=List Ex × Nat × Option Addr × Nat × List Value × Hp × Sg) [(0,_),(1,_),(2,_)] ⟨Z,Z,Z,Jt⟩ (λz=>[]) (λz=>z.2.2.2.2.2.1) (λz=>(.row 27 4 (.slice z.2.2.1 z.2.1 z.2.2.2.1) z.2.1 z.2.2.2.2.1::PB b tp ts tc n t0 t1 t2 t3 z.2.2.2.2.2.2::.box bS [c0,c1,c2,.slice z.2.2.1 z.2.1 z.2.2.2.1,c4,c5] 208::.box bP [.pointer (some ⟨b,0,none⟩)] 65::bs)) (λz=>DJ n q (L.take (0)) z.2.2.2.2.2.2 z.1/\z.2.1=es.length+z.1.length/\HUp w0 H z.2.2.2.2.2.1/\dA z.2.2.2.2.2.1 4 ((es++z.1).map (dEx .u8)) z.2.2.2.2.1/\z.2.2.2.2.2.2.r<:+ts) ?_ λz hC=>?_
 ·
  refine .fx (p:=.light _ _ (.light _ _ (.light _ _ (.light _ _ (.alt _ _ _ (.alt _ _ _ (.alt _ _ _ (.light _ _ (.light _ _ (.alt _ _ _ (.alt _ _ _ (.done) (.no)) (.alt _ _ _ (.alt _ _ _ (.done) (.no)) (.no))))) (.no)) (.no)) (.alt _ _ _ (.alt _ _ _ (.alt _ _ _ (.light _ _ (.light _ _ (.alt _ _ _ (.alt _ _ _ (.done) (.no)) (.alt _ _ _ (.alt _ _ _ (.done) (.no)) (.no))))) (.no)) (.no)) (.no))))))) 11 (.light 0 (.light 1 (.light 2 (.light 4 (.alt 3 2 (.alt 5 0 (.alt 6 2 (.light 7 (.light 9 (.alt 8 2 (.alt 10 2 (.done) (.no)) (.alt 10 2 (.alt 8 2 (.done) (.no)) (.no))))) (.no)) (.no)) (.alt 5 0 (.alt 3 2 (.alt 6 2 (.light 7 (.light 9 (.alt 8 2 (.alt 10 2 (.done) (.no)) (.alt 10 2 (.alt 8 2 (.done) (.no)) (.no))))) (.no)) (.no)) (.no))))))) (by kernel_rfl) (by kernel_rfl) Z<|.fA Z bX<|.lD Z fR fN Z<|.lD Z fE oU Z<|.yw (.lenSl dW Z)<|.h ?_ (.h ?_ .nn)
  ·
   refine .c3 (X:=Ex × List Value × Hp) nN Z (λW s=>sG K hq (s.p4_4 [1,0,2,3] Z)) Z (λ_ _=>(.yv (.lenSl dW Z)<|.dn<|.yv (.load Z fR fN Z)<|.yv (.fieldAddr Z bX)<|.nl)) λz1 hz1=>?_;obtain ⟨a1,c1,H1⟩:=z1;obtain ⟨hv1,u1,r1⟩:=hz1;dsimp only at hv1 u1 r1|-;obtain ⟨x1,x2,x3,x4,rfl⟩:=qA (iM r1);refine .h1<|.blF Z (kL _ _ _ _) Z λb11 H3 u3 m3=>.h1<|.apE pD Z (λ_ _=>fG) Z (Rep.mk (n:=1) (c:=1) (ds:=[dEx .u8 (opE 0 [])]) m3 (.single (BA _) Z) Z (aK _) (by decide)) (by omega) (by simp only [maxLen];omega) (by omega) Z (λ_ _=>(.d4<|.nl)) λnews g12 cc12 hn=>.yw (.indexSl dW Z Z (i:=es.length) Z (by omega) (q:=es.length * 4) (by omega))<|.fA Z bX<|.h ?_ (.h ?_ .nn)
   ·
    exact .sR Z Z dO (Rep.one r1) fG (by have:=hn.len;simp only [aD,aH,aS] at * <;> omega) (.yv (.fieldAddr Z bX)<|.d3<|.d2<|.nl) <|.h1<|.st fU Z Z iH Z (nb Z) Z ((.dn<|.yv (.indexSl dW Z Z (i:=es.length) Z (by omega) (q:=es.length * 4) (by omega))<|.d4<|.nl))<|.fe<|.tN<|.me ([a1],es.length+1,some ⟨g12,0,none⟩,cc12,kO (xs++news) (es.length * 4) [x1,x2,x3,x4],H3,up n (gX 0) q) trivial ⟨Z,Z,Z,Jt⟩ (λ_ s=>(s.p4_4 [1,0,2,3] Z)) ⟨.one hv1,Z,u1.trans u3,(by rw [aV];exact mP (hz.up (u1.trans u3).up) hn (r1.up u3.up) Z (by simp)),(Suf.ex 0).up hq⟩
   exact .st fU Z Z iH Z (nb Z) Z ((.dn<|.yv (.indexSl dW Z Z (i:=es.length) Z (by omega) (q:=es.length * 4) (by omega))<|.d4<|.nl))<|.h1<|.sR Z Z dO (Rep.one r1) fG (by have:=hn.len;simp only [aD,aH,aS] at * <;> omega) (.yv (.fieldAddr Z bX)<|.d3<|.d2<|.nl) <|.fe<|.tN<|.me ([a1],es.length+1,some ⟨g12,0,none⟩,cc12,kO (xs++news) (es.length * 4) [x1,x2,x3,x4],H3,up n (gX 0) q) trivial ⟨Z,Z,Z,Jt⟩ (λ_ s=>(s.p4_4 [1,0,2,3] Z)) ⟨.one hv1,Z,u1.trans u3,(by rw [aV];exact mP (hz.up (u1.trans u3).up) hn (r1.up u3.up) Z (by simp)),(Suf.ex 0).up hq⟩
  refine .blF Z (kL _ _ _ _) Z λb11 H3 u3 m3=>.h1<|.c3 (X:=Ex × List Value × Hp) nN Z (λW s=>sG (K.up u3.up) hq (s.p4_4 [1,0,2,3] Z)) Z (λ_ _=>(.yv (.lenSl dW Z)<|.dn<|.yv (.load Z fR fN Z)<|.yv (.fieldAddr Z bX)<|.nl)) λz1 hz1=>?_
  obtain ⟨a1,c1,H1⟩:=z1;obtain ⟨hv1,u1,r1⟩:=hz1;dsimp only at hv1 u1 r1|-;obtain ⟨x1,x2,x3,x4,rfl⟩:=qA (iM r1);refine .h1<|.apE pD Z (λ_ _=>fG) Z (Rep.mk (n:=1) (c:=1) (ds:=[dEx .u8 (opE 0 [])]) (m3.up u1.up) (.single (BA _) Z) Z (aK _) (by decide)) (by omega) (by simp only [maxLen];omega) (by omega) Z (λ_ _=>(.d4<|.nl)) λnews g12 cc12 hn=>.yw (.indexSl dW Z Z (i:=es.length) Z (by omega) (q:=es.length * 4) (by omega))<|.fA Z bX<|.h ?_ (.h ?_ .nn)
  ·
   exact .sR Z Z dO (Rep.one r1) fG (by have:=hn.len;simp only [aD,aH,aS] at * <;> omega) (.yv (.fieldAddr Z bX)<|.d3<|.d2<|.nl) <|.h1<|.st fU Z Z iH Z (nb Z) Z ((.dn<|.yv (.indexSl dW Z Z (i:=es.length) Z (by omega) (q:=es.length * 4) (by omega))<|.d4<|.nl))<|.fe<|.tN<|.me ([a1],es.length+1,some ⟨g12,0,none⟩,cc12,kO (xs++news) (es.length * 4) [x1,x2,x3,x4],H1,up n (gX 0) q) trivial ⟨Z,Z,Z,Jt⟩ (λ_ s=>(s.p4_4 [1,0,2,3] Z)) ⟨.one hv1,Z,u3.trans u1,(by rw [aV];exact mP (hz.up (u3.trans u1).up) hn (r1) Z (by simp)),(Suf.ex 0).up hq⟩
  exact .st fU Z Z iH Z (nb Z) Z ((.dn<|.yv (.indexSl dW Z Z (i:=es.length) Z (by omega) (q:=es.length * 4) (by omega))<|.d4<|.nl))<|.h1<|.sR Z Z dO (Rep.one r1) fG (by have:=hn.len;simp only [aD,aH,aS] at * <;> omega) (.yv (.fieldAddr Z bX)<|.d3<|.d2<|.nl) <|.fe<|.tN<|.me ([a1],es.length+1,some ⟨g12,0,none⟩,cc12,kO (xs++news) (es.length * 4) [x1,x2,x3,x4],H1,up n (gX 0) q) trivial ⟨Z,Z,Z,Jt⟩ (λ_ s=>(s.p4_4 [1,0,2,3] Z)) ⟨.one hv1,Z,u3.trans u1,(by rw [aV];exact mP (hz.up (u3.trans u1).up) hn (r1) Z (by simp)),(Suf.ex 0).up hq⟩
 obtain ⟨l,k,p,c,xs,H4,q1⟩:=z;obtain ⟨hR,hkk,u4,hz4,hq1⟩:=hC;dsimp only at hR hkk u4 hz4 hq1|-;have K4:=K.up u4.up;clear hz;refine .sm Z<|.yw (.lenSl dR Z)<|.mv Z<|.nt<|.bk<|.lp (X:=Nat × List Ex × Nat × Option Addr × Nat × List Value × Hp × Sg) [(1,_),(2,_),(15,_),(16,_)] ⟨Z,Z,Z,Z,Jt⟩ (bs) (λy=>[(17,iN y.1)]) (λy=>y.2.2.2.2.2.2.1) (λy=>[.row 27 4 (.slice y.2.2.2.1 y.2.2.1 y.2.2.2.2.1) y.2.2.1 y.2.2.2.2.2.1,PB b tp ts tc n t0 t1 t2 t3 y.2.2.2.2.2.2.2,.box bS [c0,c1,c2,.slice y.2.2.2.1 y.2.2.1 y.2.2.2.2.1,c4,c5] 208,.box bP [.pointer (some ⟨b,0,none⟩)] 65]) (λy=>y.1<=L.length/\DJ n q (L.take (y.1)) y.2.2.2.2.2.2.2 y.2.1/\y.2.2.1=es.length+y.2.1.length/\HUp w0 H y.2.2.2.2.2.2.1/\dA y.2.2.2.2.2.2.1 4 ((es++y.2.1).map (dEx .u8)) y.2.2.2.2.2.1/\y.2.2.2.2.2.2.2.r<:+ts) (λy=>L.length - y.1) (0,l,k,p,c,xs,H4,q1) (λ_ s=>s) ⟨Z,Jt⟩ ⟨cM _,hR,hkk,u4,hz4,hq1⟩ λy hC=>?_
 obtain ⟨i,l,k,p,c,xs,H6,q6⟩:=y;obtain ⟨hi0,hR6,hk6,u6,hz6,hq6⟩:=hC;dsimp only at hi0 hR6 hk6 u6 hz6 hq6|-;have K6:=K.up u6.up;have hl6:=hR6.len;rw [dJ] at hl6;have hx6:=hz6.len;rw [aJ,aD] at hx6;refine .sr<|.yw (.lss Z Z)<|.nt<|.sq<|.ce Z (λh18=>?_) (λh18=>?_)
 ·have hi:i<L.length:=by omega
  obtain ⟨bE,oE,cE,hpE,rE,lE,mE⟩:=(hs.up u6.up).elem (eL (f:=TR) hi);cases hpE;obtain rfl:=bK5 rE;refine .sk<|.tN<|.sq<|.bk<|.sr<|.yw (.indexSl dR Z Z Z (by omega) (q:=oE+i * 1) Z)<|.yw (.loadM Z bZ mE (k:=0) Z Z)<|.a Z Z<|.ns<|.lD Z fE oU Z<|.mv Z<|.cs (X:=Unit) eK Z (λW s=>eN K6 hq6 L[i] (hL _ (cD hi)) (s.p4_4 [1,0,2,3] Z)) Z λ_ _=>.nt<|.fx (p:=.light _ _ (.light _ _ (.light _ _ (.light _ _ (.alt _ _ _ (.alt _ _ _ (.alt _ _ _ (.light _ _ (.light _ _ (.alt _ _ _ (.alt _ _ _ (.done) (.no)) (.alt _ _ _ (.alt _ _ _ (.done) (.no)) (.no))))) (.no)) (.no)) (.alt _ _ _ (.alt _ _ _ (.alt _ _ _ (.light _ _ (.light _ _ (.alt _ _ _ (.alt _ _ _ (.done) (.no)) (.alt _ _ _ (.alt _ _ _ (.done) (.no)) (.no))))) (.no)) (.no)) (.no))))))) 11 (.light 0 (.light 1 (.light 2 (.light 4 (.alt 3 2 (.alt 5 0 (.alt 6 2 (.light 7 (.light 9 (.alt 8 2 (.alt 10 2 (.done) (.no)) (.alt 10 2 (.alt 8 2 (.done) (.no)) (.no))))) (.no)) (.no)) (.alt 5 0 (.alt 3 2 (.alt 6 2 (.light 7 (.light 9 (.alt 8 2 (.alt 10 2 (.done) (.no)) (.alt 10 2 (.alt 8 2 (.done) (.no)) (.no))))) (.no)) (.no)) (.no))))))) (by kernel_rfl) (by kernel_rfl) Z<|.fA Z bX<|.lD Z fR fN Z<|.lD Z fE oU Z<|.yw (.lenSl dW Z)<|.h ?_ (.h ?_ .nn)
  ·
   refine .c3 (X:=Ex × List Value × Hp) nN Z (λW s=>sG K6 ((Suf.nd _).up hq6) (s.p4_4 [0,1,2,3] Z)) Z (λ_ _=>(.yv (.lenSl dW Z)<|.dn<|.yv (.load Z fR fN Z)<|.yv (.fieldAddr Z bX)<|.nl)) λz1 hz1=>?_;obtain ⟨a15,c1,H15⟩:=z1;obtain ⟨hv15,u15,r15⟩:=hz1;dsimp only at hv15 u15 r15|-;obtain ⟨x15,x25,x35,x45,rfl⟩:=qA (iM r15);refine .h1<|.blF Z (kL _ _ _ _) Z λb29 H35 u35 m35=>.h1<|.apE pD Z (λ_ _=>fG) Z (Rep.mk (n:=1) (c:=1) (ds:=[dEx .u8 (opE 0 [])]) m35 (.single (BA _) Z) Z (aK _) (by decide)) (by omega) (by simp only [maxLen];omega) (by omega) Z (λ_ _=>(.d4<|.nl)) λnews5 g30 cc30 hn5=>.yw (.indexSl dW Z Z (i:=k) Z (by omega) (q:=k * 4) (by omega))<|.fA Z bX<|.h ?_ (.h ?_ .nn)
   ·
    exact .sR Z Z dO (Rep.one r15) fG (by have:=hn5.len;simp only [aD,aH,aS] at * <;> omega) (.yv (.fieldAddr Z bX)<|.d3<|.d2<|.nl) <|.h1<|.st fU Z Z iH Z (nb Z) Z ((.dn<|.yv (.indexSl dW Z Z (i:=k) Z (by omega) (q:=k * 4) (by omega))<|.d4<|.nl))<|.fe<|.bN<|.tN<|.rg<|.yw (.add Z Z w7)<|.mv Z<|.nt<|.ag (x:=(i,l,k,p,c,xs,H6,q6)) (i+1,l++[a15],k+1,some ⟨g30,0,none⟩,cc30,kO (xs++news5) (k * 4) [x15,x25,x35,x45],H35,up n (gX 0) (up n (gNd L[i]) q6)) ⟨Z,Jt⟩ ⟨Z,Z,Z,Z,Jt⟩ (λ_ s=>(s.p4_4 [1,0,2,3] Z)) ⟨by show i+1<=_;omega,hR6.step hi hv15,(by dsimp only;rw [aD];simp only [aH,aS];omega),u6.trans (u15.trans u35),(by dsimp only;rw [<-aQ,aV];exact mP (hz6.up (u15.trans u35).up) hn5 (r15.up u35.up) Z (by simp;omega)),(Suf.ex 0).up ((Suf.nd _).up hq6)⟩ (by show L.length - (i+1)<L.length - i;omega)
   exact .st fU Z Z iH Z (nb Z) Z ((.dn<|.yv (.indexSl dW Z Z (i:=k) Z (by omega) (q:=k * 4) (by omega))<|.d4<|.nl))<|.h1<|.sR Z Z dO (Rep.one r15) fG (by have:=hn5.len;simp only [aD,aH,aS] at * <;> omega) (.yv (.fieldAddr Z bX)<|.d3<|.d2<|.nl) <|.fe<|.bN<|.tN<|.rg<|.yw (.add Z Z w7)<|.mv Z<|.nt<|.ag (x:=(i,l,k,p,c,xs,H6,q6)) (i+1,l++[a15],k+1,some ⟨g30,0,none⟩,cc30,kO (xs++news5) (k * 4) [x15,x25,x35,x45],H35,up n (gX 0) (up n (gNd L[i]) q6)) ⟨Z,Jt⟩ ⟨Z,Z,Z,Z,Jt⟩ (λ_ s=>(s.p4_4 [1,0,2,3] Z)) ⟨by show i+1<=_;omega,hR6.step hi hv15,(by dsimp only;rw [aD];simp only [aH,aS];omega),u6.trans (u15.trans u35),(by dsimp only;rw [<-aQ,aV];exact mP (hz6.up (u15.trans u35).up) hn5 (r15.up u35.up) Z (by simp;omega)),(Suf.ex 0).up ((Suf.nd _).up hq6)⟩ (by show L.length - (i+1)<L.length - i;omega)
  refine .blF Z (kL _ _ _ _) Z λb29 H35 u35 m35=>.h1<|.c3 (X:=Ex × List Value × Hp) nN Z (λW s=>sG (K6.up u35.up) ((Suf.nd _).up hq6) (s.p4_4 [0,1,2,3] Z)) Z (λ_ _=>(.yv (.lenSl dW Z)<|.dn<|.yv (.load Z fR fN Z)<|.yv (.fieldAddr Z bX)<|.nl)) λz1 hz1=>?_
  obtain ⟨a15,c1,H15⟩:=z1;obtain ⟨hv15,u15,r15⟩:=hz1;dsimp only at hv15 u15 r15|-;obtain ⟨x15,x25,x35,x45,rfl⟩:=qA (iM r15);refine .h1<|.apE pD Z (λ_ _=>fG) Z (Rep.mk (n:=1) (c:=1) (ds:=[dEx .u8 (opE 0 [])]) (m35.up u15.up) (.single (BA _) Z) Z (aK _) (by decide)) (by omega) (by simp only [maxLen];omega) (by omega) Z (λ_ _=>(.d4<|.nl)) λnews5 g30 cc30 hn5=>.yw (.indexSl dW Z Z (i:=k) Z (by omega) (q:=k * 4) (by omega))<|.fA Z bX<|.h ?_ (.h ?_ .nn)
  ·
   exact .sR Z Z dO (Rep.one r15) fG (by have:=hn5.len;simp only [aD,aH,aS] at * <;> omega) (.yv (.fieldAddr Z bX)<|.d3<|.d2<|.nl) <|.h1<|.st fU Z Z iH Z (nb Z) Z ((.dn<|.yv (.indexSl dW Z Z (i:=k) Z (by omega) (q:=k * 4) (by omega))<|.d4<|.nl))<|.fe<|.bN<|.tN<|.rg<|.yw (.add Z Z w7)<|.mv Z<|.nt<|.ag (x:=(i,l,k,p,c,xs,H6,q6)) (i+1,l++[a15],k+1,some ⟨g30,0,none⟩,cc30,kO (xs++news5) (k * 4) [x15,x25,x35,x45],H15,up n (gX 0) (up n (gNd L[i]) q6)) ⟨Z,Jt⟩ ⟨Z,Z,Z,Z,Jt⟩ (λ_ s=>(s.p4_4 [1,0,2,3] Z)) ⟨by show i+1<=_;omega,hR6.step hi hv15,(by dsimp only;rw [aD];simp only [aH,aS];omega),u6.trans (u35.trans u15),(by dsimp only;rw [<-aQ,aV];exact mP (hz6.up (u35.trans u15).up) hn5 (r15) Z (by simp;omega)),(Suf.ex 0).up ((Suf.nd _).up hq6)⟩ (by show L.length - (i+1)<L.length - i;omega)
  exact .st fU Z Z iH Z (nb Z) Z ((.dn<|.yv (.indexSl dW Z Z (i:=k) Z (by omega) (q:=k * 4) (by omega))<|.d4<|.nl))<|.h1<|.sR Z Z dO (Rep.one r15) fG (by have:=hn5.len;simp only [aD,aH,aS] at * <;> omega) (.yv (.fieldAddr Z bX)<|.d3<|.d2<|.nl) <|.fe<|.bN<|.tN<|.rg<|.yw (.add Z Z w7)<|.mv Z<|.nt<|.ag (x:=(i,l,k,p,c,xs,H6,q6)) (i+1,l++[a15],k+1,some ⟨g30,0,none⟩,cc30,kO (xs++news5) (k * 4) [x15,x25,x35,x45],H15,up n (gX 0) (up n (gNd L[i]) q6)) ⟨Z,Jt⟩ ⟨Z,Z,Z,Z,Jt⟩ (λ_ s=>(s.p4_4 [1,0,2,3] Z)) ⟨by show i+1<=_;omega,hR6.step hi hv15,(by dsimp only;rw [aD];simp only [aH,aS];omega),u6.trans (u35.trans u15),(by dsimp only;rw [<-aQ,aV];exact mP (hz6.up (u35.trans u15).up) hn5 (r15) Z (by simp;omega)),(Suf.ex 0).up ((Suf.nd _).up hq6)⟩ (by show L.length - (i+1)<L.length - i;omega)
 obtain rfl:i=L.length:=by omega
 rw [aI] at hR6;refine .ex<|.tE<|.tE<|.bE<|?_
 refine pK (.inr Z) rfl .nil rfl λW s=>⟨(l,k,p,c,xs,H6,q6),⟨hR6,hk6,u6,hz6,hq6⟩,Z,?_⟩;exact s.p4_4 [0,1,2,3] rfl
theorem CF:jP prg 118=some none:=by kernel_rfl
theorem zU:cU prg 174=true:=by kernel_rfl
theorem UP:cU prg 175=true:=by kernel_rfl
theorem DJ.nil {l:List Ex} (h:DJ n q [] q1 l):q1=up n (gX 0) q/\∃ e,l=[e]/\vl (gX 0) q e:=by
 generalize hL:([]:List Str)=L at h;cases h with
 | one hv=>exact ⟨Z,_,Z,hv⟩
 | more _ _=>simp at hL
theorem cA4 {b:Nat} (K:Tkm H ts tp tc) (hq:q.r<:+ts) (bS bP bF:Nat) (c0 c1 c2 c4 c5:Value) (es:List Ex) (k0:Nat) (hk0:k0=es.length) (vp:Option Addr) (vc:Nat) (xs0:List Value) (hz:dA H 4 (es.map (dEx .u8)) xs0) (hk:k0<=1000000) (s:St H w0 (.row 27 4 (.slice vp k0 vc) k0 xs0::PB b tp ts tc n t0 t1 t2 t3 q::.box bS [c0,c1,c2,.slice vp k0 vc,c4,c5] 208::.box bP [.pointer (some ⟨b,0,none⟩)] 65::.box bF [.func (.func 174) #[] #[.pointer (some ⟨bS,0,none⟩),.pointer (some ⟨bP,0,none⟩)]] 118::bs) W) :
 Calls prg 175 #[.pointer (some ⟨bF,0,none⟩)] W λe W'=>∃ z:Ex × Nat × Option Addr × Nat × List Value × Hp,(vl (gX 0) q z.1/\z.2.1=es.length+1/\HUp w0 H z.2.2.2.2.2/\dA z.2.2.2.2.2 4 ((es++[z.1]).map (dEx .u8)) z.2.2.2.2.1)/\e=.returned (.tuple #[])/\St z.2.2.2.2.2 w0 (.row 27 4 (.slice z.2.2.1 z.2.1 z.2.2.2.1) z.2.1 z.2.2.2.2.1::PB b tp ts tc n t0 t1 t2 t3 (up n (gX 0) q)::.box bS [c0,c1,c2,.slice z.2.2.1 z.2.1 z.2.2.2.1,c4,c5] 208::.box bP [.pointer (some ⟨b,0,none⟩)] 65::.box bF [.func (.func 174) #[] #[.pointer (some ⟨bS,0,none⟩),.pointer (some ⟨bP,0,none⟩)]] 118::bs) W':=by
 subst hk0;refine fD func175 rfl ntmps175 rfl s ?_;refine .rg<|.lD Z CF QV Z<|.sv (X:=List Ex × Nat × Option Addr × Nat × List Value × Hp × Sg) (fi:=[]) (ca:=[.pointer (some ⟨bS,0,none⟩),.pointer (some ⟨bP,0,none⟩)]) Z zU Z (λW s=>OZ K hq bS bP c0 c1 c2 c4 c5 es vp vc xs0 [] (λw h=>by cases h) none 0 (Rep.empty (p:=none) (c:=0) (by decide)) hz (by simp only [aS];omega) (s.p5_5 [0,1,2,3,4] Z)) Z λz2 hz2=>?_
 obtain ⟨l2,k2,p2,c2',xs2,H2,q2⟩:=z2;obtain ⟨hR,hk2,u2,hz2,hq2⟩:=hz2;dsimp only at hR hk2 u2 hz2 hq2|-;obtain ⟨rfl,e2,rfl,hv2⟩:=DJ.nil hR;refine .nl<|?_
 refine pK (.inr Z) rfl .nil rfl λW s=>⟨(e2,k2,p2,c2',xs2,H2),⟨hv2,hk2,u2,hz2⟩,Z,?_⟩;exact s.p5_5 [0,1,2,3,4] rfl
theorem bG1 {b:Nat} (K:Tkm H ts tp tc) (hq:q.r<:+ts) (bS bP bF:Nat) (c0 c1 c2 c4 c5:Value) (es:List Ex) (k0:Nat) (hk0:k0=es.length) (vp:Option Addr) (vc:Nat) (xs0:List Value) (hz:dA H 4 (es.map (dEx .u8)) xs0) (hk:k0+q.mu<=900000) (s:St H w0 (.row 27 4 (.slice vp k0 vc) k0 xs0::PB b tp ts tc n t0 t1 t2 t3 q::.box bS [c0,c1,c2,.slice vp k0 vc,c4,c5] 208::.box bP [.pointer (some ⟨b,0,none⟩)] 65::.box bF [.func (.func 174) #[] #[.pointer (some ⟨bS,0,none⟩),.pointer (some ⟨bP,0,none⟩)]] 118::bs) W) :
 Calls prg 147 #[.pointer (some ⟨b,0,none⟩),.func (.func 175) #[] #[.pointer (some ⟨bF,0,none⟩)]] W λe W'=>∃ z:List Ex × Nat × Option Addr × Nat × List Value × Hp,(vl (jN (gX 0)) q z.1/\z.2.1=es.length+z.1.length/\HUp w0 H z.2.2.2.2.2/\dA z.2.2.2.2.2 4 ((es++z.1).map (dEx .u8)) z.2.2.2.2.1)/\e=.returned (.tuple #[])/\St z.2.2.2.2.2 w0 (.row 27 4 (.slice z.2.2.1 z.2.1 z.2.2.2.1) z.2.1 z.2.2.2.2.1::PB b tp ts tc n t0 t1 t2 t3 (up n (jN (gX 0)) q)::.box bS [c0,c1,c2,.slice z.2.2.1 z.2.1 z.2.2.2.1,c4,c5] 208::.box bP [.pointer (some ⟨b,0,none⟩)] 65::.box bF [.func (.func 174) #[] #[.pointer (some ⟨bS,0,none⟩),.pointer (some ⟨bP,0,none⟩)]] 118::bs) W':=by
 refine fD func147 rfl ntmps147 rfl s ?_;refine .sm Z<|.cs (X:=Unit) eK Z (λW s=>eN K hq [40] (by decide +kernel) (s.p5_5 [1,0,2,3,4] Z)) Z λ_ _=>.nt<|.sq<|.sm Z<|.cs (X:=Unit) gW Z (λW s=>gZ K ((Suf.nd _).up hq) [41] (by decide +kernel) (s.p5_5 [0,1,2,3,4] Z)) Z λ_ _=>.nt<|.cd Z (λh7=>?_) (λh7=>?_)
 ·rw [iS h7];refine .rt<|.tR<|?_
  refine y7 Z .nil rfl λW s=>⟨([],k0,vp,vc,xs0,H),⟨(by unfold jN;exact aM (n:=n) (x:=()) aU (eG h7 dB)),hk0,.refl,(by rw [aX];exact hz)⟩,Z,?_⟩;rw [show up n (jN (gX 0)) q=(up n (gNd [40]) q).tl by unfold jN;rw [aO (x:=()) (Cz.nd _) aU,eU h7,dE]];exact s.p5_5 [1,0,2,3,4] rfl
 rw [iT h7];refine .sk<|.tN<|.sm Z<|.sv (X:=Ex × Nat × Option Addr × Nat × List Value × Hp) (fi:=[]) (ca:=[.pointer (some ⟨bF,0,none⟩)]) Z UP Z (λW s=>cA4 K ((Suf.nd _).up hq) bS bP bF c0 c1 c2 c4 c5 es k0 hk0 vp vc xs0 hz (by omega) (s.p5_5 [1,0,2,3,4] Z)) Z λz1 hz1=>?_
 obtain ⟨e1,k1,p1,c1',xs1,H1⟩:=z1;obtain ⟨hv1,hk1,u1,hz1⟩:=hz1;dsimp only at hv1 hk1 u1 hz1|-;have K1:=K.up u1.up;refine .nt<|.sq<|.bk<|.lp (X:=List Ex × Nat × Option Addr × Nat × List Value × Hp × Sg) [(0,_),(1,_)] ⟨Z,Z,Jt⟩ (_::_::bs) (λy=>[]) (λy=>y.2.2.2.2.2.1) (λy=>[.row 27 4 (.slice y.2.2.1 y.2.1 y.2.2.2.1) y.2.1 y.2.2.2.2.1,PB b tp ts tc n t0 t1 t2 t3 y.2.2.2.2.2.2,.box bS [c0,c1,c2,.slice y.2.2.1 y.2.1 y.2.2.2.1,c4,c5] 208]) (λy=>∃ l,y.1=e1::l/\MnI n [44] (gX 0) (up n (gX 0) (up n (gNd [40]) q)) l y.2.2.2.2.2.2/\y.2.1=es.length+y.1.length/\HUp w0 H y.2.2.2.2.2.1/\dA y.2.2.2.2.2.1 4 ((es++y.1).map (dEx .u8)) y.2.2.2.2.1/\y.2.2.2.2.2.2.r<:+ts) (λy=>y.2.2.2.2.2.2.mu) ([e1],k1,p1,c1',xs1,H1,up n (gX 0) (up n (gNd [40]) q)) (λ_ s=>s) trivial ⟨[],Z,MnI.start,hk1,u1,hz1,(Suf.ex 0).up ((Suf.nd _).up hq)⟩ λy hC=>?_
 obtain ⟨l0,k,p,c,xs,H2,q2⟩:=y;obtain ⟨l,hl0,hI,hkl,u2,hzl,hq2⟩:=hC;dsimp only at hl0 hI hkl u2 hzl hq2|-;subst hl0;have K2:=K.up u2.up;have hlen:=hI.len;have hmu2:=jE (n:=n) (s:=(up n (gNd [40]) q)) (Shs.gx 0).le (Cz.ex 0);have hmu1:=jE (n:=n) (s:=q) (Shs.nd [40]).le (Cz.nd [40]);rw [aH] at hkl;refine .sq<|.sm Z<|.cs (X:=Unit) gW Z (λW s=>gZ K2 hq2 [44] (by decide +kernel) (s.p5_5 [1,0,2,3,4] Z)) Z λ_ _=>.nt<|.cd Z (λh11=>?_) (λh11=>?_)
 ·rw [iS h11];refine .sk<|.tN<|.bk<|.rg<|.mv Z<|.sv (X:=Ex × Nat × Option Addr × Nat × List Value × Hp) (fi:=[]) (ca:=[.pointer (some ⟨bF,0,none⟩)]) Z UP Z (λW s=>cA4 K2 (Suf.tl hq2) bS bP bF c0 c1 c2 c4 c5 (es++(e1::l)) k (by rw [aD,aH];exact hkl) p c xs hzl (by omega) (s.p5_5 [1,0,2,3,4] Z)) Z λz3 hz3=>?_
  obtain ⟨e3,k3,p3,c3,xs3,H3⟩:=z3;obtain ⟨hv3,hk3,u3,hz3⟩:=hz3;dsimp only at hv3 hk3 u3 hz3|-;exact .nl<|.bN<|.tN<|.ag (x:=(e1::l,k,p,c,xs,H2,q2)) ((e1::l)++[e3],k3,p3,c3,xs3,H3,up n (gX 0) q2.tl) trivial ⟨Z,Z,Jt⟩ (λ_ s=>s) ⟨l++[e3],Z,(hI.step (Shs.gx 0).le (Cz.ex 0) h11 hv3).1,(by dsimp only;rw [aD] at hk3;simp only [aD,aH,aS] at *;omega),u2.trans u3,(by dsimp only;rw [<-aQ];exact hz3),(Suf.ex 0).up (Suf.tl hq2)⟩ (hI.step (Shs.gx 0).le (Cz.ex 0) h11 hv3).2
 rw [iT h11];obtain ⟨eS,hvS⟩:=hI.stop (Shs.gx 0).le h11;refine .ex<|.eb<|.rg<|.mv Z<|.cs (X:=Unit) eK Z (λW s=>eN K2 hq2 [41] (by decide +kernel) (s.p5_5 [0,1,2,3,4] Z)) Z λ_ _=>.nl<|?_
 refine pK (.inr Z) rfl .nil rfl λW s=>⟨(e1::l,k,p,c,xs,H2),⟨(by unfold jN;exact aM (n:=n) (x:=()) aU (aY h7 (aM (n:=n) hv1 (aM (n:=n) hvS (aM (n:=n) (x:=()) aU dB))))),(by dsimp only;rw [aH];exact hkl),u2,hzl⟩,Z,?_⟩;rw [show up n (jN (gX 0)) q=up n (gNd [41]) q2 by unfold jN;rw [aO (x:=()) (Cz.nd _) aU,aZ h7,aO (Cz.ex _) hv1,aO (.many (Cz.ex _)) hvS,eS,aO (x:=()) (Cz.nd _) aU,dE]];exact s.p5_5 [1,0,2,3,4] rfl
theorem qI:gH prg 206=some 1:=by kernel_rfl
end Go.Proofs.YthhoebdlfjffkaaGreatDoor
