/- Texts of the proof, one behind the other. -/
import Derived.Test.YthhoebdlfjffkaaGreatDoorMg
set_option linter.all false
set_option maxRecDepth 100000
namespace Go.Proofs.YthhoebdlfjffkaaGreatDoor
open Go.RowKit Go.Par Go.Sx Tryz
variable {q:Sg} {ts:List Tk}
theorem BQ (hts:ts.length<=400000) (h:q.r<:+ts):q.mu<=500000:=by
 have:=h.length_le;unfold Sg.mu
 split <;> omega
variable {n:Nat} {w:Str} {s:Sg}
theorem dB8 (hg:∀ t∈ts,Tkg t) (hs:s.r<:+ts) (hw:w=[50]\/w=[51]) (h:(tkH n s.r).t=w):(tkH n s.r).k=3:=by
 have hm:=aC9 hg hs;cases hr:s.r with
 | nil =>
  rw [hr] at h;have:([]:Str)=w:=h;rcases hw with rfl | rfl <;> cases this
 | cons x r =>
  rw [hr] at h hm;have h:x.t=w:=h;exact (hm x eE).2.1 (by rw [h];exact hw)
variable {H:Hp} {w0 W:World} {bs:List Res} {t:Str} {tp:Option Addr} {tc:Nat}
theorem aP2 {b:Nat} (K:Tkr H t n ts tp tc) (hq:q.r<:+ts) (hts:ts.length<=400000) (s:St H w0 (PA b t tp ts tc q::bs) W) :
 Calls prg 100 #[.pointer (some ⟨b,0,none⟩)] W λe W'=>∃ z:Cp × List Value × Hp,(vl gCp q z.1/\HUp w0 H z.2.2/\Rep z.2.2 (dCp .i64 z.1) z.2.1)/\e=.returned (.agg z.2.1.toArray)/\St z.2.2 w0 (PA b t tp ts tc (up n gCp q)::bs) W':=by
 have hcap:=K.rep.cap;refine fD func100 rfl ntmps100 rfl s ?_;refine .sr<|.al FY Z λb2=>.ns<|.mv Z<|.cs (X:=Str) lQ Z (λW s=>uJ K hq  (s.p2_2 [1,0] Z)) Z λnm hnm=>.yw (.build Z (QR _))<|.al FY Z λb3=>?_
 refine Sx.row0 152 1 ?_;refine Sx.row0 148 3 ?_;refine .sW fU Z Z CW (by simp [cTk,Value.oneCell',cJ]) Z<|.ns<|.mv Z<|.cs (X:=Unit) dP Z (λW s=>gI K (Suf.nm.up hq) [123] (s.p5_5 [3,0,1,2,4] Z)) Z λ_ _=>.nt<|.sq<|.bk<|.lp (X:=List Vr × Nat × Option Addr × Nat × List Value × Hp × Sg) [(0,_),(2,_),(3,_)] ⟨Z,Z,Z,Jt⟩ (_::_::bs) (λz=>[]) (λz=>z.2.2.2.2.2.1) (λz=>[.row 148 3 (.slice z.2.2.1 z.2.1 z.2.2.2.1) z.2.1 z.2.2.2.2.1,PA b t tp ts tc z.2.2.2.2.2.2,.box b3 [cJ nm,.slice z.2.2.1 z.2.1 z.2.2.2.1,.slice none 0 0] 146]) (λz=>MnI n [118,97,114] gVr (up n (gNd [123]) (up n gNm q)) z.1 z.2.2.2.2.2.2/\z.2.1=z.1.length/\HUp w0 H z.2.2.2.2.2.1/\dA z.2.2.2.2.2.1 3 (z.1.map (dVr .i64)) z.2.2.2.2.1/\z.2.2.2.2.2.2.r<:+ts) (λz=>z.2.2.2.2.2.2.mu) ([],0,none,0,[],H,(up n (gNd [123]) (up n gNm q))) (λ_ s=>(s.p5_5 [1,0,3,2,4] Z)) trivial ⟨MnI.start,Z,.refl,dA.nil,(Suf.nd _).up (Suf.nm.up hq)⟩ λz hC=>?_
 obtain ⟨lv,kv,pv,cv,xv,H1,q1⟩:=z;obtain ⟨hI,hkv,u1,hzv,hq1⟩:=hC;dsimp only at hI hkv u1 hzv hq1|-;have K1:=K.up u1.up;have hlen:=hI.len;have hmx:=BQ hts ((Suf.nd [123]).up (n:=n) (Suf.nm.up (n:=n) hq));refine .sq<|.sm Z<|.cs (X:=Unit) gD Z (λW s=>kX K1 hq1 [118,97,114] (s.p5_5 [1,0,2,3,4] Z)) Z λ_ _=>.nt<|.cd Z (λh12=>?_) (λh12=>?_)
 ·rw [iS h12];exact .sk<|.tN<|.bk<|.fL 6 [(0,0),(1,0),(2,0),(3,3),(4,1),(5,3)]<|.fA Z mW<|.lD Z CE fN Z<|.mv Z<|.c3 (X:=Vr) bA2 Z (λW s=>aU0 K1 (Suf.tl hq1) (s.p5_5 [0,1,2,3,4] Z)) Z (λ_ _=>(.dn<|.yv (.load Z CE fN Z)<|.yv (.fieldAddr Z mW)<|.nl)) λvr hvr=>.blF Z (DV _ _ _) Z λb17 H2 u2 m2=>.apD JD Z (λ_ _=>fG) Z (Rep.mk (n:=1) (c:=1) (ds:=[dVr .i64 vr]) m2 (.single (HX hvr.2) Z) Z (aK _) (by decide)) (by simp only [maxLen];omega) (by omega) Z (λ_ _=>(.d3<|.nl)) λxs18 p18 c18 hz18=>.fn (tl:=[_,_]) Z<|.fA Z mW<|.st fU Z Z GA Z (nb Z) Z<|.nl<|.bN<|.tN<|.ag (x:=(lv,kv,pv,cv,xv,H1,q1)) (lv++[vr],kv+1,p18,c18,xv++xs18,H2,up n gVr q1.tl) trivial ⟨Z,Z,Z,Jt⟩ (λ_ s=>(s.p5_5 [1,0,2,3,4] Z)) ⟨(hI.step Shs.vr.le Cz.vr h12 hvr.1).1,by simp [hkv],u1.trans u2,by dsimp only;rw [aV];exact (hzv.up u2.up).app hz18,Suf.vr.up (Suf.tl hq1)⟩ (hI.step Shs.vr.le Cz.vr h12 hvr.1).2
 rw [iT h12];obtain ⟨eV,hvV⟩:=hI.stop Shs.vr.le h12;subst hkv;refine .ex<|.eb<|.sq<|.fL 6 [(0,0),(1,0),(2,0),(3,3),(4,1),(5,3)]<|.fA Z fX<|.lD Z nO fN Z<|.mv Z<|.c3 (X:=List Hd × Value × Hp) CZ Z (λW s=>CQ K1 hq1 (BQ hts hq1) (s.p5_5 [0,1,2,3,4] Z)) Z (λ_ _=>(.dn<|.yv (.load Z nO fN Z)<|.yv (.fieldAddr Z fX)<|.nl)) λz3 hz3=>?_
 obtain ⟨l3,v3,H3⟩:=z3;obtain ⟨hv3,u3,r3⟩:=hz3;dsimp only at hv3 u3 r3|-;have K3:=K1.up u3.up;obtain ⟨p3,c3',e3',_⟩:=r3.sl;simp only [aT,bV] at e3';subst e3';refine .blF Z (vK _ _ _) Z λb24 H4 u4 m4=>.apD zS Z (λ_ _=>oB) Z (Rep.mk (n:=1) (c:=1) (ds:=[dVs .i64 l3]) m4 (.single (r3.up u4.up) Z) Z (aK _) (by decide)) (by simp only [maxLen];omega) (by omega) Z (λ_ _=>(.d3<|.nl)) λxs25 p25 c25 hz25=>.fn (tl:=[_,_]) Z<|.fA Z fX<|.st fU Z Z xX Z (nb Z) Z<|.nt<|.sq<|.sr<|.aq Z<|.bk<|.lp (X:=Nat × List (List Hd) × Nat × Option Addr × Nat × List Value × Hp × Sg) [(0,_),(2,_),(3,_)] ⟨Z,Z,Z,Jt⟩ (_::_::bs) (λy=>[(4,iN (y.1+2))]) (λy=>y.2.2.2.2.2.2.1) (λy=>[.row 152 1 (.slice y.2.2.2.1 y.2.2.1 y.2.2.2.2.1) y.2.2.1 y.2.2.2.2.2.1,PA b t tp ts tc y.2.2.2.2.2.2.2,.box b3 [cJ nm,.slice pv lv.length cv,.slice y.2.2.2.1 y.2.2.1 y.2.2.2.2.1] 146]) (λy=>y.1<=2/\VmI n (up n gVs q1) y.1 y.2.1 y.2.2.2.2.2.2.2/\y.2.2.1=(l3::y.2.1).length/\y.2.1.length<=y.1/\HUp w0 H4 y.2.2.2.2.2.2.1/\dA y.2.2.2.2.2.2.1 1 ((l3::y.2.1).map (dVs .i64)) y.2.2.2.2.2.1/\y.2.2.2.2.2.2.2.r<:+ts) (λy=>2 - y.1) (0,[],0+1,p25,c25,[]++xs25,H4,(up n gVs q1)) (λ_ s=>(s.p5_5 [3,0,2,1,4] Z)) ⟨Z,Jt⟩ ⟨cM _,VmI.start,Z,cM _,.refl,hz25,Suf.vs.up hq1⟩ λy hC=>?_
 obtain ⟨i,l,k5,p5,c5,x5,H5,q5⟩:=y;obtain ⟨hi,hJ,hk5,hl2,u5,hz5,hq5⟩:=hC;dsimp only at hi hJ hk5 hl2 u5 hz5 hq5|-;have K5:=(K3.up u4.up).up u5.up;rw [aH] at hk5;refine .sq<|.sm Z<|.yw (.leq Z Z)<|.mv Z<|.e2 (λh29=>?_) (λh29=>?_)
 ·have hi2:i<2:=by omega
  refine .gy (.move Z)<|.gd Z Z<|.cs (X:=Unit) gD Z (λW s=>kX K5 hq5 [118,101,114,115,105,111,110] (s.p5_5 [1,0,2,3,4] Z)) Z λ_ _=>.yw (.pickT Z Z)<|.nt<|.cd Z (λh32=>?_) (λh32=>?_)
  ·rw [iS h32];refine .sk<|.tN<|.sq<|.bk<|.sm Z<|.cs (X:=Unit) zT Z (λW s=>SF K5 (Suf.tl hq5)  (s.p5_5 [0,1,2,3,4] Z)) Z λ_ _=>.al xV Z λb5=>.sW .head Z Z lW (by simp [cTk,Value.oneCell',cJ]) Z<|.nt<|.sq<|.sq<|.fL 19 [(0,0),(1,0),(2,0),(3,0),(4,0),(5,0),(6,0),(7,0),(8,0),(9,0),(10,0),(11,0),(12,0),(14,0),(15,0),(13,1),(16,0),(17,0),(18,0)]<|.mv Z<|.nC Z<|.fA Z lT<|.lD Z dZ dN Z<|.yw (.neq Z Z)<|.mv Z<|.e2 (λh42=>?_) (λh42=>?_)
   ·have hbad:¬ tcB n (vmW i) q5.tl=true:=by unfold tcB;simp;intro h0;omega
    have e1:(up n (gNn (vmW i)) q5.tl)=q5.tl.fail n 8:=by rw [aL7 K5.good (Suf.tl hq5) (NU i),aA hbad]
    refine .gG<|.gG<|.gG<|.yw (.pickT Z Z)<|.mv Z<|.gG<|.gG<|.gG<|.gG<|.gFk Z Z Z Z<|.gG<|.gG<|.gG<|.fn (tl:=[_]) Z<|.yw (.pickT Z Z)<|.nt<|.cT Z<|.rg<|.mv Z<|.cs (X:=Unit) uD Z (λW s=>EE K5 (Suf.tl hq5) 8 (s.p6_6 [1,0,2,3,4,5] Z)) Z λ_ _=>?_
    rw [<-e1];refine .ns<|.mv Z<|.cs (X:=Unit) dP Z (λW s=>gI K5 ((Suf.nn _).up (Suf.tl hq5)) [123] (s.p6_6 [0,1,2,3,4,5] Z)) Z λ_ _=>.nt<|.sq<|.fL 6 [(0,0),(1,0),(2,0),(3,3),(4,1),(5,3)]<|.fA Z fX<|.lD Z nO oU Z<|.mv Z<|.c3 (X:=List Hd × Value × Hp) CZ Z (λW s=>CQ K5 ((Suf.nd _).up ((Suf.nn _).up (Suf.tl hq5))) (BQ hts ((Suf.nd _).up ((Suf.nn _).up (Suf.tl hq5)))) (s.p6_6 [0,1,2,3,4,5] Z)) Z (λ_ _=>(.dn<|.yv (.load Z nO oU Z)<|.yv (.fieldAddr Z fX)<|.nl)) λz8 hz8=>?_
    obtain ⟨l8,v8,H8⟩:=z8;obtain ⟨hv8,u8,r8⟩:=hz8;dsimp only at hv8 u8 r8|-;have K8:=K5.up u8.up;obtain ⟨p8,c8',e8',_⟩:=r8.sl;simp only [aT,bV] at e8';subst e8';refine .blF Z (vK _ _ _) Z λb72 H9 u9 m9=>.apD zS Z (λ_ _=>fU) Z (Rep.mk (n:=1) (c:=1) (ds:=[dVs .i64 l8]) m9 (.single (r8.up u9.up) Z) Z (aK _) (by decide)) (by simp only [maxLen];omega) (by omega) Z (λ_ _=>(.d3<|.nl)) λxs73 p73 c73 hz73=>.fn (tl:=[_,_]) Z<|.fA Z fX<|.st oB Z Z xX Z (nb Z) Z<|.nt<|.rg<|.mv Z<|.cs (X:=Unit) dP Z (λW s=>gI (K8.up u9.up) (Suf.vs.up ((Suf.nd _).up ((Suf.nn _).up (Suf.tl hq5)))) [125] (s.p6_6 [0,1,2,3,4,5] Z)) Z λ_ _=>?_
    have hvn:vl (gVn (vmW i)) q5.tl l8:=by unfold gVn;exact aM (n:=n) (x:=()) aU (aM (n:=n) (x:=()) aU (aM (n:=n) hv8 (aM (n:=n) (x:=()) aU (dB))))
    rw [show up n (gNd [125]) (up n gVs (up n (gNd [123]) (up n (gNn (vmW i)) q5.tl)))=up n (gVn (vmW i)) q5.tl by unfold gVn;rw [aO (x:=()) (Cz.nn _) aU,aO (x:=()) (Cz.nd _) aU,aO Cz.vs hv8,aO (x:=()) (Cz.nd _) aU,dE]];exact .nl<|.bN<|.tN<|.rg<|.mv Z<|.yw (.add Z Z w7)<|.aq Z<|.ag (x:=(i,l,k5,p5,c5,x5,H5,q5)) (i+1,l++[l8],k5+1,p73,c73,x5++xs73,H9,up n (gVn (vmW i)) q5.tl) ⟨Z,Jt⟩ ⟨Z,Z,Z,Jt⟩ (λ_ s=>(s.p6_5 [2,0,3,4,5] Z)) ⟨by show i+1<=2;omega,hJ.step (by omega) h32 hvn,(by dsimp only;simp only [aH,aD,aS];omega),(by dsimp only;rw [aD,gT];omega),u5.trans ((u8.trans u9)),(by dsimp only;rw [<-aR,aV];exact (hz5.up ((u8.trans u9)).up).app hz73),(Suf.vn _).up (Suf.tl hq5)⟩ (by show 2 - (i+1)<2 - i;omega)
   have h0:q5.tl.e=0:=by omega
   refine .yg Z Z (.fieldAddr Z uA) Z<|.yg Z Z (.load Z dZ Hm Z) Z<|.yg Z Z (.neq Z Z) Z<|.yw (.pickF Z Z)<|.mv Z<|.e2 (λh47=>?_) (λh47=>?_)
   ·have hk3:¬ (tkH n q5.tl.r).k=3:=λe=>by simp [e] at h47
    have hbad:¬ tcB n (vmW i) q5.tl=true:=by unfold tcB;simp;intro _ e;exact hk3 (dB8 K5.good (Suf.tl hq5) (NU i) e)
    have e1:(up n (gNn (vmW i)) q5.tl)=q5.tl.fail n 8:=by rw [aL7 K5.good (Suf.tl hq5) (NU i),aA hbad]
    refine .gG<|.gG<|.gG<|.gG<|.gFk Z Z Z Z<|.gG<|.gG<|.gG<|.fn (tl:=[_]) Z<|.yw (.pickT Z Z)<|.nt<|.cT Z<|.rg<|.mv Z<|.cs (X:=Unit) uD Z (λW s=>EE K5 (Suf.tl hq5) 8 (s.p6_6 [1,0,2,3,4,5] Z)) Z λ_ _=>?_
    rw [<-e1];refine .ns<|.mv Z<|.cs (X:=Unit) dP Z (λW s=>gI K5 ((Suf.nn _).up (Suf.tl hq5)) [123] (s.p6_6 [0,1,2,3,4,5] Z)) Z λ_ _=>.nt<|.sq<|.fL 6 [(0,0),(1,0),(2,0),(3,3),(4,1),(5,3)]<|.fA Z fX<|.lD Z nO oU Z<|.mv Z<|.c3 (X:=List Hd × Value × Hp) CZ Z (λW s=>CQ K5 ((Suf.nd _).up ((Suf.nn _).up (Suf.tl hq5))) (BQ hts ((Suf.nd _).up ((Suf.nn _).up (Suf.tl hq5)))) (s.p6_6 [0,1,2,3,4,5] Z)) Z (λ_ _=>(.dn<|.yv (.load Z nO oU Z)<|.yv (.fieldAddr Z fX)<|.nl)) λz8 hz8=>?_
    obtain ⟨l8,v8,H8⟩:=z8;obtain ⟨hv8,u8,r8⟩:=hz8;dsimp only at hv8 u8 r8|-;have K8:=K5.up u8.up;obtain ⟨p8,c8',e8',_⟩:=r8.sl;simp only [aT,bV] at e8';subst e8';refine .blF Z (vK _ _ _) Z λb72 H9 u9 m9=>.apD zS Z (λ_ _=>fU) Z (Rep.mk (n:=1) (c:=1) (ds:=[dVs .i64 l8]) m9 (.single (r8.up u9.up) Z) Z (aK _) (by decide)) (by simp only [maxLen];omega) (by omega) Z (λ_ _=>(.d3<|.nl)) λxs73 p73 c73 hz73=>.fn (tl:=[_,_]) Z<|.fA Z fX<|.st oB Z Z xX Z (nb Z) Z<|.nt<|.rg<|.mv Z<|.cs (X:=Unit) dP Z (λW s=>gI (K8.up u9.up) (Suf.vs.up ((Suf.nd _).up ((Suf.nn _).up (Suf.tl hq5)))) [125] (s.p6_6 [0,1,2,3,4,5] Z)) Z λ_ _=>?_
    have hvn:vl (gVn (vmW i)) q5.tl l8:=by unfold gVn;exact aM (n:=n) (x:=()) aU (aM (n:=n) (x:=()) aU (aM (n:=n) hv8 (aM (n:=n) (x:=()) aU (dB))))
    rw [show up n (gNd [125]) (up n gVs (up n (gNd [123]) (up n (gNn (vmW i)) q5.tl)))=up n (gVn (vmW i)) q5.tl by unfold gVn;rw [aO (x:=()) (Cz.nn _) aU,aO (x:=()) (Cz.nd _) aU,aO Cz.vs hv8,aO (x:=()) (Cz.nd _) aU,dE]];exact .nl<|.bN<|.tN<|.rg<|.mv Z<|.yw (.add Z Z w7)<|.aq Z<|.ag (x:=(i,l,k5,p5,c5,x5,H5,q5)) (i+1,l++[l8],k5+1,p73,c73,x5++xs73,H9,up n (gVn (vmW i)) q5.tl) ⟨Z,Jt⟩ ⟨Z,Z,Z,Jt⟩ (λ_ s=>(s.p6_5 [2,0,3,4,5] Z)) ⟨by show i+1<=2;omega,hJ.step (by omega) h32 hvn,(by dsimp only;simp only [aH,aD,aS];omega),(by dsimp only;rw [aD,gT];omega),u5.trans ((u8.trans u9)),(by dsimp only;rw [<-aR,aV];exact (hz5.up ((u8.trans u9)).up).app hz73),(Suf.vn _).up (Suf.tl hq5)⟩ (by show 2 - (i+1)<2 - i;omega)
   have hk3:(tkH n q5.tl.r).k=3:=bT.1 (by show (tkH n q5.tl.r).k.toNat=3;omega);refine .yg Z Z (.fieldAddr Z nW) Z<|.yg Z Z (.load Z bZ Hm Z) Z<|.yg Z Z (.move Z) Z<|.yg Z Z (.sub Z Z (c:=((i:Nat):Int)) ((w6 (by omega)).trans (by omega))) Z<|.gd Z Z<|.blF Z (zX _ _) Z λb50 H6 u6 m6=>.yg Z Z (.indexSl dR Z Z (i:=i) Z (by omega) (q:=i) (by omega)) Z<|.yg Z Z (.loadM Z bZ m6 (k:=i) (v:=cJ (vmW i)) (by omega) (cS2 hi2)) Z<|.yg Z Z (.neS Z Z) Z<|.fn (tl:=[_]) Z<|.yw (.pickF Z Z)<|.nt<|.ce Z (λh56=>?_) (λh56=>?_)
   ·have hbad:¬ tcB n (vmW i) q5.tl=true:=by unfold tcB;simp;intro _;exact h56
    have e1:(up n (gNn (vmW i)) q5.tl)=q5.tl.fail n 8:=by rw [aL7 K5.good (Suf.tl hq5) (NU i),aA hbad]
    refine .rg<|.mv Z<|.cs (X:=Unit) uD Z (λW s=>EE (K5.up u6.up) (Suf.tl hq5) 8 (s.p6_6 [1,0,2,3,4,5] Z)) Z λ_ _=>?_
    rw [<-e1];refine .ns<|.mv Z<|.cs (X:=Unit) dP Z (λW s=>gI (K5.up u6.up) ((Suf.nn _).up (Suf.tl hq5)) [123] (s.p6_6 [0,1,2,3,4,5] Z)) Z λ_ _=>.nt<|.sq<|.fL 6 [(0,0),(1,0),(2,0),(3,3),(4,1),(5,3)]<|.fA Z fX<|.lD Z nO oU Z<|.mv Z<|.c3 (X:=List Hd × Value × Hp) CZ Z (λW s=>CQ (K5.up u6.up) ((Suf.nd _).up ((Suf.nn _).up (Suf.tl hq5))) (BQ hts ((Suf.nd _).up ((Suf.nn _).up (Suf.tl hq5)))) (s.p6_6 [0,1,2,3,4,5] Z)) Z (λ_ _=>(.dn<|.yv (.load Z nO oU Z)<|.yv (.fieldAddr Z fX)<|.nl)) λz8 hz8=>?_
    obtain ⟨l8,v8,H8⟩:=z8;obtain ⟨hv8,u8,r8⟩:=hz8;dsimp only at hv8 u8 r8|-;have K8:=(K5.up u6.up).up u8.up;obtain ⟨p8,c8',e8',_⟩:=r8.sl;simp only [aT,bV] at e8';subst e8';refine .blF Z (vK _ _ _) Z λb72 H9 u9 m9=>.apD zS Z (λ_ _=>fU) Z (Rep.mk (n:=1) (c:=1) (ds:=[dVs .i64 l8]) m9 (.single (r8.up u9.up) Z) Z (aK _) (by decide)) (by simp only [maxLen];omega) (by omega) Z (λ_ _=>(.d3<|.nl)) λxs73 p73 c73 hz73=>.fn (tl:=[_,_]) Z<|.fA Z fX<|.st oB Z Z xX Z (nb Z) Z<|.nt<|.rg<|.mv Z<|.cs (X:=Unit) dP Z (λW s=>gI (K8.up u9.up) (Suf.vs.up ((Suf.nd _).up ((Suf.nn _).up (Suf.tl hq5)))) [125] (s.p6_6 [0,1,2,3,4,5] Z)) Z λ_ _=>?_
    have hvn:vl (gVn (vmW i)) q5.tl l8:=by unfold gVn;exact aM (n:=n) (x:=()) aU (aM (n:=n) (x:=()) aU (aM (n:=n) hv8 (aM (n:=n) (x:=()) aU (dB))))
    rw [show up n (gNd [125]) (up n gVs (up n (gNd [123]) (up n (gNn (vmW i)) q5.tl)))=up n (gVn (vmW i)) q5.tl by unfold gVn;rw [aO (x:=()) (Cz.nn _) aU,aO (x:=()) (Cz.nd _) aU,aO Cz.vs hv8,aO (x:=()) (Cz.nd _) aU,dE]];exact .nl<|.bN<|.tN<|.rg<|.mv Z<|.yw (.add Z Z w7)<|.aq Z<|.ag (x:=(i,l,k5,p5,c5,x5,H5,q5)) (i+1,l++[l8],k5+1,p73,c73,x5++xs73,H9,up n (gVn (vmW i)) q5.tl) ⟨Z,Jt⟩ ⟨Z,Z,Z,Jt⟩ (λ_ s=>(s.p6_5 [2,0,3,4,5] Z)) ⟨by show i+1<=2;omega,hJ.step (by omega) h32 hvn,(by dsimp only;simp only [aH,aD,aS];omega),(by dsimp only;rw [aD,gT];omega),u5.trans (u6.trans (u8.trans u9)),(by dsimp only;rw [<-aR,aV];exact (hz5.up (u6.trans (u8.trans u9)).up).app hz73),(Suf.vn _).up (Suf.tl hq5)⟩ (by show 2 - (i+1)<2 - i;omega)
   have hok:tcB n (vmW i) q5.tl=true:=by unfold tcB;simp;exact ⟨h0,by simpa using h56⟩
   have e1:(up n (gNn (vmW i)) q5.tl)=q5.tl.tl:=by rw [aL7 K5.good (Suf.tl hq5) (NU i),aE hok]
   obtain ⟨hp,hip⟩:=FR (Suf.tl hq5) (SH (n:=n) (by rw [hk3];decide));refine .rg<|.mv Z<|.nC Z<|.fA Z nT<|.lD Z dZ dN Z<|.yw (.add Z Z (c:=((sZ ts q5.tl.tl:Nat):Int)) ((w6 (by omega)).trans (by omega)))<|.nC Z<|.fA Z nT<|.st fG Z Z jG Z (nb Z) Z<|?_
   have eo:q5.tl.o=(up n (gNn (vmW i)) q5.tl).o:=by rw [e1];rfl
   have ee:q5.tl.e=(up n (gNn (vmW i)) q5.tl).e:=by rw [e1];rfl
   rw [<-e1,eo,ee];refine .ns<|.mv Z<|.cs (X:=Unit) dP Z (λW s=>gI (K5.up u6.up) ((Suf.nn _).up (Suf.tl hq5)) [123] (s.p6_6 [1,0,2,3,4,5] Z)) Z λ_ _=>.nt<|.sq<|.fL 6 [(0,0),(1,0),(2,0),(3,3),(4,1),(5,3)]<|.fA Z fX<|.lD Z nO oU Z<|.mv Z<|.c3 (X:=List Hd × Value × Hp) CZ Z (λW s=>CQ (K5.up u6.up) ((Suf.nd _).up ((Suf.nn _).up (Suf.tl hq5))) (BQ hts ((Suf.nd _).up ((Suf.nn _).up (Suf.tl hq5)))) (s.p6_6 [0,1,2,3,4,5] Z)) Z (λ_ _=>(.dn<|.yv (.load Z nO oU Z)<|.yv (.fieldAddr Z fX)<|.nl)) λz8 hz8=>?_
   obtain ⟨l8,v8,H8⟩:=z8;obtain ⟨hv8,u8,r8⟩:=hz8;dsimp only at hv8 u8 r8|-;have K8:=(K5.up u6.up).up u8.up;obtain ⟨p8,c8',e8',_⟩:=r8.sl;simp only [aT,bV] at e8';subst e8';refine .blF Z (vK _ _ _) Z λb72 H9 u9 m9=>.apD zS Z (λ_ _=>fU) Z (Rep.mk (n:=1) (c:=1) (ds:=[dVs .i64 l8]) m9 (.single (r8.up u9.up) Z) Z (aK _) (by decide)) (by simp only [maxLen];omega) (by omega) Z (λ_ _=>(.d3<|.nl)) λxs73 p73 c73 hz73=>.fn (tl:=[_,_]) Z<|.fA Z fX<|.st oB Z Z xX Z (nb Z) Z<|.nt<|.rg<|.mv Z<|.cs (X:=Unit) dP Z (λW s=>gI (K8.up u9.up) (Suf.vs.up ((Suf.nd _).up ((Suf.nn _).up (Suf.tl hq5)))) [125] (s.p6_6 [0,1,2,3,4,5] Z)) Z λ_ _=>?_
   have hvn:vl (gVn (vmW i)) q5.tl l8:=by unfold gVn;exact aM (n:=n) (x:=()) aU (aM (n:=n) (x:=()) aU (aM (n:=n) hv8 (aM (n:=n) (x:=()) aU (dB))))
   rw [show up n (gNd [125]) (up n gVs (up n (gNd [123]) (up n (gNn (vmW i)) q5.tl)))=up n (gVn (vmW i)) q5.tl by unfold gVn;rw [aO (x:=()) (Cz.nn _) aU,aO (x:=()) (Cz.nd _) aU,aO Cz.vs hv8,aO (x:=()) (Cz.nd _) aU,dE]];exact .nl<|.bN<|.tN<|.rg<|.mv Z<|.yw (.add Z Z w7)<|.aq Z<|.ag (x:=(i,l,k5,p5,c5,x5,H5,q5)) (i+1,l++[l8],k5+1,p73,c73,x5++xs73,H9,up n (gVn (vmW i)) q5.tl) ⟨Z,Jt⟩ ⟨Z,Z,Z,Jt⟩ (λ_ s=>(s.p6_5 [2,0,3,4,5] Z)) ⟨by show i+1<=2;omega,hJ.step (by omega) h32 hvn,(by dsimp only;simp only [aH,aD,aS];omega),(by dsimp only;rw [aD,gT];omega),u5.trans (u6.trans (u8.trans u9)),(by dsimp only;rw [<-aR,aV];exact (hz5.up (u6.trans (u8.trans u9)).up).app hz73),(Suf.vn _).up (Suf.tl hq5)⟩ (by show 2 - (i+1)<2 - i;omega)
  rw [iT h32];obtain ⟨eM,hvM⟩:=hJ.no hi2 h32;refine .ex<|.eb<|.sm Z<|.cs (X:=Unit) dP Z (λW s=>gI K5 hq5 [125] (s.p5_5 [0,1,2,3,4] Z)) Z λ_ _=>.ns<|.yw (.loadW Z CD fN Z)<|.sW QS Z Z CW (by simp [cTk,Value.oneCell',cJ]) Z<|.nt<|.rt<|?_
  refine Sx.reSt (λW s=>s.p5_4 [3,1,4,0] rfl) ?_;refine dC (ds:=lv.map (dVr .i64)) (by rw [aJ]) (hzv.up (u3.trans (u4.trans u5)).up) λH8 p8 c8 u8 e8 h8=>?_;refine dC (ds:=(l3::l).map (dVs .i64)) (by rw [aJ,aH];exact hk5.symm) (hz5.up u8.up) λH9 p9 c9 u9 e9 h9=>?_;refine y8 Z (.cell Z CD Hm rfl) λW s=>⟨(⟨nm,lv,l3::l⟩,_,H9),⟨by unfold gCp;exact aM (n:=n) hnm.1 (aM (n:=n) (x:=()) aU (aM (n:=n) hvV (aM (n:=n) (by rw [eV];exact hv3) (aM (n:=n) (by rw [eV];exact hvM) (aM (n:=n) (x:=()) aU (dB)))))),u1.trans (u3.trans (u4.trans (u5.trans (u8.trans u9)))),IU (x:=⟨nm,lv,l3::l⟩) hnm.2 (h8.up u9.up) h9⟩,Z,?_⟩;rw [show up n gCp q=up n (gNd [125]) q5 by unfold gCp;rw [aO Cz.nm hnm.1,aO (x:=()) (Cz.nd _) aU,aO (Cz.many Cz.vr) hvV,eV,aO Cz.vs hv3,aO Cz.vm hvM,eM,aO (x:=()) (Cz.nd _) aU,dE]];exact s.drop
 obtain rfl:i=2:=by omega
 obtain ⟨eM,hvM⟩:=hJ.end;refine .gG<|.gG<|.yw (.pickF Z Z)<|.nt<|.cF Z<|.ex<|.eb<|.sm Z<|.cs (X:=Unit) dP Z (λW s=>gI K5 hq5 [125] (s.p5_5 [1,0,2,3,4] Z)) Z λ_ _=>.ns<|.yw (.loadW Z CD fN Z)<|.sW QS Z Z CW (by simp [cTk,Value.oneCell',cJ]) Z<|.nt<|.rt<|?_
 refine Sx.reSt (λW s=>s.p5_4 [3,1,4,0] rfl) ?_;refine dC (ds:=lv.map (dVr .i64)) (by rw [aJ]) (hzv.up (u3.trans (u4.trans u5)).up) λH8 p8 c8 u8 e8 h8=>?_;refine dC (ds:=(l3::l).map (dVs .i64)) (by rw [aJ,aH];exact hk5.symm) (hz5.up u8.up) λH9 p9 c9 u9 e9 h9=>?_;refine y8 Z (.cell Z CD Hm rfl) λW s=>⟨(⟨nm,lv,l3::l⟩,_,H9),⟨by unfold gCp;exact aM (n:=n) hnm.1 (aM (n:=n) (x:=()) aU (aM (n:=n) hvV (aM (n:=n) (by rw [eV];exact hv3) (aM (n:=n) (by rw [eV];exact hvM) (aM (n:=n) (x:=()) aU (dB)))))),u1.trans (u3.trans (u4.trans (u5.trans (u8.trans u9)))),IU (x:=⟨nm,lv,l3::l⟩) hnm.2 (h8.up u9.up) h9⟩,Z,?_⟩;rw [show up n gCp q=up n (gNd [125]) q5 by unfold gCp;rw [aO Cz.nm hnm.1,aO (x:=()) (Cz.nd _) aU,aO (Cz.many Cz.vr) hvV,eV,aO Cz.vs hv3,aO Cz.vm hvM,eM,aO (x:=()) (Cz.nd _) aU,dE]];exact s.drop
theorem bT3:cU prg 38=true:=by kernel_rfl
theorem PK:cU prg 71=true:=by kernel_rfl
theorem bR8:cU prg 75=true:=by kernel_rfl
theorem bR7:cU prg 76=true:=by kernel_rfl
theorem bR6:cU prg 77=true:=by kernel_rfl
theorem NL  : gE prg 49 []=some [.string ⟨#[]⟩,.slice none 0 0,.slice none 0 0,.slice none 0 0]:=by kernel_rfl
theorem bS3:cU prg 59=true:=by kernel_rfl
theorem bB8:cU prg 100=true:=by kernel_rfl
theorem aS7 (x0:ByteArray):gE prg 141 [(0,.string x0)]=some [.string x0,.bool false]:=by kernel_rfl
theorem aS6 (x0:ByteArray):gE prg 142 [(0,.string x0)]=some [.string x0,.string ⟨#[]⟩,.int .i64 0]:=by kernel_rfl
theorem aR9  : gE prg 85 []=some [.string ⟨#[]⟩,.slice none 0 0,.slice none 0 0,.slice none 0 0]:=by kernel_rfl
theorem cU8 {l:List Value} (h:l.length=3):∃ a b c,l=[a,b,c]:=by match l,h with | [a,b,c],_=>exact ⟨a,b,c,Z⟩
theorem cZ5 {k:IntKind} {x:Cp} {cs:List Value} (h:Rep H (dCp k x) cs):cs.length=3:=by
 obtain ⟨p1,c1,p2,c2,rfl,_⟩:=BW h
 rfl
theorem cO9 {b:Nat} (K:Tkr H t n ts tp tc) (hq:q.r<:+ts) (hts:ts.length<=400000) (s:St H w0 (PA b t tp ts tc q::bs) W) :
 Calls prg 59 #[.pointer (some ⟨b,0,none⟩)] W λe W'=>∃ z:Ft × List Value × Hp,(vl gFt q z.1/\HUp w0 H z.2.2/\Rep z.2.2 (dFt .i64 z.1) z.2.1)/\e=.returned (.agg z.2.1.toArray)/\St z.2.2 w0 (PA b t tp ts tc ((up n gFt q).cl n)::bs) W':=by
 refine fD func59 rfl ntmps59 rfl s ?_;refine .sr<|.al zK Z λb2=>.ns<|.yw (.build Z aR9)<|.al zK Z λb3=>?_
 refine Sx.row0 146 3 ?_;refine Sx.row0 142 3 ?_;refine Sx.row0 141 2 ?_;refine .sX oB Z Z yH Z<|.ns<|.mv Z<|.cs (X:=Unit) dP Z (λW s=>gI K hq [102,108,101,101,116] (s.p6_6 [5,0,1,2,3,4] Z)) Z λ_ _=>.ns<|.mv Z<|.cs (X:=Str) lQ Z (λW s=>uJ K ((Suf.nd _).up hq)  (s.p6_6 [0,1,2,3,4,5] Z)) Z λnm hnm=>.fA Z NF<|.st QS Z Z qY Z (nb Z) Z<|.ns<|.mv Z<|.cs (X:=Unit) dP Z (λW s=>gI K (Suf.nm.up ((Suf.nd _).up hq)) [123] (s.p6_6 [0,1,2,3,4,5] Z)) Z λ_ _=>.nt<|.sq<|.bk<|.lp (X:=List Fg × Nat × Option Addr × Nat × List Value × Hp × Sg) [(0,_),(2,_),(3,_)] ⟨Z,Z,Z,Jt⟩ (_::_::_::bs) (λz=>[]) (λz=>z.2.2.2.2.2.1) (λz=>[.row 141 2 (.slice z.2.2.1 z.2.1 z.2.2.2.1) z.2.1 z.2.2.2.2.1,PA b t tp ts tc z.2.2.2.2.2.2,.box b3 [cJ nm,.slice z.2.2.1 z.2.1 z.2.2.2.1,.slice none 0 0,.slice none 0 0] 85]) (λz=>MnI n [102,108,97,103] gFg (up n (gNd [123]) (up n gNm (up n (gNd [102,108,101,101,116]) q))) z.1 z.2.2.2.2.2.2/\z.2.1=z.1.length/\HUp w0 H z.2.2.2.2.2.1/\dA z.2.2.2.2.2.1 2 (z.1.map dFg) z.2.2.2.2.1/\z.2.2.2.2.2.2.r<:+ts) (λz=>z.2.2.2.2.2.2.mu) ([],0,none,0,[],H,(up n (gNd [123]) (up n gNm (up n (gNd [102,108,101,101,116]) q)))) (λ_ s=>(s.p6_6 [1,0,4,2,3,5] Z)) trivial ⟨MnI.start,Z,.refl,dA.nil,((Suf.nd _).up (Suf.nm.up ((Suf.nd _).up hq)))⟩ λz hC=>?_
 obtain ⟨la,ka,pa,ca,xa,Ha,qa⟩:=z;obtain ⟨hIa,hka,ua,hza,hqa⟩:=hC;dsimp only at hIa hka ua hza hqa|-;have Ka:=K.up ua.up;have hlena:=hIa.len;have hmxa:Sg.mu (up n (gNd [123]) (up n gNm (up n (gNd [102,108,101,101,116]) q)))<=500000:=BQ hts ((Suf.nd _).up (Suf.nm.up ((Suf.nd _).up hq)));refine .sq<|.sm Z<|.cs (X:=Unit) gD Z (λW s=>kX Ka hqa [102,108,97,103] (s.p6_6 [1,0,2,3,4,5] Z)) Z λ_ _=>.nt<|.cd Z (λh15=>?_) (λh15=>?_)
 ·rw [iS h15];refine .sk<|.tN<|.bk<|.sm Z<|.cs (X:=Str) lQ Z (λW s=>uJ Ka (Suf.tl hqa)  (s.p6_6 [0,1,2,3,4,5] Z)) Z λnf hnf=>.yw (.build Z (aS7 _))<|.al UE Z λb4=>.sX .head Z Z UJ Z<|.ns<|.mv Z<|.cs (X:=Unit) dP Z (λW s=>gI Ka (Suf.nm.up (Suf.tl hqa)) [61] (s.p7_7 [1,0,2,3,4,5,6] Z)) Z λ_ _=>.ns<|.mv Z<|.cs (X:=Bool) ZG Z (λW s=>bD5 Ka ((Suf.nd _).up (Suf.nm.up (Suf.tl hqa)))  (s.p7_7 [0,1,2,3,4,5,6] Z)) Z λtb htb=>.fA Z KM<|.st fG Z Z aQ3 Z (nb Z) Z<|.ns<|.mv Z<|.cs (X:=Unit) dP Z (λW s=>gI Ka (Suf.tr.up ((Suf.nd _).up (Suf.nm.up (Suf.tl hqa)))) [59] (s.p7_7 [0,1,2,3,4,5,6] Z)) Z λ_ _=>?_
  have hvf:vl gFg qa.tl ⟨nf,tb⟩:=by unfold gFg;exact aM (n:=n) hnf.1 (aM (n:=n) (x:=()) aU (aM (n:=n) htb (aM (n:=n) (x:=()) aU (dB))))
  rw [show up n (gNd [59]) (up n gTr (up n (gNd [61]) (up n gNm qa.tl)))=up n gFg qa.tl by unfold gFg;rw [aO Cz.nm hnf.1,aO (x:=()) (Cz.nd _) aU,aO Cz.tr htb,aO (x:=()) (Cz.nd _) aU,dE]];refine .nt<|.rg<|.fA Z vY<|.lD Z NS oU Z<|.yw (.loadW Z aA3 dN Z)<|.bl Z (VD _ _) Z λb29=>?_
  refine dD λH2 u2 m2=>?_;refine .apD aQ6 Z (λ_ _=>fU) Z (Rep.mk (n:=1) (c:=1) (ds:=[dFg ⟨nf,tb⟩]) m2 (.single (RW (x:=⟨nf,tb⟩) hnf.2) Z) Z (aK _) (by decide)) (by simp only [maxLen];omega) (by omega) Z λxs30 r30 hz30=>?_;refine At.ra fN λp30 c30 e30=>?_;subst e30;exact .fA Z vY<|.st oB Z Z YX Z (nb Z) Z<|.nl<|.bN<|.tN<|.ag (x:=(la,ka,pa,ca,xa,Ha,qa)) (la++[⟨nf,tb⟩],ka+1,p30,c30,xa++xs30,H2,up n gFg qa.tl) trivial ⟨Z,Z,Z,Jt⟩ (λ_ s=>(s.p7_6 [2,0,3,4,5,6] Z)) ⟨(hIa.step Shs.fg.le Cz.fg h15 hvf).1,by simp [hka],ua.trans u2,by dsimp only;rw [aV];exact (hza.up u2.up).app hz30,Suf.fg.up (Suf.tl hqa)⟩ (hIa.step Shs.fg.le Cz.fg h15 hvf).2
 rw [iT h15];obtain ⟨eA,hvA⟩:=hIa.stop Shs.fg.le h15;subst hka;refine .ex<|.eb<|.sq<|.bk<|.lp (X:=List Lk × Nat × Option Addr × Nat × List Value × Hp × Sg) [(0,_),(2,_),(3,_)] ⟨Z,Z,Z,Jt⟩ (_::_::_::bs) (λz=>[]) (λz=>z.2.2.2.2.2.1) (λz=>[.row 142 3 (.slice z.2.2.1 z.2.1 z.2.2.2.1) z.2.1 z.2.2.2.2.1,PA b t tp ts tc z.2.2.2.2.2.2,.box b3 [cJ nm,.slice pa la.length ca,.slice z.2.2.1 z.2.1 z.2.2.2.1,.slice none 0 0] 85]) (λz=>MnI n [108,105,110,107] gLk qa z.1 z.2.2.2.2.2.2/\z.2.1=z.1.length/\HUp w0 Ha z.2.2.2.2.2.1/\dA z.2.2.2.2.2.1 3 (z.1.map dLk) z.2.2.2.2.1/\z.2.2.2.2.2.2.r<:+ts) (λz=>z.2.2.2.2.2.2.mu) ([],0,none,0,[],Ha,qa) (λ_ s=>(s.p6_6 [3,0,2,1,4,5] Z)) trivial ⟨MnI.start,Z,.refl,dA.nil,hqa⟩ λz hC=>?_
 obtain ⟨lb,kb,pb,cb,xb,Hb,qb⟩:=z;obtain ⟨hIb,hkb,ub,hzb,hqb⟩:=hC;dsimp only at hIb hkb ub hzb hqb|-;have Kb:=Ka.up ub.up;have hlenb:=hIb.len;have hmxb:Sg.mu qa<=500000:=BQ hts hqa;refine .sq<|.sm Z<|.cs (X:=Unit) gD Z (λW s=>kX Kb hqb [108,105,110,107] (s.p6_6 [1,0,2,3,4,5] Z)) Z λ_ _=>.nt<|.cd Z (λh33=>?_) (λh33=>?_)
 ·rw [iS h33];refine .sk<|.tN<|.bk<|.sm Z<|.cs (X:=Str) lQ Z (λW s=>uJ Kb (Suf.tl hqb)  (s.p6_6 [0,1,2,3,4,5] Z)) Z λnf hnf=>.yw (.build Z (aS6 _))<|.al UD Z λb5=>.sX .head Z Z UI Z<|.ns<|.mv Z<|.cs (X:=Unit) dP Z (λW s=>gI Kb (Suf.nm.up (Suf.tl hqb)) [45,62] (s.p7_7 [1,0,2,3,4,5,6] Z)) Z λ_ _=>.ns<|.mv Z<|.cs (X:=Str) lQ Z (λW s=>uJ Kb ((Suf.nd _).up (Suf.nm.up (Suf.tl hqb)))  (s.p7_7 [0,1,2,3,4,5,6] Z)) Z λnt hnt=>.fA Z KL<|.st fG Z Z qY Z (nb Z) Z<|.ns<|.mv Z<|.cs (X:=Unit) dP Z (λW s=>gI Kb (Suf.nm.up ((Suf.nd _).up (Suf.nm.up (Suf.tl hqb)))) [108,97,116,101,110,99,121] (s.p7_7 [0,1,2,3,4,5,6] Z)) Z λ_ _=>.ns<|.mv Z<|.cs (X:=Int64) PI Z (λW s=>SZ Kb ((Suf.nd _).up (Suf.nm.up ((Suf.nd _).up (Suf.nm.up (Suf.tl hqb)))))  (s.p7_7 [0,1,2,3,4,5,6] Z)) Z λnu hnu=>.fA Z KK<|.st fG Z Z jG Z (nb Z) Z<|.ns<|.mv Z<|.cs (X:=Unit) dP Z (λW s=>gI Kb (Suf.nu.up ((Suf.nd _).up (Suf.nm.up ((Suf.nd _).up (Suf.nm.up (Suf.tl hqb)))))) [59] (s.p7_7 [0,1,2,3,4,5,6] Z)) Z λ_ _=>?_
  have hvl:vl gLk qb.tl ⟨nf,nt,nu⟩:=by unfold gLk;exact aM (n:=n) hnf.1 (aM (n:=n) (x:=()) aU (aM (n:=n) hnt.1 (aM (n:=n) (x:=()) aU (aM (n:=n) hnu (aM (n:=n) (x:=()) aU (dB))))))
  rw [show up n (gNd [59]) (up n gNu (up n (gNd [108,97,116,101,110,99,121]) (up n gNm (up n (gNd [45,62]) (up n gNm qb.tl)))))=up n gLk qb.tl by unfold gLk;rw [aO Cz.nm hnf.1,aO (x:=()) (Cz.nd _) aU,aO Cz.nm hnt.1,aO (x:=()) (Cz.nd _) aU,aO Cz.nu hnu,aO (x:=()) (Cz.nd _) aU,dE]];refine .nt<|.rg<|.fA Z yR<|.lD Z VL oU Z<|.yw (.loadW Z aA2 dN Z)<|.bl Z (VC _ _ _) Z λb52=>?_
  refine dD λH3 u3 m3=>?_;refine .apD aQ5 Z (λ_ _=>fU) Z (Rep.mk (n:=1) (c:=1) (ds:=[dLk ⟨nf,nt,nu⟩]) m3 (.single (RQ (x:=⟨nf,nt,nu⟩) hnf.2 hnt.2) Z) Z (aK _) (by decide)) (by simp only [maxLen];omega) (by omega) Z λxs53 r53 hz53=>?_;refine At.ra fN λp53 c53 e53=>?_;subst e53;exact .fA Z yR<|.st oB Z Z YW Z (nb Z) Z<|.nl<|.bN<|.tN<|.ag (x:=(lb,kb,pb,cb,xb,Hb,qb)) (lb++[⟨nf,nt,nu⟩],kb+1,p53,c53,xb++xs53,H3,up n gLk qb.tl) trivial ⟨Z,Z,Z,Jt⟩ (λ_ s=>(s.p7_6 [2,0,3,4,5,6] Z)) ⟨(hIb.step Shs.lk.le Cz.lk h33 hvl).1,by simp [hkb],ub.trans u3,by dsimp only;rw [aV];exact (hzb.up u3.up).app hz53,Suf.lk.up (Suf.tl hqb)⟩ (hIb.step Shs.lk.le Cz.lk h33 hvl).2
 rw [iT h33];obtain ⟨eB,hvB⟩:=hIb.stop Shs.lk.le h33;subst hkb;refine .ex<|.eb<|.sq<|.bk<|.lp (X:=List Cp × Nat × Option Addr × Nat × List Value × Hp × Sg) [(0,_),(2,_),(3,_)] ⟨Z,Z,Z,Jt⟩ (_::_::_::bs) (λz=>[]) (λz=>z.2.2.2.2.2.1) (λz=>[.row 146 3 (.slice z.2.2.1 z.2.1 z.2.2.2.1) z.2.1 z.2.2.2.2.1,PA b t tp ts tc z.2.2.2.2.2.2,.box b3 [cJ nm,.slice pa la.length ca,.slice pb lb.length cb,.slice z.2.2.1 z.2.1 z.2.2.2.1] 85]) (λz=>MnI n [99,111,109,112,111,110,101,110,116] gCp qb z.1 z.2.2.2.2.2.2/\z.2.1=z.1.length/\HUp w0 Hb z.2.2.2.2.2.1/\dA z.2.2.2.2.2.1 3 (z.1.map (dCp .i64)) z.2.2.2.2.1/\z.2.2.2.2.2.2.r<:+ts) (λz=>z.2.2.2.2.2.2.mu) ([],0,none,0,[],Hb,qb) (λ_ s=>(s.p6_6 [4,0,2,1,3,5] Z)) trivial ⟨MnI.start,Z,.refl,dA.nil,hqb⟩ λz hC=>?_
 obtain ⟨ld,kd,pd,cd,xd,Hd,qd⟩:=z;obtain ⟨hId,hkd,ud,hzd,hqd⟩:=hC;dsimp only at hId hkd ud hzd hqd|-;have Kd:=Kb.up ud.up;have hlend:=hId.len;have hmxd:Sg.mu qb<=500000:=BQ hts hqb;refine .sq<|.sm Z<|.cs (X:=Unit) gD Z (λW s=>kX Kd hqd [99,111,109,112,111,110,101,110,116] (s.p6_6 [1,0,2,3,4,5] Z)) Z λ_ _=>.nt<|.cd Z (λh56=>?_) (λh56=>?_)
 ·rw [iS h56];refine .sk<|.tN<|.bk<|.fL 6 [(0,0),(1,0),(2,0),(3,3),(4,1),(5,3)]<|.fA Z vX<|.lD Z NR fN Z<|.mv Z<|.c3 (X:=Cp × List Value × Hp) bB8 Z (λW s=>aP2 Kd (Suf.tl hqd) hts (s.p6_6 [0,1,2,3,4,5] Z)) Z (λ_ _=>(.dn<|.yv (.load Z NR fN Z)<|.yv (.fieldAddr Z vX)<|.nl)) λz60 hz60=>?_
  obtain ⟨a60,c60,H60⟩:=z60;obtain ⟨hv60,u60,r60⟩:=hz60;dsimp only at hv60 u60 r60|-;obtain ⟨x1,x2,x3,rfl⟩:=cU8 (cZ5 r60);exact .blF Z (VB _ _ _) Z λb61 H4 u4 m4=>.apD aQ4 Z (λ_ _=>fG) Z (Rep.mk (n:=1) (c:=1) (ds:=[dCp .i64 a60]) m4 (.single (r60.up u4.up) Z) Z (aK _) (by decide)) (by simp only [maxLen];omega) (by omega) Z (λ_ _=>(.d3<|.nl)) λxs62 p62 c62 hz62=>.fn (tl:=[_,_]) Z<|.fA Z vX<|.st fU Z Z YV Z (nb Z) Z<|.nl<|.bN<|.tN<|.ag (x:=(ld,kd,pd,cd,xd,Hd,qd)) (ld++[a60],kd+1,p62,c62,xd++xs62,H4,up n gCp qd.tl) trivial ⟨Z,Z,Z,Jt⟩ (λ_ s=>(s.p6_6 [1,0,2,3,4,5] Z)) ⟨(hId.step Shs.cp.le Cz.cp h56 hv60).1,by simp [hkd],ud.trans (u60.trans u4),by dsimp only;rw [aV];exact (hzd.up (u60.trans u4).up).app hz62,Suf.cp.up (Suf.tl hqd)⟩ (hId.step Shs.cp.le Cz.cp h56 hv60).2
 rw [iT h56];obtain ⟨eD,hvD⟩:=hId.stop Shs.cp.le h56;subst hkd;refine .ex<|.eb<|.sm Z<|.cs (X:=Unit) dP Z (λW s=>gI Kd hqd [125] (s.p6_6 [0,1,2,3,4,5] Z)) Z λ_ _=>.ns<|.mv Z<|.cs (X:=Unit) bT8 Z (λW s=>dD9 Kd ((Suf.nd _).up hqd)  (s.p6_6 [0,1,2,3,4,5] Z)) Z λ_ _=>.ns<|.yw (.loadW Z AY fN Z)<|.sX aH7 Z Z yH Z<|.nt<|.rt<|?_
 refine Sx.reSt (λW s=>s.p6_5 [4,3,1,5,0] rfl) ?_;refine dC (ds:=la.map dFg) (by rw [aJ]) (hza.up (ub.trans ud).up) λH5 p5 c5 u5 e5 h5=>?_;refine dC (ds:=lb.map dLk) (by rw [aJ]) (hzb.up (ud.trans u5).up) λH6 p6 c6 u6 e6 h6=>?_;refine dC (ds:=ld.map (dCp .i64)) (by rw [aJ]) (hzd.up (u5.trans u6).up) λH7 p7 c7 u7 e7 h7=>?_;refine y8 Z (.cell Z AY Hm rfl) λW s=>⟨(⟨nm,la,lb,ld⟩,_,H7),⟨aM (n:=n) (x:=()) aU (aM (n:=n) hnm.1 (aM (n:=n) (x:=()) aU (aM (n:=n) hvA (aM (n:=n) (by rw [eA];exact hvB) (aM (n:=n) (by rw [eA,eB];exact hvD) (aM (n:=n) (x:=()) aU dB)))))),ua.trans (ub.trans (ud.trans (u5.trans (u6.trans u7)))),MV (x:=⟨nm,la,lb,ld⟩) hnm.2 (h5.up (u6.trans u7).up) (h6.up u7.up) h7⟩,Z,?_⟩;rw [show up n gFt q=up n (gNd [125]) qd by unfold gFt;rw [aO (x:=()) (Cz.nd _) aU,aO Cz.nm hnm.1,aO (x:=()) (Cz.nd _) aU,aO (Cz.many Cz.fg) hvA,eA,aO (Cz.many Cz.lk) hvB,eB,aO (Cz.many Cz.cp) hvD,eD,aO (x:=()) (Cz.nd _) aU,dE]];exact s.drop
theorem bY7 (t:Str):(sg0 t).r.length<=400000:=by
 unfold sg0
 split
 ·simp
 ·have:=CN t;show (sE t).length<=400000;omega
theorem IS {k:IntKind} {x:Ft} {cs:List Value} (h:Rep H (dFt k x) cs):∃ a b c,cs=[cJ x.nm,a,b,c]:=by
 obtain ⟨p1,c1,p2,c2,p3,c3,rfl,_⟩:=AC h;exact ⟨_,_,_,Z⟩
def rfO (t:Str):Nat:=if (sgZ gFt t).e=0 then 0 else (sgZ gFt t).o
def rfR (t:Str) (cs:List Value):List Value:=if (sgZ gFt t).e=0 then cs else [.string ⟨#[]⟩,.slice none 0 0,.slice none 0 0,.slice none 0 0]
theorem bM0 (t:Str) (ht:t.length<=9223372036854775807) (s:St H w0 bs W) :
 Calls prg 33 #[cJ t] W λe W'=>∃ z:Ft × List Value × Hp,(vl gFt (sg0 t) z.1/\HUp w0 H z.2.2/\Rep z.2.2 (dFt .i64 z.1) z.2.1)/\e=.returned (.tuple #[.agg (rfR t z.2.1).toArray,iN (rfO t),iN ((sgZ gFt t).e)])/\St z.2.2 w0 bs W':=by
 refine fD func33 rfl ntmps33 rfl s ?_;refine .sr<|.al zK Z λb2=>.a Z Z<|.a Z Z<|.ns<|.mv Z<|.cs (X:=Nat × Hp × Option Addr × Nat) bT9 Z (λW s=>cX5 t ht s) Z λz0 hz0=>?_
 obtain ⟨b,H0,tp,tc⟩:=z0;obtain ⟨K0,u0⟩:=hz0;dsimp only at K0 u0|-;refine .a Z Z<|.ns<|.mv Z<|.cs (X:=Ft × List Value × Hp) bS3 Z (λW s=>cO9 K0 (dI _) (bY7 t) (s.p2_2 [0,1] Z)) Z λz1 hz1=>?_
 obtain ⟨a1,c1,H1⟩:=z1;obtain ⟨hv1,u1,r1⟩:=hz1;dsimp only at hv1 u1 r1|-;obtain ⟨x1,x2,x3,rfl⟩:=IS r1;have u2:=u0.trans u1;refine .al zK Z λb6=>.sW .head Z Z yH (Rep.one r1) Z<|.nt<|.sq<|.sm Z<|.nC Z<|.fA Z lT<|.lD Z dZ dN Z<|.yw (.neq Z Z)<|.nt<|.ce Z (λh15=>?_) (λh15=>?_)
 ·have hZ:¬ (sgZ gFt t).e=0:=by unfold sgZ;omega
  refine .sq<|.fL 11 [(0,0),(1,0),(2,0),(3,0),(4,0),(5,0),(6,0),(7,0),(8,0),(9,3),(10,0)]<|.yw (.build Z aR9)<|.mv Z<|.nC Z<|.fA Z GC<|.lD Z dZ dN Z<|.mv Z<|.nC Z<|.fA Z lT<|.lD Z dZ dN Z<|.sW fU Z Z yH (by simp [Value.oneCell']) Z ((.yv (.load Z dZ dN Z)<|.yv (.fieldAddr Z lT)<|.yv (.nilCheck Z)<|.yv (.move Z)<|.yv (.load Z dZ dN Z)<|.yv (.fieldAddr Z GC)<|.yv (.nilCheck Z)<|.yv (.move Z)<|.dn<|.nl))<|.a Z Z<|.fn (tl:=[_]) Z<|.az Z<|.tR<|?_
  refine y7 Z (.cons (.cell Z AY fN rfl) (.cons (.tmp Z) (.cons (.tmp Z) .nil))) rfl λW s=>⟨(a1,[cJ a1.nm,x1,x2,x3],H1),⟨hv1,u2,r1⟩,?_,s.p3_0 [] rfl⟩;unfold rfR rfO;simp only [hZ,aL]
  rfl
 have hZ:(sgZ gFt t).e=0:=by unfold sgZ;omega
 refine .sk<|.tN<|.sr<|.yw (.loadW Z AY Hm Z)<|.sW fU Z Z yH (Rep.one r1) Z<|.a Z Z<|.az Z<|?_
 refine y7 Z (.cons (.cell Z AY fN rfl) (.cons (.tmp Z) (.cons (.tmp Z) .nil))) rfl λW s=>⟨(a1,[cJ a1.nm,x1,x2,x3],H1),⟨hv1,u2,r1⟩,?_,s.p3_0 [] rfl⟩;unfold rfR rfO;simp only [hZ,aN]
 rfl
theorem cE6 {b:Nat} (K:Tkm H ts tp tc) (hq:q.r<:+ts) (hmu:q.mu<=1000000) (hcp:(up n (jV [108,105,110,107] gLk) (up n (jV [102,108,97,103] gFg) (up n (gNd [123]) (up n gNm (up n (gNd [102,108,101,101,116]) q))))).e=0->∀ {t0 t1 t2:Value},YT 77 gCp (dCp .u8) 110 3 (λ_=>t0) (λ_=>t1) (λ_=>t2) (λv=>v) b n ts tp tc) (s:St H w0 (.box b [.slice tp ts.length tc,iN (sZ ts q),iN n,.string ⟨#[]⟩,.slice none 0 0,.slice none 0 0,.slice none 0 0,iN q.o,iN q.e] 99::bs) W) :
 Calls prg 38 #[.pointer (some ⟨b,0,none⟩)] W λe W'=>∃ z:Ft × (Value × Value × Value × Value) × Hp,(vl gFt q z.1/\HUp w0 H z.2.2/\Rep z.2.2 (dFt .u8 z.1) [z.2.1.1,z.2.1.2.1,z.2.1.2.2.1,z.2.1.2.2.2])/\e=.returned (.tuple #[])/\St z.2.2 w0 (.box b [.slice tp ts.length tc,iN (sZ ts (up n gFt q)),iN n,z.2.1.1,z.2.1.2.1,z.2.1.2.2.1,z.2.1.2.2.2,iN ((up n gFt q).o),iN ((up n gFt q).e)] 99::bs) W':=by
 refine fD func38 rfl ntmps38 rfl s ?_;refine .sr<|.bx Z Z Z λb1=>?_
 refine dD λH1 u1 m1=>?_;have K1:=K.up u1.up;refine .ns<|.yw (.mkF Z Z)<|.a Z Z<|.ns<|.yw (.loadM Z fE m1 (k:=0) Z Z)<|.cs (X:=Unit) eK Z (λW s=>eN K1 hq [102,108,101,101,116] (by decide +kernel) (s.p1_1 [0] Z)) Z λ_ _=>.nt<|.sq<|.fL 6 [(0,0),(1,0),(2,3),(3,0),(4,0),(5,0)]<|.yw (.loadM Z fE m1 (k:=0) Z Z)<|.yw (.loadM Z fE m1 (k:=0) Z Z)<|.c3 (X:=Str) nE Z (λW s=>rX K1 ((Suf.nd _).up hq)  (s.p1_1 [0] Z)) Z (λ_ _=>(.dn<|.yv (.loadM Z fE m1 (k:=0) Z Z)<|.nl)) λnm hnm=>.nC Z<|.fA Z mY<|.fA Z yS<|.fn (tl:=[_]) Z<|.st .head Z Z qY Z (nb Z) Z<|.ns<|.yw (.loadM Z fE m1 (k:=0) Z Z)<|.cs (X:=Unit) eK Z (λW s=>eN K1 (Suf.nm.up ((Suf.nd _).up hq)) [123] (by decide +kernel) (s.p1_1 [0] Z)) Z λ_ _=>?_
 have hq3:(up n (gNd [123]) (up n gNm (up n (gNd [102,108,101,101,116]) q))).r<:+ts:=(Suf.nd _).up (Suf.nm.up ((Suf.nd _).up hq));have hm3:(up n (gNd [123]) (up n gNm (up n (gNd [102,108,101,101,116]) q))).mu<=1000000:=cN (jE (Shs.nd _).le (Cz.nd _)) (cN (jE Shs.nm.le Cz.nm) (cN (jE (Shs.nd _).le (Cz.nd _)) hmu));refine Sx.row0 110 3 ?_;refine Sx.row0 105 3 ?_;refine Sx.row0 102 2 ?_;refine .ns<|.mv Z<|.yw (.loadM Z fE m1 (k:=0) Z Z)<|.yw (.mkF Z Z)<|.sv (X:=List Fg × Value × List Value × Hp) (fi:=[]) (ca:=[.pointer (some ⟨b1,0,none⟩)]) Z PK Z (λW s=>aD0 K1 hq3 hm3 75 bR8 [102,108,97,103] (by decide +kernel) gFg dFg 102 2 Shs.fg.le Cz.fg Suf.fg (λ_=>cP4) b1 m1 _ (s.p4_4 [0,3,1,2] Z)) Z λz2 hz2=>?_
 obtain ⟨fs,v1,xs1,H2⟩:=z2;obtain ⟨hv1,u2,hz1,_⟩:=hz2;dsimp only at hv1 u2 hz1|-;have K2:=K1.up u2.up;have hq4:(up n (jV [102,108,97,103] gFg) (up n (gNd [123]) (up n gNm (up n (gNd [102,108,101,101,116]) q)))).r<:+ts:=(Suf.many Suf.fg).up hq3;have hm4:(up n (jV [102,108,97,103] gFg) (up n (gNd [123]) (up n gNm (up n (gNd [102,108,101,101,116]) q)))).mu<=1000000:=cN (jE (Shr.many Shs.fg.le) (Cz.many Cz.fg)) hm3;refine .ns<|.mv Z<|.yw (.loadM Z fE (m1.up u2.up) (k:=0) Z Z)<|.yw (.mkF Z Z)<|.sv (X:=List Lk × Value × List Value × Hp) (fi:=[]) (ca:=[.pointer (some ⟨b1,0,none⟩)]) Z PK Z (λW s=>aD0 K2 hq4 hm4 76 bR7 [108,105,110,107] (by decide +kernel) gLk dLk 105 3 Shs.lk.le Cz.lk Suf.lk (λ_=>cN8) b1 (m1.up u2.up) _ (s.p4_4 [2,1,0,3] Z)) Z λz2 hz2=>?_
 obtain ⟨ls,v2,xs2,H3⟩:=z2;obtain ⟨hv2,u3,hz2,_⟩:=hz2;dsimp only at hv2 u3 hz2|-;have K3:=K2.up u3.up;have hq5:(up n (jV [108,105,110,107] gLk) (up n (jV [102,108,97,103] gFg) (up n (gNd [123]) (up n gNm (up n (gNd [102,108,101,101,116]) q))))).r<:+ts:=(Suf.many Suf.lk).up hq4;have hm5:(up n (jV [108,105,110,107] gLk) (up n (jV [102,108,97,103] gFg) (up n (gNd [123]) (up n gNm (up n (gNd [102,108,101,101,116]) q))))).mu<=1000000:=cN (jE (Shr.many Shs.lk.le) (Cz.many Cz.lk)) hm4;refine .ns<|.mv Z<|.yw (.loadM Z fE (m1.up (u2.trans u3).up) (k:=0) Z Z)<|.yw (.mkF Z Z)<|.sv (X:=List Cp × Value × List Value × Hp) (fi:=[]) (ca:=[.pointer (some ⟨b1,0,none⟩)]) Z PK Z (λW s=>aD0 K3 hq5 hm5 77 bR6 [99,111,109,112,111,110,101,110,116] (by decide +kernel) gCp (dCp .u8) 110 3 Shs.cp.le Cz.cp Suf.cp (λh=>hcp h) b1 (m1.up (u2.trans u3).up) _ (s.p4_4 [3,1,0,2] Z)) Z λz2 hz2=>?_
 obtain ⟨cs,v3,xs3,H4⟩:=z2;obtain ⟨hv3,u4,hz3,_⟩:=hz2;dsimp only at hv3 u4 hz3|-;have K4:=K3.up u4.up;have hq6:(up n (jV [99,111,109,112,111,110,101,110,116] gCp) (up n (jV [108,105,110,107] gLk) (up n (jV [102,108,97,103] gFg) (up n (gNd [123]) (up n gNm (up n (gNd [102,108,101,101,116]) q)))))).r<:+ts:=(Suf.many Suf.cp).up hq5;refine .nt<|.rg<|.yw (.loadM Z fE (m1.up (u2.trans (u3.trans u4)).up) (k:=0) Z Z)<|.cs (X:=Unit) eK Z (λW s=>eN K4 hq6 [125] (by decide +kernel) (s.p4_4 [1,0,2,3] Z)) Z λ_ _=>.nl<|?_
 refine Sx.reSt (λW s=>s.p4_4 [3,2,1,0] rfl) ?_;refine dC (ds:=fs.map dFg) (by simp) (hz1.up (u3.trans u4).up) λH5 p5 c5 u5 e5 h5=>?_;refine dC (ds:=ls.map dLk) (by simp) (hz2.up (u4.trans u5).up) λH6 p6 c6 u6 e6 h6=>?_;refine dC (ds:=cs.map (dCp .u8)) (by simp) (hz3.up (u5.trans u6).up) λH7 p7 c7 u7 e7 h7=>?_;refine pK (.inr Z) rfl .nil rfl λW s=>⟨(⟨nm,fs,ls,cs⟩,(cJ nm,v1,v2,v3),H7),⟨aM (n:=n) (x:=()) aU (aM (n:=n) hnm.1 (aM (n:=n) (x:=()) aU (aM (n:=n) hv1 (aM (n:=n) hv2 (aM (n:=n) hv3 (aM (n:=n) (x:=()) aU dB)))))),u1.trans (u2.trans (u3.trans (u4.trans (u5.trans (u6.trans u7))))),MV (x:=⟨nm,fs,ls,cs⟩) hnm.2 (h5.up (u6.trans u7).up) (h6.up u7.up) h7⟩,Z,?_⟩;rw [show up n gFt q=(up n (gNd [125]) (up n (jV [99,111,109,112,111,110,101,110,116] gCp) (up n (jV [108,105,110,107] gLk) (up n (jV [102,108,97,103] gFg) (up n (gNd [123]) (up n gNm (up n (gNd [102,108,101,101,116]) q))))))) by unfold gFt;rw [aO (x:=()) (Cz.nd _) aU,aO Cz.nm hnm.1,aO (x:=()) (Cz.nd _) aU,aO (Cz.many Cz.fg) hv1,aO (Cz.many Cz.lk) hv2,aO (Cz.many Cz.cp) hv3,aO (x:=()) (Cz.nd _) aU,dE]];exact s
theorem cV5 (t:Str):(sg0 t).mu<=1000000:=by
 unfold sg0
 split
 ·rw [Sg.mu_er (by decide)];omega
 ·have:=CN t;unfold Sg.mu;simp only [aN];omega
def pzE (t:Str) (x:Ft):Nat:=if (sgZ gFt t).e=0 then kA x else (sgZ gFt t).e
def pzO (t:Str) (x:Ft):Nat:=if (sgZ gFt t).e=0/\kA x=0 then 0 else (sgZ gFt t).o
def pzR (t:Str) (x:Ft) (cs:List Value):List Value:=if (sgZ gFt t).e=0/\kA x=0 then cs else [.string ⟨#[]⟩,.slice none 0 0,.slice none 0 0,.slice none 0 0]
theorem aK6 (G:Gl H) (t:Str) (ht:t.length<=9223372036854775807) (hok:∀ f,vl gFt (sg0 t) f->(sgZ gFt t).e=0->evH okH f=true)
 (hcp:(up t.length (jV [108,105,110,107] gLk) (up t.length (jV [102,108,97,103] gFg) (up t.length (gNd [123]) (up t.length gNm (up t.length (gNd [102,108,101,101,116]) (sg0 t)))))).e=0->∀ {b:Nat} {tp:Option Addr} {tc:Nat} {t0 t1 t2:Value},YT 77 gCp (dCp .u8) 110 3 (λ_=>t0) (λ_=>t1) (λ_=>t2) (λv=>v) b t.length (sg0 t).r tp tc) (s:St H w0 bs W) :
 Calls prg 19 #[cJ t] W λe W'=>∃ z:Ft × List Value × Hp,(vl gFt (sg0 t) z.1/\HUp w0 H z.2.2/\Rep z.2.2 (dFt .u8 z.1) z.2.1)/\e=.returned (.tuple #[.agg (pzR t z.1 z.2.1).toArray,iN (pzO t z.1),iN (pzE t z.1)])/\St z.2.2 w0 bs W':=by
 refine fD func19 rfl ntmps19 rfl s ?_;refine .sr<|.al vW Z λb2=>.a Z Z<|.a Z Z<|.ns<|.mv Z<|.cs (X:=Nat × Hp × Option Addr × Nat) ZV Z (λW s=>bE9 G t ht s) Z λz0 hz0=>?_
 obtain ⟨b,H0,tp,tc⟩:=z0;obtain ⟨K0,u0⟩:=hz0;dsimp only at K0 u0|-;refine .a Z Z<|.ns<|.mv Z<|.cs (X:=Ft × (Value × Value × Value × Value) × Hp) bT3 Z (λW s=>cE6 K0 (dI _) (cV5 t) (λh=>hcp h) (s.p2_2 [0,1] Z)) Z λz1 hz1=>?_
 obtain ⟨a1,⟨x1,x2,x3,x4⟩,H1⟩:=z1;obtain ⟨hv1,u1,r1⟩:=hz1;dsimp only at hv1 u1 r1|-;have K1:=K0.up u1.up;have u2:=u0.trans u1;refine .ns<|.mv Z<|.cs (X:=Unit) ZU Z (λW s=>aP3 K1 (Suf.ft.up (dI _))  (s.p2_2 [0,1] Z)) Z λ_ _=>.mv Z<|.yw (.extract Z Z)<|.yw (.extract Z Z)<|.a Z Z<|.aq Z<|.sq<|.sm Z<|.yw (.eql Z Z)<|.nt<|.ce Z (λh18=>?_) (λh18=>?_)
 ·have hZ:(sgZ gFt t).e=0:=by unfold sgZ;omega
  refine .rg<|.mv Z<|.nC Z<|.fA Z mY<|.yw (.loadS (vs:=[_,_,_,_]) Z lJ Hm Z (dA8 Z))<|.yw (.call PM Z (λW s=>OT H1 (G.up u2.up) a1 _ r1 (hok a1 hv1 hZ) W s.agr))<|.aq Z<|.sq<|.sm Z<|.yw (.neq Z Z)<|.nt<|.cd Z (λh25=>?_) (λh25=>?_)
  ·try simp only [dt] at h25
   have hck:¬ kA a1=0:=by omega
   refine .sr<|.yw (.build Z NL)<|.mv Z<|.mv Z<|.sW fG Z Z sJ (by simp [Value.oneCell']) Z<|.a Z Z<|.az Z<|.tR<|?_
   refine y7 Z (.cons (.cell Z lJ dN rfl) (.cons (.tmp Z) (.cons (.tmp Z) .nil))) rfl λW s=>⟨(a1,[x1,x2,x3,x4],H1),⟨hv1,u2,r1⟩,?_,s.p2_0 [] rfl⟩;unfold pzR pzO pzE;simp only [hZ,hck,aN,aL]
   rfl
  try simp only [df] at h25
  have hck:kA a1=0:=by omega
  refine .sk<|.tN<|.sm Z<|.nC Z<|.fA Z mY<|.yw (.loadS (vs:=[_,_,_,_]) Z lJ Hm Z (dA8 Z))<|.sW fG Z Z sJ (Rep.one r1) Z<|.a Z Z<|.az Z<|?_
  refine y7 Z (.cons (.cell Z lJ dN rfl) (.cons (.tmp Z) (.cons (.tmp Z) .nil))) rfl λW s=>⟨(a1,[x1,x2,x3,x4],H1),⟨hv1,u2,r1⟩,?_,s.p2_0 [] rfl⟩;unfold pzR pzO pzE;simp only [hZ,hck,aN]
  rfl
 have hZ:¬ (sgZ gFt t).e=0:=by unfold sgZ;omega
 refine .sk<|.tN<|.sq<|.sm Z<|.yw (.neq Z Z)<|.nt<|.cd Z (λh25=>?_) (λh25=>?_)
 ·refine .sr<|.yw (.build Z NL)<|.mv Z<|.mv Z<|.sW fG Z Z sJ (by simp [Value.oneCell']) Z<|.a Z Z<|.az Z<|.tR<|?_
  refine y7 Z (.cons (.cell Z lJ dN rfl) (.cons (.tmp Z) (.cons (.tmp Z) .nil))) rfl λW s=>⟨(a1,[x1,x2,x3,x4],H1),⟨hv1,u2,r1⟩,?_,s.p2_0 [] rfl⟩;unfold pzR pzO pzE;simp only [hZ,aL]
  rfl
 exact absurd (show (sgZ gFt t).e=0 by unfold sgZ;have:=kT.1 (cY h25);omega) hZ
section
variable {α β:Type}
def Ge (N k:Nat) (p:Pz α) (m:α->Nat) (ok:α->Prop):Prop:=∀ r a r',r.length<=N->p r=.ok a r'->m a+r'.length<=r.length+k/\ok a
variable {N k:Nat} {p q:Pz α} {m:α->Nat} {ok:α->Prop}
theorem Ge.bind {g:Pz β} {f:β->Pz α} {m1:β->Nat} {ok1:β->Prop} (h:Ge N 0 g m1 ok1) (h2:∀ a,ok1 a->Ge N (k+m1 a) (f a) m ok):Ge N k (cK g f) m ok:=λr b r' hr e=>by
 obtain ⟨a,q,e1,e2⟩:=Rs.bind_ok e;obtain ⟨h3,h4⟩:=h r a q hr e1;obtain ⟨h5,h6⟩:=h2 a h4 q b r' (by omega) e2;exact ⟨by omega,h6⟩
theorem Ge.pure {a:α} (h1:m a<=k) (h2:ok a):Ge N k (eR a) m ok:=λr b r' _ e=>by
 injection e with e1 e2
 subst e1 e2;exact ⟨by omega,h2⟩
theorem Ge.alt {w:Str} (h:Ge N (k+1) p m ok) (h2:Ge N k q m ok):Ge N k (jH w p q) m ok:=λr b r' hr e=>by
 unfold jH at e
 split at e
 ·rename_i ht;have h3:=nJ ht;obtain ⟨h5,h6⟩:=h r.tail b r' (by omega) e;exact ⟨by omega,h6⟩
 ·exact h2 r b r' hr e
theorem Ge.nd (w:Str):Ge N 0 (gNd w) (λ_=>1) (λ_=>True):=λr b r' hr e=>by
 unfold gNd at e
 split at e
 ·rename_i ht;have h3:=nJ ht;injection e with _ e
  subst e;exact ⟨by dsimp only;omega,Jt⟩
 ·cases e
theorem Ge.nn (w:Str):Ge N 0 (gNn w) (λ_=>0) (λ_=>True):=λr b r' hr e=>by
 have:=(Suf.nn w r).1 b r' e;exact ⟨by have:=this.length_le;dsimp only;omega,Jt⟩
theorem Ge.nm:Ge N 0 gNm (λ_=>1) (λ_=>True):=λr b r' hr e=>by
 unfold gNm at e
 split at e
 ·cases e
 ·split at e
  ·injection e with _ e
   subst e;exact ⟨by simp;omega,Jt⟩
  ·cases e
theorem Ge.any (h:Suf p):Ge N 0 p (λ_=>0) (λ_=>True):=λr b r' hr e=>⟨by have:=((h r).1 b r' e).length_le;dsimp only;omega,Jt⟩
theorem Ge.manyF {w:Str} (h:Ge N 0 p (λ_=>0) ok):∀ f,Ge N 0 (wK w p f) (λ_=>0) (λl=>∀ x∈l,ok x)
 | 0=>λr b r' hr e=>by unfold wK at e;cases e
 | f+1=>.alt (.bind (λr b r' hr e=>h r b r' hr e) λa ha=>.bind (Ge.manyF h f) λl hl=>.pure (cM _) λx hx=>by
  rcases bJ.1 hx with rfl | hx
  ·exact ha
  ·exact hl x hx) (.pure (cM _) λx hx=>by cases hx)
theorem Ge.many {w:Str} (h:Ge N 0 p (λ_=>0) ok):Ge N 0 (jV w p) (λ_=>0) (λl=>∀ x∈l,ok x):=λr b r' hr e=>Ge.manyF h _ r b r' hr e
theorem Ge.list (h:Ge N 0 p (λ_=>0) ok):Ge N 0 (jN p) (λ_=>0) (λl=>∀ x∈l,ok x) :=
 .bind (Ge.nd _) λ_ _=>.alt (.pure (cM _) λx hx=>by cases hx) (.bind h λa ha=>.bind (Ge.many h) λl hl=>.bind (Ge.nd _) λ_ _=>.pure (cM _) λx hx=>by
  rcases bJ.1 hx with rfl | hx
  ·exact ha
  ·exact hl x hx)
end
def dpE (N:Nat) (x:Ex):Prop:=x.depth<=N
variable {N:Nat}
theorem Ge.ex:Ge N 0 gEx (λ_=>0) (dpE N):=λr a r' hr e=>by
 have:=TI (lv:=0) e;exact ⟨by dsimp only;omega,by unfold dpE;omega⟩
def gdL (l:List Sm):Prop:=Sm.alls SW l=true
def gdS (s:Sm):Prop:=Sm.all SW s=true
theorem EB (hN:N<=1000000) {kd:UInt8} {nm hd:Str} {ex:List Ex} {th el:List Sm} (h:∀ x∈ex,dpE N x) (h1:gdL th) (h2:gdL el):gdS (.mk kd nm hd ex th el):=by
 unfold gdS;rw [oM]
 have:SW (.mk kd nm hd ex th el)=true:=by
  unfold SW;rw [aP];intro x hx;have:=h x hx;unfold dpE at this;exact dU (by omega)
 rw [this,h1,h2]
 rfl
section
variable {N:Nat} {b:Pz (List Sm)}
theorem Ge.blk {b:Pz (List Sm)} (h:Ge N 0 b Sm.counts gdL):Ge N 0 (qP b) Sm.counts gdL :=
 .bind (Ge.nd _) λ_ _=>.bind h λl hl=>.bind (Ge.nd _) λ_ _=>.pure (by omega) hl
theorem qM:gdL []:=by unfold gdL;rfl
theorem Ge.els (h:Ge N 0 b Sm.counts gdL):Ge N 0 (FS b) Sm.counts gdL:=.alt (λr a r' hr e=>by have:=Ge.blk h r a r' hr e;exact ⟨by omega,this.2⟩) (.pure (cM _) qM)
theorem Ge.oth (h:Ge N 0 b Sm.counts gdL):Ge N 0 (vD b) Sm.counts gdL:=.alt (λr a r' hr e=>by have:=Ge.blk h r a r' hr e;exact ⟨by omega,this.2⟩) (.bind (Ge.nd _) λ_ _=>.pure (cM _) qM)
theorem MI {N:Nat} {e:Ex} (h:dpE N e):∀ x∈[e],dpE N x:=λx hx=>by rw [dQ.1 hx];exact h
theorem bD4 {N:Nat} {e f:Ex} (h:dpE N e) (k:dpE N f):∀ x∈[e,f],dpE N x:=λx hx=>by
 rcases bJ.1 hx with rfl | hx
 ·exact h
 ·rw [dQ.1 hx];exact k
theorem cX0 {N:Nat}:∀ x∈([]:List Ex),dpE N x:=λx hx=>by cases hx
theorem Ge.st (hN:N<=1000000) (h:Ge N 0 b Sm.counts gdL):Ge N 0 (gSt b) Sm.count gdS :=
 .alt (.bind Ge.ex λe he=>.bind (Ge.blk h) λt ht=>.bind (Ge.els h) λl hl=>.pure (by rw [iG];omega) (EB hN (MI he) ht hl))<|.alt (.bind Ge.ex λe he=>.bind (Ge.blk h) λt ht=>.pure (by rw [iG];simp [Sm.counts];omega) (EB hN (MI he) ht qM))<|.alt (.bind Ge.ex λe he=>.bind (Ge.nd _) λ_ _=>.bind Ge.ex λf hf=>.bind (Ge.oth h) λl hl=>.pure (by rw [iG];simp [Sm.counts];omega) (EB hN (bD4 he hf) qM hl))<|.alt (.bind Ge.nm λn _=>.bind (Ge.nd _) λ_ _=>.bind Ge.ex λf hf=>.bind (Ge.oth h) λl hl=>.pure (by rw [iG];simp [Sm.counts];omega) (EB hN (MI hf) qM hl))<|.alt (.bind Ge.nm λn _=>.bind (Ge.nd _) λ_ _=>.bind Ge.nm λg _=>.bind (Ge.list Ge.ex) λl hl=>.bind (Ge.nd _) λ_ _=>.pure (by rw [iG];simp [Sm.counts]) (EB hN hl qM qM))<|.alt (.bind Ge.ex λe he=>.bind (Ge.nd _) λ_ _=>.bind Ge.nm λg _=>.bind (Ge.list Ge.ex) λl hl=>.bind (Ge.nd _) λ_ _=>.pure (by rw [iG];simp [Sm.counts]) (EB hN (λx hx=>by
  rcases bJ.1 hx with rfl | hx
  ·exact he
  ·exact hl x hx) qM qM))<|.alt (.bind (Ge.nd _) λ_ _=>.pure (by rw [iG];simp [Sm.counts]) (EB hN cX0 qM qM))<|.alt (.bind Ge.nm λn _=>.bind (Ge.nd _) λ_ _=>.bind Ge.ex λe he=>.bind (Ge.nd _) λ_ _=>.bind (Ge.nd _) λ_ _=>.pure (by rw [iG];simp [Sm.counts]) (EB hN (MI he) qM qM))<|.bind Ge.nm λn _=>.alt (.bind Ge.ex λe he=>.bind (Ge.nd _) λ_ _=>.bind (Ge.nd _) λ_ _=>.bind Ge.ex λf hf=>.bind (Ge.nd _) λ_ _=>.pure (by rw [iG];simp [Sm.counts]) (EB hN (bD4 he hf) qM qM))
  (.bind (Ge.nd _) λ_ _=>.bind Ge.ex λf hf=>.bind (Ge.nd _) λ_ _=>.pure (by rw [iG];simp [Sm.counts]) (EB hN (MI hf) qM qM))
theorem Ge.bF (hN:N<=1000000):∀ f,Ge N 0 (gBF f) Sm.counts gdL
 | 0=>λr b r' hr e=>by unfold gBF at e;cases e
 | f+1=>λr b r' hr e=>by
  unfold gBF at e
  split at e
  ·injection e with e1 e2;subst e1 e2;exact ⟨by simp [Sm.counts],qM⟩
  ·obtain ⟨s,q,k1,k2⟩:=Rs.bind_ok e;obtain ⟨l,q2,k3,k4⟩:=Rs.bind_ok k2;injection k4 with k4 k5
   subst k4 k5;obtain ⟨h1,h2⟩:=Ge.st hN (Ge.bF hN f) r s q hr k1;obtain ⟨h3,h4⟩:=Ge.bF hN f q l q2 (by omega) k3;refine ⟨by simp only [Sm.counts];omega,?_⟩;unfold gdL gdS at *;simp [Sm.alls,h2,h4]
theorem Ge.allB (hN:N<=1000000):Ge N 0 gB Sm.counts gdL:=λr b r' hr e=>Ge.bF hN _ r b r' hr e
end
theorem aJ5:∀ l,Sm.deeps l<=Sm.counts l:=Sm.lists λl h=>by
 induction l with
 | nil=>simp [Sm.deeps]
 | cons e r ih =>
  obtain ⟨kd,nm,hd,ex,th,el⟩:=e;obtain ⟨h1,h2⟩:=h _ (eE ..);have h3:=ih λs hs=>h s (gA _ hs);simp only [Sm.th,Sm.el] at h1 h2;simp only [Sm.deeps,Sm.counts,yF,iG];omega
def gdH (h:Hd):Prop:=okH h=true
section
variable {N:Nat}
theorem Ge.blkN (hN:N<=1000000):Ge N 0 (qP gB) (λ_=>0) (λl=>gdL l/\Sm.counts l<=N):=λr a r' hr e=>by
 obtain ⟨h1,h2⟩:=Ge.blk (Ge.allB hN) r a r' hr e;exact ⟨by dsimp only;omega,h2,by omega⟩
theorem Ge.hd (hN:N<=1000000):Ge N 0 gHd (λ_=>0) gdH :=
 .bind (Ge.any Suf.nm) λn _=>.bind (Ge.any (Suf.list Suf.nm)) λl _=>.bind (Ge.blkN hN) λb hb=>.pure (cM _) (by
  have h1:=aJ5 b;have h2:Sm.alls SW b=true:=hb.1;have h3:=hb.2;unfold gdH okH;simp only [h2,lA,aF,aB];omega)
def gdV (v:List Hd):Prop:=∀ x∈v,gdH x
theorem Ge.vs (hN:N<=1000000):Ge N 0 gVs (λ_=>0) gdV:=Ge.many (Ge.hd hN)
theorem Ge.vn (hN:N<=1000000) (w:Str):Ge N 0 (gVn w) (λ_=>0) gdV :=
 .bind (Ge.nn _) λ_ _=>.bind (Ge.nd _) λ_ _=>.bind (Ge.vs hN) λv hv=>.bind (Ge.nd _) λ_ _=>.pure (cM _) hv
theorem Ge.vm (hN:N<=1000000):Ge N 0 gVm (λ_=>0) (λl=>∀ v∈l,gdV v) :=
 .alt (.bind (Ge.vn hN _) λv hv=>.alt (.bind (Ge.vn hN _) λw hw=>.pure (cM _) λx hx=>by
  rcases bJ.1 hx with rfl | hx
  ·exact hv
  ·rw [dQ.1 hx];exact hw) (.pure (cM _) λx hx=>by rw [dQ.1 hx];exact hv)) (.pure (cM _) λx hx=>by cases hx)
theorem Ge.cp (hN:N<=1000000):Ge N 0 gCp (λ_=>0) (λc=>∀ v∈c.vers,gdV v) :=
 .bind (Ge.any Suf.nm) λn _=>.bind (Ge.nd _) λ_ _=>.bind (Ge.any (Suf.many Suf.vr)) λvs _=>.bind (Ge.vs hN) λv hv=>.bind (Ge.vm hN) λl hl=>.bind (Ge.nd _) λ_ _=>.pure (cM _) λx hx=>by
  rcases bJ.1 hx with rfl | hx
  ·exact hv
  ·exact hl x hx
theorem Ge.ft (hN:N<=1000000):Ge N 0 gFt (λ_=>0) (λf=>evH okH f=true) :=
 .bind (Ge.nd _) λ_ _=>.bind (Ge.any Suf.nm) λn _=>.bind (Ge.nd _) λ_ _=>.bind (Ge.any (Suf.many Suf.fg)) λfs _=>.bind (Ge.any (Suf.many Suf.lk)) λls _=>.bind (Ge.many (Ge.cp hN)) λcs hc=>.bind (Ge.nd _) λ_ _=>.pure (cM _) (by
  unfold evH;rw [aP];intro c h;rw [aP];intro v h2;rw [aP];exact λx h3=>hc c h v h2 x h3)
end
theorem cD3 {f:Ft} (hx:vl gFt (sg0 t) f) (h:(sgZ gFt t).e=0):evH okH f=true:=by
 obtain ⟨⟨a,ha⟩,_⟩:=SL Cz.ft h
 have h0:(sg0 t).e=0:=by
  by_cases k:20000<t.length
  ·exfalso
   have e0:sg0 t=⟨[],3,0⟩:=by unfold sg0;rw [aE k]
   unfold sgZ at h;rw [e0,yC (by decide)] at h;unfold Sg.cl at h;rw [aE rfl] at h;exact absurd (show (3:Nat)=0 from h) (by decide)
  ·unfold sg0;rw [aA k]
 rw [hx h0 a [] ha];refine (Ge.ft (N:=20000) (by decide) _ a [] ?_ ha).2;unfold sg0
 split
 ·simp
 ·have:=CN t;show (sE t).length<=20000;omega
theorem cL1 (t:Str):(sg0 t).r.length<=600000:=by
 unfold sg0
 split
 ·simp
 ·have:=CN t;show (sE t).length<=600000;omega
theorem bL9 (G:Gl H) (t:Str) (ht:t.length<=9223372036854775807) (s:St H w0 bs W) :
 Calls prg 19 #[cJ t] W λe W'=>∃ z:Ft × List Value × Hp,(vl gFt (sg0 t) z.1/\HUp w0 H z.2.2/\Rep z.2.2 (dFt .u8 z.1) z.2.1)/\e=.returned (.tuple #[.agg (pzR t z.1 z.2.1).toArray,iN (pzO t z.1),iN (pzE t z.1)])/\St z.2.2 w0 bs W' :=
 aK6 G t ht (λ_ h1 h2=>cD3 h1 h2) (λ_=>aE6 (cL1 t)) s
section
variable {α β:Type}
def En (p:Pz α):Prop:=p []=.er [] 8\/∃ b,p []=.ok b []
def Pf (N:Nat) (p:Pz α):Prop:=∀ r a q,r.length<=N->p r=.ok a q->∃ u,r=u++q/\(∀ v w,u=v++w->p v=.er [] 8\/∃ b,p v=.ok b [])/\(∀ v,v≠[]->v.head? = q.head? -> p (u++v)=.ok a v)
theorem Pf.le {N M:Nat} {p:Pz α} (h:Pf N p) (k:M<=N):Pf M p:=λr a q hr e=>h r a q (cN hr k) e
theorem Pf.zero {p:Pz α} (h:Shr p):Pf 0 p:=λr a q hr e=>by
 obtain rfl:r=[]:=cQ (by omega);have:=h _ _ _ e;obtain rfl:q=[]:=cQ (by simpa using this);refine ⟨[],Z,λv w h=>?_,λv hv h=>?_⟩
 ·obtain rfl:=(iD.1 h.symm).1;exact .inr ⟨a,e⟩
 ·cases v with
  | nil=>exact absurd rfl hv
  | cons x v=>cases h
theorem En.pure (a:α):En (eR a):=.inr ⟨a,Z⟩
theorem En.bind {p:Pz α} {f:α->Pz β} (h:En p) (k:∀ a,En (f a)):En (cK p f):=by
 rcases h with h | ⟨b,h⟩
 ·exact .inl (by unfold cK;rw [h];rfl)
 ·have e:cK p f []=f b []:=by unfold cK;rw [h];rfl
  rcases k b with k | ⟨c,k⟩
  ·exact .inl (e.trans k)
  ·exact .inr ⟨c,e.trans k⟩
theorem En.nd (w:Str):En (gNd w):=.inl rfl
theorem En.nm:En gNm:=.inl rfl
theorem En.nu:En gNu:=.inl rfl
theorem En.alt {w:Str} {p q:Pz α} (h:En q):En (jH w p q):=h
theorem En.many {w:Str} {p:Pz α}:En (jV w p):=.inr ⟨[],Z⟩
theorem Pf.pure {N:Nat} (a:α):Pf N (eR a):=λr b q _ e=>by
 injection e with e1 e2
 subst e1;subst e2;refine ⟨[],Z,λv w h=>?_,λv _ _=>rfl⟩;obtain rfl:=(iD.1 h.symm).1;exact .inr ⟨a,Z⟩
theorem Pf.bindS {N M:Nat} {p:Pz α} {f:α->Pz β} (hp:Pf N p) (hM:∀ r a q,r.length<=N->p r=.ok a q->q.length<=M) (hf:∀ a,Pf M (f a)) (he:∀ a,En (f a)):Pf N (cK p f):=by
 intro r b q' hr e;obtain ⟨a,q,h1,h2⟩:=Rs.bind_ok e;obtain ⟨u1,rfl,A1,B1⟩:=hp _ _ _ hr h1;obtain ⟨u2,rfl,A2,B2⟩:=hf a _ _ _ (hM _ _ _ hr h1) h2;have go:∀ x c y,p x=.ok c y->cK p f x=f c y:=λx c y h=>by unfold cK;rw [h];rfl
 have fst:∀ v w,u1=v++w->cK p f v=.er [] 8\/∃ b,cK p f v=.ok b []:=λv w h=>by
  rcases A1 v w h with h3 | ⟨b',h3⟩
  ·exact .inl (by unfold cK;rw [h3];rfl)
  ·rw [go _ _ _ h3];exact he b'
 have hd:∀ (x y z:List Tk),(y.head? = z.head?)->(x++y).head? = (x++z).head? := λx y z h=>by
  cases x with
  | nil=>exact h
  | cons t x=>rfl
 refine ⟨u1++u2,(aQ ..).symm,λv w h=>?_,λv hv h=>?_⟩
 ·rcases List.append_eq_append_iff.1 h with ⟨a',rfl,rfl⟩ | ⟨c,rfl,rfl⟩
  ·cases a' with
   | nil =>
    rw [aX];exact fst u1 [] (aX _).symm
   | cons t a' =>
    rw [go _ _ _ (B1 (t::a') (by simp) rfl)];exact A2 (t::a') w rfl
  ·exact fst v c rfl
 ·rw [aQ,go _ _ _ (B1 (u2++v) (λk=>hv (iD.1 k).2) (hd _ _ _ h))];exact B2 v hv h
theorem Pf.bind {N:Nat} {p:Pz α} {f:α->Pz β} (hp:Pf N p) (hf:∀ a,Pf N (f a)) (he:∀ a,En (f a)):Pf N (cK p f):=.bindS hp (λr a q hr e=>by
 obtain ⟨u,rfl,_⟩:=hp r a q hr e;rw [aD] at hr;omega) hf he
theorem Pf.one {N:Nat} {p:Pz α} (h0:p []=.er [] 8) (h1:∀ t,(∃ a,∀ r,p (t::r)=.ok a r)\/∀ r,∃ r' c,p (t::r)=.er r' c):Pf N p:=by
 intro r a q _ e;cases r with
 | nil=>rw [h0] at e;cases e
 | cons t r =>
  rcases h1 t with ⟨b,h⟩ | h
  ·rw [h] at e;injection e with e1 e2
   subst e1;subst e2;refine ⟨[t],Z,λv w hv=>?_,λv _ _=>h v⟩;cases v with
   | nil=>exact .inl h0
   | cons x v =>
    injection hv with hx hv
    subst hx;obtain rfl:=(iD.1 hv.symm).1;exact .inr ⟨b,h []⟩
  ·obtain ⟨r',c,h⟩:=h r;rw [h] at e;cases e
theorem Pf.nd {N:Nat} (w:Str):Pf N (gNd w):=.one rfl λt=>by
 cases e:isT w [t] with
 | true=>exact .inl ⟨(),λr=>by show (if isT w [t]=true then _ else _)=_;rw [aE e];rfl⟩
 | false=>exact .inr λr=>⟨_,_,by show (if isT w [t]=true then _ else _)=_;rw [aA (by rw [e];decide)]⟩
theorem Pf.nm {N:Nat}:Pf N gNm:=.one rfl λt=>by
 by_cases e:t.k=1
 ·exact .inl ⟨t.t,λr=>by unfold gNm;simp only [e,aN]⟩
 ·exact .inr λr=>⟨t::r,8,by unfold gNm;simp only [e,aL]⟩
theorem Pf.nu {N:Nat}:Pf N gNu:=.one rfl λt=>by
 by_cases e:t.k=3
 ·by_cases e2:oJ t.t<=9223372036854775807
  ·exact .inl ⟨Int64.ofNat (oJ t.t),λr=>by unfold gNu;simp only [e,e2,aN]⟩
  ·exact .inr λr=>⟨t::r,2,by unfold gNu;simp only [e,e2,aN,aL]⟩
 ·exact .inr λr=>⟨t::r,8,by unfold gNu;simp only [e,aL]⟩
theorem Pf.choice {N:Nat} {c:List Tk->Bool} {p:Tk->Pz α} {q g:Pz α} (hc0:c []=false) (hc:∀ t r r',c (t::r)=c (t::r')) (hT:∀ t r,c (t::r)=true->g (t::r)=p t r) (hF:∀ r,c r=false->g r=q r)
 (hp:∀ t M,M+1<=N->Pf M (p t)) (hq:Pf N q) (he:En q):Pf N g:=by
 intro r a z hr e;cases h:c r with
 | true =>
  cases r with
  | nil=>rw [hc0] at h;cases h
  | cons t r =>
   rw [hT _ _ h] at e;obtain ⟨u,rfl,A,B⟩:=hp t r.length (by simpa using hr) _ _ _ (aK _) e;refine ⟨t::u,Z,λv w hv=>?_,λv hn hv=>?_⟩
   ·cases v with
    | nil=>rw [hF _ hc0];exact he
    | cons x v =>
     injection hv with hx hv
     subst hx;rw [hT _ _ ((hc ..).trans h)];exact A v w hv
   ·show g (t::(u++v))=_;rw [hT _ _ ((hc ..).trans h)];exact B v hn hv
 | false =>
  rw [hF _ h] at e;obtain ⟨u,rfl,A,B⟩:=hq _ _ _ hr e
  have pre:∀ v,(v=[]\/v.head? = (u++z).head?)->c v=false:=λv hv=>by
   cases v with
   | nil=>exact hc0
   | cons x v =>
    rcases hv with hv | hv
    ·cases hv
    ·cases k:u++z with
     | nil=>rw [k] at hv;cases hv
     | cons y s =>
      rw [k] at hv h;injection hv with hv
      subst hv;exact (hc x v s).trans h
  refine ⟨u,Z,λv w hv=>?_,λv hn hv=>?_⟩
  ·rw [hF _ (pre v (by rw [hv];cases v <;> simp))];exact A v w hv
  ·rw [hF _ (pre (u++v) (.inr (by cases u <;> first | exact hv | rfl)))];exact B v hn hv
theorem Pf.look {N:Nat} {c:List Tk->Bool} {p q g:Pz α} (hc0:c []=false) (hc:∀ t r r',c (t::r)=c (t::r')) (hT:∀ r,c r=true->g r=p r) (hF:∀ r,c r=false->g r=q r)
 (hp:Pf N p) (hq:Pf N q) (he:En q):Pf N g:=by
 intro r a z hr e
 have pre:∀ (x:Bool) (v:List Tk),v≠[]->v.head? = r.head? -> c r=x->c v=x:=λx v hn h2 h3=>by
  cases v with
  | nil=>exact absurd rfl hn
  | cons y v =>
   cases r with
   | nil=>cases h2
   | cons t r =>
    injection h2 with h2
    subst h2;exact (hc ..).trans h3
 have h1:∀ (u v w:List Tk),r=u++z->u=v++w->v≠[]->v.head? = r.head? := λu v w h2 h3 hn=>by
  cases v with
  | nil=>exact absurd rfl hn
  | cons y v=>rw [h2,h3];rfl
 have h2:∀ (u v:List Tk),r=u++z->v.head? = z.head? -> (u++v).head? = r.head? := λu v h3 h4=>by
  rw [h3];cases u with
  | nil=>exact h4
  | cons y u=>rfl
 cases h:c r with
 | true =>
  rw [hT _ h] at e;obtain ⟨u,hu,A,B⟩:=hp _ _ _ hr e;refine ⟨u,hu,λv w hv=>?_,λv hn hv=>?_⟩
  ·by_cases hn:v=[]
   ·subst hn;rw [hF _ hc0];exact he
   ·rw [hT _ (pre _ v hn (h1 u v w hu hv hn) h)];exact A v w hv
  ·rw [hT _ (pre _ (u++v) (λk=>hn (iD.1 k).2) (h2 u v hu hv) h)];exact B v hn hv
 | false =>
  rw [hF _ h] at e;obtain ⟨u,hu,A,B⟩:=hq _ _ _ hr e;refine ⟨u,hu,λv w hv=>?_,λv hn hv=>?_⟩
  ·by_cases hn:v=[]
   ·subst hn;rw [hF _ hc0];exact he
   ·rw [hF _ (pre _ v hn (h1 u v w hu hv hn) h)];exact A v w hv
  ·rw [hF _ (pre _ (u++v) (λk=>hn (iD.1 k).2) (h2 u v hu hv) h)];exact B v hn hv
theorem Pf.alt {N:Nat} {w:Str} {p q:Pz α} (hp:∀ M,M+1<=N->Pf M p) (hq:Pf N q) (he:En q):Pf N (jH w p q) :=
 .choice (c:=isT w) (p:=λ_=>p) rfl (λ_ _ _=>rfl) (λt r h=>by unfold jH;rw [aE h];rfl) (λr h=>by unfold jH;rw [aA (by rw [h];decide)]) (λ_=>hp) hq he
theorem Pf.many {w:Str} {p:Pz α} (hs:Shr p):∀ (N:Nat),(∀ M,M+1<=N->Pf M p)->Pf N (jV w p)
 | 0,_=>.zero (.many hs)
 | N+1,h=>by
  rw [CR hs];refine .alt (λM hM=>?_) (.pure _) (.pure _);exact .bind (h M hM) (λa=>.bind ((Pf.many hs N λM hM=>h M (by omega)).le (by omega)) (λ_=>.pure _) (λ_=>.pure _)) (λa=>.bind .many λ_=>.pure _)
end
section
variable {α β:Type}
structure PE (N:Nat) (p:Pz α):Prop where
 pf:Pf N p
 en:En p
theorem PE.le {N M:Nat} {p:Pz α} (h:PE N p) (k:M<=N):PE M p:=⟨h.pf.le k,h.en⟩
theorem PE.pure {N:Nat} (a:α):PE N (eR a):=⟨.pure a,.pure a⟩
theorem PE.bind {N:Nat} {p:Pz α} {f:α->Pz β} (hp:PE N p) (hf:∀ a,PE N (f a)):PE N (cK p f):=⟨.bind hp.pf (λa=>(hf a).pf) (λa=>(hf a).en),.bind hp.en λa=>(hf a).en⟩
theorem PE.nd {N:Nat} (w:Str):PE N (gNd w):=⟨.nd w,.nd w⟩
theorem PE.nm {N:Nat}:PE N gNm:=⟨.nm,.nm⟩
theorem PE.nu {N:Nat}:PE N gNu:=⟨.nu,.nu⟩
theorem PE.alt {N:Nat} {w:Str} {p q:Pz α} (hp:∀ M,M+1<=N->PE M p) (hq:PE N q):PE N (jH w p q):=⟨.alt (λM h=>(hp M h).pf) hq.pf hq.en,.alt hq.en⟩
theorem PE.many {N:Nat} {w:Str} {p:Pz α} (hs:Shr p) (hp:∀ M,M+1<=N->PE M p):PE N (jV w p):=⟨.many hs N λM h=>(hp M h).pf,.many⟩
theorem PE.list {N:Nat} {p:Pz α} (hs:Shr p) (hp:∀ M,M<=N->PE M p):PE N (jN p):=.bind (.nd _) λ_=>.alt (λM _=>.pure _) (.bind (hp N (aK _)) λ_=>.bind (.many hs λM h=>hp M (by omega)) λ_=>.bind (.nd _) λ_=>.pure _)
end
theorem aL3 (lv:Nat):opAt lv []=none:=by
 have h:(qG lv).find? (λx=>isT x.1 [])=none:=List.find?_eq_none.2 (λx _=>Bool.false_ne_true);unfold opAt;rw [h]
 rfl
theorem En.l (lv:Nat) (a:Ex):En (gL lv a):=.inr ⟨a,DL (aL3 lv)⟩
theorem En.nam:En VU:=.bind .nm λ_=>.alt (.pure _)
theorem En.prim:En gY:=.alt<|.alt<|.alt<|.alt<|.alt<|.alt En.nam
theorem En.x:∀ (d lv:Nat),lv+d=5->En (gX lv)
 | 0,lv,h=>by
  obtain rfl:lv=5:=by omega
  rw [GL,RG];exact .alt (.alt En.prim)
 | d+1,lv,h=>by
  rw [OL (by omega)];exact .bind (En.x d (lv+1) (by omega)) λa=>En.l lv a
theorem Shr.l (lv:Nat) (a:Ex):Shr (gL lv a):=λr b r' e=>(GX _).2 _ _ _ _ _ e
theorem Pf.xl:∀ (N:Nat),(∀ lv,lv<=5->Pf N (gX lv))/\(∀ lv,lv<=4->∀ a,Pf N (gL lv a))
 | 0=>⟨λlv _=>.zero (Shs.gx lv).le,λlv _ a=>.zero (Shr.l lv a)⟩
 | N+1=>by
  obtain ⟨ih1,ih2⟩:=Pf.xl N;have x:∀ lv,lv<=5->∀ M,M+1<=N+1->PE M (gX lv):=λlv h M hM=>⟨(ih1 lv h).le (by omega),En.x (5 - lv) lv (by omega)⟩
  have hk:∀ lv op a b,lv<=4->∀ M,M+1<=N+1->PE M (gK lv op a b):=λlv op a b h M hM=>by
   unfold gK
   split
   ·exact .pure _
   ·exact ⟨(ih2 lv h _).le (by omega),En.l lv _⟩
  have hl:∀ lv,lv<=4->∀ a,Pf (N+1) (gL lv a):=λlv h a=>by
   refine .choice (c:=λr=>(opAt lv r).isSome) (p:=λt=>match opAt lv [t] with | some op=>cK (gX (lv+1)) (gK lv op a) | none=>eR a) (q:=eR a) ?_ (λ_ _ _=>rfl) ?_ ?_ ?_ (.pure _) (.pure _)
   ·show (opAt lv []).isSome=false;rw [aL3]
    rfl
   ·intro t r e;obtain ⟨op,e⟩:=kN.1 e;have e2:opAt lv [t]=some op:=e;simp only [e2];show pL lv a (t::r)=_;rw [aC1 h e];refine Rs.bind_congr rfl λb q _=>?_;unfold gK
    split <;> rfl
   ·intro r e
    have e2:opAt lv r=none:=by
     cases k:opAt lv r with
     | none=>rfl
     | some op=>rw [k] at e;cases e
    exact DL e2
   ·intro t M hM;show Pf M (match opAt lv [t] with | some op=>cK (gX (lv+1)) (gK lv op a) | none=>eR a);cases opAt lv [t] with
    | none=>exact .pure _
    | some op=>exact (PE.bind (x (lv+1) (by omega) M hM) λb=>hk lv op a b h M hM).pf
  have key:∀ op nm M,M+1<=N+1->PE M (aN9 op nm):=λop nm M hM=>.bind (x 0 (by omega) M hM) λ_=>.bind (.nd _) λ_=>.pure _;have nam:PE (N+1) VU:=.bind .nm λs=>.alt (λM hM=>key 6 s M hM) (.pure _);have last:PE (N+1) BM:=⟨.look (c:=aN4) (p:=cD9) (q:=VU) rfl (λ_ _ _=>rfl) (λr h=>by unfold BM;rw [aE h]) (λr h=>by unfold BM;rw [aA (by rw [h];decide)]) (PE.bind .nu λ_=>.pure _).pf nam.pf nam.en,nam.en⟩;have prim:PE (N+1) gY:=.alt (λ_ _=>.pure _)<|.alt (λ_ _=>.pure _)<|.alt (λ_ _=>.pure _)<|.alt (λ_ _=>.bind .nm λ_=>.pure _)<|.alt (λM hM=>.bind .nm λs=>.bind (.nd _) λ_=>key 7 s M hM)<|.alt (λM hM=>.bind (x 0 (by omega) M hM) λ_=>.bind (.nd _) λ_=>.pure _) last
  have h5:PE (N+1) (gX 5):=by
   rw [GL,RG];exact .alt (λM hM=>.bind (x 5 (by omega) M hM) λ_=>.pure _)<|.alt (λM hM=>.bind (x 5 (by omega) M hM) λ_=>.pure _) prim
  have all:∀ d lv,lv+d=5->PE (N+1) (gX lv):=λd=>by
   induction d with
   | zero =>
    intro lv h;obtain rfl:lv=5:=by omega
    exact h5
   | succ d ih =>
    intro lv h;rw [OL (by omega)];exact .bind (ih (lv+1) (by omega)) λa=>⟨hl lv (by omega) a,En.l lv a⟩
  exact ⟨λlv h=>(all (5 - lv) lv (by omega)).pf,hl⟩
theorem PE.ex:PE N gEx:=⟨(Pf.xl N).1 0 (by omega),En.x 5 0 rfl⟩
theorem PE.st {b:Pz (List Sm)} (hb:∀ M,M+1<=N->PE M b):PE N (gSt b):=by
 have blk:∀ M,M+1<=N->PE M (qP b):=λM h=>.bind (.nd _) λ_=>.bind (hb M h) λ_=>.bind (.nd _) λ_=>.pure _;have els:∀ M,M+1<=N->PE M (FS b):=λM h=>.alt (λM' h'=>blk M' (by omega)) (.pure _);have oth:∀ M,M+1<=N->PE M (vD b):=λM h=>.alt (λM' h'=>blk M' (by omega)) (.bind (.nd _) λ_=>.pure _);have lst:∀ M,PE M (jN gEx):=λM=>.list Shs.ex.le λ_ _=>.ex
 exact .alt (λM h=>.bind .ex λ_=>.bind (blk M h) λ_=>.bind (els M h) λ_=>.pure _)<|.alt (λM h=>.bind .ex λ_=>.bind (blk M h) λ_=>.pure _)<|.alt (λM h=>.bind .ex λ_=>.bind (.nd _) λ_=>.bind .ex λ_=>.bind (oth M h) λ_=>.pure _)<|.alt (λM h=>.bind .nm λ_=>.bind (.nd _) λ_=>.bind .ex λ_=>.bind (oth M h) λ_=>.pure _)<|.alt (λM h=>.bind .nm λ_=>.bind (.nd _) λ_=>.bind .nm λ_=>.bind (lst M) λ_=>.bind (.nd _) λ_=>.pure _)<|.alt (λM h=>.bind .ex λ_=>.bind (.nd _) λ_=>.bind .nm λ_=>.bind (lst M) λ_=>.bind (.nd _) λ_=>.pure _)<|.alt (λM h=>.bind (.nd _) λ_=>.pure _)<|.alt (λM h=>.bind .nm λ_=>.bind (.nd _) λ_=>.bind .ex λ_=>.bind (.nd _) λ_=>.bind (.nd _) λ_=>.pure _)<|.bind .nm λ_=>.alt (λM h=>.bind .ex λ_=>.bind (.nd _) λ_=>.bind (.nd _) λ_=>.bind .ex λ_=>.bind (.nd _) λ_=>.pure _)
  (.bind (.nd _) λ_=>.bind .ex λ_=>.bind (.nd _) λ_=>.pure _)
theorem En.b:En gB:=.inl (by rw [TJ];rfl)
theorem PE.b:∀ N,PE N gB
 | 0=>⟨.zero Shr.b,En.b⟩
 | N+1=>by
  have st:PE (N+1) (gSt gB):=.st λM h=>(PE.b N).le (by omega);have rest:∀ a:Sm,PE N (cK gB λl=>eR (a::l)):=λa=>.bind (PE.b N) λ_=>.pure _
  refine ⟨.look (c:=isT [125]) (p:=eR []) (q:=cK (gSt gB) λs=>cK gB λl=>eR (s::l)) rfl (λ_ _ _=>rfl) (λr h=>?_) (λr h=>?_) (.pure _)
   (.bindS st.pf (λr a q hr e=>?_) (λa=>(rest a).pf) (λa=>(rest a).en)) (.bind st.en λa=>(rest a).en),En.b⟩
  ·rw [TJ,aE h]
   rfl
  ·rw [TJ,aA (by rw [h];decide)]
   rfl
  ·have:=Shs.st Shr.b _ _ _ e;omega
theorem PE.blk:PE N (qP gB):=.bind (.nd _) λ_=>.bind (.b N) λ_=>.bind (.nd _) λ_=>.pure _
theorem PE.hd:PE N gHd:=.bind .nm λ_=>.bind (.list Shs.nm.le λ_ _=>.nm) λ_=>.bind .blk λ_=>.pure _
structure Xf {α:Type} (p:Pz α):Prop where
 no:p []=.er [] 8
 go:∀ r a q w,p r=.ok a q->p (r++w)=.ok a (q++w)
theorem Xf.nd (w:Str):Xf (gNd w):=⟨Z,λr a q z e=>by
 cases r with
 | nil=>cases e
 | cons t r =>
  unfold gNd at e
  split at e
  ·rename_i h;injection e with _ e
   subst e;show (if isT w (t::(r++z))=true then _ else _)=_;have h2:isT w (t::(r++z))=true:=h;rw [aE h2]
   rfl
  ·cases e⟩
theorem Xf.pure {α β:Type} {p:Pz α} {f:α->β} (h:Xf p):Xf (cK p λa=>eR (f a)):=⟨by unfold cK;rw [h.no];rfl,λr b q w e=>by
 obtain ⟨a,q1,h1,h2⟩:=Rs.bind_ok e;injection h2 with h2 h3
 subst h2;subst h3;unfold cK;rw [h.go r a q1 w h1]
 rfl⟩
theorem Xf.bind {α β:Type} {p:Pz α} {f:α->Pz β} (hp:∀ N,PE N p) (hf:∀ a,Xf (f a)):Xf (cK p f):=⟨by
 unfold cK;rcases (hp 0).en with h | ⟨b,h⟩
 ·rw [h];rfl
 ·rw [h];exact (hf b).no,λr b q' w e=>by
 obtain ⟨a,q,h1,h2⟩:=Rs.bind_ok e
 have hq:q≠[]:=λk=>by
  subst k;rw [(hf a).no] at h2;cases h2
 obtain ⟨u,rfl,_,B⟩:=(hp r.length).pf _ _ _ (aK _) h1;have h3:=B (q++w) (λk=>hq (iD.1 k).1) (by cases q with | nil=>exact absurd rfl hq | cons t q=>rfl);unfold cK;rw [aQ,h3];exact (hf a).go q b q' w h2⟩
def exB:Nat->Ex->Ex->Bool
 | 0,_,_=>false
 | f+1,.mk o n v l,.mk o' n' v' l'=>decide (o=o') && decide (n=n') && decide (v=v') && (decide (l.length=l'.length) && (l.zip l').all λp=>exB f p.1 p.2)
theorem bV7 {α:Type} {r:α->α->Bool} (h:∀ a b,r a b=true->a=b):∀ (l m:List α),l.length=m.length->((l.zip m).all λp=>r p.1 p.2)=true->l=m
 | [],[],_,_=>rfl
 | [],_::_,e,_=>by cases e
 | _::_,[],e,_=>by cases e
 | a::l,b::m,e,k=>by
  rw [List.zip_cons_cons,sS,aF] at k;rw [h a b k.1,bV7 h l m (by simpa using e) k.2]
theorem cF5:∀ (f:Nat) (a b:Ex),exB f a b=true->a=b
 | 0,_,_,h=>by cases h
 | f+1,.mk o n v l,.mk o' n' v' l',h=>by
  unfold exB at h;simp only [aF,aB] at h;obtain ⟨⟨⟨rfl,rfl⟩,rfl⟩,h1,h2⟩:=h;rw [bV7 (r:=exB f) (cF5 f) l l' h1 h2]
def nmE (c:UInt8):Ex:=.mk 5 [c] 0 []
def txA:Str:=[110,111,116,32,97,32,61,61,32,98]
def txB:Str:=[97,32,60,32,98,32,60,32,99]
def txC:Str:=[102,108,101,101,116]++[32,102,32,123,32]++[108,105,110,107]++[32,97,32,45,62,32,98,32]++[108,97,116,101,110,99,121]++[32]++[57,50,50,51,51,55,50,48,51,54,56,53,52,55,55,53,56,48,56]++[59,32,125]
def txD:Str:=[40,97]
def dB6 (x:Rs Ex) (a:Ex):Bool:=match x with | .ok b r=>r.isEmpty && exB 5 b a | .er _ _=>false
variable {a:Ex}
theorem cW8 {x:Rs Ex} (h:dB6 x a=true):x=.ok a []:=by
 unfold dB6 at h;cases x with
 | er r c=>cases h
 | ok b r =>
  simp only [aF,List.isEmpty_iff] at h;rw [h.1,cF5 5 _ _ h.2]
theorem awA:gX 0 (sE txA)=.ok (opE 16 [opE 10 [nmE 97],nmE 98]) []:=cW8 (by decide +kernel)
theorem awB:(sgZ (gX 0) txB).e=8/\(sgZ (gX 0) txB).o=6:=by decide +kernel
theorem awC:(sgZ gFt txC).e=2/\(sgZ gFt txC).o=30:=by decide +kernel
theorem awD:(sgZ (gX 0) txD).e=8/\(sgZ (gX 0) txD).o=2:=by decide +kernel
theorem PQ:cU prg 11=true:=by kernel_rfl
theorem ZW:cU prg 19=true:=by kernel_rfl
theorem bO9:pN (opE 16 [opE 10 [nmE 97],nmE 98])=0:=by decide +kernel
variable {c:Nat}
theorem bL8 (G:Gl H) {o:Nat} (ht:t.length<=9223372036854775807) (hc:(sgZ gFt t).e=c) (ho:(sgZ gFt t).o=o) (h0:c≠0)
 (hcp:(up t.length (jV [108,105,110,107] gLk) (up t.length (jV [102,108,97,103] gFg) (up t.length (gNd [123]) (up t.length gNm (up t.length (gNd [102,108,101,101,116]) (sg0 t)))))).e=0->False) (s:St H w0 bs W) :
 Calls prg 19 #[cJ t] W λe W'=>∃ z:Hp,HUp w0 H z/\e=.returned (.tuple #[.agg ([.string ⟨#[]⟩,.slice none 0 0,.slice none 0 0,.slice none 0 0]:List Value).toArray,iN o,iN c])/\St z w0 bs W':=by
 subst hc ho;refine (aK6 G t ht (λf _ h=>absurd h h0) (λh=>(hcp h).elim) s).mono ?_;rintro e W' ⟨z,⟨h1,h2,h3⟩,h4,h5⟩;refine ⟨z.2.2,h2,?_,h5⟩;rw [h4];unfold pzR pzO pzE;simp only [h0,aL,false_and]
theorem bO8 (H:Hp) (G:Gl H) (w:World) (hA:Agr H w):Calls prg 9 #[] w λr w'=>r=.returned (.bool true)/\Ext w w':=by
 refine Sx.enter (H:=H) func9 rfl ntmps9 rfl hA ?_;refine .sr<|.a Z Z<|.ns<|.cs (X:=List Value × Hp) PQ Z (λW s=>cF3 (t:=txA) G (by decide) awA bO9 s) Z λz1 hz1=>?_
 obtain ⟨c1,H1⟩:=z1;obtain ⟨u1,r1⟩:=hz1;dsimp only at u1 r1|-;obtain ⟨p,c,rfl,hs,_⟩:=iR r1;obtain ⟨bE,oE,cE,hpE,rE,lE,mE⟩:=hs.elem (i:=0) (d:=dEx .u8 (opE 10 [nmE 97])) rfl;obtain ⟨bF,oF,cF,hpF,rF,lF,mF⟩:=hs.elem (i:=1) (d:=dEx .u8 (nmE 98)) rfl;cases hpE;cases hpF;obtain ⟨p2,c2,rfl,_,_⟩:=iR rE;obtain ⟨p3,c3,rfl,_,_⟩:=iR rF;refine .mv Z<|.yw (.extract Z Z)<|.yw (.extract Z Z)<|.yw (.extract Z Z)<|.al jX Z λb1=>.sW .head Z Z dO (Rep.one r1) Z<|.a Z Z<|.aq Z<|.sq<|.sm Z<|.yw (.cast (.neq Z Z) (congrArg Value.bool (eJ (λh=>h Z))))<|.mv Z<|.gy (.move Z)<|.gy (.cast (.neq Z Z) (congrArg Value.bool (eJ (λh=>h Z))))<|.yw (.pickF Z Z)<|.mv Z<|.gy (.fieldAddr Z kZ)<|.gy (.load Z rH Hm Z)<|.gy (.cast (.neq Z Z) (congrArg Value.bool (eJ (λh=>h Z))))<|.yw (.pickF Z Z)<|.mv Z<|.gy (.fieldAddr Z jQ)<|.gy (.load Z fR Hm Z)<|.gy (.lenSl dW Z)<|.gy (.cast (.neq Z Z) (congrArg Value.bool (eJ (λh=>h Z))))<|.yw (.pickF Z Z)<|.mv Z<|.gy (.fieldAddr Z jQ)<|.gy (.load Z fR Hm Z)<|.gy (.indexSl dW Z Z (i:=0) Z (by decide) (q:=oE+0 * 4) (by omega))<|.gy (.fieldAddr Z kZ)<|.gy (.loadM Z rH mE (k:=0) Z Z)<|.gy (.cast (.neq Z Z) (congrArg Value.bool (eJ (λh=>h Z))))<|.yw (.pickF Z Z)<|.mv Z<|.gy (.fieldAddr Z jQ)<|.gy (.load Z fR Hm Z)<|.gy (.indexSl dW Z Z (i:=1) Z (by decide) (q:=oE+1 * 4) (by omega))<|.gy (.fieldAddr Z tG)<|.gy (.loadM Z bZ mF (k:=1) Z Z)<|.gy (.cast (.neS Z Z) (congrArg Value.bool (eJ (λh=>h Z))))<|.yw (.pickF Z Z)<|.nt<|.cF Z<|.sk<|.tN<|.sr<|.cs (X:=Hp) PQ Z (λW s=>YE (t:=txB) (G.up u1.up) (by decide) awB.1 awB.2 (by decide) s) Z λH2 u2=>.mv Z<|.yw (.extract Z Z)<|.yw (.extract Z Z)<|.yw (.extract Z Z)<|.a Z Z<|.a Z Z<|.ns<|.cs (X:=Hp) ZW Z (λW s=>bL8 (t:=txC) ((G.up u1.up).up u2.up) (by decide) awC.1 awC.2 (by decide) (λh=>absurd h (by decide +kernel)) s) Z λH3 u3=>.mv Z<|.yw (.extract Z Z)<|.yw (.extract Z Z)<|.yw (.extract Z Z)<|.al vW Z λb4=>.sW .head Z Z sJ (by simp [Value.oneCell']) Z<|.a Z Z<|.a Z Z<|.ns<|.cs (X:=Hp) PQ Z (λW s=>YE (t:=txD) (((G.up u1.up).up u2.up).up u3.up) (by decide) awD.1 awD.2 (by decide) s) Z λH4 u4=>.mv Z<|.yw (.extract Z Z)<|.yw (.extract Z Z)<|.yw (.extract Z Z)<|.al jX Z λb7=>.sW .head Z Z dO (by simp [Value.oneCell']) Z<|.a Z Z<|.a Z Z<|.ns<|.mv Z<|.yw (.cast (.eql Z Z) (congrArg Value.bool (dU Z)))<|.mv Z<|.gy (.move Z)<|.gy (.cast (.eql Z Z) (congrArg Value.bool (dU Z)))<|.yw (.pickT Z Z)<|.mv Z<|.gy (.move Z)<|.gy (.cast (.eql Z Z) (congrArg Value.bool (dU Z)))<|.yw (.pickT Z Z)<|.mv Z<|.gy (.move Z)<|.gy (.cast (.eql Z Z) (congrArg Value.bool (dU Z)))<|.yw (.pickT Z Z)<|.mv Z<|.gy (.move Z)<|.gy (.cast (.eql Z Z) (congrArg Value.bool (dU Z)))<|.yw (.pickT Z Z)<|.mv Z<|.gy (.move Z)<|.gy (.cast (.eql Z Z) (congrArg Value.bool (dU Z)))<|.yw (.pickT Z Z)<|.az Z<|?_
 exact y9 Z Z λW s=>⟨Z,s.ext⟩
noncomputable def eqP (p:Prop):Bool:=@decide p (Classical.propDecidable p)
theorem bB {p:Prop} :eqP p=true↔p:=by unfold eqP;exact @decide_eq_true_iff p (Classical.propDecidable p)
theorem CA {p:Prop} :eqP p=false↔¬ p:=⟨λh k=>(by rw [bB.2 k] at h;cases h),λh=>(by cases e:eqP p with | false=>rfl | true=>exact absurd (bB.1 e) h)⟩
def VM (gf:FuncId) {α:Type} (d:α->D) (H:Hp) (a b:α):Prop:=∀ (ca cb:List Value) (w:World),Rep H (d a) ca->Rep H (d b) cb->Agr H w->Calls prg gf #[.agg ca.toArray,.agg cb.toArray] w λr w'=>r=.returned (.bool (eqP (a=b)))/\Ext w w'
variable {k:Nat}
theorem pJ {α:Type} {l m:List α} (h:k<l.length) (h2:k<m.length) (ht:l.take k=m.take k) (he:l[k]=m[k]):l.take (k+1)=m.take (k+1):=by rw [gC h,gC h2,ht,he]
theorem bH6 (H:Hp) (gf:FuncId) (hgf:cU prg gf=true) (l m:List Ex) (hq:∀ a∈l,∀ b,VM gf (dEx .u8) H a b) (v u:Value) (hs:Rep H (.seq 4 (l.map (dEx .u8))) [v]) (ht:Rep H (.seq 4 (m.map (dEx .u8))) [u]) (w:World) (hA:Agr H w) :
 Calls prg 28 #[v,u,.func (.func gf) #[] #[]] w λr w'=>r=.returned (.bool (eqP (l=m)))/\Ext w w':=by
 obtain ⟨p,c,e,_⟩:=hs.sl;simp only [aT,bV,aJ] at e;subst e;obtain ⟨p2,c2,e,_⟩:=ht.sl;simp only [aT,bV,aJ] at e;subst e;have hcap:=hs.cap;have hcap2:=ht.cap;refine Sx.enter (H:=H) func28 rfl ntmps28 rfl hA ?_;refine .sr<|.aq Z<|.sq<|.sm Z<|.yw (.lenSl dW Z)<|.mv Z<|.yw (.lenSl dW Z)<|.yw (.neq Z Z)<|.nt<|.ce Z (λh14=>?_) (λh14=>?_)
 ·have hne:¬ l=m:=λe=>by rw [e] at h14;exact h14 rfl
  refine .sr<|.az Z<|.tR<|?_
  refine y9 Z Z λW s=>⟨fP ?_,s.ext⟩
  first
   | (rw [bB];exact ⟨λh=>(by cases h),λh=>absurd h hne⟩)
   | (rw [bB];exact ⟨λ_=>heq,λ_=>rfl⟩)
 have hlen:l.length=m.length:=by omega
 refine .sk<|.tN<|.sq<|.sm Z<|.yw (.lenSl dW Z)<|.mv Z<|.nt<|.bk<|.lp (X:=Nat) [(1,_),(2,_),(15,_),(16,_)] ⟨Z,Z,Z,Z,Jt⟩ [] (λk=>[(17,iN k)]) (λk=>H) (λk=>[]) (λk=>k<=l.length/\l.take k=m.take k) (λk=>l.length - k) 0 (λ_ s=>s) ⟨Z,Jt⟩ ⟨by omega,Z⟩ λk hC=>?_
 obtain ⟨hk0,hal⟩:=hC;refine .sr<|.yw (.lss Z Z)<|.nt<|.sq<|.ce Z (λh18=>?_) (λh18=>?_)
 ·have hk:k<l.length:=by omega
  have hkm:k<m.length:=by omega
  obtain ⟨bE,oE,cE,hpE,rE,lE,mE⟩:=hs.elem (eL hk);cases hpE;obtain ⟨bF,oF,cF,hpF,rF,lF,mF⟩:=ht.elem (eL hkm);cases hpF;refine .sk<|.tN<|.sq<|.bk<|.sm Z<|.yw (.indexSl dW Z Z Z (by omega) (q:=oE+k * 4) Z)<|.yw (.loadMW Z fI mE lE)<|.al jX Z λb8=>.a Z Z<|.sV .head Z Z dO lE rE.one Z<|.ns<|.mv Z<|.mv Z<|.yw (.indexSl dW Z Z Z (by omega) (q:=oF+k * 4) Z)<|.yw (.loadMW Z fI mF lF)<|.al jX Z λb9=>.sV .head Z Z dO lF rF.one Z<|.ns<|.mv Z<|.yw (.loadW Z fI dN lE)<|.yw (.loadW Z fI Hm lF)<|.yw (.callV (fi:=[]) (ca:=[]) Z hgf Z (λW s=>hq _ (cD hk) _ cE cF W rE rF s.agr))<|.yw (.not Z)<|.nt<|.cd Z (λh30=>?_) (λh30=>?_)
  ·try simp only [dt] at h30
   have hne:¬ l=m:=λe=>by subst e;rw [bB.2 rfl] at h30;cases h30
   refine .sr<|.az Z<|.bR<|.tR<|.tR<|.bR<|.tR<|?_
   refine y9 Z Z λW s=>⟨fP ?_,s.ext⟩
   first
    | (rw [bB];exact ⟨λh=>(by cases h),λh=>absurd h hne⟩)
    | (rw [bB];exact ⟨λ_=>heq,λ_=>rfl⟩)
  try simp only [df] at h30
  have heq:l[k]=m[k]:=bB.1 (by simpa using h30);exact .sk<|.bN<|.tN<|.rg<|.yw (.add Z Z w7)<|.mv Z<|.nt<|.ag (k+1) ⟨Z,Jt⟩ ⟨Z,Z,Z,Z,Jt⟩ (λ_ s=>s.pick [] [] Z Z) ⟨by omega,pJ hk hkm hal heq⟩ (by omega)
 have heq:l=m:=by
  have e:k=l.length:=by omega
  have e2:k=m.length:=by omega
  have h1:=hal;rw [e,aI,hlen,aI] at h1;exact h1
 refine .ex<|.eb<|.sr<|.az Z<|?_
 refine y9 Z Z λW s=>⟨fP ?_,s.ext⟩
 first
  | (rw [bB];exact ⟨λh=>(by cases h),λh=>absurd h hne⟩)
  | (rw [bB];exact ⟨λ_=>heq,λ_=>rfl⟩)
theorem VY (H:Hp) (a:Ex):∀ b,VM 13 (dEx .u8) H a b:=by
 induction a using Ex.ind with | _ op nm n args ih
 intro b ca cb w ha hb hA;obtain ⟨op2,nm2,n2,zC⟩:=b;obtain ⟨p,c,rfl,hs,hnm⟩:=iR ha;obtain ⟨p2,c2,rfl,hs2,hnm2⟩:=iR hb;refine Sx.enter (H:=H) func13 rfl ntmps13 rfl hA ?_;refine .sr<|.bx Z Z Z λb2=>.bx Z Z Z λb3=>.a Z Z<|.ns<|.fA Z kZ<|.lD Z rH dN Z<|.fA Z kZ<|.lD Z rH Hm Z<|.yw (.eql Z Z)<|.mv Z<|.e2 (λh10=>?_) (λh10=>?_)
 ·have e1:op=op2:=bT.1 (by omega);refine .gy (.fieldAddr Z tG)<|.gy (.load Z bZ dN Z)<|.gy (.fieldAddr Z tG)<|.gy (.load Z bZ Hm Z)<|.gy (.eqS Z Z)<|.yw (.pickT Z Z)<|.mv Z<|.e2 (λh17=>?_) (λh17=>?_)
  ·have e2:nm=nm2:=h17;refine .gy (.fieldAddr Z mZ)<|.gy (.load Z nX dN Z)<|.gy (.fieldAddr Z mZ)<|.gy (.load Z nX Hm Z)<|.gy (.eql Z Z)<|.yw (.pickT Z Z)<|.mv Z<|.e2 (λh24=>?_) (λh24=>?_)
   ·have e3:n=n2:=qL.1 h24;refine .gy (.fieldAddr Z jQ)<|.gy (.load Z fR dN Z)<|.gy (.fieldAddr Z jQ)<|.gy (.load Z fR Hm Z)<|.gy (.call ZT Z (λW s=>bH6 H 13 ZX args zC ih _ _ hs hs2 W s.agr))<|.yw (.pickT Z Z)<|.az Z<|?_
    refine y9 Z Z λW s=>⟨fP ?_,s.ext⟩
    first
     | (rw [bB,bB,Ex.mk.injEq];exact ⟨λd=>⟨e1,e2,e3,d⟩,λh=>h.2.2.2⟩)
     | (rw [bB,Ex.mk.injEq];exact ⟨λh=>(by cases h),λh=>absurd h.1 e1⟩)
     | (rw [bB,Ex.mk.injEq];exact ⟨λh=>(by cases h),λh=>absurd h.2.1 e2⟩)
     | (rw [bB,Ex.mk.injEq];exact ⟨λh=>(by cases h),λh=>absurd h.2.2.1 e3⟩)
   have e3:¬ n=n2:=λe=>h24 (by rw [e]);refine .gG<|.gG<|.gG<|.gG<|.gG<|.yw (.pickF Z Z)<|.az Z<|?_
   refine y9 Z Z λW s=>⟨fP ?_,s.ext⟩
   first
    | (rw [bB,bB,Ex.mk.injEq];exact ⟨λd=>⟨e1,e2,e3,d⟩,λh=>h.2.2.2⟩)
    | (rw [bB,Ex.mk.injEq];exact ⟨λh=>(by cases h),λh=>absurd h.1 e1⟩)
    | (rw [bB,Ex.mk.injEq];exact ⟨λh=>(by cases h),λh=>absurd h.2.1 e2⟩)
    | (rw [bB,Ex.mk.injEq];exact ⟨λh=>(by cases h),λh=>absurd h.2.2.1 e3⟩)
  have e2:¬ nm=nm2:=h17;refine .gG<|.gG<|.gG<|.gG<|.gG<|.yw (.pickF Z Z)<|.mv Z<|.gG<|.gG<|.gG<|.gG<|.gG<|.yw (.pickF Z Z)<|.az Z<|?_
  refine y9 Z Z λW s=>⟨fP ?_,s.ext⟩
  first
   | (rw [bB,bB,Ex.mk.injEq];exact ⟨λd=>⟨e1,e2,e3,d⟩,λh=>h.2.2.2⟩)
   | (rw [bB,Ex.mk.injEq];exact ⟨λh=>(by cases h),λh=>absurd h.1 e1⟩)
   | (rw [bB,Ex.mk.injEq];exact ⟨λh=>(by cases h),λh=>absurd h.2.1 e2⟩)
   | (rw [bB,Ex.mk.injEq];exact ⟨λh=>(by cases h),λh=>absurd h.2.2.1 e3⟩)
 have e1:¬ op=op2:=λe=>h10 (by rw [e]);refine .gG<|.gG<|.gG<|.gG<|.gG<|.yw (.pickF Z Z)<|.mv Z<|.gG<|.gG<|.gG<|.gG<|.gG<|.yw (.pickF Z Z)<|.mv Z<|.gG<|.gG<|.gG<|.gG<|.gG<|.yw (.pickF Z Z)<|.az Z<|?_
 refine y9 Z Z λW s=>⟨fP ?_,s.ext⟩
 first
  | (rw [bB,bB,Ex.mk.injEq];exact ⟨λd=>⟨e1,e2,e3,d⟩,λh=>h.2.2.2⟩)
  | (rw [bB,Ex.mk.injEq];exact ⟨λh=>(by cases h),λh=>absurd h.1 e1⟩)
  | (rw [bB,Ex.mk.injEq];exact ⟨λh=>(by cases h),λh=>absurd h.2.1 e2⟩)
  | (rw [bB,Ex.mk.injEq];exact ⟨λh=>(by cases h),λh=>absurd h.2.2.1 e3⟩)
theorem cI5:cU prg 9=true:=by kernel_rfl
theorem ZY:cU prg 10=true:=by kernel_rfl
theorem XG (l:Str) (w:World):Calls prg 10 #[cJ l] w λr w'=>r=.returned (cJ (l.take 5000))/\Ext w w':=by
 refine y6 func10 Z ntmps10 Z ?_;refine .sr<|.a Z Z<|.ns<|.mv Z<|.mv Z<|.yw (.lenS eQ Z)<|.yw (.min2 Z Z (c:=((min l.length 5000:Nat):Int)) (by omega))<|.yw (.takeS eQ Z Z (hi:=min l.length 5000) Z (by omega))<|.az Z<|?_
 refine y9 Z Z λW s=>⟨?_,s.ext⟩;rw [show l.take (min l.length 5000)=l.take 5000 by rw [Nat.min_comm,<-List.take_take,aI]]
 rfl
theorem dD7 {a b:Fg} :a=b↔a.nm=b.nm/\a.init=b.init:=by cases a;cases b;simp
theorem dC6 {a b:Lk} :a=b↔a.fr=b.fr/\a.to=b.to/\a.lat.toInt=b.lat.toInt:=by cases a;cases b;simp [qL]
theorem dA2 {a b:Vr} :a=b↔a.nm=b.nm/\a.ty.toNat=b.ty.toNat/\a.init.toInt=b.init.toInt:=by cases a;cases b;simp [qL,bT]
theorem dB2 (H:Hp) (l m:List Fg) (v u:Value) (hs:Rep H (.seq 2 (l.map dFg)) [v]) (ht:Rep H (.seq 2 (m.map dFg)) [u]) (w:World) (hA:Agr H w) :
 Calls prg 39 #[v,u] w λr w'=>r=.returned (.bool (eqP (l=m)))/\Ext w w':=by
 obtain ⟨p,c,e,_⟩:=hs.sl;simp only [aT,bV,aJ] at e;subst e;obtain ⟨p2,c2,e,_⟩:=ht.sl;simp only [aT,bV,aJ] at e;subst e;have hcap:=hs.cap;have hcap2:=ht.cap;refine Sx.enter (H:=H) func39 rfl ntmps39 rfl hA ?_;refine .sr<|.aq Z<|.sq<|.sm Z<|.yw (.lenSl AD Z)<|.mv Z<|.yw (.lenSl AD Z)<|.yw (.neq Z Z)<|.nt<|.ce Z (λh10=>?_) (λh10=>?_)
 ·have hne:¬ l=m:=λe=>by rw [e] at h10;exact h10 rfl
  refine .sr<|.az Z<|.tR<|?_
  refine y9 Z Z λW s=>⟨fP ?_,s.ext⟩
  first
   | (rw [bB];exact ⟨λh=>(by cases h),λh=>absurd h hne⟩)
   | (rw [bB];exact ⟨λ_=>heq,λ_=>rfl⟩)
 have hlen:l.length=m.length:=by omega
 refine .sk<|.tN<|.sq<|.sm Z<|.yw (.lenSl AD Z)<|.mv Z<|.nt<|.bk<|.lp (X:=Nat) [(0,_),(1,_),(12,_)] ⟨Z,Z,Z,Jt⟩ [] (λk=>[(13,iN k)]) (λk=>H) (λk=>[]) (λk=>k<=l.length/\l.take k=m.take k) (λk=>l.length - k) 0 (λ_ s=>s) ⟨Z,Jt⟩ ⟨by omega,Z⟩ λk hC=>?_
 obtain ⟨hk0,hal⟩:=hC;refine .sr<|.yw (.lss Z Z)<|.nt<|.sq<|.ce Z (λh14=>?_) (λh14=>?_)
 ·have hk:k<l.length:=by omega
  have hkm:k<m.length:=by omega
  obtain ⟨bE,oE,cE,hpE,rE,lE,mE⟩:=hs.elem (eL (f:=dFg) hk);cases hpE;generalize hxE:l[k]=xE at rE;obtain ⟨rfl,_⟩:=MY rE;obtain ⟨bF,oF,cF,hpF,rF,lF,mF⟩:=ht.elem (eL (f:=dFg) hkm);cases hpF;generalize hxF:m[k]=xF at rF;obtain ⟨rfl,_⟩:=MY rF;refine .sk<|.tN<|.sq<|.bk<|.sm Z<|.aq Z<|.sq<|.fL 8 [(0,0),(1,0),(2,0),(3,0),(4,0),(5,0),(6,0),(7,0)]<|.mv Z<|.mv Z<|.yw (.indexSl AD Z Z Z (by omega) (q:=oE+k * 2) Z)<|.yw (.loadMW Z FM mE Z)<|.mv Z<|.mv Z<|.yw (.indexSl AD Z Z Z (by omega) (q:=oF+k * 2) Z)<|.yw (.loadMW Z FM mF Z)<|.fn (tl:=[_]) Z<|.yw (.neA bQ6 Z Z Z)<|.nt<|.cd Z (λh24=>?_) (λh24=>?_)
  ·try simp only [dt] at h24
   have hne:¬ l=m:=λe=>by
    subst e;rw [hxE] at hxF;subst hxF;simp at h24
   refine .sr<|.az Z<|.bR<|.tR<|.tR<|.bR<|.tR<|?_
   refine y9 Z Z λW s=>⟨fP ?_,s.ext⟩
   first
    | (rw [bB];exact ⟨λh=>(by cases h),λh=>absurd h hne⟩)
    | (rw [bB];exact ⟨λ_=>heq,λ_=>rfl⟩)
  try simp only [df] at h24
  have heq:l[k]=m[k]:=by
   rw [hxE,hxF];rw [dD7];simpa [IB] using h24
  exact .sk<|.bN<|.tN<|.rg<|.yw (.add Z Z w7)<|.mv Z<|.nt<|.ag (k+1) ⟨Z,Jt⟩ ⟨Z,Z,Z,Jt⟩ (λ_ s=>s) ⟨by omega,pJ hk hkm hal heq⟩ (by omega)
 have heq:l=m:=by
  have e:k=l.length:=by omega
  have e2:k=m.length:=by omega
  have h1:=hal;rw [e,aI,hlen,aI] at h1;exact h1
 refine .ex<|.eb<|.sr<|.az Z<|?_
 refine y9 Z Z λW s=>⟨fP ?_,s.ext⟩
 first
  | (rw [bB];exact ⟨λh=>(by cases h),λh=>absurd h hne⟩)
  | (rw [bB];exact ⟨λ_=>heq,λ_=>rfl⟩)
theorem dB1 (H:Hp) (l m:List Lk) (v u:Value) (hs:Rep H (.seq 3 (l.map dLk)) [v]) (ht:Rep H (.seq 3 (m.map dLk)) [u]) (w:World) (hA:Agr H w) :
 Calls prg 40 #[v,u] w λr w'=>r=.returned (.bool (eqP (l=m)))/\Ext w w':=by
 obtain ⟨p,c,e,_⟩:=hs.sl;simp only [aT,bV,aJ] at e;subst e;obtain ⟨p2,c2,e,_⟩:=ht.sl;simp only [aT,bV,aJ] at e;subst e;have hcap:=hs.cap;have hcap2:=ht.cap;refine Sx.enter (H:=H) func40 rfl ntmps40 rfl hA ?_;refine .sr<|.aq Z<|.sq<|.sm Z<|.yw (.lenSl xM Z)<|.mv Z<|.yw (.lenSl xM Z)<|.yw (.neq Z Z)<|.nt<|.ce Z (λh10=>?_) (λh10=>?_)
 ·have hne:¬ l=m:=λe=>by rw [e] at h10;exact h10 rfl
  refine .sr<|.az Z<|.tR<|?_
  refine y9 Z Z λW s=>⟨fP ?_,s.ext⟩
  first
   | (rw [bB];exact ⟨λh=>(by cases h),λh=>absurd h hne⟩)
   | (rw [bB];exact ⟨λ_=>heq,λ_=>rfl⟩)
 have hlen:l.length=m.length:=by omega
 refine .sk<|.tN<|.sq<|.sm Z<|.yw (.lenSl xM Z)<|.mv Z<|.nt<|.bk<|.lp (X:=Nat) [(0,_),(1,_),(12,_)] ⟨Z,Z,Z,Jt⟩ [] (λk=>[(13,iN k)]) (λk=>H) (λk=>[]) (λk=>k<=l.length/\l.take k=m.take k) (λk=>l.length - k) 0 (λ_ s=>s) ⟨Z,Jt⟩ ⟨by omega,Z⟩ λk hC=>?_
 obtain ⟨hk0,hal⟩:=hC;refine .sr<|.yw (.lss Z Z)<|.nt<|.sq<|.ce Z (λh14=>?_) (λh14=>?_)
 ·have hk:k<l.length:=by omega
  have hkm:k<m.length:=by omega
  obtain ⟨bE,oE,cE,hpE,rE,lE,mE⟩:=hs.elem (eL (f:=dLk) hk);cases hpE;generalize hxE:l[k]=xE at rE;obtain ⟨rfl,_⟩:=IQ rE;obtain ⟨bF,oF,cF,hpF,rF,lF,mF⟩:=ht.elem (eL (f:=dLk) hkm);cases hpF;generalize hxF:m[k]=xF at rF;obtain ⟨rfl,_⟩:=IQ rF;refine .sk<|.tN<|.sq<|.bk<|.sm Z<|.aq Z<|.sq<|.fL 8 [(0,0),(1,0),(2,0),(3,0),(4,0),(5,0),(6,0),(7,0)]<|.mv Z<|.mv Z<|.yw (.indexSl xM Z Z Z (by omega) (q:=oE+k * 3) Z)<|.yw (.loadMW Z CG mE Z)<|.mv Z<|.mv Z<|.yw (.indexSl xM Z Z Z (by omega) (q:=oF+k * 3) Z)<|.yw (.loadMW Z CG mF Z)<|.fn (tl:=[_]) Z<|.yw (.neA bQ5 Z Z Z)<|.nt<|.cd Z (λh24=>?_) (λh24=>?_)
  ·try simp only [dt] at h24
   have hne:¬ l=m:=λe=>by
    subst e;rw [hxE] at hxF;subst hxF;simp at h24
   refine .sr<|.az Z<|.bR<|.tR<|.tR<|.bR<|.tR<|?_
   refine y9 Z Z λW s=>⟨fP ?_,s.ext⟩
   first
    | (rw [bB];exact ⟨λh=>(by cases h),λh=>absurd h hne⟩)
    | (rw [bB];exact ⟨λ_=>heq,λ_=>rfl⟩)
  try simp only [df] at h24
  have heq:l[k]=m[k]:=by
   rw [hxE,hxF];rw [dC6];simpa [IB] using h24
  exact .sk<|.bN<|.tN<|.rg<|.yw (.add Z Z w7)<|.mv Z<|.nt<|.ag (k+1) ⟨Z,Jt⟩ ⟨Z,Z,Z,Jt⟩ (λ_ s=>s) ⟨by omega,pJ hk hkm hal heq⟩ (by omega)
 have heq:l=m:=by
  have e:k=l.length:=by omega
  have e2:k=m.length:=by omega
  have h1:=hal;rw [e,aI,hlen,aI] at h1;exact h1
 refine .ex<|.eb<|.sr<|.az Z<|?_
 refine y9 Z Z λW s=>⟨fP ?_,s.ext⟩
 first
  | (rw [bB];exact ⟨λh=>(by cases h),λh=>absurd h hne⟩)
  | (rw [bB];exact ⟨λ_=>heq,λ_=>rfl⟩)
theorem dA9 (H:Hp) (l m:List Vr) (v u:Value) (hs:Rep H (.seq 3 (l.map (dVr .u8))) [v]) (ht:Rep H (.seq 3 (m.map (dVr .u8))) [u]) (w:World) (hA:Agr H w) :
 Calls prg 78 #[v,u] w λr w'=>r=.returned (.bool (eqP (l=m)))/\Ext w w':=by
 obtain ⟨p,c,e,_⟩:=hs.sl;simp only [aT,bV,aJ] at e;subst e;obtain ⟨p2,c2,e,_⟩:=ht.sl;simp only [aT,bV,aJ] at e;subst e;have hcap:=hs.cap;have hcap2:=ht.cap;refine Sx.enter (H:=H) func78 rfl ntmps78 rfl hA ?_;refine .sr<|.aq Z<|.sq<|.sm Z<|.yw (.lenSl qX Z)<|.mv Z<|.yw (.lenSl qX Z)<|.yw (.neq Z Z)<|.nt<|.ce Z (λh10=>?_) (λh10=>?_)
 ·have hne:¬ l=m:=λe=>by rw [e] at h10;exact h10 rfl
  refine .sr<|.az Z<|.tR<|?_
  refine y9 Z Z λW s=>⟨fP ?_,s.ext⟩
  first
   | (rw [bB];exact ⟨λh=>(by cases h),λh=>absurd h hne⟩)
   | (rw [bB];exact ⟨λ_=>heq,λ_=>rfl⟩)
 have hlen:l.length=m.length:=by omega
 refine .sk<|.tN<|.sq<|.sm Z<|.yw (.lenSl qX Z)<|.mv Z<|.nt<|.bk<|.lp (X:=Nat) [(0,_),(1,_),(12,_)] ⟨Z,Z,Z,Jt⟩ [] (λk=>[(13,iN k)]) (λk=>H) (λk=>[]) (λk=>k<=l.length/\l.take k=m.take k) (λk=>l.length - k) 0 (λ_ s=>s) ⟨Z,Jt⟩ ⟨by omega,Z⟩ λk hC=>?_
 obtain ⟨hk0,hal⟩:=hC;refine .sr<|.yw (.lss Z Z)<|.nt<|.sq<|.ce Z (λh14=>?_) (λh14=>?_)
 ·have hk:k<l.length:=by omega
  have hkm:k<m.length:=by omega
  obtain ⟨bE,oE,cE,hpE,rE,lE,mE⟩:=hs.elem (eL (f:=(dVr .u8)) hk);cases hpE;generalize hxE:l[k]=xE at rE;obtain ⟨rfl,_⟩:=FN rE;obtain ⟨bF,oF,cF,hpF,rF,lF,mF⟩:=ht.elem (eL (f:=(dVr .u8)) hkm);cases hpF;generalize hxF:m[k]=xF at rF;obtain ⟨rfl,_⟩:=FN rF;refine .sk<|.tN<|.sq<|.bk<|.sm Z<|.aq Z<|.sq<|.fL 8 [(0,0),(1,0),(2,0),(3,0),(4,0),(5,0),(6,0),(7,0)]<|.mv Z<|.mv Z<|.yw (.indexSl qX Z Z Z (by omega) (q:=oE+k * 3) Z)<|.yw (.loadMW Z mM mE Z)<|.mv Z<|.mv Z<|.yw (.indexSl qX Z Z Z (by omega) (q:=oF+k * 3) Z)<|.yw (.loadMW Z mM mF Z)<|.fn (tl:=[_]) Z<|.yw (.neA bQ4 Z Z Z)<|.nt<|.cd Z (λh24=>?_) (λh24=>?_)
  ·try simp only [dt] at h24
   have hne:¬ l=m:=λe=>by
    subst e;rw [hxE] at hxF;subst hxF;simp at h24
   refine .sr<|.az Z<|.bR<|.tR<|.tR<|.bR<|.tR<|?_
   refine y9 Z Z λW s=>⟨fP ?_,s.ext⟩
   first
    | (rw [bB];exact ⟨λh=>(by cases h),λh=>absurd h hne⟩)
    | (rw [bB];exact ⟨λ_=>heq,λ_=>rfl⟩)
  try simp only [df] at h24
  have heq:l[k]=m[k]:=by
   rw [hxE,hxF];rw [dA2];have h9:=h24;simp [IB] at h9;exact ⟨h9.1,by omega,h9.2.2⟩
  exact .sk<|.bN<|.tN<|.rg<|.yw (.add Z Z w7)<|.mv Z<|.nt<|.ag (k+1) ⟨Z,Jt⟩ ⟨Z,Z,Z,Jt⟩ (λ_ s=>s) ⟨by omega,pJ hk hkm hal heq⟩ (by omega)
 have heq:l=m:=by
  have e:k=l.length:=by omega
  have e2:k=m.length:=by omega
  have h1:=hal;rw [e,aI,hlen,aI] at h1;exact h1
 refine .ex<|.eb<|.sr<|.az Z<|?_
 refine y9 Z Z λW s=>⟨fP ?_,s.ext⟩
 first
  | (rw [bB];exact ⟨λh=>(by cases h),λh=>absurd h hne⟩)
  | (rw [bB];exact ⟨λ_=>heq,λ_=>rfl⟩)
theorem dB0 (H:Hp) (l m:List Str) (v u:Value) (hs:Rep H (.seq 1 (l.map lU)) [v]) (ht:Rep H (.seq 1 (m.map lU)) [u]) (w:World) (hA:Agr H w) :
 Calls prg 123 #[v,u] w λr w'=>r=.returned (.bool (eqP (l=m)))/\Ext w w':=by
 obtain ⟨p,c,e,_⟩:=hs.sl;simp only [aT,bV,aJ] at e;subst e;obtain ⟨p2,c2,e,_⟩:=ht.sl;simp only [aT,bV,aJ] at e;subst e;have hcap:=hs.cap;have hcap2:=ht.cap;refine Sx.enter (H:=H) func123 rfl ntmps123 rfl hA ?_;refine .sr<|.aq Z<|.sq<|.sm Z<|.yw (.lenSl dR Z)<|.mv Z<|.yw (.lenSl dR Z)<|.yw (.neq Z Z)<|.nt<|.ce Z (λh10=>?_) (λh10=>?_)
 ·have hne:¬ l=m:=λe=>by rw [e] at h10;exact h10 rfl
  refine .sr<|.az Z<|.tR<|?_
  refine y9 Z Z λW s=>⟨fP ?_,s.ext⟩
  first
   | (rw [bB];exact ⟨λh=>(by cases h),λh=>absurd h hne⟩)
   | (rw [bB];exact ⟨λ_=>heq,λ_=>rfl⟩)
 have hlen:l.length=m.length:=by omega
 refine .sk<|.tN<|.sq<|.sm Z<|.yw (.lenSl dR Z)<|.mv Z<|.nt<|.bk<|.lp (X:=Nat) [(0,_),(1,_),(12,_)] ⟨Z,Z,Z,Jt⟩ [] (λk=>[(13,iN k)]) (λk=>H) (λk=>[]) (λk=>k<=l.length/\l.take k=m.take k) (λk=>l.length - k) 0 (λ_ s=>s) ⟨Z,Jt⟩ ⟨by omega,Z⟩ λk hC=>?_
 obtain ⟨hk0,hal⟩:=hC;refine .sr<|.yw (.lss Z Z)<|.nt<|.sq<|.ce Z (λh14=>?_) (λh14=>?_)
 ·have hk:k<l.length:=by omega
  have hkm:k<m.length:=by omega
  obtain ⟨bE,oE,cE,hpE,rE,lE,mE⟩:=hs.elem (eL (f:=lU) hk);cases hpE;generalize hxE:l[k]=xE at rE;obtain ⟨rfl,_⟩:=tL rE;obtain ⟨bF,oF,cF,hpF,rF,lF,mF⟩:=ht.elem (eL (f:=lU) hkm);cases hpF;generalize hxF:m[k]=xF at rF;obtain ⟨rfl,_⟩:=tL rF;refine .sk<|.tN<|.sq<|.bk<|.sm Z<|.aq Z<|.sq<|.fL 8 [(0,0),(1,0),(2,0),(3,0),(4,0),(5,0),(6,0),(7,0)]<|.mv Z<|.mv Z<|.yw (.indexSl dR Z Z Z (by omega) (q:=oE+k * 1) Z)<|.yw (.loadM Z bZ mE (k:=0) Z Z)<|.mv Z<|.mv Z<|.yw (.indexSl dR Z Z Z (by omega) (q:=oF+k * 1) Z)<|.yw (.loadM Z bZ mF (k:=0) Z Z)<|.fn (tl:=[_]) Z<|.yw (.neS Z Z)<|.nt<|.ce Z (λh24=>?_) (λh24=>?_)
  ·have hne:¬ l=m:=λe=>by
    subst e;rw [hxE] at hxF;subst hxF;simp at h24
   refine .sr<|.az Z<|.bR<|.tR<|.tR<|.bR<|.tR<|?_
   refine y9 Z Z λW s=>⟨fP ?_,s.ext⟩
   first
    | (rw [bB];exact ⟨λh=>(by cases h),λh=>absurd h hne⟩)
    | (rw [bB];exact ⟨λ_=>heq,λ_=>rfl⟩)
  have heq:l[k]=m[k]:=by
   rw [hxE,hxF];simpa using h24
  exact .sk<|.bN<|.tN<|.rg<|.yw (.add Z Z w7)<|.mv Z<|.nt<|.ag (k+1) ⟨Z,Jt⟩ ⟨Z,Z,Z,Jt⟩ (λ_ s=>s) ⟨by omega,pJ hk hkm hal heq⟩ (by omega)
 have heq:l=m:=by
  have e:k=l.length:=by omega
  have e2:k=m.length:=by omega
  have h1:=hal;rw [e,aI,hlen,aI] at h1;exact h1
 refine .ex<|.eb<|.sr<|.az Z<|?_
 refine y9 Z Z λW s=>⟨fP ?_,s.ext⟩
 first
  | (rw [bB];exact ⟨λh=>(by cases h),λh=>absurd h hne⟩)
  | (rw [bB];exact ⟨λ_=>heq,λ_=>rfl⟩)
theorem MS {a b:Hd} :a=b↔a.nm=b.nm/\a.ps=b.ps/\a.body=b.body:=by cases a;cases b;simp
theorem NA {a b:Cp} :a=b↔a.nm=b.nm/\a.vars=b.vars/\a.vers=b.vers:=by cases a;cases b;simp
theorem BN {a b:Ft} :a=b↔a.nm=b.nm/\a.flags=b.flags/\a.links=b.links/\a.comps=b.comps:=by cases a;cases b;simp
theorem aE4 (H:Hp) (gf:FuncId) (hgf:cU prg gf=true) (l m:List Sm) (hq:∀ a∈l,∀ b,VM gf (dSm .u8) H a b) (v u:Value) (hs:Rep H (.seq 6 (l.map (dSm .u8))) [v]) (ht:Rep H (.seq 6 (m.map (dSm .u8))) [u]) (w:World) (hA:Agr H w) :
 Calls prg 124 #[v,u,.func (.func gf) #[] #[]] w λr w'=>r=.returned (.bool (eqP (l=m)))/\Ext w w':=by
 obtain ⟨p,c,e,_⟩:=hs.sl;simp only [aT,bV,aJ] at e;subst e;obtain ⟨p2,c2,e,_⟩:=ht.sl;simp only [aT,bV,aJ] at e;subst e;have hcap:=hs.cap;have hcap2:=ht.cap;refine Sx.enter (H:=H) func124 rfl ntmps124 rfl hA ?_;refine .sr<|.aq Z<|.sq<|.sm Z<|.yw (.lenSl lH Z)<|.mv Z<|.yw (.lenSl lH Z)<|.yw (.neq Z Z)<|.nt<|.ce Z (λh14=>?_) (λh14=>?_)
 ·have hne:¬ l=m:=λe=>by rw [e] at h14;exact h14 rfl
  refine .sr<|.az Z<|.tR<|?_
  refine y9 Z Z λW s=>⟨fP ?_,s.ext⟩
  first
   | (rw [bB];exact ⟨λh=>(by cases h),λh=>absurd h hne⟩)
   | (rw [bB];exact ⟨λ_=>heq,λ_=>rfl⟩)
 have hlen:l.length=m.length:=by omega
 refine .sk<|.tN<|.sq<|.sm Z<|.yw (.lenSl lH Z)<|.mv Z<|.nt<|.bk<|.lp (X:=Nat) [(1,_),(2,_),(15,_),(16,_)] ⟨Z,Z,Z,Z,Jt⟩ [] (λk=>[(17,iN k)]) (λk=>H) (λk=>[]) (λk=>k<=l.length/\l.take k=m.take k) (λk=>l.length - k) 0 (λ_ s=>s) ⟨Z,Jt⟩ ⟨by omega,Z⟩ λk hC=>?_
 obtain ⟨hk0,hal⟩:=hC;refine .sr<|.yw (.lss Z Z)<|.nt<|.sq<|.ce Z (λh18=>?_) (λh18=>?_)
 ·have hk:k<l.length:=by omega
  have hkm:k<m.length:=by omega
  obtain ⟨bE,oE,cE,hpE,rE,lE,mE⟩:=hs.elem (eL hk);cases hpE;obtain ⟨bF,oF,cF,hpF,rF,lF,mF⟩:=ht.elem (eL hkm);cases hpF;refine .sk<|.tN<|.sq<|.bk<|.sm Z<|.yw (.indexSl lH Z Z Z (by omega) (q:=oE+k * 6) Z)<|.yw (.loadMW Z iO mE lE)<|.al vF Z λb8=>.a Z Z<|.sV .head Z Z lV lE rE.one Z<|.ns<|.mv Z<|.mv Z<|.yw (.indexSl lH Z Z Z (by omega) (q:=oF+k * 6) Z)<|.yw (.loadMW Z iO mF lF)<|.al vF Z λb9=>.sV .head Z Z lV lF rF.one Z<|.ns<|.mv Z<|.yw (.loadW Z iO dN lE)<|.yw (.loadW Z iO Hm lF)<|.yw (.callV (fi:=[]) (ca:=[]) Z hgf Z (λW s=>hq _ (cD hk) _ cE cF W rE rF s.agr))<|.yw (.not Z)<|.nt<|.cd Z (λh30=>?_) (λh30=>?_)
  ·try simp only [dt] at h30
   have hne:¬ l=m:=λe=>by subst e;rw [bB.2 rfl] at h30;cases h30
   refine .sr<|.az Z<|.bR<|.tR<|.tR<|.bR<|.tR<|?_
   refine y9 Z Z λW s=>⟨fP ?_,s.ext⟩
   first
    | (rw [bB];exact ⟨λh=>(by cases h),λh=>absurd h hne⟩)
    | (rw [bB];exact ⟨λ_=>heq,λ_=>rfl⟩)
  try simp only [df] at h30
  have heq:l[k]=m[k]:=bB.1 (by simpa using h30);exact .sk<|.bN<|.tN<|.rg<|.yw (.add Z Z w7)<|.mv Z<|.nt<|.ag (k+1) ⟨Z,Jt⟩ ⟨Z,Z,Z,Z,Jt⟩ (λ_ s=>s.pick [] [] Z Z) ⟨by omega,pJ hk hkm hal heq⟩ (by omega)
 have heq:l=m:=by
  have e:k=l.length:=by omega
  have e2:k=m.length:=by omega
  have h1:=hal;rw [e,aI,hlen,aI] at h1;exact h1
 refine .ex<|.eb<|.sr<|.az Z<|?_
 refine y9 Z Z λW s=>⟨fP ?_,s.ext⟩
 first
  | (rw [bB];exact ⟨λh=>(by cases h),λh=>absurd h hne⟩)
  | (rw [bB];exact ⟨λ_=>heq,λ_=>rfl⟩)
theorem VX (H:Hp) (a:Sm):∀ b,VM 125 (dSm .u8) H a b:=by
 induction a using Sm.ind with | _ kd nm hd ex th el ih1 ih2
 intro b ca cb w ha hb hA;obtain ⟨kd2,nm2,hd2,ex2,th2,el2⟩:=b;obtain ⟨p,c,p1,c1,p2,c2,rfl,k1,k2,k3,_,_⟩:=vR ha;obtain ⟨q,d,q1,d1,q2,d2,rfl,g1,g2,g3,_,_⟩:=vR hb;refine Sx.enter (H:=H) func125 rfl ntmps125 rfl hA ?_;refine .sr<|.bx Z Z Z λb2=>.bx Z Z Z λb3=>.a Z Z<|.ns<|.fA Z jA<|.lD Z FK dN Z<|.fA Z jA<|.lD Z FK Hm Z<|.yw (.eql Z Z)<|.mv Z<|.e2 (λh10=>?_) (λh10=>?_)
 ·have e1:=bT.1 (by omega:kd.toNat=kd2.toNat);refine .gy (.fieldAddr Z kU)<|.gy (.load Z bZ dN Z)<|.gy (.fieldAddr Z kU)<|.gy (.load Z bZ Hm Z)<|.gy (.eqS Z Z)<|.yw (.pickT Z Z)<|.mv Z<|.e2 (λh17=>?_) (λh17=>?_)
  ·have e2:=(id h17:nm=nm2);refine .gy (.fieldAddr Z mT)<|.gy (.load Z bZ dN Z)<|.gy (.fieldAddr Z mT)<|.gy (.load Z bZ Hm Z)<|.gy (.eqS Z Z)<|.yw (.pickT Z Z)<|.mv Z<|.e2 (λh24=>?_) (λh24=>?_)
   ·have e3:=(id h24:hd=hd2);refine .gy (.fieldAddr Z bX)<|.gy (.load Z fR dN Z)<|.gy (.fieldAddr Z bX)<|.gy (.load Z fR Hm Z)<|.gy (.call ZT Z (λW s=>bH6 H 13 ZX ex ex2 (λa _=>VY H a) _ _ k1 g1 W s.agr))<|.yw (.pickT Z Z)<|.mv Z<|.b2 (λh31=>?_) (λh31=>?_)
    ·try simp only [dt] at h31
     have e4:=bB.1 h31;refine .gy (.fieldAddr Z mS)<|.gy (.load Z iP dN Z)<|.gy (.fieldAddr Z mS)<|.gy (.load Z iP Hm Z)<|.gy (.call LT Z (λW s=>aE4 H 125 LS th th2 ih1 _ _ k2 g2 W s.agr))<|.yw (.pickT Z Z)<|.mv Z<|.b2 (λh38=>?_) (λh38=>?_)
     ·try simp only [dt] at h38
      have e5:=bB.1 h38;refine .gy (.fieldAddr Z jZ)<|.gy (.load Z iP dN Z)<|.gy (.fieldAddr Z jZ)<|.gy (.load Z iP Hm Z)<|.gy (.call LT Z (λW s=>aE4 H 125 LS el el2 ih2 _ _ k3 g3 W s.agr))<|.yw (.pickT Z Z)<|.az Z<|?_
      refine y9 Z Z λW s=>⟨fP ?_,s.ext⟩
      first
       | (rw [bB,bB,Sm.mk.injEq];exact ⟨λd=>⟨e1,e2,e3,e4,e5,d⟩,λh=>h.2.2.2.2.2⟩)
       | (rw [bB,Sm.mk.injEq];exact ⟨λh=>(by cases h),λh=>absurd h.1 e1⟩)
       | (rw [bB,Sm.mk.injEq];exact ⟨λh=>(by cases h),λh=>absurd h.2.1 e2⟩)
       | (rw [bB,Sm.mk.injEq];exact ⟨λh=>(by cases h),λh=>absurd h.2.2.1 e3⟩)
       | (rw [bB,Sm.mk.injEq];exact ⟨λh=>(by cases h),λh=>absurd h.2.2.2.1 e4⟩)
       | (rw [bB,Sm.mk.injEq];exact ⟨λh=>(by cases h),λh=>absurd h.2.2.2.2.1 e5⟩)
     try simp only [df] at h38
     have e5:=CA.1 h38;refine .gG<|.gG<|.gG<|.gG<|.gG<|.yw (.pickF Z Z)<|.az Z<|?_
     refine y9 Z Z λW s=>⟨fP ?_,s.ext⟩
     first
      | (rw [bB,bB,Sm.mk.injEq];exact ⟨λd=>⟨e1,e2,e3,e4,e5,d⟩,λh=>h.2.2.2.2.2⟩)
      | (rw [bB,Sm.mk.injEq];exact ⟨λh=>(by cases h),λh=>absurd h.1 e1⟩)
      | (rw [bB,Sm.mk.injEq];exact ⟨λh=>(by cases h),λh=>absurd h.2.1 e2⟩)
      | (rw [bB,Sm.mk.injEq];exact ⟨λh=>(by cases h),λh=>absurd h.2.2.1 e3⟩)
      | (rw [bB,Sm.mk.injEq];exact ⟨λh=>(by cases h),λh=>absurd h.2.2.2.1 e4⟩)
      | (rw [bB,Sm.mk.injEq];exact ⟨λh=>(by cases h),λh=>absurd h.2.2.2.2.1 e5⟩)
    try simp only [df] at h31
    have e4:=CA.1 h31;refine .gG<|.gG<|.gG<|.gG<|.gG<|.yw (.pickF Z Z)<|.mv Z<|.gG<|.gG<|.gG<|.gG<|.gG<|.yw (.pickF Z Z)<|.az Z<|?_
    refine y9 Z Z λW s=>⟨fP ?_,s.ext⟩
    first
     | (rw [bB,bB,Sm.mk.injEq];exact ⟨λd=>⟨e1,e2,e3,e4,e5,d⟩,λh=>h.2.2.2.2.2⟩)
     | (rw [bB,Sm.mk.injEq];exact ⟨λh=>(by cases h),λh=>absurd h.1 e1⟩)
     | (rw [bB,Sm.mk.injEq];exact ⟨λh=>(by cases h),λh=>absurd h.2.1 e2⟩)
     | (rw [bB,Sm.mk.injEq];exact ⟨λh=>(by cases h),λh=>absurd h.2.2.1 e3⟩)
     | (rw [bB,Sm.mk.injEq];exact ⟨λh=>(by cases h),λh=>absurd h.2.2.2.1 e4⟩)
     | (rw [bB,Sm.mk.injEq];exact ⟨λh=>(by cases h),λh=>absurd h.2.2.2.2.1 e5⟩)
   have e3:=(id h24:¬ hd=hd2);refine .gG<|.gG<|.gG<|.gG<|.gG<|.yw (.pickF Z Z)<|.mv Z<|.gG<|.gG<|.gG<|.gG<|.gG<|.yw (.pickF Z Z)<|.mv Z<|.gG<|.gG<|.gG<|.gG<|.gG<|.yw (.pickF Z Z)<|.az Z<|?_
   refine y9 Z Z λW s=>⟨fP ?_,s.ext⟩
   first
    | (rw [bB,bB,Sm.mk.injEq];exact ⟨λd=>⟨e1,e2,e3,e4,e5,d⟩,λh=>h.2.2.2.2.2⟩)
    | (rw [bB,Sm.mk.injEq];exact ⟨λh=>(by cases h),λh=>absurd h.1 e1⟩)
    | (rw [bB,Sm.mk.injEq];exact ⟨λh=>(by cases h),λh=>absurd h.2.1 e2⟩)
    | (rw [bB,Sm.mk.injEq];exact ⟨λh=>(by cases h),λh=>absurd h.2.2.1 e3⟩)
    | (rw [bB,Sm.mk.injEq];exact ⟨λh=>(by cases h),λh=>absurd h.2.2.2.1 e4⟩)
    | (rw [bB,Sm.mk.injEq];exact ⟨λh=>(by cases h),λh=>absurd h.2.2.2.2.1 e5⟩)
  have e2:=(id h17:¬ nm=nm2);refine .gG<|.gG<|.gG<|.gG<|.gG<|.yw (.pickF Z Z)<|.mv Z<|.gG<|.gG<|.gG<|.gG<|.gG<|.yw (.pickF Z Z)<|.mv Z<|.gG<|.gG<|.gG<|.gG<|.gG<|.yw (.pickF Z Z)<|.mv Z<|.gG<|.gG<|.gG<|.gG<|.gG<|.yw (.pickF Z Z)<|.az Z<|?_
  refine y9 Z Z λW s=>⟨fP ?_,s.ext⟩
  first
   | (rw [bB,bB,Sm.mk.injEq];exact ⟨λd=>⟨e1,e2,e3,e4,e5,d⟩,λh=>h.2.2.2.2.2⟩)
   | (rw [bB,Sm.mk.injEq];exact ⟨λh=>(by cases h),λh=>absurd h.1 e1⟩)
   | (rw [bB,Sm.mk.injEq];exact ⟨λh=>(by cases h),λh=>absurd h.2.1 e2⟩)
   | (rw [bB,Sm.mk.injEq];exact ⟨λh=>(by cases h),λh=>absurd h.2.2.1 e3⟩)
   | (rw [bB,Sm.mk.injEq];exact ⟨λh=>(by cases h),λh=>absurd h.2.2.2.1 e4⟩)
   | (rw [bB,Sm.mk.injEq];exact ⟨λh=>(by cases h),λh=>absurd h.2.2.2.2.1 e5⟩)
 have e1:=(λe=>h10 (by rw [e]):¬ kd=kd2);refine .gG<|.gG<|.gG<|.gG<|.gG<|.yw (.pickF Z Z)<|.mv Z<|.gG<|.gG<|.gG<|.gG<|.gG<|.yw (.pickF Z Z)<|.mv Z<|.gG<|.gG<|.gG<|.gG<|.gG<|.yw (.pickF Z Z)<|.mv Z<|.gG<|.gG<|.gG<|.gG<|.gG<|.yw (.pickF Z Z)<|.mv Z<|.gG<|.gG<|.gG<|.gG<|.gG<|.yw (.pickF Z Z)<|.az Z<|?_
 refine y9 Z Z λW s=>⟨fP ?_,s.ext⟩
 first
  | (rw [bB,bB,Sm.mk.injEq];exact ⟨λd=>⟨e1,e2,e3,e4,e5,d⟩,λh=>h.2.2.2.2.2⟩)
  | (rw [bB,Sm.mk.injEq];exact ⟨λh=>(by cases h),λh=>absurd h.1 e1⟩)
  | (rw [bB,Sm.mk.injEq];exact ⟨λh=>(by cases h),λh=>absurd h.2.1 e2⟩)
  | (rw [bB,Sm.mk.injEq];exact ⟨λh=>(by cases h),λh=>absurd h.2.2.1 e3⟩)
  | (rw [bB,Sm.mk.injEq];exact ⟨λh=>(by cases h),λh=>absurd h.2.2.2.1 e4⟩)
  | (rw [bB,Sm.mk.injEq];exact ⟨λh=>(by cases h),λh=>absurd h.2.2.2.2.1 e5⟩)
theorem cP7 (H:Hp) (gf:FuncId) (hgf:cU prg gf=true) (l m:List Hd) (hq:∀ a∈l,∀ b,VM gf (dHd .u8) H a b) (v u:Value) (hs:Rep H (.seq 3 (l.map (dHd .u8))) [v]) (ht:Rep H (.seq 3 (m.map (dHd .u8))) [u]) (w:World) (hA:Agr H w) :
 Calls prg 81 #[v,u,.func (.func gf) #[] #[]] w λr w'=>r=.returned (.bool (eqP (l=m)))/\Ext w w':=by
 obtain ⟨p,c,e,_⟩:=hs.sl;simp only [aT,bV,aJ] at e;subst e;obtain ⟨p2,c2,e,_⟩:=ht.sl;simp only [aT,bV,aJ] at e;subst e;have hcap:=hs.cap;have hcap2:=ht.cap;refine Sx.enter (H:=H) func81 rfl ntmps81 rfl hA ?_;refine .sr<|.aq Z<|.sq<|.sm Z<|.yw (.lenSl vH Z)<|.mv Z<|.yw (.lenSl vH Z)<|.yw (.neq Z Z)<|.nt<|.ce Z (λh14=>?_) (λh14=>?_)
 ·have hne:¬ l=m:=λe=>by rw [e] at h14;exact h14 rfl
  refine .sr<|.az Z<|.tR<|?_
  refine y9 Z Z λW s=>⟨fP ?_,s.ext⟩
  first
   | (rw [bB];exact ⟨λh=>(by cases h),λh=>absurd h hne⟩)
   | (rw [bB];exact ⟨λ_=>heq,λ_=>rfl⟩)
 have hlen:l.length=m.length:=by omega
 refine .sk<|.tN<|.sq<|.sm Z<|.yw (.lenSl vH Z)<|.mv Z<|.nt<|.bk<|.lp (X:=Nat) [(1,_),(2,_),(15,_),(16,_)] ⟨Z,Z,Z,Z,Jt⟩ [] (λk=>[(17,iN k)]) (λk=>H) (λk=>[]) (λk=>k<=l.length/\l.take k=m.take k) (λk=>l.length - k) 0 (λ_ s=>s) ⟨Z,Jt⟩ ⟨by omega,Z⟩ λk hC=>?_
 obtain ⟨hk0,hal⟩:=hC;refine .sr<|.yw (.lss Z Z)<|.nt<|.sq<|.ce Z (λh18=>?_) (λh18=>?_)
 ·have hk:k<l.length:=by omega
  have hkm:k<m.length:=by omega
  obtain ⟨bE,oE,cE,hpE,rE,lE,mE⟩:=hs.elem (eL hk);cases hpE;obtain ⟨bF,oF,cF,hpF,rF,lF,mF⟩:=ht.elem (eL hkm);cases hpF;refine .sk<|.tN<|.sq<|.bk<|.sm Z<|.yw (.indexSl vH Z Z Z (by omega) (q:=oE+k * 3) Z)<|.yw (.loadMW Z wB mE lE)<|.al zL Z λb8=>.a Z Z<|.sV .head Z Z zN lE rE.one Z<|.ns<|.mv Z<|.mv Z<|.yw (.indexSl vH Z Z Z (by omega) (q:=oF+k * 3) Z)<|.yw (.loadMW Z wB mF lF)<|.al zL Z λb9=>.sV .head Z Z zN lF rF.one Z<|.ns<|.mv Z<|.yw (.loadW Z wB dN lE)<|.yw (.loadW Z wB Hm lF)<|.yw (.callV (fi:=[]) (ca:=[]) Z hgf Z (λW s=>hq _ (cD hk) _ cE cF W rE rF s.agr))<|.yw (.not Z)<|.nt<|.cd Z (λh30=>?_) (λh30=>?_)
  ·try simp only [dt] at h30
   have hne:¬ l=m:=λe=>by subst e;rw [bB.2 rfl] at h30;cases h30
   refine .sr<|.az Z<|.bR<|.tR<|.tR<|.bR<|.tR<|?_
   refine y9 Z Z λW s=>⟨fP ?_,s.ext⟩
   first
    | (rw [bB];exact ⟨λh=>(by cases h),λh=>absurd h hne⟩)
    | (rw [bB];exact ⟨λ_=>heq,λ_=>rfl⟩)
  try simp only [df] at h30
  have heq:l[k]=m[k]:=bB.1 (by simpa using h30);exact .sk<|.bN<|.tN<|.rg<|.yw (.add Z Z w7)<|.mv Z<|.nt<|.ag (k+1) ⟨Z,Jt⟩ ⟨Z,Z,Z,Z,Jt⟩ (λ_ s=>s.pick [] [] Z Z) ⟨by omega,pJ hk hkm hal heq⟩ (by omega)
 have heq:l=m:=by
  have e:k=l.length:=by omega
  have e2:k=m.length:=by omega
  have h1:=hal;rw [e,aI,hlen,aI] at h1;exact h1
 refine .ex<|.eb<|.sr<|.az Z<|?_
 refine y9 Z Z λW s=>⟨fP ?_,s.ext⟩
 first
  | (rw [bB];exact ⟨λh=>(by cases h),λh=>absurd h hne⟩)
  | (rw [bB];exact ⟨λ_=>heq,λ_=>rfl⟩)
theorem OQ (H:Hp) (a b:Hd):VM 82 (dHd .u8) H a b:=by
 intro ca cb w ha hb hA;obtain ⟨p1,c1,p2,c2,rfl,_,k1,k2⟩:=DR ha;obtain ⟨q1,d1,q2,d2,rfl,_,g1,g2⟩:=DR hb;refine Sx.enter (H:=H) func82 rfl ntmps82 rfl hA ?_;refine .sr<|.bx Z Z Z λb2=>.bx Z Z Z λb3=>.a Z Z<|.ns<|.fA Z wX<|.lD Z bZ dN Z<|.fA Z wX<|.lD Z bZ Hm Z<|.yw (.eqS Z Z)<|.mv Z<|.e2 (λh10=>?_) (λh10=>?_)
 ·have e1:=(id h10:a.nm=b.nm);refine .gy (.fieldAddr Z pW)<|.gy (.load Z rD dN Z)<|.gy (.fieldAddr Z pW)<|.gy (.load Z rD Hm Z)<|.gy (.call bA6 Z (λW s=>dB0 H a.ps b.ps _ _ k1 g1 W s.agr))<|.yw (.pickT Z Z)<|.mv Z<|.b2 (λh17=>?_) (λh17=>?_)
  ·try simp only [dt] at h17
   have e2:=bB.1 h17;refine .gy (.fieldAddr Z nV)<|.gy (.load Z iP dN Z)<|.gy (.fieldAddr Z nV)<|.gy (.load Z iP Hm Z)<|.gy (.call LT Z (λW s=>aE4 H 125 LS a.body b.body (λx _=>VX H x) _ _ k2 g2 W s.agr))<|.yw (.pickT Z Z)<|.az Z<|?_
   refine y9 Z Z λW s=>⟨fP ?_,s.ext⟩
   first
    | (rw [bB,bB,MS];exact ⟨λd=>⟨e1,e2,d⟩,λh=>h.2.2⟩)
    | (rw [bB,MS];exact ⟨λh=>(by cases h),λh=>absurd h.1 e1⟩)
    | (rw [bB,MS];exact ⟨λh=>(by cases h),λh=>absurd h.2.1 e2⟩)
  try simp only [df] at h17
  have e2:=CA.1 h17;refine .gG<|.gG<|.gG<|.gG<|.gG<|.yw (.pickF Z Z)<|.az Z<|?_
  refine y9 Z Z λW s=>⟨fP ?_,s.ext⟩
  first
   | (rw [bB,bB,MS];exact ⟨λd=>⟨e1,e2,d⟩,λh=>h.2.2⟩)
   | (rw [bB,MS];exact ⟨λh=>(by cases h),λh=>absurd h.1 e1⟩)
   | (rw [bB,MS];exact ⟨λh=>(by cases h),λh=>absurd h.2.1 e2⟩)
 have e1:=(id h10:¬ a.nm=b.nm);refine .gG<|.gG<|.gG<|.gG<|.gG<|.yw (.pickF Z Z)<|.mv Z<|.gG<|.gG<|.gG<|.gG<|.gG<|.yw (.pickF Z Z)<|.az Z<|?_
 refine y9 Z Z λW s=>⟨fP ?_,s.ext⟩
 first
  | (rw [bB,bB,MS];exact ⟨λd=>⟨e1,e2,d⟩,λh=>h.2.2⟩)
  | (rw [bB,MS];exact ⟨λh=>(by cases h),λh=>absurd h.1 e1⟩)
  | (rw [bB,MS];exact ⟨λh=>(by cases h),λh=>absurd h.2.1 e2⟩)
theorem cP6 (H:Hp) (gf:FuncId) (hgf:cU prg gf=true) (l m:List (List Hd)) (hq:∀ a∈l,∀ b,VM gf (dVs .u8) H a b) (v u:Value) (hs:Rep H (.seq 1 (l.map (dVs .u8))) [v]) (ht:Rep H (.seq 1 (m.map (dVs .u8))) [u]) (w:World) (hA:Agr H w) :
 Calls prg 79 #[v,u,.func (.func gf) #[] #[]] w λr w'=>r=.returned (.bool (eqP (l=m)))/\Ext w w':=by
 obtain ⟨p,c,e,_⟩:=hs.sl;simp only [aT,bV,aJ] at e;subst e;obtain ⟨p2,c2,e,_⟩:=ht.sl;simp only [aT,bV,aJ] at e;subst e;have hcap:=hs.cap;have hcap2:=ht.cap;refine Sx.enter (H:=H) func79 rfl ntmps79 rfl hA ?_;refine .sr<|.aq Z<|.sq<|.sm Z<|.yw (.lenSl tS Z)<|.mv Z<|.yw (.lenSl tS Z)<|.yw (.neq Z Z)<|.nt<|.ce Z (λh14=>?_) (λh14=>?_)
 ·have hne:¬ l=m:=λe=>by rw [e] at h14;exact h14 rfl
  refine .sr<|.az Z<|.tR<|?_
  refine y9 Z Z λW s=>⟨fP ?_,s.ext⟩
  first
   | (rw [bB];exact ⟨λh=>(by cases h),λh=>absurd h hne⟩)
   | (rw [bB];exact ⟨λ_=>heq,λ_=>rfl⟩)
 have hlen:l.length=m.length:=by omega
 refine .sk<|.tN<|.sq<|.sm Z<|.yw (.lenSl tS Z)<|.mv Z<|.nt<|.bk<|.lp (X:=Nat) [(1,_),(2,_),(15,_),(16,_)] ⟨Z,Z,Z,Z,Jt⟩ [] (λk=>[(17,iN k)]) (λk=>H) (λk=>[]) (λk=>k<=l.length/\l.take k=m.take k) (λk=>l.length - k) 0 (λ_ s=>s) ⟨Z,Jt⟩ ⟨by omega,Z⟩ λk hC=>?_
 obtain ⟨hk0,hal⟩:=hC;refine .sr<|.yw (.lss Z Z)<|.nt<|.sq<|.ce Z (λh18=>?_) (λh18=>?_)
 ·have hk:k<l.length:=by omega
  have hkm:k<m.length:=by omega
  obtain ⟨bE,oE,cE,hpE,rE,lE,mE⟩:=hs.elem (eL hk);cases hpE;obtain ⟨bF,oF,cF,hpF,rF,lF,mF⟩:=ht.elem (eL hkm);cases hpF;refine .sk<|.tN<|.sq<|.bk<|.sm Z<|.yw (.indexSl tS Z Z Z (by omega) (q:=oE+k * 1) Z)<|.yw (.loadMW Z qU mE lE)<|.al vG Z λb8=>.a Z Z<|.sV .head Z Z zQ lE rE.one Z<|.ns<|.mv Z<|.mv Z<|.yw (.indexSl tS Z Z Z (by omega) (q:=oF+k * 1) Z)<|.yw (.loadMW Z qU mF lF)<|.al vG Z λb9=>.sV .head Z Z zQ lF rF.one Z<|.ns<|.mv Z<|.yw (.loadW Z qU dN lE)<|.yw (.loadW Z qU Hm lF)<|.yw (.callV (fi:=[]) (ca:=[]) Z hgf Z (λW s=>hq _ (cD hk) _ cE cF W rE rF s.agr))<|.yw (.not Z)<|.nt<|.cd Z (λh30=>?_) (λh30=>?_)
  ·try simp only [dt] at h30
   have hne:¬ l=m:=λe=>by subst e;rw [bB.2 rfl] at h30;cases h30
   refine .sr<|.az Z<|.bR<|.tR<|.tR<|.bR<|.tR<|?_
   refine y9 Z Z λW s=>⟨fP ?_,s.ext⟩
   first
    | (rw [bB];exact ⟨λh=>(by cases h),λh=>absurd h hne⟩)
    | (rw [bB];exact ⟨λ_=>heq,λ_=>rfl⟩)
  try simp only [df] at h30
  have heq:l[k]=m[k]:=bB.1 (by simpa using h30);exact .sk<|.bN<|.tN<|.rg<|.yw (.add Z Z w7)<|.mv Z<|.nt<|.ag (k+1) ⟨Z,Jt⟩ ⟨Z,Z,Z,Z,Jt⟩ (λ_ s=>s.pick [] [] Z Z) ⟨by omega,pJ hk hkm hal heq⟩ (by omega)
 have heq:l=m:=by
  have e:k=l.length:=by omega
  have e2:k=m.length:=by omega
  have h1:=hal;rw [e,aI,hlen,aI] at h1;exact h1
 refine .ex<|.eb<|.sr<|.az Z<|?_
 refine y9 Z Z λW s=>⟨fP ?_,s.ext⟩
 first
  | (rw [bB];exact ⟨λh=>(by cases h),λh=>absurd h hne⟩)
  | (rw [bB];exact ⟨λ_=>heq,λ_=>rfl⟩)
theorem OP (H:Hp) (a b:List Hd):VM 80 (dVs .u8) H a b:=by
 intro ca cb w ha hb hA;obtain ⟨p1,c1,rfl,k1⟩:=HW ha;obtain ⟨q1,d1,rfl,g1⟩:=HW hb;refine Sx.enter (H:=H) func80 rfl ntmps80 rfl hA ?_;refine .sr<|.bx Z Z Z λb2=>.bx Z Z Z λb3=>.a Z Z<|.ns<|.fA Z mU<|.lD Z yI dN Z<|.fA Z mU<|.lD Z yI Hm Z<|.yw (.call bR2 Z (λW s=>cP7 H 82 bR1 a b (λx _=>OQ H x) _ _ k1 g1 W s.agr))<|.az Z<|?_
 exact y9 Z Z λW s=>⟨Z,s.ext⟩
theorem LC (H:Hp) (a b:Cp):VM 42 (dCp .u8) H a b:=by
 intro ca cb w ha hb hA;obtain ⟨p1,c1,p2,c2,rfl,_,k1,k2⟩:=BW ha;obtain ⟨q1,d1,q2,d2,rfl,_,g1,g2⟩:=BW hb;refine Sx.enter (H:=H) func42 rfl ntmps42 rfl hA ?_;refine .sr<|.bx Z Z Z λb2=>.bx Z Z Z λb3=>.a Z Z<|.ns<|.fA Z xC<|.lD Z bZ dN Z<|.fA Z xC<|.lD Z bZ Hm Z<|.yw (.eqS Z Z)<|.mv Z<|.e2 (λh10=>?_) (λh10=>?_)
 ·have e1:=(id h10:a.nm=b.nm);refine .gy (.fieldAddr Z kW)<|.gy (.load Z uG dN Z)<|.gy (.fieldAddr Z kW)<|.gy (.load Z uG Hm Z)<|.gy (.call bR5 Z (λW s=>dA9 H a.vars b.vars _ _ k1 g1 W s.agr))<|.yw (.pickT Z Z)<|.mv Z<|.b2 (λh17=>?_) (λh17=>?_)
  ·try simp only [dt] at h17
   have e2:=bB.1 h17;refine .gy (.fieldAddr Z kV)<|.gy (.load Z wC dN Z)<|.gy (.fieldAddr Z kV)<|.gy (.load Z wC Hm Z)<|.gy (.call bR4 Z (λW s=>cP6 H 80 bR3 a.vers b.vers (λx _=>OP H x) _ _ k2 g2 W s.agr))<|.yw (.pickT Z Z)<|.az Z<|?_
   refine y9 Z Z λW s=>⟨fP ?_,s.ext⟩
   first
    | (rw [bB,bB,NA];exact ⟨λd=>⟨e1,e2,d⟩,λh=>h.2.2⟩)
    | (rw [bB,NA];exact ⟨λh=>(by cases h),λh=>absurd h.1 e1⟩)
    | (rw [bB,NA];exact ⟨λh=>(by cases h),λh=>absurd h.2.1 e2⟩)
  try simp only [df] at h17
  have e2:=CA.1 h17;refine .gG<|.gG<|.gG<|.gG<|.gG<|.yw (.pickF Z Z)<|.az Z<|?_
  refine y9 Z Z λW s=>⟨fP ?_,s.ext⟩
  first
   | (rw [bB,bB,NA];exact ⟨λd=>⟨e1,e2,d⟩,λh=>h.2.2⟩)
   | (rw [bB,NA];exact ⟨λh=>(by cases h),λh=>absurd h.1 e1⟩)
   | (rw [bB,NA];exact ⟨λh=>(by cases h),λh=>absurd h.2.1 e2⟩)
 have e1:=(id h10:¬ a.nm=b.nm);refine .gG<|.gG<|.gG<|.gG<|.gG<|.yw (.pickF Z Z)<|.mv Z<|.gG<|.gG<|.gG<|.gG<|.gG<|.yw (.pickF Z Z)<|.az Z<|?_
 refine y9 Z Z λW s=>⟨fP ?_,s.ext⟩
 first
  | (rw [bB,bB,NA];exact ⟨λd=>⟨e1,e2,d⟩,λh=>h.2.2⟩)
  | (rw [bB,NA];exact ⟨λh=>(by cases h),λh=>absurd h.1 e1⟩)
  | (rw [bB,NA];exact ⟨λh=>(by cases h),λh=>absurd h.2.1 e2⟩)
theorem cP8 (H:Hp) (gf:FuncId) (hgf:cU prg gf=true) (l m:List Cp) (hq:∀ a∈l,∀ b,VM gf (dCp .u8) H a b) (v u:Value) (hs:Rep H (.seq 3 (l.map (dCp .u8))) [v]) (ht:Rep H (.seq 3 (m.map (dCp .u8))) [u]) (w:World) (hA:Agr H w) :
 Calls prg 41 #[v,u,.func (.func gf) #[] #[]] w λr w'=>r=.returned (.bool (eqP (l=m)))/\Ext w w':=by
 obtain ⟨p,c,e,_⟩:=hs.sl;simp only [aT,bV,aJ] at e;subst e;obtain ⟨p2,c2,e,_⟩:=ht.sl;simp only [aT,bV,aJ] at e;subst e;have hcap:=hs.cap;have hcap2:=ht.cap;refine Sx.enter (H:=H) func41 rfl ntmps41 rfl hA ?_;refine .sr<|.aq Z<|.sq<|.sm Z<|.yw (.lenSl rZ Z)<|.mv Z<|.yw (.lenSl rZ Z)<|.yw (.neq Z Z)<|.nt<|.ce Z (λh14=>?_) (λh14=>?_)
 ·have hne:¬ l=m:=λe=>by rw [e] at h14;exact h14 rfl
  refine .sr<|.az Z<|.tR<|?_
  refine y9 Z Z λW s=>⟨fP ?_,s.ext⟩
  first
   | (rw [bB];exact ⟨λh=>(by cases h),λh=>absurd h hne⟩)
   | (rw [bB];exact ⟨λ_=>heq,λ_=>rfl⟩)
 have hlen:l.length=m.length:=by omega
 refine .sk<|.tN<|.sq<|.sm Z<|.yw (.lenSl rZ Z)<|.mv Z<|.nt<|.bk<|.lp (X:=Nat) [(1,_),(2,_),(15,_),(16,_)] ⟨Z,Z,Z,Z,Jt⟩ [] (λk=>[(17,iN k)]) (λk=>H) (λk=>[]) (λk=>k<=l.length/\l.take k=m.take k) (λk=>l.length - k) 0 (λ_ s=>s) ⟨Z,Jt⟩ ⟨by omega,Z⟩ λk hC=>?_
 obtain ⟨hk0,hal⟩:=hC;refine .sr<|.yw (.lss Z Z)<|.nt<|.sq<|.ce Z (λh18=>?_) (λh18=>?_)
 ·have hk:k<l.length:=by omega
  have hkm:k<m.length:=by omega
  obtain ⟨bE,oE,cE,hpE,rE,lE,mE⟩:=hs.elem (eL hk);cases hpE;obtain ⟨bF,oF,cF,hpF,rF,lF,mF⟩:=ht.elem (eL hkm);cases hpF;refine .sk<|.tN<|.sq<|.bk<|.sm Z<|.yw (.indexSl rZ Z Z Z (by omega) (q:=oE+k * 3) Z)<|.yw (.loadMW Z qD mE lE)<|.al tC Z λb8=>.a Z Z<|.sV .head Z Z vI lE rE.one Z<|.ns<|.mv Z<|.mv Z<|.yw (.indexSl rZ Z Z Z (by omega) (q:=oF+k * 3) Z)<|.yw (.loadMW Z qD mF lF)<|.al tC Z λb9=>.sV .head Z Z vI lF rF.one Z<|.ns<|.mv Z<|.yw (.loadW Z qD dN lE)<|.yw (.loadW Z qD Hm lF)<|.yw (.callV (fi:=[]) (ca:=[]) Z hgf Z (λW s=>hq _ (cD hk) _ cE cF W rE rF s.agr))<|.yw (.not Z)<|.nt<|.cd Z (λh30=>?_) (λh30=>?_)
  ·try simp only [dt] at h30
   have hne:¬ l=m:=λe=>by subst e;rw [bB.2 rfl] at h30;cases h30
   refine .sr<|.az Z<|.bR<|.tR<|.tR<|.bR<|.tR<|?_
   refine y9 Z Z λW s=>⟨fP ?_,s.ext⟩
   first
    | (rw [bB];exact ⟨λh=>(by cases h),λh=>absurd h hne⟩)
    | (rw [bB];exact ⟨λ_=>heq,λ_=>rfl⟩)
  try simp only [df] at h30
  have heq:l[k]=m[k]:=bB.1 (by simpa using h30);exact .sk<|.bN<|.tN<|.rg<|.yw (.add Z Z w7)<|.mv Z<|.nt<|.ag (k+1) ⟨Z,Jt⟩ ⟨Z,Z,Z,Z,Jt⟩ (λ_ s=>s.pick [] [] Z Z) ⟨by omega,pJ hk hkm hal heq⟩ (by omega)
 have heq:l=m:=by
  have e:k=l.length:=by omega
  have e2:k=m.length:=by omega
  have h1:=hal;rw [e,aI,hlen,aI] at h1;exact h1
 refine .ex<|.eb<|.sr<|.az Z<|?_
 refine y9 Z Z λW s=>⟨fP ?_,s.ext⟩
 first
  | (rw [bB];exact ⟨λh=>(by cases h),λh=>absurd h hne⟩)
  | (rw [bB];exact ⟨λ_=>heq,λ_=>rfl⟩)
theorem bO0 (H:Hp) (a b:Ft):VM 20 (dFt .u8) H a b:=by
 intro ca cb w ha hb hA;obtain ⟨p1,c1,p2,c2,p3,c3,rfl,_,k1,k2,k3⟩:=AC ha;obtain ⟨q1,d1,q2,d2,q3,d3,rfl,_,g1,g2,g3⟩:=AC hb;refine Sx.enter (H:=H) func20 rfl ntmps20 rfl hA ?_;refine .sr<|.bx Z Z Z λb2=>.bx Z Z Z λb3=>.a Z Z<|.ns<|.fA Z yS<|.lD Z bZ dN Z<|.fA Z yS<|.lD Z bZ Hm Z<|.yw (.eqS Z Z)<|.mv Z<|.e2 (λh10=>?_) (λh10=>?_)
 ·have e1:=(id h10:a.nm=b.nm);refine .gy (.fieldAddr Z pQ)<|.gy (.load Z DF dN Z)<|.gy (.fieldAddr Z pQ)<|.gy (.load Z DF Hm Z)<|.gy (.call bT2 Z (λW s=>dB2 H a.flags b.flags _ _ k1 g1 W s.agr))<|.yw (.pickT Z Z)<|.mv Z<|.b2 (λh17=>?_) (λh17=>?_)
  ·try simp only [dt] at h17
   have e2:=bB.1 h17;refine .gy (.fieldAddr Z nU)<|.gy (.load Z AZ dN Z)<|.gy (.fieldAddr Z nU)<|.gy (.load Z AZ Hm Z)<|.gy (.call bT1 Z (λW s=>dB1 H a.links b.links _ _ k2 g2 W s.agr))<|.yw (.pickT Z Z)<|.mv Z<|.b2 (λh24=>?_) (λh24=>?_)
   ·try simp only [dt] at h24
    have e3:=bB.1 h24;refine .gy (.fieldAddr Z kM)<|.gy (.load Z vL dN Z)<|.gy (.fieldAddr Z kM)<|.gy (.load Z vL Hm Z)<|.gy (.call bT0 Z (λW s=>cP8 H 42 bS9 a.comps b.comps (λx _=>LC H x) _ _ k3 g3 W s.agr))<|.yw (.pickT Z Z)<|.az Z<|?_
    refine y9 Z Z λW s=>⟨fP ?_,s.ext⟩
    first
     | (rw [bB,bB,BN];exact ⟨λd=>⟨e1,e2,e3,d⟩,λh=>h.2.2.2⟩)
     | (rw [bB,BN];exact ⟨λh=>(by cases h),λh=>absurd h.1 e1⟩)
     | (rw [bB,BN];exact ⟨λh=>(by cases h),λh=>absurd h.2.1 e2⟩)
     | (rw [bB,BN];exact ⟨λh=>(by cases h),λh=>absurd h.2.2.1 e3⟩)
   try simp only [df] at h24
   have e3:=CA.1 h24;refine .gG<|.gG<|.gG<|.gG<|.gG<|.yw (.pickF Z Z)<|.az Z<|?_
   refine y9 Z Z λW s=>⟨fP ?_,s.ext⟩
   first
    | (rw [bB,bB,BN];exact ⟨λd=>⟨e1,e2,e3,d⟩,λh=>h.2.2.2⟩)
    | (rw [bB,BN];exact ⟨λh=>(by cases h),λh=>absurd h.1 e1⟩)
    | (rw [bB,BN];exact ⟨λh=>(by cases h),λh=>absurd h.2.1 e2⟩)
    | (rw [bB,BN];exact ⟨λh=>(by cases h),λh=>absurd h.2.2.1 e3⟩)
  try simp only [df] at h17
  have e2:=CA.1 h17;refine .gG<|.gG<|.gG<|.gG<|.gG<|.yw (.pickF Z Z)<|.mv Z<|.gG<|.gG<|.gG<|.gG<|.gG<|.yw (.pickF Z Z)<|.az Z<|?_
  refine y9 Z Z λW s=>⟨fP ?_,s.ext⟩
  first
   | (rw [bB,bB,BN];exact ⟨λd=>⟨e1,e2,e3,d⟩,λh=>h.2.2.2⟩)
   | (rw [bB,BN];exact ⟨λh=>(by cases h),λh=>absurd h.1 e1⟩)
   | (rw [bB,BN];exact ⟨λh=>(by cases h),λh=>absurd h.2.1 e2⟩)
   | (rw [bB,BN];exact ⟨λh=>(by cases h),λh=>absurd h.2.2.1 e3⟩)
 have e1:=(id h10:¬ a.nm=b.nm);refine .gG<|.gG<|.gG<|.gG<|.gG<|.yw (.pickF Z Z)<|.mv Z<|.gG<|.gG<|.gG<|.gG<|.gG<|.yw (.pickF Z Z)<|.mv Z<|.gG<|.gG<|.gG<|.gG<|.gG<|.yw (.pickF Z Z)<|.az Z<|?_
 refine y9 Z Z λW s=>⟨fP ?_,s.ext⟩
 first
  | (rw [bB,bB,BN];exact ⟨λd=>⟨e1,e2,e3,d⟩,λh=>h.2.2.2⟩)
  | (rw [bB,BN];exact ⟨λh=>(by cases h),λh=>absurd h.1 e1⟩)
  | (rw [bB,BN];exact ⟨λh=>(by cases h),λh=>absurd h.2.1 e2⟩)
  | (rw [bB,BN];exact ⟨λh=>(by cases h),λh=>absurd h.2.2.1 e3⟩)
def VQ (N:Nat):Sm->Bool
 | .mk _ _ _ ex _ _=>decide (ex.length<=N) && ex.all (Ex.all oS)
structure syL (N:Nat) (l:List Sm):Prop where
 cnt:Sm.counts l<=N
 dep:Sm.deeps l<=N
 all:Sm.alls (VQ N) l=true
theorem cW5:∀ s,QT N s=true->VQ N s=true
 | .mk kd nm hd ex th el,h=>by
  simp only [QT,VQ,aF,aB,aP] at h|-;exact ⟨h.1,λe he=>by have:=h.2 e he;simp only [okE,aF] at this;exact this.2⟩
theorem okL.sy {l:List Sm} (h:okL N l):syL N l:=⟨h.cnt,h.dep,tW cW5 l h.all⟩
theorem syL.len {l:List Sm} (h:syL N l):l.length<=N:=cN (yG l) h.cnt
theorem syL.left {a b:List Sm} (h:syL N (a++b)):syL N a:=by
 obtain ⟨h1,h2,h3⟩:=h;rw [oD] at h1;rw [qF] at h2;rw [sC,aF] at h3;exact ⟨by omega,by omega,h3.1⟩
theorem syL.right {a b:List Sm} (h:syL N (a++b)):syL N b:=by
 obtain ⟨h1,h2,h3⟩:=h;rw [oD] at h1;rw [qF] at h2;rw [sC,aF] at h3;exact ⟨by omega,by omega,h3.2⟩
variable {j:Nat}
theorem syL.at {l:List Sm} (h:syL N l) (hj:j<l.length):syL N [l[j]]:=by
 have h2:=h;rw [SK hj] at h2;exact h2.right.left
theorem cK5 {kd:UInt8} {nm hd:Str} {ex:List Ex} {th el:List Sm} (h:syL N [.mk kd nm hd ex th el]):Sm.counts th+Sm.counts el+1<=N/\Sm.deeps th+1<=N/\Sm.deeps el+1<=N/\ex.length<=N/\ex.all (Ex.all oS)=true/\Sm.alls (VQ N) th=true/\Sm.alls (VQ N) el=true:=by
 obtain ⟨h1,h2,h3⟩:=h;simp only [Sm.counts,iG] at h1;simp only [Sm.deeps,yF] at h2;simp only [Sm.alls,oM,VQ,aF,aB] at h3;exact ⟨by omega,by omega,by omega,h3.1.1.1.1,h3.1.1.1.2,h3.1.1.2,h3.1.2⟩
structure dA6 (N:Nat) (h:Hd):Prop where
 ps:h.ps.length<=N
 body:syL N h.body
structure cK4 (N:Nat) (v:List Hd):Prop where
 len:v.length<=N
 all:∀ h∈v,dA6 N h
structure dA7 (N:Nat) (c:Cp):Prop where
 vars:c.vars.length<=N
 vers:c.vers.length<=N
 all:∀ v∈c.vers,cK4 N v
structure bX6 (N:Nat) (f:Ft):Prop where
 flags:f.flags.length<=N
 links:f.links.length<=N
 comps:f.comps.length<=N
 all:∀ c∈f.comps,dA7 N c
theorem aL4.sy {f:Ft} (h:aL4 N f):bX6 N f :=
 ⟨h.flags,h.links,h.comps,λc hc=>⟨(h.all c hc).vars,(h.all c hc).vers,λv hv=>⟨((h.all c hc).all v hv).len,λx hx=>⟨(((h.all c hc).all v hv).all x hx).ps,(((h.all c hc).all v hv).all x hx).body.sy⟩⟩⟩⟩
set_option maxHeartbeats 2000000 in
theorem cG9 (N:Nat) (hN:N<=1000000):∀ (l:List Sm),syL N l->∀ (H:Hp) (v:Value) (w:World),Rep H (.seq 6 (l.map (dSm .i64))) [v]->Agr H w ->
 Calls prg 60 #[v] w λr w'=>∃ (y:Value) (H':Hp),Rep H' (.seq 6 (l.map (dSm .u8))) [y]/\r=.returned y/\BX H w H' w':=by
 refine Sm.lists λl ih=>?_;intro hok H v w hs hA;obtain ⟨p,c,e,_⟩:=hs.sl;simp only [aT,bV,aJ] at e;subst e;have hcap:=hs.cap;have hll:=hok.len;refine Sx.enter (H:=H) func60 rfl ntmps60 rfl hA ?_;refine .sr<|.a Z Z<|.ns<|.a Z Z<|?_
 refine Sx.row0 208 6 ?_;refine .nt<|.sq<|.sm Z<|.yw (.lenSl aP9 Z)<|.mv Z<|.nt<|.bk<|.lp (X:=Nat × Hp × Value × List Value) [(9,_),(10,_)] ⟨Z,Z,Jt⟩ [] (λz=>[(3,z.2.2.1),(11,iN z.1)]) (λz=>z.2.1) (λz=>[.row 208 6 z.2.2.1 z.1 z.2.2.2]) (λz=>z.1<=l.length/\HUp w H z.2.1/\dA z.2.1 6 ((l.take z.1).map (dSm .u8)) z.2.2.2) (λz=>l.length - z.1) (0,H,.slice none 0 0,[]) (λ_ s=>s) ⟨Z,Z,Jt⟩ ⟨by simp,.refl,dA.nil⟩ λz hC=>?_
 obtain ⟨k,H1,r,xs⟩:=z;dsimp only at hC|-;obtain ⟨hk0,u1,hz⟩:=hC;refine .sr<|.yw (.lss Z Z)<|.nt<|.sq<|.ce Z (λh12=>?_) (λh12=>?_)
 ·have hk:k<l.length:=by omega
  obtain ⟨bE,oE,cE,hpE,rE,lE,mE⟩:=(hs.up u1.up).elem (eL (f:=dSm .i64) hk);cases hpE;have hi:=ih _ (cD hk);have hka:=hok.at hk;generalize hx:l[k]=x at rE hi hka;obtain ⟨kd,nm,hd,ex,th,el⟩:=x;obtain ⟨p1,c1,p2,c2,p3,c3,rfl,hs1,hs2,hs3,hn1,hn2⟩:=vR rE;simp only [Sm.th,Sm.el] at hi;obtain ⟨k1,k2,k3,k4,k5,k6,k7⟩:=cK5 hka;have hit:=hi.1 ⟨by omega,by omega,k6⟩;have hie:=hi.2 ⟨by omega,by omega,k7⟩;have hcap1:=hs1.cap;refine .sk<|.tN<|.sq<|.bk<|.sr<|.yw (.indexSl aP9 Z Z Z (by omega) (q:=oE+k * 6) Z)<|.yw (.loadMW Z fH mE Z)<|.al rO Z λb5=>.sX .head Z Z fB Z<|.nt<|.sq<|.ft (p:=.light _ _ (.light _ _ (.light _ _ (.light _ _ (.light _ _ (.light _ _ (.light _ _ (.light _ _ (.light _ _ (.light _ _ (.light _ _ (.alt _ _ _ (.alt _ _ _ (.light _ _ (.alt _ _ _ (.done) (.no))) (.alt _ _ _ (.alt _ _ _ (.light _ _ (.done)) (.no)) (.no))) (.alt _ _ _ (.alt _ _ _ (.alt _ _ _ (.light _ _ (.done)) (.no)) (.no)) (.no)))))))))))))) 15 (.light 0 (.light 1 (.light 2 (.light 3 (.light 4 (.light 5 (.light 6 (.light 7 (.light 8 (.light 10 (.light 11 (.alt 9 0 (.alt 12 0 (.light 13 (.alt 14 0 (.done) (.no))) (.alt 14 0 (.alt 12 0 (.light 13 (.done)) (.no)) (.no))) (.alt 14 0 (.alt 9 0 (.alt 12 0 (.light 13 (.done)) (.no)) (.no)) (.no)))))))))))))) (by kernel_rfl) (by kernel_rfl) Z<|.fA Z KC<|.lD Z dZ Hm Z<|.yw (.conv Z tD bQ2 (c:=(kd.toNat:Nat)) (by have:=kd.toNat_lt;simp only [IntKind.wrap,IntKind.signed,IntKind.bits];simp;omega))<|.fA Z WJ<|.lD Z bZ Hm Z<|.fA Z KB<|.lD Z bZ Hm Z<|.fA Z EH<|.lD Z JL Hm Z<|.fA Z EG<|.lD Z JL Hm Z<|.h ?_ (.h ?_ .nn)
  ·
   refine .ct (X:=Value) CB Z (λW s=>hit H1 _ W hs2 s.agr) Z λy24 H24 hy24 u24=>?_;obtain ⟨q24,d24,e24,_⟩:=hy24.sl;simp only [aT,bV,aJ] at e24;subst e24;refine .h ?_ (.h ?_ .nn)
   ·
    refine .ct (X:=Value) CB Z (λW s=>hie H24 _ W (hs3.up u24.up) s.agr) Z λy27 H27 hy27 u27=>?_;obtain ⟨q27,d27,e27,_⟩:=hy27.sl;simp only [aT,bV,aJ] at e27;subst e27;have u5:=u24.trans u27;have hs1b:=hs1.up u5.up;have hy24b:=hy24.up u27.up;refine .yw (.build Z (wL _ _ _ _ _ _ _ _ _))<|.h1<|.al vF Z λb6=>.fn (tl:=[_]) Z<|.sX .head Z Z lV Z<|.nt<|.sq<|.sr<|.fA Z iJ<|.lD Z xD dN Z<|.yw (.lenSl DT Z)<|.mv Z<|?_
    refine Sx.row0 27 4 ?_;refine .nt<|.bk<|.lp (X:=Nat × Hp × Value × List Value) [(3,_),(6,_),(9,_),(10,_),(11,_),(30,_),(31,_)] ⟨Z,Z,Z,Z,Z,Z,Z,Jt⟩ [_,_] (λz=>[(32,iN z.1)]) (λz=>z.2.1) (λz=>[.row 27 4 z.2.2.1 z.1 z.2.2.2,.box b6 [.int .u8 kd.toNat,cJ nm,cJ hd,z.2.2.1,.slice q24 th.length d24,.slice q27 el.length d27] 208]) (λz=>z.1<=ex.length/\HUp w H27 z.2.1/\dA z.2.1 4 ((ex.take z.1).map (dEx .u8)) z.2.2.2) (λz=>ex.length - z.1) (0,H27,.slice none 0 0,[]) (λ_ s=>s) ⟨Z,Jt⟩ ⟨by simp,.refl,dA.nil⟩ λz hC=>?_
    obtain ⟨j,H3,re,ys⟩:=z;dsimp only at hC|-;obtain ⟨hj0,u3,hze⟩:=hC;refine .sr<|.yw (.lss Z Z)<|.nt<|.sq<|.cd Z (λh33=>?_) (λh33=>?_)
    ·try simp only [dt] at h33
     have hj:j<ex.length:=by omega
     obtain ⟨bF,oF,cF,hpF,rF,lF,mF⟩:=(hs1b.up u3.up).elem (eL (f:=dEx .i64) hj);cases hpF;have hnj:Ex.all oS ex[j]=true:=aP.1 k5 _ (cD hj);refine .sk<|.tN<|.sq<|.bk<|.sr<|.yw (.indexSl DT Z Z Z (by omega) (q:=oF+j * 4) Z)<|.yw (.loadMW Z dM mF lF)<|.al jW Z λb8=>.sV .head Z Z eI lF rF.one Z<|.nt<|.fL 5 [(0,0),(1,0),(2,0),(3,1),(4,1)]<|.fA Z bX<|.lD Z fR fN Z<|.yw (.loadW Z dM Hm lF)<|.ct (X:=List Value) JJ Z (λW s=>TM _ hnj H3 cF W rF s.agr) Z λx39 H39 hx39 u39=>?_
     generalize hxj:ex[j]=xj at hx39;obtain ⟨op2,nm2,n2,zC⟩:=xj;obtain ⟨pz,cz,rfl,hz2,hnm2⟩:=iR hx39;exact .bl Z (kL _ _ _ _) Z λb40=>.fn (tl:=[_,_,_]) Z<|.ap (news:=[.int .u8 op2.toNat,cJ nm2,.int .i64 n2.toInt,.slice pz zC.length cz]) pD Z (λ_=>fU) Z (.box Hm z0) Z (by simp [Value.oneCell',cJ]) (by simp [maxLen];omega) (by omega) Z λr41 _=>.ra fN λp41 c41 e41=>.fA Z bX<|.st oB Z Z iH (by rw [e41];rfl) (nb Z) Z<|.nl<|.bN<|.tN<|.rg<|.yw (.add Z Z w7)<|.mv Z<|.nt<|.ag (x:=(j,H3,re,ys)) (j+1,H39,r41,ys++[.int .u8 op2.toNat,cJ nm2,.int .i64 n2.toInt,.slice pz zC.length cz]) ⟨Z,Jt⟩ ⟨Z,Z,Z,Z,Z,Z,Z,Jt⟩ (λ_ s=>(s.pick [2,3,4,5] _ Z Z)) ⟨by dsimp only;omega,u3.trans u39,by dsimp only;rw [gC hj,hxj,aV];exact (hze.up u39.up).snoc hx39 Z⟩ (by dsimp only;omega)
    try simp only [df] at h33
    obtain rfl:j=ex.length:=by omega
    rw [aI] at hze;refine dC (ds:=ex.map (dEx .u8)) (by simp) hze λH3 pX cX u6 eX hX=>?_;subst eX;have uX:=u5.trans (u3.trans u6);have hy24X:=hy24b.up (u3.trans u6).up;have hy27X:=hy27.up (u3.trans u6).up;exact .ex<|.eb<|.rg<|.mv Z<|.yw (.loadW Z iO Hm Z)<|.bl Z (DU _ _ _ _ _ _) Z λb46=>.ap (news:=[.int .u8 kd.toNat,cJ nm,cJ hd,.slice pX ex.length cX,.slice q24 th.length d24,.slice q27 el.length d27]) JC Z (λ_=>oB) Z (.box Hm z0) Z (by simp [Value.oneCell',cJ]) (by simp [maxLen];omega) (by omega) Z λr47 _=>.a Z Z<|.nl<|.bN<|.tN<|.rg<|.yw (.add Z Z w7)<|.mv Z<|.nt<|.ag (x:=(k,H1,r,xs)) (k+1,H3,r47,xs++[.int .u8 kd.toNat,cJ nm,cJ hd,.slice pX ex.length cX,.slice q24 th.length d24,.slice q27 el.length d27]) ⟨Z,Z,Jt⟩ ⟨Z,Z,Jt⟩ (λ_ s=>(s.pick [3] _ Z Z)) ⟨by dsimp only;omega,u1.trans uX,by dsimp only;rw [gC hk,hx,aV];exact (hz.up uX.up).snoc (gQ (by omega) (by omega) hX hy24X hy27X) Z⟩ (by dsimp only;omega)
   refine .al vF Z λb6=>.h1<|.ct (X:=Value) CB Z (λW s=>hie H24 _ W (hs3.up u24.up) s.agr) Z λy27 H27 hy27 u27=>?_
   obtain ⟨q27,d27,e27,_⟩:=hy27.sl;simp only [aT,bV,aJ] at e27;subst e27;have u5:=u24.trans u27;have hs1b:=hs1.up u5.up;have hy24b:=hy24.up u27.up;refine .yw (.build Z (wL _ _ _ _ _ _ _ _ _))<|.fn (tl:=[_]) Z<|.sX .head Z Z lV Z<|.nt<|.sq<|.sr<|.fA Z iJ<|.lD Z xD dN Z<|.yw (.lenSl DT Z)<|.mv Z<|?_
   refine Sx.row0 27 4 ?_;refine .nt<|.bk<|.lp (X:=Nat × Hp × Value × List Value) [(3,_),(6,_),(9,_),(10,_),(11,_),(30,_),(31,_)] ⟨Z,Z,Z,Z,Z,Z,Z,Jt⟩ [_,_] (λz=>[(32,iN z.1)]) (λz=>z.2.1) (λz=>[.row 27 4 z.2.2.1 z.1 z.2.2.2,.box b6 [.int .u8 kd.toNat,cJ nm,cJ hd,z.2.2.1,.slice q24 th.length d24,.slice q27 el.length d27] 208]) (λz=>z.1<=ex.length/\HUp w H27 z.2.1/\dA z.2.1 4 ((ex.take z.1).map (dEx .u8)) z.2.2.2) (λz=>ex.length - z.1) (0,H27,.slice none 0 0,[]) (λ_ s=>s) ⟨Z,Jt⟩ ⟨by simp,.refl,dA.nil⟩ λz hC=>?_
   obtain ⟨j,H3,re,ys⟩:=z;dsimp only at hC|-;obtain ⟨hj0,u3,hze⟩:=hC;refine .sr<|.yw (.lss Z Z)<|.nt<|.sq<|.cd Z (λh33=>?_) (λh33=>?_)
   ·try simp only [dt] at h33
    have hj:j<ex.length:=by omega
    obtain ⟨bF,oF,cF,hpF,rF,lF,mF⟩:=(hs1b.up u3.up).elem (eL (f:=dEx .i64) hj);cases hpF;have hnj:Ex.all oS ex[j]=true:=aP.1 k5 _ (cD hj);refine .sk<|.tN<|.sq<|.bk<|.sr<|.yw (.indexSl DT Z Z Z (by omega) (q:=oF+j * 4) Z)<|.yw (.loadMW Z dM mF lF)<|.al jW Z λb8=>.sV .head Z Z eI lF rF.one Z<|.nt<|.fL 5 [(0,0),(1,0),(2,0),(3,1),(4,1)]<|.fA Z bX<|.lD Z fR fN Z<|.yw (.loadW Z dM Hm lF)<|.ct (X:=List Value) JJ Z (λW s=>TM _ hnj H3 cF W rF s.agr) Z λx39 H39 hx39 u39=>?_
    generalize hxj:ex[j]=xj at hx39;obtain ⟨op2,nm2,n2,zC⟩:=xj;obtain ⟨pz,cz,rfl,hz2,hnm2⟩:=iR hx39;exact .bl Z (kL _ _ _ _) Z λb40=>.fn (tl:=[_,_,_]) Z<|.ap (news:=[.int .u8 op2.toNat,cJ nm2,.int .i64 n2.toInt,.slice pz zC.length cz]) pD Z (λ_=>fU) Z (.box Hm z0) Z (by simp [Value.oneCell',cJ]) (by simp [maxLen];omega) (by omega) Z λr41 _=>.ra fN λp41 c41 e41=>.fA Z bX<|.st oB Z Z iH (by rw [e41];rfl) (nb Z) Z<|.nl<|.bN<|.tN<|.rg<|.yw (.add Z Z w7)<|.mv Z<|.nt<|.ag (x:=(j,H3,re,ys)) (j+1,H39,r41,ys++[.int .u8 op2.toNat,cJ nm2,.int .i64 n2.toInt,.slice pz zC.length cz]) ⟨Z,Jt⟩ ⟨Z,Z,Z,Z,Z,Z,Z,Jt⟩ (λ_ s=>(s.pick [2,3,4,5] _ Z Z)) ⟨by dsimp only;omega,u3.trans u39,by dsimp only;rw [gC hj,hxj,aV];exact (hze.up u39.up).snoc hx39 Z⟩ (by dsimp only;omega)
   try simp only [df] at h33
   obtain rfl:j=ex.length:=by omega
   rw [aI] at hze;refine dC (ds:=ex.map (dEx .u8)) (by simp) hze λH3 pX cX u6 eX hX=>?_;subst eX;have uX:=u5.trans (u3.trans u6);have hy24X:=hy24b.up (u3.trans u6).up;have hy27X:=hy27.up (u3.trans u6).up;exact .ex<|.eb<|.rg<|.mv Z<|.yw (.loadW Z iO Hm Z)<|.bl Z (DU _ _ _ _ _ _) Z λb46=>.ap (news:=[.int .u8 kd.toNat,cJ nm,cJ hd,.slice pX ex.length cX,.slice q24 th.length d24,.slice q27 el.length d27]) JC Z (λ_=>oB) Z (.box Hm z0) Z (by simp [Value.oneCell',cJ]) (by simp [maxLen];omega) (by omega) Z λr47 _=>.a Z Z<|.nl<|.bN<|.tN<|.rg<|.yw (.add Z Z w7)<|.mv Z<|.nt<|.ag (x:=(k,H1,r,xs)) (k+1,H3,r47,xs++[.int .u8 kd.toNat,cJ nm,cJ hd,.slice pX ex.length cX,.slice q24 th.length d24,.slice q27 el.length d27]) ⟨Z,Z,Jt⟩ ⟨Z,Z,Jt⟩ (λ_ s=>(s.pick [3] _ Z Z)) ⟨by dsimp only;omega,u1.trans uX,by dsimp only;rw [gC hk,hx,aV];exact (hz.up uX.up).snoc (gQ (by omega) (by omega) hX hy24X hy27X) Z⟩ (by dsimp only;omega)
  refine .al vF Z λb6=>.h1<|.ct (X:=Value) CB Z (λW s=>hit H1 _ W hs2 s.agr) Z λy24 H24 hy24 u24=>?_
  obtain ⟨q24,d24,e24,_⟩:=hy24.sl;simp only [aT,bV,aJ] at e24;subst e24;refine .h1<|.ct (X:=Value) CB Z (λW s=>hie H24 _ W (hs3.up u24.up) s.agr) Z λy27 H27 hy27 u27=>?_
  obtain ⟨q27,d27,e27,_⟩:=hy27.sl;simp only [aT,bV,aJ] at e27;subst e27;have u5:=u24.trans u27;have hs1b:=hs1.up u5.up;have hy24b:=hy24.up u27.up;refine .yw (.build Z (wL _ _ _ _ _ _ _ _ _))<|.fn (tl:=[_]) Z<|.sX .head Z Z lV Z<|.nt<|.sq<|.sr<|.fA Z iJ<|.lD Z xD dN Z<|.yw (.lenSl DT Z)<|.mv Z<|?_
  refine Sx.row0 27 4 ?_;refine .nt<|.bk<|.lp (X:=Nat × Hp × Value × List Value) [(3,_),(6,_),(9,_),(10,_),(11,_),(30,_),(31,_)] ⟨Z,Z,Z,Z,Z,Z,Z,Jt⟩ [_,_] (λz=>[(32,iN z.1)]) (λz=>z.2.1) (λz=>[.row 27 4 z.2.2.1 z.1 z.2.2.2,.box b6 [.int .u8 kd.toNat,cJ nm,cJ hd,z.2.2.1,.slice q24 th.length d24,.slice q27 el.length d27] 208]) (λz=>z.1<=ex.length/\HUp w H27 z.2.1/\dA z.2.1 4 ((ex.take z.1).map (dEx .u8)) z.2.2.2) (λz=>ex.length - z.1) (0,H27,.slice none 0 0,[]) (λ_ s=>s) ⟨Z,Jt⟩ ⟨by simp,.refl,dA.nil⟩ λz hC=>?_
  obtain ⟨j,H3,re,ys⟩:=z;dsimp only at hC|-;obtain ⟨hj0,u3,hze⟩:=hC;refine .sr<|.yw (.lss Z Z)<|.nt<|.sq<|.cd Z (λh33=>?_) (λh33=>?_)
  ·try simp only [dt] at h33
   have hj:j<ex.length:=by omega
   obtain ⟨bF,oF,cF,hpF,rF,lF,mF⟩:=(hs1b.up u3.up).elem (eL (f:=dEx .i64) hj);cases hpF;have hnj:Ex.all oS ex[j]=true:=aP.1 k5 _ (cD hj);refine .sk<|.tN<|.sq<|.bk<|.sr<|.yw (.indexSl DT Z Z Z (by omega) (q:=oF+j * 4) Z)<|.yw (.loadMW Z dM mF lF)<|.al jW Z λb8=>.sV .head Z Z eI lF rF.one Z<|.nt<|.fL 5 [(0,0),(1,0),(2,0),(3,1),(4,1)]<|.fA Z bX<|.lD Z fR fN Z<|.yw (.loadW Z dM Hm lF)<|.ct (X:=List Value) JJ Z (λW s=>TM _ hnj H3 cF W rF s.agr) Z λx39 H39 hx39 u39=>?_
   generalize hxj:ex[j]=xj at hx39;obtain ⟨op2,nm2,n2,zC⟩:=xj;obtain ⟨pz,cz,rfl,hz2,hnm2⟩:=iR hx39;exact .bl Z (kL _ _ _ _) Z λb40=>.fn (tl:=[_,_,_]) Z<|.ap (news:=[.int .u8 op2.toNat,cJ nm2,.int .i64 n2.toInt,.slice pz zC.length cz]) pD Z (λ_=>fU) Z (.box Hm z0) Z (by simp [Value.oneCell',cJ]) (by simp [maxLen];omega) (by omega) Z λr41 _=>.ra fN λp41 c41 e41=>.fA Z bX<|.st oB Z Z iH (by rw [e41];rfl) (nb Z) Z<|.nl<|.bN<|.tN<|.rg<|.yw (.add Z Z w7)<|.mv Z<|.nt<|.ag (x:=(j,H3,re,ys)) (j+1,H39,r41,ys++[.int .u8 op2.toNat,cJ nm2,.int .i64 n2.toInt,.slice pz zC.length cz]) ⟨Z,Jt⟩ ⟨Z,Z,Z,Z,Z,Z,Z,Jt⟩ (λ_ s=>(s.pick [2,3,4,5] _ Z Z)) ⟨by dsimp only;omega,u3.trans u39,by dsimp only;rw [gC hj,hxj,aV];exact (hze.up u39.up).snoc hx39 Z⟩ (by dsimp only;omega)
  try simp only [df] at h33
  obtain rfl:j=ex.length:=by omega
  rw [aI] at hze;refine dC (ds:=ex.map (dEx .u8)) (by simp) hze λH3 pX cX u6 eX hX=>?_;subst eX;have uX:=u5.trans (u3.trans u6);have hy24X:=hy24b.up (u3.trans u6).up;have hy27X:=hy27.up (u3.trans u6).up;exact .ex<|.eb<|.rg<|.mv Z<|.yw (.loadW Z iO Hm Z)<|.bl Z (DU _ _ _ _ _ _) Z λb46=>.ap (news:=[.int .u8 kd.toNat,cJ nm,cJ hd,.slice pX ex.length cX,.slice q24 th.length d24,.slice q27 el.length d27]) JC Z (λ_=>oB) Z (.box Hm z0) Z (by simp [Value.oneCell',cJ]) (by simp [maxLen];omega) (by omega) Z λr47 _=>.a Z Z<|.nl<|.bN<|.tN<|.rg<|.yw (.add Z Z w7)<|.mv Z<|.nt<|.ag (x:=(k,H1,r,xs)) (k+1,H3,r47,xs++[.int .u8 kd.toNat,cJ nm,cJ hd,.slice pX ex.length cX,.slice q24 th.length d24,.slice q27 el.length d27]) ⟨Z,Z,Jt⟩ ⟨Z,Z,Jt⟩ (λ_ s=>(s.pick [3] _ Z Z)) ⟨by dsimp only;omega,u1.trans uX,by dsimp only;rw [gC hk,hx,aV];exact (hz.up uX.up).snoc (gQ (by omega) (by omega) hX hy24X hy27X) Z⟩ (by dsimp only;omega)
 obtain rfl:k=l.length:=by omega
 rw [aI] at hz;refine .ex<|.eb<|.sm Z<|.az Z<|?_
 refine dC (ds:=l.map (dSm .u8)) (by simp) hz λHZ pZ cZ uZ eZ hZ=>?_;exact y9 Z Z λW t=>⟨r,HZ,hZ,Z,(u1.trans uZ).grow t⟩
set_option maxHeartbeats 2000000 in
theorem WY (N:Nat) (hN:N<=1000000) (H:Hp) (f:Ft) (hok:bX6 N f) (cs:List Value) (w:World) (h:Rep H (dFt .i64 f) cs) (hA:Agr H w) :
 Calls prg 34 #[.agg cs.toArray] w λr w'=>∃ (y:List Value) (H':Hp),Rep H' (dFt .u8 f) y/\r=.returned (.agg y.toArray)/\BX H w H' w':=by
 obtain ⟨p1,c1,p2,c2,p3,c3,rfl,nf,k1,k2,k3⟩:=AC h;have hcap1:=k1.cap;have hcap2:=k2.cap;have hcap3:=k3.cap;have hfl:=hok.flags;have hll:=hok.links;have hcl:=hok.comps;refine Sx.enter (H:=H) func34 rfl ntmps34 rfl hA ?_;refine .sr<|.bx Z Z Z λb1=>.al vW Z λb2=>.ns<|.fA Z NF<|.lD Z bZ dN Z<|.yw (.build Z (bD0 _))<|.al vW Z λb3=>.sX .head Z Z sJ Z<|.nt<|.sq<|.sr<|.fA Z vY<|.lD Z NS fN Z<|.yw (.lenSl aF9 Z)<|.mv Z<|?_
 refine Sx.row0 102 2 ?_;refine .nt<|.bk<|.lp (X:=Nat × Value × List Value) [(1,_),(2,_),(3,_),(22,_),(23,_)] ⟨Z,Z,Z,Z,Z,Jt⟩ [_,_] (λz=>[(24,iN z.1)]) (λz=>H) (λz=>[.row 102 2 z.2.1 z.1 z.2.2,.box b3 [cJ f.nm,z.2.1,.slice none 0 0,.slice none 0 0] 49]) (λz=>z.1<=f.flags.length/\dA H 2 ((f.flags.take z.1).map dFg) z.2.2) (λz=>f.flags.length - z.1) (0,.slice none 0 0,[]) (λ_ s=>s) ⟨Z,Jt⟩ ⟨by simp,dA.nil⟩ λz hC=>?_
 obtain ⟨k,r,xs⟩:=z;dsimp only at hC|-;obtain ⟨hk0,hz⟩:=hC;refine .sr<|.yw (.lss Z Z)<|.nt<|.sq<|.ce Z (λh25=>?_) (λh25=>?_)
 ·have hk:k<f.flags.length:=by omega
  obtain ⟨bE,oE,cE,hpE,rE,lE,mE⟩:=k1.elem (eL (f:=dFg) hk);cases hpE;generalize hx:f.flags[k]=x at rE;obtain ⟨rfl,nx⟩:=MY rE;exact .sk<|.tN<|.sq<|.bk<|.sr<|.yw (.indexSl aF9 Z Z Z (by omega) (q:=oE+k * 2) Z)<|.yw (.loadMW Z aA3 mE Z)<|.al UE Z λb5=>.sX .head Z Z UJ Z<|.nt<|.rg<|.fA Z pQ<|.lD Z DF fN Z<|.fA Z WO<|.lD Z bZ Hm Z<|.fA Z KM<|.lD Z vZ Hm Z<|.yw (.build Z (WT _ _))<|.bl Z (VG _ _) Z λb35=>.ap (news:=[cJ x.nm,.bool x.init]) aQ8 Z (λ_=>fU) Z (.box Hm z0) Z (by simp [Value.oneCell',cJ]) (by simp [maxLen];omega) (by omega) Z λr36 _=>.ra fN λp36 c36 e36=>.fA Z pQ<|.st oB Z Z YZ (by rw [e36];rfl) (nb Z) Z<|.nl<|.bN<|.tN<|.rg<|.yw (.add Z Z w7)<|.mv Z<|.nt<|.ag (x:=(k,r,xs)) (k+1,r36,xs++[cJ x.nm,.bool x.init]) ⟨Z,Jt⟩ ⟨Z,Z,Z,Z,Z,Jt⟩ (λ_ s=>(s.pick [2,3,4,5] _ Z Z)) ⟨by dsimp only;omega,by dsimp only;rw [gC hk,hx,aV];exact hz.snoc (RW (x:=x) nx) Z⟩ (by dsimp only;omega)
 obtain rfl:k=f.flags.length:=by omega
 rw [aI] at hz;refine dC (ds:=f.flags.map dFg) (by simp) hz λH4 p4 c4 u4 e4 h4=>?_;subst e4;refine .ex<|.eb<|.sq<|.sr<|.fA Z yR<|.lD Z VL fN Z<|.yw (.lenSl bI5 Z)<|.mv Z<|?_
 refine Sx.row0 105 3 ?_;have k24:=k2.up u4.up;refine .nt<|.bk<|.lp (X:=Nat × Value × List Value) [(1,_),(2,_),(3,_),(40,_),(41,_)] ⟨Z,Z,Z,Z,Z,Jt⟩ [_,_] (λz=>[(42,iN z.1)]) (λz=>H4) (λz=>[.row 105 3 z.2.1 z.1 z.2.2,.box b3 [cJ f.nm,.slice p4 f.flags.length c4,z.2.1,.slice none 0 0] 49]) (λz=>z.1<=f.links.length/\dA H4 3 ((f.links.take z.1).map dLk) z.2.2) (λz=>f.links.length - z.1) (0,.slice none 0 0,[]) (λ_ s=>s) ⟨Z,Jt⟩ ⟨by simp,dA.nil⟩ λz hC=>?_
 obtain ⟨k,r,xs⟩:=z;dsimp only at hC|-;obtain ⟨hk0,hz⟩:=hC;refine .sr<|.yw (.lss Z Z)<|.nt<|.sq<|.ce Z (λh43=>?_) (λh43=>?_)
 ·have hk:k<f.links.length:=by omega
  obtain ⟨bE,oE,cE,hpE,rE,lE,mE⟩:=k24.elem (eL (f:=dLk) hk);cases hpE;generalize hx:f.links[k]=x at rE;obtain ⟨rfl,nx,nx2⟩:=IQ rE;exact .sk<|.tN<|.sq<|.bk<|.sr<|.yw (.indexSl bI5 Z Z Z (by omega) (q:=oE+k * 3) Z)<|.yw (.loadMW Z aA2 mE Z)<|.al UD Z λb7=>.sX .head Z Z UI Z<|.nt<|.rg<|.fA Z nU<|.lD Z AZ fN Z<|.fA Z WN<|.lD Z bZ Hm Z<|.fA Z KL<|.lD Z bZ Hm Z<|.fA Z KK<|.lD Z dZ Hm Z<|.yw (.build Z (RC _ _ _))<|.bl Z (VF _ _ _) Z λb55=>.ap (news:=[cJ x.fr,cJ x.to,.int .i64 x.lat.toInt]) aQ7 Z (λ_=>fU) Z (.box Hm z0) Z (by simp [Value.oneCell',cJ]) (by simp [maxLen];omega) (by omega) Z λr56 _=>.ra fN λp56 c56 e56=>.fA Z nU<|.st oB Z Z YY (by rw [e56];rfl) (nb Z) Z<|.nl<|.bN<|.tN<|.rg<|.yw (.add Z Z w7)<|.mv Z<|.nt<|.ag (x:=(k,r,xs)) (k+1,r56,xs++[cJ x.fr,cJ x.to,.int .i64 x.lat.toInt]) ⟨Z,Jt⟩ ⟨Z,Z,Z,Z,Z,Jt⟩ (λ_ s=>(s.pick [2,3,4,5] _ Z Z)) ⟨by dsimp only;omega,by dsimp only;rw [gC hk,hx,aV];exact hz.snoc (RQ (x:=x) nx nx2) Z⟩ (by dsimp only;omega)
 obtain rfl:k=f.links.length:=by omega
 rw [aI] at hz;refine dC (ds:=f.links.map dLk) (by simp) hz λH5 p5 c5 u5 e5 h5=>?_;subst e5;refine .ex<|.eb<|.sq<|.sr<|.fA Z vX<|.lD Z NR fN Z<|.yw (.lenSl bI4 Z)<|.mv Z<|?_
 refine Sx.row0 110 3 ?_;have k35:=k3.up (u4.trans u5).up;have h45:=h4.up u5.up;refine .nt<|.bk<|.lp (X:=Nat × Hp × Value × List Value) [(2,_),(3,_),(60,_),(61,_)] ⟨Z,Z,Z,Z,Jt⟩ [_,_] (λz=>[(62,iN z.1)]) (λz=>z.2.1) (λz=>[.row 110 3 z.2.2.1 z.1 z.2.2.2,.box b3 [cJ f.nm,.slice p4 f.flags.length c4,.slice p5 f.links.length c5,z.2.2.1] 49]) (λz=>z.1<=f.comps.length/\HUp w H5 z.2.1/\dA z.2.1 3 ((f.comps.take z.1).map (dCp .u8)) z.2.2.2) (λz=>f.comps.length - z.1) (0,H5,.slice none 0 0,[]) (λ_ s=>s) ⟨Z,Jt⟩ ⟨by simp,.refl,dA.nil⟩ λz hC=>?_
 obtain ⟨k,Ha,rc,xs⟩:=z;dsimp only at hC|-;obtain ⟨hk0,ua,hz⟩:=hC;refine .sr<|.yw (.lss Z Z)<|.nt<|.sq<|.ce Z (λh63=>?_) (λh63=>?_)
 ·have hk:k<f.comps.length:=by omega
  obtain ⟨bE,oE,cE,hpE,rE,lE,mE⟩:=(k35.up ua.up).elem (eL (f:=dCp .i64) hk);cases hpE;have okc:=hok.all _ (cD hk);generalize hx:f.comps[k]=x at rE okc;obtain ⟨q1,d1,q2,d2,rfl,nx,g1,g2⟩:=BW rE;have hcv:=g1.cap;have hcr:=g2.cap;have hvl:=okc.vars;have hrl:=okc.vers;refine .sk<|.tN<|.sq<|.bk<|.sr<|.yw (.indexSl bI4 Z Z Z (by omega) (q:=oE+k * 3) Z)<|.yw (.loadMW Z CD mE Z)<|.al FY Z λb9=>.sX .head Z Z CW Z<|.ns<|.fA Z WM<|.lD Z bZ Hm Z<|.yw (.build Z (aS9 _))<|.al tC Z λb10=>.sX .head Z Z vI Z<|.nt<|.sq<|.sr<|.fA Z mW<|.lD Z CE dN Z<|.yw (.lenSl aQ2 Z)<|.mv Z<|?_
  refine Sx.row0 151 3 ?_;refine .nt<|.bk<|.lp (X:=Nat × Value × List Value) [(2,_),(3,_),(9,_),(10,_),(60,_),(61,_),(62,_),(70,_),(71,_)] ⟨Z,Z,Z,Z,Z,Z,Z,Z,Z,Jt⟩ [_,_,_,_,_] (λz=>[(72,iN z.1)]) (λz=>Ha) (λz=>[.row 151 3 z.2.1 z.1 z.2.2,.box b10 [cJ x.nm,z.2.1,.slice none 0 0] 110]) (λz=>z.1<=x.vars.length/\dA Ha 3 ((x.vars.take z.1).map (dVr .u8)) z.2.2) (λz=>x.vars.length - z.1) (0,.slice none 0 0,[]) (λ_ s=>s) ⟨Z,Jt⟩ ⟨by simp,dA.nil⟩ λz hC=>?_
  obtain ⟨j,rv,ys⟩:=z;dsimp only at hC|-;obtain ⟨hj0,hzv⟩:=hC;refine .sr<|.yw (.lss Z Z)<|.nt<|.sq<|.ce Z (λh73=>?_) (λh73=>?_)
  ·have hj:j<x.vars.length:=by omega
   obtain ⟨bF,oF,cF,hpF,rF,lF,mF⟩:=g1.elem (eL (f:=dVr .i64) hj);cases hpF;generalize hv:x.vars[j]=v at rF;obtain ⟨rfl,nv⟩:=FN rF;exact .sk<|.tN<|.sq<|.bk<|.sr<|.yw (.indexSl aQ2 Z Z Z (by omega) (q:=oF+j * 3) Z)<|.yw (.loadMW Z sL mF Z)<|.al LE Z λb12=>.sX .head Z Z xW Z<|.nt<|.rg<|.fA Z kW<|.lD Z uG fN Z<|.fA Z WL<|.lD Z bZ Hm Z<|.fA Z AK<|.lD Z dZ Hm Z<|.yw (.conv Z tD bQ3 (c:=(v.ty.toNat:Nat)) (by have:=v.ty.toNat_lt;simp only [IntKind.wrap,IntKind.signed,IntKind.bits];simp;omega))<|.fA Z xA<|.lD Z nX Hm Z<|.yw (.build Z (RA _ _ _))<|.bl Z (QP _ _ _) Z λb86=>.ap (news:=[cJ v.nm,.int .u8 v.ty.toNat,.int .i64 v.init.toInt]) ZE Z (λ_=>fU) Z (.box Hm z0) Z (by simp [Value.oneCell',cJ]) (by simp [maxLen];omega) (by omega) Z λr87 _=>.ra fN λp87 c87 e87=>.fA Z kW<|.st oB Z Z UK (by rw [e87];rfl) (nb Z) Z<|.nl<|.bN<|.tN<|.rg<|.yw (.add Z Z w7)<|.mv Z<|.nt<|.ag (x:=(j,rv,ys)) (j+1,r87,ys++[cJ v.nm,.int .u8 v.ty.toNat,.int .i64 v.init.toInt]) ⟨Z,Jt⟩ ⟨Z,Z,Z,Z,Z,Z,Z,Z,Z,Jt⟩ (λ_ s=>(s.pick [2,3,4,5,6,7,8] _ Z Z)) ⟨by dsimp only;omega,by dsimp only;rw [gC hj,hv,aV];exact hzv.snoc (HX (x:=v) nv) Z⟩ (by dsimp only;omega)
  obtain rfl:j=x.vars.length:=by omega
  rw [aI] at hzv;refine dC (ds:=x.vars.map (dVr .u8)) (by simp) hzv λHV pV cV uV eV hV=>?_;subst eV;refine .ex<|.eb<|.sq<|.sr<|.fA Z fX<|.lD Z nO dN Z<|.yw (.lenSl aQ1 Z)<|.mv Z<|?_
  refine Sx.row0 155 1 ?_;refine .nt<|.bk<|.lp (X:=Nat × Hp × Value × List Value) [(2,_),(3,_),(10,_),(60,_),(61,_),(62,_),(91,_),(92,_)] ⟨Z,Z,Z,Z,Z,Z,Z,Z,Jt⟩ [_,_,_,_,_] (λz=>[(93,iN z.1)]) (λz=>z.2.1) (λz=>[.row 155 1 z.2.2.1 z.1 z.2.2.2,.box b10 [cJ x.nm,.slice pV x.vars.length cV,z.2.2.1] 110]) (λz=>z.1<=x.vers.length/\HUp w HV z.2.1/\dA z.2.1 1 ((x.vers.take z.1).map (dVs .u8)) z.2.2.2) (λz=>x.vers.length - z.1) (0,HV,.slice none 0 0,[]) (λ_ s=>s) ⟨Z,Jt⟩ ⟨by simp,.refl,dA.nil⟩ λz hC=>?_
  obtain ⟨i,Hb,rs,ws⟩:=z;dsimp only at hC|-;obtain ⟨hi0,ub,hzs⟩:=hC;refine .sr<|.yw (.lss Z Z)<|.nt<|.sq<|.ce Z (λh94=>?_) (λh94=>?_)
  ·have hi:i<x.vers.length:=by omega
   obtain ⟨bG,oG,cG,hpG,rG,lG,mG⟩:=(g2.up (uV.trans ub).up).elem (eL (f:=dVs .i64) hi);cases hpG;have okv:=okc.all _ (cD hi);generalize hxv:x.vers[i]=v at rG okv;obtain ⟨pv,cv,rfl,gv⟩:=HW rG;have hcw:=gv.cap;have hwl:=okv.len;refine .sk<|.tN<|.sq<|.bk<|.sr<|.yw (.indexSl aQ1 Z Z (i:=i) Z hi (q:=oG+i * 1) Z)<|.yw (.loadM Z bV5 mG (k:=0) Z Z)<|.a Z Z<|.ns<|.al vG Z λb15=>.nt<|.sq<|.sm Z<|.yw (.lenSl aQ0 Z)<|.mv Z<|?_
   refine Sx.row0 162 3 ?_;refine .nt<|.bk<|.lp (X:=Nat × Hp × Value × List Value) [(2,_),(3,_),(10,_),(15,_),(60,_),(61,_),(62,_),(91,_),(92,_),(93,_),(97,_),(98,_)] ⟨Z,Z,Z,Z,Z,Z,Z,Z,Z,Z,Z,Z,Jt⟩ [_,_,_,_,_,_,_] (λz=>[(99,iN z.1)]) (λz=>z.2.1) (λz=>[.row 162 3 z.2.2.1 z.1 z.2.2.2,.box b15 [z.2.2.1] 155]) (λz=>z.1<=v.length/\HUp w Hb z.2.1/\dA z.2.1 3 ((v.take z.1).map (dHd .u8)) z.2.2.2) (λz=>v.length - z.1) (0,Hb,.slice none 0 0,[]) (λ_ s=>s) ⟨Z,Jt⟩ ⟨by simp,.refl,dA.nil⟩ λz hC=>?_
   obtain ⟨j,Hc,rh,zs⟩:=z;dsimp only at hC|-;obtain ⟨hj0,uc,hzh⟩:=hC;refine .sr<|.yw (.lss Z Z)<|.nt<|.sq<|.ce Z (λh100=>?_) (λh100=>?_)
   ·have hj:j<v.length:=by omega
    obtain ⟨bI,oI,cI,hpI,rI,lI,mI⟩:=(gv.up uc.up).elem (eL (f:=dHd .i64) hj);cases hpI;have okh:=okv.all _ (cD hj);generalize hxh:v[j]=y at rI okh;obtain ⟨t1,w1,t2,w2,rfl,ny,m1,m2⟩:=DR rI;have hyl:=okh.ps;refine .sk<|.tN<|.sq<|.bk<|.sr<|.yw (.indexSl aQ0 Z Z Z (by omega) (q:=oI+j * 3) Z)<|.yw (.loadMW Z PS mI Z)<|.al UC Z λb17=>.sX .head Z Z UG Z<|.nt<|?_
    refine Sx.row0 9 1 ?_;refine .fL 12 [(0,0),(1,0),(2,0),(3,0),(4,0),(5,0),(7,0),(8,0),(6,3),(9,1),(10,0),(11,1)]<|.fA Z mU<|.lD Z yI oU Z<|.fA Z KJ<|.lD Z bZ dN Z<|.fA Z rQ<|.lD Z rD dN Z<|.fA Z AJ<|.lD Z JL dN Z<|.apD0 qJ Z (λ_ _=>.head) Z m1 (by simp [maxLen];omega) (by omega) Z (λ_ _=>(.yv (.load Z JL dN Z)<|.yv (.fieldAddr Z AJ)<|.d2<|.yv (.load Z bZ dN Z)<|.yv (.fieldAddr Z KJ)<|.yv (.load Z yI oU Z)<|.yv (.fieldAddr Z mU)<|.nl)) λxs109 p109 c109 hz109=>.ct (X:=Value) CB Z (λW t=>cG9 N hN y.body okh.body Hc _ W m2 t.agr) Z λy112 H112 hy112 u112=>?_
    obtain ⟨pB,cB,eB,_⟩:=hy112.sl;simp only [aT,bV,aJ] at eB;subst eB;refine .yw (.build Z (QY _ _ _ _ _ _ _))<|.bl Z (QN _ _ _) Z λb114=>.fn (tl:=[_,_,_]) Z<|.ap (news:=[cJ y.nm,.slice p109 y.ps.length c109,.slice pB y.body.length cB]) ZC Z (λ_=>oB) Z (.box Hm z0) Z (by simp [Value.oneCell',cJ]) (by simp [maxLen];omega) (by omega) Z λr115 _=>.ra oU λp115 c115 e115=>.fA Z mU<|.st QS Z Z UH (by rw [e115];rfl) (nb Z) Z<|?_
    refine At.pm [1,0,2,3,4,5,6,7,8,9,10,11] [_,_,_,_,_,_,_,_,_,_,_,_] rfl rfl ?_;refine dC (ds:=y.ps.map lU) (by simp) (dA.up u112.up hz109) λHP pP cP uP eP hP=>?_;injection eP with eP1 _ eP2
    subst eP1;subst eP2;exact .nl<|.bN<|.tN<|.rg<|.yw (.add Z Z w7)<|.mv Z<|.nt<|.ag (x:=(j,Hc,rh,zs)) (j+1,HP,r115,zs++[cJ y.nm,.slice p109 y.ps.length c109,.slice pB y.body.length cB]) ⟨Z,Jt⟩ ⟨Z,Z,Z,Z,Z,Z,Z,Z,Z,Z,Z,Z,Jt⟩ (λ_ s=>(s.pick [2,3,4,5,6,7,8,9,10] _ Z Z)) ⟨by dsimp only;omega,uc.trans (u112.trans uP),by dsimp only;rw [gC hj,hxh,aV];exact (hzh.up (u112.trans uP).up).snoc (MR (x:=y) ny hP (hy112.up uP.up)) Z⟩ (by dsimp only;omega)
   obtain rfl:j=v.length:=by omega
   rw [aI] at hzh;refine dC (ds:=v.map (dHd .u8)) (by simp) hzh λHH pH cH uH eH hH=>?_;subst eH;have uh:=uc.trans uH;exact .ex<|.eb<|.rg<|.fA Z kV<|.lD Z wC fN Z<|.yw (.loadW Z qU Hm Z)<|.bl Z (HT _) Z λb121=>.ap (news:=[.slice pH v.length cH]) ZD Z (λ_=>fU) Z (.box Hm z0) Z (by simp [Value.oneCell',cJ]) (by simp [maxLen];omega) (by omega) Z λr122 _=>.ra fN λp122 c122 e122=>.fA Z kV<|.st oB Z Z LH (by rw [e122];rfl) (nb Z) Z<|.nl<|.bN<|.tN<|.rg<|.yw (.add Z Z w7)<|.mv Z<|.nt<|.ag (x:=(i,Hb,rs,ws)) (i+1,HH,r122,ws++[.slice pH v.length cH]) ⟨Z,Jt⟩ ⟨Z,Z,Z,Z,Z,Z,Z,Z,Jt⟩ (λ_ s=>(s.pick [2,3,4,5,6,7,8] _ Z Z)) ⟨by dsimp only;omega,ub.trans uh,by dsimp only;rw [gC hi,hxv,aV];exact (hzs.up uh.up).snoc hH Z⟩ (by dsimp only;omega)
  obtain rfl:i=x.vers.length:=by omega
  rw [aI] at hzs;refine dC (ds:=x.vers.map (dVs .u8)) (by simp) hzs λHS pS cS uS eS hS=>?_;subst eS;have uX:=uV.trans (ub.trans uS);have hVX:=hV.up (ub.trans uS).up;exact .ex<|.eb<|.rg<|.fA Z kM<|.lD Z vL oU Z<|.yw (.loadW Z qD Hm Z)<|.bl Z (LX _ _ _) Z λb128=>.ap (news:=[cJ x.nm,.slice pV x.vars.length cV,.slice pS x.vers.length cS]) UM Z (λ_=>oB) Z (.box Hm z0) Z (by simp [Value.oneCell',cJ]) (by simp [maxLen];omega) (by omega) Z λr129 _=>.ra oU λp129 c129 e129=>.fA Z kM<|.st QS Z Z PC (by rw [e129];rfl) (nb Z) Z<|.nl<|.bN<|.tN<|.rg<|.yw (.add Z Z w7)<|.mv Z<|.nt<|.ag (x:=(k,Ha,rc,xs)) (k+1,HS,r129,xs++[cJ x.nm,.slice pV x.vars.length cV,.slice pS x.vers.length cS]) ⟨Z,Jt⟩ ⟨Z,Z,Z,Z,Jt⟩ (λ_ s=>(s.pick [3,4,5,6] _ Z Z)) ⟨by dsimp only;omega,ua.trans uX,by dsimp only;rw [gC hk,hx,aV];exact (hz.up uX.up).snoc (IU (x:=x) nx hVX hS) Z⟩ (by dsimp only;omega)
 obtain rfl:k=f.comps.length:=by omega
 rw [aI] at hz;refine dC (ds:=f.comps.map (dCp .u8)) (by simp) hz λHZ pZ cZ uZ eZ hZ=>?_;subst eZ;refine .ex<|.eb<|.sr<|.yw (.loadW Z lJ Hm Z)<|.sX fG Z Z sJ Z<|.nt<|.rt<|?_
 exact y8 Z (.cell Z lJ dN rfl) λW t=>⟨_,HZ,MV (x:=f) nf (h45.up (ua.trans uZ).up) (h5.up (ua.trans uZ).up) hZ,Z,(u4.trans (u5.trans (ua.trans uZ))).grow t⟩
theorem aU4 (N:Nat) (hN:N<=1000000) (H:Hp) (f:Ft) (hok:aL4 N f) (cs:List Value) (w:World) (h:Rep H (dFt .i64 f) cs) (hA:Agr H w) :
 Calls prg 34 #[.agg cs.toArray] w λr w'=>∃ (y:List Value) (H':Hp),Rep H' (dFt .u8 f) y/\r=.returned (.agg y.toArray)/\BX H w H' w':=WY N hN H f hok.sy cs w h hA
section
variable {α:Type} {N:Nat} {p:Pz α} {ok:α->Prop}
theorem Ge.manyFL {w:Str} (h:Ge N 0 p (λ_=>0) ok):∀ f,Ge N 0 (wK w p f) List.length (λl=>∀ x∈l,ok x)
 | 0=>λr b r' hr e=>by unfold wK at e;cases e
 | f+1=>.alt (.bind h λa ha=>.bind (Ge.manyFL h f) λl hl=>.pure (by rw [aH];omega) λx hx=>by
  rcases bJ.1 hx with rfl | hx
  ·exact ha
  ·exact hl x hx) (.pure (cM _) λx hx=>by cases hx)
theorem Ge.manyL {w:Str} (h:Ge N 0 p (λ_=>0) ok):Ge N 0 (jV w p) List.length (λl=>∀ x∈l,ok x):=λr b r' hr e=>Ge.manyFL h _ r b r' hr e
def dC7 (N:Nat) (ok:α->Prop) (l:List α):Prop:=l.length<=N/\∀ x∈l,ok x
theorem Ge.manyN {w:Str} (h:Ge N 0 p (λ_=>0) ok):Ge N 0 (jV w p) (λ_=>0) (dC7 N ok):=λr b r' hr e=>by
 obtain ⟨h1,h2⟩:=Ge.manyL h r b r' hr e;exact ⟨by dsimp only;omega,by omega,h2⟩
theorem Ge.listL (h:Ge N 0 p (λ_=>0) ok):Ge N 0 (jN p) (λl=>l.length+1) (λl=>∀ x∈l,ok x) :=
 .bind (Ge.nd _) λ_ _=>.alt (.pure (by simp) λx hx=>by cases hx) (.bind h λa ha=>.bind (Ge.manyL h) λl hl=>.bind (Ge.nd _) λ_ _=>.pure (by rw [aH];omega) λx hx=>by
  rcases bJ.1 hx with rfl | hx
  ·exact ha
  ·exact hl x hx)
theorem Ge.listN (h:Ge N 0 p (λ_=>0) ok):Ge N 0 (jN p) (λ_=>0) (λl=>l.length+1<=N/\∀ x∈l,ok x):=λr b r' hr e=>by
 obtain ⟨h1,h2⟩:=Ge.listL h r b r' hr e;dsimp only at h1;exact ⟨by dsimp only;omega,by omega,h2⟩
end
def nrE (x:Ex):Prop:=Ex.all oS x=true
theorem Ge.exN:Ge N 0 gEx (λ_=>0) nrE:=λr a r' hr e=>by
 have:=TI (lv:=0) e;exact ⟨by dsimp only;omega,cY7 (lv:=0) e⟩
def g3L (N:Nat) (l:List Sm):Prop:=Sm.alls (VQ N) l=true
def g3S (N:Nat) (s:Sm):Prop:=Sm.all (VQ N) s=true
theorem EC {kd:UInt8} {nm hd:Str} {ex:List Ex} {th el:List Sm} (hl:ex.length<=N) (h:∀ x∈ex,nrE x) (h1:g3L N th) (h2:g3L N el):g3S N (.mk kd nm hd ex th el):=by
 unfold g3S;rw [oM]
 have:VQ N (.mk kd nm hd ex th el)=true:=by
  unfold VQ;rw [aF,aB,aP];exact ⟨hl,h⟩
 rw [this,h1,h2]
 rfl
section
variable {N:Nat} {b:Pz (List Sm)}
theorem Ge.blk3 {b:Pz (List Sm)} (h:Ge N 0 b Sm.counts (g3L N)):Ge N 0 (qP b) Sm.counts (g3L N) :=
 .bind (Ge.nd _) λ_ _=>.bind h λl hl=>.bind (Ge.nd _) λ_ _=>.pure (by omega) hl
theorem qN:g3L N []:=by unfold g3L;rfl
theorem Ge.els3 (h:Ge N 0 b Sm.counts (g3L N)):Ge N 0 (FS b) Sm.counts (g3L N):=.alt (λr a r' hr e=>by have:=Ge.blk3 h r a r' hr e;exact ⟨by omega,this.2⟩) (.pure (cM _) qN)
theorem Ge.oth3 (h:Ge N 0 b Sm.counts (g3L N)):Ge N 0 (vD b) Sm.counts (g3L N):=.alt (λr a r' hr e=>by have:=Ge.blk3 h r a r' hr e;exact ⟨by omega,this.2⟩) (.bind (Ge.nd _) λ_ _=>.pure (cM _) qN)
theorem SU {e:Ex} (h:nrE e):∀ x∈[e],nrE x:=λx hx=>by rw [dQ.1 hx];exact h
theorem bW9 {e f:Ex} (h:nrE e) (k:nrE f):∀ x∈[e,f],nrE x:=λx hx=>by
 rcases bJ.1 hx with rfl | hx
 ·exact h
 ·rw [dQ.1 hx];exact k
theorem dB7:∀ x∈([]:List Ex),nrE x:=λx hx=>by cases hx
theorem Ge.st3 (hN:2<=N) (h:Ge N 0 b Sm.counts (g3L N)):Ge N 0 (gSt b) Sm.count (g3S N):=by
 have z0:([]:List Ex).length<=N:=cM _;have z1:∀ e:Ex,[e].length<=N:=λe=>by simp;omega
 have z2:∀ e f:Ex,[e,f].length<=N:=λe f=>by simp;omega
 exact .alt (.bind Ge.exN λe he=>.bind (Ge.blk3 h) λt ht=>.bind (Ge.els3 h) λl hl=>.pure (by rw [iG];omega) (EC (z1 _) (SU he) ht hl))<|.alt (.bind Ge.exN λe he=>.bind (Ge.blk3 h) λt ht=>.pure (by rw [iG];simp [Sm.counts];omega) (EC (z1 _) (SU he) ht qN))<|.alt (.bind Ge.exN λe he=>.bind (Ge.nd _) λ_ _=>.bind Ge.exN λf hf=>.bind (Ge.oth3 h) λl hl=>.pure (by rw [iG];simp [Sm.counts];omega) (EC (z2 _ _) (bW9 he hf) qN hl))<|.alt (.bind Ge.nm λn _=>.bind (Ge.nd _) λ_ _=>.bind Ge.exN λf hf=>.bind (Ge.oth3 h) λl hl=>.pure (by rw [iG];simp [Sm.counts];omega) (EC (z1 _) (SU hf) qN hl))<|.alt (.bind Ge.nm λn _=>.bind (Ge.nd _) λ_ _=>.bind Ge.nm λg _=>.bind (Ge.listN Ge.exN) λl hl=>.bind (Ge.nd _) λ_ _=>.pure (by rw [iG];simp [Sm.counts]) (EC (by omega) hl.2 qN qN))<|.alt (.bind Ge.exN λe he=>.bind (Ge.nd _) λ_ _=>.bind Ge.nm λg _=>.bind (Ge.listN Ge.exN) λl hl=>.bind (Ge.nd _) λ_ _=>.pure (by rw [iG];simp [Sm.counts]) (EC hl.1 (λx hx=>by
  rcases bJ.1 hx with rfl | hx
  ·exact he
  ·exact hl.2 x hx) qN qN))<|.alt (.bind (Ge.nd _) λ_ _=>.pure (by rw [iG];simp [Sm.counts]) (EC z0 dB7 qN qN))<|.alt (.bind Ge.nm λn _=>.bind (Ge.nd _) λ_ _=>.bind Ge.exN λe he=>.bind (Ge.nd _) λ_ _=>.bind (Ge.nd _) λ_ _=>.pure (by rw [iG];simp [Sm.counts]) (EC (z1 _) (SU he) qN qN))<|.bind Ge.nm λn _=>.alt (.bind Ge.exN λe he=>.bind (Ge.nd _) λ_ _=>.bind (Ge.nd _) λ_ _=>.bind Ge.exN λf hf=>.bind (Ge.nd _) λ_ _=>.pure (by rw [iG];simp [Sm.counts]) (EC (z2 _ _) (bW9 he hf) qN qN))
  (.bind (Ge.nd _) λ_ _=>.bind Ge.exN λf hf=>.bind (Ge.nd _) λ_ _=>.pure (by rw [iG];simp [Sm.counts]) (EC (z1 _) (SU hf) qN qN))
theorem Ge.bF3 (hN:2<=N):∀ f,Ge N 0 (gBF f) Sm.counts (g3L N)
 | 0=>λr b r' hr e=>by unfold gBF at e;cases e
 | f+1=>λr b r' hr e=>by
  unfold gBF at e
  split at e
  ·injection e with e1 e2;subst e1 e2;exact ⟨by simp [Sm.counts],qN⟩
  ·obtain ⟨s,q,k1,k2⟩:=Rs.bind_ok e;obtain ⟨l,q2,k3,k4⟩:=Rs.bind_ok k2;injection k4 with k4 k5
   subst k4 k5;obtain ⟨h1,h2⟩:=Ge.st3 hN (Ge.bF3 hN f) r s q hr k1;obtain ⟨h3,h4⟩:=Ge.bF3 hN f q l q2 (by omega) k3;refine ⟨by simp only [Sm.counts];omega,?_⟩;unfold g3L g3S at *;simp [Sm.alls,h2,h4]
theorem Ge.allB3 (hN:2<=N):Ge N 0 gB Sm.counts (g3L N):=λr b r' hr e=>Ge.bF3 hN _ r b r' hr e
theorem Ge.blkN3 (hN:2<=N):Ge N 0 (qP gB) (λ_=>0) (λl=>g3L N l/\Sm.counts l<=N):=λr a r' hr e=>by
 obtain ⟨h1,h2⟩:=Ge.blk3 (Ge.allB3 hN) r a r' hr e;exact ⟨by dsimp only;omega,h2,by omega⟩
theorem Ge.nm0:Ge N 0 gNm (λ_=>0) (λ_=>True):=Ge.any Suf.nm
theorem Ge.hd3 (hN:2<=N):Ge N 0 gHd (λ_=>0) (dA6 N) :=
 .bind (Ge.any Suf.nm) λn _=>.bind (Ge.listN Ge.nm0) λl hl=>.bind (Ge.blkN3 hN) λb hb=>.pure (cM _) ⟨by have:=hl.1;show l.length<=N;omega,hb.2,cN (aJ5 b) hb.2,hb.1⟩
theorem Ge.vs3 (hN:2<=N):Ge N 0 gVs (λ_=>0) (cK4 N):=λr a r' hr e=>by
 obtain ⟨h1,h2⟩:=Ge.manyN (Ge.hd3 hN) r a r' hr e;exact ⟨h1,h2.1,h2.2⟩
theorem Ge.vn3 (hN:2<=N) (w:Str):Ge N 0 (gVn w) (λ_=>0) (cK4 N) :=
 .bind (Ge.nn _) λ_ _=>.bind (Ge.nd _) λ_ _=>.bind (Ge.vs3 hN) λv hv=>.bind (Ge.nd _) λ_ _=>.pure (cM _) hv
theorem Ge.vm3 (hN:2<=N):Ge N 0 gVm (λ_=>0) (λl=>l.length<=2/\∀ v∈l,cK4 N v) :=
 .alt (.bind (Ge.vn3 hN _) λv hv=>.alt (.bind (Ge.vn3 hN _) λw hw=>.pure (cM _) ⟨by simp,λx hx=>by
  rcases bJ.1 hx with rfl | hx
  ·exact hv
  ·rw [dQ.1 hx];exact hw⟩) (.pure (cM _) ⟨by simp,λx hx=>by rw [dQ.1 hx];exact hv⟩)) (.pure (cM _) ⟨by simp,λx hx=>by cases hx⟩)
theorem Ge.cp3 (hN:3<=N):Ge N 0 gCp (λ_=>0) (dA7 N) :=
 .bind (Ge.any Suf.nm) λn _=>.bind (Ge.nd _) λ_ _=>.bind (Ge.manyN (Ge.any Suf.vr)) λvs hvs=>.bind (Ge.vs3 (by omega)) λv hv=>.bind (Ge.vm3 (by omega)) λl hl=>.bind (Ge.nd _) λ_ _=>.pure (cM _) ⟨hvs.1,by show (v::l).length<=N;rw [aH];have:=hl.1;omega,λx hx=>by
  rcases bJ.1 hx with rfl | hx
  ·exact hv
  ·exact hl.2 x hx⟩
theorem Ge.ft3 (hN:3<=N):Ge N 0 gFt (λ_=>0) (bX6 N) :=
 .bind (Ge.nd _) λ_ _=>.bind (Ge.any Suf.nm) λn _=>.bind (Ge.nd _) λ_ _=>.bind (Ge.manyN (Ge.any Suf.fg)) λfs hf=>.bind (Ge.manyN (Ge.any Suf.lk)) λls hl=>.bind (Ge.manyN (Ge.cp3 hN)) λcs hc=>.bind (Ge.nd _) λ_ _=>.pure (cM _) ⟨hf.1,hl.1,hc.1,hc.2⟩
end
theorem dA5 {f:Ft} (hx:vl gFt (sg0 t) f) (h:(sgZ gFt t).e=0):bX6 20000 f:=by
 obtain ⟨⟨a,ha⟩,_⟩:=SL Cz.ft h
 have h0:(sg0 t).e=0:=by
  by_cases k:20000<t.length
  ·exfalso
   have e0:sg0 t=⟨[],3,0⟩:=by unfold sg0;rw [aE k]
   unfold sgZ at h;rw [e0,yC (by decide)] at h;unfold Sg.cl at h;rw [aE rfl] at h;exact absurd (show (3:Nat)=0 from h) (by decide)
  ·unfold sg0;rw [aA k]
 rw [hx h0 a [] ha];refine (Ge.ft3 (N:=20000) (by decide) _ a [] ?_ ha).2;unfold sg0
 split
 ·simp
 ·have:=CN t;show (sE t).length<=20000;omega
theorem PP:cU prg 16=true:=by kernel_rfl
theorem PO:cU prg 20=true:=by kernel_rfl
theorem bT5:cU prg 33=true:=by kernel_rfl
theorem ZS:cU prg 34=true:=by kernel_rfl
def zF:Ft:=⟨[],[],[],[]⟩
theorem aA4 {k:IntKind} (H:Hp):Rep H (dFt k zF) [.string ⟨#[]⟩,.slice none 0 0,.slice none 0 0,.slice none 0 0]:=MV (x:=zF) (by decide) (Rep.empty (p:=none) (c:=0) (by decide)) (Rep.empty (p:=none) (c:=0) (by decide)) (Rep.empty (p:=none) (c:=0) (by decide))
noncomputable def pzT (t:Str) (a:Ft):Ft:=if (sgZ gFt t).e=0/\kA a=0 then a else zF
noncomputable def rfT (t:Str) (a:Ft):Ft:=if (sgZ gFt t).e=0 then a else zF
theorem cL8 {a:Ft} {cs:List Value} (h:Rep H (dFt .u8 a) cs):Rep H (dFt .u8 (pzT t a)) (pzR t a cs):=by
 unfold pzT pzR
 split
 ·exact h
 ·exact aA4 H
theorem cL5 {a:Ft} {cs:List Value} (h:Rep H (dFt .i64 a) cs):Rep H (dFt .i64 (rfT t a)) (rfR t cs):=by
 unfold rfT rfR
 split
 ·exact h
 ·exact aA4 H
theorem TO (H:Hp) (a:Ft) (ca cb:List Value) (w:World) (ha:Rep H (dFt .u8 a) ca) (hb:Rep H (dFt .u8 a) cb) (hA:Agr H w):Calls prg 20 #[.agg ca.toArray,.agg cb.toArray] w λr w'=>r=.returned (.bool true)/\Ext w w' :=
 (bO0 H a a ca cb w ha hb hA).mono λe W' ⟨h1,h2⟩=>⟨by rw [h1,bB.2 rfl],h2⟩
theorem KT (H:Hp) (G:Gl H) (t:Str) (ht:t.length<=9223372036854775807) (w:World) (hA:Agr H w):Calls prg 16 #[cJ t] w λr w'=>r=.returned (.bool true)/\Ext w w':=by
 refine Sx.enter (H:=H) func16 rfl ntmps16 rfl hA ?_;refine .sr<|.a Z Z<|.ns<|.mv Z<|.cs (X:=Ft × List Value × Hp) ZW Z (λW s=>bL9 G t ht s) Z λz1 hz1=>?_
 obtain ⟨a1,c1,H1⟩:=z1;obtain ⟨hv1,u1,r1⟩:=hz1;dsimp only at hv1 u1 r1|-;have r1:=cL8 (t:=t) r1;obtain ⟨y2,y3,y4,ey⟩:=IS r1;rw [ey] at r1|-;refine .mv Z<|.yw (.extract Z Z)<|.yw (.extract Z Z)<|.yw (.extract Z Z)<|.al vW Z λb3=>.sW .head Z Z sJ (Rep.one r1) Z<|.a Z Z<|.a Z Z<|.ns<|.mv Z<|.cs (X:=Ft × List Value × Hp) bT5 Z (λW s=>bM0 t ht s) Z λz2 hz2=>?_
 obtain ⟨a2,c2,H2⟩:=z2;obtain ⟨hv2,u2,r2⟩:=hz2;dsimp only at hv2 u2 r2|-;have r2:=cL5 (t:=t) r2;obtain ⟨w2,w3,w4,ew⟩:=IS r2;rw [ew] at r2|-;refine .mv Z<|.yw (.extract Z Z)<|.yw (.extract Z Z)<|.yw (.extract Z Z)<|.al zK Z λb6=>.sW .head Z Z yH (Rep.one r2) Z<|.a Z Z<|.aq Z<|.sq<|.sm Z<|.yw (.neq Z Z)<|.nt<|.ce Z (λh24=>?_) (λh24=>?_)
 ·have hZ:¬ (sgZ gFt t).e=0:=by omega
  have hE:pzE t a1=(sgZ gFt t).e:=aA hZ;have hO:pzO t a1=(sgZ gFt t).o:=aA (λh=>hZ h.1);have hX:rfO t=(sgZ gFt t).o:=aA hZ;rw [show pzT t a1=zF from aA (λh=>hZ h.1)] at r1|-;refine .sm Z<|.mv Z<|.yw (.cast (.eql Z Z) (congrArg Value.bool (dU (by rw [hE]))))<|.mv Z<|.gy (.move Z)<|.gy (.move Z)<|.gy (.cast (.eql Z Z) (congrArg Value.bool (dU (by rw [hO,hX]))))<|.yw (.pickT Z Z)<|.mv Z<|.gy (.loadW Z lJ dN Z)<|.gy (.build Z NL)<|.gy (.call PO Z (λW s=>TO _ zF _ _ W (r1.up u2.up) (aA4 _) s.agr))<|.yw (.pickT Z Z)<|.az Z<|.tR<|?_
  exact y9 Z Z λW s=>⟨Z,s.ext⟩
 have hZ:(sgZ gFt t).e=0:=by omega
 obtain ⟨_,hZo⟩:=SL Cz.ft hZ;obtain rfl:a1=a2:=cV4 hv1 hv2 Cz.ft hZ;rw [show rfT t a1=a1 from aE hZ] at r2|-;refine .sk<|.tN<|.sr<|.yw (.loadW Z AY Hm Z)<|.ct (X:=List Value) ZS Z (λW s=>WY 20000 (by decide) H2 a1 (dA5 hv1 hZ) _ W r2 s.agr) Z λc3 H3 r3 u3=>?_
 obtain ⟨z2,z3,z4,rfl⟩:=IS r3;refine .al vW Z λb9=>.sW .head Z Z sJ (Rep.one r3) Z<|.nt<|.sq<|.sr<|.yw (.loadW Z lJ Hm Z)<|.yw (.call PM Z (λW s=>OT H3 (((G.up u1.up).up u2.up).up u3.up) a1 _ r3 (cD3 hv1 hZ) W s.agr))<|.a Z Z<|.ns<|.mv Z<|.yw (.neq Z Z)<|.nt<|.ce Z (λh43=>?_) (λh43=>?_)
 ·have hck:¬ kA a1=0:=by omega
  have hE:pzE t a1=kA a1:=aE hZ;have hO:pzO t a1=0:=by unfold pzO;rw [aA (λh=>hck h.2),hZo]
  rw [show pzT t a1=zF from aA (λh=>hck h.2)] at r1|-;refine .sm Z<|.mv Z<|.yw (.cast (.eql Z Z) (congrArg Value.bool (dU (by rw [hE]))))<|.mv Z<|.gy (.move Z)<|.gy (.cast (.eql Z Z) (congrArg Value.bool (dU (by rw [hO];rfl))))<|.yw (.pickT Z Z)<|.mv Z<|.gy (.loadW Z lJ fN Z)<|.gy (.build Z NL)<|.gy (.call PO Z (λW s=>TO _ zF _ _ W (r1.up (u2.trans u3).up) (aA4 _) s.agr))<|.yw (.pickT Z Z)<|.az Z<|.tR<|?_
  exact y9 Z Z λW s=>⟨Z,s.ext⟩
 have hck:kA a1=0:=by omega
 have hE:pzE t a1=0:=by unfold pzE;rw [aE hZ,hck]
 have hO:pzO t a1=0:=aE ⟨hZ,hck⟩;rw [show pzT t a1=a1 from aE ⟨hZ,hck⟩] at r1|-;refine .sk<|.tN<|.sm Z<|.yw (.cast (.eql Z Z) (congrArg Value.bool (dU (by rw [hE];rfl))))<|.mv Z<|.gy (.move Z)<|.gy (.cast (.eql Z Z) (congrArg Value.bool (dU (by rw [hO];rfl))))<|.yw (.pickT Z Z)<|.mv Z<|.gy (.loadW Z lJ fN Z)<|.gy (.loadW Z lJ Hm Z)<|.gy (.call PO Z (λW s=>TO _ a1 _ _ W (r1.up (u2.trans u3).up) r3 s.agr))<|.yw (.pickT Z Z)<|.az Z<|?_
 exact y9 Z Z λW s=>⟨Z,s.ext⟩
def aB9 (ks:List Kt):List Kt:=(4,[40])::(ks++[(4,[41])])
def RdK (ks:List Kt) (e:Ex):Prop:=∀ le r,le.map kt=ks->Stp 0 r->pX 0 (le++r)=.ok e r
variable {ks:List Kt}
theorem RdK.par {e:Ex} (h:RdK ks e) {le r:List Tk} (hk:le.map kt=aB9 ks):pX 5 (le++r)=.ok e r:=by
 unfold aB9 at hk;obtain ⟨t,l1,rfl,ht,hk⟩:=dG.1 hk;obtain ⟨l2,l3,rfl,h2,h3⟩:=kD.1 hk;obtain ⟨t2,l4,rfl,ht2,h4⟩:=dG.1 h3;obtain rfl:=gR.1 h4;simp only [aR,aQ,bU];have hf:=h l2 (t2::r) h2 (.of (by rw [ht2];decide) (by rw [ht2];decide));rw [JS,iF,iF,ht,aA (by decide),aA (by decide),qW];have hk0:t.k=4:=congrArg Prod.fst ht;simp only [iF,ht];rw [aA (by rw [hk0];decide),aA (by decide),aA (by decide),aA (by decide),aA (by decide),aE (by decide),hf];show wF [41] (t2::r) _=_;rw [wF,iF,ht2,aE (by decide)]
 rfl
end Go.Proofs.YthhoebdlfjffkaaGreatDoor
/- Plain: expressions with all parentheses are read back: the cases beside two operands. -/
namespace Go.Proofs.YthhoebdlfjffkaaGreatDoor
mutual
def aO0:Ex->List Kt
 | .mk op nm n args=>match cE5 args with
  | []=>ktE (.mk op nm n [])
  | [b]=>if op=6 then (1,nm)::(4,[91])::(b++[(4,[93])]) else if op=7 then (2,[104,97,115])::(1,nm)::(4,[91])::(b++[(4,[93])])
   else if op=9 then (4,[45])::aB9 b else (2,[110,111,116])::aB9 b
  | a::b::_=>aB9 a++KR op::aB9 b
def cE5:List Ex->List (List Kt)
 | []=>[]
 | e::r=>aO0 e::cE5 r
end
end Go.Proofs.YthhoebdlfjffkaaGreatDoor
