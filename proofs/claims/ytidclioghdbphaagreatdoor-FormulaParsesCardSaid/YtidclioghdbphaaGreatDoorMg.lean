/- Texts of the proof, one behind the other. -/
import Derived.Test.YtidclioghdbphaaGreatDoorMf
set_option linter.all false
set_option maxRecDepth 100000
namespace Go.Proofs.YtidclioghdbphaaGreatDoor
open Go.RowKit Go.Par Go.Sx Tryz
set_option maxHeartbeats 2000000 in
theorem aQ6 (H:Hp) (f:Fm) (most N:Nat) (hm:most<=9223372036854775807) (hb:blF N f=true) (hc:f.count<=9000000000000000000\/most<=1000000000000) (hN:N * (most+1)<=100000000000\/N * f.count<=100000000000) (hN1:N<=100000000000) (cs:List Value) (w:World) (h:Rep H (dFm .u8 f) cs) (hA:Agr H w):Calls prg 34 #[.agg cs.toArray,iN most] w λr w'=>r=.returned (iN (min f.count (most+1)))/\Ext w w':=by
 obtain ⟨op,nm,fd,a,b,ex,args⟩:=f;obtain ⟨p1,c1,p2,c2,rfl,hs1,hs2,hnm,hfd⟩:=gZ h;refine Sx.enter (H:=H) func34 rfl ntmps34 rfl hA ?_;refine .sr<|.bx Z Z Z λb2=>.a Z Z<|.ns<|.a Z Z<|.ns<|.yw (.loadW Z cL Hm Z)<|.blR (z:=7) Z (rK _ _ _ _ _ _ _) Z Z (by simp [maxLen]) λb13=>.aq Z<|.sq<|?_
 refine Sx.row0 76 4 ?_;refine .rg<|.aq Z<|.sq<|.bk<|.pm [1,0,2] [_,_,_] Z Z<|.lp (X:=Nat × List Fm × List Ex × Value × Value × List Value × List Value) [(1,_)] ⟨Z,Jt⟩ [] (λz=>[(5,iN z.1),(6,z.2.2.2.1),(7,z.2.2.2.2.1)]) (λz=>H) (λz=>[.row 35 7 z.2.2.2.1 z.2.1.length z.2.2.2.2.2.1,.row 76 4 z.2.2.2.2.1 z.2.2.1.length z.2.2.2.2.2.2,.box b2 [.int .u8 op.toNat,bV nm,bV fd,.int .i64 a.toInt,.int .i64 b.toInt,.slice p1 ex.length c1,.slice p2 args.length c2] 35]) (λz=>eJ H 7 (z.2.1.map (dFm .u8)) z.2.2.2.2.2.1/\eJ H 4 (z.2.2.1.map (dEx .u8)) z.2.2.2.2.2.2/\z.1+(Fm.counts z.2.1+Ex.counts z.2.2.1)=Fm.count (.mk op nm fd a b ex args)/\z.1<=most+1/\(∀ g∈z.2.1,blF N g=true)/\(∀ e∈z.2.2.1,blE N e=true)/\(z.2.1.length+z.2.2.1.length<=1+2 * (N * z.1))) (λz=>Fm.count (.mk op nm fd a b ex args) - z.1) (0,[Fm.mk op nm fd a b ex args],[],.slice (some ⟨b13,0,none⟩) 1 1,.slice none 0 0,[.int .u8 op.toNat,bV nm,bV fd,.int .i64 a.toInt,.int .i64 b.toInt,.slice p1 ex.length c1,.slice p2 args.length c2],[]) (λ_ s=>s) ⟨Z,Z,Z,Jt⟩ ⟨.single h Z,.nil,by rw [Fm.counts,Fm.counts,Ex.counts];omega,aP _,λg hg=>by rw [cO.1 hg];exact hb,λe he=>(by cases he),by simp⟩ λz hC=>?_
 obtain ⟨n,fs,ts,rf,rt,xf,xt⟩:=z;obtain ⟨zf,zt,hcnt,hn,hbf,hbt,hlen⟩:=hC;dsimp only at zf zt hcnt hn hbf hbt hlen|-;have hNn:N * n<=N * (most+1):=mD N hn;have hNc:N * n<=N * Fm.count (.mk op nm fd a b ex args):=mD N (by omega)
 have hNm:N * n<=100000000000:=by
  rcases hN with h | h <;> omega
 refine At.ra (size:=7) (r:=rf) (e:=35) Hm λpf cf e=>?_;subst e;refine At.ra (size:=4) (r:=rt) (e:=76) cR λpt ct e=>?_;subst e;refine .sq<|.sm Z<|.mv Z<|.yw (.leq Z Z)<|.mv Z<|.b2 (λh17=>?_) (λh17=>?_)
 ·have hle:n<=most:=by have:=aJ h17;omega
  refine .gy (.move Z)<|.gy (.lenSl eY Z)<|.gy (.move Z)<|.gy (.lenSl dP Z)<|.gy (.add Z Z (c:=((fs.length+ts.length:Nat):Int)) ((w6 (by omega)).trans (by omega)))<|.gy (.gtr Z Z)<|.yw (.pickT Z Z)<|.nt<|.cd Z (λh24=>?_) (λh24=>?_)
  ·have hpos:0<fs.length+ts.length:=by have:=aJ h24;omega
   replace h24:=hpos;refine .sk<|.tN<|.bk<|.sm Z<|.yw (.add Z Z (c:=((n+1:Nat):Int)) ((w6 (by omega)).trans (by omega)))<|.aq Z<|.sq<|.sm Z<|.yw (.lenSl dP Z)<|.yw (.sub Z Z (c:=(ts.length:Int) - 1) (w6 (by omega)))<|.a Z Z<|.ns<|.mv Z<|.yw (.geq Z Z)<|.nt<|.ce Z (λh31=>?_) (λh31=>?_)
   ·obtain ⟨ts0,e0,rfl⟩:∃ ts0 e0,ts=ts0++[e0]:=by
     rcases List.eq_nil_or_concat ts with h | ⟨t,x,h⟩
     ·subst h;exact (by simp at h31)
     ·exact ⟨t,x,by rw [h,List.concat_eq_append]⟩
    have hl0:(ts0++[e0]).length=ts0.length+1:=by rw [aE];rfl
    refine Sx.rowCase (size:=4) (r:=.slice pt (ts0++[e0]).length ct) (e:=76) cR (by rw [hl0];exact Nat.succ_pos _) λg c e hgc=>?_;injection e with e3 _ e4
    subst e3 e4;obtain ⟨cs0,r0,hc0,hx0⟩:=eJ.at zt (i:=ts0.length) (d:=dEx .u8 e0) (by rw [bT,List.getElem?_append_right (by rw [bJ];exact aW _),bJ,jP];rfl);obtain ⟨op0,nm0,m0,eG⟩:=e0;obtain ⟨p0,c0,rfl,hs0,_⟩:=jB r0;have hb0:=(CZ.1 (hbt _ (cK.2 (.inr (cO.2 rfl)))))
    have hz0:eJ H 4 (ts0.map (dEx .u8)) (xt.take (ts0.length * 4)):=by
     have h:=eJ.take ts0.length zt;rw [bT,List.take_left' (by rw [bJ])] at h;exact h
    rw [nR,Ex.counts,Ex.counts,pT] at hcnt;rw [hl0] at hlen;have hNs:N * (n+1)=N * n+N:=Nat.mul_succ N n;refine .sm Z<|.mv Z<|.yw (.indexSl dP Z Z (i:=ts0.length) (by rw [hl0];omega) (by rw [hl0];omega) (q:=ts0.length * 4) (by omega))<|.yw (.loadR (vs:=[.int .u8 op0.toNat,bV nm0,.int .i64 m0.toInt,.slice p0 eG.length c0]) Z dS cR Z hx0)<|.al kS Z λb9=>.sX .head Z Z gM Z<|?_
    refine Sx.At.rcut (size:=4) (m:=ts0.length) (ys:=xt.take (ts0.length * 4)) jW (by rw [hl0];exact Nat.le_succ _) rfl ?_;exact .nt<|.sq<|.fL 6 [(0,0),(1,0),(2,0),(3,0),(4,0),(5,3)]<|.mv Z<|.mv Z<|.yw (.cutHi dP Z Z (h:=ts0.length) (by rw [hl0];omega) (by rw [hl0] at hgc;omega) (λq e=>by cases e;rfl))<|.fA Z eI<|.lD Z dG Hm Z<|.apD vY Z (λ_ _=>jW) Z hs0 (by simp only [maxLen];omega) (by omega) Z (λ_ _=>(.d3<|.d2<|.nl)) λnews pN cN hzn=>.fn (tl:=[_]) Z<|.aq Z<|.ex<|.tE<|.bE<|.tN<|.ag (x:=(n,fs,ts0++[Ex.mk op0 nm0 m0 eG],Value.slice pf fs.length cf,Value.slice (some ⟨g,0,none⟩) (ts0++[Ex.mk op0 nm0 m0 eG]).length ct,xf,xt)) (n+1,fs,ts0++eG,Value.slice pf fs.length cf,Value.slice pN (ts0.length+eG.length) cN,xf,xt.take (ts0.length * 4)++news) ⟨Z,Z,Z,Jt⟩ ⟨Z,Jt⟩ (λ_ s=>by dsimp only;rw [aE];exact (s.pick [1,2,3] _ Z Z)) ⟨zf,by rw [bT];exact hz0.app hzn,by dsimp only;rw [nR];omega,by dsimp only;omega,hbf,λe he=>by rcases cK.1 he with h | h;exact hbt e (cK.2 (.inl h));exact hb0.2 e h,by dsimp only;rw [aE,hNs];omega⟩ (by dsimp only;omega)
   have hts:ts=[]:=by
    cases ts with
    | nil=>rfl
    | cons t r=>simp at h31 <;> omega
   subst hts;obtain rfl:xt=[]:=zt
   obtain ⟨fs0,f0,rfl⟩:∃ fs0 f0,fs=fs0++[f0]:=by
    rcases List.eq_nil_or_concat fs with h | ⟨t,x,h⟩
    ·subst h;simp at h24
    ·exact ⟨t,x,by rw [h,List.concat_eq_append]⟩
   have hl0:(fs0++[f0]).length=fs0.length+1:=by rw [aE];rfl
   refine Sx.rowCase (size:=7) (r:=.slice pf (fs0++[f0]).length cf) (e:=35) Hm (by rw [hl0];exact Nat.succ_pos _) λg c e hgc=>?_;injection e with e3 _ e4
   subst e3 e4;obtain ⟨cs0,r0,hc0,hx0⟩:=eJ.at zf (i:=fs0.length) (d:=dFm .u8 f0) (by rw [bT,List.getElem?_append_right (by rw [bJ];exact aW _),bJ,jP];rfl);obtain ⟨op0,nm0,fd0,a0,b0,ex0,eG⟩:=f0;obtain ⟨q1,d1,q2,d2,rfl,hs0,hs3,_,_⟩:=gZ r0;have hb0:=(xX.1 (hbf _ (cK.2 (.inr (cO.2 rfl)))))
   have hz0:eJ H 7 (fs0.map (dFm .u8)) (xf.take (fs0.length * 7)):=by
    have h:=eJ.take fs0.length zf;rw [bT,List.take_left' (by rw [bJ])] at h;exact h
   rw [fG,Fm.counts,Fm.counts,jT] at hcnt;rw [hl0] at hlen;have hNs:N * (n+1)=N * n+N:=Nat.mul_succ N n;refine .sk<|.tN<|.sm Z<|.yw (.lenSl eY Z)<|.yw (.sub Z Z (c:=((fs0.length:Nat):Int)) (by rw [hl0];exact (w6 (by omega)).trans (by omega)))<|.a Z Z<|.ns<|.mv Z<|.mv Z<|.yw (.indexSl eY Z Z (i:=fs0.length) Z (by rw [hl0];omega) (q:=fs0.length * 7) (by omega))<|.yw (.loadR (vs:=cFm .u8 op0 nm0 fd0 a0 b0 (.slice q1 ex0.length d1) (.slice q2 eG.length d2)) Z cL Hm Z hx0)<|.al eS Z λb11=>.sX .head Z Z dC Z<|?_
   refine Sx.At.rcut (size:=7) (m:=fs0.length) (ys:=xf.take (fs0.length * 7)) jS (by rw [hl0];exact Nat.le_succ _) rfl ?_;refine .nt<|.sq<|.fL 6 [(0,0),(1,0),(2,0),(3,0),(4,0),(5,3)]<|.mv Z<|.mv Z<|.yw (.cutHi eY Z Z (h:=fs0.length) Z (by rw [hl0] at hgc;omega) (λq e=>by cases e;rfl))<|.fA Z dF<|.lD Z fY Hm Z<|.apD sN Z (λ_ _=>jS) Z hs3 (by simp only [maxLen];omega) (by omega) Z (λ_ _=>(.d3<|.d2<|.nl)) λnews pN cN hzn=>.fn (tl:=[_]) Z<|.aq Z<|.rg<|.mv Z<|.fA Z cQ<|.lD Z dG Hm Z<|.apD vY Z (λ_ _=>jW) Z hs0 (by simp only [maxLen];omega) (by simp only [aQ];omega) Z λnews2 r2 hzn2=>?_
   rw [show ([]:List Ex).length+ex0.length=ex0.length from dT _];exact .a Z Z<|.nl<|.bN<|.tN<|.ag (x:=(n,fs0++[Fm.mk op0 nm0 fd0 a0 b0 ex0 eG],([]:List Ex),Value.slice (some ⟨g,0,none⟩) (fs0++[Fm.mk op0 nm0 fd0 a0 b0 ex0 eG]).length cf,Value.slice pt 0 ct,xf,([]:List Value))) (n+1,fs0++eG,ex0,Value.slice pN (fs0.length+eG.length) cN,r2,xf.take (fs0.length * 7)++news,news2) ⟨Z,Z,Z,Jt⟩ ⟨Z,Jt⟩ (λ_ s=>by dsimp only;rw [aE];exact (s.pick [1,2,3] _ Z Z)) ⟨by rw [bT];exact hz0.app hzn,hzn2,by dsimp only;rw [fG];rw [Ex.counts] at hcnt;omega,by dsimp only;omega,λe he=>by rcases cK.1 he with h | h;exact hbf e (cK.2 (.inl h));exact hb0.2 e h,λe he=>hb0.1.2.2 e he,by dsimp only;rw [aE,hNs];simp only [aQ] at hlen;omega⟩ (by dsimp only;omega)
  have hz24:¬ 0<fs.length+ts.length:=λe=>aO h24 (by omega);refine .ex<|.eb<|.sm Z<|.az Z<|?_
  refine y9 Z Z λW s=>⟨?_,s.ext⟩
  first
   | (rw [show n=min (Fm.count (.mk op nm fd a b ex args)) (most+1) by omega])
   | (rw [show n=min (Fm.count (.mk op nm fd a b ex args)) (most+1) from by (have h1:fs=[]:=bK (by omega));(have h2:ts=[]:=bK (by omega));subst h1;subst h2;rw [Fm.counts,Ex.counts] at hcnt;omega])
 have hgt:¬ n<=most:=λe=>aO h17 (by omega);refine .gG<|.gG<|.gG<|.gG<|.gG<|.gG<|.yw (.pickF Z Z)<|.nt<|.cF Z<|.ex<|.eb<|.sm Z<|.az Z<|?_
 refine y9 Z Z λW s=>⟨?_,s.ext⟩
 first
  | (rw [show n=min (Fm.count (.mk op nm fd a b ex args)) (most+1) by omega])
  | (rw [show n=min (Fm.count (.mk op nm fd a b ex args)) (most+1) from by (have h1:fs=[]:=bK (by omega));(have h2:ts=[]:=bK (by omega));subst h1;subst h2;rw [Fm.counts,Ex.counts] at hcnt;omega])
variable {f:Fm}
theorem bH1 (h:60<f.count):fH f=3:=by unfold fH;rw [aM (.inl h)]
theorem bH0 (h:Fm.all oL f=false):fH f=3:=by unfold fH;rw [aM (.inr h)]
theorem cD6 (h:¬ 60<f.count) (h2:Fm.all oL f=true):¬ (60<f.count\/Fm.all oL f=false):=λe=>by
 rcases e with e | e
 ·exact h e
 ·rw [h2] at e;cases e
theorem bG9 (h:¬ 60<f.count) (h2:Fm.all oL f=true) (h3:Fm.all xQ f=false):fH f=9:=by unfold fH;rw [aD (cD6 h h2),aM h3]
theorem bG8 (h:¬ 60<f.count) (h2:Fm.all oL f=true) (h3:Fm.all xQ f=true) (h4:Fm.all kV f=false):fH f=6:=by unfold fH;rw [aD (cD6 h h2),aD (by rw [h3];decide),aM h4]
theorem bG7 (h:¬ 60<f.count) (h2:Fm.all oL f=true) (h3:Fm.all xQ f=true) (h4:Fm.all kV f=true):fH f=0:=by unfold fH;rw [aD (cD6 h h2),aD (by rw [h3];decide),aD (by rw [h4];decide)]
theorem FP (H:Hp) (G:Gl H) (Gt:Gf H) (f:Fm) (hb:blF 600000 f=true) (cs:List Value) (w:World) (h:Rep H (dFm .u8 f) cs) (hA:Agr H w):Calls prg 15 #[.agg cs.toArray] w λr w'=>r=.returned (iN (fH f))/\Ext w w':=by
 obtain ⟨op,nm,fd,a,b,ex,args⟩:=f;obtain ⟨p1,c1,p2,c2,rfl,hs1,hs2,hnm,hfd⟩:=gZ h;refine Sx.enter (H:=H) func15 rfl ntmps15 rfl hA ?_;refine .sr<|.bx Z Z Z λb1=>.aq Z<|.sq<|.bk<|.sq<|.sr<|.yw (.loadW Z cL Hm Z)<|.yw (.call aU1 Z (λW s=>aQ6 H (.mk op nm fd a b ex args) 60 600000 (by decide) hb (.inr (by decide)) (.inl (by decide)) (by decide) _ W h s.agr))<|.yw (.gtr Z Z)<|.aq Z<|.cr Z (λh3=>?_) (λh3=>?_)
 ·have hc:60<Fm.count (.mk op nm fd a b ex args):=by have:=aJ h3;omega
  refine .sk<|.tN<|.cT Z<|.sr<|.az Z<|.bR<|.tR<|?_
  refine y9 Z Z λW s=>⟨?_,s.ext⟩
  first
   | (rw [bH1 hc];rfl)
   | (rw [bH0 hs];rfl)
   | (rw [bG9 hc hs hn];rfl)
   | (rw [bG8 hc hs hn hf];rfl)
   | (rw [bG7 hc hs hn hf];rfl)
 have hc:¬ 60<Fm.count (.mk op nm fd a b ex args):=λe=>aO h3 (by omega);refine .rg<|.yw (.loadW Z cL Hm Z)<|.yw (.call EC Z (λW s=>JH H 36 oL cK0 aU0 (λf hp=>WE H f hp) _ (aB0 _ (by omega)) _ W h s.agr))<|.yw (.not Z)<|.aq Z<|.cr Z (λh3=>?_) (λh3=>?_)
 ·have hs:Fm.all oL (.mk op nm fd a b ex args)=false:=by simpa using h3
  refine .sr<|.az Z<|.bR<|.tR<|?_
  refine y9 Z Z λW s=>⟨?_,s.ext⟩
  first
   | (rw [bH1 hc];rfl)
   | (rw [bH0 hs];rfl)
   | (rw [bG9 hc hs hn];rfl)
   | (rw [bG8 hc hs hn hf];rfl)
   | (rw [bG7 hc hs hn hf];rfl)
 have hs:Fm.all oL (.mk op nm fd a b ex args)=true:=by simpa using h3
 refine .sr<|.yw (.loadW Z cL Hm Z)<|.yw (.call EC Z (λW s=>JH H 37 xQ (λ_=>true) aT9 (λf _=>aO4 H G Gt f) _ (KK _) _ W h s.agr))<|.yw (.not Z)<|.aq Z<|.cd Z (λh10=>?_) (λh10=>?_)
 ·have hn:Fm.all xQ (.mk op nm fd a b ex args)=false:=by simpa using h10
  refine .sr<|.az Z<|.bR<|.tR<|?_
  refine y9 Z Z λW s=>⟨?_,s.ext⟩
  first
   | (rw [bH1 hc];rfl)
   | (rw [bH0 hs];rfl)
   | (rw [bG9 hc hs hn];rfl)
   | (rw [bG8 hc hs hn hf];rfl)
   | (rw [bG7 hc hs hn hf];rfl)
 have hn:Fm.all xQ (.mk op nm fd a b ex args)=true:=by simpa using h10
 refine .sr<|.yw (.loadW Z cL Hm Z)<|.yw (.call EC Z (λW s=>JH H 38 kV (λ_=>true) aT8 (λf _=>aA8 H Gt f) _ (KK _) _ W h s.agr))<|.yw (.not Z)<|.aq Z<|.cd Z (λh14=>?_) (λh14=>?_)
 ·have hf:Fm.all kV (.mk op nm fd a b ex args)=false:=by simpa using h14
  refine .sr<|.az Z<|.bR<|.tR<|?_
  refine y9 Z Z λW s=>⟨?_,s.ext⟩
  first
   | (rw [bH1 hc];rfl)
   | (rw [bH0 hs];rfl)
   | (rw [bG9 hc hs hn];rfl)
   | (rw [bG8 hc hs hn hf];rfl)
   | (rw [bG7 hc hs hn hf];rfl)
 have hf:Fm.all kV (.mk op nm fd a b ex args)=true:=by simpa using h14
 refine .sk<|.bN<|.tN<|.sr<|.az Z<|?_
 refine y9 Z Z λW s=>⟨?_,s.ext⟩
 first
  | (rw [bH1 hc];rfl)
  | (rw [bH0 hs];rfl)
  | (rw [bG9 hc hs hn];rfl)
  | (rw [bG8 hc hs hn hf];rfl)
  | (rw [bG7 hc hs hn hf];rfl)
theorem VU:∀ l,aX5 l=l.map λe=>(e.op,tmT e)
 | []=>by rw [aX5];rfl
 | e::r=>by rw [aX5,VU r];rfl
theorem XW:∀ l,bG2 l=l.map λf=>(f.op,fmT f)
 | []=>by rw [bG2];rfl
 | e::r=>by rw [bG2,XW r];rfl
theorem CC {op:UInt8} {nm:Str} {n:Int64} {args:List Ex} :tmT (.mk op nm n args)=aX6 op nm n (args.map λe=>(e.op,tmT e)):=by rw [tmT,VU]
variable {a:Int64}
theorem CR {op:UInt8} {nm fd:Str} {b:Int64} {ex:List Ex} {args:List Fm} :fmT (.mk op nm fd a b ex args)=UO (.mk op nm fd a b ex args) (args.map λf=>(f.op,fmT f)):=by rw [fmT,XW]
theorem hd0 {α β:Type} {f:α->β} {l:List α} {d:β} (h:0<l.length):(l.map f).headD d=f l[0]:=by
 cases l with
 | nil=>exact absurd h (Nat.lt_irrefl _)
 | cons a r=>rfl
theorem hd1 {α β:Type} {f:α->β} {l:List α} {d:β} (h:1<l.length):((l.map f).drop 1).headD d=f l[1]:=by
 match l,h with
 | _::b::r,_=>rfl
theorem GQ {op:UInt8} (h:op=14\/op=15):tlv op=4:=by unfold tlv;rw [aM h]
theorem yZ {op:UInt8} (h:op=11\/op=12\/op=13):tlv op=5:=by unfold tlv;rw [aD (by rcases h with rfl | rfl | rfl <;> decide),aM h]
theorem ZG {op:UInt8} (h:op=9):tlv op=6:=by subst h;rfl
theorem ZF {op:UInt8} (h1:¬ op=14) (h2:¬ op=15) (h3:¬ op=11) (h4:¬ op=12) (h5:¬ op=13) (h6:¬ op=9):tlv op=7:=by
 unfold tlv;rw [aD (by rintro (h | h);exact h1 h;exact h2 h),aD (by rintro (h | h | h);exact h3 h;exact h4 h;exact h5 h),aD h6]
theorem SP (op:UInt8):tlv op<=7:=by
 unfold tlv
 repeat' split
 all_goals omega
section
variable {op:UInt8} {nm:Str} {n:Int64} {args:List Ex}
theorem tm1 (h:op=1):tmT (.mk op nm n args)=Lib.itoa n.toInt:=by rw [CC];subst h;rfl
theorem tm4 (h:op=4):tmT (.mk op nm n args)=[110,111,119]:=by rw [CC];subst h;rfl
theorem tm5 (h:op=5):tmT (.mk op nm n args)=nm:=by rw [CC];subst h;rfl
theorem tm6 (h:op=6) (h0:0<args.length):tmT (.mk op nm n args)=(nm++([91]:Str)++tmT args[0]++([93]:Str):Str):=by
 rw [CC];subst h;show (nm++([91]:Str)++_++([93]:Str):Str)=_;rw [hd0 h0]
theorem tm8 (h:op=8):tmT (.mk op nm n args)=(([115,105,122,101,32]:Str)++nm):=by rw [CC];subst h;rfl
theorem tm9 (h:op=9) (h0:0<args.length):tmT (.mk op nm n args)=(([45]:Str)++EE (decide (tlv args[0].op<6)) (tmT args[0]):Str):=by
 rw [CC];subst h;show (([45]:Str)++EE _ _:Str)=_;rw [hd0 h0]
theorem tmb (h:op=11\/op=12\/op=13\/op=14\/op=15) (h0:0<args.length) (h1:1<args.length):tmT (.mk op nm n args)=(EE (decide (tlv args[0].op<tlv op)) (tmT args[0])++([32]:Str)++SW op++([32]:Str)++EE (decide (tlv args[1].op<tlv op+1)) (tmT args[1]):Str):=by
 rw [CC];unfold aX6;rw [hd0 h0,hd1 h1];rcases h with rfl | rfl | rfl | rfl | rfl <;> rfl
theorem tmn (h1:¬ op=1) (h4:¬ op=4) (h5:¬ op=5) (h6:¬ op=6) (h8:¬ op=8) (h9:¬ op=9) (hb:¬ (op=11\/op=12\/op=13\/op=14\/op=15)):tmT (.mk op nm n args)=[95]:=by
 rw [CC];unfold aX6;rw [aD h1,aD h4,aD h5,aD h6,aD h8,aD h9,aD hb]
end
theorem sI (b:Bool) (s:Str):s.length<=(EE b s).length/\(EE b s).length<=s.length+2:=by
 unfold EE;cases b
 ·rw [aD (by decide)];omega
 ·rw [aM rfl];simp only [aE,aK,aQ];omega
variable {m:Nat}
theorem aG3 {l:List Str} (h:∀ x∈l,x.length<=m) (i:Nat):(l.getD i []).length<=m:=by
 rw [List.getD_eq_getElem?_getD];cases e:l[i]? with
 | none=>exact aP _
 | some x=>exact h x (Al_List_mem_of_getElem? e)
theorem GV (op:UInt8):(SW op).length<=2:=aG3 (l:=kO) (by decide) _
theorem PS (op:UInt8):(uQ op).length<=8:=aG3 (l:=UI) (by decide) _
theorem MA {op:UInt8} {nm:Str} {n:Int64} {args:List Ex} (h:op=6\/op=9) (hT:eL (.mk op nm n args)=true):args.length=1/\∀ a∈args,eL a=true:=by
 rw [CD,aC,bC] at hT;refine ⟨?_,hT.2⟩;have h1:=hT.1;unfold VM at h1;simp only [aC,aA] at h1;have h2:=h1.1.1.1.2;rcases h with rfl | rfl
 ·exact Int.ofNat_inj.1 (h2.symm.trans (by decide))
 ·exact Int.ofNat_inj.1 (h2.symm.trans (by decide))
theorem ZJ {op:UInt8} {nm:Str} {n:Int64} {args:List Ex} (h:op=11\/op=12\/op=13\/op=14\/op=15) (hT:eL (.mk op nm n args)=true):args.length=2/\∀ a∈args,eL a=true:=by
 rw [CD,aC,bC] at hT;refine ⟨?_,hT.2⟩;have h1:=hT.1;unfold VM at h1;simp only [aC,aA] at h1;have h2:=h1.1.1.1.2;rcases h with rfl | rfl | rfl | rfl | rfl <;> exact Int.ofNat_inj.1 (h2.symm.trans (by decide))
def nlE (e:Ex):Bool:=Ex.all (λe=>decide (e.nm.length<=1000000)) e
theorem GP (e:Ex) (hn:nlE e=true):(tmT e).length<=1000100 * e.count:=by
 induction e using Ex.ind with | _ op nm n args ih
 unfold nlE at hn;rw [BD,xC,aC,aA,bC] at hn;obtain ⟨hn,ha⟩:=hn;have hn':nm.length<=1000000:=hn
 have hx:∀ (l:List (UInt8 × Str)),l=args.map (λe=>(e.op,tmT e))->(l.headD (0,[])).2.length+((l.drop 1).headD (0,[])).2.length<=1000100 * Ex.counts args:=by
  rintro l rfl
  match args,ih,ha with
  | [],_,_=>exact aP _
  | [a],ih,ha =>
   have:=ih a (bQ ..) (ha a (bQ ..));rw [Ex.counts,Ex.counts];show (tmT a).length+0<=_;omega
  | a::b::r,ih,ha =>
   have h1:=ih a (bQ ..) (ha a (bQ ..));have h2:=ih b (cI _ (bQ ..)) (ha b (cI _ (bQ ..)));rw [Ex.counts,Ex.counts];show (tmT a).length+(tmT b).length<=_;omega
 have hx:=hx _ rfl;rw [pT,CC];unfold aX6;generalize args.map (λe=>(e.op,tmT e))=l at hx|-;have hi:=uE n;have p1:=(sI (decide (tlv (l.headD (0,[])).1<6)) (l.headD (0,[])).2).2;have p2:=(sI (decide (tlv (l.headD (0,[])).1<tlv op)) (l.headD (0,[])).2).2;have p3:=(sI (decide (tlv ((l.drop 1).headD (0,[])).1<tlv op+1)) ((l.drop 1).headD (0,[])).2).2;have p4:=GV op;generalize Ex.counts args=C at hx|-
 repeat' split
 all_goals (try simp only [aE,aK,aQ]);omega
def Gq (H:Hp):Prop:=∀ W,Agr H W->Lib.TabIs prg W "internal/strconv.uint64pow10" .u64 Lib.pow10Tab
variable {H H':Hp}
theorem Gq.up (g:Gq H) (u:Up H H'):Gq H':=λW a=>g W ⟨λb o e=>a b o (u b o e),u.lo ▸ a.lo⟩
theorem YB {w:World} (os:Array Obj):Ext w (Sort.grow w os) :=
 Ext.of_below ⟨Z,Z,Z,by simp [Sort.grow],λk hk=>by simp [Sort.grow,Array.getElem?_append,hk]⟩
theorem PD (H:Hp) (g:Gq H) (n:Int64) (w:World) (hA:Agr H w):Calls prg 138 #[.int .i64 n.toInt,.int .i64 10] w λr w'=>r=.returned (bV (Lib.itoa n.toInt))/\Ext w w' :=
 (Tryz.strconv_FormatInt_10 n.toInt (by have:=n.le_toInt;omega) (by have:=n.toInt_lt;omega) w (g w hA)).mono λ_ _ ⟨he,k,os,hw⟩=>⟨he,hw ▸ ((Ext.refl w).drewN k).trans (YB os)⟩
theorem HS (H:Hp) (g:Gq H) (n:Int64) (w:World) (hA:Agr H w):Calls prg 144 #[.int .i64 n.toInt] w λr w'=>r=.returned (bV (Lib.itoa n.toInt))/\Ext w w' :=
 (Tryz.strconv_Itoa n.toInt (by have:=n.le_toInt;omega) (by have:=n.toInt_lt;omega) w (g w hA)).mono λ_ _ ⟨he,k,os,hw⟩=>⟨he,hw ▸ ((Ext.refl w).drewN k).trans (YB os)⟩
theorem aG2 (H:Hp) (op:UInt8) (w:World) (hA:Agr H w):Calls prg 140 #[.int .u8 op.toNat] w λr w'=>r=.returned (iN (tlv op))/\Ext w w':=by
 refine Sx.enter (H:=H) func140 rfl ntmps140 rfl hA ?_;refine .sr<|.aq Z<|.sq<|.sm Z<|.nt<|.bk<|.sq<|.sr<|.yw (.eql Z Z)<|.aq Z<|.cr Z (λh4=>?_) (λh4=>?_)
 ·have qa:op=14:=aR.1 (by have:=aJ h4;show op.toNat=14;omega);refine .sk<|.tN<|.cT Z<|.sr<|.az Z<|.bR<|.tR<|?_
  refine y9 Z Z λW s=>⟨?_,s.ext⟩
  first
   | (rw [GQ (.inl qa)];rfl)
   | (rw [GQ (.inr qa)];rfl)
   | (rw [yZ (.inl qb)];rfl)
   | (rw [yZ (.inr (.inl qb))];rfl)
   | (rw [yZ (.inr (.inr qb))];rfl)
   | (rw [ZG q9];rfl)
   | (rw [ZF qa14 qa15 qb11 qb12 qb13 q9];rfl)
 have qa14:¬ op=14:=λe=>aO h4 (by rw [e];rfl);refine .rg<|.yw (.eql Z Z)<|.aq Z<|.cr Z (λh4=>?_) (λh4=>?_)
 ·have qa:op=15:=aR.1 (by have:=aJ h4;show op.toNat=15;omega);refine .sr<|.az Z<|.bR<|.tR<|?_
  refine y9 Z Z λW s=>⟨?_,s.ext⟩
  first
   | (rw [GQ (.inl qa)];rfl)
   | (rw [GQ (.inr qa)];rfl)
   | (rw [yZ (.inl qb)];rfl)
   | (rw [yZ (.inr (.inl qb))];rfl)
   | (rw [yZ (.inr (.inr qb))];rfl)
   | (rw [ZG q9];rfl)
   | (rw [ZF qa14 qa15 qb11 qb12 qb13 q9];rfl)
 have qa15:¬ op=15:=λe=>aO h4 (by rw [e];rfl);refine .sq<|.sr<|.yw (.eql Z Z)<|.aq Z<|.cr Z (λh7=>?_) (λh7=>?_)
 ·have qb:op=11:=aR.1 (by have:=aJ h7;show op.toNat=11;omega);refine .sk<|.tN<|.cT Z<|.sr<|.az Z<|.bR<|.tR<|?_
  refine y9 Z Z λW s=>⟨?_,s.ext⟩
  first
   | (rw [GQ (.inl qa)];rfl)
   | (rw [GQ (.inr qa)];rfl)
   | (rw [yZ (.inl qb)];rfl)
   | (rw [yZ (.inr (.inl qb))];rfl)
   | (rw [yZ (.inr (.inr qb))];rfl)
   | (rw [ZG q9];rfl)
   | (rw [ZF qa14 qa15 qb11 qb12 qb13 q9];rfl)
 have qb11:¬ op=11:=λe=>aO h7 (by rw [e];rfl);refine .sr<|.yw (.eql Z Z)<|.aq Z<|.cr Z (λh7=>?_) (λh7=>?_)
 ·have qb:op=12:=aR.1 (by have:=aJ h7;show op.toNat=12;omega);refine .sk<|.tN<|.cT Z<|.sr<|.az Z<|.bR<|.tR<|?_
  refine y9 Z Z λW s=>⟨?_,s.ext⟩
  first
   | (rw [GQ (.inl qa)];rfl)
   | (rw [GQ (.inr qa)];rfl)
   | (rw [yZ (.inl qb)];rfl)
   | (rw [yZ (.inr (.inl qb))];rfl)
   | (rw [yZ (.inr (.inr qb))];rfl)
   | (rw [ZG q9];rfl)
   | (rw [ZF qa14 qa15 qb11 qb12 qb13 q9];rfl)
 have qb12:¬ op=12:=λe=>aO h7 (by rw [e];rfl);refine .rg<|.yw (.eql Z Z)<|.aq Z<|.cr Z (λh7=>?_) (λh7=>?_)
 ·have qb:op=13:=aR.1 (by have:=aJ h7;show op.toNat=13;omega);refine .sr<|.az Z<|.bR<|.tR<|?_
  refine y9 Z Z λW s=>⟨?_,s.ext⟩
  first
   | (rw [GQ (.inl qa)];rfl)
   | (rw [GQ (.inr qa)];rfl)
   | (rw [yZ (.inl qb)];rfl)
   | (rw [yZ (.inr (.inl qb))];rfl)
   | (rw [yZ (.inr (.inr qb))];rfl)
   | (rw [ZG q9];rfl)
   | (rw [ZF qa14 qa15 qb11 qb12 qb13 q9];rfl)
 have qb13:¬ op=13:=λe=>aO h7 (by rw [e];rfl);refine .sr<|.yw (.eql Z Z)<|.aq Z<|.cd Z (λh11=>?_) (λh11=>?_)
 ·have q9:op=9:=aR.1 (by have:=aJ h11;show op.toNat=9;omega);refine .sr<|.az Z<|.bR<|.tR<|?_
  refine y9 Z Z λW s=>⟨?_,s.ext⟩
  first
   | (rw [GQ (.inl qa)];rfl)
   | (rw [GQ (.inr qa)];rfl)
   | (rw [yZ (.inl qb)];rfl)
   | (rw [yZ (.inr (.inl qb))];rfl)
   | (rw [yZ (.inr (.inr qb))];rfl)
   | (rw [ZG q9];rfl)
   | (rw [ZF qa14 qa15 qb11 qb12 qb13 q9];rfl)
 have q9:¬ op=9:=λe=>aO h11 (by rw [e];rfl);refine .sk<|.bN<|.tN<|.sr<|.az Z<|?_
 refine y9 Z Z λW s=>⟨?_,s.ext⟩
 first
  | (rw [GQ (.inl qa)];rfl)
  | (rw [GQ (.inr qa)];rfl)
  | (rw [yZ (.inl qb)];rfl)
  | (rw [yZ (.inr (.inl qb))];rfl)
  | (rw [yZ (.inr (.inr qb))];rfl)
  | (rw [ZG q9];rfl)
  | (rw [ZF qa14 qa15 qb11 qb12 qb13 q9];rfl)
theorem wC (H:Hp) (e:Ex) (k:Nat) (ht:(∀ (cs:List Value) (W:World),Rep H (dEx .u8 e) cs->eL e=true\/Ex.op e=0->(tmT e).length<=1000000000->Agr H W->Calls prg 89 #[.agg cs.toArray] W λr W'=>r=.returned (bV (tmT e))/\Ext W W')) (cs:List Value) (w:World) (h:Rep H (dEx .u8 e) cs) (hok:eL e=true\/e.op=0) (hl:(tmT e).length<=1000000000) (hA:Agr H w) :
 Calls prg 139 #[.agg cs.toArray,iN k] w λr w'=>r=.returned (bV (EE (decide (tlv e.op<k)) (tmT e)))/\Ext w w':=by
 obtain ⟨op,nm,nn,args⟩:=e;obtain ⟨pp,c,rfl,hs,hnm⟩:=jB h;refine Sx.enter (H:=H) func139 rfl ntmps139 rfl hA ?_;refine .sr<|.bx Z Z Z λb2=>.aq Z<|.sq<|.sr<|.fA Z hU<|.lD Z kR Hm Z<|.yw (.call OE Z (λW s=>aG2 H op W s.agr))<|.mv Z<|.yw (.lss Z Z)<|.nt<|.cd Z (λh9=>?_) (λh9=>?_)
 ·have h9:tlv op<k:=by have:=aJ h9;omega
  refine .sr<|.yw (.loadW Z dS Hm Z)<|.yw (.call tQ Z (λW s=>ht _ W h hok hl s.agr))<|.yw (.app Z Z (by (try simp only [aE,aK,aQ]);omega))<|.yw (.app Z Z (by (try simp only [aE,aK,aQ]);omega))<|.az Z<|.tR<|?_
  refine y9 Z Z λW s=>⟨?_,s.ext⟩
  first
   | (rw [show decide (tlv (Ex.op (.mk op nm nn args))<k)=true from aF h9];rfl)
   | (rw [show decide (tlv (Ex.op (.mk op nm nn args))<k)=false from aI h9];rfl)
 have h9:¬ tlv op<k:=λe=>aO h9 (by omega);refine .sk<|.tN<|.sr<|.yw (.loadW Z dS Hm Z)<|.yw (.call tQ Z (λW s=>ht _ W h hok hl s.agr))<|.az Z<|?_
 refine y9 Z Z λW s=>⟨?_,s.ext⟩
 first
  | (rw [show decide (tlv (Ex.op (.mk op nm nn args))<k)=true from aF h9];rfl)
  | (rw [show decide (tlv (Ex.op (.mk op nm nn args))<k)=false from aI h9];rfl)
theorem tV (H:Hp) (G:Gf H) (gq:Gq H) (e:Ex):(∀ (cs:List Value) (W:World),Rep H (dEx .u8 e) cs->eL e=true\/Ex.op e=0->(tmT e).length<=1000000000->Agr H W->Calls prg 89 #[.agg cs.toArray] W λr W'=>r=.returned (bV (tmT e))/\Ext W W'):=by
 induction e using Ex.ind with | _ op nm nn args ih
 intro cs w h hok hl hA;obtain ⟨pp,c,rfl,hs,hnm⟩:=jB h;have hcap:=hs.cap;refine Sx.enter (H:=H) func89 rfl ntmps89 rfl hA ?_;refine .sr<|.bx Z Z Z λb1=>.aq Z<|.sq<|.sr<|.fA Z hU<|.lD Z kR Hm Z<|.nt<|.bk<|.sr<|.yw (.eql Z Z)<|.aq Z<|.cd Z (λh6=>?_) (λh6=>?_)
 ·have q1:op=1:=aR.1 (by have:=aJ h6;show op.toNat=1;omega);refine .sr<|.fA Z gQ<|.lD Z kM Hm Z<|.yw (.call aE1 Z (λW s=>PD H gq nn W s.agr))<|.az Z<|.bR<|.tR<|?_
  refine y9 Z Z λW s=>⟨?_,s.ext⟩
  first
   | (rw [tm1 q1])
   | (rw [tm4 q4];rfl)
   | (rw [tm5 q5])
   | (rw [tm6 q6 h0];rfl)
   | (rw [tm8 q8];rfl)
   | (rw [tm9 q9 h0];rfl)
   | (rw [tmb qB h0 h1];rfl)
   | (rw [tmn q1 q4 q5 q6 q8 q9 qB];rfl)
 have q1:¬ op=1:=λe=>aO h6 (by rw [e];rfl);refine .sr<|.yw (.eql Z Z)<|.aq Z<|.cd Z (λh11=>?_) (λh11=>?_)
 ·have q4:op=4:=aR.1 (by have:=aJ h11;show op.toNat=4;omega);refine .sr<|.az Z<|.bR<|.tR<|?_
  refine y9 Z Z λW s=>⟨?_,s.ext⟩
  first
   | (rw [tm1 q1])
   | (rw [tm4 q4];rfl)
   | (rw [tm5 q5])
   | (rw [tm6 q6 h0];rfl)
   | (rw [tm8 q8];rfl)
   | (rw [tm9 q9 h0];rfl)
   | (rw [tmb qB h0 h1];rfl)
   | (rw [tmn q1 q4 q5 q6 q8 q9 qB];rfl)
 have q4:¬ op=4:=λe=>aO h11 (by rw [e];rfl);refine .sr<|.yw (.eql Z Z)<|.aq Z<|.cd Z (λh13=>?_) (λh13=>?_)
 ·have q5:op=5:=aR.1 (by have:=aJ h13;show op.toNat=5;omega);refine .sr<|.fA Z fZ<|.lD Z cP Hm Z<|.az Z<|.bR<|.tR<|?_
  refine y9 Z Z λW s=>⟨?_,s.ext⟩
  first
   | (rw [tm1 q1])
   | (rw [tm4 q4];rfl)
   | (rw [tm5 q5])
   | (rw [tm6 q6 h0];rfl)
   | (rw [tm8 q8];rfl)
   | (rw [tm9 q9 h0];rfl)
   | (rw [tmb qB h0 h1];rfl)
   | (rw [tmn q1 q4 q5 q6 q8 q9 qB];rfl)
 have q5:¬ op=5:=λe=>aO h13 (by rw [e];rfl);refine .sr<|.yw (.eql Z Z)<|.aq Z<|.cd Z (λh17=>?_) (λh17=>?_)
 ·have q6:op=6:=aR.1 (by have:=aJ h17;show op.toNat=6;omega);obtain ⟨hla,hta⟩:=MA (.inl q6) (hok.resolve_right (by rw [q6];exact (by decide:¬ (6:UInt8)=0)));have h0:0<args.length:=by omega
  obtain ⟨b0,o0,c0,hp0,r0,l0,m0⟩:=hs.elem (iL h0);cases hp0;rw [tm6 q6 h0] at hl;simp only [aE,aK,aQ] at hl

  refine .sq<|.fL 10 [(0,0),(1,0),(2,0),(3,0),(4,0),(5,0),(6,0),(7,0),(8,0),(9,0)]<|.fA Z fZ<|.lD Z cP Hm Z<|.yw (.app Z Z (by (try simp only [aE,aK,aQ]);omega))<|.fA Z eI<|.lD Z dG Hm Z<|.yw (.indexSl dP Z Z (i:=0) Z (by omega) (q:=o0+0 * 4) Z)<|.yw (.loadMW Z dS m0 l0)<|.yw (.call tQ Z (λW s=>ih _ (bI h0) _ W r0 (.inl (hta _ (bI h0))) (by omega) s.agr))<|.yw (.app Z Z (by (try simp only [aE,aK,aQ]);omega))<|.yw (.app Z Z (by (try simp only [aE,aK,aQ]);omega))<|.fn (tl:=[_]) Z<|.az Z<|.bR<|.tR<|?_
  refine y9 Z Z λW s=>⟨?_,s.ext⟩
  first
   | (rw [tm1 q1])
   | (rw [tm4 q4];rfl)
   | (rw [tm5 q5])
   | (rw [tm6 q6 h0];rfl)
   | (rw [tm8 q8];rfl)
   | (rw [tm9 q9 h0];rfl)
   | (rw [tmb qB h0 h1];rfl)
   | (rw [tmn q1 q4 q5 q6 q8 q9 qB];rfl)
 have q6:¬ op=6:=λe=>aO h17 (by rw [e];rfl);refine .sr<|.yw (.eql Z Z)<|.aq Z<|.cd Z (λh29=>?_) (λh29=>?_)
 ·have q8:op=8:=aR.1 (by have:=aJ h29;show op.toNat=8;omega);refine .sr<|.fA Z fZ<|.lD Z cP Hm Z<|.yw (.app Z Z (by (try simp only [aE,aK,aQ]);omega))<|.az Z<|.bR<|.tR<|?_
  refine y9 Z Z λW s=>⟨?_,s.ext⟩
  first
   | (rw [tm1 q1])
   | (rw [tm4 q4];rfl)
   | (rw [tm5 q5])
   | (rw [tm6 q6 h0];rfl)
   | (rw [tm8 q8];rfl)
   | (rw [tm9 q9 h0];rfl)
   | (rw [tmb qB h0 h1];rfl)
   | (rw [tmn q1 q4 q5 q6 q8 q9 qB];rfl)
 have q8:¬ op=8:=λe=>aO h29 (by rw [e];rfl);refine .sr<|.yw (.eql Z Z)<|.aq Z<|.cd Z (λh34=>?_) (λh34=>?_)
 ·have q9:op=9:=aR.1 (by have:=aJ h34;show op.toNat=9;omega);obtain ⟨hla,hta⟩:=MA (.inr q9) (hok.resolve_right (by rw [q9];exact (by decide:¬ (9:UInt8)=0)));have h0:0<args.length:=by omega
  obtain ⟨b0,o0,c0,hp0,r0,l0,m0⟩:=hs.elem (iL h0);cases hp0;rw [tm9 q9 h0] at hl;simp only [aE,aK,aQ] at hl;have pl:=sI (decide (tlv args[0].op<6)) (tmT args[0])

  refine .sr<|.fA Z eI<|.lD Z dG Hm Z<|.yw (.indexSl dP Z Z (i:=0) Z (by omega) (q:=o0+0 * 4) Z)<|.yw (.loadMW Z dS m0 l0)<|.yw (.call GC Z (λW s=>wC H _ 6 (ih _ (bI h0)) _ W r0 (.inl (hta _ (bI h0))) (by omega) s.agr))<|.yw (.app Z Z (by (try simp only [aE,aK,aQ]);omega))<|.az Z<|.bR<|.tR<|?_
  refine y9 Z Z λW s=>⟨?_,s.ext⟩
  first
   | (rw [tm1 q1])
   | (rw [tm4 q4];rfl)
   | (rw [tm5 q5])
   | (rw [tm6 q6 h0];rfl)
   | (rw [tm8 q8];rfl)
   | (rw [tm9 q9 h0];rfl)
   | (rw [tmb qB h0 h1];rfl)
   | (rw [tmn q1 q4 q5 q6 q8 q9 qB];rfl)
 have q9:¬ op=9:=λe=>aO h34 (by rw [e];rfl);refine .cu (X:=Bool) [(1,_)] ⟨Z,Jt⟩ (λz=>[(42,.bool z)]) (λz=>H) (λz=>[.box b1 [.int .u8 op.toNat,bV nm,.int .i64 nn.toInt,.slice pp args.length c] 76]) (λz=>z=decide (op=11\/op=12\/op=13\/op=14\/op=15)) ?_ λz hC=>?_
 ·
  refine .sr<|.yw (.eql Z Z)<|.aq Z<|.cr Z (λh42=>?_) (λh42=>?_)
  ·have qb:op=11:=aR.1 (by have:=aJ h42;show op.toNat=11;omega);exact .sk<|.tN<|.me _ ⟨Z,Jt⟩ ⟨Z,Jt⟩ (λ_ s=>s) (by first | (rw [qb];rfl) | (simp only [qb11,qb12,qb13,qb14,false_or];exact k8 (m:=15) (by decide)))
  have qb11:¬ op=11:=λe=>aO h42 (by rw [e];rfl);refine .sr<|.yw (.eql Z Z)<|.aq Z<|.cr Z (λh42=>?_) (λh42=>?_)
  ·have qb:op=12:=aR.1 (by have:=aJ h42;show op.toNat=12;omega);exact .sk<|.tN<|.me _ ⟨Z,Jt⟩ ⟨Z,Jt⟩ (λ_ s=>s) (by first | (rw [qb];rfl) | (simp only [qb11,qb12,qb13,qb14,false_or];exact k8 (m:=15) (by decide)))
  have qb12:¬ op=12:=λe=>aO h42 (by rw [e];rfl);refine .sr<|.yw (.eql Z Z)<|.aq Z<|.cr Z (λh42=>?_) (λh42=>?_)
  ·have qb:op=13:=aR.1 (by have:=aJ h42;show op.toNat=13;omega);exact .sk<|.tN<|.me _ ⟨Z,Jt⟩ ⟨Z,Jt⟩ (λ_ s=>s) (by first | (rw [qb];rfl) | (simp only [qb11,qb12,qb13,qb14,false_or];exact k8 (m:=15) (by decide)))
  have qb13:¬ op=13:=λe=>aO h42 (by rw [e];rfl);refine .sr<|.yw (.eql Z Z)<|.aq Z<|.cr Z (λh42=>?_) (λh42=>?_)
  ·have qb:op=14:=aR.1 (by have:=aJ h42;show op.toNat=14;omega);exact .sk<|.tN<|.me _ ⟨Z,Jt⟩ ⟨Z,Jt⟩ (λ_ s=>s) (by first | (rw [qb];rfl) | (simp only [qb11,qb12,qb13,qb14,false_or];exact k8 (m:=15) (by decide)))
  have qb14:¬ op=14:=λe=>aO h42 (by rw [e];rfl);exact .rg<|.yw (.eql Z Z)<|.aq Z<|.me _ ⟨Z,Jt⟩ ⟨Z,Jt⟩ (λ_ s=>s) (by first | (rw [qb];rfl) | (simp only [qb11,qb12,qb13,qb14,false_or];exact k8 (m:=15) (by decide)))
 have eqB:=hC;refine .cr Z (λh42=>?_) (λh42=>?_)
 ·have qB:(op=11\/op=12\/op=13\/op=14\/op=15):=by rw [h42] at eqB;exact aJ eqB.symm
  obtain ⟨hla,hta⟩:=ZJ qB (hok.resolve_right (by rintro (h:op=0);rw [h] at qB;revert qB;decide));have h0:0<args.length:=by omega
  have h1:1<args.length:=by omega
  obtain ⟨b0,o0,c0,hp0,r0,l0,m0⟩:=hs.elem (iL h0);cases hp0;obtain ⟨b1,o1,c1,hp1,r1,l1,m1⟩:=hs.elem (iL h1);cases hp1;rw [tmb qB h0 h1] at hl;simp only [aE,aK,aQ] at hl;have pl:=sI (decide (tlv args[0].op<tlv op)) (tmT args[0]);have pl1:=sI (decide (tlv args[1].op<tlv op+1)) (tmT args[1]);have psy:=GV op;have htl:=SP op;have hop:op.toNat<=15:=by rcases qB with rfl | rfl | rfl | rfl | rfl <;> decide
  refine .sr<|.fA Z hU<|.lD Z kR Hm Z<|.yw (.call OE Z (λW s=>aG2 H op W s.agr))<|.aq Z<|.sq<|.fL 21 [(0,0),(1,0),(2,0),(3,0),(4,0),(5,0),(6,0),(7,0),(8,0),(9,0),(10,0),(11,0),(12,0),(13,0),(14,0),(15,0),(16,0),(17,0),(18,0),(19,0),(20,0)]<|.fA Z eI<|.lD Z dG Hm Z<|.yw (.indexSl dP Z Z (i:=0) Z (by omega) (q:=o0+0 * 4) Z)<|.yw (.loadMW Z dS m0 l0)<|.mv Z<|.yw (.call GC Z (λW s=>wC H _ (tlv op) (ih _ (bI h0)) _ W r0 (.inl (hta _ (bI h0))) (by omega) s.agr))<|.yw (.app Z Z (by (try simp only [aE,aK,aQ]);omega))<|.fA Z hU<|.lD Z kR Hm Z<|.yw (.indexArr JU Z Z Z (by omega) (q:=op.toNat) (by omega))<|.yw (.loadM (k:=op.toNat) (v:=bV (SW op)) Z cP G.syms (by omega) (by show _=some (bV (kO.getD op.toNat []));exact uD (by show op.toNat<22;omega) []))<|.yw (.app Z Z (by (try simp only [aE,aK,aQ]);omega))<|.yw (.app Z Z (by (try simp only [aE,aK,aQ]);omega))<|.fA Z eI<|.lD Z dG Hm Z<|.yw (.indexSl dP Z Z (i:=1) Z (by omega) (q:=o0+1 * 4) Z)<|.yw (.loadMW Z dS m1 l1)<|.mv Z<|.yw (.add Z Z w7)<|.yw (.call GC Z (λW s=>wC H _ (tlv op+1) (ih _ (bI h1)) _ W r1 (.inl (hta _ (bI h1))) (by omega) s.agr))<|.yw (.app Z Z (by (try simp only [aE,aK,aQ]);omega))<|.fn (tl:=[_]) Z<|.az Z<|.bR<|.tR<|?_
  refine y9 Z Z λW s=>⟨?_,s.ext⟩
  first
   | (rw [tm1 q1])
   | (rw [tm4 q4];rfl)
   | (rw [tm5 q5])
   | (rw [tm6 q6 h0];rfl)
   | (rw [tm8 q8];rfl)
   | (rw [tm9 q9 h0];rfl)
   | (rw [tmb qB h0 h1];rfl)
   | (rw [tmn q1 q4 q5 q6 q8 q9 qB];rfl)
 have qB:¬ (op=11\/op=12\/op=13\/op=14\/op=15):=by rw [h42] at eqB;exact aO eqB.symm
 refine .sk<|.bN<|.tN<|.sr<|.az Z<|?_
 refine y9 Z Z λW s=>⟨?_,s.ext⟩
 first
  | (rw [tm1 q1])
  | (rw [tm4 q4];rfl)
  | (rw [tm5 q5])
  | (rw [tm6 q6 h0];rfl)
  | (rw [tm8 q8];rfl)
  | (rw [tm9 q9 h0];rfl)
  | (rw [tmb qB h0 h1];rfl)
  | (rw [tmn q1 q4 q5 q6 q8 q9 qB];rfl)
theorem NC (sep:Str):∀ l:List Str,Lib.join l sep=HR sep l
 | []=>rfl
 | [x]=>Lib.join_one x sep
 | x::y::r=>by
  show _=x++sep++HR sep (y::r);rw [<-NC sep (y::r),Lib.join_cons,Lib.join_cons];simp [Lib.joinTail,bW]
theorem aI6 (sep:Str):∀ l:List Str,(HR sep l).length<=(l.map List.length).sum+l.length * sep.length
 | []=>aP _
 | [x]=>by show x.length<=x.length+0+1 * sep.length;omega
 | x::y::r=>by
  have h:=aI6 sep (y::r);show (x++sep++HR sep (y::r)).length<=_;rw [aE,aE,eT,List.sum_cons,aK (a:=x),uL];omega
theorem bE7 (sep:Str):∀ (l:List Str),∀ x∈l,x.length<=(HR sep l).length
 | [y],x,h=>by rw [cO.1 h];exact aW _
 | y::z::r,x,h=>by
  show _<=(y++sep++HR sep (z::r)).length;rw [aE,aE];rcases bP.1 h with rfl | h
  ·omega
  ·have:=bE7 sep (z::r) x h;omega
section
variable {op:UInt8} {nm fd:Str} {a b:Int64} {ex:List Ex} {args:List Fm} {e0:Ex}
theorem XT (h:Fm.all kV (.mk op nm fd a b ex args)=true):kV (.mk op nm fd a b ex args)=true/\∀ g∈args,Fm.all kV g=true:=by
 rw [iM,aC,bC] at h;exact h
theorem mQ (h:kV (.mk op nm fd a b ex args)=true):¬ (dD op).lv=0/\args.length=(dD op).ar/\uW (.mk op nm fd a b ex args)=true/\CY (.mk op nm fd a b ex args)=true:=by
 unfold kV at h;rw [aC,aC,aC,aC,aC,aA,aA] at h;exact ⟨h.1.1.1.1.1,h.1.1.2,h.2,h.1.2⟩
theorem UL (h:kV (.mk op nm fd a b ex args)=true):op.toNat<=18:=by
 have h1:=(mQ h).1;exact Classical.byContradiction λe=>h1 (by unfold dD;rw [List.getD_eq_getElem?_getD,List.getElem?_eq_none (by show 19<=op.toNat;omega)];rfl)
theorem bF6 (h:kV (.mk op nm fd a b ex args)=true) (q:op=7):ex.length<=4/\∀ e∈ex,eL e=true\/e.op=0:=by
 have h1:=(mQ h).2.2.1;subst q;unfold uW at h1;rw [aM (show (Fm.mk 7 nm fd a b ex args).op=7 from rfl),aC,aA,bC] at h1;refine ⟨h1.1,λe he=>?_⟩;have h2:=h1.2 e he;rw [aT] at h2;rcases h2 with h2 | h2
 ·obtain ⟨o,n,m,al⟩:=e;unfold BX at h2;simp only [aC,aA] at h2;exact .inr h2.1.1.1
 ·exact .inl h2
theorem XR (h:kV (.mk op nm fd a b ex args)=true) (q:¬ op=7):ex.length=(dD op).ex/\(if op=3 then JK (ex.headD (.mk 0 [] 0 [])) else if op=5 then eL (ex.headD (.mk 0 [] 0 [])) else if op=18 then decide ((ex.headD (.mk 0 [] 0 [])).op=1) && eL (ex.headD (.mk 0 [] 0 [])) && decide ((ex.headD (.mk 0 [] 0 [])).n.toInt<=32) else true)=true:=by
 have h1:=(mQ h).2.2.1;unfold uW at h1;rw [aD (show ¬ (Fm.mk op nm fd a b ex args).op=7 from q),aC,aA] at h1;exact h1
theorem XS (h:kV (.mk op nm fd a b ex args)=true) (q:op=5\/op=18):∃ e0,ex=[e0]/\eL e0=true:=by
 have h1:=XR h (by rcases q with rfl | rfl <;> decide);have hl:ex.length=1:=h1.1.trans (by rcases q with rfl | rfl <;> rfl);obtain ⟨e0,rfl⟩:=List.length_eq_one_iff.1 hl;refine ⟨e0,Z,?_⟩;have h2:=h1.2;rcases q with rfl | rfl
 ·exact h2
 ·rw [aD (by decide),aD (by decide),aM rfl,aC,aC] at h2;exact h2.1.2
theorem bF7 (h:kV (.mk op nm fd a b ex args)=true) (q:op=3):∃ op0 nm0 m0 eG,ex=[.mk op0 nm0 m0 eG]/\(16<=op0.toNat/\op0.toNat<=21)/\eG.length=2/\∀ a∈eG,eL a=true:=by
 have h1:=XR h (by subst q;decide);have hl:ex.length=1:=h1.1.trans (by subst q;rfl);obtain ⟨⟨op0,nm0,m0,eG⟩,rfl⟩:=List.length_eq_one_iff.1 hl;refine ⟨op0,nm0,m0,eG,Z,?_⟩;have h2:=h1.2;rw [aM q] at h2;change JK (.mk op0 nm0 m0 eG)=true at h2;unfold JK at h2;simp only [aC,aA] at h2;rw [sY,bC] at h2;exact ⟨⟨h2.1.1.1.1,h2.1.1.1.2⟩,h2.2.2,h2.2.1⟩
theorem fx3 {op0:UInt8} {nm0:Str} {m0:Int64} {eG:List Ex} (h:op=3) (he:ex=[.mk op0 nm0 m0 eG]) (h0:0<eG.length) (h1:1<eG.length):fmT (.mk op nm fd a b ex args)=(tmT eG[0]++([32]:Str)++SW op0++([32]:Str)++tmT eG[1]:Str):=by
 match eG,h1 with
 | x::y::r,_=>rw [CR];subst h he;rfl
theorem fx4 (h:op=4):fmT (.mk op nm fd a b ex args)=(nm++([46]:Str)++fd:Str):=by rw [CR];subst h;rfl
theorem fx5 (h:op=5) (he:ex=[e0]):fmT (.mk op nm fd a b ex args)=(uQ op++([32]:Str)++nm++([46]:Str)++fd++([91]:Str)++tmT e0++([93]:Str):Str):=by rw [CR];subst h he;rfl
theorem fx6 (h:op=6):fmT (.mk op nm fd a b ex args)=(uQ op++([32]:Str)++nm:Str):=by rw [CR];subst h;rfl
theorem fx7 (h:op=7):fmT (.mk op nm fd a b ex args)=(uQ op++([32]:Str)++nm++([46]:Str)++fd++([40]:Str)++HR ([44,32]:Str) (ex.map tmT)++([41]:Str):Str):=by rw [CR];subst h;rfl
def pfW (k:Nat) (f:Fm):Str:=EE (decide ((dD f.op).lv<k)) (fmT f)
theorem fxu (h:op=8\/op=12\/op=13\/op=14) (h0:0<args.length):fmT (.mk op nm fd a b ex args)=(uQ op++GK (.mk op nm fd a b ex args)++([32]:Str)++pfW 5 args[0]:Str):=by
 rw [CR];unfold UO pfW;rw [hd0 h0];rcases h with rfl | rfl | rfl | rfl <;> rfl
theorem fxq (h:op=16\/op=17) (h0:0<args.length):fmT (.mk op nm fd a b ex args)=(uQ op++aC6 (.mk op nm fd a b ex args)++([32]:Str)++pfW 5 args[0]:Str):=by
 rw [CR];unfold UO pfW;rw [hd0 h0];rcases h with rfl | rfl <;> rfl
theorem NI (h:op=18) (he:ex=[e0]) (h0:0<args.length):fmT (.mk op nm fd a b ex args)=(uQ op++aC6 (.mk op nm fd a b ex args)++([32,40]:Str)++fmT args[0]++([41,32,62,61,32]:Str)++tmT e0:Str):=by
 rw [CR];unfold UO;rw [hd0 h0];subst h he;rfl
theorem fxb (h:op=15\/op=9\/op=10\/op=11) (h0:0<args.length) (h1:1<args.length):fmT (.mk op nm fd a b ex args)=(pfW (dD op).lv args[0]++([32]:Str)++uQ op++GK (.mk op nm fd a b ex args)++([32]:Str)++pfW ((dD op).lv+1) args[1]:Str):=by
 rw [CR];unfold UO pfW;rw [hd0 h0,hd1 h1];rcases h with rfl | rfl | rfl | rfl <;> rfl
theorem fxn (h3:¬ op=3) (h4:¬ op=4) (h5:¬ op=5) (h6:¬ op=6) (h7:¬ op=7) (hu:¬ (op=8\/op=12\/op=13\/op=14)) (hq:¬ (op=16\/op=17)) (h18:¬ op=18) (hb:¬ (op=15\/op=9\/op=10\/op=11)):fmT (.mk op nm fd a b ex args)=uQ op:=by
 rw [CR];unfold UO;rw [aD (show ¬ (Fm.mk op nm fd a b ex args).op=3 from h3),aD (show ¬ (Fm.mk op nm fd a b ex args).op=4 from h4),aD (show ¬ (Fm.mk op nm fd a b ex args).op=5 from h5),aD (show ¬ (Fm.mk op nm fd a b ex args).op=6 from h6),aD (show ¬ (Fm.mk op nm fd a b ex args).op=7 from h7),aD (show ¬ ((Fm.mk op nm fd a b ex args).op=8\/(Fm.mk op nm fd a b ex args).op=12\/(Fm.mk op nm fd a b ex args).op=13\/(Fm.mk op nm fd a b ex args).op=14) from hu),aD (show ¬ ((Fm.mk op nm fd a b ex args).op=16\/(Fm.mk op nm fd a b ex args).op=17) from hq),aD (show ¬ (Fm.mk op nm fd a b ex args).op=18 from h18),aD (show ¬ ((Fm.mk op nm fd a b ex args).op=15\/(Fm.mk op nm fd a b ex args).op=9\/(Fm.mk op nm fd a b ex args).op=10\/(Fm.mk op nm fd a b ex args).op=11) from hb)]
 rfl
theorem ar1 (h:op=8\/op=12\/op=13\/op=14\/op=16\/op=17\/op=18):(dD op).ar=1:=by rcases h with rfl | rfl | rfl | rfl | rfl | rfl | rfl <;> rfl
theorem ar2 (h:op=15\/op=9\/op=10\/op=11):(dD op).ar=2:=by rcases h with rfl | rfl | rfl | rfl <;> rfl
theorem aF4:(GK (.mk op nm fd a b ex args)).length<=46:=by
 unfold GK
 split
 ·exact aP _
 ·have h1:=uE (Fm.mk op nm fd a b ex args).a;have h2:=uE (Fm.mk op nm fd a b ex args).b;simp only [aE,aK,aQ];omega
theorem aL1:(aC6 (.mk op nm fd a b ex args)).length<=nm.length+49:=by
 have h1:=uE (Fm.mk op nm fd a b ex args).a;have h2:=uE (Fm.mk op nm fd a b ex args).b;show (([32]:Str)++nm++_++_++_++_).length<=_;simp only [aE,aK,aQ];omega
theorem LD (k:Nat) (f:Fm):(fmT f).length<=(pfW k f).length/\(pfW k f).length<=(fmT f).length+2:=sI _ _
end
def nlF (f:Fm):Bool:=Fm.all (λf=>decide (f.nm.length<=1000000) && decide (f.fd.length<=1000000) && f.ex.all nlE) f
theorem VV:∀ l:List Ex,(∀ e∈l,nlE e=true)->((l.map tmT).map List.length).sum<=1000100 * Ex.counts l
 | [],_=>aP _
 | e::r,h=>by
  rw [eT,eT,List.sum_cons,Ex.counts];have h1:=GP e (h e (bQ ..));have h2:=VV r λx hx=>h x (cI _ hx);omega
theorem aX7 (e:Ex) (h:nlE e=true):(tmT (ex0 e)).length+(tmT (ex1 e)).length<=1000100 * e.count:=by
 obtain ⟨op,nm,n,args⟩:=e;unfold nlE at h;rw [BD,xC,aC,bC] at h;rw [pT];have hz:tmT zE=[95]:=CC
 match args,h.2 with
 | [],_=>show (tmT zE).length+(tmT zE).length<=_;rw [hz,Ex.counts];decide
 | [x],h =>
  have:=GP x (h x (bQ ..));show (tmT x).length+(tmT zE).length<=_;rw [hz,Ex.counts,Ex.counts];show _+1<=_;omega
 | x::y::r,h =>
  have h1:=GP x (h x (bQ ..));have h2:=GP y (h y (cI _ (bQ ..)));show (tmT x).length+(tmT y).length<=_;rw [Ex.counts,Ex.counts];omega
theorem bG3 (F:Fm) (l:List (UInt8 × Str)) (C D:Nat) (h1:F.nm.length<=1000000) (h2:F.fd.length<=1000000) (he:(tmT (exH F)).length+(tmT (ex0 (exH F))).length+(tmT (ex1 (exH F))).length<=2000200 * D+3)
 (hj:(HR ([44,32]:Str) (F.ex.map tmT)).length<=1000102 * D) (hx:(l.headD (0,[])).2.length+((l.drop 1).headD (0,[])).2.length<=3000200 * C) (w1:(GK F).length<=46) (w2:(aC6 F).length<=F.nm.length+49):(UO F l).length<=3000200 * (D+C+1):=by
 have w3:=PS F.op;have w4:=GV (exH F).op;have p1:=(sI (decide ((dD (l.headD (0,[])).1).lv<5)) (l.headD (0,[])).2).2;have p2:=(sI (decide ((dD (l.headD (0,[])).1).lv<(dD F.op).lv)) (l.headD (0,[])).2).2;have p3:=(sI (decide ((dD ((l.drop 1).headD (0,[])).1).lv<(dD F.op).lv+1)) ((l.drop 1).headD (0,[])).2).2;unfold UO
 repeat' split
 all_goals (try simp only [aE,aK,aQ]);omega
theorem bS4 (f:Fm) (hn:nlF f=true):(fmT f).length<=3000200 * f.count:=by
 induction f using Fm.ind with | _ op nm fd a b ex args ih
 unfold nlF at hn;rw [iM,aC,aC,aC,aA,aA,bC,bC] at hn;obtain ⟨⟨⟨hn,hf⟩,he⟩,ha⟩:=hn;have hn':nm.length<=1000000:=hn;have hf':fd.length<=1000000:=hf;have he':∀ e∈ex,nlE e=true:=he
 have hx:∀ (l:List (UInt8 × Str)),l=args.map (λf=>(f.op,fmT f))->(l.headD (0,[])).2.length+((l.drop 1).headD (0,[])).2.length<=3000200 * Fm.counts args:=by
  rintro l rfl
  match args,ih,ha with
  | [],_,_=>exact aP _
  | [a],ih,ha =>
   have:=ih a (bQ ..) (ha a (bQ ..));rw [Fm.counts,Fm.counts];show (fmT a).length+0<=_;omega
  | a::b::r,ih,ha =>
   have h1:=ih a (bQ ..) (ha a (bQ ..));have h2:=ih b (cI _ (bQ ..)) (ha b (cI _ (bQ ..)));rw [Fm.counts,Fm.counts];show (fmT a).length+(fmT b).length<=_;omega
 have hx:=hx _ rfl
 have he0:(tmT (exH (.mk op nm fd a b ex args))).length+(tmT (ex0 (exH (.mk op nm fd a b ex args)))).length+(tmT (ex1 (exH (.mk op nm fd a b ex args)))).length<=2000200 * Ex.counts ex+3:=by
  have hz:tmT zE=[95]:=CC
  match ex,he' with
  | [],_ =>
   show (tmT zE).length+(tmT zE).length+(tmT zE).length<=_;rw [hz];show 3<=_;omega
  | e::r,h =>
   have h1:=GP e (h e (bQ ..));have h2:=aX7 e (h e (bQ ..));show (tmT e).length+(tmT (ex0 e)).length+(tmT (ex1 e)).length<=_;rw [Ex.counts];omega
 have hj:=aI6 ([44,32]:Str) (ex.map tmT);have hs:=VV ex he';have hl2:=bH9 ex;rw [bJ] at hj;rw [jT,CR];have e2:([44,32]:Str).length=2:=rfl;rw [e2] at hj;exact bG3 _ _ _ _ hn' hf' he0 (aV hj (by omega)) hx aF4 aL1
theorem bG4 (s:Fs):∀ W,(Instr.field 157 (.agg (fsC s).toArray) 0).run prg W=.ok (.int .u8 (s.lv:Nat)) W:=λ_=>by kernel_rfl
theorem cD2 (s:Fs):∀ W,(Instr.field 157 (.agg (fsC s).toArray) 3).run prg W=.ok (.bool s.wn) W:=λ_=>by kernel_rfl
section
variable {op:UInt8} {nm fd:Str} {a b:Int64} {ex:List Ex} {args:List Fm}
theorem aW6 (h:(!(dD op).wn)=true):GK (.mk op nm fd a b ex args)=[]:=by
 unfold GK;exact aM (show (!(dD op).wn || decide (b.toInt<0))=true by rw [h];rfl)
theorem aW5 (h:(!(dD op).wn)=false) (h2:decide (b.toInt<0)=true):GK (.mk op nm fd a b ex args)=[]:=by
 unfold GK;exact aM (show (!(dD op).wn || decide (b.toInt<0))=true by rw [h,h2];rfl)
theorem aW4 (h:(!(dD op).wn)=false) (h2:decide (b.toInt<0)=false):GK (.mk op nm fd a b ex args)=([91]:Str)++Lib.itoa a.toInt++([44,32]:Str)++Lib.itoa b.toInt++([93]:Str):=by
 unfold GK;exact aD (show ¬ (!(dD op).wn || decide (b.toInt<0))=true by rw [h,h2];decide)
end
theorem LR (H:Hp) (G:Gf H) (gq:Gq H) (f:Fm) (cs:List Value) (w:World) (h:Rep H (dFm .u8 f) cs) (hA:Agr H w):Calls prg 91 #[.agg cs.toArray] w λr w'=>r=.returned (bV (GK f))/\Ext w w':=by
 obtain ⟨op,nm,fd,a,b,ex,args⟩:=f;obtain ⟨p1,c1,p2,c2,rfl,hs1,hs2,hnm,hfd⟩:=gZ h;have hi1:=uE a;have hi2:=uE b;refine Sx.enter (H:=H) func91 rfl ntmps91 rfl hA ?_;refine .sr<|.bx Z Z Z λb1=>.aq Z<|.sq<|.sr<|.fA Z eP<|.lD Z iT Hm Z<|.yw (.call (v:=.agg (fsC (dD op)).toArray) rW Z (λW s=>pI H G op W s.agr))<|.yw (.fld Z (cD2 _))<|.yw (.not Z)<|.mv Z<|.b2 (λh8=>?_) (λh8=>?_)
 ·try simp only [dt] at h8
  refine .gG<|.gG<|.gG<|.yw (.pickT Z Z)<|.nt<|.cT Z<|.sr<|.az Z<|.tR<|?_
  refine y9 Z Z λW s=>⟨?_,s.ext⟩
  first
   | (rw [aW5 h8 h12];rfl)
   | (rw [aW4 h8 h12];rfl)
   | (rw [aW6 h8];rfl)
 try simp only [df] at h8
 refine .gy (.fieldAddr Z eW)<|.gy (.load Z bS Hm Z)<|.gy (.lss Z Z)<|.yw (.pickF Z Z)<|.nt<|.cd Z (λh12=>?_) (λh12=>?_)
 ·refine .sr<|.az Z<|.tR<|?_
  refine y9 Z Z λW s=>⟨?_,s.ext⟩
  first
   | (rw [aW5 h8 h12];rfl)
   | (rw [aW4 h8 h12];rfl)
   | (rw [aW6 h8];rfl)
 refine .sk<|.tN<|.sq<|.fL 10 [(0,0),(1,0),(2,0),(3,0),(4,0),(5,0),(6,0),(7,0),(8,0),(9,0)]<|.fA Z fI<|.lD Z bS Hm Z<|.yw (.call BJ Z (λW s=>HS H gq a W s.agr))<|.yw (.app Z Z (by (try simp only [aE,aK,aQ]);omega))<|.yw (.app Z Z (by (try simp only [aE,aK,aQ]);omega))<|.fA Z eW<|.lD Z bS Hm Z<|.yw (.call BJ Z (λW s=>HS H gq b W s.agr))<|.yw (.app Z Z (by (try simp only [aE,aK,aQ]);omega))<|.yw (.app Z Z (by (try simp only [aE,aK,aQ]);omega))<|.fn (tl:=[_]) Z<|.az Z<|?_
 refine y9 Z Z λW s=>⟨?_,s.ext⟩
 first
  | (rw [aW5 h8 h12];rfl)
  | (rw [aW4 h8 h12];rfl)
  | (rw [aW6 h8];rfl)
theorem RM (H:Hp) (gq:Gq H) (f:Fm) (cs:List Value) (w:World) (h:Rep H (dFm .u8 f) cs) (hA:Agr H w):Calls prg 93 #[.agg cs.toArray] w λr w'=>r=.returned (bV (aC6 f))/\Ext w w':=by
 obtain ⟨op,nm,fd,a,b,ex,args⟩:=f;obtain ⟨p1,c1,p2,c2,rfl,hs1,hs2,hnm,hfd⟩:=gZ h;have hi1:=uE a;have hi2:=uE b;refine Sx.enter (H:=H) func93 rfl ntmps93 rfl hA ?_;refine .sr<|.bx Z Z Z λb1=>.aq Z<|.sq<|.fL 13 [(0,0),(1,0),(2,0),(3,0),(4,0),(5,0),(6,0),(7,0),(8,0),(9,0),(10,0),(11,0),(12,0)]<|.fA Z gC<|.lD Z cP Hm Z<|.yw (.app Z Z (by (try simp only [aE,aK,aQ]);omega))<|.yw (.app Z Z (by (try simp only [aE,aK,aQ]);omega))<|.fA Z fI<|.lD Z bS Hm Z<|.yw (.call BJ Z (λW s=>HS H gq a W s.agr))<|.yw (.app Z Z (by (try simp only [aE,aK,aQ]);omega))<|.yw (.app Z Z (by (try simp only [aE,aK,aQ]);omega))<|.fA Z eW<|.lD Z bS Hm Z<|.yw (.call BJ Z (λW s=>HS H gq b W s.agr))<|.yw (.app Z Z (by (try simp only [aE,aK,aQ]);omega))<|.fn (tl:=[_]) Z<|.az Z<|?_
 refine y9 Z Z λW s=>⟨?_,s.ext⟩
 first
  | (rfl)
theorem wT (H:Hp) (G:Gf H) {op:UInt8} {nm fd:Str} {b:Int64} {ex:List Ex} {args:List Fm} (i k:Nat) (hk:i<args.length) (ht:(∀ (cs:List Value) (W:World),Rep H (dFm .u8 args[i]) cs->Fm.all kV args[i]=true->(fmT args[i]).length<=1000000000->Agr H W->Calls prg 48 #[.agg cs.toArray] W λr W'=>r=.returned (bV (fmT args[i]))/\Ext W W')) (cs:List Value) (w:World) (h:Rep H (dFm .u8 (.mk op nm fd a b ex args)) cs) (hok:Fm.all kV args[i]=true) (hl:(fmT args[i]).length<=1000000000) (hA:Agr H w) :
 Calls prg 92 #[.agg cs.toArray,iN i,.int .u8 (k:Nat)] w λr w'=>r=.returned (bV (pfW k args[i]))/\Ext w w':=by
 obtain ⟨p1,c1,p2,c2,rfl,hs1,hs2,hnm,hfd⟩:=gZ h;have hcap:=hs2.cap;obtain ⟨bE,oE,cE,hpE,rE,lE,mE⟩:=hs2.elem (iL (f:=dFm .u8) hk);cases hpE;generalize ef:args[i]=g at rE ht hok hl|-;obtain ⟨op0,nm0,fd0,a0,b0,ex0,eG⟩:=g;obtain ⟨q1,d1,q2,d2,rfl,g1,g2,gn,gf⟩:=gZ rE;clear ef;have ef:=@id True trivial;refine Sx.enter (H:=H) func92 rfl ntmps92 rfl hA ?_;refine .sr<|.bx Z Z Z λb3=>.a Z Z<|.ns<|.fA Z dF<|.lD Z fY Hm Z<|.mv Z<|.yw (.indexSl eY Z Z (i:=i) Z hk (q:=oE+i * 7) Z)<|.yw (.loadMW Z cL mE lE)<|.al eS Z λb7=>.sX .head Z Z dC Z<|.nt<|.sq<|.sr<|.fA Z eP<|.lD Z iT Hm Z<|.yw (.call (v:=.agg (fsC (dD _)).toArray) rW Z (λW s=>pI H G _ W s.agr))<|.yw (.fld Z (bG4 _))<|.mv Z<|.yw (.lss Z Z)<|.nt<|.cd Z (λh18=>?_) (λh18=>?_)
 ·have h18:(dD op0).lv<k:=by have:=aJ h18;omega
  refine .sr<|.yw (.loadW Z cL Hm Z)<|.yw (.call EB Z (λW s=>ht _ W rE hok hl s.agr))<|.yw (.app Z Z (by (try simp only [aE,aK,aQ]);omega))<|.yw (.app Z Z (by (try simp only [aE,aK,aQ]);omega))<|.az Z<|.tR<|?_
  refine y9 Z Z λW s=>⟨?_,s.ext⟩
  first
   | (unfold pfW;rw [show decide ((dD (Fm.op (.mk op0 nm0 fd0 a0 b0 ex0 eG))).lv<k)=true from aF h18];rfl)
   | (unfold pfW;rw [show decide ((dD (Fm.op (.mk op0 nm0 fd0 a0 b0 ex0 eG))).lv<k)=false from aI h18];rfl)
 have h18:¬ (dD op0).lv<k:=λe=>aO h18 (by omega);refine .sk<|.tN<|.sr<|.yw (.loadW Z cL Hm Z)<|.yw (.call EB Z (λW s=>ht _ W rE hok hl s.agr))<|.az Z<|?_
 refine y9 Z Z λW s=>⟨?_,s.ext⟩
 first
  | (unfold pfW;rw [show decide ((dD (Fm.op (.mk op0 nm0 fd0 a0 b0 ex0 eG))).lv<k)=true from aF h18];rfl)
  | (unfold pfW;rw [show decide ((dD (Fm.op (.mk op0 nm0 fd0 a0 b0 ex0 eG))).lv<k)=false from aI h18];rfl)
variable {n:Nat}
theorem wu8 (h:n<255):IntKind.u8.wrap ((n:Int)+1)=((n+1:Nat):Int):=by
 have key:∀ i∈List.range 256,IntKind.u8.wrap (i:Int)=(i:Int):=by decide +kernel
 exact key (n+1) (bU.2 (by omega))
variable {k:Nat}
theorem ZK {l:List Ex} (h:k<l.length):l.take (k+1)=l.take k++[l[k]]:=by rw [List.take_succ,List.getElem?_eq_getElem h];rfl
theorem cB2 (W:World) (b o c:Nat) (xs:List Str) (h:∀ (j:Nat) x,xs[j]? = some x->W.cell? ⟨b,o+j,none⟩=some (bV x)) (hb:b<W.heap.size) (hN:xs.length<=140737488355328) (hc:xs.length<=c) (hl:(HR ([44,32]:Str) xs).length<=140737488355328) :
 Calls prg 90 #[.slice (some ⟨b,o,none⟩) xs.length c,bV [44,32]] W λe w'=>e=.returned (bV (HR ([44,32]:Str) xs))/\Ext W w':=by
 have e1:((xs.map λl=>(⟨l.toArray⟩:ByteArray)).map (·.data.toList))=xs:=by simp [Function.comp_def]
 have h2:=Tryz.strings_Join b o c (xs.map λl=>(⟨l.toArray⟩:ByteArray)) ⟨#[44,32]⟩ W (λj x e=>by
  rw [List.getElem?_map] at e;cases e2:xs[j]? with
  | none=>rw [e2] at e;cases e
  | some y=>rw [e2] at e;cases e;exact h j y e2) hb (by simpa using hN) (by simpa using hc) (by rw [e1,NC];exact hl)
 rw [e1,bJ,NC] at h2;exact h2.mono λe w' ⟨a,k⟩=>⟨a,Ext.of_below k⟩
variable {w0 W:World} {bs:List Res} {T:TypeId}
theorem bE5 {r:Value} (xs:List Str) (hn:xs.length=n) (s:St H w0 bs W) (hm:Res.row T 1 r n (xs.map bV)∈bs) (hN:xs.length<=1000) (hl:(HR ([44,32]:Str) xs).length<=140737488355328) :
 Calls prg 90 #[r,bV [44,32]] W λe w'=>e=.returned (bV (HR ([44,32]:Str) xs))/\Ext W w':=by
 have ho:W.ownsRow w0.heap.size T 1 r n (xs.map bV):=(s.own _ hm).1;subst hn;rcases ho.2 with ⟨hr,h0⟩ | ⟨g,cap,cur,hr,_,hg,hc,_⟩
 ·obtain rfl:=bK h0;subst hr;exact (Tryz.strings_Join_none none 0 ⟨#[44,32]⟩ W).mono λe w' ⟨h1,h2⟩=>⟨h1,h2 ▸ Ext.refl W⟩
 ·subst hr;refine cB2 W g 0 cap xs (λj x e=>?_) ?_ (by omega) hc hl
  ·have:=World.ownsRow.cells ho (g:=g) rfl j (bV x) (by rw [List.getElem?_map,e];rfl);rw [Addr.add_lit,dT] at this;rw [dT];exact this
  ·exact (Array.getElem?_eq_some_iff.1 hg).1
set_option maxHeartbeats 4000000 in
theorem aP4 (H:Hp) (G:Gf H) (gq:Gq H) (f:Fm):(∀ (cs:List Value) (W:World),Rep H (dFm .u8 f) cs->Fm.all kV f=true->(fmT f).length<=1000000000->Agr H W->Calls prg 48 #[.agg cs.toArray] W λr W'=>r=.returned (bV (fmT f))/\Ext W W'):=by
 induction f using Fm.ind with | _ op nm fd a b ex args ih
 intro cs w h hok hl hA;obtain ⟨p1,c1,p2,c2,rfl,hs1,hs2,hnm,hfd⟩:=gZ h;have hcap1:=hs1.cap;have hcap2:=hs2.cap;obtain ⟨hF,hG⟩:=XT hok;have hop:=UL hF;have hwl:=PS op;have hwn:=aF4 (op:=op) (nm:=nm) (fd:=fd) (a:=a) (b:=b) (ex:=ex) (args:=args);have ham:=aL1 (op:=op) (nm:=nm) (fd:=fd) (a:=a) (b:=b) (ex:=ex) (args:=args);refine Sx.enter (H:=H) func48 rfl ntmps48 rfl hA ?_;refine .sr<|.bx Z Z Z λb1=>.a Z Z<|.ns<|.fA Z eP<|.lD Z iT Hm Z<|.yw (.indexArr aV4 Z Z Z (by omega) (q:=op.toNat) (by omega))<|.yw (.loadM (k:=op.toNat) (v:=bV (uQ op)) Z cP G.words (by omega) (by show _=some (bV (UI.getD op.toNat []));exact uD (by show op.toNat<19;omega) []))<|.aq Z<|.sq<|.sr<|.fA Z eP<|.lD Z iT Hm Z<|.nt<|.bk<|.sr<|.yw (.eql Z Z)<|.aq Z<|.cd Z (λh15=>?_) (λh15=>?_)
 ·have q3:op=3:=aR.1 (by have:=aJ h15;show op.toNat=3;omega);obtain ⟨op0,nm0,m0,eG,he,ho0,hla,hta⟩:=bF7 hF q3;have h0:0<eG.length:=by omega
  have h1:1<eG.length:=by omega
  rw [fx3 q3 he h0 h1] at hl;simp only [aE,aK,aQ] at hl;subst he;obtain ⟨bX,oX,cX,hpX,rX,lX,mX⟩:=hs1.elem (i:=0) (d:=dEx .u8 (.mk op0 nm0 m0 eG)) rfl;cases hpX;obtain ⟨p0,c0,rfl,hs0,hn0⟩:=jB rX;have hcap0:=hs0.cap;obtain ⟨bA,oA,cA,hpA,rA,lA,mA⟩:=hs0.elem (iL (f:=dEx .u8) h0);cases hpA;obtain ⟨bB,oB,cB,hpB,rB,lB,mB⟩:=hs0.elem (iL (f:=dEx .u8) h1);cases hpB;have psy:=GV op0;refine .sr<|.fA Z cQ<|.lD Z dG Hm Z<|.yw (.indexSl dP Z Z (i:=0) Z (by first | omega | exact Nat.succ_pos _) (q:=oX+0 * 4) Z)<|.yw (.loadMW Z dS mX Z)<|.al kS Z λb4=>.sX .head Z Z gM Z<|.nt<|.sq<|.fL 18 [(0,0),(1,0),(2,0),(3,0),(4,0),(5,0),(6,0),(7,0),(8,0),(9,0),(10,0),(11,0),(12,0),(13,0),(14,0),(15,0),(16,0),(17,0)]<|.fA Z eI<|.lD Z dG Hm Z<|.yw (.indexSl dP Z Z (i:=0) Z (by first | omega | exact Nat.succ_pos _) (q:=oA+0 * 4) Z)<|.yw (.loadMW Z dS mA lA)<|.yw (.call tQ Z (λW s=>tV H G gq _ _ W rA (.inl (hta _ (bI h0))) (by omega) s.agr))<|.yw (.app Z Z (by (try simp only [aE,aK,aQ]);omega))<|.fA Z hU<|.lD Z kR Hm Z<|.yw (.indexArr JU Z Z Z (by omega) (q:=op0.toNat) (by omega))<|.yw (.loadM (k:=op0.toNat) (v:=bV (SW op0)) Z cP G.syms (by omega) (by show _=some (bV (kO.getD op0.toNat []));exact uD (by show op0.toNat<22;omega) []))<|.yw (.app Z Z (by (try simp only [aE,aK,aQ]);omega))<|.yw (.app Z Z (by (try simp only [aE,aK,aQ]);omega))<|.fA Z eI<|.lD Z dG Hm Z<|.yw (.indexSl dP Z Z (i:=1) Z (by first | omega | exact Nat.succ_pos _) (q:=oA+1 * 4) Z)<|.yw (.loadMW Z dS mB lB)<|.yw (.call tQ Z (λW s=>tV H G gq _ _ W rB (.inl (hta _ (bI h1))) (by omega) s.agr))<|.yw (.app Z Z (by (try simp only [aE,aK,aQ]);omega))<|.fn (tl:=[_]) Z<|.az Z<|.bR<|.tR<|?_
  refine y9 Z Z λW s=>⟨?_,s.ext⟩
  first
   | (rw [fx3 q3 rfl h0 h1];rfl)
   | (rw [fx4 q4];rfl)
   | (rw [fx5 q5 rfl];rfl)
   | (rw [fx6 q6];rfl)
   | (rw [fx7 q7];rfl)
   | (rw [fxu qU h0];rfl)
   | (rw [fxq qQ h0];rfl)
   | (rw [NI q18 rfl h0];rfl)
   | (rw [fxb qB h0 h1];rfl)
   | (rw [fxn q3 q4 q5 q6 q7 qU qQ q18 qB])
 have q3:¬ op=3:=λe=>aO h15 (by rw [e];rfl);refine .sr<|.yw (.eql Z Z)<|.aq Z<|.cd Z (λh39=>?_) (λh39=>?_)
 ·have q4:op=4:=aR.1 (by have:=aJ h39;show op.toNat=4;omega);refine .sr<|.fA Z gC<|.lD Z cP Hm Z<|.yw (.app Z Z (by (try simp only [aE,aK,aQ]);omega))<|.fA Z gA<|.lD Z cP Hm Z<|.yw (.app Z Z (by (try simp only [aE,aK,aQ]);omega))<|.az Z<|.bR<|.tR<|?_
  refine y9 Z Z λW s=>⟨?_,s.ext⟩
  first
   | (rw [fx3 q3 rfl h0 h1];rfl)
   | (rw [fx4 q4];rfl)
   | (rw [fx5 q5 rfl];rfl)
   | (rw [fx6 q6];rfl)
   | (rw [fx7 q7];rfl)
   | (rw [fxu qU h0];rfl)
   | (rw [fxq qQ h0];rfl)
   | (rw [NI q18 rfl h0];rfl)
   | (rw [fxb qB h0 h1];rfl)
   | (rw [fxn q3 q4 q5 q6 q7 qU qQ q18 qB])
 have q4:¬ op=4:=λe=>aO h39 (by rw [e];rfl);refine .sr<|.yw (.eql Z Z)<|.aq Z<|.cd Z (λh47=>?_) (λh47=>?_)
 ·have q5:op=5:=aR.1 (by have:=aJ h47;show op.toNat=5;omega);obtain ⟨e0,he,hte⟩:=XS hF (.inl q5);rw [fx5 q5 he] at hl;simp only [aE,aK,aQ] at hl;subst he;obtain ⟨bX,oX,cX,hpX,rX,lX,mX⟩:=hs1.elem (i:=0) (d:=dEx .u8 e0) rfl;cases hpX

  refine .sq<|.fL 17 [(0,0),(1,0),(2,0),(3,0),(4,0),(5,0),(6,0),(7,0),(8,0),(9,0),(10,0),(11,0),(12,0),(13,0),(14,0),(15,0),(16,0)]<|.mv Z<|.yw (.app Z Z (by (try simp only [aE,aK,aQ]);omega))<|.fA Z gC<|.lD Z cP Hm Z<|.yw (.app Z Z (by (try simp only [aE,aK,aQ]);omega))<|.yw (.app Z Z (by (try simp only [aE,aK,aQ]);omega))<|.fA Z gA<|.lD Z cP Hm Z<|.yw (.app Z Z (by (try simp only [aE,aK,aQ]);omega))<|.yw (.app Z Z (by (try simp only [aE,aK,aQ]);omega))<|.fA Z cQ<|.lD Z dG Hm Z<|.yw (.indexSl dP Z Z (i:=0) Z (by first | omega | exact Nat.succ_pos _) (q:=oX+0 * 4) Z)<|.yw (.loadMW Z dS mX lX)<|.yw (.call tQ Z (λW s=>tV H G gq _ _ W rX (.inl hte) (by omega) s.agr))<|.yw (.app Z Z (by (try simp only [aE,aK,aQ]);omega))<|.yw (.app Z Z (by (try simp only [aE,aK,aQ]);omega))<|.fn (tl:=[_]) Z<|.az Z<|.bR<|.tR<|?_
  refine y9 Z Z λW s=>⟨?_,s.ext⟩
  first
   | (rw [fx3 q3 rfl h0 h1];rfl)
   | (rw [fx4 q4];rfl)
   | (rw [fx5 q5 rfl];rfl)
   | (rw [fx6 q6];rfl)
   | (rw [fx7 q7];rfl)
   | (rw [fxu qU h0];rfl)
   | (rw [fxq qQ h0];rfl)
   | (rw [NI q18 rfl h0];rfl)
   | (rw [fxb qB h0 h1];rfl)
   | (rw [fxn q3 q4 q5 q6 q7 qU qQ q18 qB])
 have q5:¬ op=5:=λe=>aO h47 (by rw [e];rfl);refine .sr<|.yw (.eql Z Z)<|.aq Z<|.cd Z (λh66=>?_) (λh66=>?_)
 ·have q6:op=6:=aR.1 (by have:=aJ h66;show op.toNat=6;omega);refine .sm Z<|.yw (.app Z Z (by (try simp only [aE,aK,aQ]);omega))<|.fA Z gC<|.lD Z cP Hm Z<|.yw (.app Z Z (by (try simp only [aE,aK,aQ]);omega))<|.az Z<|.bR<|.tR<|?_
  refine y9 Z Z λW s=>⟨?_,s.ext⟩
  first
   | (rw [fx3 q3 rfl h0 h1];rfl)
   | (rw [fx4 q4];rfl)
   | (rw [fx5 q5 rfl];rfl)
   | (rw [fx6 q6];rfl)
   | (rw [fx7 q7];rfl)
   | (rw [fxu qU h0];rfl)
   | (rw [fxq qQ h0];rfl)
   | (rw [NI q18 rfl h0];rfl)
   | (rw [fxb qB h0 h1];rfl)
   | (rw [fxn q3 q4 q5 q6 q7 qU qQ q18 qB])
 have q6:¬ op=6:=λe=>aO h66 (by rw [e];rfl);refine .sr<|.yw (.eql Z Z)<|.aq Z<|.cd Z (λh73=>?_) (λh73=>?_)
 ·have q7:op=7:=aR.1 (by have:=aJ h73;show op.toNat=7;omega);obtain ⟨hle,hte⟩:=bF6 hF q7;rw [fx7 q7] at hl;simp only [aE,aK,aQ] at hl

  refine .sq<|?_
  refine Sx.row0 9 1 ?_;refine .rg<|.aq Z<|.sq<|.sr<|.fA Z cQ<|.lD Z dG cR Z<|.yw (.lenSl dP Z)<|.mv Z<|.nt<|.bk<|.lp (X:=Nat × Value × List Value) [(1,_),(3,_),(76,_),(77,_)] ⟨Z,Z,Z,Z,Jt⟩ [_] (λz=>[(5,z.2.1),(78,iN z.1)]) (λz=>H) (λz=>[.row 9 1 z.2.1 z.1 z.2.2]) (λz=>z.1<=ex.length/\z.2.2=((ex.take z.1).map tmT).map bV) (λz=>ex.length - z.1) (0,.slice none 0 0,[]) (λ_ s=>s) ⟨Z,Z,Jt⟩ ⟨aP _,Z⟩ λz hC=>?_
  obtain ⟨k,rv,xs⟩:=z;obtain ⟨hk0,hxs⟩:=hC;dsimp only at hk0 hxs|-;subst hxs;refine .sr<|.yw (.lss Z Z)<|.nt<|.sq<|.ce Z (λh79=>?_) (λh79=>?_)
  ·have hk:k<ex.length:=by omega
   obtain ⟨bX,oX,cX,hpX,rX,lX,mX⟩:=hs1.elem (iL (f:=dEx .u8) hk);cases hpX;have hj:=bE7 ([44,32]:Str) (ex.map tmT) (tmT ex[k]) (pY.2 ⟨_,bI hk,Z⟩);exact .sk<|.tN<|.sq<|.bk<|.sr<|.yw (.indexSl dP Z Z (i:=k) Z hk (q:=oX+k * 4) Z)<|.yw (.loadMW Z dS mX lX)<|.al kS Z λb7=>.sV .head Z Z gM lX rX.one Z<|.nt<|.rg<|.mv Z<|.yw (.loadW Z dS Hm lX)<|.yw (.call tQ Z (λW s=>tV H G gq _ _ W rX (hte _ (bI hk)) (by omega) s.agr))<|.bl Z (aE9 _) Z λb85=>.ap (news:=[bV (tmT ex[k])]) bL0 Z (λ_=>jW) Z (.box Hm z0) Z (by simp [Value.oneCell',bV]) (by simp [maxLen];omega) (by omega) Z λr86 _=>.a Z Z<|.nl<|.bN<|.tN<|.rg<|.yw (.add Z Z w7)<|.mv Z<|.nt<|.ag (x:=(k,rv,((ex.take k).map tmT).map bV)) (k+1,r86,(((ex.take k).map tmT).map bV)++[bV (tmT ex[k])]) ⟨Z,Z,Jt⟩ ⟨Z,Z,Z,Z,Jt⟩ (λ_ s=>s.pick [2,3] [_,_] Z Z) ⟨hk,by rw [ZK hk,bT,bT];rfl⟩ (by omega)
  obtain rfl:k=ex.length:=by omega
  rw [aY];refine .ex<|.eb<|.sq<|.fL 14 [(0,0),(1,0),(2,0),(3,0),(4,0),(5,0),(6,0),(7,0),(8,0),(9,0),(10,0),(11,0),(12,0),(13,0)]<|.mv Z<|.yw (.app Z Z (by (try simp only [aE,aK,aQ]);omega))<|.fA Z gC<|.lD Z cP cR Z<|.yw (.app Z Z (by (try simp only [aE,aK,aQ]);omega))<|.yw (.app Z Z (by (try simp only [aE,aK,aQ]);omega))<|.fA Z gA<|.lD Z cP cR Z<|.yw (.app Z Z (by (try simp only [aE,aK,aQ]);omega))<|.yw (.app Z Z (by (try simp only [aE,aK,aQ]);omega))<|.mv Z<|.yw (.call aS8 Z (λW s=>bE5 (ex.map tmT) (bJ ..) s Hm (by rw [bJ];omega) (by omega)))<|.yw (.app Z Z (by (try simp only [aE,aK,aQ]);omega))<|.yw (.app Z Z (by (try simp only [aE,aK,aQ]);omega))<|.fn (tl:=[_]) Z<|.az Z<|.bR<|.tR<|?_
  refine y9 Z Z λW s=>⟨?_,s.ext⟩
  first
   | (rw [fx3 q3 rfl h0 h1];rfl)
   | (rw [fx4 q4];rfl)
   | (rw [fx5 q5 rfl];rfl)
   | (rw [fx6 q6];rfl)
   | (rw [fx7 q7];rfl)
   | (rw [fxu qU h0];rfl)
   | (rw [fxq qQ h0];rfl)
   | (rw [NI q18 rfl h0];rfl)
   | (rw [fxb qB h0 h1];rfl)
   | (rw [fxn q3 q4 q5 q6 q7 qU qQ q18 qB])
 have q7:¬ op=7:=λe=>aO h73 (by rw [e];rfl);refine .cu (X:=Bool) [(1,_),(3,_),(14,_)] ⟨Z,Z,Z,Jt⟩ (λz=>[(102,.bool z)]) (λz=>H) (λz=>[.box b1 [.int .u8 op.toNat,bV nm,bV fd,.int .i64 a.toInt,.int .i64 b.toInt,.slice p1 ex.length c1,.slice p2 args.length c2] 35]) (λz=>z=decide (op=8\/op=12\/op=13\/op=14)) ?_ λz hC=>?_
 ·
  refine .sr<|.yw (.eql Z Z)<|.aq Z<|.cr Z (λh102=>?_) (λh102=>?_)
  ·have qu:op=8:=aR.1 (by have:=aJ h102;show op.toNat=8;omega);exact .sk<|.tN<|.me _ ⟨Z,Jt⟩ ⟨Z,Z,Z,Jt⟩ (λ_ s=>s) (by first | (rw [qu];rfl) | (simp only [qu8,qu12,qu13,false_or];exact k8 (m:=14) (by decide)))
  have qu8:¬ op=8:=λe=>aO h102 (by rw [e];rfl);refine .sr<|.yw (.eql Z Z)<|.aq Z<|.cr Z (λh102=>?_) (λh102=>?_)
  ·have qu:op=12:=aR.1 (by have:=aJ h102;show op.toNat=12;omega);exact .sk<|.tN<|.me _ ⟨Z,Jt⟩ ⟨Z,Z,Z,Jt⟩ (λ_ s=>s) (by first | (rw [qu];rfl) | (simp only [qu8,qu12,qu13,false_or];exact k8 (m:=14) (by decide)))
  have qu12:¬ op=12:=λe=>aO h102 (by rw [e];rfl);refine .sr<|.yw (.eql Z Z)<|.aq Z<|.cr Z (λh102=>?_) (λh102=>?_)
  ·have qu:op=13:=aR.1 (by have:=aJ h102;show op.toNat=13;omega);exact .sk<|.tN<|.me _ ⟨Z,Jt⟩ ⟨Z,Z,Z,Jt⟩ (λ_ s=>s) (by first | (rw [qu];rfl) | (simp only [qu8,qu12,qu13,false_or];exact k8 (m:=14) (by decide)))
  have qu13:¬ op=13:=λe=>aO h102 (by rw [e];rfl);exact .rg<|.yw (.eql Z Z)<|.aq Z<|.me _ ⟨Z,Jt⟩ ⟨Z,Z,Z,Jt⟩ (λ_ s=>s) (by first | (rw [qu];rfl) | (simp only [qu8,qu12,qu13,false_or];exact k8 (m:=14) (by decide)))
 have eqU:=hC;refine .cr Z (λh102=>?_) (λh102=>?_)
 ·have qU:(op=8\/op=12\/op=13\/op=14):=by rw [h102] at eqU;exact aJ eqU.symm
  have har:=(mQ hF).2.1;rw [ar1 ((by rcases qU with h | h | h | h <;> simp [h]))] at har;have h0:0<args.length:=by omega
  have hok0:=hG _ (bI h0);rw [fxu qU h0] at hl;simp only [aE,aK,aQ] at hl;have pl:=LD 5 args[0]

  refine .sq<|.fL 8 [(0,0),(1,0),(2,0),(3,0),(4,0),(5,0),(6,0),(7,0)]<|.mv Z<|.yw (.loadW Z cL Hm Z)<|.yw (.call RU Z (λW s=>LR H G gq _ _ W h s.agr))<|.yw (.app Z Z (by (try simp only [aE,aK,aQ]);omega))<|.yw (.app Z Z (by (try simp only [aE,aK,aQ]);omega))<|.yw (.loadW Z cL Hm Z)<|.yw (.call DW Z (λW s=>wT H G 0 5 h0 (ih _ (bI h0)) _ W h hok0 (by omega) s.agr))<|.yw (.app Z Z (by (try simp only [aE,aK,aQ]);omega))<|.fn (tl:=[_]) Z<|.az Z<|.bR<|.tR<|?_
  refine y9 Z Z λW s=>⟨?_,s.ext⟩
  first
   | (rw [fx3 q3 rfl h0 h1];rfl)
   | (rw [fx4 q4];rfl)
   | (rw [fx5 q5 rfl];rfl)
   | (rw [fx6 q6];rfl)
   | (rw [fx7 q7];rfl)
   | (rw [fxu qU h0];rfl)
   | (rw [fxq qQ h0];rfl)
   | (rw [NI q18 rfl h0];rfl)
   | (rw [fxb qB h0 h1];rfl)
   | (rw [fxn q3 q4 q5 q6 q7 qU qQ q18 qB])
 have qU:¬ (op=8\/op=12\/op=13\/op=14):=by rw [h102] at eqU;exact aO eqU.symm
 refine .cu (X:=Bool) [(1,_),(3,_),(14,_)] ⟨Z,Z,Z,Jt⟩ (λz=>[(115,.bool z)]) (λz=>H) (λz=>[.box b1 [.int .u8 op.toNat,bV nm,bV fd,.int .i64 a.toInt,.int .i64 b.toInt,.slice p1 ex.length c1,.slice p2 args.length c2] 35]) (λz=>z=decide (op=16\/op=17)) ?_ λz hC=>?_
 ·
  refine .sr<|.yw (.eql Z Z)<|.aq Z<|.cr Z (λh115=>?_) (λh115=>?_)
  ·have qq:op=16:=aR.1 (by have:=aJ h115;show op.toNat=16;omega);exact .sk<|.tN<|.me _ ⟨Z,Jt⟩ ⟨Z,Z,Z,Jt⟩ (λ_ s=>s) (by first | (rw [qq];rfl) | (simp only [qq16,false_or];exact k8 (m:=17) (by decide)))
  have qq16:¬ op=16:=λe=>aO h115 (by rw [e];rfl);exact .rg<|.yw (.eql Z Z)<|.aq Z<|.me _ ⟨Z,Jt⟩ ⟨Z,Z,Z,Jt⟩ (λ_ s=>s) (by first | (rw [qq];rfl) | (simp only [qq16,false_or];exact k8 (m:=17) (by decide)))
 have eqQ:=hC;refine .cr Z (λh115=>?_) (λh115=>?_)
 ·have qQ:(op=16\/op=17):=by rw [h115] at eqQ;exact aJ eqQ.symm
  have har:=(mQ hF).2.1;rw [ar1 ((by rcases qQ with h | h <;> simp [h]))] at har;have h0:0<args.length:=by omega
  have hok0:=hG _ (bI h0);rw [fxq qQ h0] at hl;simp only [aE,aK,aQ] at hl;have pl:=LD 5 args[0]

  refine .sq<|.fL 8 [(0,0),(1,0),(2,0),(3,0),(4,0),(5,0),(6,0),(7,0)]<|.mv Z<|.yw (.loadW Z cL Hm Z)<|.yw (.call RT Z (λW s=>RM H gq _ _ W h s.agr))<|.yw (.app Z Z (by (try simp only [aE,aK,aQ]);omega))<|.yw (.app Z Z (by (try simp only [aE,aK,aQ]);omega))<|.yw (.loadW Z cL Hm Z)<|.yw (.call DW Z (λW s=>wT H G 0 5 h0 (ih _ (bI h0)) _ W h hok0 (by omega) s.agr))<|.yw (.app Z Z (by (try simp only [aE,aK,aQ]);omega))<|.fn (tl:=[_]) Z<|.az Z<|.bR<|.tR<|?_
  refine y9 Z Z λW s=>⟨?_,s.ext⟩
  first
   | (rw [fx3 q3 rfl h0 h1];rfl)
   | (rw [fx4 q4];rfl)
   | (rw [fx5 q5 rfl];rfl)
   | (rw [fx6 q6];rfl)
   | (rw [fx7 q7];rfl)
   | (rw [fxu qU h0];rfl)
   | (rw [fxq qQ h0];rfl)
   | (rw [NI q18 rfl h0];rfl)
   | (rw [fxb qB h0 h1];rfl)
   | (rw [fxn q3 q4 q5 q6 q7 qU qQ q18 qB])
 have qQ:¬ (op=16\/op=17):=by rw [h115] at eqQ;exact aO eqQ.symm
 refine .sr<|.yw (.eql Z Z)<|.aq Z<|.cd Z (λh126=>?_) (λh126=>?_)
 ·have q18:op=18:=aR.1 (by have:=aJ h126;show op.toNat=18;omega);obtain ⟨e0,he,hte⟩:=XS hF (.inr q18);have har:=(mQ hF).2.1;rw [ar1 ((by simp [q18]))] at har;have h0:0<args.length:=by omega
  have hok0:=hG _ (bI h0);rw [NI q18 he h0] at hl;simp only [aE,aK,aQ] at hl;obtain ⟨bE,oE,cE,hpE,rE,lE,mE⟩:=hs2.elem (iL (f:=dFm .u8) h0);cases hpE;subst he;obtain ⟨bX,oX,cX,hpX,rX,lX,mX⟩:=hs1.elem (i:=0) (d:=dEx .u8 e0) rfl;cases hpX

  refine .sq<|.fL 18 [(0,0),(1,0),(2,0),(3,0),(4,0),(5,0),(6,0),(7,0),(8,0),(9,0),(10,0),(11,0),(12,0),(13,0),(14,0),(15,0),(16,0),(17,0)]<|.mv Z<|.yw (.loadW Z cL Hm Z)<|.yw (.call RT Z (λW s=>RM H gq _ _ W h s.agr))<|.yw (.app Z Z (by (try simp only [aE,aK,aQ]);omega))<|.yw (.app Z Z (by (try simp only [aE,aK,aQ]);omega))<|.fA Z dF<|.lD Z fY Hm Z<|.yw (.indexSl eY Z Z (i:=0) Z (by omega) (q:=oE+0 * 7) Z)<|.yw (.loadMW Z cL mE lE)<|.yw (.call EB Z (λW s=>ih _ (bI h0) _ W rE hok0 (by omega) s.agr))<|.yw (.app Z Z (by (try simp only [aE,aK,aQ]);omega))<|.yw (.app Z Z (by (try simp only [aE,aK,aQ]);omega))<|.fA Z cQ<|.lD Z dG Hm Z<|.yw (.indexSl dP Z Z (i:=0) Z (by first | omega | exact Nat.succ_pos _) (q:=oX+0 * 4) Z)<|.yw (.loadMW Z dS mX lX)<|.yw (.call tQ Z (λW s=>tV H G gq _ _ W rX (.inl hte) (by omega) s.agr))<|.yw (.app Z Z (by (try simp only [aE,aK,aQ]);omega))<|.fn (tl:=[_]) Z<|.az Z<|.bR<|.tR<|?_
  refine y9 Z Z λW s=>⟨?_,s.ext⟩
  first
   | (rw [fx3 q3 rfl h0 h1];rfl)
   | (rw [fx4 q4];rfl)
   | (rw [fx5 q5 rfl];rfl)
   | (rw [fx6 q6];rfl)
   | (rw [fx7 q7];rfl)
   | (rw [fxu qU h0];rfl)
   | (rw [fxq qQ h0];rfl)
   | (rw [NI q18 rfl h0];rfl)
   | (rw [fxb qB h0 h1];rfl)
   | (rw [fxn q3 q4 q5 q6 q7 qU qQ q18 qB])
 have q18:¬ op=18:=λe=>aO h126 (by rw [e];rfl);refine .cu (X:=Bool) [(1,_),(3,_)] ⟨Z,Z,Jt⟩ (λz=>[(146,.bool z)]) (λz=>H) (λz=>[.box b1 [.int .u8 op.toNat,bV nm,bV fd,.int .i64 a.toInt,.int .i64 b.toInt,.slice p1 ex.length c1,.slice p2 args.length c2] 35]) (λz=>z=decide (op=15\/op=9\/op=10\/op=11)) ?_ λz hC=>?_
 ·
  refine .sr<|.yw (.eql Z Z)<|.aq Z<|.cr Z (λh146=>?_) (λh146=>?_)
  ·have qb:op=15:=aR.1 (by have:=aJ h146;show op.toNat=15;omega);exact .sk<|.tN<|.me _ ⟨Z,Jt⟩ ⟨Z,Z,Jt⟩ (λ_ s=>s) (by first | (rw [qb];rfl) | (simp only [qb15,qb9,qb10,false_or];exact k8 (m:=11) (by decide)))
  have qb15:¬ op=15:=λe=>aO h146 (by rw [e];rfl);refine .sr<|.yw (.eql Z Z)<|.aq Z<|.cr Z (λh146=>?_) (λh146=>?_)
  ·have qb:op=9:=aR.1 (by have:=aJ h146;show op.toNat=9;omega);exact .sk<|.tN<|.me _ ⟨Z,Jt⟩ ⟨Z,Z,Jt⟩ (λ_ s=>s) (by first | (rw [qb];rfl) | (simp only [qb15,qb9,qb10,false_or];exact k8 (m:=11) (by decide)))
  have qb9:¬ op=9:=λe=>aO h146 (by rw [e];rfl);refine .sr<|.yw (.eql Z Z)<|.aq Z<|.cr Z (λh146=>?_) (λh146=>?_)
  ·have qb:op=10:=aR.1 (by have:=aJ h146;show op.toNat=10;omega);exact .sk<|.tN<|.me _ ⟨Z,Jt⟩ ⟨Z,Z,Jt⟩ (λ_ s=>s) (by first | (rw [qb];rfl) | (simp only [qb15,qb9,qb10,false_or];exact k8 (m:=11) (by decide)))
  have qb10:¬ op=10:=λe=>aO h146 (by rw [e];rfl);exact .rg<|.yw (.eql Z Z)<|.aq Z<|.me _ ⟨Z,Jt⟩ ⟨Z,Z,Jt⟩ (λ_ s=>s) (by first | (rw [qb];rfl) | (simp only [qb15,qb9,qb10,false_or];exact k8 (m:=11) (by decide)))
 have eqB:=hC;refine .cr Z (λh146=>?_) (λh146=>?_)
 ·have qB:(op=15\/op=9\/op=10\/op=11):=by rw [h146] at eqB;exact aJ eqB.symm
  have har:=(mQ hF).2.1;rw [ar2 qB] at har;have h0:0<args.length:=by omega
  have h1:1<args.length:=by omega
  have hok0:=hG _ (bI h0);have hok1:=hG _ (bI h1);rw [fxb qB h0 h1] at hl;simp only [aE,aK,aQ] at hl;have pl:=LD (dD op).lv args[0];have pl1:=LD ((dD op).lv+1) args[1];have hlv:(dD op).lv<=4:=by rcases qB with rfl | rfl | rfl | rfl <;> decide
  refine .sr<|.fA Z eP<|.lD Z iT Hm Z<|.yw (.call (v:=.agg (fsC (dD op)).toArray) rW Z (λW s=>pI H G op W s.agr))<|.yw (.fld Z (bG4 _))<|.aq Z<|.sq<|.fL 15 [(0,0),(1,0),(2,0),(3,0),(4,0),(5,0),(6,0),(7,0),(8,0),(9,0),(10,0),(11,0),(12,0),(13,0),(14,0)]<|.yw (.loadW Z cL Hm Z)<|.mv Z<|.yw (.call DW Z (λW s=>wT H G 0 (dD op).lv h0 (ih _ (bI h0)) _ W h hok0 (by omega) s.agr))<|.yw (.app Z Z (by (try simp only [aE,aK,aQ]);omega))<|.mv Z<|.yw (.app Z Z (by (try simp only [aE,aK,aQ]);omega))<|.yw (.loadW Z cL Hm Z)<|.yw (.call RU Z (λW s=>LR H G gq _ _ W h s.agr))<|.yw (.app Z Z (by (try simp only [aE,aK,aQ]);omega))<|.yw (.app Z Z (by (try simp only [aE,aK,aQ]);omega))<|.yw (.loadW Z cL Hm Z)<|.mv Z<|.yw (.add Z Z (c:=(((dD op).lv+1:Nat):Int)) (wu8 (by omega)))<|.yw (.call DW Z (λW s=>wT H G 1 ((dD op).lv+1) h1 (ih _ (bI h1)) _ W h hok1 (by omega) s.agr))<|.yw (.app Z Z (by (try simp only [aE,aK,aQ]);omega))<|.fn (tl:=[_]) Z<|.az Z<|.bR<|.tR<|?_
  refine y9 Z Z λW s=>⟨?_,s.ext⟩
  first
   | (rw [fx3 q3 rfl h0 h1];rfl)
   | (rw [fx4 q4];rfl)
   | (rw [fx5 q5 rfl];rfl)
   | (rw [fx6 q6];rfl)
   | (rw [fx7 q7];rfl)
   | (rw [fxu qU h0];rfl)
   | (rw [fxq qQ h0];rfl)
   | (rw [NI q18 rfl h0];rfl)
   | (rw [fxb qB h0 h1];rfl)
   | (rw [fxn q3 q4 q5 q6 q7 qU qQ q18 qB])
 have qB:¬ (op=15\/op=9\/op=10\/op=11):=by rw [h146] at eqB;exact aO eqB.symm
 refine .sk<|.bN<|.tN<|.sm Z<|.az Z<|?_
 refine y9 Z Z λW s=>⟨?_,s.ext⟩
 first
  | (rw [fx3 q3 rfl h0 h1];rfl)
  | (rw [fx4 q4];rfl)
  | (rw [fx5 q5 rfl];rfl)
  | (rw [fx6 q6];rfl)
  | (rw [fx7 q7];rfl)
  | (rw [fxu qU h0];rfl)
  | (rw [fxq qQ h0];rfl)
  | (rw [NI q18 rfl h0];rfl)
  | (rw [fxb qB h0 h1];rfl)
  | (rw [fxn q3 q4 q5 q6 q7 qU qQ q18 qB])
variable {e:Ex}
theorem bP2:∀ {cs:List Value},Rep H (dEx .u8 e) cs->nlE e=true:=by
 induction e using Ex.ind with | _ op nm n args ih
 intro cs h;obtain ⟨p,c,rfl,hs,hn⟩:=jB h;unfold nlE;rw [BD,xC,aC,aA,bC];refine ⟨hn,λa ha=>?_⟩;obtain ⟨i,hi,rfl⟩:=List.getElem_of_mem ha;obtain ⟨bE,oE,cE,hpE,rE,lE,mE⟩:=hs.elem (iL (f:=dEx .u8) hi);exact ih _ (bI hi) rE
theorem bP1:∀ {cs:List Value},Rep H (dFm .u8 f) cs->nlF f=true:=by
 induction f using Fm.ind with | _ op nm fd a b ex args ih
 intro cs h;obtain ⟨p1,c1,p2,c2,rfl,hs1,hs2,hnm,hfd⟩:=gZ h;unfold nlF;rw [iM,aC,aC,aC,aA,aA,bC,bC];refine ⟨⟨⟨hnm,hfd⟩,λe he=>?_⟩,λg hg=>?_⟩
 ·obtain ⟨i,hi,rfl⟩:=List.getElem_of_mem he;obtain ⟨bE,oE,cE,hpE,rE,lE,mE⟩:=hs1.elem (iL (f:=dEx .u8) hi);exact bP2 rE
 ·obtain ⟨i,hi,rfl⟩:=List.getElem_of_mem hg;obtain ⟨bE,oE,cE,hpE,rE,lE,mE⟩:=hs2.elem (iL (f:=dFm .u8) hi);exact ih _ (bI hi) rE
theorem cD5 (h:fH f=0):f.count<=60/\Fm.all kV f=true:=by
 unfold fH at h
 split at h
 ·cases h
 ·rename_i h1
  split at h
  ·cases h
  ·split at h
   ·cases h
   ·rename_i h3;exact ⟨Nat.le_of_not_lt λe=>h1 (.inl e),by simpa using h3⟩
theorem aP9 (H:Hp) (GL:Gl H) (G:Gf H) (gq:Gq H) (f:Fm) (hb:blF 600000 f=true) (cs:List Value) (w:World) (h:Rep H (dFm .u8 f) cs) (hA:Agr H w):Calls prg 19 #[.agg cs.toArray] w λr w'=>r=.returned (bV (PX f))/\Ext w w':=by
 obtain ⟨op,nm,fd,a,b,ex,args⟩:=f;obtain ⟨p1,c1,p2,c2,rfl,hs1,hs2,hnm,hfd⟩:=gZ h;refine Sx.enter (H:=H) func19 rfl ntmps19 rfl hA ?_;refine .sr<|.bx Z Z Z λb1=>.aq Z<|.sq<|.sr<|.yw (.loadW Z cL Hm Z)<|.yw (.call JQ Z (λW s=>FP H GL G (.mk op nm fd a b ex args) hb _ W h s.agr))<|.yw (.neq Z Z)<|.nt<|.cd Z (λh5=>?_) (λh5=>?_)
 ·have hc:¬ fH (.mk op nm fd a b ex args)=0:=λe=>aJ h5 (by rw [e];rfl);refine .sr<|.az Z<|.tR<|?_
  refine y9 Z Z λW s=>⟨?_,s.ext⟩
  first
   | (unfold PX;rw [aD hc];rfl)
   | (unfold PX;rw [aM hc])
 have hc:fH (.mk op nm fd a b ex args)=0:=by have:=aO h5;omega
 obtain ⟨hk,hF⟩:=cD5 hc;refine .sk<|.tN<|.sr<|.yw (.loadW Z cL Hm Z)<|.yw (.call EB Z (λW s=>aP4 H G gq (.mk op nm fd a b ex args) _ W h hF (aV (bS4 _ (bP1 h)) (by omega)) s.agr))<|.az Z<|?_
 refine y9 Z Z λW s=>⟨?_,s.ext⟩
 first
  | (unfold PX;rw [aD hc];rfl)
  | (unfold PX;rw [aM hc])
theorem u8d (c k:UInt8):decide (((c.toNat:Nat):Int)=(k.toNat:Nat))=decide (c=k):=by
 rw [aX,aA,aA];exact ⟨λh=>aR.1 (by omega),λh=>by rw [h]⟩
theorem aR0 (c:UInt8) (w:World):Calls prg 147 #[ET c] w λr w'=>r=.returned (.bool (lQ c))/\Ext w w':=by
 refine y6 func147 Z ntmps147 Z ?_;refine .sr<|.a Z Z<|.ns<|.mv Z<|.yw (.cast (.eql Z Z) (congrArg Value.bool (u8d c 32)))<|.mv Z<|.b2 (λh5=>?_) (λh5=>?_)
 ·refine .gG<|.gG<|.yw (.pickT Z Z)<|.mv Z<|.gG<|.gG<|.yw (.pickT Z Z)<|.mv Z<|.gG<|.gG<|.yw (.pickT Z Z)<|.az Z<|?_
  refine y9 Z Z λW s=>⟨?_,s.ext⟩
  first
   | (unfold lQ;rw [h5];rfl)
   | (unfold lQ;rw [h5,h9];rfl)
   | (unfold lQ;rw [h5,h9,h13];rfl)
 refine .gy (.move Z)<|.gy (.cast (.eql Z Z) (congrArg Value.bool (u8d c 9)))<|.yw (.pickF Z Z)<|.mv Z<|.b2 (λh9=>?_) (λh9=>?_)
 ·refine .gG<|.gG<|.yw (.pickT Z Z)<|.mv Z<|.gG<|.gG<|.yw (.pickT Z Z)<|.az Z<|?_
  refine y9 Z Z λW s=>⟨?_,s.ext⟩
  first
   | (unfold lQ;rw [h5];rfl)
   | (unfold lQ;rw [h5,h9];rfl)
   | (unfold lQ;rw [h5,h9,h13];rfl)
 refine .gy (.move Z)<|.gy (.cast (.eql Z Z) (congrArg Value.bool (u8d c 10)))<|.yw (.pickF Z Z)<|.mv Z<|.b2 (λh13=>?_) (λh13=>?_)
 ·refine .gG<|.gG<|.yw (.pickT Z Z)<|.az Z<|?_
  refine y9 Z Z λW s=>⟨?_,s.ext⟩
  first
   | (unfold lQ;rw [h5];rfl)
   | (unfold lQ;rw [h5,h9];rfl)
   | (unfold lQ;rw [h5,h9,h13];rfl)
 refine .gy (.move Z)<|.gy (.cast (.eql Z Z) (congrArg Value.bool (u8d c 13)))<|.yw (.pickF Z Z)<|.az Z<|?_
 refine y9 Z Z λW s=>⟨?_,s.ext⟩
 first
  | (unfold lQ;rw [h5];rfl)
  | (unfold lQ;rw [h5,h9];rfl)
  | (unfold lQ;rw [h5,h9,h13];rfl)
def CJ (c:UInt8):Bool:=!decide (c=10)
theorem u8n (c k:UInt8):decide (¬ ((c.toNat:Nat):Int)=(k.toNat:Nat))=!decide (c=k):=by rw [<-u8d,decide_not]
theorem aM6 (c:UInt8) (w:World):Calls prg 149 #[ET c] w λr w'=>r=.returned (.bool (CJ c))/\Ext w w':=by
 refine y6 func149 Z ntmps149 Z ?_;refine .sr<|.a Z Z<|.ns<|.mv Z<|.yw (.cast (.neq Z Z) (congrArg Value.bool (u8n c 10)))<|.az Z<|?_
 exact y9 Z Z λW s=>⟨Z,s.ext⟩
theorem HI (q:UInt8->Bool) (c:UInt8) (r:Str):pre q (c::r)=if q c then pre q r+1 else 0:=by
 unfold pre;rw [dZ]
 split <;> simp
theorem ZQ:∀ (m:Str),eF false (m.drop (pre lQ m))=eF false m
 | []=>rfl
 | c::r=>by
  rw [HI]
  split
  ·rename_i h;rw [pR,ZQ r,QE h]
  ·rfl
theorem aZ2:∀ (m:Str),eF false (m.drop (pre CJ m))=eF true m
 | []=>by rw [List.drop_nil,tL,tL]
 | c::r=>by
  rw [HI]
  split
  ·rename_i h;unfold CJ at h;rw [pR,aZ2 r,QD (by simpa using h)]
  ·rename_i h;have e:c=10:=by unfold CJ at h;simpa using h
   subst e;rw [nO,QC]
theorem bB5 (q:UInt8->Bool):∀ (m:Str) (c:UInt8) (r:Str),m.drop (pre q m)=c::r->q c=false
 | [],c,r,h=>by cases h
 | x::m,c,r,h=>by
  rw [HI] at h
  split at h
  ·exact bB5 q m c r (by simpa using h)
  ·rename_i hx;rw [nO] at h;injection h with h1 _
   subst h1;simpa using hx
theorem aZ0 {m:Str} (h:yI m [47,47]=true):eF false (m.drop (pre CJ m))=eF false m/\1<=pre CJ m:=by
 rw [CN] at h;obtain ⟨r,rfl⟩:=iI.1 h;refine ⟨?_,?_⟩
 ·rw [aZ2];exact (QB r).symm
 ·show 1<=pre CJ (47::47::r);rw [HI,aM (by decide)];omega
theorem aM5 {m:Str} (h:yI (m.drop (pre lQ m)) [47,47]=false):eF false m=m.drop (pre lQ m):=by
 rw [<-ZQ];cases e:m.drop (pre lQ m) with
 | nil=>rw [tL]
 | cons c r =>
  refine pF (bB5 _ _ _ _ e) ?_;rintro ⟨rfl,h2⟩;rw [e] at h;cases r with
  | nil=>cases h2
  | cons d r =>
   obtain rfl:d=47:=bH h2;rw [CN] at h;rw [show ([47,47]:Str).isPrefixOf (47::47::r)=true by simp [List.isPrefixOf]] at h;cases h
theorem aZ3 {t:Str} {o:Nat} (ho:o<=t.length) (h:eF false t=t.drop o):wK t=o:=by
 unfold wK;rw [h,cS];omega
theorem QS (t:Str) (hl:t.length<=9223372036854775807) (w:World):Calls prg 96 #[bV t] w λr w'=>r=.returned (iN (wK t))/\Ext w w':=by
 refine y6 func96 Z ntmps96 Z ?_;refine .sr<|.a Z Z<|.ns<|.aq Z<|.bk<|.lp (X:=Nat) [(0,_)] ⟨Z,Jt⟩ [] (λo=>[(3,iN o)]) (λo=>(⟨λ_=>none,0⟩:Hp)) (λo=>[]) (λo=>o<=t.length/\eF false (t.drop o)=eF false t) (λo=>t.length - o) 0 (λ_ s=>s) ⟨Z,Jt⟩ ⟨aP _,Z⟩ λo hC=>?_
 obtain ⟨ho,hs⟩:=hC;have hp1:=uC lQ (t.drop o);rw [cS] at hp1;replace hp1:(o+(pre lQ (t.drop o)))<=t.length:=by omega
 refine .bk<|.sm Z<|.mv Z<|.mv Z<|.yw (.dropS dE Z Z (lo:=o) Z ho)<|.yw (.call yD Z (λW s=>xN 147 lQ aD9 aR0 _ (by rw [cS];omega) W))<|.yw (.add Z Z (c:=(((o+(pre lQ (t.drop o))):Nat):Int)) ((w6 (by omega)).trans (by omega)))<|.aq Z<|.sq<|.sm Z<|.mv Z<|.yw (.dropS dE Z Z (lo:=(o+(pre lQ (t.drop o)))) Z hp1)<|.yw (.call OD Z (λW s=>ES _ [47,47] W))<|.yw (.not Z)<|.nt<|.cd Z (λh14=>?_) (λh14=>?_)
 ·have hh:yI (t.drop (o+(pre lQ (t.drop o)))) [47,47]=false:=by simpa using h14
  refine .sm Z<|.az Z<|.tR<|.bR<|.tR<|.bR<|?_
  exact y9 Z Z λW s=>⟨by rw [aZ3 hp1 (by rw [<-hs,<-fC];exact aM5 (by rw [fC];exact hh))],s.ext⟩
 have hh:yI (t.drop (o+(pre lQ (t.drop o)))) [47,47]=true:=by simpa using h14
 obtain ⟨hs2,hg2⟩:=aZ0 hh;have hp2:=uC CJ (t.drop (o+(pre lQ (t.drop o))));rw [cS] at hp2;exact .sk<|.tN<|.rg<|.mv Z<|.mv Z<|.mv Z<|.yw (.dropS dE Z Z (lo:=(o+(pre lQ (t.drop o)))) Z hp1)<|.yw (.call yD Z (λW s=>xN 149 CJ aD8 aM6 _ (by rw [cS];omega) W))<|.yw (.add Z Z (c:=(((o+(pre lQ (t.drop o)))+(pre CJ (t.drop (o+(pre lQ (t.drop o))))):Nat):Int)) ((w6 (by omega)).trans (by omega)))<|.a Z Z<|.nl<|.bN<|.tN<|.ag ((o+(pre lQ (t.drop o)))+(pre CJ (t.drop (o+(pre lQ (t.drop o)))))) ⟨Z,Jt⟩ ⟨Z,Jt⟩ (λ_ s=>s) ⟨by omega,by rw [<-fC,hs2,<-fC,ZQ,hs]⟩ (by omega)
theorem bQ6 (H:Hp) (t:Str) (w:World) (hA:Agr H w):Calls prg 54 #[bV t] w λr w'=>∃ (b:Nat) (H':Hp),kU H' b 0 [bV t]/\r=.returned (.func (.func 95) #[] #[.pointer (some ⟨b,0,none⟩)])/\zT H w H' w':=by
 refine Sx.enter (H:=H) func54 rfl ntmps54 rfl hA ?_;refine .sr<|.bx Z Z Z λb1=>.a Z Z<|.ns<|.yw (.mkF Z Z)<|.az Z<|?_
 refine rR λH1 u1 m1=>?_;exact y9 Z Z λW s=>⟨b1,H1,m1,Z,u1.grow s⟩
abbrev TkS:={x:Tk // x.t.length<=1000000}
theorem bQ5 (H:Hp) (G:Gl H) (t:Str) (hl:t.length<=1000000000000000000) (hs:∀ x∈nQ t,x.t.length<=1000000) (b:Nat) (hm:kU H b 0 [bV t]) (w:World) (hA:Agr H w) :
 SeqStopsK Fence.wide 8 prg 95 #[.pointer (some ⟨b,0,none⟩)] (λx:TkS=>#[.agg (cTk .u8 x.1).toArray]) (KpH H) (λxs=>xs.map (·.1)=nQ t) (λ_=>True) (t.length+1) w:=by
 refine Sx.seqStops (lb:=[.pointer (some ⟨b,0,none⟩)]) func95 rfl ntmps95 rfl (λW hW=>hA.ext hW) ?_;intro l Jg Jx W hJs hJxs hY hJ0;refine .sr<|.yw (.loadM Z cP hm (k:=0) Z Z)<|.yw (.call RR Z (λW s=>QS t (by omega) W))<|.aq Z<|.bk<|.lj (X:=Nat × List TkS) (λz=>[(0,.func (.yield l) #[] #[]),(1,.pointer (some ⟨b,0,none⟩)),(3,iN z.1)]) (λz=>Jg z.2) (λz=>z.1<=t.length/\z.2.length<=z.1/\z.2.map (·.1)++ZE z.1 (t.drop z.1)=nQ t) (λz=>t.length - z.1) (wK t,[]) ⟨WD t,aP _,(aO7 t).symm⟩ ⟨Z,Z,Z,Jt⟩ hJ0 λz w1 hC hJ1=>?_
 obtain ⟨o,pre1⟩:=z;obtain ⟨ho,hpl,htk⟩:=hC;dsimp only at ho hpl htk hJ1|-;refine .sq<|.sm Z<|.yw (.loadM Z cP hm (k:=0) Z Z)<|.yw (.lenS dE Z)<|.yw (.lss Z Z)<|.nt<|.ce Z (λh11=>?_) (λh11=>?_)
 ·have hlt:o<t.length:=by omega
  have hm0:t.drop o≠[]:=by intro e;have:=congrArg List.length e;rw [cS] at this;simp at this;omega
  have hrk:=qC hm0;rw [cS] at hrk;have hx5:((t.drop o).take (bM (t.drop o)).2).length<=1000000:=hs ⟨(bM (t.drop o)).1,(t.drop o).take (bM (t.drop o)).2,o⟩ (by rw [<-htk,PT hm0];simp);refine .sk<|.tN<|.sq<|.bk<|.sr<|.yw (.loadM Z cP hm (k:=0) Z Z)<|.mv Z<|.yw (.dropS dE Z Z (lo:=o) Z (by omega))<|.yw (.call RQ Z (λW s=>WI H G (t.drop o) (by rw [cS];omega) hm0 W s.agr))<|.mv Z<|.yw (.extract Z Z)<|.yw (.extract Z Z)<|.a Z Z<|.aq Z<|.sq<|.sq<|.rgW 8<|.mI Z Z<|.mI Z Z<|.yvI (.loadM Z cP hm (k:=0) Z Z) Z<|.mI Z Z<|.mI Z Z<|.mI Z Z<|.yvI (.add Z Z (c:=((o+(bM (t.drop o)).2:Nat):Int)) ((w6 (by omega)).trans (by omega))) Z<|.yvI (.cast (.midS dE Z Z Z (lo:=o) (hi:=o+(bM (t.drop o)).2) Z Z (by omega) (by omega)) (by rw [uM,jJ])) Z<|.mI Z Z<|.yvI (.build Z (KQ _ _ _)) Z<|.yd Z Z Z (λW s=>hY pre1 ⟨⟨(bM (t.drop o)).1,(t.drop o).take (bM (t.drop o)).2,o⟩,hx5⟩ W (hJs _ _ _ hJ1 s.ext) (by omega)) (λw2 hj2=>?_) (λw2 hj2=>?_)
  ·have hsd:=WD ((t.drop o).drop (bM (t.drop o)).2);rw [cS,cS] at hsd;exact .yvI (.not Z) Z<|.nlI<|.tN<|.cF Z<|.sk<|.tN<|.rg<|.mv Z<|.mv Z<|.yw (.add Z Z (c:=((o+(bM (t.drop o)).2:Nat):Int)) ((w6 (by omega)).trans (by omega)))<|.a Z Z<|.nl<|.bN<|.tN<|.rg<|.mv Z<|.yw (.loadM Z cP hm (k:=0) Z Z)<|.mv Z<|.yw (.cast (.dropS dE Z Z (lo:=o+(bM (t.drop o)).2) Z (by omega)) (by rw [<-fC];rfl))<|.yw (.call RR Z (λW s=>QS ((t.drop o).drop (bM (t.drop o)).2) (by rw [cS,cS];omega) W))<|.yw (.add Z Z (c:=((o+(bM (t.drop o)).2+wK ((t.drop o).drop (bM (t.drop o)).2):Nat):Int)) ((w6 (by omega)).trans (by omega)))<|.aq Z<|.aj (x:=(o,pre1)) (o+(bM (t.drop o)).2+wK ((t.drop o).drop (bM (t.drop o)).2),pre1++[⟨⟨(bM (t.drop o)).1,(t.drop o).take (bM (t.drop o)).2,o⟩,hx5⟩]) ⟨by dsimp only;omega,by dsimp only;rw [aE];simp;omega,by dsimp only;rw [<-htk,bT,bW];congr 1;rw [PT hm0,show (t.drop o).drop ((bM (t.drop o)).2+wK ((t.drop o).drop (bM (t.drop o)).2))=t.drop (o+(bM (t.drop o)).2+wK ((t.drop o).drop (bM (t.drop o)).2)) by rw [dQ];exact fC];rfl⟩ (by dsimp only;omega) hj2 ⟨Z,Z,Z,Jt⟩
  refine .yvI (.not Z) Z<|.nlI<|.tN<|.cT Z<|.rt<|.tR<|.bR<|.tR<|.tR<|.bR<|?_
  refine y7 Z .nil rfl λW s=>⟨⟨_,Z⟩,.inr ⟨_,Jt,hJxs _ _ _ hj2 s.ext⟩⟩
 have hoe:o=t.length:=by omega
 refine .ex<|.tE<|.tE<|.bE<|?_
 refine jE (.inr Z) rfl .nil rfl λW s=>⟨⟨_,Z⟩,.inl ⟨pre1,?_,hJs _ _ _ hJ1 s.ext⟩⟩;rw [<-htk,hoe,List.drop_length,aW9,dO]
theorem LK (a b c d e f g:Value):∀ W,(Instr.field 157 (.agg [a,b,c,d,e,f,g].toArray) 0).run prg W=.ok a W:=λ_=>by kernel_rfl
variable {b tc:Nat} {l:Tks} {tp:Option Addr} {ro rv:Value} {xo xv:List Value} {AR:List Res} {q:Rq}
set_option maxHeartbeats 1000000 in
theorem bE6 {op:List Ov} {x:Vb} {dn:Bool} (K:Tkf H l tp tc) (Wq:Fwf l ⟨q,op,x,true,dn⟩) (S:Sq H ⟨q,op,x,true,dn⟩ xo xv AR) (G:Gf H) (h0:q.er=0) (hw:q.wrd l=true) (s:St H w0 (.box b [.slice tp l.length tc,iN q.i,ro,rv,.bool true,.bool dn,.bool x.2,iN q.off,iN q.er] 102::.row 97 11 (ro) (op.length) (xo)::.row 179 13 (rv) (x.1.length) (xv)::(AR++bs)) W) :
 Calls prg 101 #[.pointer (some ⟨b,0,none⟩)] W (Get w0 bs b l tp tc H (xU l ⟨q,op,x,true,dn⟩)):=by
 have hq:q.i<l.length:=Wq.i;have hcap:=K.rep.cap;obtain ⟨hn1,hn2⟩:=pD Wq K.few;dsimp only at hn1 hn2;have hne:op≠[]:=Wq.ne;refine fN func101 rfl ntmps101 rfl s ?_;obtain ⟨o,r,rfl⟩:=CK (l:=op) (by cases op with | nil=>exact (hne rfl).elim | cons a t=>exact Nat.succ_pos _);dsimp only [List.length_cons] at hn1;obtain ⟨xr,s1,s2,e2,hlo,ho1,ho2⟩:=Ops.top S.ops;try dsimp only at e2
 subst e2;refine Sx.rowCase (size:=11) (r:=ro) (e:=97) cR (Nat.succ_pos _) λg c e hkc=>?_;subst e;refine .sq<|.sm Z<|.cs (X:=Unit) mS Z (λW s=>CB K hq (g:=g) (k:=r.length) (c:=c) (by omega) (s.pickT (hd:=[_,_,_]) (tl:=(AR++bs)) (hd':=[_,_,_]) [0,1,2] Z Z)) Z λ_ _=>.nC Z<|.fA Z uJ<|.yw (.loadR1 Z kB cR (kY hlo Z))<|.nt<|.cd Z (λh8=>?_) (λh8=>?_)
 ·refine .sm Z<|.cs (X:=Unit) jG Z (λW s=>qZ K hq 8 (s.pickT (hd:=[_,_,_]) (tl:=(AR++bs)) (hd':=[_,_,_]) [0,1,2] Z Z)) Z λ_ _=>.nt<|.rt<|.tR<|?_
  refine y7 Z .nil rfl λW s=>?_;have e0:xU l (⟨q,o::r,x,true,dn⟩:Ps)=(⟨q,o::r,x,true,dn⟩:Ps).at (q.fail l 8):=by unfold xU;rw [aM (show (dN (⟨q,o::r,x,true,dn⟩:Ps)).tm=true from h8)]
  rw [e0];exact ⟨(_,_,_,_,_,AR),⟨.refl,⟨S.ops,S.vls⟩⟩,Z,s.pickT (hd:=[_,_,_]) (tl:=(AR++bs)) (hd':=[_,_,_]) [0,1,2] rfl rfl⟩
 refine .sk<|.tN<|.sr<|.al eS Z λb2=>.nt<|.sq<|.bk<|.sm Z<|.cs (X:=Unit) dI Z (λW s=>eQ K hq [115,105,110,99,101] (s.pickT (hd:=[_,_,_,_]) (tl:=(AR++bs)) (hd':=[_,_,_,_]) [1,0,2,3] Z Z)) Z λ_ _=>.aq Z<|.cd Z (λh11=>?_) (λh11=>?_)
 ·have a11:Rq.ac l [115,105,110,99,101] q=true:=h11;rw [lN a11];refine .rg<|.mv Z<|.cs (X:=Unit) GB Z (λW s=>LQ K (cC K.gd.last hq a11) 15 (s.pickT (hd:=[_,_,_,_]) (tl:=(AR++bs)) (hd':=[_,_,_,_]) [0,1,2,3] Z Z)) Z λ_ _=>.sX jS Z Z dC Z<|.nl<|.bN<|.tN<|.sr<|.fA Z eP<|.lD Z iT cR Z<|.yw (.call (v:=.agg (fsC (dD 15)).toArray) rW Z λW s=>pI H G 15 W s.agr)<|.yw (.fld Z (LK _ _ _ _ _ _ _))<|.yw (.conv Z rT rU (c:=((4:Nat):Int)) (by decide +kernel))<|?_
  have Wj:Fwf l ⟨(Rq.wiS l q.nx),o::r,x,true,dn⟩:=LU (q:=⟨q,o::r,x,true,dn⟩) (c:=(Rq.wiS l q.nx)) Wq (EL K.gd.last (cC K.gd.last hq a11)) (aV (Nat.le_succ _) (Mq.wiS (q:=q.nx)).i);refine .a Z Z<|.ns<|.mv Z<|.mv Z<|.cs (X:=Hp × Value × Value × List Value × List Value × List Res) pO Z (λW s=>uB K Wj S.at 4 (by omega) (St.mid (a:=[_,_,_]) (d:=[_]) (s.pickT (hd:=[_,_,_,_]) (tl:=(AR++bs)) (hd':=[_,_,_,_]) [0,2,3,1] Z Z))) Z λz9 hz9=>?_
  obtain ⟨H1,ro,rv,xo,xv,AR⟩:=z9;obtain ⟨u1,S⟩:=hz9;dsimp only at u1 S|-;refine Sx.reSt (λW s=>St.mid (a:=[_,_,_]) (d:=AR) (c:=[_]) s) ?_;obtain ⟨op7,x7,e7⟩:∃ op7 x7,kK 4 (⟨(Rq.wiS l q.nx),o::r,x,true,dn⟩:Ps)=⟨(Rq.wiS l q.nx),op7,x7,true,dn⟩:=⟨_,_,Z⟩;rw [e7] at S|-;dsimp only at S|-;have W7:Fwf l ⟨(Rq.wiS l q.nx),op7,x7,true,dn⟩:=by rw [<-e7];exact uS (by omega) Wj rfl
  obtain ⟨hm1,hm2⟩:=pD W7 K.few;dsimp only at hm1 hm2;have hne7:op7≠[]:=W7.ne;refine .nt<|.rg<|.mv Z<|.mv Z<|.yw (.loadW Z cL qP Z)<|.yw (.build Z (jZ _ _ _ _ _ _ _ _ _))<|.cs (X:=Option Addr × Nat) gI Z (λW s=>mW (K.up u1.up) (EL K.gd.last (cC K.gd.last hq a11)) (by simp [Value.oneCell',bV]) (aV hm1 (by decide)) (λ_=>S.ops.tm hne7) (s.pickT (hd:=[_,_,_,_]) (tl:=(AR++bs)) (hd':=[_,_,_,_]) [0,1,2,3] Z Z)) Z λp9 _=>.nl<|?_
  refine jE (.inr Z) rfl .nil rfl λW s=>?_
  have e0:xU l (⟨q,o::r,x,true,dn⟩:Ps)=fR ⟨6,4,false,0,q.jnF l 4⟩ (⟨(Rq.wiS l q.nx),op7,x7,true,dn⟩:Ps):=by
   obtain ⟨j1,j2,j3,_,_⟩:=XI (l:=l) (r:=q) (k:=4) (by decide) a11;unfold xU;rw [aD (show ¬ (dN (⟨q,o::r,x,true,dn⟩:Ps)).tm=true by rw [show (dN (⟨q,o::r,x,true,dn⟩:Ps)).tm=false from h8];decide),j1,j2,j3,<-e7]
   rfl
  rw [e0];exact ⟨(_,_,_,_,_,AR),⟨u1,⟨.cons S.ops (by show ¬ (6:UInt8)=5;decide) (FmR.zero rfl rfl (aP _) (aP _)),S.vls⟩⟩,Z,s.pickT (hd:=[_,_,_,_]) (tl:=(AR++bs)) (hd':=[_,_,_]) [0,1,2] rfl rfl⟩
 have a11:Rq.ac l [115,105,110,99,101] q=false:=h11;rw [lS a11];refine .sm Z<|.cs (X:=Unit) dI Z (λW s=>eQ K hq [97,110,100] (s.pickT (hd:=[_,_,_,_]) (tl:=(AR++bs)) (hd':=[_,_,_,_]) [0,1,2,3] Z Z)) Z λ_ _=>.aq Z<|.cd Z (λh16=>?_) (λh16=>?_)
 ·have a16:Rq.ac l [97,110,100] q=true:=h16;rw [lN a16];refine .rg<|.yw (.build Z (pP _))<|.sX jS Z Z dC Z<|.nl<|.bN<|.tN<|.sr<|.fA Z eP<|.lD Z iT cR Z<|.yw (.call (v:=.agg (fsC (dD 9)).toArray) rW Z λW s=>pI H G 9 W s.agr)<|.yw (.fld Z (LK _ _ _ _ _ _ _))<|.yw (.conv Z rT rU (c:=((3:Nat):Int)) (by decide +kernel))<|?_
  have Wj:Fwf l ⟨q.nx,o::r,x,true,dn⟩:=LU (q:=⟨q,o::r,x,true,dn⟩) (c:=q.nx) Wq (cC K.gd.last hq a16) (Nat.le_succ _);refine .a Z Z<|.ns<|.mv Z<|.mv Z<|.cs (X:=Hp × Value × Value × List Value × List Value × List Res) pO Z (λW s=>uB K Wj S.at 3 (by omega) (St.mid (a:=[_,_,_]) (d:=[_]) (s.pickT (hd:=[_,_,_,_]) (tl:=(AR++bs)) (hd':=[_,_,_,_]) [0,2,3,1] Z Z))) Z λz9 hz9=>?_
  obtain ⟨H1,ro,rv,xo,xv,AR⟩:=z9;obtain ⟨u1,S⟩:=hz9;dsimp only at u1 S|-;refine Sx.reSt (λW s=>St.mid (a:=[_,_,_]) (d:=AR) (c:=[_]) s) ?_;obtain ⟨op7,x7,e7⟩:∃ op7 x7,kK 3 (⟨q.nx,o::r,x,true,dn⟩:Ps)=⟨q.nx,op7,x7,true,dn⟩:=⟨_,_,Z⟩;rw [e7] at S|-;dsimp only at S|-;have W7:Fwf l ⟨q.nx,op7,x7,true,dn⟩:=by rw [<-e7];exact uS (by omega) Wj rfl
  obtain ⟨hm1,hm2⟩:=pD W7 K.few;dsimp only at hm1 hm2;have hne7:op7≠[]:=W7.ne;refine .nt<|.rg<|.mv Z<|.mv Z<|.yw (.loadW Z cL qP Z)<|.yw (.build Z (jZ _ _ _ _ _ _ _ _ _))<|.cs (X:=Option Addr × Nat) gI Z (λW s=>mW (K.up u1.up) (cC K.gd.last hq a16) (by simp [Value.oneCell',bV]) (aV hm1 (by decide)) (λ_=>S.ops.tm hne7) (s.pickT (hd:=[_,_,_,_]) (tl:=(AR++bs)) (hd':=[_,_,_,_]) [0,1,2,3] Z Z)) Z λp9 _=>.nl<|?_
  refine jE (.inr Z) rfl .nil rfl λW s=>?_
  have e0:xU l (⟨q,o::r,x,true,dn⟩:Ps)=fR ⟨6,3,false,0,q.jnF l 3⟩ (⟨q.nx,op7,x7,true,dn⟩:Ps):=by
   obtain ⟨j1,j2,j3,_,_⟩:=XI (l:=l) (r:=q) (k:=3) (by decide) a16;unfold xU;rw [aD (show ¬ (dN (⟨q,o::r,x,true,dn⟩:Ps)).tm=true by rw [show (dN (⟨q,o::r,x,true,dn⟩:Ps)).tm=false from h8];decide),j1,j2,j3,<-e7]
   rfl
  rw [e0];exact ⟨(_,_,_,_,_,AR),⟨u1,⟨.cons S.ops (by show ¬ (6:UInt8)=5;decide) (FmR.zero rfl rfl (aP _) (aP _)),S.vls⟩⟩,Z,s.pickT (hd:=[_,_,_,_]) (tl:=(AR++bs)) (hd':=[_,_,_]) [0,1,2] rfl rfl⟩
 have a16:Rq.ac l [97,110,100] q=false:=h16;rw [lS a16];refine .sm Z<|.cs (X:=Unit) dI Z (λW s=>eQ K hq [111,114] (s.pickT (hd:=[_,_,_,_]) (tl:=(AR++bs)) (hd':=[_,_,_,_]) [0,1,2,3] Z Z)) Z λ_ _=>.aq Z<|.cd Z (λh20=>?_) (λh20=>?_)
 ·have a20:Rq.ac l [111,114] q=true:=h20;rw [lN a20];refine .rg<|.yw (.build Z (pP _))<|.sX jS Z Z dC Z<|.nl<|.bN<|.tN<|.sr<|.fA Z eP<|.lD Z iT cR Z<|.yw (.call (v:=.agg (fsC (dD 10)).toArray) rW Z λW s=>pI H G 10 W s.agr)<|.yw (.fld Z (LK _ _ _ _ _ _ _))<|.yw (.conv Z rT rU (c:=((2:Nat):Int)) (by decide +kernel))<|?_
  have Wj:Fwf l ⟨q.nx,o::r,x,true,dn⟩:=LU (q:=⟨q,o::r,x,true,dn⟩) (c:=q.nx) Wq (cC K.gd.last hq a20) (Nat.le_succ _);refine .a Z Z<|.ns<|.mv Z<|.mv Z<|.cs (X:=Hp × Value × Value × List Value × List Value × List Res) pO Z (λW s=>uB K Wj S.at 2 (by omega) (St.mid (a:=[_,_,_]) (d:=[_]) (s.pickT (hd:=[_,_,_,_]) (tl:=(AR++bs)) (hd':=[_,_,_,_]) [0,2,3,1] Z Z))) Z λz9 hz9=>?_
  obtain ⟨H1,ro,rv,xo,xv,AR⟩:=z9;obtain ⟨u1,S⟩:=hz9;dsimp only at u1 S|-;refine Sx.reSt (λW s=>St.mid (a:=[_,_,_]) (d:=AR) (c:=[_]) s) ?_;obtain ⟨op7,x7,e7⟩:∃ op7 x7,kK 2 (⟨q.nx,o::r,x,true,dn⟩:Ps)=⟨q.nx,op7,x7,true,dn⟩:=⟨_,_,Z⟩;rw [e7] at S|-;dsimp only at S|-;have W7:Fwf l ⟨q.nx,op7,x7,true,dn⟩:=by rw [<-e7];exact uS (by omega) Wj rfl
  obtain ⟨hm1,hm2⟩:=pD W7 K.few;dsimp only at hm1 hm2;have hne7:op7≠[]:=W7.ne;refine .nt<|.rg<|.mv Z<|.mv Z<|.yw (.loadW Z cL qP Z)<|.yw (.build Z (jZ _ _ _ _ _ _ _ _ _))<|.cs (X:=Option Addr × Nat) gI Z (λW s=>mW (K.up u1.up) (cC K.gd.last hq a20) (by simp [Value.oneCell',bV]) (aV hm1 (by decide)) (λ_=>S.ops.tm hne7) (s.pickT (hd:=[_,_,_,_]) (tl:=(AR++bs)) (hd':=[_,_,_,_]) [0,1,2,3] Z Z)) Z λp9 _=>.nl<|?_
  refine jE (.inr Z) rfl .nil rfl λW s=>?_
  have e0:xU l (⟨q,o::r,x,true,dn⟩:Ps)=fR ⟨6,2,false,0,q.jnF l 2⟩ (⟨q.nx,op7,x7,true,dn⟩:Ps):=by
   obtain ⟨j1,j2,j3,_,_⟩:=XI (l:=l) (r:=q) (k:=2) (by decide) a20;unfold xU;rw [aD (show ¬ (dN (⟨q,o::r,x,true,dn⟩:Ps)).tm=true by rw [show (dN (⟨q,o::r,x,true,dn⟩:Ps)).tm=false from h8];decide),j1,j2,j3,<-e7]
   rfl
  rw [e0];exact ⟨(_,_,_,_,_,AR),⟨u1,⟨.cons S.ops (by show ¬ (6:UInt8)=5;decide) (FmR.zero rfl rfl (aP _) (aP _)),S.vls⟩⟩,Z,s.pickT (hd:=[_,_,_,_]) (tl:=(AR++bs)) (hd':=[_,_,_]) [0,1,2] rfl rfl⟩
 have a20:Rq.ac l [111,114] q=false:=h20;rw [lS a20];refine .sm Z<|.cs (X:=Unit) dI Z (λW s=>eQ K hq [105,109,112,108,105,101,115] (s.pickT (hd:=[_,_,_,_]) (tl:=(AR++bs)) (hd':=[_,_,_,_]) [0,1,2,3] Z Z)) Z λ_ _=>.aq Z<|.cd Z (λh24=>?_) (λh24=>?_)
 ·have a24:Rq.ac l [105,109,112,108,105,101,115] q=true:=h24;rw [lN a24];refine .rg<|.yw (.build Z (pP _))<|.sX jS Z Z dC Z<|.nl<|.bN<|.tN<|.sr<|.fA Z eP<|.lD Z iT cR Z<|.yw (.call (v:=.agg (fsC (dD 11)).toArray) rW Z λW s=>pI H G 11 W s.agr)<|.yw (.fld Z (LK _ _ _ _ _ _ _))<|.yw (.conv Z rT rU (c:=((1:Nat):Int)) (by decide +kernel))<|?_
  have Wj:Fwf l ⟨q.nx,o::r,x,true,dn⟩:=LU (q:=⟨q,o::r,x,true,dn⟩) (c:=q.nx) Wq (cC K.gd.last hq a24) (Nat.le_succ _);refine .a Z Z<|.ns<|.mv Z<|.mv Z<|.cs (X:=Hp × Value × Value × List Value × List Value × List Res) pO Z (λW s=>uB K Wj S.at 1 (by omega) (St.mid (a:=[_,_,_]) (d:=[_]) (s.pickT (hd:=[_,_,_,_]) (tl:=(AR++bs)) (hd':=[_,_,_,_]) [0,2,3,1] Z Z))) Z λz9 hz9=>?_
  obtain ⟨H1,ro,rv,xo,xv,AR⟩:=z9;obtain ⟨u1,S⟩:=hz9;dsimp only at u1 S|-;refine Sx.reSt (λW s=>St.mid (a:=[_,_,_]) (d:=AR) (c:=[_]) s) ?_;obtain ⟨op7,x7,e7⟩:∃ op7 x7,kK 1 (⟨q.nx,o::r,x,true,dn⟩:Ps)=⟨q.nx,op7,x7,true,dn⟩:=⟨_,_,Z⟩;rw [e7] at S|-;dsimp only at S|-;have W7:Fwf l ⟨q.nx,op7,x7,true,dn⟩:=by rw [<-e7];exact uS (by omega) Wj rfl
  obtain ⟨hm1,hm2⟩:=pD W7 K.few;dsimp only at hm1 hm2;have hne7:op7≠[]:=W7.ne;refine .nt<|.rg<|.mv Z<|.mv Z<|.yw (.loadW Z cL qP Z)<|.yw (.build Z (jZ _ _ _ _ _ _ _ _ _))<|.cs (X:=Option Addr × Nat) gI Z (λW s=>mW (K.up u1.up) (cC K.gd.last hq a24) (by simp [Value.oneCell',bV]) (aV hm1 (by decide)) (λ_=>S.ops.tm hne7) (s.pickT (hd:=[_,_,_,_]) (tl:=(AR++bs)) (hd':=[_,_,_,_]) [0,1,2,3] Z Z)) Z λp9 _=>.nl<|?_
  refine jE (.inr Z) rfl .nil rfl λW s=>?_
  have e0:xU l (⟨q,o::r,x,true,dn⟩:Ps)=fR ⟨6,1,false,0,q.jnF l 1⟩ (⟨q.nx,op7,x7,true,dn⟩:Ps):=by
   obtain ⟨j1,j2,j3,_,_⟩:=XI (l:=l) (r:=q) (k:=1) (by decide) a24;unfold xU;rw [aD (show ¬ (dN (⟨q,o::r,x,true,dn⟩:Ps)).tm=true by rw [show (dN (⟨q,o::r,x,true,dn⟩:Ps)).tm=false from h8];decide),j1,j2,j3,<-e7]
   rfl
  rw [e0];exact ⟨(_,_,_,_,_,AR),⟨u1,⟨.cons S.ops (by show ¬ (6:UInt8)=5;decide) (FmR.zero rfl rfl (aP _) (aP _)),S.vls⟩⟩,Z,s.pickT (hd:=[_,_,_,_]) (tl:=(AR++bs)) (hd':=[_,_,_]) [0,1,2] rfl rfl⟩
 have a24:Rq.ac l [105,109,112,108,105,101,115] q=false:=h24;exact absurd hw (by unfold Rq.wrd;rw [FM h0,FM h0,FM h0,FM h0,a11,a16,a20,a24];decide)
variable {xr:List Value} {j:Nat}
theorem BC {cs:List Value} {u:Value} (hl:xr.length=n) (h:cs[4+j]? = some u):(xr++cs)[n+4+j]? = some u:=by rw [dQ];exact kY hl h
variable {s1 s2:Value}
theorem Ops.inv5 {o:Ov} {r:List Ov} (h:Ops H (o::r) (xr++oC o s1 s2) AR) (hk:o.kd=5):∃ AR1 xe,AR=.row 76 4 s1 o.f.ex.length xe::AR1/\Ops H r xr AR1/\s2=.slice none 0 0/\eJ H 4 (o.f.ex.map (dEx .u8)) xe/\o.f.args=[]/\o.f.nm.length<=1000000/\o.f.fd.length<=1000000:=by
 generalize hx:xr++oC o s1 s2=xo at h;cases h with
 | cons h k f=>exact absurd hk k
 | arg h k a b c z s =>
  obtain ⟨e1,e2⟩:=List.append_inj' hx rfl;subst e1;simp only [jK,wA,true_and] at e2;obtain ⟨rfl,rfl⟩:=e2;exact ⟨_,_,Z,h,Z,z,a,b,c⟩
theorem SL (H:Hp):Rep H (dEx .u8 zE) [.int .u8 0,.string ⟨#[]⟩,.int .i64 0,.slice none 0 0]:=uF (op:=0) (nm:=[]) (n:=0) (args:=[]) (by decide) (Rep.empty (p:=none) (c:=0) (by decide))
variable {z:Nat} {xs news:List Value}
theorem yO {ds:List D} {d0 d:D} {vs:List Value} (hz:eJ H z ds xs) (hn:eJ H z [d0] news) (hd:Rep H d vs) (hl:vs.length=z) (hk:ds.length=k):eJ H z (ds++[d]) (oI (xs++news) (k * z) vs):=by
 subst hk;have h:=eJ.put hd hl (hz.app hn) (i:=ds.length) (by simp)
 rwa [lL _ _ (aW _),jP,qH] at h
set_option maxHeartbeats 4000000 in
theorem RI {op:List Ov} {x:Vb} {dn:Bool} (K:Tkf H l tp tc) (Wq:Fwf l ⟨q,op,x,true,dn⟩) (S:Sq H ⟨q,op,x,true,dn⟩ xo xv AR) (hfew:∀ o∈op,o.f.ex.length<=600000) (s:St H w0 (.box b [.slice tp l.length tc,iN q.i,ro,rv,.bool true,.bool dn,.bool x.2,iN q.off,iN q.er] 102::.row 97 11 (ro) (op.length) (xo)::.row 179 13 (rv) (x.1.length) (xv)::(AR++bs)) W) :
 Calls prg 103 #[.pointer (some ⟨b,0,none⟩)] W (Get w0 bs b l tp tc H (mR l ⟨q,op,x,true,dn⟩)):=by
 have hq:q.i<l.length:=Wq.i;have hcap:=K.rep.cap;obtain ⟨hn1,hn2⟩:=pD Wq K.few;dsimp only at hn1 hn2;have hne:op≠[]:=Wq.ne;obtain ⟨o,r,rfl⟩:=CK (l:=op) (by cases op with | nil=>exact (hne rfl).elim | cons a t=>exact Nat.succ_pos _);dsimp only [List.length_cons] at hn1;have hfx:=hfew o (bQ ..);have hv1:1<=x.1.length:=by have:=Wq.vs;dsimp only at this;rw [this];exact Nat.le_add_left _ _
 obtain ⟨vs,bd⟩:=x;dsimp only at hv1 hn2;obtain ⟨v,V,rfl⟩:=CK hv1;dsimp only [List.length_cons] at hn2;obtain ⟨yr,t0,t1,t2,e4,VS1,V1⟩:=VR.inv S.vls;try dsimp only at e4
 subst e4;have l1:=VS1.len;refine fN func103 rfl ntmps103 rfl s ?_;obtain ⟨xr,s1,s2,e2,hlo,ho1,ho2⟩:=Ops.top S.ops;try dsimp only at e2
 subst e2;refine Sx.rowCase (size:=11) (r:=ro) (e:=97) cR (Nat.succ_pos _) λg c e hkc=>?_;subst e;refine .sm Z<|.cs (X:=Unit) mS Z (λW s=>CB K hq (g:=g) (k:=r.length) (c:=c) (by omega) (s.pickT (hd:=[_,_,_]) (tl:=(AR++bs)) (hd':=[_,_,_]) [0,1,2] Z Z)) Z λ_ _=>.aq Z<|.bk<|.cu (X:=Bool) [(0,_),(2,_)] ⟨Z,Z,Jt⟩ (λz=>[(9,.bool z)]) (λz=>H) (λz=>(.box b [.slice tp l.length tc,iN q.i,(.slice (some ⟨g,0,none⟩) (o::r).length c),rv,.bool true,.bool dn,.bool bd,iN q.off,iN q.er] 102::.row 97 11 ((.slice (some ⟨g,0,none⟩) (o::r).length c)) ((o::r).length) ((xr++oC o s1 s2))::.row 179 13 (rv) (V.length+1) ((yr++vC v t0 t1 t2))::(AR++bs))) (λz=>z=(decide (o.kd=1) && decide ((tkf l q.i).k=0))) ?_ λz hC=>?_
 ·
  refine .rg<|.mv Z<|.nC Z<|.fA Z hO<|.yw (.loadR1 Z mT cR (kY hlo Z))<|.yw (.eql Z Z)<|.mv Z<|.b2 (λh15=>?_) (λh15=>?_)
  ·have hg:o.kd=1:=aR.1 (by have:=aJ h15;show o.kd.toNat=1;omega);exact .gy (.move Z)<|.gd Z Z<|.cs (X:=Unit) tP Z (λW s=>yL K hq  (s.pickT (hd:=[_,_,_]) (tl:=(AR++bs)) (hd':=[_,_,_]) [0,1,2] Z Z)) Z λ_ _=>.gy (.fld Z (aB3 _ _ _))<|.gy (.eql Z Z)<|.yw (.pickT Z Z)<|.aq Z<|.me _ ⟨Z,Jt⟩ ⟨Z,Z,Jt⟩ (λ_ s=>s) (by first | (rw [aF hg,aG];exact k80) | (rw [aI hg];rfl))
  have hg:¬ o.kd=1:=λe=>aO h15 (by rw [e];rfl);exact .gG<|.gG<|.gG<|.gG<|.yw (.pickF Z Z)<|.aq Z<|.me _ ⟨Z,Jt⟩ ⟨Z,Z,Jt⟩ (λ_ s=>s) (by first | (rw [aF hg,aG];exact k80) | (rw [aI hg];rfl))
 have e9:=hC;refine .cd Z (λh9=>?_) (λh9=>?_)
 ·rw [h9] at e9;have y9:=aC _ _ |>.mp e9.symm
  refine .rg<|.mv Z<|.nC Z<|.fA Z FA<|.st .head Z Z lZ Z (nb Z) Z<|.nl<|.bN<|?_
  refine jE (.inr Z) rfl .nil rfl λW s=>?_;have e0:mR l (⟨q,o::r,(v::V,bd),true,dn⟩:Ps)=⟨q,o::r,(v::V,bd),true,true⟩:=by unfold mR;exact aM ⟨aJ y9.1,aJ y9.2⟩
  rw [e0];exact ⟨(_,_,_,_,_,AR),⟨.refl,⟨S.ops,S.vls⟩⟩,Z,s.pickT (hd:=[_,_,_]) (tl:=(AR++bs)) (hd':=[_,_,_]) [0,1,2] rfl rfl⟩
 rw [h9] at e9;refine .cu (X:=Bool) [(0,_),(2,_)] ⟨Z,Z,Jt⟩ (λz=>[(24,.bool z)]) (λz=>H) (λz=>(.box b [.slice tp l.length tc,iN ((if z then Rq.nx q else q).i),(.slice (some ⟨g,0,none⟩) (o::r).length c),rv,.bool true,.bool dn,.bool bd,iN ((if z then Rq.nx q else q).off),iN ((if z then Rq.nx q else q).er)] 102::.row 97 11 ((.slice (some ⟨g,0,none⟩) (o::r).length c)) ((o::r).length) ((xr++oC o s1 s2))::.row 179 13 (rv) (V.length+1) ((yr++vC v t0 t1 t2))::(AR++bs))) (λz=>z=(decide (o.kd=2) && Rq.ac l [41] q)) ?_ λz hC=>?_
 ·
  refine .rg<|.mv Z<|.nC Z<|.fA Z hO<|.yw (.loadR1 Z mT cR (kY hlo Z))<|.yw (.eql Z Z)<|.mv Z<|.b2 (λh30=>?_) (λh30=>?_)
  ·have hg:o.kd=2:=aR.1 (by have:=aJ h30;show o.kd.toNat=2;omega);exact .gy (.move Z)<|.gd Z Z<|.cs (X:=Unit) dI Z (λW s=>eQ K hq [41] (s.pickT (hd:=[_,_,_]) (tl:=(AR++bs)) (hd':=[_,_,_]) [0,1,2] Z Z)) Z λ_ _=>.yw (.pickT Z Z)<|.aq Z<|.me _ ⟨Z,Jt⟩ ⟨Z,Z,Jt⟩ (λ_ s=>s) (by first | rw [aF hg,aG] | (rw [aI hg];rfl))
  have hg:¬ o.kd=2:=λe=>aO h30 (by rw [e];rfl);exact .gG<|.gG<|.yw (.pickF Z Z)<|.aq Z<|.me _ ⟨Z,Jt⟩ ⟨Z,Z,Jt⟩ (λ_ s=>s) (by first | rw [aF hg,aG] | (rw [aI hg];rfl))
 have e24:=hC;refine .cd Z (λh24=>?_) (λh24=>?_)
 ·rw [h24] at e24;have y24:=aC _ _ |>.mp e24.symm
  have hk:o.kd=2:=aJ y24.1;rw [aM h24];have hk5:o.kd≠5:=by rw [hk];decide
  obtain ⟨SO,FO⟩:=Ops.inv2 S.ops hk5;refine .sm Z<|.cs (X:=Nat × Nat) GD Z (λW s=>bB6 K (cC K.gd.last hq y24.2) V1.one (by omega) l1 (s.pickT (hd:=[_,_,_]) (tl:=(AR++bs)) (hd':=[_,_,_]) [0,2,1] Z Z)) Z λp1 _=>.al xY Z λb3=>.sW .head Z Z yA V1.one Z<|.ns<|.fA Z vP<|.st .head Z Z lZ Z (nb Z) Z<|.nt<|.rg<|.mv Z<|.yw (.loadW Z xG Hm Z)<|.cs (X:=(Nat × Nat) × (Option Addr × Nat)) rI Z (λW s=>yT K (cC K.gd.last hq y24.2) (VlR.one (v:=(⟨v.tm,false,v.e,v.f⟩:Vl)) ⟨V1.e,V1.f⟩) (by omega) (by omega) hlo (s.pickT (hd:=[_,_,_,_]) (tl:=(AR++bs)) (hd':=[_,_,_,_]) [1,3,2,0] Z Z)) Z λp9 _=>.nl<|.bN<|?_
  refine jE (.inr Z) rfl .nil rfl λW s=>?_;have e0:mR l (⟨q,o::r,(v::V,bd),true,dn⟩:Ps)=⟨q.nx,r,((⟨v.tm,false,v.e,v.f⟩:Vl)::V,bd),true,dn⟩:=aK4 rfl hk y24.2;rw [e0];exact ⟨(_,_,_,_,_,AR),⟨.refl,⟨SO,.cons VS1 (v:=(⟨v.tm,false,v.e,v.f⟩:Vl)) ⟨V1.e,V1.f⟩⟩⟩,Z,s.pickT (hd:=[_,_,_,_]) (tl:=(AR++bs)) (hd':=[_,_,_]) [0,1,2] rfl rfl⟩
 rw [h24] at e24;rw [aD (by rw [h24];decide)];refine .cu (X:=Bool) [(0,_),(2,_)] ⟨Z,Z,Jt⟩ (λz=>[(40,.bool z)]) (λz=>H) (λz=>(.box b [.slice tp l.length tc,iN ((if z then Rq.nx q else q).i),(.slice (some ⟨g,0,none⟩) (o::r).length c),rv,.bool true,.bool dn,.bool bd,iN ((if z then Rq.nx q else q).off),iN ((if z then Rq.nx q else q).er)] 102::.row 97 11 ((.slice (some ⟨g,0,none⟩) (o::r).length c)) ((o::r).length) ((xr++oC o s1 s2))::.row 179 13 (rv) (V.length+1) ((yr++vC v t0 t1 t2))::(AR++bs))) (λz=>z=(decide (o.kd=3) && Rq.ac l [41] q)) ?_ λz hC=>?_
 ·
  refine .rg<|.mv Z<|.nC Z<|.fA Z hO<|.yw (.loadR1 Z mT cR (kY hlo Z))<|.yw (.eql Z Z)<|.mv Z<|.b2 (λh46=>?_) (λh46=>?_)
  ·have hg:o.kd=3:=aR.1 (by have:=aJ h46;show o.kd.toNat=3;omega);exact .gy (.move Z)<|.gd Z Z<|.cs (X:=Unit) dI Z (λW s=>eQ K hq [41] (s.pickT (hd:=[_,_,_]) (tl:=(AR++bs)) (hd':=[_,_,_]) [0,1,2] Z Z)) Z λ_ _=>.yw (.pickT Z Z)<|.aq Z<|.me _ ⟨Z,Jt⟩ ⟨Z,Z,Jt⟩ (λ_ s=>s) (by first | rw [aF hg,aG] | (rw [aI hg];rfl))
  have hg:¬ o.kd=3:=λe=>aO h46 (by rw [e];rfl);exact .gG<|.gG<|.yw (.pickF Z Z)<|.aq Z<|.me _ ⟨Z,Jt⟩ ⟨Z,Z,Jt⟩ (λ_ s=>s) (by first | rw [aF hg,aG] | (rw [aI hg];rfl))
 have e40:=hC;refine .cd Z (λh40=>?_) (λh40=>?_)
 ·rw [h40] at e40;have y40:=aC _ _ |>.mp e40.symm
  have hk:o.kd=3:=aJ y40.1;rw [aM h40];have hk5:o.kd≠5:=by rw [hk];decide
  obtain ⟨SO,FO⟩:=Ops.inv2 S.ops hk5;refine .sm Z<|.cs (X:=Unit) nX Z (λW s=>sL K (cC K.gd.last hq y40.2) [62,61] (s.pickT (hd:=[_,_,_]) (tl:=(AR++bs)) (hd':=[_,_,_]) [0,1,2] Z Z)) Z λ_ _=>.ns<|.mv Z<|.mv Z<|.cs (X:=Unit) tD Z (λW s=>xP K (fM K.gd.last (cC K.gd.last hq y40.2))  (s.pickT (hd:=[_,_,_]) (tl:=(AR++bs)) (hd':=[_,_,_]) [0,1,2] Z Z)) Z λ_ _=>.yw (.build Z (BN _ _))<|.bl Z (nY _ _ _ _) Z λb56=>?_
  refine Sx.freezeBoxN λH2 u2 m2=>?_;refine .nC Z<|.fA Z dL<|.fA Z cQ<|.s1Q (tZ (n:=r.length * 11) (j:=9) (cs':=oC o (.slice (some ⟨b56,0,none⟩) 1 1) s2) hlo Z) Z Z nE Z jS (by rw [aE,hlo];show r.length * 11+9<r.length * 11+11;omega)<|.ns<|.mv Z<|.mv Z<|.cs (X:=Nat × Nat) xF Z (λW s=>xB (K.up u2.up) (tK K.gd.last (fM K.gd.last (cC K.gd.last hq y40.2))) V1.one V1.e.nm (by omega) l1 (s.pickT (hd:=[_,_,_]) (tl:=(AR++bs)) (hd':=[_,_,_]) [0,2,1] Z Z)) Z λp1 _=>?_
  obtain ⟨q1,q2,ef,FR⟩:=JC V1;rw [ef];refine .bl Z (rK _ _ _ _ _ _ _) Z λb63=>?_;refine Sx.freezeBoxN λH3 u3 m3=>?_;refine .nC Z<|.fA Z dL<|.fA Z dF<|.s1Q (tZ (n:=r.length * 11) (j:=10) (cs':=oC o (.slice (some ⟨b56,0,none⟩) 1 1) (.slice (some ⟨b63,0,none⟩) 1 1)) hlo Z) Z Z DV Z jW (by rw [aE,hlo];show r.length * 11+10<r.length * 11+11;omega)<|.nt<|.rg<|.mv Z<|.mv Z<|.nC Z<|.fA Z dL<|.yw (.loadR (vs:=(cFm .u8 o.f.op o.f.nm o.f.fd o.f.a o.f.b (.slice (some ⟨b56,0,none⟩) 1 1) (.slice (some ⟨b63,0,none⟩) 1 1))) Z cL kP Z (λj u h=>by rw [dQ];exact kY hlo (by rw [Nat.add_comm 4 j];exact h)))<|.yw (.build Z (PP _ _ _ _ _ _ _ _))<|?_
  have VN:VlR H3 (⟨false,true,zE,(o.f.wEx [(.mk 1 [] ((q.nx.exS l [62,61]).nbV l) [])]).wAr [v.fm]⟩:Vl) (.slice none 0 0) (.slice (some ⟨b56,0,none⟩) 1 1) (.slice (some ⟨b63,0,none⟩) 1 1):=⟨ExR.zero rfl (aP _),⟨(Rep.mk (n:=1) (c:=1) m2 (.single (ExR.zero (e:=(.mk 1 [] ((q.nx.exS l [62,61]).nbV l) [])) rfl (aP _)).rep rfl) rfl (aW _) (by decide)).up u3.up,(Rep.mk m3 (.single ((FR.up u2.up).up u3.up).rep rfl) rfl (aW _) (by decide)),FO.nm,FO.fd⟩⟩;refine .cs (X:=(Nat × Nat) × (Option Addr × Nat)) rI Z (λW s=>yT ((K.up u2.up).up u3.up) (tK K.gd.last (fM K.gd.last (cC K.gd.last hq y40.2))) VN.one (by omega) (by omega) hlo (s.pickT (hd:=[_,_,_]) (tl:=(AR++bs)) (hd':=[_,_,_]) [0,2,1] Z Z)) Z λp9 _=>.nl<|.bN<|?_
  refine jE (.inr Z) rfl .nil rfl λW s=>?_;have e0:mR l (⟨q,o::r,(v::V,bd),true,dn⟩:Ps)=⟨((q.nx.exS l [62,61]).nbS l),r,((⟨false,true,zE,(o.f.wEx [(.mk 1 [] ((q.nx.exS l [62,61]).nbV l) [])]).wAr [v.fm]⟩:Vl)::V,bd || v.noF),true,dn⟩:=aK7 rfl hk y40.2;rw [e0];exact ⟨(_,_,_,_,_,AR),⟨(u2.trans u3),⟨(SO.up u2.up).up u3.up,.cons ((VS1.up u2.up).up u3.up) VN⟩⟩,Z,s.pickT (hd:=[_,_,_]) (tl:=(AR++bs)) (hd':=[_,_,_]) [0,1,2] rfl rfl⟩
 rw [h40] at e40;rw [aD (by rw [h40];decide)];refine .cu (X:=Bool) [(0,_),(2,_)] ⟨Z,Z,Jt⟩ (λz=>[(74,.bool z)]) (λz=>H) (λz=>(.box b [.slice tp l.length tc,iN ((if z then Rq.nx q else q).i),(.slice (some ⟨g,0,none⟩) (o::r).length c),rv,.bool true,.bool dn,.bool bd,iN ((if z then Rq.nx q else q).off),iN ((if z then Rq.nx q else q).er)] 102::.row 97 11 ((.slice (some ⟨g,0,none⟩) (o::r).length c)) ((o::r).length) ((xr++oC o s1 s2))::.row 179 13 (rv) (V.length+1) ((yr++vC v t0 t1 t2))::(AR++bs))) (λz=>z=(decide (o.kd=4) && Rq.ac l [93] q)) ?_ λz hC=>?_
 ·
  refine .rg<|.mv Z<|.nC Z<|.fA Z hO<|.yw (.loadR1 Z mT cR (kY hlo Z))<|.yw (.eql Z Z)<|.mv Z<|.b2 (λh80=>?_) (λh80=>?_)
  ·have hg:o.kd=4:=aR.1 (by have:=aJ h80;show o.kd.toNat=4;omega);exact .gy (.move Z)<|.gd Z Z<|.cs (X:=Unit) dI Z (λW s=>eQ K hq [93] (s.pickT (hd:=[_,_,_]) (tl:=(AR++bs)) (hd':=[_,_,_]) [0,1,2] Z Z)) Z λ_ _=>.yw (.pickT Z Z)<|.aq Z<|.me _ ⟨Z,Jt⟩ ⟨Z,Z,Jt⟩ (λ_ s=>s) (by first | rw [aF hg,aG] | (rw [aI hg];rfl))
  have hg:¬ o.kd=4:=λe=>aO h80 (by rw [e];rfl);exact .gG<|.gG<|.yw (.pickF Z Z)<|.aq Z<|.me _ ⟨Z,Jt⟩ ⟨Z,Z,Jt⟩ (λ_ s=>s) (by first | rw [aF hg,aG] | (rw [aI hg];rfl))
 have e74:=hC;refine .cd Z (λh74=>?_) (λh74=>?_)
 ·rw [h74] at e74;have y74:=aC _ _ |>.mp e74.symm
  have hk:o.kd=4:=aJ y74.1;rw [aM h74];have hk5:o.kd≠5:=by rw [hk];decide
  obtain ⟨SO,FO⟩:=Ops.inv2 S.ops hk5;refine .sm Z<|.cs (X:=Nat × Nat) nW Z (λW s=>zA K (cC K.gd.last hq y74.2) V1.one (by omega) l1 (s.pickT (hd:=[_,_,_]) (tl:=(AR++bs)) (hd':=[_,_,_]) [0,2,1] Z Z)) Z λp1 _=>.bl Z (nY _ _ _ _) Z λb86=>?_
  refine Sx.freezeBoxN λH2 u2 m2=>?_;refine .aq Z<|.sq<|.sm Z<|.nC Z<|.fA Z BG<|.yw (.loadR1 Z kR kP (kY hlo Z))<|.yw (.eql Z Z)<|.nt<|.cd Z (λh91=>?_) (λh91=>?_)
  ·have ho6:o.op=6:=aR.1 (by have:=aJ h91;show o.op.toNat=6;omega);refine .sm Z<|.mv Z<|.nC Z<|.fA Z dL<|.fA Z gC<|.yw (.loadR1 Z cP kP (BC (j:=1) hlo Z))<|.mv Z<|.yw (.build Z (OU _ _ _ _ _))<|.yw (.build Z (kA _ _ _ _ _))<|?_
   have VN:VlR H2 (tmv (.mk 6 o.f.nm 0 [v.e])) (.slice (some ⟨b86,0,none⟩) 1 1) (.slice none 0 0) (.slice none 0 0):=⟨⟨(Rep.mk m2 (.single (V1.e.up u2.up).rep rfl) rfl (aW _) (by decide)),FO.nm⟩,FmR.zero rfl rfl (aP _) (aP _)⟩;refine .cs (X:=(Nat × Nat) × (Option Addr × Nat)) rI Z (λW s=>yT (K.up u2.up) (cC K.gd.last hq y74.2) VN.one (by omega) (by omega) hlo (s.pickT (hd:=[_,_,_]) (tl:=(AR++bs)) (hd':=[_,_,_]) [0,2,1] Z Z)) Z λp9 _=>.nt<|.rt<|.tR<|.bR<|?_
   refine y7 Z .nil rfl λW s=>?_;have e0:mR l (⟨q,o::r,(v::V,bd),true,dn⟩:Ps)=⟨q.nx,r,((tmv (.mk 6 o.f.nm 0 [v.e]))::V,bd || !v.tm),true,dn⟩:=aK6 rfl hk ho6 y74.2;rw [e0];exact ⟨(_,_,_,_,_,AR),⟨u2,⟨SO.up u2.up,.cons (VS1.up u2.up) VN⟩⟩,Z,s.pickT (hd:=[_,_,_]) (tl:=(AR++bs)) (hd':=[_,_,_]) [0,1,2] rfl rfl⟩
  have ho6:¬ o.op=6:=λe=>aO h91 (by rw [e];rfl);refine .sk<|.tN<|.sm Z<|.mv Z<|.nC Z<|.fA Z dL<|.fA Z cQ<|.s1Q (tZ (n:=r.length * 11) (j:=9) (cs':=oC o (.slice (some ⟨b86,0,none⟩) 1 1) s2) hlo Z) Z Z nE Z jW (by rw [aE,hlo];show r.length * 11+9<r.length * 11+11;omega)<|.nt<|.rg<|.mv Z<|.mv Z<|.nC Z<|.fA Z dL<|.yw (.loadR (vs:=(cFm .u8 o.f.op o.f.nm o.f.fd o.f.a o.f.b (.slice (some ⟨b86,0,none⟩) 1 1) s2)) Z cL kP Z (λj u h=>by rw [dQ];exact kY hlo (by rw [Nat.add_comm 4 j];exact h)))<|.yw (.build Z (jH _ _ _ _ _ _ _))<|?_
  have VN:VlR H2 (fmv (o.f.wEx [v.e])) (.slice none 0 0) (.slice (some ⟨b86,0,none⟩) 1 1) s2:=⟨ExR.zero rfl (aP _),⟨(Rep.mk m2 (.single (V1.e.up u2.up).rep rfl) rfl (aW _) (by decide)),FO.ar.up u2.up,FO.nm,FO.fd⟩⟩;refine .cs (X:=(Nat × Nat) × (Option Addr × Nat)) rI Z (λW s=>yT (K.up u2.up) (cC K.gd.last hq y74.2) VN.one (by omega) (by omega) hlo (s.pickT (hd:=[_,_,_]) (tl:=(AR++bs)) (hd':=[_,_,_]) [0,2,1] Z Z)) Z λp9 _=>.nl<|.bN<|?_
  refine jE (.inr Z) rfl .nil rfl λW s=>?_;have e0:mR l (⟨q,o::r,(v::V,bd),true,dn⟩:Ps)=⟨q.nx,r,((fmv (o.f.wEx [v.e]))::V,bd || !v.tm),true,dn⟩:=aK5 rfl hk ho6 y74.2;rw [e0];exact ⟨(_,_,_,_,_,AR),⟨u2,⟨SO.up u2.up,.cons (VS1.up u2.up) VN⟩⟩,Z,s.pickT (hd:=[_,_,_]) (tl:=(AR++bs)) (hd':=[_,_,_]) [0,1,2] rfl rfl⟩
 rw [h74] at e74;rw [aD (by rw [h74];decide)];refine .cu (X:=Bool) [(0,_),(2,_)] ⟨Z,Z,Jt⟩ (λz=>[(114,.bool z)]) (λz=>H) (λz=>(.box b [.slice tp l.length tc,iN ((if z then Rq.nx q else q).i),(.slice (some ⟨g,0,none⟩) (o::r).length c),rv,.bool true,.bool dn,.bool bd,iN ((if z then Rq.nx q else q).off),iN ((if z then Rq.nx q else q).er)] 102::.row 97 11 ((.slice (some ⟨g,0,none⟩) (o::r).length c)) ((o::r).length) ((xr++oC o s1 s2))::.row 179 13 (rv) (V.length+1) ((yr++vC v t0 t1 t2))::(AR++bs))) (λz=>z=(decide (o.kd=5) && Rq.ac l [44] q)) ?_ λz hC=>?_
 ·
  refine .rg<|.mv Z<|.nC Z<|.fA Z hO<|.yw (.loadR1 Z mT cR (kY hlo Z))<|.yw (.eql Z Z)<|.mv Z<|.b2 (λh120=>?_) (λh120=>?_)
  ·have hg:o.kd=5:=aR.1 (by have:=aJ h120;show o.kd.toNat=5;omega);exact .gy (.move Z)<|.gd Z Z<|.cs (X:=Unit) dI Z (λW s=>eQ K hq [44] (s.pickT (hd:=[_,_,_]) (tl:=(AR++bs)) (hd':=[_,_,_]) [0,1,2] Z Z)) Z λ_ _=>.yw (.pickT Z Z)<|.aq Z<|.me _ ⟨Z,Jt⟩ ⟨Z,Z,Jt⟩ (λ_ s=>s) (by first | rw [aF hg,aG] | (rw [aI hg];rfl))
  have hg:¬ o.kd=5:=λe=>aO h120 (by rw [e];rfl);exact .gG<|.gG<|.yw (.pickF Z Z)<|.aq Z<|.me _ ⟨Z,Jt⟩ ⟨Z,Z,Jt⟩ (λ_ s=>s) (by first | rw [aF hg,aG] | (rw [aI hg];rfl))
 have e114:=hC;refine .cd Z (λh114=>?_) (λh114=>?_)
 ·rw [h114] at e114;have y114:=aC _ _ |>.mp e114.symm
  have hk:o.kd=5:=aJ y114.1;rw [aM h114];obtain ⟨AR1,xe,rfl,SO,rfl,hze,har,hnm,hfd⟩:=Ops.inv5 S.ops hk;refine Sx.reSt (λW s=>(s:St _ _ (_::_::_::_::(AR1++bs)) W)) ?_;obtain ⟨AR,rfl⟩:∃ A,A=AR1:=⟨_,Z⟩;refine Sx.At.ra (size:=4) (r:=s1) (e:=76) qP λpA cA e=>?_;subst e;refine .sq<|.fx (p:=.light _ _ (.light _ _ (.light _ _ (.light _ _ (.light _ _ (.light _ _ (.light _ _ (.alt _ _ _ (.alt _ _ _ (.alt _ _ _ (.light _ _ (.light _ _ (.light _ _ (.light _ _ (.alt _ _ _ (.alt _ _ _ (.done) (.no)) (.alt _ _ _ (.alt _ _ _ (.done) (.no)) (.no))))))) (.no)) (.no)) (.alt _ _ _ (.alt _ _ _ (.alt _ _ _ (.light _ _ (.light _ _ (.light _ _ (.light _ _ (.alt _ _ _ (.alt _ _ _ (.done) (.no)) (.alt _ _ _ (.alt _ _ _ (.done) (.no)) (.no))))))) (.no)) (.no)) (.no)))))))))) 16 (.light 0 (.light 1 (.light 2 (.light 3 (.light 4 (.light 5 (.light 7 (.alt 6 2 (.alt 8 0 (.alt 9 2 (.light 10 (.light 12 (.light 13 (.light 14 (.alt 11 2 (.alt 15 2 (.done) (.no)) (.alt 15 2 (.alt 11 2 (.done) (.no)) (.no))))))) (.no)) (.no)) (.alt 8 0 (.alt 6 2 (.alt 9 2 (.light 10 (.light 12 (.light 13 (.light 14 (.alt 11 2 (.alt 15 2 (.done) (.no)) (.alt 15 2 (.alt 11 2 (.done) (.no)) (.no))))))) (.no)) (.no)) (.no)))))))))) (by kernel_rfl) (by kernel_rfl) Z<|.mv Z<|.nC Z<|.fA Z dL<|.fA Z cQ<|.yw (.loadR1 Z dG cR (BC (j:=5) hlo Z))<|.mv Z<|.yw (.lenSl dP Z)<|.h ?_ (.h ?_ .nn)
  ·
   refine .c3 (X:=Nat × Nat) nW Z (λW s=>zA K (cC K.gd.last hq y114.2) V1.one (by omega) l1 (s.pickT (hd:=[_,_,_,_]) (tl:=(AR++bs)) (hd':=[_,_,_,_]) [0,2,1,3] Z Z)) Z (λ_ _=>(.yv (.lenSl dP Z)<|.dn<|.yv (.loadR1 Z dG kP (BC (j:=5) hlo Z))<|.yv (.fieldAddr Z cQ)<|.yv (.fieldAddr Z dL)<|.yv (.nilCheck Z)<|.yv (.move Z)<|.nl)) λp1 _=>.h1<|.blF Z (nY _ _ _ _) Z λb132 H3 u3 m3=>.h1<|.apE vY Z (λ_ _=>nP) Z (Rep.mk (n:=1) (c:=1) (ds:=[dEx .u8 zE]) m3 (.single (SL _) Z) Z (aW _) (by decide)) (Nat.succ_pos _) (by simp only [maxLen];omega) (by omega) Z (λ_ _=>(.d4<|.d3<|.nl)) λnews gE cE hn=>.yw (.indexSl dP Z Z (i:=o.f.ex.length) Z (by omega) (q:=o.f.ex.length * 4) (by omega))<|.nC Z<|.fA Z dL<|.fA Z cQ<|.h ?_ (.h ?_ .nn)
   ·
    refine .sR Z Z gM (Rep.one V1.e.rep) nP (by have:=hn.len;have:=hze.len;simp only [aE,aK,aQ,bJ] at * <;> omega) (.yv (.fieldAddr Z cQ)<|.yv (.fieldAddr Z dL)<|.yv (.nilCheck Z)<|.d4<|.d4<|.nl) <|.h1<|.s1Q (tZ (n:=r.length * 11) (j:=9) (cs':=oC o (.slice (some ⟨gE,0,none⟩) (o.f.ex.length+1) cE) (.slice none 0 0)) hlo Z) Z Z nE Z jW (by rw [aE,hlo];show r.length * 11+9<r.length * 11+11;omega) (.d3<|.yv (.indexSl dP Z Z (i:=o.f.ex.length) Z (by omega) (q:=o.f.ex.length * 4) (by omega))<|.d4<|.d3<|.nl) <|.fe<|.tN<|.rg<|.mv Z<|.nC Z<|.fA Z mJ<|.st .head Z Z lZ Z (nb Z) Z<|.nl<|.bN<|?_
    refine jE (.inr Z) rfl .nil rfl λW s=>?_;have e0:mR l (⟨q,o::r,(v::V,bd),true,dn⟩:Ps)=⟨q.nx,⟨o.kd,o.lv,o.tm,o.op,o.f.wEx (o.f.ex++[v.e])⟩::r,(V,bd || !v.tm),false,dn⟩:=IC rfl hk y114.2;rw [e0];have hz:=yO (ds:=o.f.ex.map (dEx .u8)) (hze.up u3.up) hn (V1.e.up u3.up).rep rfl (bJ ..);have ha:=Ops.arg (o:=⟨o.kd,o.lv,o.tm,o.op,o.f.wEx (o.f.ex++[v.e])⟩) (SO.up u3.up) hk har hnm hfd (by rw [show (⟨o.kd,o.lv,o.tm,o.op,o.f.wEx (o.f.ex++[v.e])⟩:Ov).f.ex=o.f.ex++[v.e] from rfl,bT];exact hz) (s1:=(.slice (some ⟨gE,0,none⟩) (o.f.ex.length+1) cE)) rfl;rw [show (⟨o.kd,o.lv,o.tm,o.op,o.f.wEx (o.f.ex++[v.e])⟩:Ov).f.ex.length=o.f.ex.length+1 from by show (o.f.ex++[v.e]).length=_;rw [aE];rfl] at ha;exact ⟨(H3,(.slice (some ⟨g,0,none⟩) (o::r).length c),.slice (some ⟨p1.1,0,none⟩) V.length p1.2,xr++oC ⟨o.kd,o.lv,o.tm,o.op,o.f.wEx (o.f.ex++[v.e])⟩ (.slice (some ⟨gE,0,none⟩) (o.f.ex.length+1) cE) (.slice none 0 0),yr,.row 76 4 (.slice (some ⟨gE,0,none⟩) (o.f.ex.length+1) cE) (o.f.ex.length+1) (oI (xe++news) (o.f.ex.length * 4) [.int .u8 v.e.op.toNat,bV v.e.nm,.int .i64 v.e.n.toInt,t0])::AR),⟨u3,⟨ha,(VS1.up u3.up)⟩⟩,Z,s.pickT (hd:=[_,_,_,_]) (tl:=(AR++bs)) (hd':=[_,_,_,_]) [0,2,1,3] rfl rfl⟩
   refine .s1Q (tZ (n:=r.length * 11) (j:=9) (cs':=oC o (.slice (some ⟨gE,0,none⟩) (o.f.ex.length+1) cE) (.slice none 0 0)) hlo Z) Z Z nE Z jW (by rw [aE,hlo];show r.length * 11+9<r.length * 11+11;omega) (.d3<|.yv (.indexSl dP Z Z (i:=o.f.ex.length) Z (by omega) (q:=o.f.ex.length * 4) (by omega))<|.d4<|.d3<|.nl) <|.h1<|.sR Z Z gM (Rep.one V1.e.rep) nP (by have:=hn.len;have:=hze.len;simp only [aE,aK,aQ,bJ] at * <;> omega) (.yv (.fieldAddr Z cQ)<|.yv (.fieldAddr Z dL)<|.yv (.nilCheck Z)<|.d4<|.d4<|.nl) <|.fe<|.tN<|.rg<|.mv Z<|.nC Z<|.fA Z mJ<|.st .head Z Z lZ Z (nb Z) Z<|.nl<|.bN<|?_
   refine jE (.inr Z) rfl .nil rfl λW s=>?_;have e0:mR l (⟨q,o::r,(v::V,bd),true,dn⟩:Ps)=⟨q.nx,⟨o.kd,o.lv,o.tm,o.op,o.f.wEx (o.f.ex++[v.e])⟩::r,(V,bd || !v.tm),false,dn⟩:=IC rfl hk y114.2;rw [e0];have hz:=yO (ds:=o.f.ex.map (dEx .u8)) (hze.up u3.up) hn (V1.e.up u3.up).rep rfl (bJ ..);have ha:=Ops.arg (o:=⟨o.kd,o.lv,o.tm,o.op,o.f.wEx (o.f.ex++[v.e])⟩) (SO.up u3.up) hk har hnm hfd (by rw [show (⟨o.kd,o.lv,o.tm,o.op,o.f.wEx (o.f.ex++[v.e])⟩:Ov).f.ex=o.f.ex++[v.e] from rfl,bT];exact hz) (s1:=(.slice (some ⟨gE,0,none⟩) (o.f.ex.length+1) cE)) rfl;rw [show (⟨o.kd,o.lv,o.tm,o.op,o.f.wEx (o.f.ex++[v.e])⟩:Ov).f.ex.length=o.f.ex.length+1 from by show (o.f.ex++[v.e]).length=_;rw [aE];rfl] at ha;exact ⟨(H3,(.slice (some ⟨g,0,none⟩) (o::r).length c),.slice (some ⟨p1.1,0,none⟩) V.length p1.2,xr++oC ⟨o.kd,o.lv,o.tm,o.op,o.f.wEx (o.f.ex++[v.e])⟩ (.slice (some ⟨gE,0,none⟩) (o.f.ex.length+1) cE) (.slice none 0 0),yr,.row 76 4 (.slice (some ⟨gE,0,none⟩) (o.f.ex.length+1) cE) (o.f.ex.length+1) (oI (xe++news) (o.f.ex.length * 4) [.int .u8 v.e.op.toNat,bV v.e.nm,.int .i64 v.e.n.toInt,t0])::AR),⟨u3,⟨ha,(VS1.up u3.up)⟩⟩,Z,s.pickT (hd:=[_,_,_,_]) (tl:=(AR++bs)) (hd':=[_,_,_,_]) [0,2,1,3] rfl rfl⟩
  refine .blF Z (nY _ _ _ _) Z λb132 H3 u3 m3=>.h1<|.c3 (X:=Nat × Nat) nW Z (λW s=>zA (K.up u3.up) (cC K.gd.last hq y114.2) V1.one (by omega) l1 (s.pickT (hd:=[_,_,_,_]) (tl:=(AR++bs)) (hd':=[_,_,_,_]) [0,2,1,3] Z Z)) Z (λ_ _=>(.yv (.lenSl dP Z)<|.dn<|.yv (.loadR1 Z dG kP (BC (j:=5) hlo Z))<|.yv (.fieldAddr Z cQ)<|.yv (.fieldAddr Z dL)<|.yv (.nilCheck Z)<|.yv (.move Z)<|.nl)) λp1 _=>.h1<|.apE vY Z (λ_ _=>nP) Z (Rep.mk (n:=1) (c:=1) (ds:=[dEx .u8 zE]) m3 (.single (SL _) Z) Z (aW _) (by decide)) (Nat.succ_pos _) (by simp only [maxLen];omega) (by omega) Z (λ_ _=>(.d4<|.d3<|.nl)) λnews gE cE hn=>.yw (.indexSl dP Z Z (i:=o.f.ex.length) Z (by omega) (q:=o.f.ex.length * 4) (by omega))<|.nC Z<|.fA Z dL<|.fA Z cQ<|.h ?_ (.h ?_ .nn)
  ·
   refine .sR Z Z gM (Rep.one V1.e.rep) nP (by have:=hn.len;have:=hze.len;simp only [aE,aK,aQ,bJ] at * <;> omega) (.yv (.fieldAddr Z cQ)<|.yv (.fieldAddr Z dL)<|.yv (.nilCheck Z)<|.d4<|.d4<|.nl) <|.h1<|.s1Q (tZ (n:=r.length * 11) (j:=9) (cs':=oC o (.slice (some ⟨gE,0,none⟩) (o.f.ex.length+1) cE) (.slice none 0 0)) hlo Z) Z Z nE Z jW (by rw [aE,hlo];show r.length * 11+9<r.length * 11+11;omega) (.d3<|.yv (.indexSl dP Z Z (i:=o.f.ex.length) Z (by omega) (q:=o.f.ex.length * 4) (by omega))<|.d4<|.d3<|.nl) <|.fe<|.tN<|.rg<|.mv Z<|.nC Z<|.fA Z mJ<|.st .head Z Z lZ Z (nb Z) Z<|.nl<|.bN<|?_
   refine jE (.inr Z) rfl .nil rfl λW s=>?_;have e0:mR l (⟨q,o::r,(v::V,bd),true,dn⟩:Ps)=⟨q.nx,⟨o.kd,o.lv,o.tm,o.op,o.f.wEx (o.f.ex++[v.e])⟩::r,(V,bd || !v.tm),false,dn⟩:=IC rfl hk y114.2;rw [e0];have hz:=yO (ds:=o.f.ex.map (dEx .u8)) (hze.up u3.up) hn (V1.e.up u3.up).rep rfl (bJ ..);have ha:=Ops.arg (o:=⟨o.kd,o.lv,o.tm,o.op,o.f.wEx (o.f.ex++[v.e])⟩) (SO.up u3.up) hk har hnm hfd (by rw [show (⟨o.kd,o.lv,o.tm,o.op,o.f.wEx (o.f.ex++[v.e])⟩:Ov).f.ex=o.f.ex++[v.e] from rfl,bT];exact hz) (s1:=(.slice (some ⟨gE,0,none⟩) (o.f.ex.length+1) cE)) rfl;rw [show (⟨o.kd,o.lv,o.tm,o.op,o.f.wEx (o.f.ex++[v.e])⟩:Ov).f.ex.length=o.f.ex.length+1 from by show (o.f.ex++[v.e]).length=_;rw [aE];rfl] at ha;exact ⟨(H3,(.slice (some ⟨g,0,none⟩) (o::r).length c),.slice (some ⟨p1.1,0,none⟩) V.length p1.2,xr++oC ⟨o.kd,o.lv,o.tm,o.op,o.f.wEx (o.f.ex++[v.e])⟩ (.slice (some ⟨gE,0,none⟩) (o.f.ex.length+1) cE) (.slice none 0 0),yr,.row 76 4 (.slice (some ⟨gE,0,none⟩) (o.f.ex.length+1) cE) (o.f.ex.length+1) (oI (xe++news) (o.f.ex.length * 4) [.int .u8 v.e.op.toNat,bV v.e.nm,.int .i64 v.e.n.toInt,t0])::AR),⟨u3,⟨ha,(VS1.up u3.up)⟩⟩,Z,s.pickT (hd:=[_,_,_,_]) (tl:=(AR++bs)) (hd':=[_,_,_,_]) [0,2,1,3] rfl rfl⟩
  refine .s1Q (tZ (n:=r.length * 11) (j:=9) (cs':=oC o (.slice (some ⟨gE,0,none⟩) (o.f.ex.length+1) cE) (.slice none 0 0)) hlo Z) Z Z nE Z jW (by rw [aE,hlo];show r.length * 11+9<r.length * 11+11;omega) (.d3<|.yv (.indexSl dP Z Z (i:=o.f.ex.length) Z (by omega) (q:=o.f.ex.length * 4) (by omega))<|.d4<|.d3<|.nl) <|.h1<|.sR Z Z gM (Rep.one V1.e.rep) nP (by have:=hn.len;have:=hze.len;simp only [aE,aK,aQ,bJ] at * <;> omega) (.yv (.fieldAddr Z cQ)<|.yv (.fieldAddr Z dL)<|.yv (.nilCheck Z)<|.d4<|.d4<|.nl) <|.fe<|.tN<|.rg<|.mv Z<|.nC Z<|.fA Z mJ<|.st .head Z Z lZ Z (nb Z) Z<|.nl<|.bN<|?_
  refine jE (.inr Z) rfl .nil rfl λW s=>?_;have e0:mR l (⟨q,o::r,(v::V,bd),true,dn⟩:Ps)=⟨q.nx,⟨o.kd,o.lv,o.tm,o.op,o.f.wEx (o.f.ex++[v.e])⟩::r,(V,bd || !v.tm),false,dn⟩:=IC rfl hk y114.2;rw [e0];have hz:=yO (ds:=o.f.ex.map (dEx .u8)) (hze.up u3.up) hn (V1.e.up u3.up).rep rfl (bJ ..);have ha:=Ops.arg (o:=⟨o.kd,o.lv,o.tm,o.op,o.f.wEx (o.f.ex++[v.e])⟩) (SO.up u3.up) hk har hnm hfd (by rw [show (⟨o.kd,o.lv,o.tm,o.op,o.f.wEx (o.f.ex++[v.e])⟩:Ov).f.ex=o.f.ex++[v.e] from rfl,bT];exact hz) (s1:=(.slice (some ⟨gE,0,none⟩) (o.f.ex.length+1) cE)) rfl;rw [show (⟨o.kd,o.lv,o.tm,o.op,o.f.wEx (o.f.ex++[v.e])⟩:Ov).f.ex.length=o.f.ex.length+1 from by show (o.f.ex++[v.e]).length=_;rw [aE];rfl] at ha;exact ⟨(H3,(.slice (some ⟨g,0,none⟩) (o::r).length c),.slice (some ⟨p1.1,0,none⟩) V.length p1.2,xr++oC ⟨o.kd,o.lv,o.tm,o.op,o.f.wEx (o.f.ex++[v.e])⟩ (.slice (some ⟨gE,0,none⟩) (o.f.ex.length+1) cE) (.slice none 0 0),yr,.row 76 4 (.slice (some ⟨gE,0,none⟩) (o.f.ex.length+1) cE) (o.f.ex.length+1) (oI (xe++news) (o.f.ex.length * 4) [.int .u8 v.e.op.toNat,bV v.e.nm,.int .i64 v.e.n.toInt,t0])::AR),⟨u3,⟨ha,(VS1.up u3.up)⟩⟩,Z,s.pickT (hd:=[_,_,_,_]) (tl:=(AR++bs)) (hd':=[_,_,_,_]) [0,2,1,3] rfl rfl⟩
 rw [h114] at e114;rw [aD (by rw [h114];decide)];refine .cu (X:=Bool) [(0,_),(2,_)] ⟨Z,Z,Jt⟩ (λz=>[(141,.bool z)]) (λz=>H) (λz=>(.box b [.slice tp l.length tc,iN ((if z then Rq.nx q else q).i),(.slice (some ⟨g,0,none⟩) (o::r).length c),rv,.bool true,.bool dn,.bool bd,iN ((if z then Rq.nx q else q).off),iN ((if z then Rq.nx q else q).er)] 102::.row 97 11 ((.slice (some ⟨g,0,none⟩) (o::r).length c)) ((o::r).length) ((xr++oC o s1 s2))::.row 179 13 (rv) (V.length+1) ((yr++vC v t0 t1 t2))::(AR++bs))) (λz=>z=(decide (o.kd=5) && Rq.ac l [41] q)) ?_ λz hC=>?_
 ·
  refine .rg<|.mv Z<|.nC Z<|.fA Z hO<|.yw (.loadR1 Z mT cR (kY hlo Z))<|.yw (.eql Z Z)<|.mv Z<|.b2 (λh147=>?_) (λh147=>?_)
  ·have hg:o.kd=5:=aR.1 (by have:=aJ h147;show o.kd.toNat=5;omega);exact .gy (.move Z)<|.gd Z Z<|.cs (X:=Unit) dI Z (λW s=>eQ K hq [41] (s.pickT (hd:=[_,_,_]) (tl:=(AR++bs)) (hd':=[_,_,_]) [0,1,2] Z Z)) Z λ_ _=>.yw (.pickT Z Z)<|.aq Z<|.me _ ⟨Z,Jt⟩ ⟨Z,Z,Jt⟩ (λ_ s=>s) (by first | rw [aF hg,aG] | (rw [aI hg];rfl))
  have hg:¬ o.kd=5:=λe=>aO h147 (by rw [e];rfl);exact .gG<|.gG<|.yw (.pickF Z Z)<|.aq Z<|.me _ ⟨Z,Jt⟩ ⟨Z,Z,Jt⟩ (λ_ s=>s) (by first | rw [aF hg,aG] | (rw [aI hg];rfl))
 have e141:=hC;refine .cd Z (λh141=>?_) (λh141=>?_)
 ·rw [h141] at e141;have y141:=aC _ _ |>.mp e141.symm
  have hk:o.kd=5:=aJ y141.1;rw [aM h141];obtain ⟨AR1,xe,rfl,SO,rfl,hze,har,hnm,hfd⟩:=Ops.inv5 S.ops hk;refine Sx.reSt (λW s=>(s:St _ _ (_::_::_::_::(AR1++bs)) W)) ?_;obtain ⟨AR,rfl⟩:∃ A,A=AR1:=⟨_,Z⟩;refine Sx.At.ra (size:=4) (r:=s1) (e:=76) qP λpA cA e=>?_;subst e;refine .sq<|.fx (p:=.light _ _ (.light _ _ (.light _ _ (.light _ _ (.light _ _ (.light _ _ (.light _ _ (.alt _ _ _ (.alt _ _ _ (.alt _ _ _ (.light _ _ (.light _ _ (.light _ _ (.light _ _ (.alt _ _ _ (.alt _ _ _ (.done) (.no)) (.alt _ _ _ (.alt _ _ _ (.done) (.no)) (.no))))))) (.no)) (.no)) (.alt _ _ _ (.alt _ _ _ (.alt _ _ _ (.light _ _ (.light _ _ (.light _ _ (.light _ _ (.alt _ _ _ (.alt _ _ _ (.done) (.no)) (.alt _ _ _ (.alt _ _ _ (.done) (.no)) (.no))))))) (.no)) (.no)) (.no)))))))))) 16 (.light 0 (.light 1 (.light 2 (.light 3 (.light 4 (.light 5 (.light 7 (.alt 6 2 (.alt 8 0 (.alt 9 2 (.light 10 (.light 12 (.light 13 (.light 14 (.alt 11 2 (.alt 15 2 (.done) (.no)) (.alt 15 2 (.alt 11 2 (.done) (.no)) (.no))))))) (.no)) (.no)) (.alt 8 0 (.alt 6 2 (.alt 9 2 (.light 10 (.light 12 (.light 13 (.light 14 (.alt 11 2 (.alt 15 2 (.done) (.no)) (.alt 15 2 (.alt 11 2 (.done) (.no)) (.no))))))) (.no)) (.no)) (.no)))))))))) (by kernel_rfl) (by kernel_rfl) Z<|.mv Z<|.nC Z<|.fA Z dL<|.fA Z cQ<|.yw (.loadR1 Z dG cR (BC (j:=5) hlo Z))<|.mv Z<|.yw (.lenSl dP Z)<|.h ?_ (.h ?_ .nn)
  ·
   refine .c3 (X:=Nat × Nat) nW Z (λW s=>zA K (cC K.gd.last hq y141.2) V1.one (by omega) l1 (s.pickT (hd:=[_,_,_,_]) (tl:=(AR++bs)) (hd':=[_,_,_,_]) [0,2,1,3] Z Z)) Z (λ_ _=>(.yv (.lenSl dP Z)<|.dn<|.yv (.loadR1 Z dG kP (BC (j:=5) hlo Z))<|.yv (.fieldAddr Z cQ)<|.yv (.fieldAddr Z dL)<|.yv (.nilCheck Z)<|.yv (.move Z)<|.nl)) λp1 _=>.h1<|.blF Z (nY _ _ _ _) Z λb159 H39 u39 m39=>.h1<|.apE vY Z (λ_ _=>nP) Z (Rep.mk (n:=1) (c:=1) (ds:=[dEx .u8 zE]) m39 (.single (SL _) Z) Z (aW _) (by decide)) (Nat.succ_pos _) (by simp only [maxLen];omega) (by omega) Z (λ_ _=>(.d4<|.d3<|.nl)) λnews9 gE9 cE9 hn9=>.yw (.indexSl dP Z Z (i:=o.f.ex.length) Z (by omega) (q:=o.f.ex.length * 4) (by omega))<|.nC Z<|.fA Z dL<|.fA Z cQ<|.h ?_ (.h ?_ .nn)
   ·
    refine .sR Z Z gM (Rep.one V1.e.rep) nP (by have:=hn9.len;have:=hze.len;simp only [aE,aK,aQ,bJ] at * <;> omega) (.yv (.fieldAddr Z cQ)<|.yv (.fieldAddr Z dL)<|.yv (.nilCheck Z)<|.d4<|.d4<|.nl) <|.h1<|.s1Q (tZ (n:=r.length * 11) (j:=9) (cs':=oC o (.slice (some ⟨gE9,0,none⟩) (o.f.ex.length+1) cE9) (.slice none 0 0)) hlo Z) Z Z nE Z jW (by rw [aE,hlo];show r.length * 11+9<r.length * 11+11;omega) (.d3<|.yv (.indexSl dP Z Z (i:=o.f.ex.length) Z (by omega) (q:=o.f.ex.length * 4) (by omega))<|.d4<|.d3<|.nl) <|.fe<|.tN<|.rg<|.mv Z<|.mv Z<|.nC Z<|.fA Z dL<|.yw (.loadR (vs:=(cFm .u8 o.f.op o.f.nm o.f.fd o.f.a o.f.b (.slice (some ⟨gE9,0,none⟩) (o.f.ex.length+1) cE9) (.slice none 0 0))) Z cL kP Z (λj u h=>by rw [dQ];exact kY hlo (by rw [Nat.add_comm 4 j];exact h)))<|.yw (.build Z (jH _ _ _ _ _ _ _))<|.cs (X:=(Nat × Nat) × (Option Addr × Nat)) rI Z (λW s=>yT (K.up u39.up) (cC K.gd.last hq y141.2) (by simp [Value.oneCell',bV]) (by omega) (by omega) hlo (s.pickT (hd:=[_,_,_,_]) (tl:=(AR++bs)) (hd':=[_,_,_,_]) [0,2,1,3] Z Z)) Z λp9 _=>.nl<|.bN<|?_
    refine Sx.reSt (λW s=>s.pickT (hd:=[_,_,_,_]) (tl:=(AR++bs)) (hd':=[_,_,_,_]) [3,0,1,2] rfl rfl) ?_;refine nB (ds:=(o.f.ex++[v.e]).map (dEx .u8)) (by rw [bJ,aE];rfl) (by rw [bT];exact yO (ds:=o.f.ex.map (dEx .u8)) (hze.up u39.up) hn9 (V1.e.up u39.up).rep rfl (bJ ..)) λH8 p8 c8 u8 e8 h8=>?_;refine jE (.inr Z) rfl .nil rfl λW s=>?_;have e0:mR l (⟨q,o::r,(v::V,bd),true,dn⟩:Ps)=⟨q.nx,r,((fmv (o.f.wEx (o.f.ex++[v.e])))::V,bd || !v.tm),true,dn⟩:=ID rfl hk y141.2;rw [e0];exact ⟨(_,_,_,_,_,AR),⟨(u39.trans u8),⟨((SO.up u39.up).up u8.up),.cons ((VS1.up u39.up).up u8.up) (v:=(fmv (o.f.wEx (o.f.ex++[v.e])))) ⟨ExR.zero rfl (aP _),⟨h8,by show Rep _ (.seq 7 (o.f.args.map _)) _;rw [har];exact Rep.nil4,hnm,hfd⟩⟩⟩⟩,Z,s.pickT (hd:=[_,_,_]) (tl:=(AR++bs)) (hd':=[_,_,_]) [0,1,2] rfl rfl⟩
   refine .s1Q (tZ (n:=r.length * 11) (j:=9) (cs':=oC o (.slice (some ⟨gE9,0,none⟩) (o.f.ex.length+1) cE9) (.slice none 0 0)) hlo Z) Z Z nE Z jW (by rw [aE,hlo];show r.length * 11+9<r.length * 11+11;omega) (.d3<|.yv (.indexSl dP Z Z (i:=o.f.ex.length) Z (by omega) (q:=o.f.ex.length * 4) (by omega))<|.d4<|.d3<|.nl) <|.h1<|.sR Z Z gM (Rep.one V1.e.rep) nP (by have:=hn9.len;have:=hze.len;simp only [aE,aK,aQ,bJ] at * <;> omega) (.yv (.fieldAddr Z cQ)<|.yv (.fieldAddr Z dL)<|.yv (.nilCheck Z)<|.d4<|.d4<|.nl) <|.fe<|.tN<|.rg<|.mv Z<|.mv Z<|.nC Z<|.fA Z dL<|.yw (.loadR (vs:=(cFm .u8 o.f.op o.f.nm o.f.fd o.f.a o.f.b (.slice (some ⟨gE9,0,none⟩) (o.f.ex.length+1) cE9) (.slice none 0 0))) Z cL kP Z (λj u h=>by rw [dQ];exact kY hlo (by rw [Nat.add_comm 4 j];exact h)))<|.yw (.build Z (jH _ _ _ _ _ _ _))<|.cs (X:=(Nat × Nat) × (Option Addr × Nat)) rI Z (λW s=>yT (K.up u39.up) (cC K.gd.last hq y141.2) (by simp [Value.oneCell',bV]) (by omega) (by omega) hlo (s.pickT (hd:=[_,_,_,_]) (tl:=(AR++bs)) (hd':=[_,_,_,_]) [0,2,1,3] Z Z)) Z λp9 _=>.nl<|.bN<|?_
   refine Sx.reSt (λW s=>s.pickT (hd:=[_,_,_,_]) (tl:=(AR++bs)) (hd':=[_,_,_,_]) [3,0,1,2] rfl rfl) ?_;refine nB (ds:=(o.f.ex++[v.e]).map (dEx .u8)) (by rw [bJ,aE];rfl) (by rw [bT];exact yO (ds:=o.f.ex.map (dEx .u8)) (hze.up u39.up) hn9 (V1.e.up u39.up).rep rfl (bJ ..)) λH8 p8 c8 u8 e8 h8=>?_;refine jE (.inr Z) rfl .nil rfl λW s=>?_;have e0:mR l (⟨q,o::r,(v::V,bd),true,dn⟩:Ps)=⟨q.nx,r,((fmv (o.f.wEx (o.f.ex++[v.e])))::V,bd || !v.tm),true,dn⟩:=ID rfl hk y141.2;rw [e0];exact ⟨(_,_,_,_,_,AR),⟨(u39.trans u8),⟨((SO.up u39.up).up u8.up),.cons ((VS1.up u39.up).up u8.up) (v:=(fmv (o.f.wEx (o.f.ex++[v.e])))) ⟨ExR.zero rfl (aP _),⟨h8,by show Rep _ (.seq 7 (o.f.args.map _)) _;rw [har];exact Rep.nil4,hnm,hfd⟩⟩⟩⟩,Z,s.pickT (hd:=[_,_,_]) (tl:=(AR++bs)) (hd':=[_,_,_]) [0,1,2] rfl rfl⟩
  refine .blF Z (nY _ _ _ _) Z λb159 H39 u39 m39=>.h1<|.c3 (X:=Nat × Nat) nW Z (λW s=>zA (K.up u39.up) (cC K.gd.last hq y141.2) V1.one (by omega) l1 (s.pickT (hd:=[_,_,_,_]) (tl:=(AR++bs)) (hd':=[_,_,_,_]) [0,2,1,3] Z Z)) Z (λ_ _=>(.yv (.lenSl dP Z)<|.dn<|.yv (.loadR1 Z dG kP (BC (j:=5) hlo Z))<|.yv (.fieldAddr Z cQ)<|.yv (.fieldAddr Z dL)<|.yv (.nilCheck Z)<|.yv (.move Z)<|.nl)) λp1 _=>.h1<|.apE vY Z (λ_ _=>nP) Z (Rep.mk (n:=1) (c:=1) (ds:=[dEx .u8 zE]) m39 (.single (SL _) Z) Z (aW _) (by decide)) (Nat.succ_pos _) (by simp only [maxLen];omega) (by omega) Z (λ_ _=>(.d4<|.d3<|.nl)) λnews9 gE9 cE9 hn9=>.yw (.indexSl dP Z Z (i:=o.f.ex.length) Z (by omega) (q:=o.f.ex.length * 4) (by omega))<|.nC Z<|.fA Z dL<|.fA Z cQ<|.h ?_ (.h ?_ .nn)
  ·
   refine .sR Z Z gM (Rep.one V1.e.rep) nP (by have:=hn9.len;have:=hze.len;simp only [aE,aK,aQ,bJ] at * <;> omega) (.yv (.fieldAddr Z cQ)<|.yv (.fieldAddr Z dL)<|.yv (.nilCheck Z)<|.d4<|.d4<|.nl) <|.h1<|.s1Q (tZ (n:=r.length * 11) (j:=9) (cs':=oC o (.slice (some ⟨gE9,0,none⟩) (o.f.ex.length+1) cE9) (.slice none 0 0)) hlo Z) Z Z nE Z jW (by rw [aE,hlo];show r.length * 11+9<r.length * 11+11;omega) (.d3<|.yv (.indexSl dP Z Z (i:=o.f.ex.length) Z (by omega) (q:=o.f.ex.length * 4) (by omega))<|.d4<|.d3<|.nl) <|.fe<|.tN<|.rg<|.mv Z<|.mv Z<|.nC Z<|.fA Z dL<|.yw (.loadR (vs:=(cFm .u8 o.f.op o.f.nm o.f.fd o.f.a o.f.b (.slice (some ⟨gE9,0,none⟩) (o.f.ex.length+1) cE9) (.slice none 0 0))) Z cL kP Z (λj u h=>by rw [dQ];exact kY hlo (by rw [Nat.add_comm 4 j];exact h)))<|.yw (.build Z (jH _ _ _ _ _ _ _))<|.cs (X:=(Nat × Nat) × (Option Addr × Nat)) rI Z (λW s=>yT (K.up u39.up) (cC K.gd.last hq y141.2) (by simp [Value.oneCell',bV]) (by omega) (by omega) hlo (s.pickT (hd:=[_,_,_,_]) (tl:=(AR++bs)) (hd':=[_,_,_,_]) [0,2,1,3] Z Z)) Z λp9 _=>.nl<|.bN<|?_
   refine Sx.reSt (λW s=>s.pickT (hd:=[_,_,_,_]) (tl:=(AR++bs)) (hd':=[_,_,_,_]) [3,0,1,2] rfl rfl) ?_;refine nB (ds:=(o.f.ex++[v.e]).map (dEx .u8)) (by rw [bJ,aE];rfl) (by rw [bT];exact yO (ds:=o.f.ex.map (dEx .u8)) (hze.up u39.up) hn9 (V1.e.up u39.up).rep rfl (bJ ..)) λH8 p8 c8 u8 e8 h8=>?_;refine jE (.inr Z) rfl .nil rfl λW s=>?_;have e0:mR l (⟨q,o::r,(v::V,bd),true,dn⟩:Ps)=⟨q.nx,r,((fmv (o.f.wEx (o.f.ex++[v.e])))::V,bd || !v.tm),true,dn⟩:=ID rfl hk y141.2;rw [e0];exact ⟨(_,_,_,_,_,AR),⟨(u39.trans u8),⟨((SO.up u39.up).up u8.up),.cons ((VS1.up u39.up).up u8.up) (v:=(fmv (o.f.wEx (o.f.ex++[v.e])))) ⟨ExR.zero rfl (aP _),⟨h8,by show Rep _ (.seq 7 (o.f.args.map _)) _;rw [har];exact Rep.nil4,hnm,hfd⟩⟩⟩⟩,Z,s.pickT (hd:=[_,_,_]) (tl:=(AR++bs)) (hd':=[_,_,_]) [0,1,2] rfl rfl⟩
  refine .s1Q (tZ (n:=r.length * 11) (j:=9) (cs':=oC o (.slice (some ⟨gE9,0,none⟩) (o.f.ex.length+1) cE9) (.slice none 0 0)) hlo Z) Z Z nE Z jW (by rw [aE,hlo];show r.length * 11+9<r.length * 11+11;omega) (.d3<|.yv (.indexSl dP Z Z (i:=o.f.ex.length) Z (by omega) (q:=o.f.ex.length * 4) (by omega))<|.d4<|.d3<|.nl) <|.h1<|.sR Z Z gM (Rep.one V1.e.rep) nP (by have:=hn9.len;have:=hze.len;simp only [aE,aK,aQ,bJ] at * <;> omega) (.yv (.fieldAddr Z cQ)<|.yv (.fieldAddr Z dL)<|.yv (.nilCheck Z)<|.d4<|.d4<|.nl) <|.fe<|.tN<|.rg<|.mv Z<|.mv Z<|.nC Z<|.fA Z dL<|.yw (.loadR (vs:=(cFm .u8 o.f.op o.f.nm o.f.fd o.f.a o.f.b (.slice (some ⟨gE9,0,none⟩) (o.f.ex.length+1) cE9) (.slice none 0 0))) Z cL kP Z (λj u h=>by rw [dQ];exact kY hlo (by rw [Nat.add_comm 4 j];exact h)))<|.yw (.build Z (jH _ _ _ _ _ _ _))<|.cs (X:=(Nat × Nat) × (Option Addr × Nat)) rI Z (λW s=>yT (K.up u39.up) (cC K.gd.last hq y141.2) (by simp [Value.oneCell',bV]) (by omega) (by omega) hlo (s.pickT (hd:=[_,_,_,_]) (tl:=(AR++bs)) (hd':=[_,_,_,_]) [0,2,1,3] Z Z)) Z λp9 _=>.nl<|.bN<|?_
  refine Sx.reSt (λW s=>s.pickT (hd:=[_,_,_,_]) (tl:=(AR++bs)) (hd':=[_,_,_,_]) [3,0,1,2] rfl rfl) ?_;refine nB (ds:=(o.f.ex++[v.e]).map (dEx .u8)) (by rw [bJ,aE];rfl) (by rw [bT];exact yO (ds:=o.f.ex.map (dEx .u8)) (hze.up u39.up) hn9 (V1.e.up u39.up).rep rfl (bJ ..)) λH8 p8 c8 u8 e8 h8=>?_;refine jE (.inr Z) rfl .nil rfl λW s=>?_;have e0:mR l (⟨q,o::r,(v::V,bd),true,dn⟩:Ps)=⟨q.nx,r,((fmv (o.f.wEx (o.f.ex++[v.e])))::V,bd || !v.tm),true,dn⟩:=ID rfl hk y141.2;rw [e0];exact ⟨(_,_,_,_,_,AR),⟨(u39.trans u8),⟨((SO.up u39.up).up u8.up),.cons ((VS1.up u39.up).up u8.up) (v:=(fmv (o.f.wEx (o.f.ex++[v.e])))) ⟨ExR.zero rfl (aP _),⟨h8,by show Rep _ (.seq 7 (o.f.args.map _)) _;rw [har];exact Rep.nil4,hnm,hfd⟩⟩⟩⟩,Z,s.pickT (hd:=[_,_,_]) (tl:=(AR++bs)) (hd':=[_,_,_]) [0,1,2] rfl rfl⟩
 rw [h141] at e141;rw [aD (by rw [h141];decide)];refine .rg<|.mv Z<|.cs (X:=Unit) jG Z (λW s=>qZ K hq 8 (s.pickT (hd:=[_,_,_]) (tl:=(AR++bs)) (hd':=[_,_,_]) [0,1,2] Z Z)) Z λ_ _=>.nl<|.bN<|?_
 refine jE (.inr Z) rfl .nil rfl λW s=>?_;have n2:∀ {n:UInt8} {w:Str},false=(decide (o.kd=n) && Rq.ac l w q)->o.kd=n->Rq.ac l w q=false:=λe k=>by rw [aF k,aG] at e;exact e.symm
 have e0:mR l (⟨q,o::r,(v::V,bd),true,dn⟩:Ps)=(⟨q,o::r,(v::V,bd),true,dn⟩:Ps).at (q.fail l 8):=CW (λe e2=>by rw [aF (show o.kd=1 from e),aF (show (tkf l q.i).k=0 from e2)] at e9;cases e9) (λe=>by
  rcases e with e | e | e
  ·exact n2 e24 e
  ·exact n2 e40 e
  ·exact n2 e141 e) (n2 e74) (n2 e114)
 rw [e0];exact ⟨(_,_,_,_,_,AR),⟨.refl,⟨S.ops,S.vls⟩⟩,Z,s.pickT (hd:=[_,_,_]) (tl:=(AR++bs)) (hd':=[_,_,_]) [0,1,2] rfl rfl⟩
def Fex (q:Ps):Prop:=∀ o∈q.op,o.f.ex.length<=q.c.i
section
variable {l:Tks} {q:Ps} {c:Rq} {o:Ov} {v:Vl}
theorem nH (h:Fex q) (hi:q.c.i<=c.i) (ho:o.f.ex=[]):Fex (fR o (q.at c)):=λz hz=>by
 rcases bP.1 hz with rfl | hz
 ·rw [bW8,ho];exact aP _
 ·exact aV (h z hz) hi
theorem sJ (h:Fex q) (hi:q.c.i<=c.i):Fex (jA v (q.at c)):=λz hz=>aV (h z hz) hi
theorem JD (h:Fex q) (hi:q.c.i<=c.i):Fex (q.at c):=λz hz=>aV (h z hz) hi
theorem MK {lv:Nat}:∀ (r:List Ov) (x:Vb),∀ z∈(xM lv r x).1,z∈r
 | [],_,z,h=>h
 | o::r,x,z,h=>by
  rw [xM] at h
  split at h
  ·exact cI _ (MK r _ z h)
  ·exact h
theorem AU {lv:Nat} (h:Fex q):Fex (kK lv q):=λz hz=>h z (MK q.op q.x z hz)
theorem HW {x:Vb} (h:Fex q) (hi:q.c.i<=c.i):Fex (IB c v x q):=λz hz=>aV (h z (List.mem_of_mem_tail hz)) hi
theorem kD {c:Prop} [Decidable c] {a b:Ps} (h1:c->Fex a) (h2:¬ c->Fex b):Fex (if c then a else b):=by
 by_cases hc:c
 ·rw [aM hc];exact h1 hc
 ·rw [aD hc];exact h2 hc
theorem wL (k:Mq q.c.nx c):q.c.i<=c.i:=aV (Nat.le_succ _) k.i
theorem bG6 {q':Ps} (h:Fex q) (e:mV l q=some q'):Fex q':=by
 unfold mV at e
 split at e
 ·injection e with e;subst e;exact nH h (wL (.refl _)) rfl
 split at e
 ·injection e with e;subst e;exact nH h (wL (.refl _)) rfl
 split at e
 ·injection e with e;subst e;exact nH h (wL .wiS) rfl
 split at e
 ·injection e with e;subst e;exact nH h (wL .wiS) rfl
 split at e
 ·injection e with e;subst e;exact nH h (wL .amS) rfl
 split at e
 ·injection e with e;subst e;exact nH h (wL .amS) rfl
 split at e
 ·injection e with e;subst e;exact nH h (wL (.trans .amS .exS)) rfl
 ·cases e
theorem bE0:q.c.i<=(q.c.nmS l).i:=Mq.nmS.i
theorem bS5 (h:Fex q):Fex (wP l q):=by
 unfold wP;refine kD (λa=>kD (λb=>nH h ?_ rfl) λ_=>sJ h ?_) λ_=>sJ h bE0
 ·exact aV bE0 (aV (Nat.le_succ _) (aV (Mq.nmS (q:=(q.c.nmS l).nx)).i (Nat.le_succ _)))
 ·exact aV bE0 (aV (Nat.le_succ _) (Mq.nmS (q:=(q.c.nmS l).nx)).i)
theorem bT1 (h:Fex q):Fex (zQ l q):=by
 unfold zQ;have h2:q.c.i<=((q.c.paS l).exS l [40]).i:=(Mq.trans (a:=q.c) .paS .exS).i;exact kD (λ_=>sJ h (aV h2 (Nat.le_succ _))) λ_=>nH h h2 rfl
theorem bS7 (h:Fex q):Fex (qO l q):=by
 unfold qO
 exact kD (λ_=>nH h (wL (.refl _)) rfl) λ_=>kD (λ_=>nH h (wL (.refl _)) rfl) λ_ =>
  kD (λ_=>sJ h Mq.nbS.i) λ_=>kD (λ_=>bS5 h) λ_=>kD (λ_=>sJ h (wL (.refl _))) λ_ =>
  kD (λ_=>sJ h (wL .paS)) λ_=>kD (λ_=>sJ h (wL (.refl _))) λ_=>kD (λ_=>sJ h (wL (.refl _))) λ_ =>
  kD (λ_=>sJ h (wL .nmS)) λ_=>kD (λ_=>nH h (wL (.trans .paS .exS)) rfl) λ_ =>
  kD (λ_=>bT1 (JD h (Nat.le_succ _))) λ_=>JD h Mq.fail.i
theorem XZ (h:Fex q):Fex (eC l q):=by
 unfold eC;cases e:(if zD q then mV l q else none) with
 | some q' =>
  split at e
  ·exact bG6 h e
  ·cases e
 | none =>
  show Fex (xL l q);unfold xL;exact kD (λ_=>sJ h (Nat.le_succ _)) λ_=>bS7 h
theorem bT0 {op:UInt8} (h:Fex q):Fex (sD l op q):=by
 have f {lv:Nat}:Fex ((kK lv q).at (q.c.fail l 8)):=JD (AU h) (Mq.fail (q:=q.c)).i;have p {lv:Nat} {o:Ov} (ho:o.f.ex=[]):Fex (fR o ((kK lv q).at q.c.nx)):=nH (AU h) (Nat.le_succ _) ho;unfold sD;exact kD (λ_=>kD (λ_=>f) λ_=>p rfl) λ_=>kD (λ_=>kD (λ_=>f) λ_=>p rfl) λ_=>kD (λ_=>f) λ_=>p rfl
theorem cB4 (c:Rq):(c.joV l).ex=[]:=by
 unfold Rq.joV
 split
 ·rfl
 split
 ·rfl
 split
 ·rfl
 split <;> rfl
theorem bS8 (h:Fex q):Fex (xU l q):=by
 unfold xU;exact kD (λ_=>JD h Mq.fail.i) λ_=>nH (q:=kK _ q) (c:=q.c.joS l) (AU h) (Mq.joS (q:=q.c)).i (cB4 _)
theorem bS9 (h:Fex q):Fex (mR l q):=by
 unfold mR;refine kD (λ_=>h) λ_=>kD (λ_=>HW h (Nat.le_succ _)) λ_=>kD (λ_=>HW h (wL (.trans .exS .nbS))) λ_=>kD (λ_=>kD (λ_=>HW h (Nat.le_succ _)) λ_=>HW h (Nat.le_succ _)) λ_=>kD (λa=>?_) λ_=>kD (λ_=>HW h (Nat.le_succ _)) λ_=>JD h Mq.fail.i;intro z hz;have hz':z∈(⟨(dN q).kd,(dN q).lv,(dN q).tm,(dN q).op,(dN q).f.wEx ((dN q).f.ex++[tE q.x])⟩:Ov)::q.op.tail:=hz;show z.f.ex.length<=q.c.i+1;rcases bP.1 hz' with e | hz
 ·subst e;show ((dN q).f.ex++[tE q.x]).length<=_;rw [aE]
  have:(dN q).f.ex.length<=q.c.i:=by
   unfold dN;cases hq:q.op with
   | nil=>exact aP _
   | cons o r=>exact h o (by rw [hq];exact bQ ..)
  simp only [aK,aQ];omega
 ·exact aV (h z (List.mem_of_mem_tail hz)) (Nat.le_succ _)
theorem bG5 (h:Fex q):Fex (lM l q):=by
 unfold lM;refine kD (λ_=>?_) λ_=>XZ h;unfold fQ;cases q.c.sym l with
 | some i=>exact bT0 h
 | none =>
  show Fex (qV l q);unfold qV;exact kD (λ_=>bS8 h) λ_=>kD (λ_=>bS9 (AU h)) λ_=>JD h Mq.fail.i
end
def KO (t:Str) (i:Nat):Bool:=decide (kO.getD i []=t) && decide (¬ i=0)
theorem aM1 {t:Str} (hk:k<22) (h:KO t k=true) (hp:∀ j,j<k->KO t j=false):aM3 t=some k:=List.find?_range_eq_some.2 ⟨h,bU.2 hk,λj hj=>by
 have:=hp j hj;unfold KO at this;rw [this];rfl⟩
theorem YJ {p:Nat->Prop} (h:∀ j,j<k->p j) (hk:p k):∀ j,j<k+1->p j:=λj hj=>by
 by_cases e:j=k
 ·rw [e];exact hk
 ·exact h j (by omega)
theorem aM2 {t:Str} (hp:∀ j,j<22->KO t j=false):aM3 t=none:=List.find?_range_eq_none.2 λj hj=>by
 have:=hp j hj;unfold KO at this;rw [this];rfl
theorem cG0 (h:k<256):IntKind.u8.wrap (k:Int)=(((UInt8.ofNat k).toNat:Nat):Int):=by
 have key:∀ i∈List.range 256,IntKind.u8.wrap (i:Int)=(i:Int):=by decide +kernel
 rw [key k (bU.2 h),cW h]
set_option maxHeartbeats 2000000 in
theorem aA0 {op:List Ov} {x:Vb} {dn:Bool} (K:Tkf H l tp tc) (Wq:Fwf l ⟨q,op,x,true,dn⟩) (S:Sq H ⟨q,op,x,true,dn⟩ xo xv AR) (G:Gf H) (h0:q.er=0) (FE:Fex (⟨q,op,x,true,dn⟩:Ps)) (s:St H w0 (.box b [.slice tp l.length tc,iN q.i,ro,rv,.bool true,.bool dn,.bool x.2,iN q.off,iN q.er] 102::.row 97 11 (ro) (op.length) (xo)::.row 179 13 (rv) (x.1.length) (xv)::(AR++bs)) W) :
 Calls prg 55 #[.pointer (some ⟨b,0,none⟩)] W (Get w0 bs b l tp tc H (fQ l ⟨q,op,x,true,dn⟩)):=by
 have hq:q.i<l.length:=Wq.i;have hcap:=K.rep.cap;refine fN func55 rfl ntmps55 rfl s ?_;refine .sm Z<|.cs (X:=Unit) tP Z (λW s=>yL K hq  (s.pickT (hd:=[_,_,_]) (tl:=(AR++bs)) (hd':=[_,_,_]) [0,1,2] Z Z)) Z λ_ _=>.al xZ Z λb2=>.sW .head Z Z yB (by simp [cTk,Value.oneCell',bV]) Z<|.nt<|.sq<|.cu (X:=Bool) [(0,_),(2,_)] ⟨Z,Z,Jt⟩ (λz=>[(14,.bool z)]) (λz=>H) (λz=>(.box b2 (cTk .u8 (tkf l q.i)) 108::.box b [.slice tp l.length tc,iN q.i,ro,rv,.bool true,.bool dn,.bool x.2,iN q.off,iN q.er] 102::.row 97 11 (ro) (op.length) (xo)::.row 179 13 (rv) (x.1.length) (xv)::(AR++bs))) (λz=>z=(decide ((tkf l q.i).k=2) || decide ((tkf l q.i).k=4))) ?_ λz hC=>?_
 ·
  refine .rg<|.fA Z jY<|.lD Z oS Hm Z<|.yw (.eql Z Z)<|.mv Z<|.b2 (λh10=>?_) (λh10=>?_)
  ·exact .gG<|.gG<|.gG<|.yw (.pickT Z Z)<|.nt<|.me _ ⟨Z,Jt⟩ ⟨Z,Z,Jt⟩ (λ_ s=>s) (by first | (rw [<-k82,<-k84,h11,Bool.true_or]) | (rw [<-k82,<-k84,h11,aL]) | (rw [<-k82,<-k84,h10,Bool.true_or]) | (rw [<-k82,<-k84,h10,aL]))
  exact .gy (.fieldAddr Z jY)<|.gy (.load Z oS Hm Z)<|.gy (.eql Z Z)<|.yw (.pickF Z Z)<|.nt<|.me _ ⟨Z,Jt⟩ ⟨Z,Z,Jt⟩ (λ_ s=>s) (by first | (rw [<-k82,<-k84,h11,Bool.true_or]) | (rw [<-k82,<-k84,h11,aL]) | (rw [<-k82,<-k84,h10,Bool.true_or]) | (rw [<-k82,<-k84,h10,aL]))
 have e14:=hC;refine .cd Z (λh14=>?_) (λh14=>?_)
 ·have hk24:(tkf l q.i).k=2\/(tkf l q.i).k=4:=by
   rw [h14] at e14;rcases aT _ _ |>.mp e14.symm with h | h
   ·exact .inl (aJ h)
   ·exact .inr (aJ h)
  refine .sr<|.yw (.loadMW Z aW0 G.syms Z)<|.mv Z<|.nt<|.bk<|.lp (X:=Nat) [(0,_),(2,_),(15,_)] ⟨Z,Z,Z,Jt⟩ ((AR++bs)) (λk=>[(16,iN k)]) (λk=>H) (λk=>[.box b2 (cTk .u8 (tkf l q.i)) 108,.box b [.slice tp l.length tc,iN q.i,ro,rv,.bool true,.bool dn,.bool x.2,iN q.off,iN q.er] 102,.row 97 11 (ro) (op.length) (xo),.row 179 13 (rv) (x.1.length) (xv)]) (λk=>k<=22/\∀ j,j<k->KO (tkf l q.i).t j=false) (λk=>22 - k) 0 (λ_ s=>s) ⟨Z,Jt⟩ ⟨by decide,λj h=>by omega⟩ λk hC=>?_
  obtain ⟨hk0,hpk⟩:=hC;refine .sr<|.yw (.lss Z Z)<|.nt<|.sq<|.ce Z (λh17=>?_) (λh17=>?_)
  ·have hk:k<22:=by omega
   refine .sk<|.tN<|.sq<|.bk<|.sm Z<|.yw (.idxA JU aV7 Z Z Z (by omega) (uD (by show k<22;omega) []))<|.a Z Z<|.a Z Z<|.ns<|.mv Z<|.fA Z lH<|.lD Z cP Hm Z<|.yw (.eqS Z Z)<|.mv Z<|.b2 (λh24=>?_) (λh24=>?_)
   ·have q24:kO.getD k []=(tkf l q.i).t:=aJ h24;refine .gy (.move Z)<|.gy (.neq Z Z)<|.yw (.pickT Z Z)<|.nt<|.cd Z (λh27=>?_) (λh27=>?_)
    ·have hyk:KO (tkf l q.i).t k=true:=by unfold KO;rw [aF q24,aF (show ¬ k=0 by have:=aJ h27;omega)];rfl
     have hsy:q.sym l=some k:=by unfold Rq.sym;rw [aM hk24];exact aM1 hk hyk hpk
     have hac:=(ZN K.gd.last h0 hsy).1;refine .sm Z<|.mv Z<|.yw (.conv Z rU rT (c:=(((UInt8.ofNat k).toNat:Nat):Int)) (cG0 (by omega)))<|.cs (X:=Hp × Value × Value × List Value × List Value × List Res) aS5 Z (λW s=>aR2 K Wq S (UInt8.ofNat k) (cC K.gd.last hq hac) (St.mid (a:=[_,_,_]) (d:=[_]) (s.pickT (hd:=[_,_,_,_]) (tl:=(AR++bs)) (hd':=[_,_,_,_]) [1,2,3,0] Z Z))) Z λz9 hz9=>?_
     obtain ⟨H1,ro,rv,xo,xv,AR⟩:=z9;obtain ⟨u1,S⟩:=hz9;dsimp only at u1 S|-;refine Sx.reSt (λW s=>St.mid (a:=[_,_,_]) (d:=AR) (c:=[_]) s) ?_;refine .zR<|.tR<|.bR<|.tR<|?_
     refine y7 Z .nil rfl λW s=>?_;have e0:fQ l (⟨q,op,x,true,dn⟩:Ps)=sD l (UInt8.ofNat k) (⟨q,op,x,true,dn⟩:Ps):=by unfold fQ;rw [hsy]
     rw [e0];exact ⟨(_,_,_,_,_,AR),⟨u1,⟨S.ops,S.vls⟩⟩,Z,s.pickT (hd:=[_,_,_,_]) (tl:=(AR++bs)) (hd':=[_,_,_]) [0,1,2] rfl rfl⟩
    have hnk:KO (tkf l q.i).t k=false:=by unfold KO;rw [aI (show ¬ ¬ k=0 by have:=aO h27;omega),Bool.and_false]
    exact .sk<|.bN<|.tN<|.rg<|.yw (.add Z Z w7)<|.mv Z<|.nt<|.ag (k+1) ⟨Z,Jt⟩ ⟨Z,Z,Z,Jt⟩ (λ_ s=>s) ⟨by omega,YJ hpk hnk⟩ (by omega)
   have hnk:KO (tkf l q.i).t k=false:=by unfold KO;rw [aI (aO h24)];rfl
   exact .gG<|.gG<|.yw (.pickF Z Z)<|.nt<|.cF Z<|.sk<|.bN<|.tN<|.rg<|.yw (.add Z Z w7)<|.mv Z<|.nt<|.ag (k+1) ⟨Z,Jt⟩ ⟨Z,Z,Z,Jt⟩ (λ_ s=>s) ⟨by omega,YJ hpk hnk⟩ (by omega)
  obtain rfl:k=22:=by omega
  have hsy:q.sym l=none:=by unfold Rq.sym;rw [aM hk24];exact aM2 hpk
  refine .ex<|.eb<|.bk<|.cu (X:=Bool) [(0,_),(2,_)] ⟨Z,Z,Jt⟩ (λz=>[(35,.bool z)]) (λz=>H) (λz=>(.box b2 (cTk .u8 (tkf l q.i)) 108::.box b [.slice tp l.length tc,iN q.i,ro,rv,.bool true,.bool dn,.bool x.2,iN q.off,iN q.er] 102::.row 97 11 (ro) (op.length) (xo)::.row 179 13 (rv) (x.1.length) (xv)::(AR++bs))) (λz=>z=q.wrd l) ?_ λz hC=>?_
  ·
   refine .sm Z<|.cs (X:=Unit) kI Z (λW s=>FL K hq [115,105,110,99,101] (s.pickT (hd:=[_,_,_,_]) (tl:=(AR++bs)) (hd':=[_,_,_,_]) [1,0,2,3] Z Z)) Z λ_ _=>.aq Z<|.cd Z (λh35=>?_) (λh35=>?_)
   ·have i1:=h35;exact .sk<|.tN<|.me _ ⟨Z,Jt⟩ ⟨Z,Z,Jt⟩ (λ_ s=>(s.pickT (hd:=[_,_,_,_]) (tl:=(AR++bs)) (hd':=[_,_,_,_]) [1,0,2,3] Z Z)) (by unfold Rq.wrd;first | simp only [i1,i2,i3,aL,Bool.true_or,Bool.or_true,Bool.or_false] | simp only [i1,i2,aL,Bool.true_or,Bool.or_true] | simp only [i1,aL,Bool.true_or,Bool.or_true])
   have i1:=h35;refine .sm Z<|.cs (X:=Unit) kI Z (λW s=>FL K hq [97,110,100] (s.pickT (hd:=[_,_,_,_]) (tl:=(AR++bs)) (hd':=[_,_,_,_]) [0,1,2,3] Z Z)) Z λ_ _=>.aq Z<|.cd Z (λh35=>?_) (λh35=>?_)
   ·have i2:=h35;exact .sk<|.tN<|.me _ ⟨Z,Jt⟩ ⟨Z,Z,Jt⟩ (λ_ s=>(s.pickT (hd:=[_,_,_,_]) (tl:=(AR++bs)) (hd':=[_,_,_,_]) [1,0,2,3] Z Z)) (by unfold Rq.wrd;first | simp only [i1,i2,i3,aL,Bool.true_or,Bool.or_true,Bool.or_false] | simp only [i1,i2,aL,Bool.true_or,Bool.or_true] | simp only [i1,aL,Bool.true_or,Bool.or_true])
   have i2:=h35;refine .sm Z<|.cs (X:=Unit) kI Z (λW s=>FL K hq [111,114] (s.pickT (hd:=[_,_,_,_]) (tl:=(AR++bs)) (hd':=[_,_,_,_]) [0,1,2,3] Z Z)) Z λ_ _=>.aq Z<|.cd Z (λh35=>?_) (λh35=>?_)
   ·have i3:=h35;exact .sk<|.tN<|.me _ ⟨Z,Jt⟩ ⟨Z,Z,Jt⟩ (λ_ s=>(s.pickT (hd:=[_,_,_,_]) (tl:=(AR++bs)) (hd':=[_,_,_,_]) [1,0,2,3] Z Z)) (by unfold Rq.wrd;first | simp only [i1,i2,i3,aL,Bool.true_or,Bool.or_true,Bool.or_false] | simp only [i1,i2,aL,Bool.true_or,Bool.or_true] | simp only [i1,aL,Bool.true_or,Bool.or_true])
   have i3:=h35;exact .rg<|.mv Z<|.cs (X:=Unit) kI Z (λW s=>FL K hq [105,109,112,108,105,101,115] (s.pickT (hd:=[_,_,_,_]) (tl:=(AR++bs)) (hd':=[_,_,_,_]) [0,1,2,3] Z Z)) Z λ_ _=>.aq Z<|.me _ ⟨Z,Jt⟩ ⟨Z,Z,Jt⟩ (λ_ s=>(s.pickT (hd:=[_,_,_,_]) (tl:=(AR++bs)) (hd':=[_,_,_,_]) [1,0,2,3] Z Z)) (by unfold Rq.wrd;first | simp only [i1,i2,i3,aL,Bool.true_or,Bool.or_true,Bool.or_false] | simp only [i1,i2,aL,Bool.true_or,Bool.or_true] | simp only [i1,aL,Bool.true_or,Bool.or_true])
  have ew:=hC;refine .cd Z (λh35=>?_) (λh35=>?_)
  ·have w35:=h35;refine .rg<|.mv Z<|.cs (X:=Hp × Value × Value × List Value × List Value × List Res) OL Z (λW s=>bE6 K Wq S G h0 (by rw [<-ew];exact w35) (St.mid (a:=[_,_,_]) (d:=[_]) (s.pickT (hd:=[_,_,_,_]) (tl:=(AR++bs)) (hd':=[_,_,_,_]) [1,2,3,0] Z Z))) Z λz9 hz9=>?_
   obtain ⟨H1,ro,rv,xo,xv,AR⟩:=z9;obtain ⟨u1,S⟩:=hz9;dsimp only at u1 S|-;refine Sx.reSt (λW s=>St.mid (a:=[_,_,_]) (d:=AR) (c:=[_]) s) ?_;refine .nl<|.bN<|?_
   refine jE (.inr Z) rfl .nil rfl λW s=>?_;have e0:fQ l (⟨q,op,x,true,dn⟩:Ps)=qV l (⟨q,op,x,true,dn⟩:Ps):=by unfold fQ;rw [show q.sym l=none from hsy]
   rw [e0];have e1:qV l (⟨q,op,x,true,dn⟩:Ps)=xU l (⟨q,op,x,true,dn⟩:Ps):=by unfold qV;exact aM (by rw [<-ew];exact w35)
   rw [e1];exact ⟨(_,_,_,_,_,AR),⟨u1,⟨S.ops,S.vls⟩⟩,Z,s.pickT (hd:=[_,_,_,_]) (tl:=(AR++bs)) (hd':=[_,_,_]) [0,1,2] rfl rfl⟩
  have w35:=h35;refine .cu (X:=Bool) [(0,_)] ⟨Z,Jt⟩ (λz=>[(46,.bool z)]) (λz=>H) (λz=>(.box b2 (cTk .u8 (tkf l q.i)) 108::.box b [.slice tp l.length tc,iN q.i,ro,rv,.bool true,.bool dn,.bool x.2,iN q.off,iN q.er] 102::.row 97 11 (ro) (op.length) (xo)::.row 179 13 (rv) (x.1.length) (xv)::(AR++bs))) (λz=>z=q.endB l) ?_ λz hC=>?_
  ·
   refine .sm Z<|.cs (X:=Unit) kI Z (λW s=>FL K hq [41] (s.pickT (hd:=[_,_,_,_]) (tl:=(AR++bs)) (hd':=[_,_,_,_]) [1,0,2,3] Z Z)) Z λ_ _=>.aq Z<|.cd Z (λh46=>?_) (λh46=>?_)
   ·have j1:=h46;exact .sk<|.tN<|.me _ ⟨Z,Jt⟩ ⟨Z,Jt⟩ (λ_ s=>(s.pickT (hd:=[_,_,_,_]) (tl:=(AR++bs)) (hd':=[_,_,_,_]) [1,0,2,3] Z Z)) (by unfold Rq.endB;rw [<-k80];first | simp only [j1,j2,j3,aL,Bool.true_or,Bool.or_true,Bool.or_false] | simp only [j1,j2,aL,Bool.true_or,Bool.or_true] | simp only [j1,aL,Bool.true_or,Bool.or_true])
   have j1:=h46;refine .sm Z<|.cs (X:=Unit) kI Z (λW s=>FL K hq [93] (s.pickT (hd:=[_,_,_,_]) (tl:=(AR++bs)) (hd':=[_,_,_,_]) [0,1,2,3] Z Z)) Z λ_ _=>.aq Z<|.cd Z (λh46=>?_) (λh46=>?_)
   ·have j2:=h46;exact .sk<|.tN<|.me _ ⟨Z,Jt⟩ ⟨Z,Jt⟩ (λ_ s=>(s.pickT (hd:=[_,_,_,_]) (tl:=(AR++bs)) (hd':=[_,_,_,_]) [1,0,2,3] Z Z)) (by unfold Rq.endB;rw [<-k80];first | simp only [j1,j2,j3,aL,Bool.true_or,Bool.or_true,Bool.or_false] | simp only [j1,j2,aL,Bool.true_or,Bool.or_true] | simp only [j1,aL,Bool.true_or,Bool.or_true])
   have j2:=h46;refine .sm Z<|.cs (X:=Unit) kI Z (λW s=>FL K hq [44] (s.pickT (hd:=[_,_,_,_]) (tl:=(AR++bs)) (hd':=[_,_,_,_]) [0,1,2,3] Z Z)) Z λ_ _=>.aq Z<|.cd Z (λh46=>?_) (λh46=>?_)
   ·have j3:=h46;exact .sk<|.tN<|.me _ ⟨Z,Jt⟩ ⟨Z,Jt⟩ (λ_ s=>(s.pickT (hd:=[_,_,_,_]) (tl:=(AR++bs)) (hd':=[_,_,_,_]) [1,0,2,3] Z Z)) (by unfold Rq.endB;rw [<-k80];first | simp only [j1,j2,j3,aL,Bool.true_or,Bool.or_true,Bool.or_false] | simp only [j1,j2,aL,Bool.true_or,Bool.or_true] | simp only [j1,aL,Bool.true_or,Bool.or_true])
   have j3:=h46;exact .rg<|.fA Z jY<|.lD Z oS cR Z<|.yw (.eql Z Z)<|.aq Z<|.me _ ⟨Z,Jt⟩ ⟨Z,Jt⟩ (λ_ s=>(s.pickT (hd:=[_,_,_,_]) (tl:=(AR++bs)) (hd':=[_,_,_,_]) [1,0,2,3] Z Z)) (by unfold Rq.endB;rw [<-k80];first | simp only [j1,j2,j3,aL,Bool.true_or,Bool.or_true,Bool.or_false] | simp only [j1,j2,aL,Bool.true_or,Bool.or_true] | simp only [j1,aL,Bool.true_or,Bool.or_true])
  have ee:=hC;refine .cd Z (λh46=>?_) (λh46=>?_)
  ·have w46:=h46;refine .sm Z<|.cs (X:=Hp × Value × Value × List Value × List Value × List Res) pO Z (λW s=>uB K Wq S 1 (by omega) (St.mid (a:=[_,_,_]) (d:=[_]) (s.pickT (hd:=[_,_,_,_]) (tl:=(AR++bs)) (hd':=[_,_,_,_]) [1,2,3,0] Z Z))) Z λz9 hz9=>?_
   obtain ⟨H1,ro,rv,xo,xv,AR⟩:=z9;obtain ⟨u1,S⟩:=hz9;dsimp only at u1 S|-;refine Sx.reSt (λW s=>St.mid (a:=[_,_,_]) (d:=AR) (c:=[_]) s) ?_;obtain ⟨op7,x7,e7⟩:∃ op7 x7,kK 1 ((⟨q,op,x,true,dn⟩:Ps):Ps)=⟨q,op7,x7,true,dn⟩:=⟨_,_,Z⟩;rw [e7] at S|-;dsimp only at S|-;have W7:Fwf l ⟨q,op7,x7,true,dn⟩:=by rw [<-e7];exact uS (by omega) Wq rfl
   obtain ⟨hm1,hm2⟩:=pD W7 K.few;dsimp only at hm1 hm2;have hne7:op7≠[]:=W7.ne;have FE1:Fex (⟨q,op7,x7,true,dn⟩:Ps):=by rw [<-e7];exact AU FE
   refine .nt<|.rg<|.mv Z<|.cs (X:=Hp × Value × Value × List Value × List Value × List Res) OJ Z (λW s=>RI (K.up u1.up) W7 S (λz hz=>aV (FE1 z hz) (aV (pW hq) K.few)) (St.mid (a:=[_,_,_]) (d:=[_]) (s.pickT (hd:=[_,_,_,_]) (tl:=(AR++bs)) (hd':=[_,_,_,_]) [0,1,2,3] Z Z))) Z λz9 hz9=>?_
   obtain ⟨H2,ro,rv,xo,xv,AR⟩:=z9;obtain ⟨u2,S⟩:=hz9;dsimp only at u2 S|-;refine Sx.reSt (λW s=>St.mid (a:=[_,_,_]) (d:=AR) (c:=[_]) s) ?_;refine .nl<|.bN<|?_
   refine jE (.inr Z) rfl .nil rfl λW s=>?_;have e0:fQ l (⟨q,op,x,true,dn⟩:Ps)=qV l (⟨q,op,x,true,dn⟩:Ps):=by unfold fQ;rw [show q.sym l=none from hsy]
   rw [e0];have e1:qV l (⟨q,op,x,true,dn⟩:Ps)=mR l (⟨q,op7,x7,true,dn⟩:Ps):=by unfold qV;rw [aD (show ¬ q.wrd l=true by rw [<-ew,w35];decide),aM (show q.endB l=true by rw [<-ee];exact w46),e7]
   rw [e1];exact ⟨(_,_,_,_,_,AR),⟨(u1.trans u2),⟨S.ops,S.vls⟩⟩,Z,s.pickT (hd:=[_,_,_,_]) (tl:=(AR++bs)) (hd':=[_,_,_]) [0,1,2] rfl rfl⟩
  have w46:=h46;refine .rg<|.mv Z<|.cs (X:=Unit) jG Z (λW s=>qZ K hq 8 (s.pickT (hd:=[_,_,_,_]) (tl:=(AR++bs)) (hd':=[_,_,_,_]) [1,0,2,3] Z Z)) Z λ_ _=>.nl<|.bN<|?_
  refine jE (.inr Z) rfl .nil rfl λW s=>?_;have e0:fQ l (⟨q,op,x,true,dn⟩:Ps)=qV l (⟨q,op,x,true,dn⟩:Ps):=by unfold fQ;rw [show q.sym l=none from hsy]
  rw [e0];have e1:qV l (⟨q,op,x,true,dn⟩:Ps)=(⟨q,op,x,true,dn⟩:Ps).at (q.fail l 8):=by unfold qV;rw [aD (show ¬ q.wrd l=true by rw [<-ew,w35];decide),aD (show ¬ q.endB l=true by rw [<-ee,w46];decide)]
  rw [e1];exact ⟨(_,_,_,_,_,AR),⟨.refl,⟨S.ops,S.vls⟩⟩,Z,s.pickT (hd:=[_,_,_,_]) (tl:=(AR++bs)) (hd':=[_,_,_]) [0,2,3] rfl rfl⟩
 have hk24:¬ ((tkf l q.i).k=2\/(tkf l q.i).k=4):=λh=>by
  rw [h14] at e14;rcases h with h | h <;> rw [h] at e14 <;> simp at e14
 have hsy:q.sym l=none:=by unfold Rq.sym;rw [aD hk24]
 refine .sk<|.tN<|.bk<|.cu (X:=Bool) [(0,_),(2,_)] ⟨Z,Z,Jt⟩ (λz=>[(35,.bool z)]) (λz=>H) (λz=>(.box b2 (cTk .u8 (tkf l q.i)) 108::.box b [.slice tp l.length tc,iN q.i,ro,rv,.bool true,.bool dn,.bool x.2,iN q.off,iN q.er] 102::.row 97 11 (ro) (op.length) (xo)::.row 179 13 (rv) (x.1.length) (xv)::(AR++bs))) (λz=>z=q.wrd l) ?_ λz hC=>?_
 ·
  refine .sm Z<|.cs (X:=Unit) kI Z (λW s=>FL K hq [115,105,110,99,101] (s.pickT (hd:=[_,_,_,_]) (tl:=(AR++bs)) (hd':=[_,_,_,_]) [1,0,2,3] Z Z)) Z λ_ _=>.aq Z<|.cd Z (λh35=>?_) (λh35=>?_)
  ·have i1:=h35;exact .sk<|.tN<|.me _ ⟨Z,Jt⟩ ⟨Z,Z,Jt⟩ (λ_ s=>(s.pickT (hd:=[_,_,_,_]) (tl:=(AR++bs)) (hd':=[_,_,_,_]) [1,0,2,3] Z Z)) (by unfold Rq.wrd;first | simp only [i1,i2,i3,aL,Bool.true_or,Bool.or_true,Bool.or_false] | simp only [i1,i2,aL,Bool.true_or,Bool.or_true] | simp only [i1,aL,Bool.true_or,Bool.or_true])
  have i1:=h35;refine .sm Z<|.cs (X:=Unit) kI Z (λW s=>FL K hq [97,110,100] (s.pickT (hd:=[_,_,_,_]) (tl:=(AR++bs)) (hd':=[_,_,_,_]) [0,1,2,3] Z Z)) Z λ_ _=>.aq Z<|.cd Z (λh35=>?_) (λh35=>?_)
  ·have i2:=h35;exact .sk<|.tN<|.me _ ⟨Z,Jt⟩ ⟨Z,Z,Jt⟩ (λ_ s=>(s.pickT (hd:=[_,_,_,_]) (tl:=(AR++bs)) (hd':=[_,_,_,_]) [1,0,2,3] Z Z)) (by unfold Rq.wrd;first | simp only [i1,i2,i3,aL,Bool.true_or,Bool.or_true,Bool.or_false] | simp only [i1,i2,aL,Bool.true_or,Bool.or_true] | simp only [i1,aL,Bool.true_or,Bool.or_true])
  have i2:=h35;refine .sm Z<|.cs (X:=Unit) kI Z (λW s=>FL K hq [111,114] (s.pickT (hd:=[_,_,_,_]) (tl:=(AR++bs)) (hd':=[_,_,_,_]) [0,1,2,3] Z Z)) Z λ_ _=>.aq Z<|.cd Z (λh35=>?_) (λh35=>?_)
  ·have i3:=h35;exact .sk<|.tN<|.me _ ⟨Z,Jt⟩ ⟨Z,Z,Jt⟩ (λ_ s=>(s.pickT (hd:=[_,_,_,_]) (tl:=(AR++bs)) (hd':=[_,_,_,_]) [1,0,2,3] Z Z)) (by unfold Rq.wrd;first | simp only [i1,i2,i3,aL,Bool.true_or,Bool.or_true,Bool.or_false] | simp only [i1,i2,aL,Bool.true_or,Bool.or_true] | simp only [i1,aL,Bool.true_or,Bool.or_true])
  have i3:=h35;exact .rg<|.mv Z<|.cs (X:=Unit) kI Z (λW s=>FL K hq [105,109,112,108,105,101,115] (s.pickT (hd:=[_,_,_,_]) (tl:=(AR++bs)) (hd':=[_,_,_,_]) [0,1,2,3] Z Z)) Z λ_ _=>.aq Z<|.me _ ⟨Z,Jt⟩ ⟨Z,Z,Jt⟩ (λ_ s=>(s.pickT (hd:=[_,_,_,_]) (tl:=(AR++bs)) (hd':=[_,_,_,_]) [1,0,2,3] Z Z)) (by unfold Rq.wrd;first | simp only [i1,i2,i3,aL,Bool.true_or,Bool.or_true,Bool.or_false] | simp only [i1,i2,aL,Bool.true_or,Bool.or_true] | simp only [i1,aL,Bool.true_or,Bool.or_true])
 have ew:=hC;refine .cd Z (λh35=>?_) (λh35=>?_)
 ·have w35:=h35;refine .rg<|.mv Z<|.cs (X:=Hp × Value × Value × List Value × List Value × List Res) OL Z (λW s=>bE6 K Wq S G h0 (by rw [<-ew];exact w35) (St.mid (a:=[_,_,_]) (d:=[_]) (s.pickT (hd:=[_,_,_,_]) (tl:=(AR++bs)) (hd':=[_,_,_,_]) [1,2,3,0] Z Z))) Z λz9 hz9=>?_
  obtain ⟨H1,ro,rv,xo,xv,AR⟩:=z9;obtain ⟨u1,S⟩:=hz9;dsimp only at u1 S|-;refine Sx.reSt (λW s=>St.mid (a:=[_,_,_]) (d:=AR) (c:=[_]) s) ?_;refine .nl<|.bN<|?_
  refine jE (.inr Z) rfl .nil rfl λW s=>?_;have e0:fQ l (⟨q,op,x,true,dn⟩:Ps)=qV l (⟨q,op,x,true,dn⟩:Ps):=by unfold fQ;rw [show q.sym l=none from hsy]
  rw [e0];have e1:qV l (⟨q,op,x,true,dn⟩:Ps)=xU l (⟨q,op,x,true,dn⟩:Ps):=by unfold qV;exact aM (by rw [<-ew];exact w35)
  rw [e1];exact ⟨(_,_,_,_,_,AR),⟨u1,⟨S.ops,S.vls⟩⟩,Z,s.pickT (hd:=[_,_,_,_]) (tl:=(AR++bs)) (hd':=[_,_,_]) [0,1,2] rfl rfl⟩
 have w35:=h35;refine .cu (X:=Bool) [(0,_)] ⟨Z,Jt⟩ (λz=>[(46,.bool z)]) (λz=>H) (λz=>(.box b2 (cTk .u8 (tkf l q.i)) 108::.box b [.slice tp l.length tc,iN q.i,ro,rv,.bool true,.bool dn,.bool x.2,iN q.off,iN q.er] 102::.row 97 11 (ro) (op.length) (xo)::.row 179 13 (rv) (x.1.length) (xv)::(AR++bs))) (λz=>z=q.endB l) ?_ λz hC=>?_
 ·
  refine .sm Z<|.cs (X:=Unit) kI Z (λW s=>FL K hq [41] (s.pickT (hd:=[_,_,_,_]) (tl:=(AR++bs)) (hd':=[_,_,_,_]) [1,0,2,3] Z Z)) Z λ_ _=>.aq Z<|.cd Z (λh46=>?_) (λh46=>?_)
  ·have j1:=h46;exact .sk<|.tN<|.me _ ⟨Z,Jt⟩ ⟨Z,Jt⟩ (λ_ s=>(s.pickT (hd:=[_,_,_,_]) (tl:=(AR++bs)) (hd':=[_,_,_,_]) [1,0,2,3] Z Z)) (by unfold Rq.endB;rw [<-k80];first | simp only [j1,j2,j3,aL,Bool.true_or,Bool.or_true,Bool.or_false] | simp only [j1,j2,aL,Bool.true_or,Bool.or_true] | simp only [j1,aL,Bool.true_or,Bool.or_true])
  have j1:=h46;refine .sm Z<|.cs (X:=Unit) kI Z (λW s=>FL K hq [93] (s.pickT (hd:=[_,_,_,_]) (tl:=(AR++bs)) (hd':=[_,_,_,_]) [0,1,2,3] Z Z)) Z λ_ _=>.aq Z<|.cd Z (λh46=>?_) (λh46=>?_)
  ·have j2:=h46;exact .sk<|.tN<|.me _ ⟨Z,Jt⟩ ⟨Z,Jt⟩ (λ_ s=>(s.pickT (hd:=[_,_,_,_]) (tl:=(AR++bs)) (hd':=[_,_,_,_]) [1,0,2,3] Z Z)) (by unfold Rq.endB;rw [<-k80];first | simp only [j1,j2,j3,aL,Bool.true_or,Bool.or_true,Bool.or_false] | simp only [j1,j2,aL,Bool.true_or,Bool.or_true] | simp only [j1,aL,Bool.true_or,Bool.or_true])
  have j2:=h46;refine .sm Z<|.cs (X:=Unit) kI Z (λW s=>FL K hq [44] (s.pickT (hd:=[_,_,_,_]) (tl:=(AR++bs)) (hd':=[_,_,_,_]) [0,1,2,3] Z Z)) Z λ_ _=>.aq Z<|.cd Z (λh46=>?_) (λh46=>?_)
  ·have j3:=h46;exact .sk<|.tN<|.me _ ⟨Z,Jt⟩ ⟨Z,Jt⟩ (λ_ s=>(s.pickT (hd:=[_,_,_,_]) (tl:=(AR++bs)) (hd':=[_,_,_,_]) [1,0,2,3] Z Z)) (by unfold Rq.endB;rw [<-k80];first | simp only [j1,j2,j3,aL,Bool.true_or,Bool.or_true,Bool.or_false] | simp only [j1,j2,aL,Bool.true_or,Bool.or_true] | simp only [j1,aL,Bool.true_or,Bool.or_true])
  have j3:=h46;exact .rg<|.fA Z jY<|.lD Z oS cR Z<|.yw (.eql Z Z)<|.aq Z<|.me _ ⟨Z,Jt⟩ ⟨Z,Jt⟩ (λ_ s=>(s.pickT (hd:=[_,_,_,_]) (tl:=(AR++bs)) (hd':=[_,_,_,_]) [1,0,2,3] Z Z)) (by unfold Rq.endB;rw [<-k80];first | simp only [j1,j2,j3,aL,Bool.true_or,Bool.or_true,Bool.or_false] | simp only [j1,j2,aL,Bool.true_or,Bool.or_true] | simp only [j1,aL,Bool.true_or,Bool.or_true])
 have ee:=hC;refine .cd Z (λh46=>?_) (λh46=>?_)
 ·have w46:=h46;refine .sm Z<|.cs (X:=Hp × Value × Value × List Value × List Value × List Res) pO Z (λW s=>uB K Wq S 1 (by omega) (St.mid (a:=[_,_,_]) (d:=[_]) (s.pickT (hd:=[_,_,_,_]) (tl:=(AR++bs)) (hd':=[_,_,_,_]) [1,2,3,0] Z Z))) Z λz9 hz9=>?_
  obtain ⟨H1,ro,rv,xo,xv,AR⟩:=z9;obtain ⟨u1,S⟩:=hz9;dsimp only at u1 S|-;refine Sx.reSt (λW s=>St.mid (a:=[_,_,_]) (d:=AR) (c:=[_]) s) ?_;obtain ⟨op7,x7,e7⟩:∃ op7 x7,kK 1 ((⟨q,op,x,true,dn⟩:Ps):Ps)=⟨q,op7,x7,true,dn⟩:=⟨_,_,Z⟩;rw [e7] at S|-;dsimp only at S|-;have W7:Fwf l ⟨q,op7,x7,true,dn⟩:=by rw [<-e7];exact uS (by omega) Wq rfl
  obtain ⟨hm1,hm2⟩:=pD W7 K.few;dsimp only at hm1 hm2;have hne7:op7≠[]:=W7.ne;have FE1:Fex (⟨q,op7,x7,true,dn⟩:Ps):=by rw [<-e7];exact AU FE
  refine .nt<|.rg<|.mv Z<|.cs (X:=Hp × Value × Value × List Value × List Value × List Res) OJ Z (λW s=>RI (K.up u1.up) W7 S (λz hz=>aV (FE1 z hz) (aV (pW hq) K.few)) (St.mid (a:=[_,_,_]) (d:=[_]) (s.pickT (hd:=[_,_,_,_]) (tl:=(AR++bs)) (hd':=[_,_,_,_]) [0,1,2,3] Z Z))) Z λz9 hz9=>?_
  obtain ⟨H2,ro,rv,xo,xv,AR⟩:=z9;obtain ⟨u2,S⟩:=hz9;dsimp only at u2 S|-;refine Sx.reSt (λW s=>St.mid (a:=[_,_,_]) (d:=AR) (c:=[_]) s) ?_;refine .nl<|.bN<|?_
  refine jE (.inr Z) rfl .nil rfl λW s=>?_;have e0:fQ l (⟨q,op,x,true,dn⟩:Ps)=qV l (⟨q,op,x,true,dn⟩:Ps):=by unfold fQ;rw [show q.sym l=none from hsy]
  rw [e0];have e1:qV l (⟨q,op,x,true,dn⟩:Ps)=mR l (⟨q,op7,x7,true,dn⟩:Ps):=by unfold qV;rw [aD (show ¬ q.wrd l=true by rw [<-ew,w35];decide),aM (show q.endB l=true by rw [<-ee];exact w46),e7]
  rw [e1];exact ⟨(_,_,_,_,_,AR),⟨(u1.trans u2),⟨S.ops,S.vls⟩⟩,Z,s.pickT (hd:=[_,_,_,_]) (tl:=(AR++bs)) (hd':=[_,_,_]) [0,1,2] rfl rfl⟩
 have w46:=h46;refine .rg<|.mv Z<|.cs (X:=Unit) jG Z (λW s=>qZ K hq 8 (s.pickT (hd:=[_,_,_,_]) (tl:=(AR++bs)) (hd':=[_,_,_,_]) [1,0,2,3] Z Z)) Z λ_ _=>.nl<|.bN<|?_
 refine jE (.inr Z) rfl .nil rfl λW s=>?_;have e0:fQ l (⟨q,op,x,true,dn⟩:Ps)=qV l (⟨q,op,x,true,dn⟩:Ps):=by unfold fQ;rw [show q.sym l=none from hsy]
 rw [e0];have e1:qV l (⟨q,op,x,true,dn⟩:Ps)=(⟨q,op,x,true,dn⟩:Ps).at (q.fail l 8):=by unfold qV;rw [aD (show ¬ q.wrd l=true by rw [<-ew,w35];decide),aD (show ¬ q.endB l=true by rw [<-ee,w46];decide)]
 rw [e1];exact ⟨(_,_,_,_,_,AR),⟨.refl,⟨S.ops,S.vls⟩⟩,Z,s.pickT (hd:=[_,_,_,_]) (tl:=(AR++bs)) (hd':=[_,_,_]) [0,2,3] rfl rfl⟩
end Go.Proofs.YtidclioghdbphaaGreatDoor
