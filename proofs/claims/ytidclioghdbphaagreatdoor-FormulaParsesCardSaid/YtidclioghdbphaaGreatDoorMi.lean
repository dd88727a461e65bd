/- Texts of the proof, one behind the other. -/
import Derived.Test.YtidclioghdbphaaGreatDoorMh
import Derived.Test.YtidclioghdbphaaGreatDoorTie
import Derived.ProofKit
import Derived.OpenShut
import Derived.ShutString
import Derived.Lay
import Derived.Stop.LaidErr
import Derived.Stop.Joined
import Derived.Shelf.Vars
import Derived.Lib.LaidTab
import Derived.Lib.SmallJoins
import Derived.SevenTiedAt
import Derived.Test.YtidclioghdbphaaGreatDoorCards
set_option linter.all false
set_option maxRecDepth 100000
namespace Go.Proofs.YtidclioghdbphaaGreatDoor
open Go.RowKit Go.Par Go.Sx _root_.Go.Proofs.Tryz
section
variable {l:Tks} {r r' ra m:Rq} {w w':Str} {i j:Nat}
def ndE (e:Ex):Fn:=if e.op=5 then (match eA e.nm with | some (a,b)=>⟨true,true,.mk 4 a b 0 0 [] [],e⟩ | none=>vlN e) else vlN e
theorem KH (e:Ex):(ndE e).e=e/\(ndE e).tm=true:=by
 unfold ndE
 split
 ·cases eA e.nm <;> exact ⟨Z,Z⟩
 ·exact ⟨Z,Z⟩
theorem cA5 {op:UInt8} {nm:Str} {n:Int64} {args:List Ex} (h:¬ op=5):ndE (.mk op nm n args)=vlN (.mk op nm n args):=aD h
def Td (l:Tks) (e:Ex):Prop:=∀ r r',Sps l r (tqT e) r'->Nx l (tlv e.op+4) r'->Rl l (tlv e.op+3) r (ndE e) r'
theorem LZ (op:UInt8):4<=tlv op:=by
 unfold tlv
 split
 ·omega
 split
 ·omega
 split <;> omega
theorem SS {a:Ex} (h:Td l a) {b:Bool} (hj:7<=j/\j<=9) (hb:b=false->j<=tlv a.op+3) (s:Sps l r (prQ b (tqT a)) r') (hx:Nx l (j+1) r'):Rl l j r (ndE a) r':=by
 have e:=(IS s).2;have h1:=LZ a.op;have h2:=SP a.op;cases b with
 | true =>
  have:=bZ3 (N:=ndE a) (show Sps l r ((4,[40])::(tqT a++[(4,[41])])) r' from s) λm sm hm=>(h _ _ sm (hm.up (by omega))).at (IS sm).2 (aW _) (by omega) (by omega) hm;exact this.to e (by omega) (by omega) (aW _) hx (λk=>by omega)
 | false =>
  have:=hb rfl;exact (h _ _ s (hx.up (by omega))).to e (by omega) this (by omega) hx (λk=>by omega)
theorem cD8 {p q:Prop} [Decidable p] (h:¬ p->q) (e:decide p=false):q:=h (aO e)
theorem bF5 {a b:Str} (t0:r.er=0/\kt (tkf l r.i)=(1,a)) (t2:r.nx.nx.er=0/\kt (tkf l r.nx.nx.i)=(1,b)):r.ful l=a++([46]:Str)++b:=by
 unfold Rq.ful;rw [YM t0,NW t0,NW t2]
theorem cI0 {nm:Str} (s:Sps l r (tqN nm) r') (hx:Nx l 11 r'):Gd l (.lev 10) r (ndE (.mk 5 nm 0 [])) false r':=by
 unfold tqN at s;unfold ndE;rw [aM (show (Ex.mk 5 nm 0 []).op=5 from rfl)];show Gd l (.lev 10) r (match eA nm with | some (a,b)=>⟨true,true,.mk 4 a b 0 0 [] [],.mk 5 nm 0 []⟩ | none=>vlN (.mk 5 nm 0 [])) false r';cases hs:eA nm with
 | none =>
  rw [hs] at s;obtain ⟨t0,e,rfl⟩:=s;have g:=Gd.nam0 t0.1 (XG t0.2) (hx.dot (by omega));rw [NW t0] at g;exact g
 | some x =>
  obtain ⟨a,b⟩:=x;rw [hs] at s;obtain ⟨t0,t1,t2,e,rfl⟩:=s;have e2:r.nx.nx.nmS l=r.nx.nx.nx:=YM t2;have g:=Gd.nam1 t0.1 (XG t0.2) (UZ t1 (.inr Z)) (by rw [e2];exact hx.brk (by omega));rw [e2,NW t0,NW t2,bF5 t0 t2,<-yN hs] at g;exact g
theorem cH3 {a b:Str} (t0:r.er=0/\kt (tkf l r.i)=(1,a)) (t1:r.nx.er=0/\kt (tkf l r.nx.i)=(4,[46])) (t2:r.nx.nx.er=0/\kt (tkf l r.nx.nx.i)=(1,b)):r.paS l=r.nx.nx.nx/\r.paN l=a/\r.paF l=b:=by
 unfold Rq.paS Rq.paN Rq.paF;rw [YM t0,NW t0,cF0 t1 (.inr Z),YM t2,NW t2];exact ⟨Z,Z,Z⟩
theorem bY4 (e:Ex):eL e=true->rQ e=false->Td l e:=by
 induction e using Ex.ind with
 | _ op nm n args ih =>
  intro h hm r r' s hx;obtain ⟨m1,m2,m3⟩:=cA6 hm;rw [cG1] at s;rcases ZD h with ⟨rfl,rfl,hn,rfl⟩ | ⟨rfl,rfl,rfl,rfl⟩ | ⟨ho,rfl,rfl⟩ | ⟨rfl,rfl,a,rfl,ha⟩ | ⟨rfl,rfl,rfl,a,rfl,ha⟩ | ⟨ho,rfl,rfl,a,b,rfl,ha,hb⟩
  ·obtain ⟨t0,e,rfl⟩:=s;have g:=Gd.num t0.1 (XG t0.2);have h1:=cN7 t0 hn;rw [h1.1,h1.2] at g;exact .of10 g
  ·obtain ⟨t0,e,rfl⟩:=s;exact .of10 (Gd.now (UZ t0 (.inl Z)))
  ·rcases ho with rfl | rfl
   ·exact .of10 (cI0 s hx)
   ·have hS:=m2 (.inr Z);obtain ⟨t0,s⟩:=(show Sps l r ((2,[115,105,122,101])::tqN nm) r' from s);unfold tqN at s;cases hs:eA nm with
    | none=>rw [hs] at hS;cases hS
    | some x =>
     obtain ⟨a,b⟩:=x;rw [hs] at s;obtain ⟨t1,t2,t3,e,rfl⟩:=s;have g:=Gd.siz (UZ t0 (.inl Z));obtain ⟨p1,p2,p3⟩:=cH3 t1 t2 t3;rw [p1,p2,p3] at g;have e3:=yN hs;rw [<-e3] at g;exact .of10 g
  ·have hS:=m2 (.inl Z);obtain ⟨m,s0,s⟩:=HA (show Sps l r (tqN nm++((4,[91])::(tqT a++[(4,[93])]))) r' from s);obtain ⟨t3,s⟩:=s;obtain ⟨m',s1,t4,e,rfl⟩:=HA s;unfold tqN at s0;cases hs:eA nm with
   | none=>rw [hs] at hS;cases hS
   | some x =>
    obtain ⟨p,q⟩:=x;rw [hs] at s0;obtain ⟨t0,t1,t2,e0,rfl⟩:=s0;have e2:r.nx.nx.nmS l=r.nx.nx.nx:=YM t2;have hx7:Nx l 7 m':=.tok t4 (by decide);have g1:=(ih a (by simp) ha (m3 a (by simp)) _ _ s1 (hx7.up (by have:=LZ a.op;omega))).at (IS s1).2 (by omega) (show 7<=tlv a.op+3 by have:=LZ a.op;omega) (by have:=SP a.op;omega) hx7;have g:=Gd.get t0.1 (XG t0.2) (UZ t1 (.inr Z)) (by rw [e2];exact UZ t3 (.inr Z)) (by rw [e2];exact g1);rw [bF5 t0 t2,(KH a).1,(KH a).2,cF0 t4 (.inr Z)] at g;rw [<-yN hs] at g;exact .of10 g
  ·obtain ⟨t0,s⟩:=(show Sps l r ((4,[45])::prQ (decide (tlv a.op<6)) (tqT a)) r' from s);have g1:=(SS (j:=9) (ih a (by simp) ha (m3 a (by simp))) (by decide) (cD8 (by omega)) s hx).full (Nx.n9 hx);have g:=Gd.neg (UZ t0 (.inr Z)) g1;rw [(KH a).1,(KH a).2] at g;exact ⟨λe=>absurd (show lpB 9 from e) (by unfold lpB;decide),λ_=>g⟩
  ·have ho2:op=11\/op=12\/op=13\/op=14\/op=15:=by simpa using ho
   have e1:tqO op [] 0 ([a,b].map λe=>(e.op,tqT e))=prQ (decide (tlv a.op<tlv op)) (tqT a)++(4,SW op)::prQ (decide (tlv b.op<tlv op+1)) (tqT b):=by
    rcases ho2 with rfl | rfl | rfl | rfl | rfl <;> rfl
   rw [e1] at s;obtain ⟨ra,sa,t0,sb⟩:=HA s;have hlv:tlv op=4\/tlv op=5:=by rcases ho2 with rfl | rfl | rfl | rfl | rfl <;> decide
   have hxa:Nx l (tlv op+3+1) ra:=.tok t0 (by rcases ho2 with rfl | rfl | rfl | rfl | rfl <;> decide);have A:=SS (j:=tlv op+3) (ih a (by simp) ha (m3 a (by simp))) (by omega) (cD8 (by omega)) sa hxa;have B:=(SS (j:=tlv op+3+1) (ih b (by simp) hb (m3 b (by simp))) (by omega) (cD8 (by omega)) sb (hx.up (Nat.le_succ _))).full hx;have hl:lpB (tlv op+3):=by unfold lpB;omega
   have hk:BB (tlv op+3) op.toNat:=by unfold BB;rcases ho2 with rfl | rfl | rfl | rfl | rfl <;> decide
   refine ⟨λ_ n m r2 g=>?_,λe=>absurd hl e⟩;have hy:ra.ac l (kO.getD op.toNat [])=true:=UZ t0 (.inr Z)
   have g':Gd l (.lp (tlv op+3) (vlN (opB op.toNat [(ndE a).e,(ndE b).e]))) r' n m r2:=by
    rw [(KH a).1,(KH b).1];unfold opB;rw [iH];rw [cA5 (by rcases ho2 with rfl | rfl | rfl | rfl | rfl <;> decide)] at g;exact g
   have G:=Gd.ari hk hy B g';rw [(KH a).2,(KH b).2] at G;exact A.1 hl _ _ _ G
end
variable {r:Str} {ks:List Kt}
variable {s:Str}
theorem LxN.app {q:List Kt} (h:LxN s q) (hr:wD r) (hk:Lx r ks):Lx (s++r) (q++ks):=(h r ks hr hk).1
section
variable {l:Tks} {r r' ra m:Rq} {w w':Str} {i j:Nat}
theorem t7 {x:Ex} (h1:eL x=true) (h2:rQ x=false) (s:Sps l r (tqT x) m) (hx:Nx l 7 m):Gd l (.lev 7) r (ndE x) false m :=
 (bY4 x h1 h2 _ _ s (hx.up (by have:=LZ x.op;omega))).at (IS s).2 (by omega) (by have:=LZ x.op;omega) (by have:=SP x.op;omega) hx
end
variable {f:Fm}
theorem JE (h:fH f=0):f.count<=60/\Fm.all oL f=true/\Fm.all xQ f=true/\Fm.all kV f=true:=by
 unfold fH at h
 split at h
 ·cases h
 rename_i h1
 split at h
 ·cases h
 rename_i h2
 split at h
 ·cases h
 rename_i h3;rw [JX] at h1;exact ⟨by omega,by simpa using h1.2,by simpa using h2,by simpa using h3⟩
variable {l:Tks}
theorem WN {o e:Nat} (h:wQ l=(f,o,e)):(e=0->fH f=0/\o=0)/\(¬ e=0->f=zF):=by
 unfold wQ IA at h
 split at h
 ·rename_i k;cases h;exact ⟨λe=>absurd e k,λ_=>rfl⟩
 split at h
 ·cases h;exact ⟨λe=>(by cases e),λ_=>rfl⟩
 split at h
 ·rename_i k;cases h;exact ⟨λe=>absurd e k,λ_=>rfl⟩
 ·rename_i k;cases h;exact ⟨λ_=>⟨bD.1 k,Z⟩,λe=>absurd rfl e⟩
section
variable {l:Tks} {r r':Rq}
def szN (n:Fn):Nat:=max n.f.count n.e.count
def ntB:Nt->Nat
 | .lev _=>2
 | .lp _ a=>szN a
 | .arg f=>f.count+2
 | .aft f=>f.count
theorem aY1 (n:Fn):n.f.count<=szN n:=Nat.le_max_left _ _
theorem VW (n:Fn):n.e.count<=szN n:=Nat.le_max_right _ _
theorem aY0 {f:Fm} {e:Ex} {a b:Bool} {k:Nat} (h1:f.count<=k) (h2:e.count<=k):szN ⟨a,b,f,e⟩<=k:=Nat.max_le.2 ⟨h1,h2⟩
theorem aW1:zE.count=1:=rfl
theorem bX8:zF.count=1:=rfl
theorem EM {f:Fm} {k:Nat} (h:f.count<=k):szN (mdN f)<=k:=aY0 h (by rw [aW1];exact aV (bG1 f) h)
theorem MD {e:Ex} {k:Nat} (h:e.count<=k):szN (vlN e)<=k:=aY0 (by rw [bX8];exact aV (bH8 e) h) h
theorem cG4:szN zN<=2:=by decide
theorem wR (q:Rq):q.nx.i=q.i+1:=rfl
theorem aF8 {f:Fm} (h:f.args=[]) (gs:List Fm):(f.wAr gs).count=f.count+Fm.counts gs:=by
 obtain ⟨op,nm,fd,a,b,ex,args⟩:=f;cases h;show Fm.count (.mk op nm fd a b ex gs)=_;rw [jT,jT,Fm.counts];omega
theorem aF6 (f:Fm) (es:List Ex):(f.wEx es).count+Ex.counts f.ex=f.count+Ex.counts es:=by
 obtain ⟨op,nm,fd,a,b,ex,args⟩:=f;show Fm.count (.mk op nm fd a b es args)+Ex.counts ex=_;rw [jT,jT];omega
theorem bP5 (op:UInt8) (r:Rq):(r.prF l op).args=[]/\(r.prF l op).count=1:=by
 unfold Rq.prF
 split
 ·exact ⟨Z,Z⟩
 ·split
  ·exact ⟨Z,Z⟩
  ·exact ⟨Z,Z⟩
theorem bR1 (k:Nat) (r:Rq):(r.jnF l k).args=[]/\(r.jnF l k).count=1:=by
 unfold Rq.jnF
 split
 ·exact ⟨Z,Z⟩
 ·exact ⟨Z,Z⟩
theorem cH2 {op:UInt8} {r:Rq}:r.i+1<=(r.prS l op).i:=by
 rw [<-wR];unfold Rq.prS
 split
 ·exact Mq.wiS.i
 ·split
  ·exact Mq.amS.i
  ·exact aW _
theorem cI4 {k:Nat} {r:Rq}:r.i+1<=(r.jnS l k).i:=by
 rw [<-wR];unfold Rq.jnS
 split
 ·exact Mq.wiS.i
 ·exact aW _
theorem aB7 (e:Ex):Ex.counts [e]=e.count:=by rw [Ex.counts,Ex.counts];rfl
theorem cJ9 (e g:Ex):Ex.counts [e,g]=e.count+g.count:=by rw [Ex.counts,Ex.counts,Ex.counts];rfl
theorem cJ5 (e:Fm):Fm.counts [e]=e.count:=by rw [Fm.counts,Fm.counts];rfl
theorem cN1 (e g:Fm):Fm.counts [e,g]=e.count+g.count:=by rw [Fm.counts,Fm.counts,Fm.counts];rfl
theorem QX (op:UInt8) (nm:Str) (n:Int64):Ex.count (.mk op nm n [])=1:=by rw [pT,Ex.counts]
theorem QW (op:UInt8) (nm fd:Str) (a b:Int64):Fm.count (.mk op nm fd a b [] [])=1:=by rw [jT,Ex.counts,Fm.counts]
theorem cC4 {nt:Nt} {n:Fn} {m:Bool} (g:Gd l nt r n m r'):szN n+4 * r.i<=ntB nt+4 * r'.i:=by
 induction g with
 | seq hk h1 h2 i1 i2=>simp only [ntB] at *;omega
 | outJ=>simp only [ntB];exact aW _
 | outA=>simp only [ntB];exact aW _
 | @join k r r1 r2 a y n m m' hk h h1 h2 i1 i2 =>
  simp only [ntB] at *;have h3:=bR1 (l:=l) k r;have h4:szN (mdN ((r.jnF l k).wAr [a.f,y.f]))<=1+a.f.count+y.f.count:=EM (by rw [aF8 h3.1,h3.2,cN1];omega);have h5:=cI4 (l:=l) (k:=k) (r:=r);have h6:=aY1 a;have h7:=aY1 y;omega
 | @ari k i r r1 r2 a y n m m' hk h h1 h2 i1 i2 =>
  simp only [ntB] at *;have h4:szN (vlN (opB i [a.e,y.e]))<=1+a.e.count+y.e.count:=MD (by unfold opB;rw [pT,cJ9];omega);have h5:=wR r;have h6:=VW a;have h7:=VW y;omega
 | @pre w op r r1 x m hp h h1 i1 =>
  simp only [ntB] at *;have h3:=bP5 (l:=l) op r;have h4:szN (mdN ((r.prF l op).wAr [x.f]))<=1+x.f.count:=EM (by rw [aF8 h3.1,h3.2,cJ5];omega);have h5:=cH2 (l:=l) (op:=op) (r:=r);have h6:=aY1 x;omega
 | @cnt r r1 x m h h1 i1 =>
  simp only [ntB] at *
  have h4:szN (mdN (((r.nx.amV l 18).wEx [.mk 1 [] (((r1.exS l [41]).exS l [62,61]).nbV l) []]).wAr [x.f]))<=2+x.f.count:=EM (by
   show Fm.count (.mk 18 _ _ _ _ [.mk 1 [] _ []] [x.f])<=_;rw [jT,cJ5,aB7,QX];omega)
  have h5:=wR r;have h6:=aY1 x;have h7:=(Mq.amS (l:=l) (q:=r.nx)).i;have h8:=(Mq.exS (l:=l) (q:=r.nx.amS l) (w:=[40])).i;have h9:=(Mq.exS (l:=l) (q:=r1) (w:=[41])).i;have ha:=(Mq.exS (l:=l) (q:=r1.exS l [41]) (w:=[62,61])).i;have hb:=(Mq.nbS (l:=l) (q:=(r1.exS l [41]).exS l [62,61])).i;omega
 | cmp0 hp hc h1 i1=>simp only [ntB] at *;exact i1
 | cm0 h1 h i1=>simp only [ntB] at *;exact i1
 | @cm1 i r r1 r2 x y m m' hi h1 h h2 i1 i2 =>
  simp only [ntB] at *;have h4:szN (mdN (.mk 3 [] [] 0 0 [opB i [x.e,y.e]] []))<=2+x.e.count+y.e.count:=EM (by unfold opB;rw [jT,aB7,pT,cJ9,Fm.counts];omega);have h5:=wR r1;have h6:=VW x;have h7:=VW y;omega
 | @neg r r1 x m h h1 i1 =>
  simp only [ntB] at *;have h4:szN (vlN (.mk 9 [] 0 [x.e]))<=1+x.e.count:=MD (by rw [pT,aB7];omega);have h5:=wR r;have h6:=VW x;omega
 | pri h h1 i1=>simp only [ntB] at *;exact i1
 | bad h=>simp only [ntB];have:=cG4;omega
 | @num r h hk=>simp only [ntB];have:=(Mq.nbS (l:=l) (q:=r)).i;have h4:szN (vlN (.mk 1 [] (r.nbV l) []))<=1:=MD (by rw [QX];exact aW _);omega
 | @now r h=>simp only [ntB];have:=wR r;have h4:szN (vlN (.mk 4 [] 0 []))<=1:=MD (by rw [QX];exact aW _);omega
 | @tru r h=>simp only [ntB];have:=wR r;have h4:szN (mdN (.mk 1 [] [] 0 0 [] []))<=1:=EM (by rw [QW];exact aW _);omega
 | @fal r h=>simp only [ntB];have:=wR r;have h4:szN (mdN (.mk 2 [] [] 0 0 [] []))<=1:=EM (by rw [QW];exact aW _);omega
 | @flg r h=>simp only [ntB];have:=wR r;have:=(Mq.nmS (l:=l) (q:=r.nx)).i;have h4:szN (mdN (.mk 6 (r.nx.nmV l) [] 0 0 [] []))<=1:=EM (by rw [QW];exact aW _);omega
 | @has r r1 x m h h1 i1 =>
  simp only [ntB] at *
  have h4:szN (mdN ((r.nx.paV l 5).wEx [x.e]))<=1+x.e.count:=EM (by
   show Fm.count (.mk 5 _ _ _ _ [x.e] [])<=_;rw [jT,aB7,Fm.counts];omega)
  have h5:=wR r;have h6:=VW x;have h7:=(Mq.paS (l:=l) (q:=r.nx)).i;have h8:=(Mq.exS (l:=l) (q:=r.nx.paS l) (w:=[91])).i;have h9:=(Mq.exS (l:=l) (q:=r1) (w:=[93])).i;omega
 | @arr0 r h h1 =>
  simp only [ntB];have h4:szN (mdN (r.nx.paV l 7))<=1:=EM (by unfold Rq.paV;rw [QW];exact aW _);have h5:=wR r;have h7:=(Mq.paS (l:=l) (q:=r.nx)).i;have h8:=(Mq.exS (l:=l) (q:=r.nx.paS l) (w:=[40])).i;have h9:=wR ((r.nx.paS l).exS l [40]);omega
 | @arr r r1 n m h h0 h1 i1 =>
  simp only [ntB] at *;have h4:(r.nx.paV l 7).count=1:=by unfold Rq.paV;rw [QW]
  have h5:=wR r;have h7:=(Mq.paS (l:=l) (q:=r.nx)).i;have h8:=(Mq.exS (l:=l) (q:=r.nx.paS l) (w:=[40])).i;omega
 | @siz r h=>simp only [ntB];have:=wR r;have:=(Mq.paS (l:=l) (q:=r.nx)).i;have h4:szN (vlN (.mk 8 (r.nx.paN l++[46]++r.nx.paF l) 0 []))<=1:=MD (by rw [QX];exact aW _);omega
 | @par r r1 x m h h1 i1=>simp only [ntB] at *;have:=wR r;have:=(Mq.exS (l:=l) (q:=r1) (w:=[41])).i;omega
 | @nam0 r h hk hd=>simp only [ntB];have:=wR r;have h4:szN (vlN (.mk 5 (r.nmV l) 0 []))<=1:=MD (by rw [QX];exact aW _);omega
 | @nam1 r h hk hd hb=>simp only [ntB];have:=wR r;have:=wR r.nx;have:=(Mq.nmS (l:=l) (q:=r.nx.nx)).i;have h4:szN ⟨true,true,.mk 4 (r.nmV l) (r.nx.nx.nmV l) 0 0 [] [],.mk 5 (r.ful l) 0 []⟩<=1:=aY0 (by rw [QW];exact aW _) (by rw [QX];exact aW _);omega
 | @get r r1 x m h hk hd hb h1 i1 =>
  simp only [ntB] at *;have h4:szN (vlN (.mk 6 (r.ful l) 0 [x.e]))<=1+x.e.count:=MD (by rw [pT,aB7];omega);have h5:=wR r;have h6:=wR r.nx;have h7:=(Mq.nmS (l:=l) (q:=r.nx.nx)).i;have h8:=wR (r.nx.nx.nmS l);have h9:=(Mq.exS (l:=l) (q:=r1) (w:=[93])).i;have ha:=VW x;omega
 | @non r h h0 h3 h1 hw=>simp only [ntB];have:=cG4;have:(r.fail l 8).i=r.i:=AV;omega
 | @arU r r1 f n m h h1 i1 =>
  simp only [ntB] at *;have h4:=aF6 f (f.ex++[zE]);rw [nR,aB7,aW1] at h4;have h5:=wR r;omega
 | @arT r r1 r2 f x n m m' h h1 h2 i1 i2 =>
  simp only [ntB] at *;have h4:=aF6 f (f.ex++[x.e]);rw [nR,aB7] at h4;have h6:=VW x;omega
 | @afC r r1 f n m h h1 i1=>simp only [ntB] at *;have:=wR r;omega
 | @afE r f h=>simp only [ntB];have:=(Mq.exS (l:=l) (q:=r) (w:=[41])).i;have h4:szN (mdN f)<=f.count:=EM (aW _);omega
end
theorem KU (e:Ex):eL e=true->blE 3 e=true:=by
 induction e using Ex.ind with | _ op nm n args ih
 intro ht;refine CZ.2 ?_;rcases ZD ht with ⟨_,_,_,rfl⟩ | ⟨_,_,_,rfl⟩ | ⟨_,_,rfl⟩ | ⟨_,_,a,rfl,ha⟩ | ⟨_,_,_,a,rfl,ha⟩ | ⟨_,_,_,a,b,rfl,ha,hb⟩
 ·exact ⟨by decide,λx hx=>(by cases hx)⟩
 ·exact ⟨by decide,λx hx=>(by cases hx)⟩
 ·exact ⟨by decide,λx hx=>(by cases hx)⟩
 ·exact ⟨(by decide:1<=3),λx hx=>by rw [cO.1 hx];exact ih a (by simp) ha⟩
 ·exact ⟨(by decide:1<=3),λx hx=>by rw [cO.1 hx];exact ih a (by simp) ha⟩
 ·refine ⟨(by decide:2<=3),λx hx=>?_⟩;simp only [bP,List.not_mem_nil,or_false] at hx;rcases hx with rfl | rfl
  ·exact ih _ (by simp) ha
  ·exact ih _ (by simp) hb
variable {e:Ex}
theorem aI9 (h1:e.depth<=9) (h2:blE 3 e=true):gdE e=true:=by
 unfold gdE;rw [aC,aA];exact ⟨by omega,h2⟩
variable {a:Int64}
theorem bA2 {op:UInt8} {nm fd:Str} {b:Int64} {ex:List Ex} {args:List Fm} (h:oL (.mk op nm fd a b ex args)=true):∀ e∈ex,e.depth<=9:=λe he=>by
 unfold oL at h;rw [dX,List.any_eq_false] at h;have h1:=h e he;rw [aA] at h1
 split at h1 <;> omega
theorem bR5 (f:Fm):Fm.all kV f=true->Fm.all oL f=true->gdF f=true:=by
 induction f using Fm.ind with | _ op nm fd a b ex args ih
 intro hf hs;rw [iM,aC,bC] at hs;obtain ⟨hf,hfs⟩:=XT hf;have hg:=bS1 hf;have hop:=UL hf;have hd:=bA2 hs.1;refine aA7.2 ⟨⟨hop,?_⟩,λg hg=>ih g hg (hfs g hg) (hs.2 g hg)⟩;have z:∀ x∈([]:List Ex),gdE x=true:=λx hx=>(by cases hx);cases hg with
 | tf=>exact ⟨by decide,by decide,z⟩
 | @cmp o x y h hx hy =>
  refine ⟨(by decide:1<=4),by decide,λe he=>aI9 (hd e he) ?_⟩;rw [cO.1 he];refine CZ.2 ⟨(by decide:2<=3),λe he=>?_⟩;simp only [bP,List.not_mem_nil,or_false] at he;rcases he with rfl | rfl
  ·exact KU _ hx
  ·exact KU _ hy
 | var=>exact ⟨by decide,by decide,z⟩
 | has hx=>exact ⟨(by decide:1<=4),by decide,λe he=>aI9 (hd e he) (by rw [cO.1 he];exact KU _ hx)⟩
 | flg=>exact ⟨by decide,by decide,z⟩
 | arr hl hx =>
  refine ⟨hl,by decide,λe he=>aI9 (hd e he) ?_⟩;rcases hx e he with rfl | h
  ·exact CZ.2 ⟨by decide,λx hx=>(by cases hx)⟩
  ·exact KU _ h
 | un=>exact ⟨by decide,(by decide:1<=3),z⟩
 | win=>exact ⟨by decide,(by decide:1<=3),z⟩
 | amo=>exact ⟨by decide,(by decide:1<=3),z⟩
 | cnt=>exact ⟨(by decide:1<=4),(by decide:1<=3),λe he=>aI9 (hd e he) (by rw [cO.1 he];exact CZ.2 ⟨aP _,λx hx=>(by cases hx)⟩)⟩
 | bin=>exact ⟨by decide,(by decide:2<=3),z⟩
 | snc=>exact ⟨by decide,(by decide:2<=3),z⟩
theorem cE4 (h:fH f=0):gdF f=true:=bR5 f (JE h).2.2.2 (JE h).2.1
theorem aG1:∀ (f o:Nat) (m:Str),∀ t∈AD f o m,¬ t.t=[]
 | 0,_,_,t,h=>by cases h
 | f+1,o,m,t,h=>by
  by_cases h0:m=[]
  ·rw [h0,oK] at h;cases h
  ·rw [mL h0] at h;rcases bP.1 h with rfl | h
   ·intro e;have hb:=qC h0;have:(m.take (bM m).2).length=0:=by rw [show m.take (bM m).2=[] from e];rfl
    rw [dV] at this;omega
   ·exact aG1 f _ _ t h
theorem bQ8 (s:Str):∀ t∈nQ s,¬ t.t=[]:=aG1 _ _ _
variable {H:Hp} {w0 W:World} {bs:List Res}
theorem bQ7 (s:Str) (hl:s.length<=1000000) (t0:St H w0 bs W) :
 Calls prg 32 #[bV s] W λe W'=>∃ z:Value × List Value,eJ H 3 ((nQ s).map (dTk .i64)) z.2/\e=.returned z.1/\St H w0 (.row 70 3 z.1 (nQ s).length z.2::bs) W':=by
 refine fN func32 rfl ntmps32 rfl t0 ?_;refine .sr<|.a Z Z<|.ns<|.a Z Z<|?_
 refine Sx.row0 70 3 ?_;refine .ns<|.mv Z<|.yw (.call EA Z (λW _=>HD s hl 0 (by omega) W))<|.aq Z<|.sq<|.bk<|.lp (X:=Nat × Nat × Value × List Value) [(0,_)] ⟨Z,Jt⟩ bs (λz=>[(3,z.2.2.1),(4,iN z.1)]) (λz=>H) (λz=>[.row 70 3 z.2.2.1 z.2.1 z.2.2.2]) (λz=>z.1<=s.length/\z.2.1<=z.1/\∃ tk:List Tk,tk.length=z.2.1/\eJ H 3 (tk.map (dTk .i64)) z.2.2.2/\tk++AD (s.length+1) z.1 (s.drop z.1)=nQ s) (λz=>s.length - z.1) (s.length - (eF false s).length,0,.slice none 0 0,[]) (λ_ s=>s) ⟨Z,Z,Jt⟩ ⟨by dsimp only;omega,by dsimp only;omega,[],Z,eJ.nil,by rw [xK];rfl⟩ λz hC=>?_
 obtain ⟨o,n,r,xs⟩:=z;dsimp only at hC|-;obtain ⟨ho,hn,tk,hk,hz,htk⟩:=hC;refine .sq<|.sm Z<|.mv Z<|.yw (.lenS dE Z)<|.yw (.lss Z Z)<|.nt<|.ce Z (λh11=>?_) (λh11=>?_)
 ·have hlt:o<s.length:=by omega
  obtain ⟨m,hm⟩:∃ m,m=s.drop o:=⟨_,Z⟩;have hml:m.length=s.length - o:=by rw [hm,cS]
  have hm0:m≠[]:=by intro e;rw [e] at hml;simp at hml;omega
  have hrk:=qC hm0;have htl:(m.take (bM m).2).length=(bM m).2:=by rw [dV];omega
  rw [<-hm] at htk;have hsl:=nA false (m.drop (bM m).2);rw [cS] at hsl;exact .sk<|.tN<|.bk<|.sm Z<|.mv Z<|.yw (.call SA Z (λW t=>bC9 H s hl o hlt m hm W t.agr))<|.al vB Z λb5=>.sW .head Z Z lT (by simp [cTk,Value.oneCell',bV]) Z<|.ns<|.mv Z<|.yw (.loadW Z oR Hm Z)<|.bl Z (GF _ _ _) Z λb17=>.ap (news:=cTk .i64 ⟨(bM m).1,m.take (bM m).2,o⟩) NY Z (λ_=>jW) Z (.box Hm z0) Z (by simp [cTk,Value.oneCell',bV]) (by simp [maxLen];omega) (by omega) Z λr18 _=>.aq Z<|.rg<|.mv Z<|.mv Z<|.fA Z lC<|.lD Z cP cR Z<|.yw (.lenS dE Z)<|.yw (.add Z Z (c:=((o+(bM m).2:Nat):Int)) (by rw [htl];exact (w6 (by omega)).trans (by omega)))<|.yw (.cast (.call EA Z (λW _=>HD s hl (o+(bM m).2) (by omega) W)) (by rw [<-fC,<-hm,show s.length - (eF false (m.drop (bM m).2)).length=o+(m.length - (eF false (m.drop (bM m).2)).length) by omega]))<|.a Z Z<|.nl<|.bN<|.tN<|.ag (x:=(o,n,r,xs)) (o+(m.length - (eF false (m.drop (bM m).2)).length),n+1,r18,xs++cTk .i64 ⟨(bM m).1,m.take (bM m).2,o⟩) ⟨Z,Z,Jt⟩ ⟨Z,Jt⟩ (λ_ s=>s.drop.drop) ⟨by dsimp only;omega,by dsimp only;omega,tk++[⟨(bM m).1,m.take (bM m).2,o⟩],by simp;omega,by dsimp only;rw [bT];exact hz.snoc (DE (by rw [htl];omega)) Z,by dsimp only;rw [<-htk,bW,<-XC hm hlt hsl,mL hm0,bL,dB,zI (s.length+1) s.length _ _ (by omega) (by omega)]⟩ (by dsimp only;omega)
 obtain rfl:o=s.length:=by omega
 rw [List.drop_length,oK,dO] at htk;refine .ex<|.eb<|.sm Z<|.az Z<|?_
 have hn2:n=(nQ s).length:=by rw [<-htk];exact hk.symm
 subst hn2;exact y9 Z Z λW t=>⟨(r,xs),by rw [<-htk];exact hz,Z,t.p1_1 [0] rfl⟩
theorem ZW (f:Fm):f.count<=1000000->∀ (H:Hp) (cs:List Value) (w:World),Rep H (dFm .i64 f) cs->Agr H w->Calls prg 40 #[.agg cs.toArray] w λr w'=>r=.returned (.bool (!Fm.all oL f))/\Ext w w':=by
 induction f using Fm.ind with | _ op nm fd a b ex args ih
 intro hct H cs w h hA;obtain ⟨p1,c1,p2,c2,rfl,hs1,hs2,hnm,hfd⟩:=gZ h;have hcap1:=hs1.cap;have hcap2:=hs2.cap;refine Sx.enter (H:=H) func40 rfl ntmps40 rfl hA ?_;refine .sr<|.bx Z Z Z λb1=>.aq Z<|.sq<|.sr<|.fA Z eZ<|.lD Z gR Hm Z<|.yw (.lenSl gP Z)<|.mv Z<|.nt<|.bk<|.lp (X:=Nat) [(1,_),(8,_),(9,_)] ⟨Z,Z,Z,Jt⟩ [_] (λk=>[(10,iN k)]) (λk=>H) (λk=>[]) (λk=>k<=ex.length/\(ex.take k).any (dpB op)=false) (λk=>ex.length - k) 0 (λ_ s=>s) ⟨Z,Jt⟩ ⟨aP _,Z⟩ λk hC=>?_
 obtain ⟨hk0,hal⟩:=hC;refine .sr<|.yw (.lss Z Z)<|.nt<|.sq<|.ce Z (λh11=>?_) (λh11=>?_)
 ·have hk:k<ex.length:=by omega
  obtain ⟨bE,oE,cE,hpE,rE,lE,mE⟩:=hs1.elem (iL (f:=dEx .i64) hk);cases hpE;have hdp:ex[k].depth<=1000000:=aV (KM _) (aV (AX (bI hk)) (by rw [jT] at hct;omega));refine .sk<|.tN<|.sq<|.bk<|.sr<|.yw (.indexSl gP Z Z Z (by omega) (q:=oE+k * 4) Z)<|.yw (.loadMW Z fT mE lE)<|.al nD Z λb4=>.sV .head Z Z mM lE rE.one Z<|.ns<|.yw (.loadW Z fT Hm lE)<|.yw (.call JO Z (λW s=>CF _ H _ W rE (by omega) s.agr))<|.yw (.gtr Z Z)<|.mv Z<|.e2 (λh17=>?_) (λh17=>?_)
  ·refine .gG<|.gG<|.gG<|.gG<|.gV<|.gV<|.gV<|.gG<|.yw (.pickT Z Z)<|.nt<|.cT Z<|.sr<|.az Z<|.bR<|.tR<|.tR<|.bR<|.tR<|?_
   refine y9 Z Z λW s=>⟨iQ ?_,s.ext⟩;rw [iM,bA1 hk (by rw [dpI,aF h17];rfl)];rfl
  refine .gy (.loadW Z fT Hm lE)<|.gy (.call JO Z (λW s=>CF _ H _ W rE (by omega) s.agr))<|.gy (.gtr Z Z)<|.gy (.move Z)<|.e2 (λh21=>?_) (λh21=>?_)
  ·refine .gy (.fieldAddr Z hZ)<|.gy (.load Z bS cR Z)<|.gy (.neq Z Z)<|.gy (.pickT Z Z)<|.yw (.pickF Z Z)<|.nt<|.ce Z (λh26=>?_) (λh26=>?_)
   ·refine .sr<|.az Z<|.bR<|.tR<|.tR<|.bR<|.tR<|?_
    refine y9 Z Z λW s=>⟨iQ ?_,s.ext⟩;rw [iM,bA1 hk (by rw [dpI,aI h17,aF h21,aF h26];rfl)];rfl
   exact .sk<|.bN<|.tN<|.rg<|.yw (.add Z Z w7)<|.mv Z<|.nt<|.ag (k+1) ⟨Z,Jt⟩ ⟨Z,Z,Z,Jt⟩ (λ_ s=>s.pick [1] [_] Z Z) ⟨by omega,DB hk hal (by rw [dpI,aI h17,aF h21,aI h26];rfl)⟩ (by omega)
  exact .gG<|.gG<|.gG<|.gy (.pickF Z Z)<|.yw (.pickF Z Z)<|.nt<|.cF Z<|.sk<|.bN<|.tN<|.rg<|.yw (.add Z Z w7)<|.mv Z<|.nt<|.ag (k+1) ⟨Z,Jt⟩ ⟨Z,Z,Z,Jt⟩ (λ_ s=>s.pick [1] [_] Z Z) ⟨by omega,DB hk hal (by rw [dpI,aI h17,aI h21];rfl)⟩ (by omega)
 obtain rfl:k=ex.length:=by omega
 rw [aY] at hal;have hno:=hal;refine .ex<|.eb<|.sq<|.sr<|.fA Z kQ<|.lD Z AB Hm Z<|.yw (.lenSl uH Z)<|.mv Z<|.nt<|.bk<|.lp (X:=Nat) [(29,_),(30,_)] ⟨Z,Z,Jt⟩ [_] (λk2=>[(31,iN k2)]) (λk2=>H) (λk2=>[]) (λk2=>k2<=args.length/\(args.take k2).all (Fm.all oL)=true) (λk2=>args.length - k2) 0 (λ_ s=>s) ⟨Z,Jt⟩ ⟨aP _,Z⟩ λk2 hC=>?_
 obtain ⟨hk20,hal2⟩:=hC;refine .sr<|.yw (.lss Z Z)<|.nt<|.sq<|.ce Z (λh32=>?_) (λh32=>?_)
 ·have hk2:k2<args.length:=by omega
  obtain ⟨bF,oF,cF,hpF,rF,lF,mF⟩:=hs2.elem (iL (f:=dFm .i64) hk2);cases hpF;refine .sk<|.tN<|.sq<|.bk<|.sr<|.yw (.indexSl uH Z Z Z (by omega) (q:=oF+k2 * 7) Z)<|.yw (.loadMW Z eD mF lF)<|.al oQ Z λb6=>.sV .head Z Z kL lF rF.one Z<|.ns<|.yw (.loadW Z eD Hm lF)<|.yw (.call SE Z (λW s=>ih _ (bI hk2) (aV (AS (bI hk2)) (by rw [jT] at hct;omega)) H cF W rF s.agr))<|.nt<|.cd Z (λh36=>?_) (λh36=>?_)
  ·refine .sr<|.az Z<|.bR<|.tR<|.tR<|.bR<|.tR<|?_
   refine y9 Z Z λW s=>⟨iQ ?_,s.ext⟩;rw [iM,BE hk2 (by simpa using h36)];simp
  exact .sk<|.bN<|.tN<|.rg<|.yw (.add Z Z w7)<|.mv Z<|.nt<|.ag (k2+1) ⟨Z,Jt⟩ ⟨Z,Z,Jt⟩ (λ_ s=>s.pick [1] [_] Z Z) ⟨by omega,DQ hk2 hal2 (by simpa using h36)⟩ (by omega)
 obtain rfl:k2=args.length:=by omega
 rw [aY] at hal2;refine .ex<|.eb<|.sr<|.az Z<|?_
 refine y9 Z Z λW s=>⟨iQ ?_,s.ext⟩;rw [iM,bY8 hno,hal2];rfl
theorem WL (H:Hp) (f:Fm) (hct:f.count<=1000000) (cs:List Value) (w:World) (h:Rep H (dFm .i64 f) cs) (hA:Agr H w):Calls prg 17 #[.agg cs.toArray] w λr w'=>r=.returned (iN (fH f))/\Ext w w':=by
 obtain ⟨op,nm,fd,a,b,ex,args⟩:=f;obtain ⟨p1,c1,p2,c2,rfl,hs1,hs2,hnm,hfd⟩:=gZ h;have hcap1:=hs1.cap;have hcap2:=hs2.cap;refine Sx.enter (H:=H) func17 rfl ntmps17 rfl hA ?_;refine .sr<|.bx Z Z Z λb1=>.aq Z<|.sq<|.bk<|.cu (X:=Bool) [(1,_)] ⟨Z,Jt⟩ (λz9=>[(3,.bool z9)]) (λz9=>H) (λz9=>[.box b1 [.int .i64 op.toNat,bV nm,bV fd,.int .i64 a.toInt,.int .i64 b.toInt,.slice p1 ex.length c1,.slice p2 args.length c2] 27]) (λz9=>z9=(decide (60<Fm.count (.mk op nm fd a b ex args)) || !Fm.all oL (.mk op nm fd a b ex args))) ?_ λz9 hC=>?_
 ·
  refine .rg<|.yw (.loadW Z eD Hm Z)<|.yw (.call SH Z (λW s=>aZ4 (.mk op nm fd a b ex args) H _ W h (by omega) s.agr))<|.yw (.gtr Z Z)<|.mv Z<|.e2 (λh7=>?_) (λh7=>?_)
  ·exact .gG<|.gG<|.yw (.pickT Z Z)<|.aq Z<|.me _ ⟨Z,Jt⟩ ⟨Z,Jt⟩ (λ_ s=>s) (by rw [cN3 h7];rfl)
  exact .gy (.loadW Z eD Hm Z)<|.gy (.call SE Z (λW s=>ZW (.mk op nm fd a b ex args) hct H _ W h s.agr))<|.yw (.pickF Z Z)<|.aq Z<|.me _ ⟨Z,Jt⟩ ⟨Z,Jt⟩ (λ_ s=>s) (by rw [cN4 h7];rfl)
 have e9:=hC;refine .cd Z (λh3=>?_) (λh3=>?_)
 ·have hc:60<Fm.count (.mk op nm fd a b ex args)\/Fm.all oL (.mk op nm fd a b ex args)=false:=by rw [h3] at e9;simpa using e9
  refine .sr<|.az Z<|.bR<|.tR<|?_
  refine y9 Z Z λW s=>⟨?_,s.ext⟩
  first
   | (unfold fH;rw [aD hc,aD (by rw [hn];decide),aD (by rw [hf];decide)];rfl;done)
   | (unfold fH;rw [aD hc,aD (by rw [hn];decide),aM hf];rfl;done)
   | (unfold fH;rw [aD hc,aM hn];rfl;done)
   | (unfold fH;rw [aM hc];rfl;done)
 have hc:¬ (60<Fm.count (.mk op nm fd a b ex args)\/Fm.all oL (.mk op nm fd a b ex args)=false):=by rw [h3] at e9;simpa using e9
 refine .sr<|.yw (.loadW Z eD Hm Z)<|.yw (.call SD Z (λW s=>ZT (.mk op nm fd a b ex args) H _ W h s.agr))<|.yw (.not Z)<|.aq Z<|.cd Z (λh11=>?_) (λh11=>?_)
 ·have hn:Fm.all xQ (.mk op nm fd a b ex args)=false:=by simpa using h11
  refine .sr<|.az Z<|.bR<|.tR<|?_
  refine y9 Z Z λW s=>⟨?_,s.ext⟩
  first
   | (unfold fH;rw [aD hc,aD (by rw [hn];decide),aD (by rw [hf];decide)];rfl;done)
   | (unfold fH;rw [aD hc,aD (by rw [hn];decide),aM hf];rfl;done)
   | (unfold fH;rw [aD hc,aM hn];rfl;done)
   | (unfold fH;rw [aM hc];rfl;done)
 have hn:Fm.all xQ (.mk op nm fd a b ex args)=true:=by simpa using h11
 refine .sr<|.yw (.loadW Z eD Hm Z)<|.yw (.call SC Z (λW s=>aN0 (.mk op nm fd a b ex args) H _ W h s.agr))<|.yw (.not Z)<|.aq Z<|.cd Z (λh15=>?_) (λh15=>?_)
 ·have hf:Fm.all kV (.mk op nm fd a b ex args)=false:=by simpa using h15
  refine .sr<|.az Z<|.bR<|.tR<|?_
  refine y9 Z Z λW s=>⟨?_,s.ext⟩
  first
   | (unfold fH;rw [aD hc,aD (by rw [hn];decide),aD (by rw [hf];decide)];rfl;done)
   | (unfold fH;rw [aD hc,aD (by rw [hn];decide),aM hf];rfl;done)
   | (unfold fH;rw [aD hc,aM hn];rfl;done)
   | (unfold fH;rw [aM hc];rfl;done)
 have hf:Fm.all kV (.mk op nm fd a b ex args)=true:=by simpa using h15
 refine .sk<|.bN<|.tN<|.sr<|.az Z<|?_
 refine y9 Z Z λW s=>⟨?_,s.ext⟩
 first
  | (unfold fH;rw [aD hc,aD (by rw [hn];decide),aD (by rw [hf];decide)];rfl;done)
  | (unfold fH;rw [aD hc,aD (by rw [hn];decide),aM hf];rfl;done)
  | (unfold fH;rw [aD hc,aM hn];rfl;done)
  | (unfold fH;rw [aM hc];rfl;done)
theorem YX (x0p:Option Addr) (x0n x0c:Nat):fK prg 140 [(0,.slice x0p x0n x0c)]=some [.slice x0p x0n x0c,.int .i64 0,.int .i64 0,.int .i64 0,.bool false]:=by kernel_rfl
theorem DD  : fK prg 27 []=some [.int .i64 0,.string ⟨#[]⟩,.string ⟨#[]⟩,.int .i64 0,.int .i64 0,.slice none 0 0,.slice none 0 0]:=by kernel_rfl
theorem aF2 (x2:Int):fK prg 70 [(2,.int .i64 x2)]=some [.int .i64 0,.string ⟨#[]⟩,.int .i64 x2]:=by kernel_rfl
set_option maxHeartbeats 1000000 in
theorem bA5 (H:Hp) (t:Str) (l:Tks) (hl:qR t=l) (ht:t.length<=100000) (w:World) (hA:Agr H w) :
 Calls prg 31 #[bV t] w λr w'=>∃ (z:List Value) (H':Hp),Rep H' (dFm .i64 (wQ l).1) z/\r=.returned (.tuple #[.agg z.toArray,iN ((wQ l).2.1),iN ((wQ l).2.2)])/\zT H w H' w':=by
 have hll:=MZ t;have hln:l.length=(nQ t).length+1:=by rw [<-hl,vS]
 have hfew:l.length<=600000:=by omega
 have hq0:(⟨0,0,0⟩:Rq).i<l.length:=by show 0<_;omega
 have hmem:∀ x∈l,x∈nQ t\/x=aQ2 t:=λx hx=>by rw [<-hl] at hx;exact (cK.1 hx).imp id cO.1
 have htx:∀ x∈l,x.t.length<=400000:=λx hx=>by
  rcases hmem x hx with h | rfl
  ·exact aV (CL t x h) (by omega)
  ·exact aP _
 have htn:∀ x∈l,x.k=3->pre iC x.t=x.t.length/\¬ x.t=[]:=λx hx hk=>by
  rcases hmem x hx with h | rfl
  ·exact ⟨QT t x h hk,bQ8 t x h⟩
  ·exact absurd (show (0:UInt8)=3 from hk) (by decide)
 refine Sx.enter (H:=H) func31 rfl ntmps31 rfl hA ?_;refine .sr<|.al oQ Z λb2=>.a Z Z<|.a Z Z<|.ns<|.mv Z<|.cs (X:=Value × List Value) SG Z (λW s=>bQ7 t (by omega) s) Z λz0 hz0=>?_
 obtain ⟨rv,xs⟩:=z0;dsimp only at hz0|-;refine At.ra Hm λp10 c10 e10=>?_;subst e10;refine .mv Z<|.yw (.lenS dE Z)<|.yw (.build Z (aF2 _))<|.bl Z (GF _ _ _) Z λb14=>.ap (news:=cTk .i64 (aQ2 t)) NY Z (λ_=>jS) Z (.box Hm z0) Z (by simp [cTk,Value.oneCell',bV]) (by simp [maxLen];omega) (by omega) Z λr15 _=>?_
 rw [show (nQ t).length+1=l.length from by rw [<-hl,vS]];refine At.pm [1,2] [_,_] rfl rfl ?_;refine nB (ds:=l.map (dTk .i64)) (bJ ..) (by rw [<-hl];unfold qR;rw [bT];exact hz0.snoc (DE (x:=aQ2 t) (aP _)) rfl) λH1 p15 c15 u1 hr15 hs15=>?_;subst hr15;have K0:Tkq H1 l p15 c15:=⟨hs15,hl ▸ ZI t,htx,hfew,htn⟩;refine .yw (.build Z (YX _ _ _))<|.bx Z Z Z λb=>.a Z Z<|.ns<|.mv Z<|.cs (X:=Fn × Bool × Rq × List Value × Hp) zW Z (λW s=>(bA9 (mes l (⟨0,0,0⟩:Rq)+1)) K0 hq0 (cY _) (s.p2_2 [0,1] Z)) Z λz2 hz2=>?_
 obtain ⟨n2,m2,q2,cs2,H2⟩:=z2;obtain ⟨g2,u2,p2,i2,M2⟩:=hz2;dsimp only at g2 u2 p2 i2 M2|-;obtain ⟨a2,b2x,c2,d2,e2,f2,k2,x2,y2,z2,w2,rfl,rf2,re2⟩:=gH p2;have K2:=Tkq.up K0 u2.up;have hP:wQ l=CG l n2 m2 q2:=bZ4 (hl ▸ ZI t) (Nat.lt_of_le_of_lt (aP _) hq0) g2;have hcnt:n2.f.count<=1000000:=by have h1:=cC4 g2;have h2:=aY1 n2;simp only [ntB] at h1;omega
 refine .al fD Z λb6=>.sW .head Z Z cZ (Rep.one p2) Z<|.nt<|.sq<|.sm Z<|.nC Z<|.fA Z gD<|.lD Z bS cR Z<|.yw (.eql Z Z)<|.mv Z<|.e2 (λh25=>?_) (λh25=>?_)
 ·have e0:q2.er=0:=by omega
  refine .gy (.move Z)<|.gd Z Z<|.cs (X:=Unit) vE Z (λW s=>MV K2 i2  (s.p3_3 [1,0,2] Z)) Z λ_ _=>.gy (.fld Z (aB2 _ _ _))<|.gy (.neq Z Z)<|.yw (.pickT Z Z)<|.nt<|.ce Z (λh30=>?_) (λh30=>?_)
  ·have hk:¬ (tkf l q2.i).k=0:=λe=>by rw [e] at h30;exact h30 rfl
   have hR:zB l q2=q2.fail l 8:=by unfold zB;rw [aM ⟨e0,hk⟩]
   have ef:(Rq.fail l 8 q2).er=8:=by unfold Rq.fail;rw [aM e0]
   refine .rg<|.mv Z<|.cs (X:=Unit) tT Z (λW s=>CT K2 i2 8 (s.p3_3 [0,1,2] Z)) Z λ_ _=>.nt<|.sq<|.sm Z<|.nC Z<|.fA Z gD<|.lD Z bS Hm Z<|.yw (.neq Z Z)<|.nt<|.cd Z (λh37=>?_) (λh37=>?_)
   ·have h37n:¬ (Rq.fail l 8 q2).er=0:=by rw [ef];decide
    refine .sq<|.fL 11 [(0,0),(1,0),(2,0),(3,0),(4,0),(5,0),(6,0),(7,0),(8,0),(9,3),(10,0)]<|.yw (.build Z DD)<|.mv Z<|.nC Z<|.fA Z nS<|.lD Z bS Hm Z<|.mv Z<|.nC Z<|.fA Z gD<|.lD Z bS Hm Z<|.sW jW Z Z kL (by simp [Value.oneCell',bV]) Z ((.yv (.load Z bS Hm Z)<|.yv (.fieldAddr Z gD)<|.yv (.nilCheck Z)<|.yv (.move Z)<|.yv (.load Z bS Hm Z)<|.yv (.fieldAddr Z nS)<|.yv (.nilCheck Z)<|.yv (.move Z)<|.dn<|.nl))<|.a Z Z<|.fn (tl:=[_]) Z<|.az Z<|.tR<|?_
    have hE:CG l n2 m2 q2=(zF,(zB l q2).off,(zB l q2).er):=by unfold CG;rw [aM (by rw [hR];exact h37n)]
    refine y7 Z (.cons (.cell Z eD kP rfl) (.cons (.tmp Z) (.cons (.tmp Z) .nil))) rfl λW s=>⟨[.int .i64 0,.string ⟨#[]⟩,.string ⟨#[]⟩,.int .i64 0,.int .i64 0,.slice none 0 0,.slice none 0 0],H2,by rw [hP,hE];exact yK H2,by first | (rw [hP,hE,hR];done) | (rw [hP,hE,hR];rfl),((u1.trans u2).grow s)⟩
   exact absurd ef (λe=>absurd (aO h37) (by rw [e];decide))
  have hk:(tkf l q2.i).k=0:=aR.1 (by show (tkf l q2.i).k.toNat=0;omega);have hR:zB l q2=q2:=by unfold zB;rw [aD (λh=>h.2 hk)]
  refine .sk<|.tN<|.sq<|.sm Z<|.nC Z<|.fA Z gD<|.lD Z bS Hm Z<|.yw (.neq Z Z)<|.nt<|.cd Z (λh37=>?_) (λh37=>?_)
  ·try simp only [dt] at h37
   have h37n:¬ q2.er=0:=by omega
   refine .sq<|.fL 11 [(0,0),(1,0),(2,0),(3,0),(4,0),(5,0),(6,0),(7,0),(8,0),(9,3),(10,0)]<|.yw (.build Z DD)<|.mv Z<|.nC Z<|.fA Z nS<|.lD Z bS Hm Z<|.mv Z<|.nC Z<|.fA Z gD<|.lD Z bS Hm Z<|.sW jW Z Z kL (by simp [Value.oneCell',bV]) Z ((.yv (.load Z bS Hm Z)<|.yv (.fieldAddr Z gD)<|.yv (.nilCheck Z)<|.yv (.move Z)<|.yv (.load Z bS Hm Z)<|.yv (.fieldAddr Z nS)<|.yv (.nilCheck Z)<|.yv (.move Z)<|.dn<|.nl))<|.a Z Z<|.fn (tl:=[_]) Z<|.az Z<|.tR<|?_
   have hE:CG l n2 m2 q2=(zF,(zB l q2).off,(zB l q2).er):=by unfold CG;rw [aM (by rw [hR];exact h37n)]
   refine y7 Z (.cons (.cell Z eD kP rfl) (.cons (.tmp Z) (.cons (.tmp Z) .nil))) rfl λW s=>⟨[.int .i64 0,.string ⟨#[]⟩,.string ⟨#[]⟩,.int .i64 0,.int .i64 0,.slice none 0 0,.slice none 0 0],H2,by rw [hP,hE];exact yK H2,by first | (rw [hP,hE,hR];done) | (rw [hP,hE,hR];rfl),((u1.trans u2).grow s)⟩
  try simp only [df] at h37
  refine .sk<|.tN<|.sm Z<|.yw (.loadW Z dA cR Z)<|.cs (X:=Unit) qE Z (λW s=>EV K2 i2 (n:=n2) (Rep.one rf2) (s.p3_3 [0,1,2] Z)) Z λ_ _=>.al oQ Z λb7=>.sW .head Z Z kL (Rep.one rf2) Z<|.nt<|.sq<|.sm Z<|.nC Z<|.fA Z zG<|.lD Z kB cR Z<|.nt<|.cd Z (λh53=>?_) (λh53=>?_)
  ·have hm:(m2 || !n2.fm)=true:=by rw [aL] at h53;exact h53
   refine .sr<|.yw (.build Z DD)<|.sX nP Z Z kL Z<|.a Z Z<|.az Z<|.tR<|?_
   have hE:CG l n2 m2 q2=(zF,0,6):=by unfold CG;rw [hR,aD (by rw [e0];decide),aM hm]
   refine y7 Z (.cons (.cell Z eD qP rfl) (.cons (.tmp Z) (.cons (.tmp Z) .nil))) rfl λW s=>⟨[.int .i64 0,.string ⟨#[]⟩,.string ⟨#[]⟩,.int .i64 0,.int .i64 0,.slice none 0 0,.slice none 0 0],H2,by rw [hP,hE];exact yK H2,by first | (rw [hP,hE];done) | (rw [hP,hE];rfl),((u1.trans u2).grow s)⟩
  have hm:(m2 || !n2.fm)=false:=by rw [aL] at h53;exact h53
  refine .sk<|.tN<|.sq<|.sr<|.yw (.loadW Z eD Hm Z)<|.yw (.call aU8 Z (λW s=>WL H2 n2.f hcnt _ W rf2 s.agr))<|.a Z Z<|.ns<|.mv Z<|.yw (.neq Z Z)<|.nt<|.ce Z (λh58=>?_) (λh58=>?_)
  ·have hc:¬ fH n2.f=0:=by omega
   refine .sr<|.yw (.build Z DD)<|.mv Z<|.sX nP Z Z kL Z<|.a Z Z<|.az Z<|.tR<|?_
   have hE:CG l n2 m2 q2=(zF,0,fH n2.f):=by unfold CG;rw [hR,aD (by rw [e0];decide),aD (by rw [hm];decide),aM hc]
   refine y7 Z (.cons (.cell Z eD qP rfl) (.cons (.tmp Z) (.cons (.tmp Z) .nil))) rfl λW s=>⟨[.int .i64 0,.string ⟨#[]⟩,.string ⟨#[]⟩,.int .i64 0,.int .i64 0,.slice none 0 0,.slice none 0 0],H2,by rw [hP,hE];exact yK H2,by first | (rw [hP,hE];done) | (rw [hP,hE];rfl),((u1.trans u2).grow s)⟩
  have hc:fH n2.f=0:=by omega
  refine .sk<|.tN<|.sr<|.yw (.loadW Z eD Hm Z)<|.sW nP Z Z kL (Rep.one rf2) Z<|.a Z Z<|.az Z<|?_
  have hE:CG l n2 m2 q2=(n2.f,0,0):=by unfold CG;rw [hR,aD (by rw [e0];decide),aD (by rw [hm];decide),aD (by rw [hc];decide)]
  refine y7 Z (.cons (.cell Z eD qP rfl) (.cons (.tmp Z) (.cons (.tmp Z) .nil))) rfl λW s=>⟨[a2,b2x,c2,d2,e2,f2,k2],H2,by rw [hP,hE];exact rf2,by first | (rw [hP,hE];done) | (rw [hP,hE];rfl),((u1.trans u2).grow s)⟩
 have e0n:¬ q2.er=0:=by omega
 have hR:zB l q2=q2:=by unfold zB;rw [aD (λh=>e0n h.1)]
 refine .gG<|.gG<|.gG<|.gG<|.yw (.pickF Z Z)<|.nt<|.cF Z<|.sk<|.tN<|.sq<|.sm Z<|.nC Z<|.fA Z gD<|.lD Z bS cR Z<|.yw (.neq Z Z)<|.nt<|.cd Z (λh37=>?_) (λh37=>?_)
 ·try simp only [dt] at h37
  have h37n:¬ q2.er=0:=by omega
  refine .sq<|.fL 11 [(0,0),(1,0),(2,0),(3,0),(4,0),(5,0),(6,0),(7,0),(8,0),(9,3),(10,0)]<|.yw (.build Z DD)<|.mv Z<|.nC Z<|.fA Z nS<|.lD Z bS cR Z<|.mv Z<|.nC Z<|.fA Z gD<|.lD Z bS cR Z<|.sW jW Z Z kL (by simp [Value.oneCell',bV]) Z ((.yv (.load Z bS cR Z)<|.yv (.fieldAddr Z gD)<|.yv (.nilCheck Z)<|.yv (.move Z)<|.yv (.load Z bS cR Z)<|.yv (.fieldAddr Z nS)<|.yv (.nilCheck Z)<|.yv (.move Z)<|.dn<|.nl))<|.a Z Z<|.fn (tl:=[_]) Z<|.az Z<|.tR<|?_
  have hE:CG l n2 m2 q2=(zF,(zB l q2).off,(zB l q2).er):=by unfold CG;rw [aM (by rw [hR];exact h37n)]
  refine y7 Z (.cons (.cell Z eD kP rfl) (.cons (.tmp Z) (.cons (.tmp Z) .nil))) rfl λW s=>⟨[.int .i64 0,.string ⟨#[]⟩,.string ⟨#[]⟩,.int .i64 0,.int .i64 0,.slice none 0 0,.slice none 0 0],H2,by rw [hP,hE];exact yK H2,by first | (rw [hP,hE,hR];done) | (rw [hP,hE,hR];rfl),((u1.trans u2).grow s)⟩
 try simp only [df] at h37
 exact absurd (by omega:q2.er=0) e0n
noncomputable def eqP (p:Prop):Bool:=@decide p (Classical.propDecidable p)
theorem dK {p:Prop} :eqP p=true↔p:=by unfold eqP;exact @decide_eq_true_iff p (Classical.propDecidable p)
theorem DL {p:Prop} :eqP p=false↔¬ p:=⟨λh k=>(by rw [dK.2 k] at h;cases h),λh=>(by cases e:eqP p with | false=>rfl | true=>exact absurd (dK.1 e) h)⟩
def cL8 (gf:FuncId) {α:Type} (d:α->D) (H:Hp) (a b:α):Prop:=∀ (ca cb:List Value) (w:World),Rep H (d a) ca->Rep H (d b) cb->Agr H w->Calls prg gf #[.agg ca.toArray,.agg cb.toArray] w λr w'=>r=.returned (.bool (eqP (a=b)))/\Ext w w'
variable {k:Nat}
theorem SU {α:Type} {l m:List α} (h:k<l.length) (h2:k<m.length) (ht:l.take k=m.take k) (he:l[k]=m[k]):l.take (k+1)=m.take (k+1):=by rw [uT h,uT h2,ht,he]
theorem HZ (H:Hp) (gf:FuncId) (hgf:cV prg gf=true) (l m:List Ex) (hq:∀ a∈l,∀ b,cL8 gf (dEx .u8) H a b) (v u:Value) (hs:Rep H (.seq 4 (l.map (dEx .u8))) [v]) (ht:Rep H (.seq 4 (m.map (dEx .u8))) [u]) (w:World) (hA:Agr H w) :
 Calls prg 51 #[v,u,.func (.func gf) #[] #[]] w λr w'=>r=.returned (.bool (eqP (l=m)))/\Ext w w':=by
 obtain ⟨p,c,e,_⟩:=hs.sl;simp only [jK,wA,bJ] at e;subst e;obtain ⟨p2,c2,e,_⟩:=ht.sl;simp only [jK,wA,bJ] at e;subst e;have hcap:=hs.cap;have hcap2:=ht.cap;refine Sx.enter (H:=H) func51 rfl ntmps51 rfl hA ?_;refine .sr<|.aq Z<|.sq<|.sm Z<|.yw (.lenSl dP Z)<|.mv Z<|.yw (.lenSl dP Z)<|.yw (.neq Z Z)<|.nt<|.ce Z (λh14=>?_) (λh14=>?_)
 ·have hne:¬ l=m:=λe=>by rw [e] at h14;exact h14 rfl
  refine .sr<|.az Z<|.tR<|?_
  refine y9 Z Z λW s=>⟨kN ?_,s.ext⟩
  first
   | (rw [dK];exact ⟨λh=>(by cases h),λh=>absurd h hne⟩)
   | (rw [dK];exact ⟨λ_=>heq,λ_=>rfl⟩)
 have hlen:l.length=m.length:=by omega
 refine .sk<|.tN<|.sq<|.sm Z<|.yw (.lenSl dP Z)<|.mv Z<|.nt<|.bk<|.lp (X:=Nat) [(1,_),(2,_),(15,_),(16,_)] ⟨Z,Z,Z,Z,Jt⟩ [] (λk=>[(17,iN k)]) (λk=>H) (λk=>[]) (λk=>k<=l.length/\l.take k=m.take k) (λk=>l.length - k) 0 (λ_ s=>s) ⟨Z,Jt⟩ ⟨by omega,Z⟩ λk hC=>?_
 obtain ⟨hk0,hal⟩:=hC;refine .sr<|.yw (.lss Z Z)<|.nt<|.sq<|.ce Z (λh18=>?_) (λh18=>?_)
 ·have hk:k<l.length:=by omega
  have hkm:k<m.length:=by omega
  obtain ⟨bE,oE,cE,hpE,rE,lE,mE⟩:=hs.elem (iL hk);cases hpE;obtain ⟨bF,oF,cF,hpF,rF,lF,mF⟩:=ht.elem (iL hkm);cases hpF;refine .sk<|.tN<|.sq<|.bk<|.sm Z<|.yw (.indexSl dP Z Z Z (by omega) (q:=oE+k * 4) Z)<|.yw (.loadMW Z dS mE lE)<|.al kS Z λb8=>.a Z Z<|.sV .head Z Z gM lE rE.one Z<|.ns<|.mv Z<|.mv Z<|.yw (.indexSl dP Z Z Z (by omega) (q:=oF+k * 4) Z)<|.yw (.loadMW Z dS mF lF)<|.al kS Z λb9=>.sV .head Z Z gM lF rF.one Z<|.ns<|.mv Z<|.yw (.loadW Z dS cR lE)<|.yw (.loadW Z dS Hm lF)<|.yw (.callV (fi:=[]) (ca:=[]) Z hgf Z (λW s=>hq _ (bI hk) _ cE cF W rE rF s.agr))<|.yw (.not Z)<|.nt<|.cd Z (λh30=>?_) (λh30=>?_)
  ·try simp only [dt] at h30
   have hne:¬ l=m:=λe=>by subst e;rw [dK.2 rfl] at h30;cases h30
   refine .sr<|.az Z<|.bR<|.tR<|.tR<|.bR<|.tR<|?_
   refine y9 Z Z λW s=>⟨kN ?_,s.ext⟩
   first
    | (rw [dK];exact ⟨λh=>(by cases h),λh=>absurd h hne⟩)
    | (rw [dK];exact ⟨λ_=>heq,λ_=>rfl⟩)
  try simp only [df] at h30
  have heq:l[k]=m[k]:=dK.1 (by simpa using h30);exact .sk<|.bN<|.tN<|.rg<|.yw (.add Z Z w7)<|.mv Z<|.nt<|.ag (k+1) ⟨Z,Jt⟩ ⟨Z,Z,Z,Z,Jt⟩ (λ_ s=>s.pick [] [] Z Z) ⟨by omega,SU hk hkm hal heq⟩ (by omega)
 have heq:l=m:=by
  have e:k=l.length:=by omega
  have e2:k=m.length:=by omega
  have h1:=hal;rw [e,aY,hlen,aY] at h1;exact h1
 refine .ex<|.eb<|.sr<|.az Z<|?_
 refine y9 Z Z λW s=>⟨kN ?_,s.ext⟩
 first
  | (rw [dK];exact ⟨λh=>(by cases h),λh=>absurd h hne⟩)
  | (rw [dK];exact ⟨λ_=>heq,λ_=>rfl⟩)
theorem vN (H:Hp) (a:Ex):∀ b,cL8 52 (dEx .u8) H a b:=by
 induction a using Ex.ind with | _ op nm n args ih
 intro b ca cb w ha hb hA;obtain ⟨op2,nm2,n2,zS⟩:=b;obtain ⟨p,c,rfl,hs,hnm⟩:=jB ha;obtain ⟨p2,c2,rfl,hs2,hnm2⟩:=jB hb;refine Sx.enter (H:=H) func52 rfl ntmps52 rfl hA ?_;refine .sr<|.bx Z Z Z λb2=>.bx Z Z Z λb3=>.a Z Z<|.ns<|.fA Z hU<|.lD Z kR cR Z<|.fA Z hU<|.lD Z kR Hm Z<|.yw (.eql Z Z)<|.mv Z<|.e2 (λh10=>?_) (λh10=>?_)
 ·have e1:op=op2:=aR.1 (by omega);refine .gy (.fieldAddr Z fZ)<|.gy (.load Z cP cR Z)<|.gy (.fieldAddr Z fZ)<|.gy (.load Z cP Hm Z)<|.gy (.eqS Z Z)<|.yw (.pickT Z Z)<|.mv Z<|.e2 (λh17=>?_) (λh17=>?_)
  ·have e2:nm=nm2:=h17;refine .gy (.fieldAddr Z gQ)<|.gy (.load Z kM cR Z)<|.gy (.fieldAddr Z gQ)<|.gy (.load Z kM Hm Z)<|.gy (.eql Z Z)<|.yw (.pickT Z Z)<|.mv Z<|.e2 (λh24=>?_) (λh24=>?_)
   ·have e3:n=n2:=dW.1 h24;refine .gy (.fieldAddr Z eI)<|.gy (.load Z dG cR Z)<|.gy (.fieldAddr Z eI)<|.gy (.load Z dG Hm Z)<|.gy (.call zY Z (λW s=>HZ H 52 zX args zS ih _ _ hs hs2 W s.agr))<|.yw (.pickT Z Z)<|.az Z<|?_
    refine y9 Z Z λW s=>⟨kN ?_,s.ext⟩
    first
     | (rw [dK,dK,Ex.mk.injEq];exact ⟨λd=>⟨e1,e2,e3,d⟩,λh=>h.2.2.2⟩)
     | (rw [dK,Ex.mk.injEq];exact ⟨λh=>(by cases h),λh=>absurd h.1 e1⟩)
     | (rw [dK,Ex.mk.injEq];exact ⟨λh=>(by cases h),λh=>absurd h.2.1 e2⟩)
     | (rw [dK,Ex.mk.injEq];exact ⟨λh=>(by cases h),λh=>absurd h.2.2.1 e3⟩)
   have e3:¬ n=n2:=λe=>h24 (by rw [e]);refine .gG<|.gG<|.gG<|.gG<|.gG<|.yw (.pickF Z Z)<|.az Z<|?_
   refine y9 Z Z λW s=>⟨kN ?_,s.ext⟩
   first
    | (rw [dK,dK,Ex.mk.injEq];exact ⟨λd=>⟨e1,e2,e3,d⟩,λh=>h.2.2.2⟩)
    | (rw [dK,Ex.mk.injEq];exact ⟨λh=>(by cases h),λh=>absurd h.1 e1⟩)
    | (rw [dK,Ex.mk.injEq];exact ⟨λh=>(by cases h),λh=>absurd h.2.1 e2⟩)
    | (rw [dK,Ex.mk.injEq];exact ⟨λh=>(by cases h),λh=>absurd h.2.2.1 e3⟩)
  have e2:¬ nm=nm2:=h17;refine .gG<|.gG<|.gG<|.gG<|.gG<|.yw (.pickF Z Z)<|.mv Z<|.gG<|.gG<|.gG<|.gG<|.gG<|.yw (.pickF Z Z)<|.az Z<|?_
  refine y9 Z Z λW s=>⟨kN ?_,s.ext⟩
  first
   | (rw [dK,dK,Ex.mk.injEq];exact ⟨λd=>⟨e1,e2,e3,d⟩,λh=>h.2.2.2⟩)
   | (rw [dK,Ex.mk.injEq];exact ⟨λh=>(by cases h),λh=>absurd h.1 e1⟩)
   | (rw [dK,Ex.mk.injEq];exact ⟨λh=>(by cases h),λh=>absurd h.2.1 e2⟩)
   | (rw [dK,Ex.mk.injEq];exact ⟨λh=>(by cases h),λh=>absurd h.2.2.1 e3⟩)
 have e1:¬ op=op2:=λe=>h10 (by rw [e]);refine .gG<|.gG<|.gG<|.gG<|.gG<|.yw (.pickF Z Z)<|.mv Z<|.gG<|.gG<|.gG<|.gG<|.gG<|.yw (.pickF Z Z)<|.mv Z<|.gG<|.gG<|.gG<|.gG<|.gG<|.yw (.pickF Z Z)<|.az Z<|?_
 refine y9 Z Z λW s=>⟨kN ?_,s.ext⟩
 first
  | (rw [dK,dK,Ex.mk.injEq];exact ⟨λd=>⟨e1,e2,e3,d⟩,λh=>h.2.2.2⟩)
  | (rw [dK,Ex.mk.injEq];exact ⟨λh=>(by cases h),λh=>absurd h.1 e1⟩)
  | (rw [dK,Ex.mk.injEq];exact ⟨λh=>(by cases h),λh=>absurd h.2.1 e2⟩)
  | (rw [dK,Ex.mk.injEq];exact ⟨λh=>(by cases h),λh=>absurd h.2.2.1 e3⟩)
theorem gN {fs gs:List Fm} {op0 op1:UInt8} {nm0 nm1 fd0 fd1:Str} {a0 a1 b0 b1:Int64} {ex0 ex1:List Ex} {eG iW:List Fm} :fs++[Fm.mk op0 nm0 fd0 a0 b0 ex0 eG]=gs++[Fm.mk op1 nm1 fd1 a1 b1 ex1 iW]↔fs=gs/\op0=op1/\nm0=nm1/\fd0=fd1/\a0=a1/\b0=b1/\ex0=ex1/\eG=iW:=by
 rw [<-List.concat_eq_append,<-List.concat_eq_append]
 constructor
 ·intro h;have h1:=List.init_eq_of_concat_eq h;have h2:=List.last_eq_of_concat_eq h;injection h2 with i1 i2 i3 i4 i5 i6 i7
  exact ⟨h1,i1,i2,i3,i4,i5,i6,i7⟩
 ·rintro ⟨rfl,rfl,rfl,rfl,rfl,rfl,rfl,rfl⟩;rfl
theorem DG {fs gs:List Fm} {op0 op1:UInt8} {nm0 nm1 fd0 fd1:Str} {a0 a1 b0 b1:Int64} {ex0 ex1:List Ex} {eG iW:List Fm} (e1:op0=op1) (e2:nm0=nm1) (e3:fd0=fd1) (e4:a0=a1) (e5:b0=b1) (e6:eG.length=iW.length) (e7:ex0=ex1) (hl:fs.length+1=gs.length+1):fs++[Fm.mk op0 nm0 fd0 a0 b0 ex0 eG]=gs++[Fm.mk op1 nm1 fd1 a1 b1 ex1 iW]↔fs++eG=gs++iW:=by
 rw [gN]
 constructor
 ·rintro ⟨rfl,_,_,_,_,_,_,rfl⟩;rfl
 ·intro h;obtain ⟨h1,h2⟩:=List.append_inj h (by omega);exact ⟨h1,e1,e2,e3,e4,e5,e7,h2⟩
set_option maxHeartbeats 2000000 in
theorem aB4 (H:Hp) (f g:Fm) (N:Nat) (hb:blF N f=true) (hN:N * f.count<=100000000000) (hN1:N<=100000000000) (cs ds:List Value) (w:World) (h:Rep H (dFm .u8 f) cs) (k:Rep H (dFm .u8 g) ds) (hA:Agr H w):Calls prg 24 #[.agg cs.toArray,.agg ds.toArray] w λr w'=>r=.returned (.bool (eqP (f=g)))/\Ext w w':=by
 obtain ⟨op,nm,fd,a,b,ex,args⟩:=f;obtain ⟨opb,nmb,fdb,ab,bb,exb,argsb⟩:=g;obtain ⟨p1,c1,p2,c2,rfl,_,_,_,_⟩:=gZ h;obtain ⟨p3,c3,p4,c4,rfl,_,_,_,_⟩:=gZ k;refine Sx.enter (H:=H) func24 rfl ntmps24 rfl hA ?_;refine .sr<|.bx Z Z Z λb2=>.bx Z Z Z λb3=>.aq Z<|.sq<|.ft (p:=.light _ _ (.light _ _ (.alt _ _ _ (.light _ _ (.alt _ _ _ (.done) (.no))) (.alt _ _ _ (.alt _ _ _ (.light _ _ (.done)) (.no)) (.no))))) 5 (.light 0 (.light 2 (.alt 1 0 (.light 4 (.alt 3 0 (.done) (.no))) (.alt 3 0 (.alt 1 0 (.light 4 (.done)) (.no)) (.no))))) (by kernel_rfl) (by kernel_rfl) Z<|.yw (.loadW Z cL cR Z)<|.yw (.loadW Z cL Hm Z)<|.h ?_ (.h ?_ .nn)
 ·
  refine .blR (z:=7) Z (rK _ _ _ _ _ _ _) Z Z (by simp [maxLen]) λb11=>.a Z Z<|.h1<|.blR (z:=7) Z (rK _ _ _ _ _ _ _) Z Z (by simp [maxLen]) λb13=>.fn (tl:=[_]) Z<|.aq Z<|.sq<|.sr<|.aq Z<|.bk<|.pm [1,0,2,3] [_,_,_,_] Z Z<|.lp (X:=Nat × List Fm × List Fm × Value × Value × List Value × List Value) [] trivial [_,_] (λz=>[(5,z.2.2.2.1),(6,z.2.2.2.2.1),(7,.int .i64 ((z.2.1.length:Int) - 1))]) (λz=>H) (λz=>[.row 35 7 z.2.2.2.1 z.2.1.length z.2.2.2.2.2.1,.row 35 7 z.2.2.2.2.1 z.2.2.1.length z.2.2.2.2.2.2]) (λz=>eJ H 7 (z.2.1.map (dFm .u8)) z.2.2.2.2.2.1/\eJ H 7 (z.2.2.1.map (dFm .u8)) z.2.2.2.2.2.2/\z.2.1.length=z.2.2.1.length/\z.1+Fm.counts z.2.1<=Fm.count (.mk op nm fd a b ex args)/\(∀ g∈z.2.1,blF N g=true)/\z.2.1.length<=1+N * z.1/\(Fm.mk op nm fd a b ex args=Fm.mk opb nmb fdb ab bb exb argsb↔z.2.1=z.2.2.1)) (λz=>Fm.counts z.2.1) (0,[Fm.mk op nm fd a b ex args],[Fm.mk opb nmb fdb ab bb exb argsb],.slice (some ⟨b11,0,none⟩) 1 1,.slice (some ⟨b13,0,none⟩) 1 1,[.int .u8 op.toNat,bV nm,bV fd,.int .i64 a.toInt,.int .i64 b.toInt,.slice p1 ex.length c1,.slice p2 args.length c2],[.int .u8 opb.toNat,bV nmb,bV fdb,.int .i64 ab.toInt,.int .i64 bb.toInt,.slice p3 exb.length c3,.slice p4 argsb.length c4]) (λ_ s=>s) ⟨Z,Z,Z,Jt⟩ ⟨.single h Z,.single k Z,Z,by rw [Fm.counts,Fm.counts];omega,λg hg=>by rw [cO.1 hg];exact hb,by simp,by simp⟩ λz hC=>?_
  obtain ⟨n,fs,gs,rf,rg,xf,xg⟩:=z;obtain ⟨zf,zg,hle,hcnt,hbf,hlen,hiff⟩:=hC;dsimp only at zf zg hle hcnt hbf hlen hiff|-;have hNn:N * n<=N * Fm.count (.mk op nm fd a b ex args):=mD N (by omega);refine At.ra (size:=7) (r:=rf) (e:=35) Hm λpf cf e=>?_;subst e;refine At.ra (size:=7) (r:=rg) (e:=35) cR λpg cg e=>?_;subst e;refine .sq<|.sm Z<|.yw (.geq Z Z)<|.nt<|.cd Z (λh15=>?_) (λh15=>?_)
  ·try simp only [dt] at h15
   have hpos:0<fs.length:=by omega
   obtain ⟨fs0,f0,rfl⟩:∃ fs0 f0,fs=fs0++[f0]:=by
    rcases List.eq_nil_or_concat fs with h | ⟨t,x,h⟩
    ·subst h;simp at hpos hle
    ·exact ⟨t,x,by rw [h,List.concat_eq_append]⟩
   have hl0:(fs0++[f0]).length=fs0.length+1:=by rw [aE];rfl
   refine Sx.rowCase (size:=7) (r:=.slice pf (fs0++[f0]).length cf) (e:=35) Hm (by rw [hl0];exact Nat.succ_pos _) λwf c e hgc=>?_;injection e with e3 _ e4
   subst e3 e4;obtain ⟨cs0,r0,hc0,hx0⟩:=eJ.at zf (i:=fs0.length) (d:=dFm .u8 f0) (by rw [bT,List.getElem?_append_right (by rw [bJ];exact aW _),bJ,jP];rfl)
   have hz0:eJ H 7 (fs0.map (dFm .u8)) (xf.take (fs0.length * 7)):=by
    have h:=eJ.take fs0.length zf;rw [bT,List.take_left' (by rw [bJ])] at h;exact h
   obtain ⟨gs0,g0,rfl⟩:∃ fs0 f0,gs=fs0++[f0]:=by
    rcases List.eq_nil_or_concat gs with h | ⟨t,x,h⟩
    ·subst h;simp at hpos hle
    ·exact ⟨t,x,by rw [h,List.concat_eq_append]⟩
   have hl1:(gs0++[g0]).length=gs0.length+1:=by rw [aE];rfl
   refine Sx.rowCase (size:=7) (r:=.slice pg (gs0++[g0]).length cg) (e:=35) cR (by rw [hl1];exact Nat.succ_pos _) λwg c e hgd=>?_;injection e with e3 _ e4
   subst e3 e4;obtain ⟨cs1,r1,hc1,hx1⟩:=eJ.at zg (i:=gs0.length) (d:=dFm .u8 g0) (by rw [bT,List.getElem?_append_right (by rw [bJ];exact aW _),bJ,jP];rfl)
   have hz1:eJ H 7 (gs0.map (dFm .u8)) (xg.take (gs0.length * 7)):=by
    have h:=eJ.take gs0.length zg;rw [bT,List.take_left' (by rw [bJ])] at h;exact h
   obtain ⟨op0,nm0,fd0,a0,b0,ex0,eG⟩:=f0;obtain ⟨op1,nm1,fd1,a1,b1,ex1,iW⟩:=g0;obtain ⟨q1,d1,q2,d2,rfl,hs0,hs3,_,_⟩:=gZ r0;obtain ⟨q5,d5,q6,d6,rfl,hs5,hs6,_,_⟩:=gZ r1;have hb0:=(xX.1 (hbf _ (cK.2 (.inr (cO.2 rfl)))));rw [fG,Fm.counts,Fm.counts,jT] at hcnt;rw [hl0,hl1] at hle;rw [hl0] at hlen;have hNs:N * (n+1)=N * n+N:=Nat.mul_succ N n;have hcp0:=hs3.cap;have hcp1:=hs6.cap;refine .sk<|.tN<|.sq<|.bk<|.sq<|.ft (p:=.light _ _ (.light _ _ (.light _ _ (.light _ _ (.light _ _ (.light _ _ (.light _ _ (.light _ _ (.alt _ _ _ (.alt _ _ _ (.alt _ _ _ (.done) (.no)) (.no)) (.alt _ _ _ (.alt _ _ _ (.alt _ _ _ (.done) (.no)) (.no)) (.no))))))))))) 11 (.light 0 (.light 1 (.light 2 (.light 3 (.light 4 (.light 5 (.light 6 (.light 7 (.alt 8 0 (.alt 9 0 (.alt 10 2 (.done) (.no)) (.no)) (.alt 9 0 (.alt 8 0 (.alt 10 2 (.done) (.no)) (.no)) (.no))))))))))) (by kernel_rfl) (by kernel_rfl) Z<|.mv Z<|.mv Z<|.yw (.indexSl eY Z Z (i:=fs0.length) (by rw [hl0];omega) (by rw [hl0];omega) (q:=fs0.length * 7) (by omega))<|.yw (.loadR (vs:=cFm .u8 op0 nm0 fd0 a0 b0 (.slice q1 ex0.length d1) (.slice q2 eG.length d2)) Z cL Hm Z hx0)<|.mv Z<|.mv Z<|.yw (.indexSl eY Z Z (i:=gs0.length) (by rw [hl0];omega) (by rw [hl1];omega) (q:=gs0.length * 7) (by omega))<|.yw (.loadR (vs:=cFm .u8 op1 nm1 fd1 a1 b1 (.slice q5 ex1.length d5) (.slice q6 iW.length d6)) Z cL cR Z hx1)<|.h ?_ (.h ?_ .nn)
   ·
    refine .al eS Z λb8=>.h1<|.al eS Z λb9=>.h1<|.sW jS Z Z dC (by simp [Value.oneCell',bV]) Z ((.yv (.loadR (vs:=cFm .u8 op1 nm1 fd1 a1 b1 (.slice q5 ex1.length d5) (.slice q6 iW.length d6)) Z cL qP Z hx1)<|.yv (.indexSl eY Z Z (i:=gs0.length) (by rw [hl0];omega) (by rw [hl1];omega) (q:=gs0.length * 7) (by omega))<|.yv (.move Z)<|.yv (.move Z)<|.d4<|.nl))<|.fn (tl:=[_]) Z<|.sX .head Z Z dC Z<|.nt<|.sq<|.sr<|.fA Z eP<|.lD Z iT cR Z<|.fA Z eP<|.lD Z iT Hm Z<|.yw (.neq Z Z)<|.mv Z<|.b2 (λh32=>?_) (λh32=>?_)
    ·try simp only [dt] at h32
     have e1:=(λe=>h32 (by rw [e]):¬ op0=op1);refine .gG<|.gG<|.gG<|.gG<|.gG<|.yw (.pickT Z Z)<|.mv Z<|.gG<|.gG<|.gG<|.gG<|.gG<|.yw (.pickT Z Z)<|.mv Z<|.gG<|.gG<|.gG<|.gG<|.gG<|.yw (.pickT Z Z)<|.mv Z<|.gG<|.gG<|.gG<|.gG<|.gG<|.yw (.pickT Z Z)<|.mv Z<|.gG<|.gG<|.gG<|.gG<|.gG<|.gG<|.gG<|.yw (.pickT Z Z)<|.mv Z<|.gG<|.gG<|.gG<|.gG<|.gG<|.gG<|.yw (.pickT Z Z)<|.nt<|.cT Z<|.sr<|.az Z<|.tR<|.bR<|.tR<|.tR<|.bR<|.tR<|?_
     refine y9 Z Z λW s=>⟨kN ?_,s.ext⟩
     (rw [dK];exact ⟨λh=>(by cases h),λh=>absurd (hiff.1 h) (by rw [gN];exact λh=>e1 (h.2.1))⟩)
    try simp only [df] at h32
    have e1:=aR.1 (by omega:op0.toNat=op1.toNat);refine .gy (.fieldAddr Z gC)<|.gy (.load Z cP cR Z)<|.gy (.fieldAddr Z gC)<|.gy (.load Z cP Hm Z)<|.gy (.neS Z Z)<|.yw (.pickF Z Z)<|.mv Z<|.b2 (λh39=>?_) (λh39=>?_)
    ·try simp only [dt] at h39
     have e2:=(id h39:¬ nm0=nm1);refine .gG<|.gG<|.gG<|.gG<|.gG<|.yw (.pickT Z Z)<|.mv Z<|.gG<|.gG<|.gG<|.gG<|.gG<|.yw (.pickT Z Z)<|.mv Z<|.gG<|.gG<|.gG<|.gG<|.gG<|.yw (.pickT Z Z)<|.mv Z<|.gG<|.gG<|.gG<|.gG<|.gG<|.gG<|.gG<|.yw (.pickT Z Z)<|.mv Z<|.gG<|.gG<|.gG<|.gG<|.gG<|.gG<|.yw (.pickT Z Z)<|.nt<|.cT Z<|.sr<|.az Z<|.tR<|.bR<|.tR<|.tR<|.bR<|.tR<|?_
     refine y9 Z Z λW s=>⟨kN ?_,s.ext⟩
     (rw [dK];exact ⟨λh=>(by cases h),λh=>absurd (hiff.1 h) (by rw [gN];exact λh=>e2 (h.2.2.1))⟩)
    try simp only [df] at h39
    have e2:=(bD.1 h39:nm0=nm1);refine .gy (.fieldAddr Z gA)<|.gy (.load Z cP cR Z)<|.gy (.fieldAddr Z gA)<|.gy (.load Z cP Hm Z)<|.gy (.neS Z Z)<|.yw (.pickF Z Z)<|.mv Z<|.b2 (λh46=>?_) (λh46=>?_)
    ·try simp only [dt] at h46
     have e3:=(id h46:¬ fd0=fd1);refine .gG<|.gG<|.gG<|.gG<|.gG<|.yw (.pickT Z Z)<|.mv Z<|.gG<|.gG<|.gG<|.gG<|.gG<|.yw (.pickT Z Z)<|.mv Z<|.gG<|.gG<|.gG<|.gG<|.gG<|.gG<|.gG<|.yw (.pickT Z Z)<|.mv Z<|.gG<|.gG<|.gG<|.gG<|.gG<|.gG<|.yw (.pickT Z Z)<|.nt<|.cT Z<|.sr<|.az Z<|.tR<|.bR<|.tR<|.tR<|.bR<|.tR<|?_
     refine y9 Z Z λW s=>⟨kN ?_,s.ext⟩
     (rw [dK];exact ⟨λh=>(by cases h),λh=>absurd (hiff.1 h) (by rw [gN];exact λh=>e3 (h.2.2.2.1))⟩)
    try simp only [df] at h46
    have e3:=(bD.1 h46:fd0=fd1);refine .gy (.fieldAddr Z fI)<|.gy (.load Z bS cR Z)<|.gy (.fieldAddr Z fI)<|.gy (.load Z bS Hm Z)<|.gy (.neq Z Z)<|.yw (.pickF Z Z)<|.mv Z<|.b2 (λh53=>?_) (λh53=>?_)
    ·try simp only [dt] at h53
     have e4:=(λe=>h53 (by rw [e]):¬ a0=a1);refine .gG<|.gG<|.gG<|.gG<|.gG<|.yw (.pickT Z Z)<|.mv Z<|.gG<|.gG<|.gG<|.gG<|.gG<|.gG<|.gG<|.yw (.pickT Z Z)<|.mv Z<|.gG<|.gG<|.gG<|.gG<|.gG<|.gG<|.yw (.pickT Z Z)<|.nt<|.cT Z<|.sr<|.az Z<|.tR<|.bR<|.tR<|.tR<|.bR<|.tR<|?_
     refine y9 Z Z λW s=>⟨kN ?_,s.ext⟩
     (rw [dK];exact ⟨λh=>(by cases h),λh=>absurd (hiff.1 h) (by rw [gN];exact λh=>e4 (h.2.2.2.2.1))⟩)
    try simp only [df] at h53
    have e4:=dW.1 (by omega:a0.toInt=a1.toInt);refine .gy (.fieldAddr Z eW)<|.gy (.load Z bS cR Z)<|.gy (.fieldAddr Z eW)<|.gy (.load Z bS Hm Z)<|.gy (.neq Z Z)<|.yw (.pickF Z Z)<|.mv Z<|.b2 (λh60=>?_) (λh60=>?_)
    ·try simp only [dt] at h60
     have e5:=(λe=>h60 (by rw [e]):¬ b0=b1);refine .gG<|.gG<|.gG<|.gG<|.gG<|.gG<|.gG<|.yw (.pickT Z Z)<|.mv Z<|.gG<|.gG<|.gG<|.gG<|.gG<|.gG<|.yw (.pickT Z Z)<|.nt<|.cT Z<|.sr<|.az Z<|.tR<|.bR<|.tR<|.tR<|.bR<|.tR<|?_
     refine y9 Z Z λW s=>⟨kN ?_,s.ext⟩
     (rw [dK];exact ⟨λh=>(by cases h),λh=>absurd (hiff.1 h) (by rw [gN];exact λh=>e5 (h.2.2.2.2.2.1))⟩)
    try simp only [df] at h60
    have e5:=dW.1 (by omega:b0.toInt=b1.toInt);refine .gy (.fieldAddr Z dF)<|.gy (.load Z fY cR Z)<|.gy (.lenSl eY Z)<|.gy (.fieldAddr Z dF)<|.gy (.load Z fY Hm Z)<|.gy (.lenSl eY Z)<|.gy (.neq Z Z)<|.yw (.pickF Z Z)<|.mv Z<|.b2 (λh69=>?_) (λh69=>?_)
    ·try simp only [dt] at h69
     have e6:=(λe=>h69 (by rw [e]):¬ eG.length=iW.length);refine .gG<|.gG<|.gG<|.gG<|.gG<|.gG<|.yw (.pickT Z Z)<|.nt<|.cT Z<|.sr<|.az Z<|.tR<|.bR<|.tR<|.tR<|.bR<|.tR<|?_
     refine y9 Z Z λW s=>⟨kN ?_,s.ext⟩
     (rw [dK];exact ⟨λh=>(by cases h),λh=>absurd (hiff.1 h) (by rw [gN];exact λh=>e6 (by rw [h.2.2.2.2.2.2.2]))⟩)
    try simp only [df] at h69
    have e6:=(by omega:eG.length=iW.length);refine .gy (.fieldAddr Z cQ)<|.gy (.load Z dG cR Z)<|.gy (.fieldAddr Z cQ)<|.gy (.load Z dG Hm Z)<|.gy (.call zY Z (λW s=>HZ H 52 zX ex0 ex1 (λa _=>vN H a) _ _ hs0 hs5 W s.agr))<|.gy (.not Z)<|.yw (.pickF Z Z)<|.nt<|.cd Z (λh76=>?_) (λh76=>?_)
    ·try simp only [dt] at h76
     have e7:=DL.1 (by simpa using h76);refine .sr<|.az Z<|.tR<|.bR<|.tR<|.tR<|.bR<|.tR<|?_
     refine y9 Z Z λW s=>⟨kN ?_,s.ext⟩
     (rw [dK];exact ⟨λh=>(by cases h),λh=>absurd (hiff.1 h) (by rw [gN];exact λh=>e7 h.2.2.2.2.2.2.1)⟩)
    try simp only [df] at h76
    have e7:=dK.1 (by simpa using h76);refine Sx.At.rcut (size:=7) (m:=fs0.length) (ys:=xf.take (fs0.length * 7)) jW (by rw [hl0];exact Nat.le_succ _) rfl ?_;refine Sx.At.rcut (size:=7) (m:=gs0.length) (ys:=xg.take (gs0.length * 7)) nP (by rw [hl1];exact Nat.le_succ _) rfl ?_;exact .sk<|.tN<|.fL 12 [(0,0),(1,0),(2,0),(3,0),(4,0),(6,0),(7,0),(8,0),(9,0),(10,0),(5,3),(11,3)]<|.mv Z<|.mv Z<|.yw (.cutHi eY Z Z (h:=fs0.length) (by rw [hl0];omega) (by rw [hl0] at hgc;omega) (λq e=>by cases e;rfl))<|.fA Z dF<|.lD Z fY cR Z<|.mv Z<|.mv Z<|.yw (.cutHi eY Z Z (h:=gs0.length) (by rw [hl0];omega) (by rw [hl1] at hgd;omega) (λq e=>by cases e;rfl))<|.fA Z dF<|.lD Z fY Hm Z<|.apD sN Z (λ_ _=>jW) Z hs3 (by simp only [maxLen];omega) (by omega) Z (λ_ _=>(.yv (.load Z fY Hm Z)<|.yv (.fieldAddr Z dF)<|.yv (.cutHi eY Z Z (h:=gs0.length) (by rw [hl0];omega) (by rw [hl1] at hgd;omega) (λq e=>by cases e;rfl))<|.yv (.move Z)<|.yv (.move Z)<|.d3<|.d2<|.nl)) λnews pN cN hzn=>.apD sN Z (λ_ _=>nP) Z hs6 (by simp only [maxLen];omega) (by omega) Z (λ_ _=>(.d4<|.d4<|.d2<|.nl)) λmews pM cM hzm=>.fn (tl:=[_,_]) Z<|.a Z Z<|.a Z Z<|.nl<|.bN<|.tN<|.rg<|.mv Z<|.yw (.lenSl eY Z)<|.yw (.sub Z Z (w6 (by omega)))<|.aq Z<|.ag (x:=(n,fs0++[Fm.mk op0 nm0 fd0 a0 b0 ex0 eG],gs0++[Fm.mk op1 nm1 fd1 a1 b1 ex1 iW],Value.slice (some ⟨wf,0,none⟩) (fs0++[Fm.mk op0 nm0 fd0 a0 b0 ex0 eG]).length cf,Value.slice (some ⟨wg,0,none⟩) (gs0++[Fm.mk op1 nm1 fd1 a1 b1 ex1 iW]).length cg,xf,xg)) (n+1,fs0++eG,gs0++iW,Value.slice pN (fs0.length+eG.length) cN,Value.slice pM (gs0.length+iW.length) cM,xf.take (fs0.length * 7)++news,xg.take (gs0.length * 7)++mews) ⟨Z,Z,by dsimp only;exact congrArg (λm:Nat=>some (Value.int .i64 ((m:Int) - 1))) (aE ).symm,Jt⟩ trivial (λ_ s=>by dsimp only;rw [aE,aE];exact (s.pick [2,3,4,5] _ Z Z)) ⟨by rw [bT];exact hz0.app hzn,by rw [bT];exact hz1.app hzm,by dsimp only;rw [aE,aE];omega,by dsimp only;rw [fG];omega,λe he=>by rcases cK.1 he with h | h;exact hbf e (cK.2 (.inl h));exact hb0.2 e h,by dsimp only;rw [aE,hNs];omega,by dsimp only;exact hiff.trans (DG e1 e2 e3 e4 e5 e6 e7 hle)⟩ (by dsimp only;rw [fG,fG,Fm.counts,Fm.counts,jT];omega)
   refine .al eS Z λb9=>.h1<|.al eS Z λb8=>.h1<|.sW .head Z Z dC (by simp [Value.oneCell',bV]) Z ((.yv (.loadR (vs:=cFm .u8 op1 nm1 fd1 a1 b1 (.slice q5 ex1.length d5) (.slice q6 iW.length d6)) Z cL qP Z hx1)<|.yv (.indexSl eY Z Z (i:=gs0.length) (by rw [hl0];omega) (by rw [hl1];omega) (q:=gs0.length * 7) (by omega))<|.yv (.move Z)<|.yv (.move Z)<|.d4<|.nl))<|.fn (tl:=[_]) Z<|.sX jS Z Z dC Z<|.nt<|.sq<|.sr<|.fA Z eP<|.lD Z iT Hm Z<|.fA Z eP<|.lD Z iT cR Z<|.yw (.neq Z Z)<|.mv Z<|.b2 (λh32=>?_) (λh32=>?_)
   ·try simp only [dt] at h32
    have e1:=(λe=>h32 (by rw [e]):¬ op0=op1);refine .gG<|.gG<|.gG<|.gG<|.gG<|.yw (.pickT Z Z)<|.mv Z<|.gG<|.gG<|.gG<|.gG<|.gG<|.yw (.pickT Z Z)<|.mv Z<|.gG<|.gG<|.gG<|.gG<|.gG<|.yw (.pickT Z Z)<|.mv Z<|.gG<|.gG<|.gG<|.gG<|.gG<|.yw (.pickT Z Z)<|.mv Z<|.gG<|.gG<|.gG<|.gG<|.gG<|.gG<|.gG<|.yw (.pickT Z Z)<|.mv Z<|.gG<|.gG<|.gG<|.gG<|.gG<|.gG<|.yw (.pickT Z Z)<|.nt<|.cT Z<|.sr<|.az Z<|.tR<|.bR<|.tR<|.tR<|.bR<|.tR<|?_
    refine y9 Z Z λW s=>⟨kN ?_,s.ext⟩
    (rw [dK];exact ⟨λh=>(by cases h),λh=>absurd (hiff.1 h) (by rw [gN];exact λh=>e1 (h.2.1))⟩)
   try simp only [df] at h32
   have e1:=aR.1 (by omega:op0.toNat=op1.toNat);refine .gy (.fieldAddr Z gC)<|.gy (.load Z cP Hm Z)<|.gy (.fieldAddr Z gC)<|.gy (.load Z cP cR Z)<|.gy (.neS Z Z)<|.yw (.pickF Z Z)<|.mv Z<|.b2 (λh39=>?_) (λh39=>?_)
   ·try simp only [dt] at h39
    have e2:=(id h39:¬ nm0=nm1);refine .gG<|.gG<|.gG<|.gG<|.gG<|.yw (.pickT Z Z)<|.mv Z<|.gG<|.gG<|.gG<|.gG<|.gG<|.yw (.pickT Z Z)<|.mv Z<|.gG<|.gG<|.gG<|.gG<|.gG<|.yw (.pickT Z Z)<|.mv Z<|.gG<|.gG<|.gG<|.gG<|.gG<|.gG<|.gG<|.yw (.pickT Z Z)<|.mv Z<|.gG<|.gG<|.gG<|.gG<|.gG<|.gG<|.yw (.pickT Z Z)<|.nt<|.cT Z<|.sr<|.az Z<|.tR<|.bR<|.tR<|.tR<|.bR<|.tR<|?_
    refine y9 Z Z λW s=>⟨kN ?_,s.ext⟩
    (rw [dK];exact ⟨λh=>(by cases h),λh=>absurd (hiff.1 h) (by rw [gN];exact λh=>e2 (h.2.2.1))⟩)
   try simp only [df] at h39
   have e2:=(bD.1 h39:nm0=nm1);refine .gy (.fieldAddr Z gA)<|.gy (.load Z cP Hm Z)<|.gy (.fieldAddr Z gA)<|.gy (.load Z cP cR Z)<|.gy (.neS Z Z)<|.yw (.pickF Z Z)<|.mv Z<|.b2 (λh46=>?_) (λh46=>?_)
   ·try simp only [dt] at h46
    have e3:=(id h46:¬ fd0=fd1);refine .gG<|.gG<|.gG<|.gG<|.gG<|.yw (.pickT Z Z)<|.mv Z<|.gG<|.gG<|.gG<|.gG<|.gG<|.yw (.pickT Z Z)<|.mv Z<|.gG<|.gG<|.gG<|.gG<|.gG<|.gG<|.gG<|.yw (.pickT Z Z)<|.mv Z<|.gG<|.gG<|.gG<|.gG<|.gG<|.gG<|.yw (.pickT Z Z)<|.nt<|.cT Z<|.sr<|.az Z<|.tR<|.bR<|.tR<|.tR<|.bR<|.tR<|?_
    refine y9 Z Z λW s=>⟨kN ?_,s.ext⟩
    (rw [dK];exact ⟨λh=>(by cases h),λh=>absurd (hiff.1 h) (by rw [gN];exact λh=>e3 (h.2.2.2.1))⟩)
   try simp only [df] at h46
   have e3:=(bD.1 h46:fd0=fd1);refine .gy (.fieldAddr Z fI)<|.gy (.load Z bS Hm Z)<|.gy (.fieldAddr Z fI)<|.gy (.load Z bS cR Z)<|.gy (.neq Z Z)<|.yw (.pickF Z Z)<|.mv Z<|.b2 (λh53=>?_) (λh53=>?_)
   ·try simp only [dt] at h53
    have e4:=(λe=>h53 (by rw [e]):¬ a0=a1);refine .gG<|.gG<|.gG<|.gG<|.gG<|.yw (.pickT Z Z)<|.mv Z<|.gG<|.gG<|.gG<|.gG<|.gG<|.gG<|.gG<|.yw (.pickT Z Z)<|.mv Z<|.gG<|.gG<|.gG<|.gG<|.gG<|.gG<|.yw (.pickT Z Z)<|.nt<|.cT Z<|.sr<|.az Z<|.tR<|.bR<|.tR<|.tR<|.bR<|.tR<|?_
    refine y9 Z Z λW s=>⟨kN ?_,s.ext⟩
    (rw [dK];exact ⟨λh=>(by cases h),λh=>absurd (hiff.1 h) (by rw [gN];exact λh=>e4 (h.2.2.2.2.1))⟩)
   try simp only [df] at h53
   have e4:=dW.1 (by omega:a0.toInt=a1.toInt);refine .gy (.fieldAddr Z eW)<|.gy (.load Z bS Hm Z)<|.gy (.fieldAddr Z eW)<|.gy (.load Z bS cR Z)<|.gy (.neq Z Z)<|.yw (.pickF Z Z)<|.mv Z<|.b2 (λh60=>?_) (λh60=>?_)
   ·try simp only [dt] at h60
    have e5:=(λe=>h60 (by rw [e]):¬ b0=b1);refine .gG<|.gG<|.gG<|.gG<|.gG<|.gG<|.gG<|.yw (.pickT Z Z)<|.mv Z<|.gG<|.gG<|.gG<|.gG<|.gG<|.gG<|.yw (.pickT Z Z)<|.nt<|.cT Z<|.sr<|.az Z<|.tR<|.bR<|.tR<|.tR<|.bR<|.tR<|?_
    refine y9 Z Z λW s=>⟨kN ?_,s.ext⟩
    (rw [dK];exact ⟨λh=>(by cases h),λh=>absurd (hiff.1 h) (by rw [gN];exact λh=>e5 (h.2.2.2.2.2.1))⟩)
   try simp only [df] at h60
   have e5:=dW.1 (by omega:b0.toInt=b1.toInt);refine .gy (.fieldAddr Z dF)<|.gy (.load Z fY Hm Z)<|.gy (.lenSl eY Z)<|.gy (.fieldAddr Z dF)<|.gy (.load Z fY cR Z)<|.gy (.lenSl eY Z)<|.gy (.neq Z Z)<|.yw (.pickF Z Z)<|.mv Z<|.b2 (λh69=>?_) (λh69=>?_)
   ·try simp only [dt] at h69
    have e6:=(λe=>h69 (by rw [e]):¬ eG.length=iW.length);refine .gG<|.gG<|.gG<|.gG<|.gG<|.gG<|.yw (.pickT Z Z)<|.nt<|.cT Z<|.sr<|.az Z<|.tR<|.bR<|.tR<|.tR<|.bR<|.tR<|?_
    refine y9 Z Z λW s=>⟨kN ?_,s.ext⟩
    (rw [dK];exact ⟨λh=>(by cases h),λh=>absurd (hiff.1 h) (by rw [gN];exact λh=>e6 (by rw [h.2.2.2.2.2.2.2]))⟩)
   try simp only [df] at h69
   have e6:=(by omega:eG.length=iW.length);refine .gy (.fieldAddr Z cQ)<|.gy (.load Z dG Hm Z)<|.gy (.fieldAddr Z cQ)<|.gy (.load Z dG cR Z)<|.gy (.call zY Z (λW s=>HZ H 52 zX ex0 ex1 (λa _=>vN H a) _ _ hs0 hs5 W s.agr))<|.gy (.not Z)<|.yw (.pickF Z Z)<|.nt<|.cd Z (λh76=>?_) (λh76=>?_)
   ·try simp only [dt] at h76
    have e7:=DL.1 (by simpa using h76);refine .sr<|.az Z<|.tR<|.bR<|.tR<|.tR<|.bR<|.tR<|?_
    refine y9 Z Z λW s=>⟨kN ?_,s.ext⟩
    (rw [dK];exact ⟨λh=>(by cases h),λh=>absurd (hiff.1 h) (by rw [gN];exact λh=>e7 h.2.2.2.2.2.2.1)⟩)
   try simp only [df] at h76
   have e7:=dK.1 (by simpa using h76);refine Sx.At.rcut (size:=7) (m:=fs0.length) (ys:=xf.take (fs0.length * 7)) jW (by rw [hl0];exact Nat.le_succ _) rfl ?_;refine Sx.At.rcut (size:=7) (m:=gs0.length) (ys:=xg.take (gs0.length * 7)) nP (by rw [hl1];exact Nat.le_succ _) rfl ?_;exact .sk<|.tN<|.fL 12 [(0,0),(1,0),(2,0),(3,0),(4,0),(6,0),(7,0),(8,0),(9,0),(10,0),(5,3),(11,3)]<|.mv Z<|.mv Z<|.yw (.cutHi eY Z Z (h:=fs0.length) (by rw [hl0];omega) (by rw [hl0] at hgc;omega) (λq e=>by cases e;rfl))<|.fA Z dF<|.lD Z fY Hm Z<|.mv Z<|.mv Z<|.yw (.cutHi eY Z Z (h:=gs0.length) (by rw [hl0];omega) (by rw [hl1] at hgd;omega) (λq e=>by cases e;rfl))<|.fA Z dF<|.lD Z fY cR Z<|.apD sN Z (λ_ _=>jW) Z hs3 (by simp only [maxLen];omega) (by omega) Z (λ_ _=>(.yv (.load Z fY cR Z)<|.yv (.fieldAddr Z dF)<|.yv (.cutHi eY Z Z (h:=gs0.length) (by rw [hl0];omega) (by rw [hl1] at hgd;omega) (λq e=>by cases e;rfl))<|.yv (.move Z)<|.yv (.move Z)<|.d3<|.d2<|.nl)) λnews pN cN hzn=>.apD sN Z (λ_ _=>nP) Z hs6 (by simp only [maxLen];omega) (by omega) Z (λ_ _=>(.d4<|.d4<|.d2<|.nl)) λmews pM cM hzm=>.fn (tl:=[_,_]) Z<|.a Z Z<|.a Z Z<|.nl<|.bN<|.tN<|.rg<|.mv Z<|.yw (.lenSl eY Z)<|.yw (.sub Z Z (w6 (by omega)))<|.aq Z<|.ag (x:=(n,fs0++[Fm.mk op0 nm0 fd0 a0 b0 ex0 eG],gs0++[Fm.mk op1 nm1 fd1 a1 b1 ex1 iW],Value.slice (some ⟨wf,0,none⟩) (fs0++[Fm.mk op0 nm0 fd0 a0 b0 ex0 eG]).length cf,Value.slice (some ⟨wg,0,none⟩) (gs0++[Fm.mk op1 nm1 fd1 a1 b1 ex1 iW]).length cg,xf,xg)) (n+1,fs0++eG,gs0++iW,Value.slice pN (fs0.length+eG.length) cN,Value.slice pM (gs0.length+iW.length) cM,xf.take (fs0.length * 7)++news,xg.take (gs0.length * 7)++mews) ⟨Z,Z,by dsimp only;exact congrArg (λm:Nat=>some (Value.int .i64 ((m:Int) - 1))) (aE ).symm,Jt⟩ trivial (λ_ s=>by dsimp only;rw [aE,aE];exact (s.pick [2,3,4,5] _ Z Z)) ⟨by rw [bT];exact hz0.app hzn,by rw [bT];exact hz1.app hzm,by dsimp only;rw [aE,aE];omega,by dsimp only;rw [fG];omega,λe he=>by rcases cK.1 he with h | h;exact hbf e (cK.2 (.inl h));exact hb0.2 e h,by dsimp only;rw [aE,hNs];omega,by dsimp only;exact hiff.trans (DG e1 e2 e3 e4 e5 e6 e7 hle)⟩ (by dsimp only;rw [fG,fG,Fm.counts,Fm.counts,jT];omega)
  try simp only [df] at h15
  have hfs:fs=[]:=bK (by omega);have hgs:gs=[]:=bK (by omega);have hall:=hiff.2 (by rw [hfs,hgs]);refine .ex<|.eb<|.sr<|.az Z<|?_
  refine y9 Z Z λW s=>⟨kN ?_,s.ext⟩
  (rw [dK];exact ⟨λ_=>hall,λ_=>rfl⟩)
 refine .blR (z:=7) Z (rK _ _ _ _ _ _ _) Z Z (by simp [maxLen]) λb13=>.h1<|.blR (z:=7) Z (rK _ _ _ _ _ _ _) Z Z (by simp [maxLen]) λb11=>.a Z Z<|.fn (tl:=[_]) Z<|.aq Z<|.sq<|.sr<|.aq Z<|.bk<|.lp (X:=Nat × List Fm × List Fm × Value × Value × List Value × List Value) [] trivial [_,_] (λz=>[(5,z.2.2.2.1),(6,z.2.2.2.2.1),(7,.int .i64 ((z.2.1.length:Int) - 1))]) (λz=>H) (λz=>[.row 35 7 z.2.2.2.1 z.2.1.length z.2.2.2.2.2.1,.row 35 7 z.2.2.2.2.1 z.2.2.1.length z.2.2.2.2.2.2]) (λz=>eJ H 7 (z.2.1.map (dFm .u8)) z.2.2.2.2.2.1/\eJ H 7 (z.2.2.1.map (dFm .u8)) z.2.2.2.2.2.2/\z.2.1.length=z.2.2.1.length/\z.1+Fm.counts z.2.1<=Fm.count (.mk op nm fd a b ex args)/\(∀ g∈z.2.1,blF N g=true)/\z.2.1.length<=1+N * z.1/\(Fm.mk op nm fd a b ex args=Fm.mk opb nmb fdb ab bb exb argsb↔z.2.1=z.2.2.1)) (λz=>Fm.counts z.2.1) (0,[Fm.mk op nm fd a b ex args],[Fm.mk opb nmb fdb ab bb exb argsb],.slice (some ⟨b11,0,none⟩) 1 1,.slice (some ⟨b13,0,none⟩) 1 1,[.int .u8 op.toNat,bV nm,bV fd,.int .i64 a.toInt,.int .i64 b.toInt,.slice p1 ex.length c1,.slice p2 args.length c2],[.int .u8 opb.toNat,bV nmb,bV fdb,.int .i64 ab.toInt,.int .i64 bb.toInt,.slice p3 exb.length c3,.slice p4 argsb.length c4]) (λ_ s=>s) ⟨Z,Z,Z,Jt⟩ ⟨.single h Z,.single k Z,Z,by rw [Fm.counts,Fm.counts];omega,λg hg=>by rw [cO.1 hg];exact hb,by simp,by simp⟩ λz hC=>?_
 obtain ⟨n,fs,gs,rf,rg,xf,xg⟩:=z;obtain ⟨zf,zg,hle,hcnt,hbf,hlen,hiff⟩:=hC;dsimp only at zf zg hle hcnt hbf hlen hiff|-;have hNn:N * n<=N * Fm.count (.mk op nm fd a b ex args):=mD N (by omega);refine At.ra (size:=7) (r:=rf) (e:=35) Hm λpf cf e=>?_;subst e;refine At.ra (size:=7) (r:=rg) (e:=35) cR λpg cg e=>?_;subst e;refine .sq<|.sm Z<|.yw (.geq Z Z)<|.nt<|.cd Z (λh15=>?_) (λh15=>?_)
 ·try simp only [dt] at h15
  have hpos:0<fs.length:=by omega
  obtain ⟨fs0,f0,rfl⟩:∃ fs0 f0,fs=fs0++[f0]:=by
   rcases List.eq_nil_or_concat fs with h | ⟨t,x,h⟩
   ·subst h;simp at hpos hle
   ·exact ⟨t,x,by rw [h,List.concat_eq_append]⟩
  have hl0:(fs0++[f0]).length=fs0.length+1:=by rw [aE];rfl
  refine Sx.rowCase (size:=7) (r:=.slice pf (fs0++[f0]).length cf) (e:=35) Hm (by rw [hl0];exact Nat.succ_pos _) λwf c e hgc=>?_;injection e with e3 _ e4
  subst e3 e4;obtain ⟨cs0,r0,hc0,hx0⟩:=eJ.at zf (i:=fs0.length) (d:=dFm .u8 f0) (by rw [bT,List.getElem?_append_right (by rw [bJ];exact aW _),bJ,jP];rfl)
  have hz0:eJ H 7 (fs0.map (dFm .u8)) (xf.take (fs0.length * 7)):=by
   have h:=eJ.take fs0.length zf;rw [bT,List.take_left' (by rw [bJ])] at h;exact h
  obtain ⟨gs0,g0,rfl⟩:∃ fs0 f0,gs=fs0++[f0]:=by
   rcases List.eq_nil_or_concat gs with h | ⟨t,x,h⟩
   ·subst h;simp at hpos hle
   ·exact ⟨t,x,by rw [h,List.concat_eq_append]⟩
  have hl1:(gs0++[g0]).length=gs0.length+1:=by rw [aE];rfl
  refine Sx.rowCase (size:=7) (r:=.slice pg (gs0++[g0]).length cg) (e:=35) cR (by rw [hl1];exact Nat.succ_pos _) λwg c e hgd=>?_;injection e with e3 _ e4
  subst e3 e4;obtain ⟨cs1,r1,hc1,hx1⟩:=eJ.at zg (i:=gs0.length) (d:=dFm .u8 g0) (by rw [bT,List.getElem?_append_right (by rw [bJ];exact aW _),bJ,jP];rfl)
  have hz1:eJ H 7 (gs0.map (dFm .u8)) (xg.take (gs0.length * 7)):=by
   have h:=eJ.take gs0.length zg;rw [bT,List.take_left' (by rw [bJ])] at h;exact h
  obtain ⟨op0,nm0,fd0,a0,b0,ex0,eG⟩:=f0;obtain ⟨op1,nm1,fd1,a1,b1,ex1,iW⟩:=g0;obtain ⟨q1,d1,q2,d2,rfl,hs0,hs3,_,_⟩:=gZ r0;obtain ⟨q5,d5,q6,d6,rfl,hs5,hs6,_,_⟩:=gZ r1;have hb0:=(xX.1 (hbf _ (cK.2 (.inr (cO.2 rfl)))));rw [fG,Fm.counts,Fm.counts,jT] at hcnt;rw [hl0,hl1] at hle;rw [hl0] at hlen;have hNs:N * (n+1)=N * n+N:=Nat.mul_succ N n;have hcp0:=hs3.cap;have hcp1:=hs6.cap;refine .sk<|.tN<|.sq<|.bk<|.sq<|.ft (p:=.light _ _ (.light _ _ (.light _ _ (.light _ _ (.light _ _ (.light _ _ (.light _ _ (.light _ _ (.alt _ _ _ (.alt _ _ _ (.alt _ _ _ (.done) (.no)) (.no)) (.alt _ _ _ (.alt _ _ _ (.alt _ _ _ (.done) (.no)) (.no)) (.no))))))))))) 11 (.light 0 (.light 1 (.light 2 (.light 3 (.light 4 (.light 5 (.light 6 (.light 7 (.alt 8 0 (.alt 9 0 (.alt 10 2 (.done) (.no)) (.no)) (.alt 9 0 (.alt 8 0 (.alt 10 2 (.done) (.no)) (.no)) (.no))))))))))) (by kernel_rfl) (by kernel_rfl) Z<|.mv Z<|.mv Z<|.yw (.indexSl eY Z Z (i:=fs0.length) (by rw [hl0];omega) (by rw [hl0];omega) (q:=fs0.length * 7) (by omega))<|.yw (.loadR (vs:=cFm .u8 op0 nm0 fd0 a0 b0 (.slice q1 ex0.length d1) (.slice q2 eG.length d2)) Z cL Hm Z hx0)<|.mv Z<|.mv Z<|.yw (.indexSl eY Z Z (i:=gs0.length) (by rw [hl0];omega) (by rw [hl1];omega) (q:=gs0.length * 7) (by omega))<|.yw (.loadR (vs:=cFm .u8 op1 nm1 fd1 a1 b1 (.slice q5 ex1.length d5) (.slice q6 iW.length d6)) Z cL cR Z hx1)<|.h ?_ (.h ?_ .nn)
  ·
   refine .al eS Z λb8=>.h1<|.al eS Z λb9=>.h1<|.sW jS Z Z dC (by simp [Value.oneCell',bV]) Z ((.yv (.loadR (vs:=cFm .u8 op1 nm1 fd1 a1 b1 (.slice q5 ex1.length d5) (.slice q6 iW.length d6)) Z cL qP Z hx1)<|.yv (.indexSl eY Z Z (i:=gs0.length) (by rw [hl0];omega) (by rw [hl1];omega) (q:=gs0.length * 7) (by omega))<|.yv (.move Z)<|.yv (.move Z)<|.d4<|.nl))<|.fn (tl:=[_]) Z<|.sX .head Z Z dC Z<|.nt<|.sq<|.sr<|.fA Z eP<|.lD Z iT cR Z<|.fA Z eP<|.lD Z iT Hm Z<|.yw (.neq Z Z)<|.mv Z<|.b2 (λh32=>?_) (λh32=>?_)
   ·try simp only [dt] at h32
    have e1:=(λe=>h32 (by rw [e]):¬ op0=op1);refine .gG<|.gG<|.gG<|.gG<|.gG<|.yw (.pickT Z Z)<|.mv Z<|.gG<|.gG<|.gG<|.gG<|.gG<|.yw (.pickT Z Z)<|.mv Z<|.gG<|.gG<|.gG<|.gG<|.gG<|.yw (.pickT Z Z)<|.mv Z<|.gG<|.gG<|.gG<|.gG<|.gG<|.yw (.pickT Z Z)<|.mv Z<|.gG<|.gG<|.gG<|.gG<|.gG<|.gG<|.gG<|.yw (.pickT Z Z)<|.mv Z<|.gG<|.gG<|.gG<|.gG<|.gG<|.gG<|.yw (.pickT Z Z)<|.nt<|.cT Z<|.sr<|.az Z<|.tR<|.bR<|.tR<|.tR<|.bR<|.tR<|?_
    refine y9 Z Z λW s=>⟨kN ?_,s.ext⟩
    (rw [dK];exact ⟨λh=>(by cases h),λh=>absurd (hiff.1 h) (by rw [gN];exact λh=>e1 (h.2.1))⟩)
   try simp only [df] at h32
   have e1:=aR.1 (by omega:op0.toNat=op1.toNat);refine .gy (.fieldAddr Z gC)<|.gy (.load Z cP cR Z)<|.gy (.fieldAddr Z gC)<|.gy (.load Z cP Hm Z)<|.gy (.neS Z Z)<|.yw (.pickF Z Z)<|.mv Z<|.b2 (λh39=>?_) (λh39=>?_)
   ·try simp only [dt] at h39
    have e2:=(id h39:¬ nm0=nm1);refine .gG<|.gG<|.gG<|.gG<|.gG<|.yw (.pickT Z Z)<|.mv Z<|.gG<|.gG<|.gG<|.gG<|.gG<|.yw (.pickT Z Z)<|.mv Z<|.gG<|.gG<|.gG<|.gG<|.gG<|.yw (.pickT Z Z)<|.mv Z<|.gG<|.gG<|.gG<|.gG<|.gG<|.gG<|.gG<|.yw (.pickT Z Z)<|.mv Z<|.gG<|.gG<|.gG<|.gG<|.gG<|.gG<|.yw (.pickT Z Z)<|.nt<|.cT Z<|.sr<|.az Z<|.tR<|.bR<|.tR<|.tR<|.bR<|.tR<|?_
    refine y9 Z Z λW s=>⟨kN ?_,s.ext⟩
    (rw [dK];exact ⟨λh=>(by cases h),λh=>absurd (hiff.1 h) (by rw [gN];exact λh=>e2 (h.2.2.1))⟩)
   try simp only [df] at h39
   have e2:=(bD.1 h39:nm0=nm1);refine .gy (.fieldAddr Z gA)<|.gy (.load Z cP cR Z)<|.gy (.fieldAddr Z gA)<|.gy (.load Z cP Hm Z)<|.gy (.neS Z Z)<|.yw (.pickF Z Z)<|.mv Z<|.b2 (λh46=>?_) (λh46=>?_)
   ·try simp only [dt] at h46
    have e3:=(id h46:¬ fd0=fd1);refine .gG<|.gG<|.gG<|.gG<|.gG<|.yw (.pickT Z Z)<|.mv Z<|.gG<|.gG<|.gG<|.gG<|.gG<|.yw (.pickT Z Z)<|.mv Z<|.gG<|.gG<|.gG<|.gG<|.gG<|.gG<|.gG<|.yw (.pickT Z Z)<|.mv Z<|.gG<|.gG<|.gG<|.gG<|.gG<|.gG<|.yw (.pickT Z Z)<|.nt<|.cT Z<|.sr<|.az Z<|.tR<|.bR<|.tR<|.tR<|.bR<|.tR<|?_
    refine y9 Z Z λW s=>⟨kN ?_,s.ext⟩
    (rw [dK];exact ⟨λh=>(by cases h),λh=>absurd (hiff.1 h) (by rw [gN];exact λh=>e3 (h.2.2.2.1))⟩)
   try simp only [df] at h46
   have e3:=(bD.1 h46:fd0=fd1);refine .gy (.fieldAddr Z fI)<|.gy (.load Z bS cR Z)<|.gy (.fieldAddr Z fI)<|.gy (.load Z bS Hm Z)<|.gy (.neq Z Z)<|.yw (.pickF Z Z)<|.mv Z<|.b2 (λh53=>?_) (λh53=>?_)
   ·try simp only [dt] at h53
    have e4:=(λe=>h53 (by rw [e]):¬ a0=a1);refine .gG<|.gG<|.gG<|.gG<|.gG<|.yw (.pickT Z Z)<|.mv Z<|.gG<|.gG<|.gG<|.gG<|.gG<|.gG<|.gG<|.yw (.pickT Z Z)<|.mv Z<|.gG<|.gG<|.gG<|.gG<|.gG<|.gG<|.yw (.pickT Z Z)<|.nt<|.cT Z<|.sr<|.az Z<|.tR<|.bR<|.tR<|.tR<|.bR<|.tR<|?_
    refine y9 Z Z λW s=>⟨kN ?_,s.ext⟩
    (rw [dK];exact ⟨λh=>(by cases h),λh=>absurd (hiff.1 h) (by rw [gN];exact λh=>e4 (h.2.2.2.2.1))⟩)
   try simp only [df] at h53
   have e4:=dW.1 (by omega:a0.toInt=a1.toInt);refine .gy (.fieldAddr Z eW)<|.gy (.load Z bS cR Z)<|.gy (.fieldAddr Z eW)<|.gy (.load Z bS Hm Z)<|.gy (.neq Z Z)<|.yw (.pickF Z Z)<|.mv Z<|.b2 (λh60=>?_) (λh60=>?_)
   ·try simp only [dt] at h60
    have e5:=(λe=>h60 (by rw [e]):¬ b0=b1);refine .gG<|.gG<|.gG<|.gG<|.gG<|.gG<|.gG<|.yw (.pickT Z Z)<|.mv Z<|.gG<|.gG<|.gG<|.gG<|.gG<|.gG<|.yw (.pickT Z Z)<|.nt<|.cT Z<|.sr<|.az Z<|.tR<|.bR<|.tR<|.tR<|.bR<|.tR<|?_
    refine y9 Z Z λW s=>⟨kN ?_,s.ext⟩
    (rw [dK];exact ⟨λh=>(by cases h),λh=>absurd (hiff.1 h) (by rw [gN];exact λh=>e5 (h.2.2.2.2.2.1))⟩)
   try simp only [df] at h60
   have e5:=dW.1 (by omega:b0.toInt=b1.toInt);refine .gy (.fieldAddr Z dF)<|.gy (.load Z fY cR Z)<|.gy (.lenSl eY Z)<|.gy (.fieldAddr Z dF)<|.gy (.load Z fY Hm Z)<|.gy (.lenSl eY Z)<|.gy (.neq Z Z)<|.yw (.pickF Z Z)<|.mv Z<|.b2 (λh69=>?_) (λh69=>?_)
   ·try simp only [dt] at h69
    have e6:=(λe=>h69 (by rw [e]):¬ eG.length=iW.length);refine .gG<|.gG<|.gG<|.gG<|.gG<|.gG<|.yw (.pickT Z Z)<|.nt<|.cT Z<|.sr<|.az Z<|.tR<|.bR<|.tR<|.tR<|.bR<|.tR<|?_
    refine y9 Z Z λW s=>⟨kN ?_,s.ext⟩
    (rw [dK];exact ⟨λh=>(by cases h),λh=>absurd (hiff.1 h) (by rw [gN];exact λh=>e6 (by rw [h.2.2.2.2.2.2.2]))⟩)
   try simp only [df] at h69
   have e6:=(by omega:eG.length=iW.length);refine .gy (.fieldAddr Z cQ)<|.gy (.load Z dG cR Z)<|.gy (.fieldAddr Z cQ)<|.gy (.load Z dG Hm Z)<|.gy (.call zY Z (λW s=>HZ H 52 zX ex0 ex1 (λa _=>vN H a) _ _ hs0 hs5 W s.agr))<|.gy (.not Z)<|.yw (.pickF Z Z)<|.nt<|.cd Z (λh76=>?_) (λh76=>?_)
   ·try simp only [dt] at h76
    have e7:=DL.1 (by simpa using h76);refine .sr<|.az Z<|.tR<|.bR<|.tR<|.tR<|.bR<|.tR<|?_
    refine y9 Z Z λW s=>⟨kN ?_,s.ext⟩
    (rw [dK];exact ⟨λh=>(by cases h),λh=>absurd (hiff.1 h) (by rw [gN];exact λh=>e7 h.2.2.2.2.2.2.1)⟩)
   try simp only [df] at h76
   have e7:=dK.1 (by simpa using h76);refine Sx.At.rcut (size:=7) (m:=fs0.length) (ys:=xf.take (fs0.length * 7)) jW (by rw [hl0];exact Nat.le_succ _) rfl ?_;refine Sx.At.rcut (size:=7) (m:=gs0.length) (ys:=xg.take (gs0.length * 7)) nP (by rw [hl1];exact Nat.le_succ _) rfl ?_;exact .sk<|.tN<|.fL 12 [(0,0),(1,0),(2,0),(3,0),(4,0),(6,0),(7,0),(8,0),(9,0),(10,0),(5,3),(11,3)]<|.mv Z<|.mv Z<|.yw (.cutHi eY Z Z (h:=fs0.length) (by rw [hl0];omega) (by rw [hl0] at hgc;omega) (λq e=>by cases e;rfl))<|.fA Z dF<|.lD Z fY cR Z<|.mv Z<|.mv Z<|.yw (.cutHi eY Z Z (h:=gs0.length) (by rw [hl0];omega) (by rw [hl1] at hgd;omega) (λq e=>by cases e;rfl))<|.fA Z dF<|.lD Z fY Hm Z<|.apD sN Z (λ_ _=>jW) Z hs3 (by simp only [maxLen];omega) (by omega) Z (λ_ _=>(.yv (.load Z fY Hm Z)<|.yv (.fieldAddr Z dF)<|.yv (.cutHi eY Z Z (h:=gs0.length) (by rw [hl0];omega) (by rw [hl1] at hgd;omega) (λq e=>by cases e;rfl))<|.yv (.move Z)<|.yv (.move Z)<|.d3<|.d2<|.nl)) λnews pN cN hzn=>.apD sN Z (λ_ _=>nP) Z hs6 (by simp only [maxLen];omega) (by omega) Z (λ_ _=>(.d4<|.d4<|.d2<|.nl)) λmews pM cM hzm=>.fn (tl:=[_,_]) Z<|.a Z Z<|.a Z Z<|.nl<|.bN<|.tN<|.rg<|.mv Z<|.yw (.lenSl eY Z)<|.yw (.sub Z Z (w6 (by omega)))<|.aq Z<|.ag (x:=(n,fs0++[Fm.mk op0 nm0 fd0 a0 b0 ex0 eG],gs0++[Fm.mk op1 nm1 fd1 a1 b1 ex1 iW],Value.slice (some ⟨wf,0,none⟩) (fs0++[Fm.mk op0 nm0 fd0 a0 b0 ex0 eG]).length cf,Value.slice (some ⟨wg,0,none⟩) (gs0++[Fm.mk op1 nm1 fd1 a1 b1 ex1 iW]).length cg,xf,xg)) (n+1,fs0++eG,gs0++iW,Value.slice pN (fs0.length+eG.length) cN,Value.slice pM (gs0.length+iW.length) cM,xf.take (fs0.length * 7)++news,xg.take (gs0.length * 7)++mews) ⟨Z,Z,by dsimp only;exact congrArg (λm:Nat=>some (Value.int .i64 ((m:Int) - 1))) (aE ).symm,Jt⟩ trivial (λ_ s=>by dsimp only;rw [aE,aE];exact (s.pick [2,3,4,5] _ Z Z)) ⟨by rw [bT];exact hz0.app hzn,by rw [bT];exact hz1.app hzm,by dsimp only;rw [aE,aE];omega,by dsimp only;rw [fG];omega,λe he=>by rcases cK.1 he with h | h;exact hbf e (cK.2 (.inl h));exact hb0.2 e h,by dsimp only;rw [aE,hNs];omega,by dsimp only;exact hiff.trans (DG e1 e2 e3 e4 e5 e6 e7 hle)⟩ (by dsimp only;rw [fG,fG,Fm.counts,Fm.counts,jT];omega)
  refine .al eS Z λb9=>.h1<|.al eS Z λb8=>.h1<|.sW .head Z Z dC (by simp [Value.oneCell',bV]) Z ((.yv (.loadR (vs:=cFm .u8 op1 nm1 fd1 a1 b1 (.slice q5 ex1.length d5) (.slice q6 iW.length d6)) Z cL qP Z hx1)<|.yv (.indexSl eY Z Z (i:=gs0.length) (by rw [hl0];omega) (by rw [hl1];omega) (q:=gs0.length * 7) (by omega))<|.yv (.move Z)<|.yv (.move Z)<|.d4<|.nl))<|.fn (tl:=[_]) Z<|.sX jS Z Z dC Z<|.nt<|.sq<|.sr<|.fA Z eP<|.lD Z iT Hm Z<|.fA Z eP<|.lD Z iT cR Z<|.yw (.neq Z Z)<|.mv Z<|.b2 (λh32=>?_) (λh32=>?_)
  ·try simp only [dt] at h32
   have e1:=(λe=>h32 (by rw [e]):¬ op0=op1);refine .gG<|.gG<|.gG<|.gG<|.gG<|.yw (.pickT Z Z)<|.mv Z<|.gG<|.gG<|.gG<|.gG<|.gG<|.yw (.pickT Z Z)<|.mv Z<|.gG<|.gG<|.gG<|.gG<|.gG<|.yw (.pickT Z Z)<|.mv Z<|.gG<|.gG<|.gG<|.gG<|.gG<|.yw (.pickT Z Z)<|.mv Z<|.gG<|.gG<|.gG<|.gG<|.gG<|.gG<|.gG<|.yw (.pickT Z Z)<|.mv Z<|.gG<|.gG<|.gG<|.gG<|.gG<|.gG<|.yw (.pickT Z Z)<|.nt<|.cT Z<|.sr<|.az Z<|.tR<|.bR<|.tR<|.tR<|.bR<|.tR<|?_
   refine y9 Z Z λW s=>⟨kN ?_,s.ext⟩
   (rw [dK];exact ⟨λh=>(by cases h),λh=>absurd (hiff.1 h) (by rw [gN];exact λh=>e1 (h.2.1))⟩)
  try simp only [df] at h32
  have e1:=aR.1 (by omega:op0.toNat=op1.toNat);refine .gy (.fieldAddr Z gC)<|.gy (.load Z cP Hm Z)<|.gy (.fieldAddr Z gC)<|.gy (.load Z cP cR Z)<|.gy (.neS Z Z)<|.yw (.pickF Z Z)<|.mv Z<|.b2 (λh39=>?_) (λh39=>?_)
  ·try simp only [dt] at h39
   have e2:=(id h39:¬ nm0=nm1);refine .gG<|.gG<|.gG<|.gG<|.gG<|.yw (.pickT Z Z)<|.mv Z<|.gG<|.gG<|.gG<|.gG<|.gG<|.yw (.pickT Z Z)<|.mv Z<|.gG<|.gG<|.gG<|.gG<|.gG<|.yw (.pickT Z Z)<|.mv Z<|.gG<|.gG<|.gG<|.gG<|.gG<|.gG<|.gG<|.yw (.pickT Z Z)<|.mv Z<|.gG<|.gG<|.gG<|.gG<|.gG<|.gG<|.yw (.pickT Z Z)<|.nt<|.cT Z<|.sr<|.az Z<|.tR<|.bR<|.tR<|.tR<|.bR<|.tR<|?_
   refine y9 Z Z λW s=>⟨kN ?_,s.ext⟩
   (rw [dK];exact ⟨λh=>(by cases h),λh=>absurd (hiff.1 h) (by rw [gN];exact λh=>e2 (h.2.2.1))⟩)
  try simp only [df] at h39
  have e2:=(bD.1 h39:nm0=nm1);refine .gy (.fieldAddr Z gA)<|.gy (.load Z cP Hm Z)<|.gy (.fieldAddr Z gA)<|.gy (.load Z cP cR Z)<|.gy (.neS Z Z)<|.yw (.pickF Z Z)<|.mv Z<|.b2 (λh46=>?_) (λh46=>?_)
  ·try simp only [dt] at h46
   have e3:=(id h46:¬ fd0=fd1);refine .gG<|.gG<|.gG<|.gG<|.gG<|.yw (.pickT Z Z)<|.mv Z<|.gG<|.gG<|.gG<|.gG<|.gG<|.yw (.pickT Z Z)<|.mv Z<|.gG<|.gG<|.gG<|.gG<|.gG<|.gG<|.gG<|.yw (.pickT Z Z)<|.mv Z<|.gG<|.gG<|.gG<|.gG<|.gG<|.gG<|.yw (.pickT Z Z)<|.nt<|.cT Z<|.sr<|.az Z<|.tR<|.bR<|.tR<|.tR<|.bR<|.tR<|?_
   refine y9 Z Z λW s=>⟨kN ?_,s.ext⟩
   (rw [dK];exact ⟨λh=>(by cases h),λh=>absurd (hiff.1 h) (by rw [gN];exact λh=>e3 (h.2.2.2.1))⟩)
  try simp only [df] at h46
  have e3:=(bD.1 h46:fd0=fd1);refine .gy (.fieldAddr Z fI)<|.gy (.load Z bS Hm Z)<|.gy (.fieldAddr Z fI)<|.gy (.load Z bS cR Z)<|.gy (.neq Z Z)<|.yw (.pickF Z Z)<|.mv Z<|.b2 (λh53=>?_) (λh53=>?_)
  ·try simp only [dt] at h53
   have e4:=(λe=>h53 (by rw [e]):¬ a0=a1);refine .gG<|.gG<|.gG<|.gG<|.gG<|.yw (.pickT Z Z)<|.mv Z<|.gG<|.gG<|.gG<|.gG<|.gG<|.gG<|.gG<|.yw (.pickT Z Z)<|.mv Z<|.gG<|.gG<|.gG<|.gG<|.gG<|.gG<|.yw (.pickT Z Z)<|.nt<|.cT Z<|.sr<|.az Z<|.tR<|.bR<|.tR<|.tR<|.bR<|.tR<|?_
   refine y9 Z Z λW s=>⟨kN ?_,s.ext⟩
   (rw [dK];exact ⟨λh=>(by cases h),λh=>absurd (hiff.1 h) (by rw [gN];exact λh=>e4 (h.2.2.2.2.1))⟩)
  try simp only [df] at h53
  have e4:=dW.1 (by omega:a0.toInt=a1.toInt);refine .gy (.fieldAddr Z eW)<|.gy (.load Z bS Hm Z)<|.gy (.fieldAddr Z eW)<|.gy (.load Z bS cR Z)<|.gy (.neq Z Z)<|.yw (.pickF Z Z)<|.mv Z<|.b2 (λh60=>?_) (λh60=>?_)
  ·try simp only [dt] at h60
   have e5:=(λe=>h60 (by rw [e]):¬ b0=b1);refine .gG<|.gG<|.gG<|.gG<|.gG<|.gG<|.gG<|.yw (.pickT Z Z)<|.mv Z<|.gG<|.gG<|.gG<|.gG<|.gG<|.gG<|.yw (.pickT Z Z)<|.nt<|.cT Z<|.sr<|.az Z<|.tR<|.bR<|.tR<|.tR<|.bR<|.tR<|?_
   refine y9 Z Z λW s=>⟨kN ?_,s.ext⟩
   (rw [dK];exact ⟨λh=>(by cases h),λh=>absurd (hiff.1 h) (by rw [gN];exact λh=>e5 (h.2.2.2.2.2.1))⟩)
  try simp only [df] at h60
  have e5:=dW.1 (by omega:b0.toInt=b1.toInt);refine .gy (.fieldAddr Z dF)<|.gy (.load Z fY Hm Z)<|.gy (.lenSl eY Z)<|.gy (.fieldAddr Z dF)<|.gy (.load Z fY cR Z)<|.gy (.lenSl eY Z)<|.gy (.neq Z Z)<|.yw (.pickF Z Z)<|.mv Z<|.b2 (λh69=>?_) (λh69=>?_)
  ·try simp only [dt] at h69
   have e6:=(λe=>h69 (by rw [e]):¬ eG.length=iW.length);refine .gG<|.gG<|.gG<|.gG<|.gG<|.gG<|.yw (.pickT Z Z)<|.nt<|.cT Z<|.sr<|.az Z<|.tR<|.bR<|.tR<|.tR<|.bR<|.tR<|?_
   refine y9 Z Z λW s=>⟨kN ?_,s.ext⟩
   (rw [dK];exact ⟨λh=>(by cases h),λh=>absurd (hiff.1 h) (by rw [gN];exact λh=>e6 (by rw [h.2.2.2.2.2.2.2]))⟩)
  try simp only [df] at h69
  have e6:=(by omega:eG.length=iW.length);refine .gy (.fieldAddr Z cQ)<|.gy (.load Z dG Hm Z)<|.gy (.fieldAddr Z cQ)<|.gy (.load Z dG cR Z)<|.gy (.call zY Z (λW s=>HZ H 52 zX ex0 ex1 (λa _=>vN H a) _ _ hs0 hs5 W s.agr))<|.gy (.not Z)<|.yw (.pickF Z Z)<|.nt<|.cd Z (λh76=>?_) (λh76=>?_)
  ·try simp only [dt] at h76
   have e7:=DL.1 (by simpa using h76);refine .sr<|.az Z<|.tR<|.bR<|.tR<|.tR<|.bR<|.tR<|?_
   refine y9 Z Z λW s=>⟨kN ?_,s.ext⟩
   (rw [dK];exact ⟨λh=>(by cases h),λh=>absurd (hiff.1 h) (by rw [gN];exact λh=>e7 h.2.2.2.2.2.2.1)⟩)
  try simp only [df] at h76
  have e7:=dK.1 (by simpa using h76);refine Sx.At.rcut (size:=7) (m:=fs0.length) (ys:=xf.take (fs0.length * 7)) jW (by rw [hl0];exact Nat.le_succ _) rfl ?_;refine Sx.At.rcut (size:=7) (m:=gs0.length) (ys:=xg.take (gs0.length * 7)) nP (by rw [hl1];exact Nat.le_succ _) rfl ?_;exact .sk<|.tN<|.fL 12 [(0,0),(1,0),(2,0),(3,0),(4,0),(6,0),(7,0),(8,0),(9,0),(10,0),(5,3),(11,3)]<|.mv Z<|.mv Z<|.yw (.cutHi eY Z Z (h:=fs0.length) (by rw [hl0];omega) (by rw [hl0] at hgc;omega) (λq e=>by cases e;rfl))<|.fA Z dF<|.lD Z fY Hm Z<|.mv Z<|.mv Z<|.yw (.cutHi eY Z Z (h:=gs0.length) (by rw [hl0];omega) (by rw [hl1] at hgd;omega) (λq e=>by cases e;rfl))<|.fA Z dF<|.lD Z fY cR Z<|.apD sN Z (λ_ _=>jW) Z hs3 (by simp only [maxLen];omega) (by omega) Z (λ_ _=>(.yv (.load Z fY cR Z)<|.yv (.fieldAddr Z dF)<|.yv (.cutHi eY Z Z (h:=gs0.length) (by rw [hl0];omega) (by rw [hl1] at hgd;omega) (λq e=>by cases e;rfl))<|.yv (.move Z)<|.yv (.move Z)<|.d3<|.d2<|.nl)) λnews pN cN hzn=>.apD sN Z (λ_ _=>nP) Z hs6 (by simp only [maxLen];omega) (by omega) Z (λ_ _=>(.d4<|.d4<|.d2<|.nl)) λmews pM cM hzm=>.fn (tl:=[_,_]) Z<|.a Z Z<|.a Z Z<|.nl<|.bN<|.tN<|.rg<|.mv Z<|.yw (.lenSl eY Z)<|.yw (.sub Z Z (w6 (by omega)))<|.aq Z<|.ag (x:=(n,fs0++[Fm.mk op0 nm0 fd0 a0 b0 ex0 eG],gs0++[Fm.mk op1 nm1 fd1 a1 b1 ex1 iW],Value.slice (some ⟨wf,0,none⟩) (fs0++[Fm.mk op0 nm0 fd0 a0 b0 ex0 eG]).length cf,Value.slice (some ⟨wg,0,none⟩) (gs0++[Fm.mk op1 nm1 fd1 a1 b1 ex1 iW]).length cg,xf,xg)) (n+1,fs0++eG,gs0++iW,Value.slice pN (fs0.length+eG.length) cN,Value.slice pM (gs0.length+iW.length) cM,xf.take (fs0.length * 7)++news,xg.take (gs0.length * 7)++mews) ⟨Z,Z,by dsimp only;exact congrArg (λm:Nat=>some (Value.int .i64 ((m:Int) - 1))) (aE ).symm,Jt⟩ trivial (λ_ s=>by dsimp only;rw [aE,aE];exact (s.pick [2,3,4,5] _ Z Z)) ⟨by rw [bT];exact hz0.app hzn,by rw [bT];exact hz1.app hzm,by dsimp only;rw [aE,aE];omega,by dsimp only;rw [fG];omega,λe he=>by rcases cK.1 he with h | h;exact hbf e (cK.2 (.inl h));exact hb0.2 e h,by dsimp only;rw [aE,hNs];omega,by dsimp only;exact hiff.trans (DG e1 e2 e3 e4 e5 e6 e7 hle)⟩ (by dsimp only;rw [fG,fG,Fm.counts,Fm.counts,jT];omega)
 try simp only [df] at h15
 have hfs:fs=[]:=bK (by omega);have hgs:gs=[]:=bK (by omega);have hall:=hiff.2 (by rw [hfs,hgs]);refine .ex<|.eb<|.sr<|.az Z<|?_
 refine y9 Z Z λW s=>⟨kN ?_,s.ext⟩
 (rw [dK];exact ⟨λ_=>hall,λ_=>rfl⟩)
theorem aX9 {α:Type} (l:List α) (k:Nat):l.take (min l.length k)=l.take k:=by
 by_cases h:l.length<=k
 ·rw [tI h,aY,jU h]
 ·rw [EJ (by omega)]
theorem ZL (n:Str):(n.take 400).length<=400000:=by rw [dV];omega
theorem aM7 (H:Hp) (n:Str) (hn:n.length<=9223372036854775807) (w:World) (hA:Agr H w):Calls prg 30 #[bV n] w λr w'=>r=.returned (bV (n.take 400))/\Ext w w':=by
 refine Sx.enter (H:=H) func30 rfl ntmps30 rfl hA ?_;refine .sr<|.a Z Z<|.ns<|.mv Z<|.mv Z<|.yw (.lenS dE Z)<|.yw (.min2 Z Z (c:=((min n.length 400:Nat):Int)) (by omega))<|.yw (.takeS dE Z Z (hi:=min n.length 400) Z (by omega))<|.az Z<|?_
 exact y9 Z Z λW s=>⟨by rw [show n.take (min n.length 400)=n.take 400 from aX9 n 400];rfl,s.ext⟩
theorem aP6 (H:Hp) (GL:Gl H) (G:Gf H) (t:Str) (f:Fm) (o e:Nat) (hl:t.length<=400000) (hp:wQ (qR t)=(f,o,e)) (w:World) (hA:Agr H w) :
 Calls prg 26 #[bV t] w λr W'=>∃ (cs:List Value) (H':Hp),Rep H' (dFm .u8 f) cs/\r=.returned (.tuple #[.agg cs.toArray,iN o,iN e])/\zT H w H' W':=by
 have h:=NK H GL G t hl w hA;rw [hp] at h;exact h
theorem aU4:cV prg 29=true:=by kernel_rfl
theorem bZ5 {o e:Nat} (h:wQ l=(f,o,e)):gdF f=true/\f.count<=60:=by
 by_cases he:e=0
 ·have hc:=((WN h).1 he).1;exact ⟨cE4 hc,(JE hc).1⟩
 ·rw [(WN h).2 he];exact ⟨by decide,by decide⟩
theorem bA3 (H:Hp) (f:Fm) (hg:gdF f=true) (hN:f.count<=1000000) (cs ds:List Value) (w:World) (h:Rep H (dFm .u8 f) cs) (k:Rep H (dFm .i64 f) ds) (hA:Agr H w):Calls prg 29 #[.agg cs.toArray,.agg ds.toArray] w λr w'=>r=.returned (.bool true)/\Ext w w':=by
 have hb:blF 4 f=true:=cC5 (by decide) f hg;refine Sx.enter (H:=H) func29 rfl ntmps29 rfl hA ?_;refine .sr<|.bx Z Z Z λb2=>.bx Z Z Z λb3=>.aq Z<|.sq<|.fL 4 [(0,0),(1,0),(2,1),(3,0)]<|.yw (.loadW Z cL cR (xV h))<|.yw (.loadW Z eD Hm (xV k))<|.ct (X:=List Value) SJ Z (λW s=>bF9 f hg H _ W k s.agr) Z λx1 H1 hx1 u1=>.yw (.cast (.call aU5 Z (λW s=>aB4 H1 f f 4 hb (by omega) (by decide) _ _ W (h.up u1.up) hx1 s.agr)) (congrArg Value.bool (dK.2 Z)))<|.fn (tl:=[_]) Z<|.az Z<|?_
 exact y9 Z Z λW s=>⟨Z,(u1.grow s).ext⟩
theorem bM3 (n:Str):(n.take 400).length<=100000:=by rw [dV];omega
theorem aM9 (H:Hp) (t:Str) (f:Fm) (o e:Nat) (hl:t.length<=100000) (hp:wQ (qR t)=(f,o,e)) (w:World) (hA:Agr H w) :
 Calls prg 31 #[bV t] w λr W'=>∃ (cs:List Value) (H':Hp),Rep H' (dFm .i64 f) cs/\r=.returned (.tuple #[.agg cs.toArray,iN o,iN e])/\zT H w H' W':=by
 have h:=bA5 H t _ rfl hl w hA;rw [hp] at h;exact h
theorem aU2:cV prg 31=true:=by kernel_rfl
set_option maxHeartbeats 2000000 in
theorem HU (H:Hp) (GL:Gl H) (G:Gf H) (gq:Gq H) (n:Str) (hn:n.length<=9223372036854775807) (w:World) (hA:Agr H w) :
 Calls prg 9 #[bV n] w λr w'=>r=.returned (.bool true)/\Ext w w':=by
 obtain ⟨f0,o0,e0,hp⟩:∃ f o e,wQ (qR (n.take 400))=(f,o,e):=⟨_,_,_,Z⟩;have hgd:=bZ5 hp;refine Sx.enter (H:=H) func9 rfl ntmps9 rfl hA ?_;refine .sr<|.aq Z<|.sq<|.sr<|.yw (.call aU9 Z (λW s=>aR4 H GL G gq W s.agr))<|.yw (.not Z)<|.nt<|.cF Z<|.sk<|.tN<|.sm Z<|.yw (.call aU3 Z (λW s=>aM7 H n hn W s.agr))<|.a Z Z<|.ns<|.mv Z<|.ct (X:=List Value) JP Z (λW s=>aP6 H GL G (n.take 400) f0 o0 e0 (ZL n) hp W s.agr) Z λx1 H1 hx1 u1=>.mv Z<|.yw (.extract Z Z)<|.yw (.extract Z Z)<|.yw (.extract Z Z)<|.al eS Z λb3=>.sV .head Z Z dC (xV hx1) hx1.one Z<|.a Z Z<|.a Z Z<|.ns<|.mv Z<|.ct (X:=List Value) aU2 Z (λW s=>aM9 H1 (n.take 400) f0 o0 e0 (bM3 n) hp W s.agr) Z λx2 H2 hx2 u2=>?_
 have hx1a:=hx1.up u2.up;refine .mv Z<|.yw (.extract Z Z)<|.yw (.extract Z Z)<|.yw (.extract Z Z)<|.al oQ Z λb6=>.sV .head Z Z kL (xV hx2) hx2.one Z<|.a Z Z<|.a Z Z<|.ns<|.mv Z<|.mv Z<|.yw (.cast (.eql Z Z) (congrArg Value.bool (aF Z)))<|.mv Z<|.gy (.move Z)<|.gy (.move Z)<|.gy (.cast (.eql Z Z) (congrArg Value.bool (aF Z)))<|.yw (.pickT Z Z)<|.mv Z<|.gy (.loadW Z cL cR (xV hx1))<|.gy (.loadW Z eD Hm (xV hx2))<|.gy (.call aU4 Z (λW s=>bA3 H2 f0 hgd.1 (by omega) _ _ W hx1a hx2 s.agr))<|.yw (.pickT Z Z)<|.az Z<|?_
 exact y9 Z Z λW s=>⟨Z,((u1.trans u2).grow s).ext⟩
variable {H:Type} {enc:TypeId × Value->H}
theorem wrap {a:Assume} {C:Checked} {os:Os} {f:FuncId} {fn:Func} {s:ChangeSpec} {conds:List PathCond} {apart fresh handsOn bK7:Bool} {X:World->Array Value->Prop} 
 (hX:∀ (w w':World) (args:Array Value),w.heap=w'.heap->X w args->X w' args)
 (own:ownKnob C.prog.godebug=none) (started:os.Started) (noInit:C.prog.inits.idxOf? f=none) (hfn:C.prog.funcs[f]? = some fn)
 (witness:∃ (w:World) (tape:Tape) (i:Input),w.os=os/\(w.forCall tape i).Shaped C.prog/\i.vars=[]/\Input.okWide C.prog (w.forCall tape i) .any w.heap.size f i /\
  ((s.pre enc C.prog fn conds apart (w.forCall tape i).memory i.args/\X (w.forCall tape i).memory i.args)/\sizedMet enc C.prog fn (OpenSpec.ofChange s) apart (w.forCall tape i).memory i.args)/\a.holds C.prog (lone (Frame.enter C.prog f i.args .normal) [] (w.forCall tape i)))
 (contract:∀ (W:World) (base:Nat) (args:Array Value) (ds gs:List (DataW H)) (before:List MemPlace),
  (∀ (j:Nat) t v,fn.params[j]? = some t->args[j]? = some v->Value.okWide C.prog W .any base t v) ->
  DataW.Whole enc C.prog fn.params.toList s.vars apart W args.toList ds gs before ->
  X W args->W.ShapedOpen C.prog ->
  Calls C.prog f args W λe W'=>∃ v,e=.returned v/\s.post enc C.prog fn apart fresh handsOn bK7 W args v W') :
 ReturnsInHanded a C os f .any (λw args=>(s.pre enc C.prog fn conds apart w args/\X w args)/\sizedMet enc C.prog fn (OpenSpec.ofChange s) apart w args) (s.post enc C.prog fn apart fresh handsOn bK7):=by
 refine returnsInHanded_of_calls own started noInit witness ?_;intro w tape i _ hsh _ hok hpre _;obtain ⟨_,_,_,fn',hfn',_,_,_,_,hval⟩:=hok;have e:fn'=fn:=bH (hfn'.symm.trans hfn);subst e;obtain ⟨⟨⟨ds,gs,before,hw,_⟩,hx⟩,_⟩:=hpre;have hw':=DataW.Whole.of_heap (w':=w.forCall tape i) (by rfl) hw;refine (contract (w.forCall tape i) w.heap.size i.args ds gs before hval hw' (hX _ _ _ (by rfl) hx) hsh).mono λe W' ⟨v,he,hp⟩=>?_;subst he;exact ChangeSpec.post_blind hp

theorem own:ownKnob prg.godebug=none:=by kernel_rfl
def ER:List (String × DataW Unit):=[("math/bits.deBruijn32tab",Rows.laid_math_bits_deBruijn32tab),("math/bits.deBruijn64tab",Rows.laid_math_bits_deBruijn64tab),("internal/strconv.uint64pow10",Rows.laid_internal_strconv_uint64pow10),("rootcause/lexer.words",Rows.laid_rootcause_lexer_words),("rootcause/lexer.symbols",Rows.laid_rootcause_lexer_symbols),("rootcause/formula.shapes",Rows.laid_rootcause_formula_shapes),("rootcause/formula.symbols",Rows.laid_rootcause_formula_symbols),("rootcause/formula.words",Rows.laid_rootcause_formula_words)]
theorem cJ0:prg.globalNamed "internal/strconv.uint64pow10" = some 6:=by kernel_rfl
theorem cI9:(prg.globals[6]?).map (·.type)=some 257:=by kernel_rfl
theorem bJ3:prg.cellsOf 257=20:=by kernel_rfl
theorem aQ9:prg.cellsOf 242=1:=by kernel_rfl
theorem cG3:(Rows.laid_internal_strconv_uint64pow10:DataW Unit)=Lib.tabData .u64 Lib.pow10Tab:=by kernel_rfl
theorem cI6 (h:laidMet prg ER W):Gq (aR9 W):=by
 intro W' hA;have h1:Lib.TabIs prg W "internal/strconv.uint64pow10" .u64 Lib.pow10Tab:=Lib.tabIs_of_head cJ0 cI9 Tryz.underlying257 Tryz.underlying242 aQ9 bJ3 (cG3 ▸ h.tail.tail);unfold Lib.TabIs World.var? at *;rw [cJ0] at *;simp only [iY] at *
 split at h1
 ·rename_i cs T m hb;rw [hA 6 _ hb];exact h1
 ·cases h1
theorem cI7 (h:laidMet prg ER W):Gl (aR9 W) :=
 ⟨CM (t:=235) (.arr 39 .strg) _ (by kernel_rfl) (by kernel_rfl) (by kernel_rfl) (by kernel_rfl) (by kernel_rfl) h.tail.tail.tail,
  CM (t:=217) (.arr 25 .strg) _ (by kernel_rfl) (by kernel_rfl) (by kernel_rfl) (by kernel_rfl) (by kernel_rfl) h.tail.tail.tail.tail⟩
theorem cI8 (h:laidMet prg ER W):Gf (aR9 W) :=
 ⟨CM (t:=163) (.arr 19 .strg) _ (by kernel_rfl) (by kernel_rfl) (by kernel_rfl) (by kernel_rfl) (by kernel_rfl) h.tail.tail.tail.tail.tail.tail.tail,
  CM (t:=165) (.arr 22 .strg) _ (by kernel_rfl) (by kernel_rfl) (by kernel_rfl) (by kernel_rfl) (by kernel_rfl) h.tail.tail.tail.tail.tail.tail,
  CM (t:=200) (.arr 19 (.str [.int .u8,.bool,.bool,.bool,.bool,.int .u8,.int .u8])) _ (by kernel_rfl) (by kernel_rfl) (by kernel_rfl) (by kernel_rfl) (by kernel_rfl) h.tail.tail.tail.tail.tail⟩
theorem bE2 (os:Os) (args:Array Value):laidMet prg ER ((World.laidAll prg os ER).forCall (λ_ _=>0) ⟨#[],args,[]⟩).memory :=
 laidMet_laidAll _ (by kernel_rfl) (by kernel_rfl)
theorem XE (os:Os) (args:Array Value):((World.laidAll prg os ER).forCall (λ_ _=>0) ⟨#[],args,[]⟩).Shaped prg :=
 World.shaped_of_ZipB (by kernel_rfl) (by kernel_rfl)
variable {W':World}
theorem bH5 (h:Ext W W'):∀ may,W.keptBut W' may:=λmay=>(Ext.below h).frame may
theorem bQ9:laidOutB prg=true:=by kernel_rfl
end Go.Proofs.YtidclioghdbphaaGreatDoor
/- The walk lifted: for every input, rootcauselaw34.FormulaParses returns true, and its arguments read as they did (the tied card FormulaParsesCardSaid). Conditions: the card's own (the listed package variables read as the program's initialisers lay them, tied to the text), and no others. -/
namespace Go.Proofs.YtidclioghdbphaaGreatDoor
open Go.RowKit Go.Par Go.Sx
variable {W:World} {b:Nat} {v:Value}
theorem aN9 {H:Type} {enc:TypeId × Value->H} {base:Nat} {sp:Nat->Bool} {held:Bool} {d:DataW H} {p:List MemPlace} (hv:Value.okWide prg W .any b 9 v) (h:DataW.Trod enc prg W base sp held 9 v d p) :
 ∃ l:Str,v=bV l/\l.length<=9223372036854775807:=by
 obtain ⟨s,rfl,_,_,hs⟩:=Go.ChangeMaps.open_string Tryz.underlying9 hv h;exact ⟨s.data.toList,Z,aV (Nat.le_of_eq (by simp)) hs⟩
namespace formulaParses
open Go.ChangeShapes Go.WideShapes Go.ChangeAt Go.RowKit
open Go.ChangeMaps (open_string shut_string)
theorem lifted (os:Os) (started:os.Started) (H:Type) (enc:TypeId × Value->H) :
 ReturnsInHanded {} Tryz.checked os 9 .any (λw args=>(Rows.formulaParsesSpec.pre enc prg Tryz.f9 [] false w args/\laidMet prg ER w)/\sizedMet enc prg Tryz.f9 (OpenSpec.ofChange Rows.formulaParsesSpec) false w args)
  (Rows.formulaParsesSpec.post enc prg Tryz.f9 false true false false):=by
 refine wrap (C:=Tryz.checked) (X:=λw _=>laidMet prg ER w) (λ_ _ _ hh h=>h.of_heap hh) own started (by kernel_rfl) Tryz.func9
  (ChangeSpec.witness_shaped (enc:=enc) (C:=Tryz.checked) (os:=os) (X:=λw _=>laidMet prg ER w) false (World.laidAll prg os ER) #[.string ⟨#[]⟩] 8 (World.laidAll_os _ _ _) (XE os _) (by kernel_rfl) (by kernel_rfl) (by kernel_rfl) (bE2 os _)) ?_
 intro W base args ds gs before hval0 hW hL hS;have GL:=cI7 hL;have G:=cI8 hL;have gq:=cI6 hL;have hval:∀ (j:Nat) t v,Tryz.f9.params[j]? = some t->args[j]? = some v->Value.okWide prg W .any base t v:=hval0;have hW':=hW;obtain ⟨p,q,hA0,hV,rfl,hfz,hnd⟩:=hW;have hA:DataW.TrodAll enc prg W 0 (λ_=>true) true Tryz.f9.params.toList args.toList ds p:=hA0;rw [Tryz.params9] at hA hval;obtain ⟨v0,d0,rfl,rfl,h0⟩:=trodAll_one hA;obtain ⟨rfl,rfl⟩:=trodVars_none hV;have k0:=h0;have hlt0:∀ x∈p,x.block<W.heap.size:=λx hx=>hW'.lt x (by simp [hx]);obtain ⟨l0,e0,hl0⟩:=aN9 (hval 0 9 v0 rfl rfl) h0;subst e0;clear hA0 hval0;simp only [dO] at hW';refine (HU (aR9 W) GL G gq l0 hl0 W (bK6 W)).mono λe W' ⟨he,hg⟩=>?_;subst he;refine ⟨_,Z,_,_,_,[],p,[],hW',?_,?_,Z,bH5 hg _,λh=>by cases h⟩
 ·exact trodAll_mk1 (shut_bool Tryz.underlying4 _)
 ·exact trodAll_mk1 (Below.trod bQ9 (by kernel_rfl) (aJ (by kernel_rfl)) k0 hg.below hlt0)
end formulaParses
end Go.Proofs.YtidclioghdbphaaGreatDoor
