/- Texts of the proof, one behind the other. -/
import Derived.Test.YtidclioghdbphaaGreatDoorMg
set_option linter.all false
set_option maxRecDepth 100000
namespace Go.Proofs.YtidclioghdbphaaGreatDoor
open Go.RowKit Go.Par Go.Sx Tryz
theorem JB (a b c d e f g:Value):∀ W,(Instr.field 157 (.agg [a,b,c,d,e,f,g].toArray) 0).run prg W=.ok a W:=λ_=>by kernel_rfl
variable {H:Hp} {w0 W:World} {bs AR:List Res} {tp:Option Addr} {tc:Nat} {ro rv:Value} {xo xv:List Value} {q:Rq}
set_option maxHeartbeats 1000000 in
theorem aR9 {b:Nat} {l:Tks} {op:List Ov} {x:Vb} {dn:Bool} (K:Tkf H l tp tc) (Wq:Fwf l ⟨q,op,x,true,dn⟩) (S:Sq H ⟨q,op,x,true,dn⟩ xo xv AR) (G:Gf H) (h0:q.er=0) (hw:q.wrd l=true) (s:St H w0 (.box b [.slice tp l.length tc,iN q.i,ro,rv,.bool true,.bool dn,.bool x.2,iN q.off,iN q.er] 102::.row 97 11 (ro) (op.length) (xo)::.row 179 13 (rv) (x.1.length) (xv)::(AR++bs)) W) :
 Calls prg 101 #[.pointer (some ⟨b,0,none⟩)] W (Get w0 bs b l tp tc H (wL l ⟨q,op,x,true,dn⟩)):=by
 have hq:q.i<l.length:=Wq.i;have hcap:=K.rep.cap;obtain ⟨hn1,hn2⟩:=oH Wq K.few;dsimp only at hn1 hn2;have hne:op≠[]:=Wq.ne;refine kB func101 rfl ntmps101 rfl s ?_;obtain ⟨o,r,rfl⟩:=AV (l:=op) (by cases op with | nil=>exact (hne rfl).elim | cons a t=>exact Nat.succ_pos _);dsimp only [List.length_cons] at hn1;obtain ⟨xr,s1,s2,e2,hlo,ho1,ho2⟩:=Ops.top S.ops;try dsimp only at e2
 subst e2;refine Sx.rowCase (size:=11) (r:=ro) (e:=97) cO (Nat.succ_pos _) λg c e hkc=>?_;subst e;refine .sq<|.sm Z<|.cs (X:=Unit) lU Z (λW s=>AL K hq (g:=g) (k:=r.length) (c:=c) (by omega) (s.pickT (hd:=[_,_,_]) (tl:=(AR++bs)) (hd':=[_,_,_]) [0,1,2] Z Z)) Z λ_ _=>.nC Z<|.fA Z tC<|.yw (.loadR1 Z jI cO (kC hlo Z))<|.nt<|.cd Z (λh8=>?_) (λh8=>?_)
 ·refine .sm Z<|.cs (X:=Unit) iQ Z (λW s=>pY K hq 8 (s.pickT (hd:=[_,_,_]) (tl:=(AR++bs)) (hd':=[_,_,_]) [0,1,2] Z Z)) Z λ_ _=>.nt<|.rt<|.tR<|?_
  refine y7 Z .nil rfl λW s=>?_;have e0:wL l (⟨q,o::r,x,true,dn⟩:Ps)=(⟨q,o::r,x,true,dn⟩:Ps).at (q.fail l 8):=by unfold wL;rw [aL (show (dM (⟨q,o::r,x,true,dn⟩:Ps)).tm=true from h8)]
  rw [e0];exact ⟨(_,_,_,_,_,AR),⟨.refl,⟨S.ops,S.vls⟩⟩,Z,s.pickT (hd:=[_,_,_]) (tl:=(AR++bs)) (hd':=[_,_,_]) [0,1,2] rfl rfl⟩
 refine .sk<|.tN<|.sr<|.al eG Z λb2=>.nt<|.sq<|.bk<|.sm Z<|.cs (X:=Unit) dH Z (λW s=>eH K hq [115,105,110,99,101] (s.pickT (hd:=[_,_,_,_]) (tl:=(AR++bs)) (hd':=[_,_,_,_]) [1,0,2,3] Z Z)) Z λ_ _=>.aq Z<|.cd Z (λh11=>?_) (λh11=>?_)
 ·have a11:Rq.ac l [115,105,110,99,101] q=true:=h11;rw [kN a11];refine .rg<|.mv Z<|.cs (X:=Unit) DU Z (λW s=>JI K (dA K.gd.last hq a11) 15 (s.pickT (hd:=[_,_,_,_]) (tl:=(AR++bs)) (hd':=[_,_,_,_]) [0,1,2,3] Z Z)) Z λ_ _=>.sX kT Z Z cV Z<|.nl<|.bN<|.tN<|.sr<|.fA Z eF<|.lD Z hZ cO Z<|.yw (.call (v:=.agg (fsC (cK 15)).toArray) qP Z λW s=>oK H G 15 W s.agr)<|.yw (.fld Z (JB _ _ _ _ _ _ _))<|.yw (.conv Z kS lH (c:=((4:Nat):Int)) (by decide +kernel))<|?_
  have Wj:Fwf l ⟨(Rq.wiS l q.nx),o::r,x,true,dn⟩:=JM (q:=⟨q,o::r,x,true,dn⟩) (c:=(Rq.wiS l q.nx)) Wq (JK K.gd.last (dA K.gd.last hq a11)) (aZ (Nat.le_succ _) (Mq.wiS (q:=q.nx)).i);refine .a Z Z<|.ns<|.mv Z<|.mv Z<|.cs (X:=Hp × Value × Value × List Value × List Value × List Res) oM Z (λW s=>sY K Wj S.at 4 (by omega) (St.mid (a:=[_,_,_]) (d:=[_]) (s.pickT (hd:=[_,_,_,_]) (tl:=(AR++bs)) (hd':=[_,_,_,_]) [0,2,3,1] Z Z))) Z λz9 hz9=>?_
  obtain ⟨H1,ro,rv,xo,xv,AR⟩:=z9;obtain ⟨u1,S⟩:=hz9;dsimp only at u1 S|-;refine Sx.reSt (λW s=>St.mid (a:=[_,_,_]) (d:=AR) (c:=[_]) s) ?_;obtain ⟨op7,x7,e7⟩:∃ op7 x7,jP 4 (⟨(Rq.wiS l q.nx),o::r,x,true,dn⟩:Ps)=⟨(Rq.wiS l q.nx),op7,x7,true,dn⟩:=⟨_,_,Z⟩;rw [e7] at S|-;dsimp only at S|-;have W7:Fwf l ⟨(Rq.wiS l q.nx),op7,x7,true,dn⟩:=by rw [<-e7];exact tL (by omega) Wj rfl
  obtain ⟨hm1,hm2⟩:=oH W7 K.few;dsimp only at hm1 hm2;have hne7:op7≠[]:=W7.ne;refine .nt<|.rg<|.mv Z<|.mv Z<|.yw (.loadW Z cD pT Z)<|.yw (.build Z (jG _ _ _ _ _ _ _ _ _))<|.cs (X:=Option Addr × Nat) fX Z (λW s=>mH (K.up u1.up) (JK K.gd.last (dA K.gd.last hq a11)) (by simp [Value.oneCell',cH]) (aZ hm1 (by decide)) (λ_=>S.ops.tm hne7) (s.pickT (hd:=[_,_,_,_]) (tl:=(AR++bs)) (hd':=[_,_,_,_]) [0,1,2,3] Z Z)) Z λp9 _=>.nl<|?_
  refine jA (.inr Z) rfl .nil rfl λW s=>?_
  have e0:wL l (⟨q,o::r,x,true,dn⟩:Ps)=fH ⟨6,4,false,0,q.jnF l 4⟩ (⟨(Rq.wiS l q.nx),op7,x7,true,dn⟩:Ps):=by
   obtain ⟨j1,j2,j3,_,_⟩:=TN (l:=l) (r:=q) (k:=4) (by decide) a11;unfold wL;rw [aF (show ¬ (dM (⟨q,o::r,x,true,dn⟩:Ps)).tm=true by rw [show (dM (⟨q,o::r,x,true,dn⟩:Ps)).tm=false from h8];decide),j1,j2,j3,<-e7]
   rfl
  rw [e0];exact ⟨(_,_,_,_,_,AR),⟨u1,⟨.cons S.ops (by show ¬ (6:UInt8)=5;decide) (FmR.zero rfl rfl (aO _) (aO _)),S.vls⟩⟩,Z,s.pickT (hd:=[_,_,_,_]) (tl:=(AR++bs)) (hd':=[_,_,_]) [0,1,2] rfl rfl⟩
 have a11:Rq.ac l [115,105,110,99,101] q=false:=h11;rw [kR a11];refine .sm Z<|.cs (X:=Unit) dH Z (λW s=>eH K hq [97,110,100] (s.pickT (hd:=[_,_,_,_]) (tl:=(AR++bs)) (hd':=[_,_,_,_]) [0,1,2,3] Z Z)) Z λ_ _=>.aq Z<|.cd Z (λh16=>?_) (λh16=>?_)
 ·have a16:Rq.ac l [97,110,100] q=true:=h16;rw [kN a16];refine .rg<|.yw (.build Z (oN _))<|.sX kT Z Z cV Z<|.nl<|.bN<|.tN<|.sr<|.fA Z eF<|.lD Z hZ cO Z<|.yw (.call (v:=.agg (fsC (cK 9)).toArray) qP Z λW s=>oK H G 9 W s.agr)<|.yw (.fld Z (JB _ _ _ _ _ _ _))<|.yw (.conv Z kS lH (c:=((3:Nat):Int)) (by decide +kernel))<|?_
  have Wj:Fwf l ⟨q.nx,o::r,x,true,dn⟩:=JM (q:=⟨q,o::r,x,true,dn⟩) (c:=q.nx) Wq (dA K.gd.last hq a16) (Nat.le_succ _);refine .a Z Z<|.ns<|.mv Z<|.mv Z<|.cs (X:=Hp × Value × Value × List Value × List Value × List Res) oM Z (λW s=>sY K Wj S.at 3 (by omega) (St.mid (a:=[_,_,_]) (d:=[_]) (s.pickT (hd:=[_,_,_,_]) (tl:=(AR++bs)) (hd':=[_,_,_,_]) [0,2,3,1] Z Z))) Z λz9 hz9=>?_
  obtain ⟨H1,ro,rv,xo,xv,AR⟩:=z9;obtain ⟨u1,S⟩:=hz9;dsimp only at u1 S|-;refine Sx.reSt (λW s=>St.mid (a:=[_,_,_]) (d:=AR) (c:=[_]) s) ?_;obtain ⟨op7,x7,e7⟩:∃ op7 x7,jP 3 (⟨q.nx,o::r,x,true,dn⟩:Ps)=⟨q.nx,op7,x7,true,dn⟩:=⟨_,_,Z⟩;rw [e7] at S|-;dsimp only at S|-;have W7:Fwf l ⟨q.nx,op7,x7,true,dn⟩:=by rw [<-e7];exact tL (by omega) Wj rfl
  obtain ⟨hm1,hm2⟩:=oH W7 K.few;dsimp only at hm1 hm2;have hne7:op7≠[]:=W7.ne;refine .nt<|.rg<|.mv Z<|.mv Z<|.yw (.loadW Z cD pT Z)<|.yw (.build Z (jG _ _ _ _ _ _ _ _ _))<|.cs (X:=Option Addr × Nat) fX Z (λW s=>mH (K.up u1.up) (dA K.gd.last hq a16) (by simp [Value.oneCell',cH]) (aZ hm1 (by decide)) (λ_=>S.ops.tm hne7) (s.pickT (hd:=[_,_,_,_]) (tl:=(AR++bs)) (hd':=[_,_,_,_]) [0,1,2,3] Z Z)) Z λp9 _=>.nl<|?_
  refine jA (.inr Z) rfl .nil rfl λW s=>?_
  have e0:wL l (⟨q,o::r,x,true,dn⟩:Ps)=fH ⟨6,3,false,0,q.jnF l 3⟩ (⟨q.nx,op7,x7,true,dn⟩:Ps):=by
   obtain ⟨j1,j2,j3,_,_⟩:=TN (l:=l) (r:=q) (k:=3) (by decide) a16;unfold wL;rw [aF (show ¬ (dM (⟨q,o::r,x,true,dn⟩:Ps)).tm=true by rw [show (dM (⟨q,o::r,x,true,dn⟩:Ps)).tm=false from h8];decide),j1,j2,j3,<-e7]
   rfl
  rw [e0];exact ⟨(_,_,_,_,_,AR),⟨u1,⟨.cons S.ops (by show ¬ (6:UInt8)=5;decide) (FmR.zero rfl rfl (aO _) (aO _)),S.vls⟩⟩,Z,s.pickT (hd:=[_,_,_,_]) (tl:=(AR++bs)) (hd':=[_,_,_]) [0,1,2] rfl rfl⟩
 have a16:Rq.ac l [97,110,100] q=false:=h16;rw [kR a16];refine .sm Z<|.cs (X:=Unit) dH Z (λW s=>eH K hq [111,114] (s.pickT (hd:=[_,_,_,_]) (tl:=(AR++bs)) (hd':=[_,_,_,_]) [0,1,2,3] Z Z)) Z λ_ _=>.aq Z<|.cd Z (λh20=>?_) (λh20=>?_)
 ·have a20:Rq.ac l [111,114] q=true:=h20;rw [kN a20];refine .rg<|.yw (.build Z (oN _))<|.sX kT Z Z cV Z<|.nl<|.bN<|.tN<|.sr<|.fA Z eF<|.lD Z hZ cO Z<|.yw (.call (v:=.agg (fsC (cK 10)).toArray) qP Z λW s=>oK H G 10 W s.agr)<|.yw (.fld Z (JB _ _ _ _ _ _ _))<|.yw (.conv Z kS lH (c:=((2:Nat):Int)) (by decide +kernel))<|?_
  have Wj:Fwf l ⟨q.nx,o::r,x,true,dn⟩:=JM (q:=⟨q,o::r,x,true,dn⟩) (c:=q.nx) Wq (dA K.gd.last hq a20) (Nat.le_succ _);refine .a Z Z<|.ns<|.mv Z<|.mv Z<|.cs (X:=Hp × Value × Value × List Value × List Value × List Res) oM Z (λW s=>sY K Wj S.at 2 (by omega) (St.mid (a:=[_,_,_]) (d:=[_]) (s.pickT (hd:=[_,_,_,_]) (tl:=(AR++bs)) (hd':=[_,_,_,_]) [0,2,3,1] Z Z))) Z λz9 hz9=>?_
  obtain ⟨H1,ro,rv,xo,xv,AR⟩:=z9;obtain ⟨u1,S⟩:=hz9;dsimp only at u1 S|-;refine Sx.reSt (λW s=>St.mid (a:=[_,_,_]) (d:=AR) (c:=[_]) s) ?_;obtain ⟨op7,x7,e7⟩:∃ op7 x7,jP 2 (⟨q.nx,o::r,x,true,dn⟩:Ps)=⟨q.nx,op7,x7,true,dn⟩:=⟨_,_,Z⟩;rw [e7] at S|-;dsimp only at S|-;have W7:Fwf l ⟨q.nx,op7,x7,true,dn⟩:=by rw [<-e7];exact tL (by omega) Wj rfl
  obtain ⟨hm1,hm2⟩:=oH W7 K.few;dsimp only at hm1 hm2;have hne7:op7≠[]:=W7.ne;refine .nt<|.rg<|.mv Z<|.mv Z<|.yw (.loadW Z cD pT Z)<|.yw (.build Z (jG _ _ _ _ _ _ _ _ _))<|.cs (X:=Option Addr × Nat) fX Z (λW s=>mH (K.up u1.up) (dA K.gd.last hq a20) (by simp [Value.oneCell',cH]) (aZ hm1 (by decide)) (λ_=>S.ops.tm hne7) (s.pickT (hd:=[_,_,_,_]) (tl:=(AR++bs)) (hd':=[_,_,_,_]) [0,1,2,3] Z Z)) Z λp9 _=>.nl<|?_
  refine jA (.inr Z) rfl .nil rfl λW s=>?_
  have e0:wL l (⟨q,o::r,x,true,dn⟩:Ps)=fH ⟨6,2,false,0,q.jnF l 2⟩ (⟨q.nx,op7,x7,true,dn⟩:Ps):=by
   obtain ⟨j1,j2,j3,_,_⟩:=TN (l:=l) (r:=q) (k:=2) (by decide) a20;unfold wL;rw [aF (show ¬ (dM (⟨q,o::r,x,true,dn⟩:Ps)).tm=true by rw [show (dM (⟨q,o::r,x,true,dn⟩:Ps)).tm=false from h8];decide),j1,j2,j3,<-e7]
   rfl
  rw [e0];exact ⟨(_,_,_,_,_,AR),⟨u1,⟨.cons S.ops (by show ¬ (6:UInt8)=5;decide) (FmR.zero rfl rfl (aO _) (aO _)),S.vls⟩⟩,Z,s.pickT (hd:=[_,_,_,_]) (tl:=(AR++bs)) (hd':=[_,_,_]) [0,1,2] rfl rfl⟩
 have a20:Rq.ac l [111,114] q=false:=h20;rw [kR a20];refine .sm Z<|.cs (X:=Unit) dH Z (λW s=>eH K hq [105,109,112,108,105,101,115] (s.pickT (hd:=[_,_,_,_]) (tl:=(AR++bs)) (hd':=[_,_,_,_]) [0,1,2,3] Z Z)) Z λ_ _=>.aq Z<|.cd Z (λh24=>?_) (λh24=>?_)
 ·have a24:Rq.ac l [105,109,112,108,105,101,115] q=true:=h24;rw [kN a24];refine .rg<|.yw (.build Z (oN _))<|.sX kT Z Z cV Z<|.nl<|.bN<|.tN<|.sr<|.fA Z eF<|.lD Z hZ cO Z<|.yw (.call (v:=.agg (fsC (cK 11)).toArray) qP Z λW s=>oK H G 11 W s.agr)<|.yw (.fld Z (JB _ _ _ _ _ _ _))<|.yw (.conv Z kS lH (c:=((1:Nat):Int)) (by decide +kernel))<|?_
  have Wj:Fwf l ⟨q.nx,o::r,x,true,dn⟩:=JM (q:=⟨q,o::r,x,true,dn⟩) (c:=q.nx) Wq (dA K.gd.last hq a24) (Nat.le_succ _);refine .a Z Z<|.ns<|.mv Z<|.mv Z<|.cs (X:=Hp × Value × Value × List Value × List Value × List Res) oM Z (λW s=>sY K Wj S.at 1 (by omega) (St.mid (a:=[_,_,_]) (d:=[_]) (s.pickT (hd:=[_,_,_,_]) (tl:=(AR++bs)) (hd':=[_,_,_,_]) [0,2,3,1] Z Z))) Z λz9 hz9=>?_
  obtain ⟨H1,ro,rv,xo,xv,AR⟩:=z9;obtain ⟨u1,S⟩:=hz9;dsimp only at u1 S|-;refine Sx.reSt (λW s=>St.mid (a:=[_,_,_]) (d:=AR) (c:=[_]) s) ?_;obtain ⟨op7,x7,e7⟩:∃ op7 x7,jP 1 (⟨q.nx,o::r,x,true,dn⟩:Ps)=⟨q.nx,op7,x7,true,dn⟩:=⟨_,_,Z⟩;rw [e7] at S|-;dsimp only at S|-;have W7:Fwf l ⟨q.nx,op7,x7,true,dn⟩:=by rw [<-e7];exact tL (by omega) Wj rfl
  obtain ⟨hm1,hm2⟩:=oH W7 K.few;dsimp only at hm1 hm2;have hne7:op7≠[]:=W7.ne;refine .nt<|.rg<|.mv Z<|.mv Z<|.yw (.loadW Z cD pT Z)<|.yw (.build Z (jG _ _ _ _ _ _ _ _ _))<|.cs (X:=Option Addr × Nat) fX Z (λW s=>mH (K.up u1.up) (dA K.gd.last hq a24) (by simp [Value.oneCell',cH]) (aZ hm1 (by decide)) (λ_=>S.ops.tm hne7) (s.pickT (hd:=[_,_,_,_]) (tl:=(AR++bs)) (hd':=[_,_,_,_]) [0,1,2,3] Z Z)) Z λp9 _=>.nl<|?_
  refine jA (.inr Z) rfl .nil rfl λW s=>?_
  have e0:wL l (⟨q,o::r,x,true,dn⟩:Ps)=fH ⟨6,1,false,0,q.jnF l 1⟩ (⟨q.nx,op7,x7,true,dn⟩:Ps):=by
   obtain ⟨j1,j2,j3,_,_⟩:=TN (l:=l) (r:=q) (k:=1) (by decide) a24;unfold wL;rw [aF (show ¬ (dM (⟨q,o::r,x,true,dn⟩:Ps)).tm=true by rw [show (dM (⟨q,o::r,x,true,dn⟩:Ps)).tm=false from h8];decide),j1,j2,j3,<-e7]
   rfl
  rw [e0];exact ⟨(_,_,_,_,_,AR),⟨u1,⟨.cons S.ops (by show ¬ (6:UInt8)=5;decide) (FmR.zero rfl rfl (aO _) (aO _)),S.vls⟩⟩,Z,s.pickT (hd:=[_,_,_,_]) (tl:=(AR++bs)) (hd':=[_,_,_]) [0,1,2] rfl rfl⟩
 have a24:Rq.ac l [105,109,112,108,105,101,115] q=false:=h24;exact absurd hw (by unfold Rq.wrd;rw [DJ h0,DJ h0,DJ h0,DJ h0,a11,a16,a20,a24];decide)
variable {xr:List Value} {n j:Nat}
theorem zM {cs:List Value} {u:Value} (hl:xr.length=n) (h:cs[4+j]? = some u):(xr++cs)[n+4+j]? = some u:=by rw [dN];exact kC hl h
variable {s1 s2:Value}
theorem Ops.inv5 {o:Ov} {r:List Ov} (h:Ops H (o::r) (xr++oC o s1 s2) AR) (hk:o.kd=5):∃ AR1 xe,AR=.row 76 4 s1 o.f.ex.length xe::AR1/\Ops H r xr AR1/\s2=.slice none 0 0/\eD H 4 (o.f.ex.map (dEx .u8)) xe/\o.f.args=[]/\o.f.nm.length<=1000000/\o.f.fd.length<=1000000:=by
 generalize hx:xr++oC o s1 s2=xo at h;cases h with
 | cons h k f=>exact absurd hk k
 | arg h k a b c z s =>
  obtain ⟨e1,e2⟩:=List.append_inj' hx rfl;subst e1;simp only [fQ,nZ,true_and] at e2;obtain ⟨rfl,rfl⟩:=e2;exact ⟨_,_,Z,h,Z,z,a,b,c⟩
theorem OH (H:Hp):Rep H (dEx .u8 zE) [.int .u8 0,.string ⟨#[]⟩,.int .i64 0,.slice none 0 0]:=qL (op:=0) (nm:=[]) (n:=0) (args:=[]) (by decide) (Rep.empty (p:=none) (c:=0) (by decide))
variable {z k:Nat} {xs news:List Value}
theorem xE {ds:List D} {d0 d:D} {vs:List Value} (hz:eD H z ds xs) (hn:eD H z [d0] news) (hd:Rep H d vs) (hl:vs.length=z) (hk:ds.length=k):eD H z (ds++[d]) (nK (xs++news) (k * z) vs):=by
 subst hk;have h:=eD.put hd hl (hz.app hn) (i:=ds.length) (by simp)
 rwa [kJ _ _ (aY _),iV,pI] at h
set_option maxHeartbeats 4000000 in
theorem NN {b:Nat} {l:Tks} {op:List Ov} {x:Vb} {dn:Bool} (K:Tkf H l tp tc) (Wq:Fwf l ⟨q,op,x,true,dn⟩) (S:Sq H ⟨q,op,x,true,dn⟩ xo xv AR) (hfew:∀ o∈op,o.f.ex.length<=600000) (s:St H w0 (.box b [.slice tp l.length tc,iN q.i,ro,rv,.bool true,.bool dn,.bool x.2,iN q.off,iN q.er] 102::.row 97 11 (ro) (op.length) (xo)::.row 179 13 (rv) (x.1.length) (xv)::(AR++bs)) W) :
 Calls prg 103 #[.pointer (some ⟨b,0,none⟩)] W (Get w0 bs b l tp tc H (lT l ⟨q,op,x,true,dn⟩)):=by
 have hq:q.i<l.length:=Wq.i;have hcap:=K.rep.cap;obtain ⟨hn1,hn2⟩:=oH Wq K.few;dsimp only at hn1 hn2;have hne:op≠[]:=Wq.ne;obtain ⟨o,r,rfl⟩:=AV (l:=op) (by cases op with | nil=>exact (hne rfl).elim | cons a t=>exact Nat.succ_pos _);dsimp only [List.length_cons] at hn1;have hfx:=hfew o (aX ..);have hv1:1<=x.1.length:=by have:=Wq.vs;dsimp only at this;rw [this];exact Nat.le_add_left _ _
 obtain ⟨vs,bd⟩:=x;dsimp only at hv1 hn2;obtain ⟨v,V,rfl⟩:=AV hv1;dsimp only [List.length_cons] at hn2;obtain ⟨yr,t0,t1,t2,e4,VS1,V1⟩:=VR.inv S.vls;try dsimp only at e4
 subst e4;have l1:=VS1.len;refine kB func103 rfl ntmps103 rfl s ?_;obtain ⟨xr,s1,s2,e2,hlo,ho1,ho2⟩:=Ops.top S.ops;try dsimp only at e2
 subst e2;refine Sx.rowCase (size:=11) (r:=ro) (e:=97) cO (Nat.succ_pos _) λg c e hkc=>?_;subst e;refine .sm Z<|.cs (X:=Unit) lU Z (λW s=>AL K hq (g:=g) (k:=r.length) (c:=c) (by omega) (s.pickT (hd:=[_,_,_]) (tl:=(AR++bs)) (hd':=[_,_,_]) [0,1,2] Z Z)) Z λ_ _=>.aq Z<|.bk<|.cu (X:=Bool) [(0,_),(2,_)] ⟨Z,Z,Jt⟩ (λz=>[(9,.bool z)]) (λz=>H) (λz=>(.box b [.slice tp l.length tc,iN q.i,(.slice (some ⟨g,0,none⟩) (o::r).length c),rv,.bool true,.bool dn,.bool bd,iN q.off,iN q.er] 102::.row 97 11 ((.slice (some ⟨g,0,none⟩) (o::r).length c)) ((o::r).length) ((xr++oC o s1 s2))::.row 179 13 (rv) (V.length+1) ((yr++vC v t0 t1 t2))::(AR++bs))) (λz=>z=(decide (o.kd=1) && decide ((tkf l q.i).k=0))) ?_ λz hC=>?_
 ·
  refine .rg<|.mv Z<|.nC Z<|.fA Z gN<|.yw (.loadR1 Z lV cO (kC hlo Z))<|.yw (.eql Z Z)<|.mv Z<|.b2 (λh15=>?_) (λh15=>?_)
  ·have hg:o.kd=1:=aQ.1 (by have:=aH h15;show o.kd.toNat=1;omega);exact .gy (.move Z)<|.gd Z Z<|.cs (X:=Unit) sJ Z (λW s=>xC K hq  (s.pickT (hd:=[_,_,_]) (tl:=(AR++bs)) (hd':=[_,_,_]) [0,1,2] Z Z)) Z λ_ _=>.gy (.fld Z (WW _ _ _))<|.gy (.eql Z Z)<|.yw (.pickT Z Z)<|.aq Z<|.me _ ⟨Z,Jt⟩ ⟨Z,Z,Jt⟩ (λ_ s=>s) (by first | (rw [aS hg,aA];exact k80) | (rw [aP hg];rfl))
  have hg:¬ o.kd=1:=λe=>aN h15 (by rw [e];rfl);exact .gG<|.gG<|.gG<|.gG<|.yw (.pickF Z Z)<|.aq Z<|.me _ ⟨Z,Jt⟩ ⟨Z,Z,Jt⟩ (λ_ s=>s) (by first | (rw [aS hg,aA];exact k80) | (rw [aP hg];rfl))
 have e9:=hC;refine .cd Z (λh9=>?_) (λh9=>?_)
 ·rw [h9] at e9;have y9:=aE _ _ |>.mp e9.symm
  refine .rg<|.mv Z<|.nC Z<|.fA Z CZ<|.st .head Z Z mT Z (nb Z) Z<|.nl<|.bN<|?_
  refine jA (.inr Z) rfl .nil rfl λW s=>?_;have e0:lT l (⟨q,o::r,(v::V,bd),true,dn⟩:Ps)=⟨q,o::r,(v::V,bd),true,true⟩:=by unfold lT;exact aL ⟨aH y9.1,aH y9.2⟩
  rw [e0];exact ⟨(_,_,_,_,_,AR),⟨.refl,⟨S.ops,S.vls⟩⟩,Z,s.pickT (hd:=[_,_,_]) (tl:=(AR++bs)) (hd':=[_,_,_]) [0,1,2] rfl rfl⟩
 rw [h9] at e9;refine .cu (X:=Bool) [(0,_),(2,_)] ⟨Z,Z,Jt⟩ (λz=>[(24,.bool z)]) (λz=>H) (λz=>(.box b [.slice tp l.length tc,iN ((if z then Rq.nx q else q).i),(.slice (some ⟨g,0,none⟩) (o::r).length c),rv,.bool true,.bool dn,.bool bd,iN ((if z then Rq.nx q else q).off),iN ((if z then Rq.nx q else q).er)] 102::.row 97 11 ((.slice (some ⟨g,0,none⟩) (o::r).length c)) ((o::r).length) ((xr++oC o s1 s2))::.row 179 13 (rv) (V.length+1) ((yr++vC v t0 t1 t2))::(AR++bs))) (λz=>z=(decide (o.kd=2) && Rq.ac l [41] q)) ?_ λz hC=>?_
 ·
  refine .rg<|.mv Z<|.nC Z<|.fA Z gN<|.yw (.loadR1 Z lV cO (kC hlo Z))<|.yw (.eql Z Z)<|.mv Z<|.b2 (λh30=>?_) (λh30=>?_)
  ·have hg:o.kd=2:=aQ.1 (by have:=aH h30;show o.kd.toNat=2;omega);exact .gy (.move Z)<|.gd Z Z<|.cs (X:=Unit) dH Z (λW s=>eH K hq [41] (s.pickT (hd:=[_,_,_]) (tl:=(AR++bs)) (hd':=[_,_,_]) [0,1,2] Z Z)) Z λ_ _=>.yw (.pickT Z Z)<|.aq Z<|.me _ ⟨Z,Jt⟩ ⟨Z,Z,Jt⟩ (λ_ s=>s) (by first | rw [aS hg,aA] | (rw [aP hg];rfl))
  have hg:¬ o.kd=2:=λe=>aN h30 (by rw [e];rfl);exact .gG<|.gG<|.yw (.pickF Z Z)<|.aq Z<|.me _ ⟨Z,Jt⟩ ⟨Z,Z,Jt⟩ (λ_ s=>s) (by first | rw [aS hg,aA] | (rw [aP hg];rfl))
 have e24:=hC;refine .cd Z (λh24=>?_) (λh24=>?_)
 ·rw [h24] at e24;have y24:=aE _ _ |>.mp e24.symm
  have hk:o.kd=2:=aH y24.1;rw [aL h24];have hk5:o.kd≠5:=by rw [hk];decide
  obtain ⟨SO,FO⟩:=Ops.inv2 S.ops hk5;refine .sm Z<|.cs (X:=Nat × Nat) DW Z (λW s=>aO8 K (dA K.gd.last hq y24.2) V1.one (by omega) l1 (s.pickT (hd:=[_,_,_]) (tl:=(AR++bs)) (hd':=[_,_,_]) [0,2,1] Z Z)) Z λp1 _=>.al wP Z λb3=>.sW .head Z Z wR V1.one Z<|.ns<|.fA Z uD<|.st .head Z Z mT Z (nb Z) Z<|.nt<|.rg<|.mv Z<|.yw (.loadW Z vV Hm Z)<|.cs (X:=(Nat × Nat) × (Option Addr × Nat)) qA Z (λW s=>xI K (dA K.gd.last hq y24.2) (VlR.one (v:=(⟨v.tm,false,v.e,v.f⟩:Vl)) ⟨V1.e,V1.f⟩) (by omega) (by omega) hlo (s.pickT (hd:=[_,_,_,_]) (tl:=(AR++bs)) (hd':=[_,_,_,_]) [1,3,2,0] Z Z)) Z λp9 _=>.nl<|.bN<|?_
  refine jA (.inr Z) rfl .nil rfl λW s=>?_;have e0:lT l (⟨q,o::r,(v::V,bd),true,dn⟩:Ps)=⟨q.nx,r,((⟨v.tm,false,v.e,v.f⟩:Vl)::V,bd),true,dn⟩:=ZS rfl hk y24.2;rw [e0];exact ⟨(_,_,_,_,_,AR),⟨.refl,⟨SO,.cons VS1 (v:=(⟨v.tm,false,v.e,v.f⟩:Vl)) ⟨V1.e,V1.f⟩⟩⟩,Z,s.pickT (hd:=[_,_,_,_]) (tl:=(AR++bs)) (hd':=[_,_,_]) [0,1,2] rfl rfl⟩
 rw [h24] at e24;rw [aF (by rw [h24];decide)];refine .cu (X:=Bool) [(0,_),(2,_)] ⟨Z,Z,Jt⟩ (λz=>[(40,.bool z)]) (λz=>H) (λz=>(.box b [.slice tp l.length tc,iN ((if z then Rq.nx q else q).i),(.slice (some ⟨g,0,none⟩) (o::r).length c),rv,.bool true,.bool dn,.bool bd,iN ((if z then Rq.nx q else q).off),iN ((if z then Rq.nx q else q).er)] 102::.row 97 11 ((.slice (some ⟨g,0,none⟩) (o::r).length c)) ((o::r).length) ((xr++oC o s1 s2))::.row 179 13 (rv) (V.length+1) ((yr++vC v t0 t1 t2))::(AR++bs))) (λz=>z=(decide (o.kd=3) && Rq.ac l [41] q)) ?_ λz hC=>?_
 ·
  refine .rg<|.mv Z<|.nC Z<|.fA Z gN<|.yw (.loadR1 Z lV cO (kC hlo Z))<|.yw (.eql Z Z)<|.mv Z<|.b2 (λh46=>?_) (λh46=>?_)
  ·have hg:o.kd=3:=aQ.1 (by have:=aH h46;show o.kd.toNat=3;omega);exact .gy (.move Z)<|.gd Z Z<|.cs (X:=Unit) dH Z (λW s=>eH K hq [41] (s.pickT (hd:=[_,_,_]) (tl:=(AR++bs)) (hd':=[_,_,_]) [0,1,2] Z Z)) Z λ_ _=>.yw (.pickT Z Z)<|.aq Z<|.me _ ⟨Z,Jt⟩ ⟨Z,Z,Jt⟩ (λ_ s=>s) (by first | rw [aS hg,aA] | (rw [aP hg];rfl))
  have hg:¬ o.kd=3:=λe=>aN h46 (by rw [e];rfl);exact .gG<|.gG<|.yw (.pickF Z Z)<|.aq Z<|.me _ ⟨Z,Jt⟩ ⟨Z,Z,Jt⟩ (λ_ s=>s) (by first | rw [aS hg,aA] | (rw [aP hg];rfl))
 have e40:=hC;refine .cd Z (λh40=>?_) (λh40=>?_)
 ·rw [h40] at e40;have y40:=aE _ _ |>.mp e40.symm
  have hk:o.kd=3:=aH y40.1;rw [aL h40];have hk5:o.kd≠5:=by rw [hk];decide
  obtain ⟨SO,FO⟩:=Ops.inv2 S.ops hk5;refine .sm Z<|.cs (X:=Unit) nD Z (λW s=>rO K (dA K.gd.last hq y40.2) [62,61] (s.pickT (hd:=[_,_,_]) (tl:=(AR++bs)) (hd':=[_,_,_]) [0,1,2] Z Z)) Z λ_ _=>.ns<|.mv Z<|.mv Z<|.cs (X:=Unit) sA Z (λW s=>wE K (kK K.gd.last (dA K.gd.last hq y40.2))  (s.pickT (hd:=[_,_,_]) (tl:=(AR++bs)) (hd':=[_,_,_]) [0,1,2] Z Z)) Z λ_ _=>.yw (.build Z (AB _ _))<|.bl Z (nE _ _ _ _) Z λb56=>?_
  refine Sx.freezeBoxN λH2 u2 m2=>?_;refine .nC Z<|.fA Z dJ<|.fA Z cJ<|.s1Q (sT (n:=r.length * 11) (j:=9) (cs':=oC o (.slice (some ⟨b56,0,none⟩) 1 1) s2) hlo Z) Z Z mM Z kT (by rw [aG,hlo];show r.length * 11+9<r.length * 11+11;omega)<|.ns<|.mv Z<|.mv Z<|.cs (X:=Nat × Nat) vU Z (λW s=>vR (K.up u2.up) (xB K.gd.last (kK K.gd.last (dA K.gd.last hq y40.2))) V1.one V1.e.nm (by omega) l1 (s.pickT (hd:=[_,_,_]) (tl:=(AR++bs)) (hd':=[_,_,_]) [0,2,1] Z Z)) Z λp1 _=>?_
  obtain ⟨q1,q2,ef,FR⟩:=GQ V1;rw [ef];refine .bl Z (qD _ _ _ _ _ _ _) Z λb63=>?_;refine Sx.freezeBoxN λH3 u3 m3=>?_;refine .nC Z<|.fA Z dJ<|.fA Z dD<|.s1Q (sT (n:=r.length * 11) (j:=10) (cs':=oC o (.slice (some ⟨b56,0,none⟩) 1 1) (.slice (some ⟨b63,0,none⟩) 1 1)) hlo Z) Z Z CA Z lZ (by rw [aG,hlo];show r.length * 11+10<r.length * 11+11;omega)<|.nt<|.rg<|.mv Z<|.mv Z<|.nC Z<|.fA Z dJ<|.yw (.loadR (vs:=(cFm .u8 o.f.op o.f.nm o.f.fd o.f.a o.f.b (.slice (some ⟨b56,0,none⟩) 1 1) (.slice (some ⟨b63,0,none⟩) 1 1))) Z cD mY Z (λj u h=>by rw [dN];exact kC hlo (by rw [Nat.add_comm 4 j];exact h)))<|.yw (.build Z (MO _ _ _ _ _ _ _ _))<|?_
  have VN:VlR H3 (⟨false,true,zE,(o.f.wEx [(.mk 1 [] ((q.nx.exS l [62,61]).nbV l) [])]).wAr [v.fm]⟩:Vl) (.slice none 0 0) (.slice (some ⟨b56,0,none⟩) 1 1) (.slice (some ⟨b63,0,none⟩) 1 1):=⟨ExR.zero rfl (aO _),⟨(Rep.mk (n:=1) (c:=1) m2 (.single (ExR.zero (e:=(.mk 1 [] ((q.nx.exS l [62,61]).nbV l) [])) rfl (aO _)).rep rfl) rfl (aY _) (by decide)).up u3.up,(Rep.mk m3 (.single ((FR.up u2.up).up u3.up).rep rfl) rfl (aY _) (by decide)),FO.nm,FO.fd⟩⟩;refine .cs (X:=(Nat × Nat) × (Option Addr × Nat)) qA Z (λW s=>xI ((K.up u2.up).up u3.up) (xB K.gd.last (kK K.gd.last (dA K.gd.last hq y40.2))) VN.one (by omega) (by omega) hlo (s.pickT (hd:=[_,_,_]) (tl:=(AR++bs)) (hd':=[_,_,_]) [0,2,1] Z Z)) Z λp9 _=>.nl<|.bN<|?_
  refine jA (.inr Z) rfl .nil rfl λW s=>?_;have e0:lT l (⟨q,o::r,(v::V,bd),true,dn⟩:Ps)=⟨((q.nx.exS l [62,61]).nbS l),r,((⟨false,true,zE,(o.f.wEx [(.mk 1 [] ((q.nx.exS l [62,61]).nbV l) [])]).wAr [v.fm]⟩:Vl)::V,bd || v.noF),true,dn⟩:=ZV rfl hk y40.2;rw [e0];exact ⟨(_,_,_,_,_,AR),⟨(u2.trans u3),⟨(SO.up u2.up).up u3.up,.cons ((VS1.up u2.up).up u3.up) VN⟩⟩,Z,s.pickT (hd:=[_,_,_]) (tl:=(AR++bs)) (hd':=[_,_,_]) [0,1,2] rfl rfl⟩
 rw [h40] at e40;rw [aF (by rw [h40];decide)];refine .cu (X:=Bool) [(0,_),(2,_)] ⟨Z,Z,Jt⟩ (λz=>[(74,.bool z)]) (λz=>H) (λz=>(.box b [.slice tp l.length tc,iN ((if z then Rq.nx q else q).i),(.slice (some ⟨g,0,none⟩) (o::r).length c),rv,.bool true,.bool dn,.bool bd,iN ((if z then Rq.nx q else q).off),iN ((if z then Rq.nx q else q).er)] 102::.row 97 11 ((.slice (some ⟨g,0,none⟩) (o::r).length c)) ((o::r).length) ((xr++oC o s1 s2))::.row 179 13 (rv) (V.length+1) ((yr++vC v t0 t1 t2))::(AR++bs))) (λz=>z=(decide (o.kd=4) && Rq.ac l [93] q)) ?_ λz hC=>?_
 ·
  refine .rg<|.mv Z<|.nC Z<|.fA Z gN<|.yw (.loadR1 Z lV cO (kC hlo Z))<|.yw (.eql Z Z)<|.mv Z<|.b2 (λh80=>?_) (λh80=>?_)
  ·have hg:o.kd=4:=aQ.1 (by have:=aH h80;show o.kd.toNat=4;omega);exact .gy (.move Z)<|.gd Z Z<|.cs (X:=Unit) dH Z (λW s=>eH K hq [93] (s.pickT (hd:=[_,_,_]) (tl:=(AR++bs)) (hd':=[_,_,_]) [0,1,2] Z Z)) Z λ_ _=>.yw (.pickT Z Z)<|.aq Z<|.me _ ⟨Z,Jt⟩ ⟨Z,Z,Jt⟩ (λ_ s=>s) (by first | rw [aS hg,aA] | (rw [aP hg];rfl))
  have hg:¬ o.kd=4:=λe=>aN h80 (by rw [e];rfl);exact .gG<|.gG<|.yw (.pickF Z Z)<|.aq Z<|.me _ ⟨Z,Jt⟩ ⟨Z,Z,Jt⟩ (λ_ s=>s) (by first | rw [aS hg,aA] | (rw [aP hg];rfl))
 have e74:=hC;refine .cd Z (λh74=>?_) (λh74=>?_)
 ·rw [h74] at e74;have y74:=aE _ _ |>.mp e74.symm
  have hk:o.kd=4:=aH y74.1;rw [aL h74];have hk5:o.kd≠5:=by rw [hk];decide
  obtain ⟨SO,FO⟩:=Ops.inv2 S.ops hk5;refine .sm Z<|.cs (X:=Nat × Nat) nB Z (λW s=>xQ K (dA K.gd.last hq y74.2) V1.one (by omega) l1 (s.pickT (hd:=[_,_,_]) (tl:=(AR++bs)) (hd':=[_,_,_]) [0,2,1] Z Z)) Z λp1 _=>.bl Z (nE _ _ _ _) Z λb86=>?_
  refine Sx.freezeBoxN λH2 u2 m2=>?_;refine .aq Z<|.sq<|.sm Z<|.nC Z<|.fA Z zP<|.yw (.loadR1 Z jR mY (kC hlo Z))<|.yw (.eql Z Z)<|.nt<|.cd Z (λh91=>?_) (λh91=>?_)
  ·have ho6:o.op=6:=aQ.1 (by have:=aH h91;show o.op.toNat=6;omega);refine .sm Z<|.mv Z<|.nC Z<|.fA Z dJ<|.fA Z fV<|.yw (.loadR1 Z cZ mY (zM (j:=1) hlo Z))<|.mv Z<|.yw (.build Z (LT _ _ _ _ _))<|.yw (.build Z (jH _ _ _ _ _))<|?_
   have VN:VlR H2 (tmv (.mk 6 o.f.nm 0 [v.e])) (.slice (some ⟨b86,0,none⟩) 1 1) (.slice none 0 0) (.slice none 0 0):=⟨⟨(Rep.mk m2 (.single (V1.e.up u2.up).rep rfl) rfl (aY _) (by decide)),FO.nm⟩,FmR.zero rfl rfl (aO _) (aO _)⟩;refine .cs (X:=(Nat × Nat) × (Option Addr × Nat)) qA Z (λW s=>xI (K.up u2.up) (dA K.gd.last hq y74.2) VN.one (by omega) (by omega) hlo (s.pickT (hd:=[_,_,_]) (tl:=(AR++bs)) (hd':=[_,_,_]) [0,2,1] Z Z)) Z λp9 _=>.nt<|.rt<|.tR<|.bR<|?_
   refine y7 Z .nil rfl λW s=>?_;have e0:lT l (⟨q,o::r,(v::V,bd),true,dn⟩:Ps)=⟨q.nx,r,((tmv (.mk 6 o.f.nm 0 [v.e]))::V,bd || !v.tm),true,dn⟩:=ZU rfl hk ho6 y74.2;rw [e0];exact ⟨(_,_,_,_,_,AR),⟨u2,⟨SO.up u2.up,.cons (VS1.up u2.up) VN⟩⟩,Z,s.pickT (hd:=[_,_,_]) (tl:=(AR++bs)) (hd':=[_,_,_]) [0,1,2] rfl rfl⟩
  have ho6:¬ o.op=6:=λe=>aN h91 (by rw [e];rfl);refine .sk<|.tN<|.sm Z<|.mv Z<|.nC Z<|.fA Z dJ<|.fA Z cJ<|.s1Q (sT (n:=r.length * 11) (j:=9) (cs':=oC o (.slice (some ⟨b86,0,none⟩) 1 1) s2) hlo Z) Z Z mM Z lZ (by rw [aG,hlo];show r.length * 11+9<r.length * 11+11;omega)<|.nt<|.rg<|.mv Z<|.mv Z<|.nC Z<|.fA Z dJ<|.yw (.loadR (vs:=(cFm .u8 o.f.op o.f.nm o.f.fd o.f.a o.f.b (.slice (some ⟨b86,0,none⟩) 1 1) s2)) Z cD mY Z (λj u h=>by rw [dN];exact kC hlo (by rw [Nat.add_comm 4 j];exact h)))<|.yw (.build Z (iR _ _ _ _ _ _ _))<|?_
  have VN:VlR H2 (fmv (o.f.wEx [v.e])) (.slice none 0 0) (.slice (some ⟨b86,0,none⟩) 1 1) s2:=⟨ExR.zero rfl (aO _),⟨(Rep.mk m2 (.single (V1.e.up u2.up).rep rfl) rfl (aY _) (by decide)),FO.ar.up u2.up,FO.nm,FO.fd⟩⟩;refine .cs (X:=(Nat × Nat) × (Option Addr × Nat)) qA Z (λW s=>xI (K.up u2.up) (dA K.gd.last hq y74.2) VN.one (by omega) (by omega) hlo (s.pickT (hd:=[_,_,_]) (tl:=(AR++bs)) (hd':=[_,_,_]) [0,2,1] Z Z)) Z λp9 _=>.nl<|.bN<|?_
  refine jA (.inr Z) rfl .nil rfl λW s=>?_;have e0:lT l (⟨q,o::r,(v::V,bd),true,dn⟩:Ps)=⟨q.nx,r,((fmv (o.f.wEx [v.e]))::V,bd || !v.tm),true,dn⟩:=ZT rfl hk ho6 y74.2;rw [e0];exact ⟨(_,_,_,_,_,AR),⟨u2,⟨SO.up u2.up,.cons (VS1.up u2.up) VN⟩⟩,Z,s.pickT (hd:=[_,_,_]) (tl:=(AR++bs)) (hd':=[_,_,_]) [0,1,2] rfl rfl⟩
 rw [h74] at e74;rw [aF (by rw [h74];decide)];refine .cu (X:=Bool) [(0,_),(2,_)] ⟨Z,Z,Jt⟩ (λz=>[(114,.bool z)]) (λz=>H) (λz=>(.box b [.slice tp l.length tc,iN ((if z then Rq.nx q else q).i),(.slice (some ⟨g,0,none⟩) (o::r).length c),rv,.bool true,.bool dn,.bool bd,iN ((if z then Rq.nx q else q).off),iN ((if z then Rq.nx q else q).er)] 102::.row 97 11 ((.slice (some ⟨g,0,none⟩) (o::r).length c)) ((o::r).length) ((xr++oC o s1 s2))::.row 179 13 (rv) (V.length+1) ((yr++vC v t0 t1 t2))::(AR++bs))) (λz=>z=(decide (o.kd=5) && Rq.ac l [44] q)) ?_ λz hC=>?_
 ·
  refine .rg<|.mv Z<|.nC Z<|.fA Z gN<|.yw (.loadR1 Z lV cO (kC hlo Z))<|.yw (.eql Z Z)<|.mv Z<|.b2 (λh120=>?_) (λh120=>?_)
  ·have hg:o.kd=5:=aQ.1 (by have:=aH h120;show o.kd.toNat=5;omega);exact .gy (.move Z)<|.gd Z Z<|.cs (X:=Unit) dH Z (λW s=>eH K hq [44] (s.pickT (hd:=[_,_,_]) (tl:=(AR++bs)) (hd':=[_,_,_]) [0,1,2] Z Z)) Z λ_ _=>.yw (.pickT Z Z)<|.aq Z<|.me _ ⟨Z,Jt⟩ ⟨Z,Z,Jt⟩ (λ_ s=>s) (by first | rw [aS hg,aA] | (rw [aP hg];rfl))
  have hg:¬ o.kd=5:=λe=>aN h120 (by rw [e];rfl);exact .gG<|.gG<|.yw (.pickF Z Z)<|.aq Z<|.me _ ⟨Z,Jt⟩ ⟨Z,Z,Jt⟩ (λ_ s=>s) (by first | rw [aS hg,aA] | (rw [aP hg];rfl))
 have e114:=hC;refine .cd Z (λh114=>?_) (λh114=>?_)
 ·rw [h114] at e114;have y114:=aE _ _ |>.mp e114.symm
  have hk:o.kd=5:=aH y114.1;rw [aL h114];obtain ⟨AR1,xe,rfl,SO,rfl,hze,har,hnm,hfd⟩:=Ops.inv5 S.ops hk;refine Sx.reSt (λW s=>(s:St _ _ (_::_::_::_::(AR1++bs)) W)) ?_;obtain ⟨AR,rfl⟩:∃ A,A=AR1:=⟨_,Z⟩;refine Sx.At.ra (size:=4) (r:=s1) (e:=76) pT λpA cA e=>?_;subst e;refine .sq<|.fx (p:=.light _ _ (.light _ _ (.light _ _ (.light _ _ (.light _ _ (.light _ _ (.light _ _ (.alt _ _ _ (.alt _ _ _ (.alt _ _ _ (.light _ _ (.light _ _ (.light _ _ (.light _ _ (.alt _ _ _ (.alt _ _ _ (.done) (.no)) (.alt _ _ _ (.alt _ _ _ (.done) (.no)) (.no))))))) (.no)) (.no)) (.alt _ _ _ (.alt _ _ _ (.alt _ _ _ (.light _ _ (.light _ _ (.light _ _ (.light _ _ (.alt _ _ _ (.alt _ _ _ (.done) (.no)) (.alt _ _ _ (.alt _ _ _ (.done) (.no)) (.no))))))) (.no)) (.no)) (.no)))))))))) 16 (.light 0 (.light 1 (.light 2 (.light 3 (.light 4 (.light 5 (.light 7 (.alt 6 2 (.alt 8 0 (.alt 9 2 (.light 10 (.light 12 (.light 13 (.light 14 (.alt 11 2 (.alt 15 2 (.done) (.no)) (.alt 15 2 (.alt 11 2 (.done) (.no)) (.no))))))) (.no)) (.no)) (.alt 8 0 (.alt 6 2 (.alt 9 2 (.light 10 (.light 12 (.light 13 (.light 14 (.alt 11 2 (.alt 15 2 (.done) (.no)) (.alt 15 2 (.alt 11 2 (.done) (.no)) (.no))))))) (.no)) (.no)) (.no)))))))))) (by kernel_rfl) (by kernel_rfl) Z<|.mv Z<|.nC Z<|.fA Z dJ<|.fA Z cJ<|.yw (.loadR1 Z dE cO (zM (j:=5) hlo Z))<|.mv Z<|.yw (.lenSl dO Z)<|.h ?_ (.h ?_ .nn)
  ·
   refine .c3 (X:=Nat × Nat) nB Z (λW s=>xQ K (dA K.gd.last hq y114.2) V1.one (by omega) l1 (s.pickT (hd:=[_,_,_,_]) (tl:=(AR++bs)) (hd':=[_,_,_,_]) [0,2,1,3] Z Z)) Z (λ_ _=>(.yv (.lenSl dO Z)<|.dn<|.yv (.loadR1 Z dE mY (zM (j:=5) hlo Z))<|.yv (.fieldAddr Z cJ)<|.yv (.fieldAddr Z dJ)<|.yv (.nilCheck Z)<|.yv (.move Z)<|.nl)) λp1 _=>.h1<|.blF Z (nE _ _ _ _) Z λb132 H3 u3 m3=>.h1<|.apE uM Z (λ_ _=>mN) Z (Rep.mk (n:=1) (c:=1) (ds:=[dEx .u8 zE]) m3 (.single (OH _) Z) Z (aY _) (by decide)) (Nat.succ_pos _) (by simp only [maxLen];omega) (by omega) Z (λ_ _=>(.d4<|.d3<|.nl)) λnews gE cE hn=>.yw (.indexSl dO Z Z (i:=o.f.ex.length) Z (by omega) (q:=o.f.ex.length * 4) (by omega))<|.nC Z<|.fA Z dJ<|.fA Z cJ<|.h ?_ (.h ?_ .nn)
   ·
    refine .sR Z Z fY (Rep.one V1.e.rep) mN (by have:=hn.len;have:=hze.len;simp only [aG,aJ,aM,bJ] at * <;> omega) (.yv (.fieldAddr Z cJ)<|.yv (.fieldAddr Z dJ)<|.yv (.nilCheck Z)<|.d4<|.d4<|.nl) <|.h1<|.s1Q (sT (n:=r.length * 11) (j:=9) (cs':=oC o (.slice (some ⟨gE,0,none⟩) (o.f.ex.length+1) cE) (.slice none 0 0)) hlo Z) Z Z mM Z lZ (by rw [aG,hlo];show r.length * 11+9<r.length * 11+11;omega) (.d3<|.yv (.indexSl dO Z Z (i:=o.f.ex.length) Z (by omega) (q:=o.f.ex.length * 4) (by omega))<|.d4<|.d3<|.nl) <|.fe<|.tN<|.rg<|.mv Z<|.nC Z<|.fA Z lL<|.st .head Z Z mT Z (nb Z) Z<|.nl<|.bN<|?_
    refine jA (.inr Z) rfl .nil rfl λW s=>?_;have e0:lT l (⟨q,o::r,(v::V,bd),true,dn⟩:Ps)=⟨q.nx,⟨o.kd,o.lv,o.tm,o.op,o.f.wEx (o.f.ex++[v.e])⟩::r,(V,bd || !v.tm),false,dn⟩:=FL rfl hk y114.2;rw [e0];have hz:=xE (ds:=o.f.ex.map (dEx .u8)) (hze.up u3.up) hn (V1.e.up u3.up).rep rfl (bJ ..);have ha:=Ops.arg (o:=⟨o.kd,o.lv,o.tm,o.op,o.f.wEx (o.f.ex++[v.e])⟩) (SO.up u3.up) hk har hnm hfd (by rw [show (⟨o.kd,o.lv,o.tm,o.op,o.f.wEx (o.f.ex++[v.e])⟩:Ov).f.ex=o.f.ex++[v.e] from rfl,bU];exact hz) (s1:=(.slice (some ⟨gE,0,none⟩) (o.f.ex.length+1) cE)) rfl;rw [show (⟨o.kd,o.lv,o.tm,o.op,o.f.wEx (o.f.ex++[v.e])⟩:Ov).f.ex.length=o.f.ex.length+1 from by show (o.f.ex++[v.e]).length=_;rw [aG];rfl] at ha;exact ⟨(H3,(.slice (some ⟨g,0,none⟩) (o::r).length c),.slice (some ⟨p1.1,0,none⟩) V.length p1.2,xr++oC ⟨o.kd,o.lv,o.tm,o.op,o.f.wEx (o.f.ex++[v.e])⟩ (.slice (some ⟨gE,0,none⟩) (o.f.ex.length+1) cE) (.slice none 0 0),yr,.row 76 4 (.slice (some ⟨gE,0,none⟩) (o.f.ex.length+1) cE) (o.f.ex.length+1) (nK (xe++news) (o.f.ex.length * 4) [.int .u8 v.e.op.toNat,cH v.e.nm,.int .i64 v.e.n.toInt,t0])::AR),⟨u3,⟨ha,(VS1.up u3.up)⟩⟩,Z,s.pickT (hd:=[_,_,_,_]) (tl:=(AR++bs)) (hd':=[_,_,_,_]) [0,2,1,3] rfl rfl⟩
   refine .s1Q (sT (n:=r.length * 11) (j:=9) (cs':=oC o (.slice (some ⟨gE,0,none⟩) (o.f.ex.length+1) cE) (.slice none 0 0)) hlo Z) Z Z mM Z lZ (by rw [aG,hlo];show r.length * 11+9<r.length * 11+11;omega) (.d3<|.yv (.indexSl dO Z Z (i:=o.f.ex.length) Z (by omega) (q:=o.f.ex.length * 4) (by omega))<|.d4<|.d3<|.nl) <|.h1<|.sR Z Z fY (Rep.one V1.e.rep) mN (by have:=hn.len;have:=hze.len;simp only [aG,aJ,aM,bJ] at * <;> omega) (.yv (.fieldAddr Z cJ)<|.yv (.fieldAddr Z dJ)<|.yv (.nilCheck Z)<|.d4<|.d4<|.nl) <|.fe<|.tN<|.rg<|.mv Z<|.nC Z<|.fA Z lL<|.st .head Z Z mT Z (nb Z) Z<|.nl<|.bN<|?_
   refine jA (.inr Z) rfl .nil rfl λW s=>?_;have e0:lT l (⟨q,o::r,(v::V,bd),true,dn⟩:Ps)=⟨q.nx,⟨o.kd,o.lv,o.tm,o.op,o.f.wEx (o.f.ex++[v.e])⟩::r,(V,bd || !v.tm),false,dn⟩:=FL rfl hk y114.2;rw [e0];have hz:=xE (ds:=o.f.ex.map (dEx .u8)) (hze.up u3.up) hn (V1.e.up u3.up).rep rfl (bJ ..);have ha:=Ops.arg (o:=⟨o.kd,o.lv,o.tm,o.op,o.f.wEx (o.f.ex++[v.e])⟩) (SO.up u3.up) hk har hnm hfd (by rw [show (⟨o.kd,o.lv,o.tm,o.op,o.f.wEx (o.f.ex++[v.e])⟩:Ov).f.ex=o.f.ex++[v.e] from rfl,bU];exact hz) (s1:=(.slice (some ⟨gE,0,none⟩) (o.f.ex.length+1) cE)) rfl;rw [show (⟨o.kd,o.lv,o.tm,o.op,o.f.wEx (o.f.ex++[v.e])⟩:Ov).f.ex.length=o.f.ex.length+1 from by show (o.f.ex++[v.e]).length=_;rw [aG];rfl] at ha;exact ⟨(H3,(.slice (some ⟨g,0,none⟩) (o::r).length c),.slice (some ⟨p1.1,0,none⟩) V.length p1.2,xr++oC ⟨o.kd,o.lv,o.tm,o.op,o.f.wEx (o.f.ex++[v.e])⟩ (.slice (some ⟨gE,0,none⟩) (o.f.ex.length+1) cE) (.slice none 0 0),yr,.row 76 4 (.slice (some ⟨gE,0,none⟩) (o.f.ex.length+1) cE) (o.f.ex.length+1) (nK (xe++news) (o.f.ex.length * 4) [.int .u8 v.e.op.toNat,cH v.e.nm,.int .i64 v.e.n.toInt,t0])::AR),⟨u3,⟨ha,(VS1.up u3.up)⟩⟩,Z,s.pickT (hd:=[_,_,_,_]) (tl:=(AR++bs)) (hd':=[_,_,_,_]) [0,2,1,3] rfl rfl⟩
  refine .blF Z (nE _ _ _ _) Z λb132 H3 u3 m3=>.h1<|.c3 (X:=Nat × Nat) nB Z (λW s=>xQ (K.up u3.up) (dA K.gd.last hq y114.2) V1.one (by omega) l1 (s.pickT (hd:=[_,_,_,_]) (tl:=(AR++bs)) (hd':=[_,_,_,_]) [0,2,1,3] Z Z)) Z (λ_ _=>(.yv (.lenSl dO Z)<|.dn<|.yv (.loadR1 Z dE mY (zM (j:=5) hlo Z))<|.yv (.fieldAddr Z cJ)<|.yv (.fieldAddr Z dJ)<|.yv (.nilCheck Z)<|.yv (.move Z)<|.nl)) λp1 _=>.h1<|.apE uM Z (λ_ _=>mN) Z (Rep.mk (n:=1) (c:=1) (ds:=[dEx .u8 zE]) m3 (.single (OH _) Z) Z (aY _) (by decide)) (Nat.succ_pos _) (by simp only [maxLen];omega) (by omega) Z (λ_ _=>(.d4<|.d3<|.nl)) λnews gE cE hn=>.yw (.indexSl dO Z Z (i:=o.f.ex.length) Z (by omega) (q:=o.f.ex.length * 4) (by omega))<|.nC Z<|.fA Z dJ<|.fA Z cJ<|.h ?_ (.h ?_ .nn)
  ·
   refine .sR Z Z fY (Rep.one V1.e.rep) mN (by have:=hn.len;have:=hze.len;simp only [aG,aJ,aM,bJ] at * <;> omega) (.yv (.fieldAddr Z cJ)<|.yv (.fieldAddr Z dJ)<|.yv (.nilCheck Z)<|.d4<|.d4<|.nl) <|.h1<|.s1Q (sT (n:=r.length * 11) (j:=9) (cs':=oC o (.slice (some ⟨gE,0,none⟩) (o.f.ex.length+1) cE) (.slice none 0 0)) hlo Z) Z Z mM Z lZ (by rw [aG,hlo];show r.length * 11+9<r.length * 11+11;omega) (.d3<|.yv (.indexSl dO Z Z (i:=o.f.ex.length) Z (by omega) (q:=o.f.ex.length * 4) (by omega))<|.d4<|.d3<|.nl) <|.fe<|.tN<|.rg<|.mv Z<|.nC Z<|.fA Z lL<|.st .head Z Z mT Z (nb Z) Z<|.nl<|.bN<|?_
   refine jA (.inr Z) rfl .nil rfl λW s=>?_;have e0:lT l (⟨q,o::r,(v::V,bd),true,dn⟩:Ps)=⟨q.nx,⟨o.kd,o.lv,o.tm,o.op,o.f.wEx (o.f.ex++[v.e])⟩::r,(V,bd || !v.tm),false,dn⟩:=FL rfl hk y114.2;rw [e0];have hz:=xE (ds:=o.f.ex.map (dEx .u8)) (hze.up u3.up) hn (V1.e.up u3.up).rep rfl (bJ ..);have ha:=Ops.arg (o:=⟨o.kd,o.lv,o.tm,o.op,o.f.wEx (o.f.ex++[v.e])⟩) (SO.up u3.up) hk har hnm hfd (by rw [show (⟨o.kd,o.lv,o.tm,o.op,o.f.wEx (o.f.ex++[v.e])⟩:Ov).f.ex=o.f.ex++[v.e] from rfl,bU];exact hz) (s1:=(.slice (some ⟨gE,0,none⟩) (o.f.ex.length+1) cE)) rfl;rw [show (⟨o.kd,o.lv,o.tm,o.op,o.f.wEx (o.f.ex++[v.e])⟩:Ov).f.ex.length=o.f.ex.length+1 from by show (o.f.ex++[v.e]).length=_;rw [aG];rfl] at ha;exact ⟨(H3,(.slice (some ⟨g,0,none⟩) (o::r).length c),.slice (some ⟨p1.1,0,none⟩) V.length p1.2,xr++oC ⟨o.kd,o.lv,o.tm,o.op,o.f.wEx (o.f.ex++[v.e])⟩ (.slice (some ⟨gE,0,none⟩) (o.f.ex.length+1) cE) (.slice none 0 0),yr,.row 76 4 (.slice (some ⟨gE,0,none⟩) (o.f.ex.length+1) cE) (o.f.ex.length+1) (nK (xe++news) (o.f.ex.length * 4) [.int .u8 v.e.op.toNat,cH v.e.nm,.int .i64 v.e.n.toInt,t0])::AR),⟨u3,⟨ha,(VS1.up u3.up)⟩⟩,Z,s.pickT (hd:=[_,_,_,_]) (tl:=(AR++bs)) (hd':=[_,_,_,_]) [0,2,1,3] rfl rfl⟩
  refine .s1Q (sT (n:=r.length * 11) (j:=9) (cs':=oC o (.slice (some ⟨gE,0,none⟩) (o.f.ex.length+1) cE) (.slice none 0 0)) hlo Z) Z Z mM Z lZ (by rw [aG,hlo];show r.length * 11+9<r.length * 11+11;omega) (.d3<|.yv (.indexSl dO Z Z (i:=o.f.ex.length) Z (by omega) (q:=o.f.ex.length * 4) (by omega))<|.d4<|.d3<|.nl) <|.h1<|.sR Z Z fY (Rep.one V1.e.rep) mN (by have:=hn.len;have:=hze.len;simp only [aG,aJ,aM,bJ] at * <;> omega) (.yv (.fieldAddr Z cJ)<|.yv (.fieldAddr Z dJ)<|.yv (.nilCheck Z)<|.d4<|.d4<|.nl) <|.fe<|.tN<|.rg<|.mv Z<|.nC Z<|.fA Z lL<|.st .head Z Z mT Z (nb Z) Z<|.nl<|.bN<|?_
  refine jA (.inr Z) rfl .nil rfl λW s=>?_;have e0:lT l (⟨q,o::r,(v::V,bd),true,dn⟩:Ps)=⟨q.nx,⟨o.kd,o.lv,o.tm,o.op,o.f.wEx (o.f.ex++[v.e])⟩::r,(V,bd || !v.tm),false,dn⟩:=FL rfl hk y114.2;rw [e0];have hz:=xE (ds:=o.f.ex.map (dEx .u8)) (hze.up u3.up) hn (V1.e.up u3.up).rep rfl (bJ ..);have ha:=Ops.arg (o:=⟨o.kd,o.lv,o.tm,o.op,o.f.wEx (o.f.ex++[v.e])⟩) (SO.up u3.up) hk har hnm hfd (by rw [show (⟨o.kd,o.lv,o.tm,o.op,o.f.wEx (o.f.ex++[v.e])⟩:Ov).f.ex=o.f.ex++[v.e] from rfl,bU];exact hz) (s1:=(.slice (some ⟨gE,0,none⟩) (o.f.ex.length+1) cE)) rfl;rw [show (⟨o.kd,o.lv,o.tm,o.op,o.f.wEx (o.f.ex++[v.e])⟩:Ov).f.ex.length=o.f.ex.length+1 from by show (o.f.ex++[v.e]).length=_;rw [aG];rfl] at ha;exact ⟨(H3,(.slice (some ⟨g,0,none⟩) (o::r).length c),.slice (some ⟨p1.1,0,none⟩) V.length p1.2,xr++oC ⟨o.kd,o.lv,o.tm,o.op,o.f.wEx (o.f.ex++[v.e])⟩ (.slice (some ⟨gE,0,none⟩) (o.f.ex.length+1) cE) (.slice none 0 0),yr,.row 76 4 (.slice (some ⟨gE,0,none⟩) (o.f.ex.length+1) cE) (o.f.ex.length+1) (nK (xe++news) (o.f.ex.length * 4) [.int .u8 v.e.op.toNat,cH v.e.nm,.int .i64 v.e.n.toInt,t0])::AR),⟨u3,⟨ha,(VS1.up u3.up)⟩⟩,Z,s.pickT (hd:=[_,_,_,_]) (tl:=(AR++bs)) (hd':=[_,_,_,_]) [0,2,1,3] rfl rfl⟩
 rw [h114] at e114;rw [aF (by rw [h114];decide)];refine .cu (X:=Bool) [(0,_),(2,_)] ⟨Z,Z,Jt⟩ (λz=>[(141,.bool z)]) (λz=>H) (λz=>(.box b [.slice tp l.length tc,iN ((if z then Rq.nx q else q).i),(.slice (some ⟨g,0,none⟩) (o::r).length c),rv,.bool true,.bool dn,.bool bd,iN ((if z then Rq.nx q else q).off),iN ((if z then Rq.nx q else q).er)] 102::.row 97 11 ((.slice (some ⟨g,0,none⟩) (o::r).length c)) ((o::r).length) ((xr++oC o s1 s2))::.row 179 13 (rv) (V.length+1) ((yr++vC v t0 t1 t2))::(AR++bs))) (λz=>z=(decide (o.kd=5) && Rq.ac l [41] q)) ?_ λz hC=>?_
 ·
  refine .rg<|.mv Z<|.nC Z<|.fA Z gN<|.yw (.loadR1 Z lV cO (kC hlo Z))<|.yw (.eql Z Z)<|.mv Z<|.b2 (λh147=>?_) (λh147=>?_)
  ·have hg:o.kd=5:=aQ.1 (by have:=aH h147;show o.kd.toNat=5;omega);exact .gy (.move Z)<|.gd Z Z<|.cs (X:=Unit) dH Z (λW s=>eH K hq [41] (s.pickT (hd:=[_,_,_]) (tl:=(AR++bs)) (hd':=[_,_,_]) [0,1,2] Z Z)) Z λ_ _=>.yw (.pickT Z Z)<|.aq Z<|.me _ ⟨Z,Jt⟩ ⟨Z,Z,Jt⟩ (λ_ s=>s) (by first | rw [aS hg,aA] | (rw [aP hg];rfl))
  have hg:¬ o.kd=5:=λe=>aN h147 (by rw [e];rfl);exact .gG<|.gG<|.yw (.pickF Z Z)<|.aq Z<|.me _ ⟨Z,Jt⟩ ⟨Z,Z,Jt⟩ (λ_ s=>s) (by first | rw [aS hg,aA] | (rw [aP hg];rfl))
 have e141:=hC;refine .cd Z (λh141=>?_) (λh141=>?_)
 ·rw [h141] at e141;have y141:=aE _ _ |>.mp e141.symm
  have hk:o.kd=5:=aH y141.1;rw [aL h141];obtain ⟨AR1,xe,rfl,SO,rfl,hze,har,hnm,hfd⟩:=Ops.inv5 S.ops hk;refine Sx.reSt (λW s=>(s:St _ _ (_::_::_::_::(AR1++bs)) W)) ?_;obtain ⟨AR,rfl⟩:∃ A,A=AR1:=⟨_,Z⟩;refine Sx.At.ra (size:=4) (r:=s1) (e:=76) pT λpA cA e=>?_;subst e;refine .sq<|.fx (p:=.light _ _ (.light _ _ (.light _ _ (.light _ _ (.light _ _ (.light _ _ (.light _ _ (.alt _ _ _ (.alt _ _ _ (.alt _ _ _ (.light _ _ (.light _ _ (.light _ _ (.light _ _ (.alt _ _ _ (.alt _ _ _ (.done) (.no)) (.alt _ _ _ (.alt _ _ _ (.done) (.no)) (.no))))))) (.no)) (.no)) (.alt _ _ _ (.alt _ _ _ (.alt _ _ _ (.light _ _ (.light _ _ (.light _ _ (.light _ _ (.alt _ _ _ (.alt _ _ _ (.done) (.no)) (.alt _ _ _ (.alt _ _ _ (.done) (.no)) (.no))))))) (.no)) (.no)) (.no)))))))))) 16 (.light 0 (.light 1 (.light 2 (.light 3 (.light 4 (.light 5 (.light 7 (.alt 6 2 (.alt 8 0 (.alt 9 2 (.light 10 (.light 12 (.light 13 (.light 14 (.alt 11 2 (.alt 15 2 (.done) (.no)) (.alt 15 2 (.alt 11 2 (.done) (.no)) (.no))))))) (.no)) (.no)) (.alt 8 0 (.alt 6 2 (.alt 9 2 (.light 10 (.light 12 (.light 13 (.light 14 (.alt 11 2 (.alt 15 2 (.done) (.no)) (.alt 15 2 (.alt 11 2 (.done) (.no)) (.no))))))) (.no)) (.no)) (.no)))))))))) (by kernel_rfl) (by kernel_rfl) Z<|.mv Z<|.nC Z<|.fA Z dJ<|.fA Z cJ<|.yw (.loadR1 Z dE cO (zM (j:=5) hlo Z))<|.mv Z<|.yw (.lenSl dO Z)<|.h ?_ (.h ?_ .nn)
  ·
   refine .c3 (X:=Nat × Nat) nB Z (λW s=>xQ K (dA K.gd.last hq y141.2) V1.one (by omega) l1 (s.pickT (hd:=[_,_,_,_]) (tl:=(AR++bs)) (hd':=[_,_,_,_]) [0,2,1,3] Z Z)) Z (λ_ _=>(.yv (.lenSl dO Z)<|.dn<|.yv (.loadR1 Z dE mY (zM (j:=5) hlo Z))<|.yv (.fieldAddr Z cJ)<|.yv (.fieldAddr Z dJ)<|.yv (.nilCheck Z)<|.yv (.move Z)<|.nl)) λp1 _=>.h1<|.blF Z (nE _ _ _ _) Z λb159 H39 u39 m39=>.h1<|.apE uM Z (λ_ _=>mN) Z (Rep.mk (n:=1) (c:=1) (ds:=[dEx .u8 zE]) m39 (.single (OH _) Z) Z (aY _) (by decide)) (Nat.succ_pos _) (by simp only [maxLen];omega) (by omega) Z (λ_ _=>(.d4<|.d3<|.nl)) λnews9 gE9 cE9 hn9=>.yw (.indexSl dO Z Z (i:=o.f.ex.length) Z (by omega) (q:=o.f.ex.length * 4) (by omega))<|.nC Z<|.fA Z dJ<|.fA Z cJ<|.h ?_ (.h ?_ .nn)
   ·
    refine .sR Z Z fY (Rep.one V1.e.rep) mN (by have:=hn9.len;have:=hze.len;simp only [aG,aJ,aM,bJ] at * <;> omega) (.yv (.fieldAddr Z cJ)<|.yv (.fieldAddr Z dJ)<|.yv (.nilCheck Z)<|.d4<|.d4<|.nl) <|.h1<|.s1Q (sT (n:=r.length * 11) (j:=9) (cs':=oC o (.slice (some ⟨gE9,0,none⟩) (o.f.ex.length+1) cE9) (.slice none 0 0)) hlo Z) Z Z mM Z lZ (by rw [aG,hlo];show r.length * 11+9<r.length * 11+11;omega) (.d3<|.yv (.indexSl dO Z Z (i:=o.f.ex.length) Z (by omega) (q:=o.f.ex.length * 4) (by omega))<|.d4<|.d3<|.nl) <|.fe<|.tN<|.rg<|.mv Z<|.mv Z<|.nC Z<|.fA Z dJ<|.yw (.loadR (vs:=(cFm .u8 o.f.op o.f.nm o.f.fd o.f.a o.f.b (.slice (some ⟨gE9,0,none⟩) (o.f.ex.length+1) cE9) (.slice none 0 0))) Z cD mY Z (λj u h=>by rw [dN];exact kC hlo (by rw [Nat.add_comm 4 j];exact h)))<|.yw (.build Z (iR _ _ _ _ _ _ _))<|.cs (X:=(Nat × Nat) × (Option Addr × Nat)) qA Z (λW s=>xI (K.up u39.up) (dA K.gd.last hq y141.2) (by simp [Value.oneCell',cH]) (by omega) (by omega) hlo (s.pickT (hd:=[_,_,_,_]) (tl:=(AR++bs)) (hd':=[_,_,_,_]) [0,2,1,3] Z Z)) Z λp9 _=>.nl<|.bN<|?_
    refine Sx.reSt (λW s=>s.pickT (hd:=[_,_,_,_]) (tl:=(AR++bs)) (hd':=[_,_,_,_]) [3,0,1,2] rfl rfl) ?_;refine mK (ds:=(o.f.ex++[v.e]).map (dEx .u8)) (by rw [bJ,aG];rfl) (by rw [bU];exact xE (ds:=o.f.ex.map (dEx .u8)) (hze.up u39.up) hn9 (V1.e.up u39.up).rep rfl (bJ ..)) λH8 p8 c8 u8 e8 h8=>?_;refine jA (.inr Z) rfl .nil rfl λW s=>?_;have e0:lT l (⟨q,o::r,(v::V,bd),true,dn⟩:Ps)=⟨q.nx,r,((fmv (o.f.wEx (o.f.ex++[v.e])))::V,bd || !v.tm),true,dn⟩:=FM rfl hk y141.2;rw [e0];exact ⟨(_,_,_,_,_,AR),⟨(u39.trans u8),⟨((SO.up u39.up).up u8.up),.cons ((VS1.up u39.up).up u8.up) (v:=(fmv (o.f.wEx (o.f.ex++[v.e])))) ⟨ExR.zero rfl (aO _),⟨h8,by show Rep _ (.seq 7 (o.f.args.map _)) _;rw [har];exact Rep.nil4,hnm,hfd⟩⟩⟩⟩,Z,s.pickT (hd:=[_,_,_]) (tl:=(AR++bs)) (hd':=[_,_,_]) [0,1,2] rfl rfl⟩
   refine .s1Q (sT (n:=r.length * 11) (j:=9) (cs':=oC o (.slice (some ⟨gE9,0,none⟩) (o.f.ex.length+1) cE9) (.slice none 0 0)) hlo Z) Z Z mM Z lZ (by rw [aG,hlo];show r.length * 11+9<r.length * 11+11;omega) (.d3<|.yv (.indexSl dO Z Z (i:=o.f.ex.length) Z (by omega) (q:=o.f.ex.length * 4) (by omega))<|.d4<|.d3<|.nl) <|.h1<|.sR Z Z fY (Rep.one V1.e.rep) mN (by have:=hn9.len;have:=hze.len;simp only [aG,aJ,aM,bJ] at * <;> omega) (.yv (.fieldAddr Z cJ)<|.yv (.fieldAddr Z dJ)<|.yv (.nilCheck Z)<|.d4<|.d4<|.nl) <|.fe<|.tN<|.rg<|.mv Z<|.mv Z<|.nC Z<|.fA Z dJ<|.yw (.loadR (vs:=(cFm .u8 o.f.op o.f.nm o.f.fd o.f.a o.f.b (.slice (some ⟨gE9,0,none⟩) (o.f.ex.length+1) cE9) (.slice none 0 0))) Z cD mY Z (λj u h=>by rw [dN];exact kC hlo (by rw [Nat.add_comm 4 j];exact h)))<|.yw (.build Z (iR _ _ _ _ _ _ _))<|.cs (X:=(Nat × Nat) × (Option Addr × Nat)) qA Z (λW s=>xI (K.up u39.up) (dA K.gd.last hq y141.2) (by simp [Value.oneCell',cH]) (by omega) (by omega) hlo (s.pickT (hd:=[_,_,_,_]) (tl:=(AR++bs)) (hd':=[_,_,_,_]) [0,2,1,3] Z Z)) Z λp9 _=>.nl<|.bN<|?_
   refine Sx.reSt (λW s=>s.pickT (hd:=[_,_,_,_]) (tl:=(AR++bs)) (hd':=[_,_,_,_]) [3,0,1,2] rfl rfl) ?_;refine mK (ds:=(o.f.ex++[v.e]).map (dEx .u8)) (by rw [bJ,aG];rfl) (by rw [bU];exact xE (ds:=o.f.ex.map (dEx .u8)) (hze.up u39.up) hn9 (V1.e.up u39.up).rep rfl (bJ ..)) λH8 p8 c8 u8 e8 h8=>?_;refine jA (.inr Z) rfl .nil rfl λW s=>?_;have e0:lT l (⟨q,o::r,(v::V,bd),true,dn⟩:Ps)=⟨q.nx,r,((fmv (o.f.wEx (o.f.ex++[v.e])))::V,bd || !v.tm),true,dn⟩:=FM rfl hk y141.2;rw [e0];exact ⟨(_,_,_,_,_,AR),⟨(u39.trans u8),⟨((SO.up u39.up).up u8.up),.cons ((VS1.up u39.up).up u8.up) (v:=(fmv (o.f.wEx (o.f.ex++[v.e])))) ⟨ExR.zero rfl (aO _),⟨h8,by show Rep _ (.seq 7 (o.f.args.map _)) _;rw [har];exact Rep.nil4,hnm,hfd⟩⟩⟩⟩,Z,s.pickT (hd:=[_,_,_]) (tl:=(AR++bs)) (hd':=[_,_,_]) [0,1,2] rfl rfl⟩
  refine .blF Z (nE _ _ _ _) Z λb159 H39 u39 m39=>.h1<|.c3 (X:=Nat × Nat) nB Z (λW s=>xQ (K.up u39.up) (dA K.gd.last hq y141.2) V1.one (by omega) l1 (s.pickT (hd:=[_,_,_,_]) (tl:=(AR++bs)) (hd':=[_,_,_,_]) [0,2,1,3] Z Z)) Z (λ_ _=>(.yv (.lenSl dO Z)<|.dn<|.yv (.loadR1 Z dE mY (zM (j:=5) hlo Z))<|.yv (.fieldAddr Z cJ)<|.yv (.fieldAddr Z dJ)<|.yv (.nilCheck Z)<|.yv (.move Z)<|.nl)) λp1 _=>.h1<|.apE uM Z (λ_ _=>mN) Z (Rep.mk (n:=1) (c:=1) (ds:=[dEx .u8 zE]) m39 (.single (OH _) Z) Z (aY _) (by decide)) (Nat.succ_pos _) (by simp only [maxLen];omega) (by omega) Z (λ_ _=>(.d4<|.d3<|.nl)) λnews9 gE9 cE9 hn9=>.yw (.indexSl dO Z Z (i:=o.f.ex.length) Z (by omega) (q:=o.f.ex.length * 4) (by omega))<|.nC Z<|.fA Z dJ<|.fA Z cJ<|.h ?_ (.h ?_ .nn)
  ·
   refine .sR Z Z fY (Rep.one V1.e.rep) mN (by have:=hn9.len;have:=hze.len;simp only [aG,aJ,aM,bJ] at * <;> omega) (.yv (.fieldAddr Z cJ)<|.yv (.fieldAddr Z dJ)<|.yv (.nilCheck Z)<|.d4<|.d4<|.nl) <|.h1<|.s1Q (sT (n:=r.length * 11) (j:=9) (cs':=oC o (.slice (some ⟨gE9,0,none⟩) (o.f.ex.length+1) cE9) (.slice none 0 0)) hlo Z) Z Z mM Z lZ (by rw [aG,hlo];show r.length * 11+9<r.length * 11+11;omega) (.d3<|.yv (.indexSl dO Z Z (i:=o.f.ex.length) Z (by omega) (q:=o.f.ex.length * 4) (by omega))<|.d4<|.d3<|.nl) <|.fe<|.tN<|.rg<|.mv Z<|.mv Z<|.nC Z<|.fA Z dJ<|.yw (.loadR (vs:=(cFm .u8 o.f.op o.f.nm o.f.fd o.f.a o.f.b (.slice (some ⟨gE9,0,none⟩) (o.f.ex.length+1) cE9) (.slice none 0 0))) Z cD mY Z (λj u h=>by rw [dN];exact kC hlo (by rw [Nat.add_comm 4 j];exact h)))<|.yw (.build Z (iR _ _ _ _ _ _ _))<|.cs (X:=(Nat × Nat) × (Option Addr × Nat)) qA Z (λW s=>xI (K.up u39.up) (dA K.gd.last hq y141.2) (by simp [Value.oneCell',cH]) (by omega) (by omega) hlo (s.pickT (hd:=[_,_,_,_]) (tl:=(AR++bs)) (hd':=[_,_,_,_]) [0,2,1,3] Z Z)) Z λp9 _=>.nl<|.bN<|?_
   refine Sx.reSt (λW s=>s.pickT (hd:=[_,_,_,_]) (tl:=(AR++bs)) (hd':=[_,_,_,_]) [3,0,1,2] rfl rfl) ?_;refine mK (ds:=(o.f.ex++[v.e]).map (dEx .u8)) (by rw [bJ,aG];rfl) (by rw [bU];exact xE (ds:=o.f.ex.map (dEx .u8)) (hze.up u39.up) hn9 (V1.e.up u39.up).rep rfl (bJ ..)) λH8 p8 c8 u8 e8 h8=>?_;refine jA (.inr Z) rfl .nil rfl λW s=>?_;have e0:lT l (⟨q,o::r,(v::V,bd),true,dn⟩:Ps)=⟨q.nx,r,((fmv (o.f.wEx (o.f.ex++[v.e])))::V,bd || !v.tm),true,dn⟩:=FM rfl hk y141.2;rw [e0];exact ⟨(_,_,_,_,_,AR),⟨(u39.trans u8),⟨((SO.up u39.up).up u8.up),.cons ((VS1.up u39.up).up u8.up) (v:=(fmv (o.f.wEx (o.f.ex++[v.e])))) ⟨ExR.zero rfl (aO _),⟨h8,by show Rep _ (.seq 7 (o.f.args.map _)) _;rw [har];exact Rep.nil4,hnm,hfd⟩⟩⟩⟩,Z,s.pickT (hd:=[_,_,_]) (tl:=(AR++bs)) (hd':=[_,_,_]) [0,1,2] rfl rfl⟩
  refine .s1Q (sT (n:=r.length * 11) (j:=9) (cs':=oC o (.slice (some ⟨gE9,0,none⟩) (o.f.ex.length+1) cE9) (.slice none 0 0)) hlo Z) Z Z mM Z lZ (by rw [aG,hlo];show r.length * 11+9<r.length * 11+11;omega) (.d3<|.yv (.indexSl dO Z Z (i:=o.f.ex.length) Z (by omega) (q:=o.f.ex.length * 4) (by omega))<|.d4<|.d3<|.nl) <|.h1<|.sR Z Z fY (Rep.one V1.e.rep) mN (by have:=hn9.len;have:=hze.len;simp only [aG,aJ,aM,bJ] at * <;> omega) (.yv (.fieldAddr Z cJ)<|.yv (.fieldAddr Z dJ)<|.yv (.nilCheck Z)<|.d4<|.d4<|.nl) <|.fe<|.tN<|.rg<|.mv Z<|.mv Z<|.nC Z<|.fA Z dJ<|.yw (.loadR (vs:=(cFm .u8 o.f.op o.f.nm o.f.fd o.f.a o.f.b (.slice (some ⟨gE9,0,none⟩) (o.f.ex.length+1) cE9) (.slice none 0 0))) Z cD mY Z (λj u h=>by rw [dN];exact kC hlo (by rw [Nat.add_comm 4 j];exact h)))<|.yw (.build Z (iR _ _ _ _ _ _ _))<|.cs (X:=(Nat × Nat) × (Option Addr × Nat)) qA Z (λW s=>xI (K.up u39.up) (dA K.gd.last hq y141.2) (by simp [Value.oneCell',cH]) (by omega) (by omega) hlo (s.pickT (hd:=[_,_,_,_]) (tl:=(AR++bs)) (hd':=[_,_,_,_]) [0,2,1,3] Z Z)) Z λp9 _=>.nl<|.bN<|?_
  refine Sx.reSt (λW s=>s.pickT (hd:=[_,_,_,_]) (tl:=(AR++bs)) (hd':=[_,_,_,_]) [3,0,1,2] rfl rfl) ?_;refine mK (ds:=(o.f.ex++[v.e]).map (dEx .u8)) (by rw [bJ,aG];rfl) (by rw [bU];exact xE (ds:=o.f.ex.map (dEx .u8)) (hze.up u39.up) hn9 (V1.e.up u39.up).rep rfl (bJ ..)) λH8 p8 c8 u8 e8 h8=>?_;refine jA (.inr Z) rfl .nil rfl λW s=>?_;have e0:lT l (⟨q,o::r,(v::V,bd),true,dn⟩:Ps)=⟨q.nx,r,((fmv (o.f.wEx (o.f.ex++[v.e])))::V,bd || !v.tm),true,dn⟩:=FM rfl hk y141.2;rw [e0];exact ⟨(_,_,_,_,_,AR),⟨(u39.trans u8),⟨((SO.up u39.up).up u8.up),.cons ((VS1.up u39.up).up u8.up) (v:=(fmv (o.f.wEx (o.f.ex++[v.e])))) ⟨ExR.zero rfl (aO _),⟨h8,by show Rep _ (.seq 7 (o.f.args.map _)) _;rw [har];exact Rep.nil4,hnm,hfd⟩⟩⟩⟩,Z,s.pickT (hd:=[_,_,_]) (tl:=(AR++bs)) (hd':=[_,_,_]) [0,1,2] rfl rfl⟩
 rw [h141] at e141;rw [aF (by rw [h141];decide)];refine .rg<|.mv Z<|.cs (X:=Unit) iQ Z (λW s=>pY K hq 8 (s.pickT (hd:=[_,_,_]) (tl:=(AR++bs)) (hd':=[_,_,_]) [0,1,2] Z Z)) Z λ_ _=>.nl<|.bN<|?_
 refine jA (.inr Z) rfl .nil rfl λW s=>?_;have n2:∀ {n:UInt8} {w:Str},false=(decide (o.kd=n) && Rq.ac l w q)->o.kd=n->Rq.ac l w q=false:=λe k=>by rw [aS k,aA] at e;exact e.symm
 have e0:lT l (⟨q,o::r,(v::V,bd),true,dn⟩:Ps)=(⟨q,o::r,(v::V,bd),true,dn⟩:Ps).at (q.fail l 8):=BF (λe e2=>by rw [aS (show o.kd=1 from e),aS (show (tkf l q.i).k=0 from e2)] at e9;cases e9) (λe=>by
  rcases e with e | e | e
  ·exact n2 e24 e
  ·exact n2 e40 e
  ·exact n2 e141 e) (n2 e74) (n2 e114)
 rw [e0];exact ⟨(_,_,_,_,_,AR),⟨.refl,⟨S.ops,S.vls⟩⟩,Z,s.pickT (hd:=[_,_,_]) (tl:=(AR++bs)) (hd':=[_,_,_]) [0,1,2] rfl rfl⟩
def Fex (q:Ps):Prop:=∀ o∈q.op,o.f.ex.length<=q.c.i
section
variable {l:Tks} {q:Ps} {c:Rq} {o:Ov} {v:Vl}
theorem mQ (h:Fex q) (hi:q.c.i<=c.i) (ho:o.f.ex=[]):Fex (fH o (q.at c)):=λz hz=>by
 rcases bQ.1 hz with rfl | hz
 ·rw [bJ7,ho];exact aO _
 ·exact aZ (h z hz) hi
theorem rM (h:Fex q) (hi:q.c.i<=c.i):Fex (iD v (q.at c)):=λz hz=>aZ (h z hz) hi
theorem GR (h:Fex q) (hi:q.c.i<=c.i):Fex (q.at c):=λz hz=>aZ (h z hz) hi
theorem JY {lv:Nat}:∀ (r:List Ov) (x:Vb),∀ z∈(wC lv r x).1,z∈r
 | [],_,z,h=>h
 | o::r,x,z,h=>by
  rw [wC] at h
  split at h
  ·exact bS _ (JY r _ z h)
  ·exact h
theorem zI {lv:Nat} (h:Fex q):Fex (jP lv q):=λz hz=>h z (JY q.op q.x z hz)
theorem FG {x:Vb} (h:Fex q) (hi:q.c.i<=c.i):Fex (FK c v x q):=λz hz=>aZ (h z (List.mem_of_mem_tail hz)) hi
theorem jJ {c:Prop} [Decidable c] {a b:Ps} (h1:c->Fex a) (h2:¬ c->Fex b):Fex (if c then a else b):=by
 by_cases hc:c
 ·rw [aL hc];exact h1 hc
 ·rw [aF hc];exact h2 hc
theorem vB (k:Mq q.c.nx c):q.c.i<=c.i:=aZ (Nat.le_succ _) k.i
theorem aU0 {q':Ps} (h:Fex q) (e:mD l q=some q'):Fex q':=by
 unfold mD at e
 split at e
 ·injection e with e;subst e;exact mQ h (vB (.refl _)) rfl
 split at e
 ·injection e with e;subst e;exact mQ h (vB (.refl _)) rfl
 split at e
 ·injection e with e;subst e;exact mQ h (vB .wiS) rfl
 split at e
 ·injection e with e;subst e;exact mQ h (vB .wiS) rfl
 split at e
 ·injection e with e;subst e;exact mQ h (vB .amS) rfl
 split at e
 ·injection e with e;subst e;exact mQ h (vB .amS) rfl
 split at e
 ·injection e with e;subst e;exact mQ h (vB (.trans .amS .exS)) rfl
 ·cases e
theorem aR4:q.c.i<=(q.c.nmS l).i:=Mq.nmS.i
theorem bF6 (h:Fex q):Fex (vK l q):=by
 unfold vK;refine jJ (λa=>jJ (λb=>mQ h ?_ rfl) λ_=>rM h ?_) λ_=>rM h aR4
 ·exact aZ aR4 (aZ (Nat.le_succ _) (aZ (Mq.nmS (q:=(q.c.nmS l).nx)).i (Nat.le_succ _)))
 ·exact aZ aR4 (aZ (Nat.le_succ _) (Mq.nmS (q:=(q.c.nmS l).nx)).i)
theorem bG2 (h:Fex q):Fex (yL l q):=by
 unfold yL;have h2:q.c.i<=((q.c.paS l).exS l [40]).i:=(Mq.trans (a:=q.c) .paS .exS).i;exact jJ (λ_=>rM h (aZ h2 (Nat.le_succ _))) λ_=>mQ h h2 rfl
theorem bF8 (h:Fex q):Fex (pR l q):=by
 unfold pR
 exact jJ (λ_=>mQ h (vB (.refl _)) rfl) λ_=>jJ (λ_=>mQ h (vB (.refl _)) rfl) λ_ =>
  jJ (λ_=>rM h Mq.nbS.i) λ_=>jJ (λ_=>bF6 h) λ_=>jJ (λ_=>rM h (vB (.refl _))) λ_ =>
  jJ (λ_=>rM h (vB .paS)) λ_=>jJ (λ_=>rM h (vB (.refl _))) λ_=>jJ (λ_=>rM h (vB (.refl _))) λ_ =>
  jJ (λ_=>rM h (vB .nmS)) λ_=>jJ (λ_=>mQ h (vB (.trans .paS .exS)) rfl) λ_ =>
  jJ (λ_=>bG2 (GR h (Nat.le_succ _))) λ_=>GR h Mq.fail.i
theorem UG (h:Fex q):Fex (dV l q):=by
 unfold dV;cases e:(if xS q then mD l q else none) with
 | some q' =>
  split at e
  ·exact aU0 h e
  ·cases e
 | none =>
  show Fex (wB l q);unfold wB;exact jJ (λ_=>rM h (Nat.le_succ _)) λ_=>bF8 h
theorem bG1 {op:UInt8} (h:Fex q):Fex (qZ l op q):=by
 have f {lv:Nat}:Fex ((jP lv q).at (q.c.fail l 8)):=GR (zI h) (Mq.fail (q:=q.c)).i;have p {lv:Nat} {o:Ov} (ho:o.f.ex=[]):Fex (fH o ((jP lv q).at q.c.nx)):=mQ (zI h) (Nat.le_succ _) ho;unfold qZ;exact jJ (λ_=>jJ (λ_=>f) λ_=>p rfl) λ_=>jJ (λ_=>jJ (λ_=>f) λ_=>p rfl) λ_=>jJ (λ_=>f) λ_=>p rfl
theorem bN3 (c:Rq):(c.joV l).ex=[]:=by
 unfold Rq.joV
 split
 ·rfl
 split
 ·rfl
 split
 ·rfl
 split <;> rfl
theorem bF9 (h:Fex q):Fex (wL l q):=by
 unfold wL;exact jJ (λ_=>GR h Mq.fail.i) λ_=>mQ (q:=jP _ q) (c:=q.c.joS l) (zI h) (Mq.joS (q:=q.c)).i (bN3 _)
theorem bG0 (h:Fex q):Fex (lT l q):=by
 unfold lT;refine jJ (λ_=>h) λ_=>jJ (λ_=>FG h (Nat.le_succ _)) λ_=>jJ (λ_=>FG h (vB (.trans .exS .nbS))) λ_=>jJ (λ_=>jJ (λ_=>FG h (Nat.le_succ _)) λ_=>FG h (Nat.le_succ _)) λ_=>jJ (λa=>?_) λ_=>jJ (λ_=>FG h (Nat.le_succ _)) λ_=>GR h Mq.fail.i;intro z hz;have hz':z∈(⟨(dM q).kd,(dM q).lv,(dM q).tm,(dM q).op,(dM q).f.wEx ((dM q).f.ex++[tE q.x])⟩:Ov)::q.op.tail:=hz;show z.f.ex.length<=q.c.i+1;rcases bQ.1 hz' with e | hz
 ·subst e;show ((dM q).f.ex++[tE q.x]).length<=_;rw [aG]
  have:(dM q).f.ex.length<=q.c.i:=by
   unfold dM;cases hq:q.op with
   | nil=>exact aO _
   | cons o r=>exact h o (by rw [hq];exact aX ..)
  simp only [aJ,aM];omega
 ·exact aZ (h z (List.mem_of_mem_tail hz)) (Nat.le_succ _)
theorem aT9 (h:Fex q):Fex (kL l q):=by
 unfold kL;refine jJ (λ_=>?_) λ_=>UG h;unfold fG;cases q.c.sym l with
 | some i=>exact bG1 h
 | none =>
  show Fex (pW l q);unfold pW;exact jJ (λ_=>bF9 h) λ_=>jJ (λ_=>bG0 (zI h)) λ_=>GR h Mq.fail.i
end
def IH (t:Str) (i:Nat):Bool:=decide (lR.getD i []=t) && decide (¬ i=0)
theorem aB0 {t:Str} (hk:k<22) (h:IH t k=true) (hp:∀ j,j<k->IH t j=false):aB2 t=some k:=List.find?_range_eq_some.2 ⟨h,bY.2 hk,λj hj=>by
 have:=hp j hj;unfold IH at this;rw [this];rfl⟩
theorem UP {p:Nat->Prop} (h:∀ j,j<k->p j) (hk:p k):∀ j,j<k+1->p j:=λj hj=>by
 by_cases e:j=k
 ·rw [e];exact hk
 ·exact h j (by omega)
theorem aB1 {t:Str} (hp:∀ j,j<22->IH t j=false):aB2 t=none:=List.find?_range_eq_none.2 λj hj=>by
 have:=hp j hj;unfold IH at this;rw [this];rfl
theorem bR6 (h:k<256):IntKind.u8.wrap (k:Int)=(((UInt8.ofNat k).toNat:Nat):Int):=by
 have key:∀ i∈List.range 256,IntKind.u8.wrap (i:Int)=(i:Int):=by decide +kernel
 rw [key k (bY.2 h),dX h]
set_option maxHeartbeats 2000000 in
theorem WD {b:Nat} {l:Tks} {op:List Ov} {x:Vb} {dn:Bool} (K:Tkf H l tp tc) (Wq:Fwf l ⟨q,op,x,true,dn⟩) (S:Sq H ⟨q,op,x,true,dn⟩ xo xv AR) (G:Gf H) (h0:q.er=0) (FE:Fex (⟨q,op,x,true,dn⟩:Ps)) (s:St H w0 (.box b [.slice tp l.length tc,iN q.i,ro,rv,.bool true,.bool dn,.bool x.2,iN q.off,iN q.er] 102::.row 97 11 (ro) (op.length) (xo)::.row 179 13 (rv) (x.1.length) (xv)::(AR++bs)) W) :
 Calls prg 55 #[.pointer (some ⟨b,0,none⟩)] W (Get w0 bs b l tp tc H (fG l ⟨q,op,x,true,dn⟩)):=by
 have hq:q.i<l.length:=Wq.i;have hcap:=K.rep.cap;refine kB func55 rfl ntmps55 rfl s ?_;refine .sm Z<|.cs (X:=Unit) sJ Z (λW s=>xC K hq  (s.pickT (hd:=[_,_,_]) (tl:=(AR++bs)) (hd':=[_,_,_]) [0,1,2] Z Z)) Z λ_ _=>.al wQ Z λb2=>.sW .head Z Z wS (by simp [cTk,Value.oneCell',cH]) Z<|.nt<|.sq<|.cu (X:=Bool) [(0,_),(2,_)] ⟨Z,Z,Jt⟩ (λz=>[(14,.bool z)]) (λz=>H) (λz=>(.box b2 (cTk .u8 (tkf l q.i)) 108::.box b [.slice tp l.length tc,iN q.i,ro,rv,.bool true,.bool dn,.bool x.2,iN q.off,iN q.er] 102::.row 97 11 (ro) (op.length) (xo)::.row 179 13 (rv) (x.1.length) (xv)::(AR++bs))) (λz=>z=(decide ((tkf l q.i).k=2) || decide ((tkf l q.i).k=4))) ?_ λz hC=>?_
 ·
  refine .rg<|.fA Z jF<|.lD Z nS Hm Z<|.yw (.eql Z Z)<|.mv Z<|.b2 (λh10=>?_) (λh10=>?_)
  ·exact .gG<|.gG<|.gG<|.yw (.pickT Z Z)<|.nt<|.me _ ⟨Z,Jt⟩ ⟨Z,Z,Jt⟩ (λ_ s=>s) (by first | (rw [<-k82,<-k84,h11,Bool.true_or]) | (rw [<-k82,<-k84,h11,aK]) | (rw [<-k82,<-k84,h10,Bool.true_or]) | (rw [<-k82,<-k84,h10,aK]))
  exact .gy (.fieldAddr Z jF)<|.gy (.load Z nS Hm Z)<|.gy (.eql Z Z)<|.yw (.pickF Z Z)<|.nt<|.me _ ⟨Z,Jt⟩ ⟨Z,Z,Jt⟩ (λ_ s=>s) (by first | (rw [<-k82,<-k84,h11,Bool.true_or]) | (rw [<-k82,<-k84,h11,aK]) | (rw [<-k82,<-k84,h10,Bool.true_or]) | (rw [<-k82,<-k84,h10,aK]))
 have e14:=hC;refine .cd Z (λh14=>?_) (λh14=>?_)
 ·have hk24:(tkf l q.i).k=2\/(tkf l q.i).k=4:=by
   rw [h14] at e14;rcases bC _ _ |>.mp e14.symm with h | h
   ·exact .inl (aH h)
   ·exact .inr (aH h)
  refine .sr<|.yw (.loadMW Z aK2 G.syms Z)<|.mv Z<|.nt<|.bk<|.lp (X:=Nat) [(0,_),(2,_),(15,_)] ⟨Z,Z,Z,Jt⟩ ((AR++bs)) (λk=>[(16,iN k)]) (λk=>H) (λk=>[.box b2 (cTk .u8 (tkf l q.i)) 108,.box b [.slice tp l.length tc,iN q.i,ro,rv,.bool true,.bool dn,.bool x.2,iN q.off,iN q.er] 102,.row 97 11 (ro) (op.length) (xo),.row 179 13 (rv) (x.1.length) (xv)]) (λk=>k<=22/\∀ j,j<k->IH (tkf l q.i).t j=false) (λk=>22 - k) 0 (λ_ s=>s) ⟨Z,Jt⟩ ⟨by decide,λj h=>by omega⟩ λk hC=>?_
  obtain ⟨hk0,hpk⟩:=hC;refine .sr<|.yw (.lss Z Z)<|.nt<|.sq<|.ce Z (λh17=>?_) (λh17=>?_)
  ·have hk:k<22:=by omega
   refine .sk<|.tN<|.sq<|.bk<|.sm Z<|.yw (.idxA HN aJ8 Z Z Z (by omega) (BQ (by show k<22;omega) []))<|.a Z Z<|.a Z Z<|.ns<|.mv Z<|.fA Z kF<|.lD Z cZ Hm Z<|.yw (.eqS Z Z)<|.mv Z<|.b2 (λh24=>?_) (λh24=>?_)
   ·have q24:lR.getD k []=(tkf l q.i).t:=aH h24;refine .gy (.move Z)<|.gy (.neq Z Z)<|.yw (.pickT Z Z)<|.nt<|.cd Z (λh27=>?_) (λh27=>?_)
    ·have hyk:IH (tkf l q.i).t k=true:=by unfold IH;rw [aS q24,aS (show ¬ k=0 by have:=aH h27;omega)];rfl
     have hsy:q.sym l=some k:=by unfold Rq.sym;rw [aL hk24];exact aB0 hk hyk hpk
     have hac:=(VS K.gd.last h0 hsy).1;refine .sm Z<|.mv Z<|.yw (.conv Z lH kS (c:=(((UInt8.ofNat k).toNat:Nat):Int)) (bR6 (by omega)))<|.cs (X:=Hp × Value × Value × List Value × List Value × List Res) aH0 Z (λW s=>aF6 K Wq S (UInt8.ofNat k) (dA K.gd.last hq hac) (St.mid (a:=[_,_,_]) (d:=[_]) (s.pickT (hd:=[_,_,_,_]) (tl:=(AR++bs)) (hd':=[_,_,_,_]) [1,2,3,0] Z Z))) Z λz9 hz9=>?_
     obtain ⟨H1,ro,rv,xo,xv,AR⟩:=z9;obtain ⟨u1,S⟩:=hz9;dsimp only at u1 S|-;refine Sx.reSt (λW s=>St.mid (a:=[_,_,_]) (d:=AR) (c:=[_]) s) ?_;refine .zR<|.tR<|.bR<|.tR<|?_
     refine y7 Z .nil rfl λW s=>?_;have e0:fG l (⟨q,op,x,true,dn⟩:Ps)=qZ l (UInt8.ofNat k) (⟨q,op,x,true,dn⟩:Ps):=by unfold fG;rw [hsy]
     rw [e0];exact ⟨(_,_,_,_,_,AR),⟨u1,⟨S.ops,S.vls⟩⟩,Z,s.pickT (hd:=[_,_,_,_]) (tl:=(AR++bs)) (hd':=[_,_,_]) [0,1,2] rfl rfl⟩
    have hnk:IH (tkf l q.i).t k=false:=by unfold IH;rw [aP (show ¬ ¬ k=0 by have:=aN h27;omega),Bool.and_false]
    exact .sk<|.bN<|.tN<|.rg<|.yw (.add Z Z w7)<|.mv Z<|.nt<|.ag (k+1) ⟨Z,Jt⟩ ⟨Z,Z,Z,Jt⟩ (λ_ s=>s) ⟨by omega,UP hpk hnk⟩ (by omega)
   have hnk:IH (tkf l q.i).t k=false:=by unfold IH;rw [aP (aN h24)];rfl
   exact .gG<|.gG<|.yw (.pickF Z Z)<|.nt<|.cF Z<|.sk<|.bN<|.tN<|.rg<|.yw (.add Z Z w7)<|.mv Z<|.nt<|.ag (k+1) ⟨Z,Jt⟩ ⟨Z,Z,Z,Jt⟩ (λ_ s=>s) ⟨by omega,UP hpk hnk⟩ (by omega)
  obtain rfl:k=22:=by omega
  have hsy:q.sym l=none:=by unfold Rq.sym;rw [aL hk24];exact aB1 hpk
  refine .ex<|.eb<|.bk<|.cu (X:=Bool) [(0,_),(2,_)] ⟨Z,Z,Jt⟩ (λz=>[(35,.bool z)]) (λz=>H) (λz=>(.box b2 (cTk .u8 (tkf l q.i)) 108::.box b [.slice tp l.length tc,iN q.i,ro,rv,.bool true,.bool dn,.bool x.2,iN q.off,iN q.er] 102::.row 97 11 (ro) (op.length) (xo)::.row 179 13 (rv) (x.1.length) (xv)::(AR++bs))) (λz=>z=q.wrd l) ?_ λz hC=>?_
  ·
   refine .sm Z<|.cs (X:=Unit) jN Z (λW s=>DI K hq [115,105,110,99,101] (s.pickT (hd:=[_,_,_,_]) (tl:=(AR++bs)) (hd':=[_,_,_,_]) [1,0,2,3] Z Z)) Z λ_ _=>.aq Z<|.cd Z (λh35=>?_) (λh35=>?_)
   ·have i1:=h35;exact .sk<|.tN<|.me _ ⟨Z,Jt⟩ ⟨Z,Z,Jt⟩ (λ_ s=>(s.pickT (hd:=[_,_,_,_]) (tl:=(AR++bs)) (hd':=[_,_,_,_]) [1,0,2,3] Z Z)) (by unfold Rq.wrd;first | simp only [i1,i2,i3,aK,Bool.true_or,Bool.or_true,Bool.or_false] | simp only [i1,i2,aK,Bool.true_or,Bool.or_true] | simp only [i1,aK,Bool.true_or,Bool.or_true])
   have i1:=h35;refine .sm Z<|.cs (X:=Unit) jN Z (λW s=>DI K hq [97,110,100] (s.pickT (hd:=[_,_,_,_]) (tl:=(AR++bs)) (hd':=[_,_,_,_]) [0,1,2,3] Z Z)) Z λ_ _=>.aq Z<|.cd Z (λh35=>?_) (λh35=>?_)
   ·have i2:=h35;exact .sk<|.tN<|.me _ ⟨Z,Jt⟩ ⟨Z,Z,Jt⟩ (λ_ s=>(s.pickT (hd:=[_,_,_,_]) (tl:=(AR++bs)) (hd':=[_,_,_,_]) [1,0,2,3] Z Z)) (by unfold Rq.wrd;first | simp only [i1,i2,i3,aK,Bool.true_or,Bool.or_true,Bool.or_false] | simp only [i1,i2,aK,Bool.true_or,Bool.or_true] | simp only [i1,aK,Bool.true_or,Bool.or_true])
   have i2:=h35;refine .sm Z<|.cs (X:=Unit) jN Z (λW s=>DI K hq [111,114] (s.pickT (hd:=[_,_,_,_]) (tl:=(AR++bs)) (hd':=[_,_,_,_]) [0,1,2,3] Z Z)) Z λ_ _=>.aq Z<|.cd Z (λh35=>?_) (λh35=>?_)
   ·have i3:=h35;exact .sk<|.tN<|.me _ ⟨Z,Jt⟩ ⟨Z,Z,Jt⟩ (λ_ s=>(s.pickT (hd:=[_,_,_,_]) (tl:=(AR++bs)) (hd':=[_,_,_,_]) [1,0,2,3] Z Z)) (by unfold Rq.wrd;first | simp only [i1,i2,i3,aK,Bool.true_or,Bool.or_true,Bool.or_false] | simp only [i1,i2,aK,Bool.true_or,Bool.or_true] | simp only [i1,aK,Bool.true_or,Bool.or_true])
   have i3:=h35;exact .rg<|.mv Z<|.cs (X:=Unit) jN Z (λW s=>DI K hq [105,109,112,108,105,101,115] (s.pickT (hd:=[_,_,_,_]) (tl:=(AR++bs)) (hd':=[_,_,_,_]) [0,1,2,3] Z Z)) Z λ_ _=>.aq Z<|.me _ ⟨Z,Jt⟩ ⟨Z,Z,Jt⟩ (λ_ s=>(s.pickT (hd:=[_,_,_,_]) (tl:=(AR++bs)) (hd':=[_,_,_,_]) [1,0,2,3] Z Z)) (by unfold Rq.wrd;first | simp only [i1,i2,i3,aK,Bool.true_or,Bool.or_true,Bool.or_false] | simp only [i1,i2,aK,Bool.true_or,Bool.or_true] | simp only [i1,aK,Bool.true_or,Bool.or_true])
  have ew:=hC;refine .cd Z (λh35=>?_) (λh35=>?_)
  ·have w35:=h35;refine .rg<|.mv Z<|.cs (X:=Hp × Value × Value × List Value × List Value × List Res) LO Z (λW s=>aR9 K Wq S G h0 (by rw [<-ew];exact w35) (St.mid (a:=[_,_,_]) (d:=[_]) (s.pickT (hd:=[_,_,_,_]) (tl:=(AR++bs)) (hd':=[_,_,_,_]) [1,2,3,0] Z Z))) Z λz9 hz9=>?_
   obtain ⟨H1,ro,rv,xo,xv,AR⟩:=z9;obtain ⟨u1,S⟩:=hz9;dsimp only at u1 S|-;refine Sx.reSt (λW s=>St.mid (a:=[_,_,_]) (d:=AR) (c:=[_]) s) ?_;refine .nl<|.bN<|?_
   refine jA (.inr Z) rfl .nil rfl λW s=>?_;have e0:fG l (⟨q,op,x,true,dn⟩:Ps)=pW l (⟨q,op,x,true,dn⟩:Ps):=by unfold fG;rw [show q.sym l=none from hsy]
   rw [e0];have e1:pW l (⟨q,op,x,true,dn⟩:Ps)=wL l (⟨q,op,x,true,dn⟩:Ps):=by unfold pW;exact aL (by rw [<-ew];exact w35)
   rw [e1];exact ⟨(_,_,_,_,_,AR),⟨u1,⟨S.ops,S.vls⟩⟩,Z,s.pickT (hd:=[_,_,_,_]) (tl:=(AR++bs)) (hd':=[_,_,_]) [0,1,2] rfl rfl⟩
  have w35:=h35;refine .cu (X:=Bool) [(0,_)] ⟨Z,Jt⟩ (λz=>[(46,.bool z)]) (λz=>H) (λz=>(.box b2 (cTk .u8 (tkf l q.i)) 108::.box b [.slice tp l.length tc,iN q.i,ro,rv,.bool true,.bool dn,.bool x.2,iN q.off,iN q.er] 102::.row 97 11 (ro) (op.length) (xo)::.row 179 13 (rv) (x.1.length) (xv)::(AR++bs))) (λz=>z=q.endB l) ?_ λz hC=>?_
  ·
   refine .sm Z<|.cs (X:=Unit) jN Z (λW s=>DI K hq [41] (s.pickT (hd:=[_,_,_,_]) (tl:=(AR++bs)) (hd':=[_,_,_,_]) [1,0,2,3] Z Z)) Z λ_ _=>.aq Z<|.cd Z (λh46=>?_) (λh46=>?_)
   ·have j1:=h46;exact .sk<|.tN<|.me _ ⟨Z,Jt⟩ ⟨Z,Jt⟩ (λ_ s=>(s.pickT (hd:=[_,_,_,_]) (tl:=(AR++bs)) (hd':=[_,_,_,_]) [1,0,2,3] Z Z)) (by unfold Rq.endB;rw [<-k80];first | simp only [j1,j2,j3,aK,Bool.true_or,Bool.or_true,Bool.or_false] | simp only [j1,j2,aK,Bool.true_or,Bool.or_true] | simp only [j1,aK,Bool.true_or,Bool.or_true])
   have j1:=h46;refine .sm Z<|.cs (X:=Unit) jN Z (λW s=>DI K hq [93] (s.pickT (hd:=[_,_,_,_]) (tl:=(AR++bs)) (hd':=[_,_,_,_]) [0,1,2,3] Z Z)) Z λ_ _=>.aq Z<|.cd Z (λh46=>?_) (λh46=>?_)
   ·have j2:=h46;exact .sk<|.tN<|.me _ ⟨Z,Jt⟩ ⟨Z,Jt⟩ (λ_ s=>(s.pickT (hd:=[_,_,_,_]) (tl:=(AR++bs)) (hd':=[_,_,_,_]) [1,0,2,3] Z Z)) (by unfold Rq.endB;rw [<-k80];first | simp only [j1,j2,j3,aK,Bool.true_or,Bool.or_true,Bool.or_false] | simp only [j1,j2,aK,Bool.true_or,Bool.or_true] | simp only [j1,aK,Bool.true_or,Bool.or_true])
   have j2:=h46;refine .sm Z<|.cs (X:=Unit) jN Z (λW s=>DI K hq [44] (s.pickT (hd:=[_,_,_,_]) (tl:=(AR++bs)) (hd':=[_,_,_,_]) [0,1,2,3] Z Z)) Z λ_ _=>.aq Z<|.cd Z (λh46=>?_) (λh46=>?_)
   ·have j3:=h46;exact .sk<|.tN<|.me _ ⟨Z,Jt⟩ ⟨Z,Jt⟩ (λ_ s=>(s.pickT (hd:=[_,_,_,_]) (tl:=(AR++bs)) (hd':=[_,_,_,_]) [1,0,2,3] Z Z)) (by unfold Rq.endB;rw [<-k80];first | simp only [j1,j2,j3,aK,Bool.true_or,Bool.or_true,Bool.or_false] | simp only [j1,j2,aK,Bool.true_or,Bool.or_true] | simp only [j1,aK,Bool.true_or,Bool.or_true])
   have j3:=h46;exact .rg<|.fA Z jF<|.lD Z nS cO Z<|.yw (.eql Z Z)<|.aq Z<|.me _ ⟨Z,Jt⟩ ⟨Z,Jt⟩ (λ_ s=>(s.pickT (hd:=[_,_,_,_]) (tl:=(AR++bs)) (hd':=[_,_,_,_]) [1,0,2,3] Z Z)) (by unfold Rq.endB;rw [<-k80];first | simp only [j1,j2,j3,aK,Bool.true_or,Bool.or_true,Bool.or_false] | simp only [j1,j2,aK,Bool.true_or,Bool.or_true] | simp only [j1,aK,Bool.true_or,Bool.or_true])
  have ee:=hC;refine .cd Z (λh46=>?_) (λh46=>?_)
  ·have w46:=h46;refine .sm Z<|.cs (X:=Hp × Value × Value × List Value × List Value × List Res) oM Z (λW s=>sY K Wq S 1 (by omega) (St.mid (a:=[_,_,_]) (d:=[_]) (s.pickT (hd:=[_,_,_,_]) (tl:=(AR++bs)) (hd':=[_,_,_,_]) [1,2,3,0] Z Z))) Z λz9 hz9=>?_
   obtain ⟨H1,ro,rv,xo,xv,AR⟩:=z9;obtain ⟨u1,S⟩:=hz9;dsimp only at u1 S|-;refine Sx.reSt (λW s=>St.mid (a:=[_,_,_]) (d:=AR) (c:=[_]) s) ?_;obtain ⟨op7,x7,e7⟩:∃ op7 x7,jP 1 ((⟨q,op,x,true,dn⟩:Ps):Ps)=⟨q,op7,x7,true,dn⟩:=⟨_,_,Z⟩;rw [e7] at S|-;dsimp only at S|-;have W7:Fwf l ⟨q,op7,x7,true,dn⟩:=by rw [<-e7];exact tL (by omega) Wq rfl
   obtain ⟨hm1,hm2⟩:=oH W7 K.few;dsimp only at hm1 hm2;have hne7:op7≠[]:=W7.ne;have FE1:Fex (⟨q,op7,x7,true,dn⟩:Ps):=by rw [<-e7];exact zI FE
   refine .nt<|.rg<|.mv Z<|.cs (X:=Hp × Value × Value × List Value × List Value × List Res) LN Z (λW s=>NN (K.up u1.up) W7 S (λz hz=>aZ (FE1 z hz) (aZ (oT hq) K.few)) (St.mid (a:=[_,_,_]) (d:=[_]) (s.pickT (hd:=[_,_,_,_]) (tl:=(AR++bs)) (hd':=[_,_,_,_]) [0,1,2,3] Z Z))) Z λz9 hz9=>?_
   obtain ⟨H2,ro,rv,xo,xv,AR⟩:=z9;obtain ⟨u2,S⟩:=hz9;dsimp only at u2 S|-;refine Sx.reSt (λW s=>St.mid (a:=[_,_,_]) (d:=AR) (c:=[_]) s) ?_;refine .nl<|.bN<|?_
   refine jA (.inr Z) rfl .nil rfl λW s=>?_;have e0:fG l (⟨q,op,x,true,dn⟩:Ps)=pW l (⟨q,op,x,true,dn⟩:Ps):=by unfold fG;rw [show q.sym l=none from hsy]
   rw [e0];have e1:pW l (⟨q,op,x,true,dn⟩:Ps)=lT l (⟨q,op7,x7,true,dn⟩:Ps):=by unfold pW;rw [aF (show ¬ q.wrd l=true by rw [<-ew,w35];decide),aL (show q.endB l=true by rw [<-ee];exact w46),e7]
   rw [e1];exact ⟨(_,_,_,_,_,AR),⟨(u1.trans u2),⟨S.ops,S.vls⟩⟩,Z,s.pickT (hd:=[_,_,_,_]) (tl:=(AR++bs)) (hd':=[_,_,_]) [0,1,2] rfl rfl⟩
  have w46:=h46;refine .rg<|.mv Z<|.cs (X:=Unit) iQ Z (λW s=>pY K hq 8 (s.pickT (hd:=[_,_,_,_]) (tl:=(AR++bs)) (hd':=[_,_,_,_]) [1,0,2,3] Z Z)) Z λ_ _=>.nl<|.bN<|?_
  refine jA (.inr Z) rfl .nil rfl λW s=>?_;have e0:fG l (⟨q,op,x,true,dn⟩:Ps)=pW l (⟨q,op,x,true,dn⟩:Ps):=by unfold fG;rw [show q.sym l=none from hsy]
  rw [e0];have e1:pW l (⟨q,op,x,true,dn⟩:Ps)=(⟨q,op,x,true,dn⟩:Ps).at (q.fail l 8):=by unfold pW;rw [aF (show ¬ q.wrd l=true by rw [<-ew,w35];decide),aF (show ¬ q.endB l=true by rw [<-ee,w46];decide)]
  rw [e1];exact ⟨(_,_,_,_,_,AR),⟨.refl,⟨S.ops,S.vls⟩⟩,Z,s.pickT (hd:=[_,_,_,_]) (tl:=(AR++bs)) (hd':=[_,_,_]) [0,2,3] rfl rfl⟩
 have hk24:¬ ((tkf l q.i).k=2\/(tkf l q.i).k=4):=λh=>by
  rw [h14] at e14;rcases h with h | h <;> rw [h] at e14 <;> simp at e14
 have hsy:q.sym l=none:=by unfold Rq.sym;rw [aF hk24]
 refine .sk<|.tN<|.bk<|.cu (X:=Bool) [(0,_),(2,_)] ⟨Z,Z,Jt⟩ (λz=>[(35,.bool z)]) (λz=>H) (λz=>(.box b2 (cTk .u8 (tkf l q.i)) 108::.box b [.slice tp l.length tc,iN q.i,ro,rv,.bool true,.bool dn,.bool x.2,iN q.off,iN q.er] 102::.row 97 11 (ro) (op.length) (xo)::.row 179 13 (rv) (x.1.length) (xv)::(AR++bs))) (λz=>z=q.wrd l) ?_ λz hC=>?_
 ·
  refine .sm Z<|.cs (X:=Unit) jN Z (λW s=>DI K hq [115,105,110,99,101] (s.pickT (hd:=[_,_,_,_]) (tl:=(AR++bs)) (hd':=[_,_,_,_]) [1,0,2,3] Z Z)) Z λ_ _=>.aq Z<|.cd Z (λh35=>?_) (λh35=>?_)
  ·have i1:=h35;exact .sk<|.tN<|.me _ ⟨Z,Jt⟩ ⟨Z,Z,Jt⟩ (λ_ s=>(s.pickT (hd:=[_,_,_,_]) (tl:=(AR++bs)) (hd':=[_,_,_,_]) [1,0,2,3] Z Z)) (by unfold Rq.wrd;first | simp only [i1,i2,i3,aK,Bool.true_or,Bool.or_true,Bool.or_false] | simp only [i1,i2,aK,Bool.true_or,Bool.or_true] | simp only [i1,aK,Bool.true_or,Bool.or_true])
  have i1:=h35;refine .sm Z<|.cs (X:=Unit) jN Z (λW s=>DI K hq [97,110,100] (s.pickT (hd:=[_,_,_,_]) (tl:=(AR++bs)) (hd':=[_,_,_,_]) [0,1,2,3] Z Z)) Z λ_ _=>.aq Z<|.cd Z (λh35=>?_) (λh35=>?_)
  ·have i2:=h35;exact .sk<|.tN<|.me _ ⟨Z,Jt⟩ ⟨Z,Z,Jt⟩ (λ_ s=>(s.pickT (hd:=[_,_,_,_]) (tl:=(AR++bs)) (hd':=[_,_,_,_]) [1,0,2,3] Z Z)) (by unfold Rq.wrd;first | simp only [i1,i2,i3,aK,Bool.true_or,Bool.or_true,Bool.or_false] | simp only [i1,i2,aK,Bool.true_or,Bool.or_true] | simp only [i1,aK,Bool.true_or,Bool.or_true])
  have i2:=h35;refine .sm Z<|.cs (X:=Unit) jN Z (λW s=>DI K hq [111,114] (s.pickT (hd:=[_,_,_,_]) (tl:=(AR++bs)) (hd':=[_,_,_,_]) [0,1,2,3] Z Z)) Z λ_ _=>.aq Z<|.cd Z (λh35=>?_) (λh35=>?_)
  ·have i3:=h35;exact .sk<|.tN<|.me _ ⟨Z,Jt⟩ ⟨Z,Z,Jt⟩ (λ_ s=>(s.pickT (hd:=[_,_,_,_]) (tl:=(AR++bs)) (hd':=[_,_,_,_]) [1,0,2,3] Z Z)) (by unfold Rq.wrd;first | simp only [i1,i2,i3,aK,Bool.true_or,Bool.or_true,Bool.or_false] | simp only [i1,i2,aK,Bool.true_or,Bool.or_true] | simp only [i1,aK,Bool.true_or,Bool.or_true])
  have i3:=h35;exact .rg<|.mv Z<|.cs (X:=Unit) jN Z (λW s=>DI K hq [105,109,112,108,105,101,115] (s.pickT (hd:=[_,_,_,_]) (tl:=(AR++bs)) (hd':=[_,_,_,_]) [0,1,2,3] Z Z)) Z λ_ _=>.aq Z<|.me _ ⟨Z,Jt⟩ ⟨Z,Z,Jt⟩ (λ_ s=>(s.pickT (hd:=[_,_,_,_]) (tl:=(AR++bs)) (hd':=[_,_,_,_]) [1,0,2,3] Z Z)) (by unfold Rq.wrd;first | simp only [i1,i2,i3,aK,Bool.true_or,Bool.or_true,Bool.or_false] | simp only [i1,i2,aK,Bool.true_or,Bool.or_true] | simp only [i1,aK,Bool.true_or,Bool.or_true])
 have ew:=hC;refine .cd Z (λh35=>?_) (λh35=>?_)
 ·have w35:=h35;refine .rg<|.mv Z<|.cs (X:=Hp × Value × Value × List Value × List Value × List Res) LO Z (λW s=>aR9 K Wq S G h0 (by rw [<-ew];exact w35) (St.mid (a:=[_,_,_]) (d:=[_]) (s.pickT (hd:=[_,_,_,_]) (tl:=(AR++bs)) (hd':=[_,_,_,_]) [1,2,3,0] Z Z))) Z λz9 hz9=>?_
  obtain ⟨H1,ro,rv,xo,xv,AR⟩:=z9;obtain ⟨u1,S⟩:=hz9;dsimp only at u1 S|-;refine Sx.reSt (λW s=>St.mid (a:=[_,_,_]) (d:=AR) (c:=[_]) s) ?_;refine .nl<|.bN<|?_
  refine jA (.inr Z) rfl .nil rfl λW s=>?_;have e0:fG l (⟨q,op,x,true,dn⟩:Ps)=pW l (⟨q,op,x,true,dn⟩:Ps):=by unfold fG;rw [show q.sym l=none from hsy]
  rw [e0];have e1:pW l (⟨q,op,x,true,dn⟩:Ps)=wL l (⟨q,op,x,true,dn⟩:Ps):=by unfold pW;exact aL (by rw [<-ew];exact w35)
  rw [e1];exact ⟨(_,_,_,_,_,AR),⟨u1,⟨S.ops,S.vls⟩⟩,Z,s.pickT (hd:=[_,_,_,_]) (tl:=(AR++bs)) (hd':=[_,_,_]) [0,1,2] rfl rfl⟩
 have w35:=h35;refine .cu (X:=Bool) [(0,_)] ⟨Z,Jt⟩ (λz=>[(46,.bool z)]) (λz=>H) (λz=>(.box b2 (cTk .u8 (tkf l q.i)) 108::.box b [.slice tp l.length tc,iN q.i,ro,rv,.bool true,.bool dn,.bool x.2,iN q.off,iN q.er] 102::.row 97 11 (ro) (op.length) (xo)::.row 179 13 (rv) (x.1.length) (xv)::(AR++bs))) (λz=>z=q.endB l) ?_ λz hC=>?_
 ·
  refine .sm Z<|.cs (X:=Unit) jN Z (λW s=>DI K hq [41] (s.pickT (hd:=[_,_,_,_]) (tl:=(AR++bs)) (hd':=[_,_,_,_]) [1,0,2,3] Z Z)) Z λ_ _=>.aq Z<|.cd Z (λh46=>?_) (λh46=>?_)
  ·have j1:=h46;exact .sk<|.tN<|.me _ ⟨Z,Jt⟩ ⟨Z,Jt⟩ (λ_ s=>(s.pickT (hd:=[_,_,_,_]) (tl:=(AR++bs)) (hd':=[_,_,_,_]) [1,0,2,3] Z Z)) (by unfold Rq.endB;rw [<-k80];first | simp only [j1,j2,j3,aK,Bool.true_or,Bool.or_true,Bool.or_false] | simp only [j1,j2,aK,Bool.true_or,Bool.or_true] | simp only [j1,aK,Bool.true_or,Bool.or_true])
  have j1:=h46;refine .sm Z<|.cs (X:=Unit) jN Z (λW s=>DI K hq [93] (s.pickT (hd:=[_,_,_,_]) (tl:=(AR++bs)) (hd':=[_,_,_,_]) [0,1,2,3] Z Z)) Z λ_ _=>.aq Z<|.cd Z (λh46=>?_) (λh46=>?_)
  ·have j2:=h46;exact .sk<|.tN<|.me _ ⟨Z,Jt⟩ ⟨Z,Jt⟩ (λ_ s=>(s.pickT (hd:=[_,_,_,_]) (tl:=(AR++bs)) (hd':=[_,_,_,_]) [1,0,2,3] Z Z)) (by unfold Rq.endB;rw [<-k80];first | simp only [j1,j2,j3,aK,Bool.true_or,Bool.or_true,Bool.or_false] | simp only [j1,j2,aK,Bool.true_or,Bool.or_true] | simp only [j1,aK,Bool.true_or,Bool.or_true])
  have j2:=h46;refine .sm Z<|.cs (X:=Unit) jN Z (λW s=>DI K hq [44] (s.pickT (hd:=[_,_,_,_]) (tl:=(AR++bs)) (hd':=[_,_,_,_]) [0,1,2,3] Z Z)) Z λ_ _=>.aq Z<|.cd Z (λh46=>?_) (λh46=>?_)
  ·have j3:=h46;exact .sk<|.tN<|.me _ ⟨Z,Jt⟩ ⟨Z,Jt⟩ (λ_ s=>(s.pickT (hd:=[_,_,_,_]) (tl:=(AR++bs)) (hd':=[_,_,_,_]) [1,0,2,3] Z Z)) (by unfold Rq.endB;rw [<-k80];first | simp only [j1,j2,j3,aK,Bool.true_or,Bool.or_true,Bool.or_false] | simp only [j1,j2,aK,Bool.true_or,Bool.or_true] | simp only [j1,aK,Bool.true_or,Bool.or_true])
  have j3:=h46;exact .rg<|.fA Z jF<|.lD Z nS cO Z<|.yw (.eql Z Z)<|.aq Z<|.me _ ⟨Z,Jt⟩ ⟨Z,Jt⟩ (λ_ s=>(s.pickT (hd:=[_,_,_,_]) (tl:=(AR++bs)) (hd':=[_,_,_,_]) [1,0,2,3] Z Z)) (by unfold Rq.endB;rw [<-k80];first | simp only [j1,j2,j3,aK,Bool.true_or,Bool.or_true,Bool.or_false] | simp only [j1,j2,aK,Bool.true_or,Bool.or_true] | simp only [j1,aK,Bool.true_or,Bool.or_true])
 have ee:=hC;refine .cd Z (λh46=>?_) (λh46=>?_)
 ·have w46:=h46;refine .sm Z<|.cs (X:=Hp × Value × Value × List Value × List Value × List Res) oM Z (λW s=>sY K Wq S 1 (by omega) (St.mid (a:=[_,_,_]) (d:=[_]) (s.pickT (hd:=[_,_,_,_]) (tl:=(AR++bs)) (hd':=[_,_,_,_]) [1,2,3,0] Z Z))) Z λz9 hz9=>?_
  obtain ⟨H1,ro,rv,xo,xv,AR⟩:=z9;obtain ⟨u1,S⟩:=hz9;dsimp only at u1 S|-;refine Sx.reSt (λW s=>St.mid (a:=[_,_,_]) (d:=AR) (c:=[_]) s) ?_;obtain ⟨op7,x7,e7⟩:∃ op7 x7,jP 1 ((⟨q,op,x,true,dn⟩:Ps):Ps)=⟨q,op7,x7,true,dn⟩:=⟨_,_,Z⟩;rw [e7] at S|-;dsimp only at S|-;have W7:Fwf l ⟨q,op7,x7,true,dn⟩:=by rw [<-e7];exact tL (by omega) Wq rfl
  obtain ⟨hm1,hm2⟩:=oH W7 K.few;dsimp only at hm1 hm2;have hne7:op7≠[]:=W7.ne;have FE1:Fex (⟨q,op7,x7,true,dn⟩:Ps):=by rw [<-e7];exact zI FE
  refine .nt<|.rg<|.mv Z<|.cs (X:=Hp × Value × Value × List Value × List Value × List Res) LN Z (λW s=>NN (K.up u1.up) W7 S (λz hz=>aZ (FE1 z hz) (aZ (oT hq) K.few)) (St.mid (a:=[_,_,_]) (d:=[_]) (s.pickT (hd:=[_,_,_,_]) (tl:=(AR++bs)) (hd':=[_,_,_,_]) [0,1,2,3] Z Z))) Z λz9 hz9=>?_
  obtain ⟨H2,ro,rv,xo,xv,AR⟩:=z9;obtain ⟨u2,S⟩:=hz9;dsimp only at u2 S|-;refine Sx.reSt (λW s=>St.mid (a:=[_,_,_]) (d:=AR) (c:=[_]) s) ?_;refine .nl<|.bN<|?_
  refine jA (.inr Z) rfl .nil rfl λW s=>?_;have e0:fG l (⟨q,op,x,true,dn⟩:Ps)=pW l (⟨q,op,x,true,dn⟩:Ps):=by unfold fG;rw [show q.sym l=none from hsy]
  rw [e0];have e1:pW l (⟨q,op,x,true,dn⟩:Ps)=lT l (⟨q,op7,x7,true,dn⟩:Ps):=by unfold pW;rw [aF (show ¬ q.wrd l=true by rw [<-ew,w35];decide),aL (show q.endB l=true by rw [<-ee];exact w46),e7]
  rw [e1];exact ⟨(_,_,_,_,_,AR),⟨(u1.trans u2),⟨S.ops,S.vls⟩⟩,Z,s.pickT (hd:=[_,_,_,_]) (tl:=(AR++bs)) (hd':=[_,_,_]) [0,1,2] rfl rfl⟩
 have w46:=h46;refine .rg<|.mv Z<|.cs (X:=Unit) iQ Z (λW s=>pY K hq 8 (s.pickT (hd:=[_,_,_,_]) (tl:=(AR++bs)) (hd':=[_,_,_,_]) [1,0,2,3] Z Z)) Z λ_ _=>.nl<|.bN<|?_
 refine jA (.inr Z) rfl .nil rfl λW s=>?_;have e0:fG l (⟨q,op,x,true,dn⟩:Ps)=pW l (⟨q,op,x,true,dn⟩:Ps):=by unfold fG;rw [show q.sym l=none from hsy]
 rw [e0];have e1:pW l (⟨q,op,x,true,dn⟩:Ps)=(⟨q,op,x,true,dn⟩:Ps).at (q.fail l 8):=by unfold pW;rw [aF (show ¬ q.wrd l=true by rw [<-ew,w35];decide),aF (show ¬ q.endB l=true by rw [<-ee,w46];decide)]
 rw [e1];exact ⟨(_,_,_,_,_,AR),⟨.refl,⟨S.ops,S.vls⟩⟩,Z,s.pickT (hd:=[_,_,_,_]) (tl:=(AR++bs)) (hd':=[_,_,_]) [0,2,3] rfl rfl⟩
theorem NA (q:UInt8->Bool) (c:UInt8) (r:Str):pre q (c::r)=if q c then pre q r+1 else 0:=by
 unfold pre;rw [dU]
 split <;> simp
theorem MZ (q:UInt8->Bool):∀ (m:Str),pre q (m.take (pre q m))=pre q m
 | []=>rfl
 | c::r=>by
  rw [NA];cases h:q c with
  | false=>rw [aF (by decide)];rfl
  | true=>rw [aL rfl,List.take_succ_cons,NA,h,aL rfl,MZ q r]
variable {m:Str}
theorem VY (h:m≠[]) (hk:(cI m).1=3):pre iW (m.take (cI m).2)=(m.take (cI m).2).length:=by
 have key:(cI m).2=pre iW m:=by
  match m,h with
  | c::r,_ =>
   cases h1:pG c with
   | true =>
    exfalso
    revert hk
    cases h4:words.contains ((c::r).take (pre jC (c::r))) with
    | true=>simp only [cI,aU,h1,h4,bP];decide
    | false =>
     by_cases h5:pre jC (c::r)<=12
     ·simp only [cI,aU,h1,h4,h5,bP,aI,bL];decide
     ·simp only [cI,aU,h1,h4,h5,bP,aI,bL];decide
   | false =>
    cases h4:iW c with
    | true =>
     by_cases h5:pre iW (c::r)=1\/c≠48
     ·simp only [cI,aU,h1,h4,h5,bP,aI,bL]
     ·exfalso;revert hk;simp only [cI,aU,h1,h4,h5,bP,aI,bL];decide
    | false =>
     exfalso
     revert hk
     cases hx:symbols.find? (λx=>x.isPrefixOf (c::r)) <;> simp only [cI,aU,h1,h4,hx,aI,bL] <;> decide
 rw [key,MZ,fE,wY (AP iW m)]
theorem MQ:∀ (f o:Nat) (m:Str),∀ t∈AM f o m,t.k=3->pre iW t.t=t.t.length
 | 0,_,_,t,h=>by cases h
 | f+1,o,m,t,h=>by
  by_cases h0:m=[]
  ·rw [h0,sO] at h;cases h
  ·rw [qJ h0] at h;rcases bQ.1 h with rfl | h
   ·exact λhk=>VY h0 hk
   ·exact MQ f _ _ t h
theorem aD8 (s:Str):∀ t∈wH s,t.k=3->pre iW t.t=t.t.length:=MQ _ _ _
theorem HQ:∀ (f o:Nat) (m:Str),∀ t∈AM f o m,t.t.length<=m.length
 | 0,_,_,t,h=>by cases h
 | f+1,o,m,t,h=>by
  by_cases h0:m=[]
  ·rw [h0,sO] at h;cases h
  ·rw [qJ h0] at h;rcases bQ.1 h with rfl | h
   ·show (m.take _).length<=_;rw [fE];omega
   ·have h1:=HQ f _ _ t h;have h2:=nN false (m.drop (cI m).2);rw [cU] at h2;omega
theorem HZ (s:Str):∀ t∈wH s,t.t.length<=s.length:=λt h=>aZ (HQ _ _ _ t h) (nN false s)

theorem aC2 (h:m≠[]) (hk:(cI m).1=1):(m.take (cI m).2).all jC=true:=by
 have key:(cI m).2=pre jC m:=by
  match m,h with
  | c::r,_ =>
   cases h1:pG c with
   | true =>
    revert hk
    cases h4:words.contains ((c::r).take (pre jC (c::r))) with
    | true=>simp only [cI,aU,h1,h4,bP];decide
    | false =>
     by_cases h5:pre jC (c::r)<=12
     ·simp only [cI,aU,h1,h4,h5,bP,aI,bL];exact λ_=>trivial
     ·simp only [cI,aU,h1,h4,h5,bP,aI,bL];intro h;exact absurd h (by decide)
   | false =>
    exfalso
    revert hk
    cases h4:iW c with
    | true =>
     by_cases h5:pre iW (c::r)=1\/c≠48
     ·simp only [cI,aU,h1,h4,h5,bP,aI,bL];decide
     ·simp only [cI,aU,h1,h4,h5,bP,aI,bL];decide
    | false =>
     cases hx:symbols.find? (λx=>x.isPrefixOf (c::r)) <;> simp only [cI,aU,h1,h4,hx,aI,bL] <;> decide
 rw [key];unfold pre
 have:m.take (m.takeWhile jC).length=m.takeWhile jC:=by
  have:=List.takeWhile_append_dropWhile (p:=jC) (l:=m)
  conv=>lhs;rw [<-this]
  rw [List.take_left' (by rw [this])]
 rw [this];exact List.all_takeWhile
theorem RT:∀ (f o:Nat) (m:Str),∀ t∈AM f o m,t.k=1->t.t.all jC=true
 | 0,_,_,t,h=>by cases h
 | f+1,o,m,t,h=>by
  by_cases h0:m=[]
  ·rw [h0,sO] at h;cases h
  ·rw [qJ h0] at h;rcases bQ.1 h with rfl | h
   ·exact λhk=>aC2 h0 hk
   ·exact RT f _ _ t h
theorem aR2 (s:Str):∀ t∈wH s,t.k=1->t.t.all jC=true:=RT _ _ _
def bP7 (s:Str):Tk:=⟨0,[],s.length⟩
def oI (s:Str):Tks:=wH s++[bP7 s]
theorem vY (s:Str):(oI s).length=(wH s).length+1:=by unfold oI;rw [aG];rfl
theorem MR (s:Str) (i:Nat):tkf (oI s) i∈wH s\/(tkf (oI s) i).k=0:=by
 unfold tkf oI;rw [List.getD_eq_getElem?_getD]
 by_cases h:i<(wH s).length
 ·rw [List.getElem?_append_left h,List.getElem?_eq_getElem h];exact .inl (bT h)
 ·rw [List.getElem?_append_right (by omega)];cases e:i - (wH s).length with
  | zero=>exact .inr rfl
  | succ n=>exact .inr rfl
theorem aL7 (s:Str):Tgd (oI s):=by
 refine ⟨λi hi hk=>?_,λi hk=>?_,λi hk=>?_⟩
 ·rw [vY] at hi|-;refine Classical.byContradiction λhn=>hk ?_;have e:i=(wH s).length:=by omega
  unfold tkf oI;rw [List.getD_eq_getElem?_getD,List.getElem?_append_right (by omega),e,iV];rfl
 ·rcases MR s i with h | h
  ·exact (ND s _ h).2.2
  ·rw [h] at hk;exact absurd hk (by decide)
 ·rcases MR s i with h | h
  ·exact WH (aR2 s _ h hk)
  ·rw [h] at hk;exact absurd hk (by decide)
/-! ### Lists that are not long -/
section
variable {N:Nat} {l:Tks} {q:Ps} {c:Rq} {o:Ov} {v:Vl} {x:Vb} {f:Fm}
def VbN (N:Nat) (x:Vb):Prop:=∀ v∈x.1,blE N v.e=true/\blF N v.f=true
structure Fbd (N:Nat) (q:Ps):Prop where
 x:VbN N q.x
 op:∀ o∈q.op,blF N o.f=true
theorem AG:blE N zE=true:=QX.2 ⟨aO _,λa h=>(by cases h)⟩
theorem jX {op:UInt8} {nm fd:Str} {a b:Int64}:blF N (.mk op nm fd a b [] [])=true:=wO.2 ⟨⟨aO _,aO _,λa h=>(by cases h)⟩,λa h=>(by cases h)⟩
theorem BG {op:UInt8} {nm:Str} {z:Int64} {es:List Ex} (h:es.length<=N) (k:∀ e∈es,blE N e=true):blE N (.mk op nm z es)=true:=QX.2 ⟨h,k⟩
theorem QW {gs:List Fm} (h:blF N f=true) (hl:gs.length<=N) (hg:∀ g∈gs,blF N g=true):blF N (f.wAr gs)=true:=by
 obtain ⟨op,nm,fd,a,b,ex,args⟩:=f;have:=wO.1 h;exact wO.2 ⟨⟨this.1.1,hl,this.1.2.2⟩,hg⟩
theorem JG {es:List Ex} (h:blF N f=true) (hl:es.length<=N) (hg:∀ g∈es,blE N g=true):blF N (f.wEx es)=true:=by
 obtain ⟨op,nm,fd,a,b,ex,args⟩:=f;have:=wO.1 h;exact wO.2 ⟨⟨hl,this.1.2.1,hg⟩,this.2⟩
theorem bQ2 (h:blF N f=true):∀ e∈f.ex,blE N e=true:=by
 obtain ⟨op,nm,fd,a,b,ex,args⟩:=f;exact (wO.1 h).1.2.2
theorem IS (h:VbN N x):blE N (qV x).e=true/\blF N (qV x).f=true:=by
 unfold qV;cases e:x.1 with
 | nil=>exact ⟨AG,jX⟩
 | cons v r=>exact h v (by rw [e];exact aX ..)
theorem VE {b:Bool} (h:VbN N x):VbN N (x.1.tail,b):=λv hv=>h v (List.mem_of_mem_tail hv)
theorem vW (h:VbN N x):VbN N (tS x):=VE h
theorem JN (h:VbN N x):VbN N (fS x):=VE h
theorem DB (h:VbN N x):blE N (tE x)=true:=(IS h).1
theorem GC (h:VbN N x):blF N (fF x)=true:=by
 unfold fF Vl.fm
 split
 ·exact jX
 ·exact (IS h).2
theorem yV (h:VbN N x) (he:blE N v.e=true) (hf:blF N v.f=true):VbN N (x.put v):=λu hu=>by
 rcases bQ.1 hu with rfl | hu
 ·exact ⟨he,hf⟩
 ·exact h u hu
theorem bl1 {e:Ex} (hN:2<=N) (h:blE N e=true):([e]:List Ex).length<=N/\∀ x∈[e],blE N x=true:=⟨by show 1<=N;omega,λx hx=>by rw [bV.1 hx];exact h⟩
theorem bl2 {e g:Ex} (hN:2<=N) (h:blE N e=true) (k:blE N g=true):([e,g]:List Ex).length<=N/\∀ x∈[e,g],blE N x=true:=⟨hN,λx hx=>by
 rcases bQ.1 hx with rfl | hx
 ·exact h
 ·rw [bV.1 hx];exact k⟩
theorem bf1 {e:Fm} (hN:2<=N) (h:blF N e=true):([e]:List Fm).length<=N/\∀ x∈[e],blF N x=true:=⟨by show 1<=N;omega,λx hx=>by rw [bV.1 hx];exact h⟩
theorem bf2 {e g:Fm} (hN:2<=N) (h:blF N e=true) (k:blF N g=true):([e,g]:List Fm).length<=N/\∀ x∈[e,g],blF N x=true:=⟨hN,λx hx=>by
 rcases bQ.1 hx with rfl | hx
 ·exact h
 ·rw [bV.1 hx];exact k⟩
theorem aK7 (hN:2<=N) (h:VbN N x) (ho:blF N o.f=true):VbN N (uS o x):=by
 unfold uS
 split
 ·have:=bl1 hN (DB h);exact yV (vW h) (BG this.1 this.2) jX
 split
 ·have:=bl2 hN (DB (vW h)) (DB h);exact yV (vW (vW h)) (BG this.1 this.2) jX
 split
 ·have:=bl2 hN (DB (vW h)) (DB h);have k:=bl1 hN (BG (op:=o.op) (nm:=[]) (z:=0) this.1 this.2);exact yV (vW (vW h)) AG (wO.2 ⟨⟨k.1,aO _,k.2⟩,λa h=>(by cases h)⟩)
 split
 ·have:=bf1 hN (GC h);exact yV (JN h) AG (QW ho this.1 this.2)
 split
 ·have:=bf2 hN (GC (JN h)) (GC h);exact yV (JN (JN h)) AG (QW ho this.1 this.2)
 ·exact h
theorem YM (hN:2<=N) {lv:Nat}:∀ (r:List Ov) (x:Vb),(∀ o∈r,blF N o.f=true)->VbN N x->VbN N (wC lv r x).2
 | [],x,_,h=>h
 | o::r,x,ho,h=>by
  rw [wC]
  split
  ·exact YM hN r _ (λz hz=>ho z (bS _ hz)) (aK7 hN h (ho o (aX ..)))
  ·exact h
theorem JE (hN:2<=N) {lv:Nat} (h:Fbd N q):Fbd N (jP lv q):=⟨YM hN q.op q.x h.op h.x,λo ho=>h.op o (JY q.op q.x o ho)⟩
theorem mR (h:Fbd N q) (ho:blF N o.f=true):Fbd N (fH o (q.at c)):=⟨h.x,λz hz=>by
 rcases bQ.1 hz with rfl | hz
 ·rw [bJ7];exact ho
 ·exact h.op z hz⟩
theorem rN (h:Fbd N q) (he:blE N v.e=true) (hf:blF N v.f=true):Fbd N (iD v (q.at c)):=⟨yV h.x he hf,h.op⟩
theorem GU (h:Fbd N q):Fbd N (q.at c):=⟨h.x,h.op⟩
theorem FH (h:Fbd N q) (hx:VbN N x) (he:blE N v.e=true) (hf:blF N v.f=true):Fbd N (FK c v x q):=⟨yV hx he hf,λo ho=>h.op o (List.mem_of_mem_tail ho)⟩
theorem jK {c:Prop} [Decidable c] {a b:Ps} (h1:c->Fbd N a) (h2:¬ c->Fbd N b):Fbd N (if c then a else b):=by
 by_cases hc:c
 ·rw [aL hc];exact h1 hc
 ·rw [aF hc];exact h2 hc
theorem aU7 {q':Ps} (h:Fbd N q) (e:mD l q=some q'):Fbd N q':=by
 unfold mD at e
 split at e
 ·injection e with e;subst e;exact mR h jX
 split at e
 ·injection e with e;subst e;exact mR h jX
 split at e
 ·injection e with e;subst e;exact mR h jX
 split at e
 ·injection e with e;subst e;exact mR h jX
 split at e
 ·injection e with e;subst e;exact mR h jX
 split at e
 ·injection e with e;subst e;exact mR h jX
 split at e
 ·injection e with e;subst e;exact mR h jX
 ·cases e
theorem aF5 {op:UInt8} {nm:Str} {z:Int64}:blE N (.mk op nm z [])=true:=BG (aO _) λa h=>(by cases h)
theorem bG3 (h:Fbd N q):Fbd N (vK l q):=by
 unfold vK;exact jK (λ_=>jK (λ_=>mR h jX) λ_=>rN h aF5 jX) λ_=>rN h aF5 jX
theorem bG9 (h:Fbd N q):Fbd N (yL l q):=by
 unfold yL;exact jK (λ_=>rN h AG jX) λ_=>mR h jX
theorem bG4 (h:Fbd N q):Fbd N (pR l q):=by
 unfold pR
 exact jK (λ_=>mR h jX) λ_=>jK (λ_=>mR h jX) λ_=>jK (λ_=>rN h aF5 jX) λ_=>jK (λ_=>bG3 h) λ_ =>
  jK (λ_=>rN h aF5 jX) λ_=>jK (λ_=>rN h aF5 jX) λ_=>jK (λ_=>rN h AG jX) λ_=>jK (λ_=>rN h AG jX) λ_ =>
  jK (λ_=>rN h AG jX) λ_=>jK (λ_=>mR h jX) λ_=>jK (λ_=>bG9 (GU h)) λ_=>GU h
theorem UH (h:Fbd N q):Fbd N (dV l q):=by
 unfold dV;cases e:(if xS q then mD l q else none) with
 | some q' =>
  split at e
  ·exact aU7 h e
  ·cases e
 | none =>
  show Fbd N (wB l q);unfold wB;exact jK (λ_=>rN h AG jX) λ_=>bG4 h
theorem bG8 (hN:2<=N) {op:UInt8} (h:Fbd N q):Fbd N (qZ l op q):=by
 have f {lv:Nat} {c:Rq}:Fbd N ((jP lv q).at c):=GU (JE hN h);have p {lv:Nat} {c:Rq} {o:Ov} (ho:blF N o.f=true):Fbd N (fH o ((jP lv q).at c)):=mR (JE hN h) ho;unfold qZ;exact jK (λ_=>jK (λ_=>f) λ_=>p jX) λ_=>jK (λ_=>jK (λ_=>f) λ_=>p jX) λ_=>jK (λ_=>f) λ_=>p jX
theorem bN4 (c:Rq):blF N (c.joV l)=true:=by
 unfold Rq.joV
 split
 ·exact jX
 split
 ·exact jX
 split
 ·exact jX
 split
 ·exact jX
 ·exact jX
theorem bG5 (hN:2<=N) (h:Fbd N q):Fbd N (wL l q):=by
 unfold wL;exact jK (λ_=>GU h) λ_=>mR (q:=jP _ q) (c:=q.c.joS l) (JE hN h) (bN4 _)
theorem ZM (h:Fbd N q):blF N (dM q).f=true:=by
 unfold dM;cases e:q.op with
 | nil=>exact jX
 | cons o r=>exact h.op o (by rw [e];exact aX ..)
theorem bF7 (h:Fex q):(dM q).f.ex.length<=q.c.i:=by
 unfold dM;cases e:q.op with
 | nil=>exact aO _
 | cons o r=>exact h o (by rw [e];exact aX ..)
theorem bH6 (h:Fbd N q) (k:Fex q) (hi:q.c.i<N):((dM q).f.ex++[tE q.x]).length<=N/\∀ e∈(dM q).f.ex++[tE q.x],blE N e=true:=by
 refine ⟨?_,λe he=>?_⟩
 ·rw [aG];have:=bF7 k;simp only [aJ,aM];omega
 ·rcases bZ.1 he with he | he
  ·exact bQ2 (ZM h) e he
  ·rw [bV.1 he];exact DB h.x
theorem bG7 (hN:2<=N) (h:Fbd N q) (k:Fex q) (hi:q.c.i<N):Fbd N (lT l q):=by
 have s:=bH6 h k hi;have t:=ZM h;have e1:=bl1 hN (DB h.x);unfold lT
 refine jK (λ_=>⟨h.x,h.op⟩) λ_=>jK (λ_=>FH h (VE h.x) (IS h.x).1 (IS h.x).2) λ_=>jK (λ_=>?_) λ_ =>
  jK (λ_=>jK (λ_=>FH h (vW h.x) (BG e1.1 e1.2) jX) λ_=>FH h (vW h.x) AG (JG t e1.1 e1.2)) λ_ =>
  jK (λ_=>⟨vW h.x,λz hz=>?_⟩) λ_=>jK (λ_=>FH h (vW h.x) AG (JG t s.1 s.2)) λ_=>GU h
 ·have n1:=bl1 (e:=.mk 1 [] ((q.c.nx.exS l [62,61]).nbV l) []) hN aF5;have f1:=bf1 hN (GC h.x);exact FH h (JN h.x) AG (QW (JG t n1.1 n1.2) f1.1 f1.2)
 ·have hz':z∈(⟨(dM q).kd,(dM q).lv,(dM q).tm,(dM q).op,(dM q).f.wEx ((dM q).f.ex++[tE q.x])⟩:Ov)::q.op.tail:=hz;rcases bQ.1 hz' with e | hz
  ·subst e;exact JG t s.1 s.2
  ·exact h.op z (List.mem_of_mem_tail hz)
theorem aU6 (hN:2<=N) (h:Fbd N q) (k:Fex q) (hi:q.c.i<N):Fbd N (kL l q):=by
 unfold kL;refine jK (λ_=>?_) λ_=>UH h;unfold fG;cases q.c.sym l with
 | some i=>exact bG8 hN h
 | none =>
  show Fbd N (pW l q);unfold pW;exact jK (λ_=>bG5 hN h) λ_=>jK (λ_=>bG7 hN (JE hN h) (zI k) hi) λ_=>GU h
theorem bG6:Fbd N KP:=⟨λv h=>(by cases h),λo ho=>by rw [bV.1 ho];exact jX⟩
/-! ### Where it ends, an operand stands ready -/
def Dnr (q:Ps):Prop:=q.dn=false\/q.rd=true
theorem jL {c:Prop} [Decidable c] {a b:Ps} (h1:c->Dnr a) (h2:¬ c->Dnr b):Dnr (if c then a else b):=by
 by_cases hc:c
 ·rw [aL hc];exact h1 hc
 ·rw [aF hc];exact h2 hc
theorem aV6 (hd:q.dn=false):Dnr (kL l q):=by
 have pu {o:Ov} {c:Rq}:Dnr (fH o (q.at c)):=.inl hd;have gi {v:Vl} {c:Rq}:Dnr (iD v (q.at c)):=.inl hd;have at_ {c:Rq}:Dnr (q.at c):=.inl hd
 have opd:Dnr (dV l q):=by
  unfold dV;cases e:(if xS q then mD l q else none) with
  | some q' =>
   split at e
   ·unfold mD at e
    split at e
    ·injection e with e;subst e;exact pu
    split at e
    ·injection e with e;subst e;exact pu
    split at e
    ·injection e with e;subst e;exact pu
    split at e
    ·injection e with e;subst e;exact pu
    split at e
    ·injection e with e;subst e;exact pu
    split at e
    ·injection e with e;subst e;exact pu
    split at e
    ·injection e with e;subst e;exact pu
    ·cases e
   ·cases e
  | none =>
   show Dnr (wB l q);unfold wB pR vK yL
   refine jL (λ_=>gi) λ_=>jL (λ_=>pu) λ_=>jL (λ_=>pu) λ_=>jL (λ_=>gi) λ_=>jL (λ_=>jL (λ_=>jL (λ_=>pu) λ_=>gi) λ_=>gi) λ_ =>
    jL (λ_=>gi) λ_=>jL (λ_=>gi) λ_=>jL (λ_=>gi) λ_=>jL (λ_=>gi) λ_=>jL (λ_=>gi) λ_=>jL (λ_=>pu) λ_=>jL (λ_=>jL (λ_=>.inl hd) λ_=>.inl hd) λ_=>at_
 unfold kL;refine jL (λhr=>?_) λ_=>opd;unfold fG;cases q.c.sym l with
 | some i =>
  show Dnr (qZ l _ q);unfold qZ;exact jL (λ_=>jL (λ_=>.inl hd) λ_=>.inl hd) λ_=>jL (λ_=>jL (λ_=>.inl hd) λ_=>.inl hd) λ_=>jL (λ_=>.inl hd) λ_=>.inl hd
 | none =>
  show Dnr (pW l q);unfold pW wL lT;exact jL (λ_=>jL (λ_=>.inl hd) λ_=>.inl hd) λ_=>jL (λ_=>jL (λ_=>.inr hr) λ_=>jL (λ_=>.inl hd) λ_=>jL (λ_=>.inl hd) λ_=>jL (λ_=>jL (λ_=>.inl hd) λ_=>.inl hd) λ_=>jL (λ_=>.inl hd) λ_=>jL (λ_=>.inl hd) λ_=>.inl hd) λ_=>.inl hd
end
variable {H':Hp}
theorem aL0 {x:TkS} {l:List Value} (h:eD H 3 [dTk .u8 x.1] l):eD H' 3 (List.map (dTk .u8) (List.map (·.1) [x])) l:=by
 unfold eD at h;obtain ⟨a,y,rfl,_,h1,h2⟩:=h;unfold eD at h2;subst h2;rw [dQ];obtain ⟨rfl,_⟩:=OT h1;exact .single (OS x.2) Z
theorem GA (H:Hp):Rep H (dFm .u8 zF) [.int .u8 0,.string ⟨#[]⟩,.string ⟨#[]⟩,.int .i64 0,.int .i64 0,.slice none 0 0,.slice none 0 0]:=BR (op:=0) (nm:=[]) (fd:=[]) (a:=0) (b:=0) (ex:=[]) (args:=[]) (by decide) (by decide) Rep.nil4 Rep.nil4
def muF (l:Tks) (q:Ps):Nat:=if q.fin then 0 else l.length - q.c.i
theorem YV {l:Tks} {q q':Ps} (h:¬ q.fin) (g:q'.fin\/q.c.i<q'.c.i) (hi:q.c.i<l.length):muF l q'<muF l q:=by
 unfold muF;rw [aF h]
 split
 ·omega
 ·rename_i h2;rcases g with g | g
  ·exact absurd g h2
  ·omega
section
variable {c:Rq} {op:List Ov} {v:Vl} {V:List Vl} {bd rd dn:Bool} {x:Vb}
theorem aV5 (h:¬ c.er=0):HC ⟨c,op,x,rd,dn⟩=(zF,c.off,c.er):=by unfold HC;exact aL h
theorem ZO (h:c.er=0) (hb:(bd || v.noF)=true):HC ⟨c,op,(v::V,bd),rd,dn⟩=(zF,0,6):=by
 unfold HC;rw [aF (show ¬ ¬ c.er=0 by rw [h];decide),aL (show (fS (v::V,bd)).2=true from hb)]
theorem ZN (h:c.er=0) (hb:(bd || v.noF)=false) (hc:¬ gT v.fm=0):HC ⟨c,op,(v::V,bd),rd,dn⟩=(zF,0,gT v.fm):=by
 unfold HC;rw [aF (show ¬ ¬ c.er=0 by rw [h];decide),aF (show ¬ (fS (v::V,bd)).2=true by rw [show (fS (v::V,bd)).2=false from hb];decide)];exact aL hc
theorem aV3 (h:c.er=0) (hb:(bd || v.noF)=false) (hc:gT v.fm=0):HC ⟨c,op,(v::V,bd),rd,dn⟩=(v.fm,0,0):=by
 unfold HC;rw [aF (show ¬ ¬ c.er=0 by rw [h];decide),aF (show ¬ (fS (v::V,bd)).2=true by rw [show (fS (v::V,bd)).2=false from hb];decide)];exact aF (show ¬ ¬ gT v.fm=0 by rw [hc];decide)
end
set_option maxHeartbeats 4000000 in
theorem WR (H:Hp) (G:Gl H) (Gt:Gf H) (t:Str) (hl:t.length<=400000) (w:World) (hA:Agr H w) :
 Calls prg 26 #[cH t] w λe W'=>∃ (cs:List Value) (H':Hp),Rep H' (dFm .u8 (CH (oI t)).1) cs/\e=.returned (.tuple #[.agg cs.toArray,iN ((CH (oI t)).2.1),iN ((CH (oI t)).2.2)])/\yM H w H' W':=by
 refine Sx.enterM (H:=H) func26 rfl ntmps26 rfl hA ?_;refine .sr<|.al eG Z λb2=>.a Z Z<|.a Z Z<|.ns<|.yw (.build Z (DY _))<|.blR (z:=11) Z (DX _ _ _ _ _ _ _ _ _ _ _) Z Z (by simp [maxLen]) λb10=>.yw (.build Z (UY _ _ _))<|.bx Z Z Z λb12=>.al aG4 Z λb5=>.st .head Z Z aG6 Z (nb Z) Z<|.nt<|.sq<|.sm Z<|.ct (X:=Nat) aI2 Z (λW s=>bE7 H t W s.agr) Z λb1 H1 m1 u1=>.nt<|.bk<|?_
 refine Sx.row0 108 3 ?_;refine At.pm [0,2,1,3,4] [_,_,_,_,_] rfl rfl ?_
 refine At.rfB (α:=TkS) (Z:=Value × Nat × List Value) (N:=t.length+1) (e:=108) (T:=102) (TX:=108) (size:=3) (p:=b12) (fx:=[.box b5 [.pointer (some ⟨b12,0,none⟩)] 94,.row 97 11 (.slice (some ⟨b10,0,none⟩) 1 1) 1 [.int .u8 1,.int .i64 0,.bool false,.int .u8 0,.int .u8 0,.string ⟨#[]⟩,.string ⟨#[]⟩,.int .i64 0,.int .i64 0,.slice none 0 0,.slice none 0 0],.box b2 [.int .u8 0,.string ⟨#[]⟩,.string ⟨#[]⟩,.int .i64 0,.int .i64 0,.slice none 0 0,.slice none 0 0] 35]) (enc:=λx:TkS=>.agg (cTk .u8 x.1).toArray) (S:=λxs=>xs.map (·.1)=wH t)
  (λpre z=>z.2.1=pre.length/\eD H1 3 ((pre.map (·.1)).map (dTk .u8)) z.2.2) (λz=>z.1) (λz=>z.2.1) (λz=>z.2.2) (λ_=>[.int .i64 0,.slice (some ⟨b10,0,none⟩) 1 1,.slice none 0 0,.bool false,.bool false,.bool false,.int .i64 0,.int .i64 0]) (.slice none 0 0,0,[])
  (λ_ b=>[(0,cH t),(5,.pointer (some ⟨b5,0,none⟩)),(6,.pointer (some ⟨b,0,none⟩))]) (λx=>cTk .u8 x.1) rfl (λ_ _=>yZ aH1) rfl (λw hA=>bE6 H1 (G.up u1.up) t (by omega) (λx hx=>aZ (HZ t x hx) (by omega)) b1 m1 w hA) ⟨rfl,eD.nil⟩ rfl rfl ?_ ?_ ?_
 ·intro l x bs' K h;exact .rgI<|.alI wQ Z λb=>.sWI .head Z Z wS (by simp [cTk,Value.oneCell',cH]) Z<|.nlI<|.tN<|λa W f s=>h b a W (f.sub ⟨rfl,rfl,rfl,trivial⟩) s
 ·intro l' pre x z tl b H2 hC hlen u2 m2;obtain ⟨v,k,xs⟩:=z;obtain ⟨hk,hz⟩:=hC;dsimp only at hk hz|-;change At [] _ _ H2 w (.row 108 3 v k xs::.box b12 (v::[.int .i64 0,.slice (some ⟨b10,0,none⟩) 1 1,.slice none 0 0,.bool false,.bool false,.bool false,.int .i64 0,.int .i64 0]) 102::.box b5 [.pointer (some ⟨b12,0,none⟩)] 94::.row 97 11 (.slice (some ⟨b10,0,none⟩) 1 1) 1 [.int .u8 1,.int .i64 0,.bool false,.int .u8 0,.int .u8 0,.string ⟨#[]⟩,.string ⟨#[]⟩,.int .i64 0,.int .i64 0,.slice none 0 0,.slice none 0 0]::.box b2 [.int .u8 0,.string ⟨#[]⟩,.string ⟨#[]⟩,.int .i64 0,.int .i64 0,.slice none 0 0,.slice none 0 0] 35::tl) _;refine At.ra Hm λpv cv ev=>?_;subst ev;refine .bkI<|.flI (trip:=[(_,_,_),(_,_,_),(_,_,_),(_,_,_),(_,_,_),(_,_,_),(_,_,_),(_,_,_)]) 8 [(0,0),(1,0),(2,0),(3,0),(4,0),(5,0),(6,1),(7,3)] (by kernel_rfl) (by kernel_rfl) (by kernel_rfl) Z<|.lD Z hU mY Z<|.lD Z hU mY Z<|.nC Z<|.fA Z pC<|.lD Z FZ cO Z<|.yw (.loadMW Z HP m2 Z)<|.blF Z (LP _ _ _) Z λb22 H3 u3 m3=>.apD US Z (λ_ _=>.head) Z (Rep.mk (n:=1) (c:=1) (ds:=[dTk .u8 x.1]) m3 (.single (OS x.2) Z) Z (aY _) (by decide)) (by simp [maxLen];omega) (by omega) Z (λ_ _=>(.d3<|.d2<|.yv (.load Z hU mY Z)<|.nl)) λxs26 p26 c26 hz26=>.fn (tl:=[_,_,_]) Z<|.nC Z<|.fA Z pC<|.st kT Z Z NS Z (nb Z) Z<|.nlQ<|.bN<|?_
  refine At.rE ((.slice p26 (k+1) c26,k+1,xs++xs26):Value × Nat × List Value) (u2.trans u3.up) ?_ rfl;exact ⟨by simp [hk],by rw [bU,bU];exact hz.app (aL0 hz26)⟩
 intro D ys z hS hC;obtain ⟨v,k,xs⟩:=z;obtain ⟨hk,hz⟩:=hC;dsimp only at hk hz|-;change At _ _ _ H1 w (.obj D (.deferred (some []))::.row 108 3 v k xs::.box b12 (v::[.int .i64 0,.slice (some ⟨b10,0,none⟩) 1 1,.slice none 0 0,.bool false,.bool false,.bool false,.int .i64 0,.int .i64 0]) 102::.box b5 [.pointer (some ⟨b12,0,none⟩)] 94::.row 97 11 (.slice (some ⟨b10,0,none⟩) 1 1) 1 [.int .u8 1,.int .i64 0,.bool false,.int .u8 0,.int .u8 0,.string ⟨#[]⟩,.string ⟨#[]⟩,.int .i64 0,.int .i64 0,.slice none 0 0,.slice none 0 0]::.box b2 [.int .u8 0,.string ⟨#[]⟩,.string ⟨#[]⟩,.int .i64 0,.int .i64 0,.slice none 0 0,.slice none 0 0] 35::[]) _;refine At.ra cO λpv cv ev=>?_;subst ev;have hkl:k<=t.length:=by have:=TI t;rw [<-hS,bJ] at this;omega
 refine .bN<|.tN<|.sq<|.fL 10 [(0,0),(1,0),(2,0),(3,0),(4,0),(5,0),(6,0),(7,0),(8,1),(9,3)]<|.lD Z hU pT Z<|.lD Z hU pT Z<|.nC Z<|.fA Z pC<|.lD Z FZ mY Z<|.mv Z<|.yw (.lenS iL Z)<|.yw (.build Z (UX _))<|.blF Z (LP _ _ _) Z λb34 H3 u3 m3=>.apD US Z (λ_ _=>kT) Z (Rep.mk (n:=1) (c:=1) (ds:=[dTk .u8 (bP7 t)]) m3 (.single (OS (x:=bP7 t) (aO _)) Z) Z (aY _) (by decide)) (by simp [maxLen];omega) (by omega) Z (λ_ _=>(.d4<|.d3<|.yv (.load Z hU pT Z)<|.nl)) λxs35 p35 c35 hz35=>.fn (tl:=[_,_,_]) Z<|.nC Z<|.fA Z pC<|.st lZ Z Z NS Z (nb Z) Z<|?_
 refine At.pm [1,0,2,3,4,5] [_,_,_,_,_,_] rfl rfl ?_
 have hz2:eD H3 3 ((oI t).map (dTk .u8)) (xs++xs35):=by
  unfold oI;rw [bU,<-hS];exact (hz.up u3.up).app hz35
 have hlen:((oI t).map (dTk .u8)).length=k+1:=by rw [bJ,vY,<-hS,bJ,hk]
 refine mK hlen hz2 λH4 p4 c4 u4 e4 h4=>?_;injection e4 with e5 _ e6
 subst e5 e6;rw [bJ] at hlen;rw [<-hlen]
 have K:Tkf H4 (oI t) p35 c35:=⟨by rw [hlen];exact h4,aL7 t,λx hx=>by
  rcases bZ.1 hx with hx | hx
  ·exact aZ (HZ t x hx) hl
  ·rw [bV.1 hx];exact aO _,by rw [vY];have:=TI t;omega,λx hx hk=>by
  rcases bZ.1 hx with hx | hx
  ·exact ⟨aD8 t x hx hk,(ND t x hx).2.2⟩
  ·rw [bV.1 hx] at hk;exact (by cases hk)⟩
 obtain ⟨p4,hp4⟩:∃ p,p=p35:=⟨_,rfl⟩;obtain ⟨c4,hc4⟩:∃ c,c=c35:=⟨_,rfl⟩;subst hp4 hc4;have G4:=((G.up u1.up).up u3.up).up u4.up;have GT4:=((Gt.up u1.up).up u3.up).up u4.up;refine Sx.row0 179 13 ?_;refine .nt<|.sq<|.bk<|.pm [2,4,0,1,3,5] [_,_,_,_,_,_] Z Z<|.lp (X:=Hp × Value × Value × List Value × List Value × List Res × Ps) [(2,_),(5,_)] ⟨rfl,rfl,trivial⟩ [_,_,_] (λz=>[]) (λz=>z.1) (λz=>[.box b12 [.slice p4 (oI t).length c4,iN z.2.2.2.2.2.2.c.i,z.2.1,z.2.2.1,.bool z.2.2.2.2.2.2.rd,.bool z.2.2.2.2.2.2.dn,.bool z.2.2.2.2.2.2.x.2,iN z.2.2.2.2.2.2.c.off,iN z.2.2.2.2.2.2.c.er] 102,.row 97 11 (z.2.1) (z.2.2.2.2.2.2.op.length) (z.2.2.2.1),.row 179 13 (z.2.2.1) (z.2.2.2.2.2.2.x.1.length) (z.2.2.2.2.1)]++z.2.2.2.2.2.1) (λz=>HUp w H4 z.1/\Sq z.1 z.2.2.2.2.2.2 z.2.2.2.1 z.2.2.2.2.1 z.2.2.2.2.2.1/\Fwf (oI t) z.2.2.2.2.2.2/\Fex z.2.2.2.2.2.2/\Fbd 600000 z.2.2.2.2.2.2/\Rch (oI t) KP z.2.2.2.2.2.2/\Dnr z.2.2.2.2.2.2) (λz=>muF (oI t) z.2.2.2.2.2.2) (H4,.slice (some ⟨b10,0,none⟩) 1 1,.slice none 0 0,[.int .u8 1,.int .i64 0,.bool false,.int .u8 0,.int .u8 0,.string ⟨#[]⟩,.string ⟨#[]⟩,.int .i64 0,.int .i64 0,.slice none 0 0,.slice none 0 0],[],[],KP) (λ_ s=>s) trivial ⟨.refl,⟨Ops.cons (xo:=[]) (AR:=[]) .nil (by decide) (FmR.zero Z Z (aO _) (aO _)),.nil⟩,OJ (by rw [vY];exact Nat.succ_pos _),(λo ho=>by rw [bV.1 ho];exact aO _),bG6,.refl,.inl Z⟩ λz hC=>?_
 obtain ⟨H5,ro,rv,xo,xv,AR,q1⟩:=z;obtain ⟨u5,S,Wq,FE,FB,RC,DR⟩:=hC;dsimp only at u5 S Wq FE FB RC DR|-;have K5:=K.up u5.up;refine Sx.reSt (λW s=>St.mid (a:=[_,_,_]) (d:=AR) (c:=[_,_,_]) (e:=[]) s) ?_;obtain ⟨q,op,x,rd,dn⟩:=q1;dsimp only;refine .sq<|.sr<|.lD Z hU uR Z<|.nC Z<|.fA Z CZ<|.lD Z jI Hm Z<|.yw (.not Z)<|.mv Z<|.b2 (λh43=>?_) (λh43=>?_)
 ·have hd:dn=false:=by simpa using h43
  refine .gy (.load Z hU uR Z)<|.gy (.nilCheck Z)<|.gy (.fieldAddr Z iS)<|.gy (.load Z qE Hm Z)<|.gy (.eql Z Z)<|.yw (.pickT Z Z)<|.nt<|.cd Z (λh49=>?_) (λh49=>?_)
  ·have h0:q.er=0:=by have:=aH h49;omega
   have hnf:¬ (Ps.fin ⟨q,op,x,rd,dn⟩):=λe=>by
    rcases e with e | e
    ·rw [show dn=true from e] at hd;cases hd
    ·exact e h0
   have ST:=SB K.gd.last Wq hnf;have RS:=RC.trans (.one h0 hd rfl);have DS:=aV6 (l:=oI t) (q:=⟨q,op,x,rd,dn⟩) hd;have FS:=aU6 (l:=oI t) (by decide) FB FE (eT Wq.i K.few);have FT:=aT9 (l:=oI t) FE;refine .sk<|.tN<|.bk<|.sr<|.lD Z hU uR Z<|.nC Z<|.fA Z lL<|.lD Z jI Hm Z<|.nt<|.cd Z (λh53=>?_) (λh53=>?_)
   ·have hr:rd=true:=h53;subst hr;refine .rg<|.lD Z hU uR Z<|.cs (X:=Hp × Value × Value × List Value × List Value × List Res) aI1 Z (λW s=>WD K5 Wq S (GT4.up u5.up) h0 FE (St.mid (a:=[_,_,_]) (d:=[_,_,_]) (s.pickT (hd:=[_,_,_,_,_,_]) (tl:=(AR++[])) (hd':=[_,_,_,_,_,_]) [0,1,2,3,4,5] Z Z))) Z λz9 hz9=>?_
    obtain ⟨H6,ro6,rv6,xo6,xv6,AR6⟩:=z9;obtain ⟨u6,S⟩:=hz9;dsimp only at u6 S|-;refine Sx.reSt (λW s=>St.mid (a:=[_,_,_]) (d:=AR6) (c:=[_,_,_]) s) ?_;exact .nl<|.bN<|.tN<|.ag (x:=((H5,ro,rv,xo,xv,AR,(⟨q,op,x,true,dn⟩:Ps)):Hp × Value × Value × List Value × List Value × List Res × Ps)) (H6,ro6,rv6,xo6,xv6,AR6,kL (oI t) ⟨q,op,x,true,dn⟩) trivial ⟨rfl,rfl,trivial⟩ (λ_ s=>St.mid (a:=[_,_,_]) (d:=[_,_,_]) (c:=AR6) (e:=[]) s) ⟨u5.trans u6,S,ST.wf,FT,FS,RS,DS⟩ (YV hnf ST.go Wq.i)
   have hr:rd=false:=h53;subst hr;refine .rg<|.lD Z hU uR Z<|.cs (X:=Hp × Value × Value × List Value × List Value × List Res) aI0 Z (λW s=>aC8 K5 Wq S (St.mid (a:=[_,_,_]) (d:=[_,_,_]) (s.pickT (hd:=[_,_,_,_,_,_]) (tl:=(AR++[])) (hd':=[_,_,_,_,_,_]) [0,1,2,3,4,5] Z Z))) Z λz9 hz9=>?_
   obtain ⟨H6,ro6,rv6,xo6,xv6,AR6⟩:=z9;obtain ⟨u6,S⟩:=hz9;dsimp only at u6 S|-;refine Sx.reSt (λW s=>St.mid (a:=[_,_,_]) (d:=AR6) (c:=[_,_,_]) s) ?_;exact .nl<|.bN<|.tN<|.ag (x:=((H5,ro,rv,xo,xv,AR,(⟨q,op,x,false,dn⟩:Ps)):Hp × Value × Value × List Value × List Value × List Res × Ps)) (H6,ro6,rv6,xo6,xv6,AR6,kL (oI t) ⟨q,op,x,false,dn⟩) trivial ⟨rfl,rfl,trivial⟩ (λ_ s=>St.mid (a:=[_,_,_]) (d:=[_,_,_]) (c:=AR6) (e:=[]) s) ⟨u5.trans u6,S,ST.wf,FT,FS,RS,DS⟩ (YV hnf ST.go Wq.i)
  have hfin:(Ps.fin ⟨q,op,x,rd,dn⟩):=.inr (λe=>aN h49 (by rw [show q.er=0 from e];rfl));refine .ex<|.eb<|.sq<|.sq<|?_
  have EP:CH (oI t)=HC ⟨q,op,x,rd,dn⟩:=by unfold CH;rw [yY RC hfin (IU K.gd.last (oI t).length KP (OJ (by rw [vY];exact Nat.succ_pos _)) (by show _<=0+_;omega)).1]
  refine .rg<|.lD Z hU uR Z<|.nC Z<|.fA Z iS<|.lD Z qE Hm Z<|.yw (.neq Z Z)<|.nt<|.cd Z (λh62=>?_) (λh62=>?_)
  ·have hne:¬ q.er=0:=λe=>aH h62 (by rw [e];rfl);refine .sq<|.fL 11 [(0,0),(1,0),(2,0),(3,0),(4,0),(5,0),(6,0),(7,0),(8,0),(9,3),(10,0)]<|.yw (.build Z yP)<|.lD Z hU uR Z<|.nC Z<|.fA Z rR<|.lD Z cR Hm Z<|.lD Z hU uR Z<|.nC Z<|.fA Z iS<|.lD Z qE Hm Z<|.sW bR5 Z Z cV (by simp [Value.oneCell',cH]) Z ((.yv (.load Z qE Hm Z)<|.yv (.fieldAddr Z iS)<|.yv (.nilCheck Z)<|.yv (.load Z hU uR Z)<|.yv (.load Z cR Hm Z)<|.yv (.fieldAddr Z rR)<|.yv (.nilCheck Z)<|.yv (.load Z hU uR Z)<|.dn<|.nl))<|.a Z Z<|.fn (tl:=[_]) Z<|.az Z<|.tR<|?_
   refine Sx.retM (.inl rfl) mN ?_;refine y7 Z (.cons (.cell rfl cD aD6 rfl) (.cons (.tmp rfl) (.cons (.tmp rfl) .nil))) rfl λW s=>?_;rw [EP,aV5 hne];exact ⟨[.int .u8 0,.string ⟨#[]⟩,.string ⟨#[]⟩,.int .i64 0,.int .i64 0,.slice none 0 0,.slice none 0 0],H5,GA _,rfl,(((u1.trans u3).trans u4).trans u5).grow s⟩
  have he0:q.er=0:=by have:=aN h62;omega
  have hd:dn=true:=by
   rcases hfin with e | e
   ·exact e
   ·exact (e he0).elim
  have hr:rd=true:=by
   rcases DR with e | e
   ·rw [show dn=false from e] at hd;cases hd
   ·exact e
  subst hr;have hv1:1<=x.1.length:=by have:=Wq.vs;dsimp only at this;rw [this];exact Nat.le_add_left _ _
  obtain ⟨hn1,hn2⟩:=oH Wq K.few;dsimp only at hn1 hn2;obtain ⟨vs,bd⟩:=x;dsimp only at hv1 hn2;obtain ⟨v,V,rfl⟩:=AV hv1;dsimp only [List.length_cons] at hn2;obtain ⟨yr,t0,t1,t2,e8,VS1,V1⟩:=VR.inv S.vls;try dsimp only at e8
  subst e8;have l1:=VS1.len;obtain ⟨q1,q2,ef,FR⟩:=GQ V1;have FBv:=GC FB.x;dsimp only;refine .sk<|.tN<|.sr<|.lD Z hU uR Z<|.cs (X:=Nat × Nat) vU Z (λW s=>vR K5 Wq.i V1.one V1.e.nm (by omega) l1 (s.pickT (hd:=[_,_,_,_,_,_]) (tl:=(AR++[])) (hd':=[_,_,_,_,_,_]) [0,2,1,3,4,5] Z Z)) Z λp1 _=>?_
  rw [ef];refine .al eG Z λb7=>.sW .head Z Z cV (by intro a ha;exact Rep.one FR.rep a ha) Z<|.nt<|.sq<|.sr<|.lD Z hU aD6 Z<|.nC Z<|.fA Z nA<|.lD Z jI cO Z<|.nt<|.cd Z (λh77=>?_) (λh77=>?_)
  ·have hbd:(bd || v.noF)=true:=h77;refine .sr<|.yw (.build Z yP)<|.sX aA6 Z Z cV Z<|.a Z Z<|.az Z<|.tR<|?_
   refine Sx.retM (.inl rfl) VH ?_;refine y7 Z (.cons (.cell rfl cD aD5 rfl) (.cons (.tmp rfl) (.cons (.tmp rfl) .nil))) rfl λW s=>?_;rw [EP,ZO he0 hbd];exact ⟨[.int .u8 0,.string ⟨#[]⟩,.string ⟨#[]⟩,.int .i64 0,.int .i64 0,.slice none 0 0,.slice none 0 0],H5,GA _,rfl,(((u1.trans u3).trans u4).trans u5).grow s⟩
  have hbd:(bd || v.noF)=false:=h77;refine .sk<|.tN<|.sq<|.sr<|.yw (.loadW Z cD Hm Z)<|.yw (.call CF Z (λW s=>zJ H5 (G4.up u5.up) (GT4.up u5.up) v.fm FBv _ W FR.rep s.agr))<|.a Z Z<|.ns<|.mv Z<|.yw (.neq Z Z)<|.nt<|.cd Z (λh82=>?_) (λh82=>?_)
  ·have hck:¬ gT v.fm=0:=λe=>aH h82 (by rw [e];rfl);refine .sr<|.yw (.build Z yP)<|.mv Z<|.sX aA6 Z Z cV Z<|.a Z Z<|.az Z<|.tR<|?_
   refine Sx.retM (.inl rfl) VH ?_;refine y7 Z (.cons (.cell rfl cD aD5 rfl) (.cons (.tmp rfl) (.cons (.tmp rfl) .nil))) rfl λW s=>?_;rw [EP,ZN he0 hbd hck];exact ⟨[.int .u8 0,.string ⟨#[]⟩,.string ⟨#[]⟩,.int .i64 0,.int .i64 0,.slice none 0 0,.slice none 0 0],H5,GA _,rfl,(((u1.trans u3).trans u4).trans u5).grow s⟩
  have hck:gT v.fm=0:=by have:=aN h82;omega
  refine .sk<|.tN<|.sr<|.yw (.loadW Z cD Hm Z)<|.sW aA6 Z Z cV (by intro a ha;exact Rep.one FR.rep a ha) Z<|.a Z Z<|.az Z<|?_
  refine Sx.retM (.inl rfl) VH ?_;refine y7 Z (.cons (.cell rfl cD aD5 rfl) (.cons (.tmp rfl) (.cons (.tmp rfl) .nil))) rfl λW s=>?_;rw [EP,aV3 he0 hbd hck];exact ⟨cFm .u8 v.fm.op v.fm.nm v.fm.fd v.fm.a v.fm.b q1 q2,H5,FR.rep,rfl,(((u1.trans u3).trans u4).trans u5).grow s⟩
 have hd:dn=true:=by simpa using h43
 have hfin:(Ps.fin ⟨q,op,x,rd,dn⟩):=.inl hd;refine .gG<|.gG<|.gG<|.gG<|.gG<|.yw (.pickF Z Z)<|.nt<|.cF Z<|.ex<|.eb<|.sq<|.sq<|?_
 have EP:CH (oI t)=HC ⟨q,op,x,rd,dn⟩:=by unfold CH;rw [yY RC hfin (IU K.gd.last (oI t).length KP (OJ (by rw [vY];exact Nat.succ_pos _)) (by show _<=0+_;omega)).1]
 refine .rg<|.lD Z hU uR Z<|.nC Z<|.fA Z iS<|.lD Z qE Hm Z<|.yw (.neq Z Z)<|.nt<|.cd Z (λh62=>?_) (λh62=>?_)
 ·have hne:¬ q.er=0:=λe=>aH h62 (by rw [e];rfl);refine .sq<|.fL 11 [(0,0),(1,0),(2,0),(3,0),(4,0),(5,0),(6,0),(7,0),(8,0),(9,3),(10,0)]<|.yw (.build Z yP)<|.lD Z hU uR Z<|.nC Z<|.fA Z rR<|.lD Z cR Hm Z<|.lD Z hU uR Z<|.nC Z<|.fA Z iS<|.lD Z qE Hm Z<|.sW bR5 Z Z cV (by simp [Value.oneCell',cH]) Z ((.yv (.load Z qE Hm Z)<|.yv (.fieldAddr Z iS)<|.yv (.nilCheck Z)<|.yv (.load Z hU uR Z)<|.yv (.load Z cR Hm Z)<|.yv (.fieldAddr Z rR)<|.yv (.nilCheck Z)<|.yv (.load Z hU uR Z)<|.dn<|.nl))<|.a Z Z<|.fn (tl:=[_]) Z<|.az Z<|.tR<|?_
  refine Sx.retM (.inl rfl) mN ?_;refine y7 Z (.cons (.cell rfl cD aD6 rfl) (.cons (.tmp rfl) (.cons (.tmp rfl) .nil))) rfl λW s=>?_;rw [EP,aV5 hne];exact ⟨[.int .u8 0,.string ⟨#[]⟩,.string ⟨#[]⟩,.int .i64 0,.int .i64 0,.slice none 0 0,.slice none 0 0],H5,GA _,rfl,(((u1.trans u3).trans u4).trans u5).grow s⟩
 have he0:q.er=0:=by have:=aN h62;omega
 have hd:dn=true:=by
  rcases hfin with e | e
  ·exact e
  ·exact (e he0).elim
 have hr:rd=true:=by
  rcases DR with e | e
  ·rw [show dn=false from e] at hd;cases hd
  ·exact e
 subst hr;have hv1:1<=x.1.length:=by have:=Wq.vs;dsimp only at this;rw [this];exact Nat.le_add_left _ _
 obtain ⟨hn1,hn2⟩:=oH Wq K.few;dsimp only at hn1 hn2;obtain ⟨vs,bd⟩:=x;dsimp only at hv1 hn2;obtain ⟨v,V,rfl⟩:=AV hv1;dsimp only [List.length_cons] at hn2;obtain ⟨yr,t0,t1,t2,e8,VS1,V1⟩:=VR.inv S.vls;try dsimp only at e8
 subst e8;have l1:=VS1.len;obtain ⟨q1,q2,ef,FR⟩:=GQ V1;have FBv:=GC FB.x;dsimp only;refine .sk<|.tN<|.sr<|.lD Z hU uR Z<|.cs (X:=Nat × Nat) vU Z (λW s=>vR K5 Wq.i V1.one V1.e.nm (by omega) l1 (s.pickT (hd:=[_,_,_,_,_,_]) (tl:=(AR++[])) (hd':=[_,_,_,_,_,_]) [0,2,1,3,4,5] Z Z)) Z λp1 _=>?_
 rw [ef];refine .al eG Z λb7=>.sW .head Z Z cV (by intro a ha;exact Rep.one FR.rep a ha) Z<|.nt<|.sq<|.sr<|.lD Z hU aD6 Z<|.nC Z<|.fA Z nA<|.lD Z jI cO Z<|.nt<|.cd Z (λh77=>?_) (λh77=>?_)
 ·have hbd:(bd || v.noF)=true:=h77;refine .sr<|.yw (.build Z yP)<|.sX aA6 Z Z cV Z<|.a Z Z<|.az Z<|.tR<|?_
  refine Sx.retM (.inl rfl) VH ?_;refine y7 Z (.cons (.cell rfl cD aD5 rfl) (.cons (.tmp rfl) (.cons (.tmp rfl) .nil))) rfl λW s=>?_;rw [EP,ZO he0 hbd];exact ⟨[.int .u8 0,.string ⟨#[]⟩,.string ⟨#[]⟩,.int .i64 0,.int .i64 0,.slice none 0 0,.slice none 0 0],H5,GA _,rfl,(((u1.trans u3).trans u4).trans u5).grow s⟩
 have hbd:(bd || v.noF)=false:=h77;refine .sk<|.tN<|.sq<|.sr<|.yw (.loadW Z cD Hm Z)<|.yw (.call CF Z (λW s=>zJ H5 (G4.up u5.up) (GT4.up u5.up) v.fm FBv _ W FR.rep s.agr))<|.a Z Z<|.ns<|.mv Z<|.yw (.neq Z Z)<|.nt<|.cd Z (λh82=>?_) (λh82=>?_)
 ·have hck:¬ gT v.fm=0:=λe=>aH h82 (by rw [e];rfl);refine .sr<|.yw (.build Z yP)<|.mv Z<|.sX aA6 Z Z cV Z<|.a Z Z<|.az Z<|.tR<|?_
  refine Sx.retM (.inl rfl) VH ?_;refine y7 Z (.cons (.cell rfl cD aD5 rfl) (.cons (.tmp rfl) (.cons (.tmp rfl) .nil))) rfl λW s=>?_;rw [EP,ZN he0 hbd hck];exact ⟨[.int .u8 0,.string ⟨#[]⟩,.string ⟨#[]⟩,.int .i64 0,.int .i64 0,.slice none 0 0,.slice none 0 0],H5,GA _,rfl,(((u1.trans u3).trans u4).trans u5).grow s⟩
 have hck:gT v.fm=0:=by have:=aN h82;omega
 refine .sk<|.tN<|.sr<|.yw (.loadW Z cD Hm Z)<|.sW aA6 Z Z cV (by intro a ha;exact Rep.one FR.rep a ha) Z<|.a Z Z<|.az Z<|?_
 refine Sx.retM (.inl rfl) VH ?_;refine y7 Z (.cons (.cell rfl cD aD5 rfl) (.cons (.tmp rfl) (.cons (.tmp rfl) .nil))) rfl λW s=>?_;rw [EP,aV3 he0 hbd hck];exact ⟨cFm .u8 v.fm.op v.fm.nm v.fm.fd v.fm.a v.fm.b q1 q2,H5,FR.rep,rfl,(((u1.trans u3).trans u4).trans u5).grow s⟩
def aX3:Str:=[111,110,99,101,91,48,44,32,53,93,32,40,97,114,114,105,118,101,115,32,102,114,111,110,116,46,103,101,116,40,95,44,32,55,41,32,97,110,100,32,110,111,116,32,102,108,97,103,32,115,108,111,119,41]
def bV6:Str:=[40,97,46,120,32,43,32,49,41,32,42,32,50,32,62,32,110,111,119]
def aX4:Fm:=.mk 13 [] [] 0 5 [] [.mk 9 [] [] 0 0 [] [.mk 7 [102,114,111,110,116] [103,101,116] 0 0 [.mk 0 [] 0 [],.mk 1 [] 7 []] [],.mk 8 [] [] 0 0 [] [.mk 6 [115,108,111,119] [] 0 0 [] []]]]
def bV7:Fm:=.mk 3 [] [] 0 0 [.mk 20 [] 0 [.mk 11 [] 0 [.mk 14 [] 0 [.mk 5 [97,46,120] 0 [],.mk 1 [] 1 []],.mk 1 [] 2 []],.mk 4 [] 0 []]] []
theorem aX2:CH (oI aX3)=(aX4,0,0):=by kernel_rfl
theorem aX0:CH (oI bV6)=(bV7,0,0):=by kernel_rfl
theorem aX1:HR aX4=aX3:=by kernel_rfl
theorem GP (H:Hp) (GL:Gl H) (G:Gf H) (t:Str) (f:Fm) (hl:t.length<=400000) (hp:CH (oI t)=(f,0,0)) (w:World) (hA:Agr H w) :
 Calls prg 26 #[cH t] w λe W'=>∃ (cs:List Value) (H':Hp),Rep H' (dFm .u8 f) cs/\e=.returned (.tuple #[.agg cs.toArray,.int .i64 0,.int .i64 0])/\yM H w H' W':=by
 have h:=WR H GL G t hl w hA;rw [hp] at h;exact h
theorem aF7 (H:Hp) (GL:Gl H) (G:Gf H) (gq:Gq H) (cs:List Value) (w:World) (h:Rep H (dFm .u8 aX4) cs) (hA:Agr H w):Calls prg 19 #[.agg cs.toArray] w λr w'=>r=.returned (cH aX3)/\Ext w w':=by
 have h1:=GV H GL G gq aX4 (by decide +kernel) cs w h hA;rw [aX1] at h1;exact h1
theorem aF8 (H:Hp) (GL:Gl H) (G:Gf H) (gq:Gq H) (w:World) (hA:Agr H w):Calls prg 13 #[] w λr w'=>r=.returned (.bool true)/\Ext w w':=by
 refine Sx.enter (H:=H) func13 rfl ntmps13 rfl hA ?_;refine .sr<|.a Z Z<|.ns<|.ct (X:=List Value) HK Z (λW s=>GP H GL G aX3 aX4 (by decide) aX2 W s.agr) Z λx1 H1 r1 u1=>?_
 have r1f:Rep H1 (dFm .u8 (Fm.mk 13 [] [] 0 5 [] [.mk 9 [] [] 0 0 [] [.mk 7 [102,114,111,110,116] [103,101,116] 0 0 [.mk 0 [] 0 [],.mk 1 [] 7 []] [],.mk 8 [] [] 0 0 [] [.mk 6 [115,108,111,119] [] 0 0 [] []]]])) x1:=r1;obtain ⟨p1,c1,p2,c2,rfl,hs1,hs2,_,_⟩:=iX r1f;obtain ⟨bE,oE,cE,hpE,rE,lE,mE⟩:=hs2.elem (i:=0) (d:=dFm .u8 (Fm.mk 9 [] [] 0 0 [] [.mk 7 [102,114,111,110,116] [103,101,116] 0 0 [.mk 0 [] 0 [],.mk 1 [] 7 []] [],.mk 8 [] [] 0 0 [] [.mk 6 [115,108,111,119] [] 0 0 [] []]])) rfl;cases hpE;obtain ⟨q1,d1,q2,d2,rfl,g1,g2,_,_⟩:=iX rE;refine .mv Z<|.yw (.extract Z Z)<|.yw (.extract Z Z)<|.yw (.extract Z Z)<|.al eG Z λb1=>.sW .head Z Z cV (Rep.one r1) Z<|.a Z Z<|.aq Z<|.sq<|.sm Z<|.yw (.cast (.neq Z Z) (congrArg Value.bool (aP (λh=>h Z))))<|.mv Z<|.gy (.move Z)<|.gy (.cast (.neq Z Z) (congrArg Value.bool (aP (λh=>h Z))))<|.yw (.pickF Z Z)<|.mv Z<|.gy (.fieldAddr Z eF)<|.gy (.load Z hZ Hm Z)<|.gy (.cast (.neq Z Z) (congrArg Value.bool (aP (λh=>h Z))))<|.yw (.pickF Z Z)<|.mv Z<|.gy (.fieldAddr Z eQ)<|.gy (.load Z cR Hm Z)<|.gy (.cast (.neq Z Z) (congrArg Value.bool (aP (λh=>h Z))))<|.yw (.pickF Z Z)<|.mv Z<|.gy (.fieldAddr Z dD)<|.gy (.load Z fP Hm Z)<|.gy (.lenSl eR Z)<|.gy (.cast (.neq Z Z) (congrArg Value.bool (aP (λh=>h Z))))<|.yw (.pickF Z Z)<|.mv Z<|.gy (.fieldAddr Z dD)<|.gy (.load Z fP Hm Z)<|.gy (.indexSl eR Z Z (i:=0) Z (by decide) (q:=oE+0 * 7) Z)<|.gy (.fieldAddr Z eF)<|.gy (.loadM Z hZ mE (k:=0) Z Z)<|.gy (.cast (.neq Z Z) (congrArg Value.bool (aP (λh=>h Z))))<|.yw (.pickF Z Z)<|.mv Z<|.gy (.loadW Z cD Hm Z)<|.gy (.call (v:=cH aX3) HL Z (λW s=>aF7 H1 (GL.up u1.up) (G.up u1.up) (gq.up u1.up) _ W r1 s.agr))<|.gy (.cast (.neS Z Z) (congrArg Value.bool (aP (λh=>h Z))))<|.yw (.pickF Z Z)<|.nt<|.cF Z<|.sk<|.tN<|.sr<|.ct (X:=List Value) HK Z (λW s=>GP H1 (GL.up u1.up) (G.up u1.up) bV6 bV7 (by decide) aX0 W s.agr) Z λx2 H2 r2 u2=>?_
 have r2f:Rep H2 (dFm .u8 (Fm.mk 3 [] [] 0 0 [(Ex.mk 20 [] 0 [(Ex.mk 11 [] 0 [.mk 14 [] 0 [.mk 5 [97,46,120] 0 [],.mk 1 [] 1 []],.mk 1 [] 2 []]),.mk 4 [] 0 []])] [])) x2:=r2;obtain ⟨p3,c3,p4,c4,rfl,hs3,hs4,_,_⟩:=iX r2f;obtain ⟨bF,oF,cF,hpF,rF,lF,mF⟩:=hs3.elem (i:=0) (d:=dEx .u8 (Ex.mk 20 [] 0 [(Ex.mk 11 [] 0 [.mk 14 [] 0 [.mk 5 [97,46,120] 0 [],.mk 1 [] 1 []],.mk 1 [] 2 []]),.mk 4 [] 0 []])) rfl;cases hpF;obtain ⟨p5,c5,rfl,hs5,_⟩:=iK rF;obtain ⟨bG,oG,cG,hpG,rG,lG,mG⟩:=hs5.elem (i:=0) (d:=dEx .u8 (Ex.mk 11 [] 0 [.mk 14 [] 0 [.mk 5 [97,46,120] 0 [],.mk 1 [] 1 []],.mk 1 [] 2 []])) rfl;cases hpG;obtain ⟨p6,c6,rfl,hs6,_⟩:=iK rG;refine .mv Z<|.yw (.extract Z Z)<|.yw (.extract Z Z)<|.yw (.extract Z Z)<|.al eG Z λb4=>.sW .head Z Z cV (Rep.one r2) Z<|.a Z Z<|.a Z Z<|.ns<|.mv Z<|.yw (.cast (.eql Z Z) (congrArg Value.bool (aS Z)))<|.mv Z<|.gy (.fieldAddr Z eF)<|.gy (.load Z hZ Hm Z)<|.gy (.cast (.eql Z Z) (congrArg Value.bool (aS Z)))<|.yw (.pickT Z Z)<|.mv Z<|.gy (.fieldAddr Z cJ)<|.gy (.load Z dE Hm Z)<|.gy (.lenSl dO Z)<|.gy (.cast (.eql Z Z) (congrArg Value.bool (aS Z)))<|.yw (.pickT Z Z)<|.mv Z<|.gy (.fieldAddr Z cJ)<|.gy (.load Z dE Hm Z)<|.gy (.indexSl dO Z Z (i:=0) Z (by decide) (q:=oF+0 * 4) Z)<|.gy (.fieldAddr Z gO)<|.gy (.loadM Z jR mF (k:=0) Z Z)<|.gy (.cast (.eql Z Z) (congrArg Value.bool (aS Z)))<|.yw (.pickT Z Z)<|.mv Z<|.gy (.fieldAddr Z cJ)<|.gy (.load Z dE Hm Z)<|.gy (.indexSl dO Z Z (i:=0) Z (by decide) (q:=oF+0 * 4) Z)<|.gy (.fieldAddr Z eA)<|.gy (.loadM Z dE mF (k:=3) Z Z)<|.gy (.indexSl dO Z Z (i:=0) Z (by decide) (q:=oG+0 * 4) Z)<|.gy (.fieldAddr Z gO)<|.gy (.loadM Z jR mG (k:=0) Z Z)<|.gy (.cast (.eql Z Z) (congrArg Value.bool (aS Z)))<|.yw (.pickT Z Z)<|.az Z<|?_
 exact y9 Z Z λW s=>⟨Z,s.ext⟩
variable {N:Nat}
theorem bO3 (hN:3<=N) (e:Ex) (h:Ex.all uQ e=true):blE N e=true:=by
 induction e using Ex.ind with | _ op nm n args ih
 rw [nR,tP,aE,aD,mL,aW] at h;exact QX.2 ⟨by omega,λa ha=>ih a ha (h.2 a ha)⟩
theorem QM (hN:4<=N) (f:Fm) (h:gdF f=true):blF N f=true:=by
 induction f using Fm.ind with | _ op nm fd a b ex args ih
 obtain ⟨⟨_,h1,h2,h3⟩,h4⟩:=WP.1 h;exact wO.2 ⟨⟨by omega,by omega,λe he=>bO3 (by omega) e (ZE (h3 e he))⟩,λg hg=>ih g hg (h4 g hg)⟩
def gX (lv:Nat):Pz Ex:=pX lv
def gL (lv:Nat) (a:Ex):Pz Ex:=pL lv a
theorem Cz.ex (lv:Nat):Cz (gX lv):=by
 have prim:∀ rec:List Tk->Rs Ex,(∀ r r' c,rec r=.er r' c->c≠0)->∀ r r' c,qT rec r=.er r' c->c≠0:=by
  intro rec hr r r' c e
  have nd:∀ {α:Type} (w:Str) (r:List Tk) (f:List Tk->Rs α),(∀ r r' c,f r=.er r' c->c≠0)->∀ r' c,sH w r f=.er r' c->c≠0:=by
   intro α w r f hf r' c e;unfold sH at e
   split at e
   ·exact hf _ _ _ e
   ·injection e with _ e;omega
  have nm:∀ {α:Type} (r:List Tk) (f:Str->List Tk->Rs α),(∀ s r r' c,f s r=.er r' c->c≠0)->∀ r' c,AC r f=.er r' c->c≠0:=by
   intro α r f hf r' c e;unfold AC at e
   split at e
   ·injection e with _ e;omega
   ·split at e
    ·exact hf _ _ _ _ e
    ·injection e with _ e;omega
  have rb:∀ (r:List Tk) (f:Ex->List Tk->Rs Ex),(∀ x r r' c,f x r=.er r' c->c≠0)->∀ r' c,(rec r).bind f=.er r' c->c≠0:=by
   intro r f hf r' c e;rcases Rs.bind_er e with e | ⟨a,q,_,e⟩
   ·exact hr _ _ _ e
   ·exact hf _ _ _ _ e
  unfold qT at e
  split at e
  ·injection e with _ e;omega
  ·split at e
   ·split at e
    ·cases e
    ·injection e with _ e;omega
   split at e
   ·cases e
   split at e
   ·cases e
   split at e
   ·cases e
   split at e
   ·exact nm _ _ (λs r r' c e=>by cases e) _ _ e
   split at e
   ·exact rb _ _ (λx r r' c e=>nd _ _ _ (λr r' c e=>by cases e) _ _ e) _ _ e
   split at e
   ·exact nm _ _ (λs r r' c e=>nd _ _ _ (λr r' c e=>rb _ _ (λx r r' c e=>nd _ _ _ (λr r' c e=>by cases e) _ _ e) _ _ e) _ _ e) _ _ e
   split at e
   ·split at e
    ·exact rb _ _ (λx r r' c e=>nd _ _ _ (λr r' c e=>by cases e) _ _ e) _ _ e
    ·cases e
   ·injection e with _ e;omega
 have key:∀ f,(∀ lv r r' c,pE f (.ex lv) r=.er r' c->c≠0)/\(∀ lv a r r' c,pE f (.lp lv a) r=.er r' c->c≠0):=by
  intro f;induction f with
  | zero=>exact ⟨λlv r r' c e=>by unfold pE at e;injection e with _ e;omega,λlv a r r' c e=>by unfold pE at e;injection e with _ e;omega⟩
  | succ f ih =>
   obtain ⟨ih1,ih2⟩:=ih;refine ⟨λlv r r' c e=>?_,λlv a r r' c e=>?_⟩
   ·rw [SW] at e
    split at e
    ·rcases Rs.bind_er e with e | ⟨a,q,_,e⟩
     ·exact ih1 _ _ _ _ e
     ·exact ih2 _ _ _ _ _ e
    split at e
    ·rcases Rs.bind_er e with e | ⟨a,q,_,e⟩
     ·exact ih1 _ _ _ _ e
     ·cases e
    split at e
    ·rcases Rs.bind_er e with e | ⟨a,q,_,e⟩
     ·exact ih1 _ _ _ _ e
     ·cases e
    ·exact prim _ (λr r' c e=>ih1 _ _ _ _ e) _ _ _ e
   ·rw [SV] at e
    split at e
    ·cases e
    ·rcases Rs.bind_er e with e | ⟨b,q,_,e⟩
     ·exact ih1 _ _ _ _ e
     ·split at e
      ·cases e
      ·exact ih2 _ _ _ _ _ e
 exact λr r' c e=>(key _).1 _ _ _ _ e
theorem Shs.gx (lv:Nat):Shs (gX lv):=λr a r' e=>(AQ _).1 _ _ _ _ e
theorem aS6 {lv:Nat} (h:lv<5):gX lv=dI (gX (lv+1)) (gL lv):=funext λ_=>PS h
theorem bJ8:gX 5=kO [45] (dI (gX 5) λx=>gC (opE 9 [x])) (kO [110,111,116] (dI (gX 5) λx=>gC (opE 10 [x])) (qT (gX 0))):=funext λ_=>CL
def gK (lv:Nat) (op:UInt8) (a:Ex) (b:Ex):Pz Ex:=if lv=2 then gC (opE op [a,b]) else gL lv (opE op [a,b])
def bF2 (op:UInt8) (nm:Str):Pz Ex:=dI (gX 0) λx=>dI (gNd [93]) λ_=>gC (.mk op nm 0 [x])
def bF1:Pz Ex:=dI gNu λv=>gC (.mk 1 [] v [])
def aE2:Pz Ex:=dI gNm λs=>kO [91] (bF2 6 s) (gC (.mk 5 s 0 []))
def ZA:List Tk->Bool
 | []=>false
 | t::_=>decide (t.k=3)
def KT:Pz Ex:=λr=>if ZA r then bF1 r else aE2 r
def NE:Pz Ex :=
 kO [116,114,117,101] (gC (opE 2 []))<|kO [102,97,108,115,101] (gC (opE 3 []))<|kO [110,111,119] (gC (opE 4 []))<|kO [115,105,122,101] (dI gNm λs=>gC (.mk 8 s 0 []))<|kO [104,97,115] (dI gNm λs=>dI (gNd [91]) λ_=>bF2 7 s)<|kO [40] (dI (gX 0) λx=>dI (gNd [41]) λ_=>gC x) KT
theorem TE {α:Type} (r:List Tk) (f:Str->Pz α):(AC r λs q=>f s q)=dI gNm f r:=by
 unfold AC dI gNm;cases r with
 | nil=>rfl
 | cons t q =>
  simp only
  split <;> rfl
theorem EW {α:Type} (w:Str) (r:List Tk) (f:Pz α):(sH w r λq=>f q)=dI (gNd w) (λ_=>f) r:=by
 unfold sH dI gNd
 split <;> rfl
variable {w:Str}
theorem aS1 {t:Tk} {q:List Tk} (h:isT w (t::q)=true):(t.k=2\/t.k=4)/\t.t=w:=by
 unfold isT at h;rw [aE,aD,bC,eS,eS] at h;exact h
theorem bN6 {t:Tk} {q:List Tk} (h:t.k=3):isT w (t::q)=false:=by
 cases e:isT w (t::q) with
 | false=>rfl
 | true =>
  have:=(aS1 e).1;rw [h] at this
  revert this
  decide
theorem YN:qT (gX 0)=NE:=funext λr=>by
 cases r with
 | nil=>rfl
 | cons t q =>
  by_cases h3:t.k=3
  ·have e:NE (t::q)=bF1 (t::q):=by
    unfold NE kO KT ZA;simp only [bN6 h3,aI,bL,h3,decide_true,bP]
   rw [e];unfold qT bF1 dI gNu;simp only [h3,bP]
   split <;> rfl
  ·have hl:KT (t::q)=aE2 (t::q):=by
    unfold KT ZA;simp only [h3,uU,aI,bL]
   unfold qT;simp only [h3,bL];unfold NE kO;refine ifC rfl (ifC rfl (ifC rfl (ifC ?_ ?_)))
   ·exact TE q λs=>gC _
   by_cases hp:isT [40] (t::q)=true
   ·have hn:isT [104,97,115] (t::q)=false:=by
     cases e:isT [104,97,115] (t::q) with
     | false=>rfl
     | true =>
      have h1:=(aS1 hp).2;have h2:=(aS1 e).2;rw [h1] at h2
      revert h2
      decide
    simp only [hp,hn,bP,aI,bL];refine Rs.bind_congr rfl λx r2 _=>?_;exact EW [41] r2 (gC x)
   ·simp only [hp,aI,bL];refine ifC ?_ ?_
    ·rw [xK,<-TE];unfold AC;cases q with
     | nil=>rfl
     | cons t2 q2 =>
      simp only;refine ifC ?_ rfl;rw [<-EW];unfold sH;refine ifC ?_ rfl;refine Rs.bind_congr rfl λx r4 _=>?_;exact EW [93] r4 (gC _)
    ·rw [hl];unfold aE2 dI gNm;simp only
     by_cases h1:t.k=1
     ·simp only [h1,bP];show _=kO [91] (bF2 6 t.t) (gC (.mk 5 t.t 0 [])) q;unfold kO;refine ifC ?_ rfl;refine Rs.bind_congr rfl λx r4 _=>?_;exact EW [93] r4 (gC _)
     ·simp only [h1,bL]
      rfl
section
variable {α β:Type}
end
theorem Cz.st {b:Pz (List Sm)} (h:Cz b):Cz (gSt b):=by
 have hx:Cz gEx:=Cz.ex 0;have blk:Cz (GN b):=.bind (.nd _) λ_=>.bind h λ_=>.bind (.nd _) λ_=>.pure _;have els:Cz (aE3 b):=.alt blk (.pure _);have oth:Cz (TR b):=.alt blk (.bind (.nd _) λ_=>.pure _);have lst:Cz (BB gEx):=.bind (.nd _) λ_=>.alt (.pure _) (.bind hx λ_=>.bind (.many hx) λ_=>.bind (.nd _) λ_=>.pure _)
 exact .alt (.bind hx λ_=>.bind blk λ_=>.bind els λ_=>.pure _)<|.alt (.bind hx λ_=>.bind blk λ_=>.pure _)<|.alt (.bind hx λ_=>.bind (.nd _) λ_=>.bind hx λ_=>.bind oth λ_=>.pure _)<|.alt (.bind .nm λ_=>.bind (.nd _) λ_=>.bind hx λ_=>.bind oth λ_=>.pure _)<|.alt (.bind .nm λ_=>.bind (.nd _) λ_=>.bind .nm λ_=>.bind lst λ_=>.bind (.nd _) λ_=>.pure _)<|.alt (.bind hx λ_=>.bind (.nd _) λ_=>.bind .nm λ_=>.bind lst λ_=>.bind (.nd _) λ_=>.pure _)<|.alt (.bind (.nd _) λ_=>.pure _)<|.alt (.bind .nm λ_=>.bind (.nd _) λ_=>.bind hx λ_=>.bind (.nd _) λ_=>.bind (.nd _) λ_=>.pure _)<|.bind .nm λ_=>.alt (.bind hx λ_=>.bind (.nd _) λ_=>.bind (.nd _) λ_=>.bind hx λ_=>.bind (.nd _) λ_=>.pure _)
  (.bind (.nd _) λ_=>.bind hx λ_=>.bind (.nd _) λ_=>.pure _)
theorem Cz.bF:∀ f,Cz (gBF f)
 | 0=>λr r' c e=>by unfold gBF at e;injection e with _ e;omega
 | f+1=>λr r' c e=>by
  unfold gBF at e
  split at e
  ·cases e
  ·rcases Rs.bind_er e with e | ⟨a,q,_,e⟩
   ·exact Cz.st (Cz.bF f) _ _ _ e
   ·rcases Rs.bind_er e with e | ⟨l,q2,_,e⟩
    ·exact Cz.bF f _ _ _ e
    ·cases e
theorem Cz.b:Cz gB:=λr r' c e=>Cz.bF _ _ _ _ e
section
variable {α:Type}
theorem Cz.blk:Cz (GN gB):=.bind (.nd _) λ_=>.bind Cz.b λ_=>.bind (.nd _) λ_=>.pure _
theorem Cz.list {p:Pz α} (h:Cz p):Cz (BB p):=.bind (.nd _) λ_=>.alt (.pure _) (.bind h λ_=>.bind (.many h) λ_=>.bind (.nd _) λ_=>.pure _)
theorem Cz.int:Cz aS7:=.alt (.bind .nu λ_=>.pure _) .nu
theorem Cz.hd:Cz gHd:=.bind .nm λ_=>.bind (.list .nm) λ_=>.bind .blk λ_=>.pure _
end
theorem Shr.int:Shr aS7:=.alt (.bind Shs.nu.le λ_=>.pure _) Shs.nu.le
section
variable {α β:Type}
def En (p:Pz α):Prop:=p []=.er [] 8\/∃ b,p []=.ok b []
def Pf (N:Nat) (p:Pz α):Prop:=∀ r a q,r.length<=N->p r=.ok a q->∃ u,r=u++q/\(∀ v w,u=v++w->p v=.er [] 8\/∃ b,p v=.ok b [])/\(∀ v,v≠[]->v.head? = q.head? -> p (u++v)=.ok a v)
theorem Pf.le {N M:Nat} {p:Pz α} (h:Pf N p) (k:M<=N):Pf M p:=λr a q hr e=>h r a q (aZ hr k) e
theorem Pf.zero {p:Pz α} (h:Shr p):Pf 0 p:=λr a q hr e=>by
 obtain rfl:r=[]:=bI (by omega);have:=h _ _ _ e;obtain rfl:q=[]:=bI (by simpa using this);refine ⟨[],Z,λv w h=>?_,λv hv h=>?_⟩
 ·obtain rfl:=(fB.1 h.symm).1;exact .inr ⟨a,e⟩
 ·cases v with
  | nil=>exact absurd rfl hv
  | cons x v=>cases h
theorem En.pure (a:α):En (gC a):=.inr ⟨a,Z⟩
theorem En.bind {p:Pz α} {f:α->Pz β} (h:En p) (k:∀ a,En (f a)):En (dI p f):=by
 rcases h with h | ⟨b,h⟩
 ·exact .inl (by unfold dI;rw [h];rfl)
 ·have e:dI p f []=f b []:=by unfold dI;rw [h];rfl
  rcases k b with k | ⟨c,k⟩
  ·exact .inl (e.trans k)
  ·exact .inr ⟨c,e.trans k⟩
theorem En.nd (w:Str):En (gNd w):=.inl rfl
theorem En.nm:En gNm:=.inl rfl
theorem En.nu:En gNu:=.inl rfl
theorem En.alt {w:Str} {p q:Pz α} (h:En q):En (kO w p q):=h
theorem En.many {w:Str} {p:Pz α}:En (AE w p):=.inr ⟨[],Z⟩
theorem Pf.pure {N:Nat} (a:α):Pf N (gC a):=λr b q _ e=>by
 injection e with e1 e2
 subst e1;subst e2;refine ⟨[],Z,λv w h=>?_,λv _ _=>rfl⟩;obtain rfl:=(fB.1 h.symm).1;exact .inr ⟨a,Z⟩
theorem Pf.bindS {N M:Nat} {p:Pz α} {f:α->Pz β} (hp:Pf N p) (hM:∀ r a q,r.length<=N->p r=.ok a q->q.length<=M) (hf:∀ a,Pf M (f a)) (he:∀ a,En (f a)):Pf N (dI p f):=by
 intro r b q' hr e;obtain ⟨a,q,h1,h2⟩:=Rs.bind_ok e;obtain ⟨u1,rfl,A1,B1⟩:=hp _ _ _ hr h1;obtain ⟨u2,rfl,A2,B2⟩:=hf a _ _ _ (hM _ _ _ hr h1) h2;have go:∀ x c y,p x=.ok c y->dI p f x=f c y:=λx c y h=>by unfold dI;rw [h];rfl
 have fst:∀ v w,u1=v++w->dI p f v=.er [] 8\/∃ b,dI p f v=.ok b []:=λv w h=>by
  rcases A1 v w h with h3 | ⟨b',h3⟩
  ·exact .inl (by unfold dI;rw [h3];rfl)
  ·rw [go _ _ _ h3];exact he b'
 have hd:∀ (x y z:List Tk),(y.head? = z.head?)->(x++y).head? = (x++z).head? := λx y z h=>by
  cases x with
  | nil=>exact h
  | cons t x=>rfl
 refine ⟨u1++u2,(bD ..).symm,λv w h=>?_,λv hv h=>?_⟩
 ·rcases List.append_eq_append_iff.1 h with ⟨a',rfl,rfl⟩ | ⟨c,rfl,rfl⟩
  ·cases a' with
   | nil =>
    rw [dQ];exact fst u1 [] (dQ _).symm
   | cons t a' =>
    rw [go _ _ _ (B1 (t::a') (by simp) rfl)];exact A2 (t::a') w rfl
  ·exact fst v c rfl
 ·rw [bD,go _ _ _ (B1 (u2++v) (λk=>hv (fB.1 k).2) (hd _ _ _ h))];exact B2 v hv h
theorem Pf.bind {N:Nat} {p:Pz α} {f:α->Pz β} (hp:Pf N p) (hf:∀ a,Pf N (f a)) (he:∀ a,En (f a)):Pf N (dI p f):=.bindS hp (λr a q hr e=>by
 obtain ⟨u,rfl,_⟩:=hp r a q hr e;rw [aG] at hr;omega) hf he
theorem Pf.one {N:Nat} {p:Pz α} (h0:p []=.er [] 8) (h1:∀ t,(∃ a,∀ r,p (t::r)=.ok a r)\/∀ r,∃ r' c,p (t::r)=.er r' c):Pf N p:=by
 intro r a q _ e;cases r with
 | nil=>rw [h0] at e;cases e
 | cons t r =>
  rcases h1 t with ⟨b,h⟩ | h
  ·rw [h] at e;injection e with e1 e2
   subst e1;subst e2;refine ⟨[t],Z,λv w hv=>?_,λv _ _=>h v⟩;cases v with
   | nil=>exact .inl h0
   | cons x v =>
    injection hv with hx hv
    subst hx;obtain rfl:=(fB.1 hv.symm).1;exact .inr ⟨b,h []⟩
  ·obtain ⟨r',c,h⟩:=h r;rw [h] at e;cases e
theorem Pf.nd {N:Nat} (w:Str):Pf N (gNd w):=.one rfl λt=>by
 cases e:isT w [t] with
 | true=>exact .inl ⟨(),λr=>by show (if isT w [t]=true then _ else _)=_;rw [aL e];rfl⟩
 | false=>exact .inr λr=>⟨_,_,by show (if isT w [t]=true then _ else _)=_;rw [aF (by rw [e];decide)]⟩
theorem Pf.nm {N:Nat}:Pf N gNm:=.one rfl λt=>by
 by_cases e:t.k=1
 ·exact .inl ⟨t.t,λr=>by unfold gNm;simp only [e,bP]⟩
 ·exact .inr λr=>⟨t::r,8,by unfold gNm;simp only [e,bL]⟩
theorem Pf.nu {N:Nat}:Pf N gNu:=.one rfl λt=>by
 by_cases e:t.k=3
 ·by_cases e2:nW t.t<=9223372036854775807
  ·exact .inl ⟨Int64.ofNat (nW t.t),λr=>by unfold gNu;simp only [e,e2,bP]⟩
  ·exact .inr λr=>⟨t::r,2,by unfold gNu;simp only [e,e2,bP,bL]⟩
 ·exact .inr λr=>⟨t::r,8,by unfold gNu;simp only [e,bL]⟩
theorem Pf.choice {N:Nat} {c:List Tk->Bool} {p:Tk->Pz α} {q g:Pz α} (hc0:c []=false) (hc:∀ t r r',c (t::r)=c (t::r')) (hT:∀ t r,c (t::r)=true->g (t::r)=p t r) (hF:∀ r,c r=false->g r=q r)
 (hp:∀ t M,M+1<=N->Pf M (p t)) (hq:Pf N q) (he:En q):Pf N g:=by
 intro r a z hr e;cases h:c r with
 | true =>
  cases r with
  | nil=>rw [hc0] at h;cases h
  | cons t r =>
   rw [hT _ _ h] at e;obtain ⟨u,rfl,A,B⟩:=hp t r.length (by simpa using hr) _ _ _ (aY _) e;refine ⟨t::u,Z,λv w hv=>?_,λv hn hv=>?_⟩
   ·cases v with
    | nil=>rw [hF _ hc0];exact he
    | cons x v =>
     injection hv with hx hv
     subst hx;rw [hT _ _ ((hc ..).trans h)];exact A v w hv
   ·show g (t::(u++v))=_;rw [hT _ _ ((hc ..).trans h)];exact B v hn hv
 | false =>
  rw [hF _ h] at e;obtain ⟨u,rfl,A,B⟩:=hq _ _ _ hr e
  have pre:∀ v,(v=[]\/v.head? = (u++z).head?)->c v=false:=λv hv=>by
   cases v with
   | nil=>exact hc0
   | cons x v =>
    rcases hv with hv | hv
    ·cases hv
    ·cases k:u++z with
     | nil=>rw [k] at hv;cases hv
     | cons y s =>
      rw [k] at hv h;injection hv with hv
      subst hv;exact (hc x v s).trans h
  refine ⟨u,Z,λv w hv=>?_,λv hn hv=>?_⟩
  ·rw [hF _ (pre v (by rw [hv];cases v <;> simp))];exact A v w hv
  ·rw [hF _ (pre (u++v) (.inr (by cases u <;> first | exact hv | rfl)))];exact B v hn hv
theorem Pf.look {N:Nat} {c:List Tk->Bool} {p q g:Pz α} (hc0:c []=false) (hc:∀ t r r',c (t::r)=c (t::r')) (hT:∀ r,c r=true->g r=p r) (hF:∀ r,c r=false->g r=q r)
 (hp:Pf N p) (hq:Pf N q) (he:En q):Pf N g:=by
 intro r a z hr e
 have pre:∀ (x:Bool) (v:List Tk),v≠[]->v.head? = r.head? -> c r=x->c v=x:=λx v hn h2 h3=>by
  cases v with
  | nil=>exact absurd rfl hn
  | cons y v =>
   cases r with
   | nil=>cases h2
   | cons t r =>
    injection h2 with h2
    subst h2;exact (hc ..).trans h3
 have h1:∀ (u v w:List Tk),r=u++z->u=v++w->v≠[]->v.head? = r.head? := λu v w h2 h3 hn=>by
  cases v with
  | nil=>exact absurd rfl hn
  | cons y v=>rw [h2,h3];rfl
 have h2:∀ (u v:List Tk),r=u++z->v.head? = z.head? -> (u++v).head? = r.head? := λu v h3 h4=>by
  rw [h3];cases u with
  | nil=>exact h4
  | cons y u=>rfl
 cases h:c r with
 | true =>
  rw [hT _ h] at e;obtain ⟨u,hu,A,B⟩:=hp _ _ _ hr e;refine ⟨u,hu,λv w hv=>?_,λv hn hv=>?_⟩
  ·by_cases hn:v=[]
   ·subst hn;rw [hF _ hc0];exact he
   ·rw [hT _ (pre _ v hn (h1 u v w hu hv hn) h)];exact A v w hv
  ·rw [hT _ (pre _ (u++v) (λk=>hn (fB.1 k).2) (h2 u v hu hv) h)];exact B v hn hv
 | false =>
  rw [hF _ h] at e;obtain ⟨u,hu,A,B⟩:=hq _ _ _ hr e;refine ⟨u,hu,λv w hv=>?_,λv hn hv=>?_⟩
  ·by_cases hn:v=[]
   ·subst hn;rw [hF _ hc0];exact he
   ·rw [hF _ (pre _ v hn (h1 u v w hu hv hn) h)];exact A v w hv
  ·rw [hF _ (pre _ (u++v) (λk=>hn (fB.1 k).2) (h2 u v hu hv) h)];exact B v hn hv
theorem Pf.alt {N:Nat} {w:Str} {p q:Pz α} (hp:∀ M,M+1<=N->Pf M p) (hq:Pf N q) (he:En q):Pf N (kO w p q) :=
 .choice (c:=isT w) (p:=λ_=>p) rfl (λ_ _ _=>rfl) (λt r h=>by unfold kO;rw [aL h];rfl) (λr h=>by unfold kO;rw [aF (by rw [h];decide)]) (λ_=>hp) hq he
theorem Pf.many {w:Str} {p:Pz α} (hs:Shr p):∀ (N:Nat),(∀ M,M+1<=N->Pf M p)->Pf N (AE w p)
 | 0,_=>.zero (.many hs)
 | N+1,h=>by
  rw [KS hs];refine .alt (λM hM=>?_) (.pure _) (.pure _);exact .bind (h M hM) (λa=>.bind ((Pf.many hs N λM hM=>h M (by omega)).le (by omega)) (λ_=>.pure _) (λ_=>.pure _)) (λa=>.bind .many λ_=>.pure _)
end
section
variable {α β:Type}
structure PE (N:Nat) (p:Pz α):Prop where
 pf:Pf N p
 en:En p
theorem PE.le {N M:Nat} {p:Pz α} (h:PE N p) (k:M<=N):PE M p:=⟨h.pf.le k,h.en⟩
theorem PE.pure {N:Nat} (a:α):PE N (gC a):=⟨.pure a,.pure a⟩
theorem PE.bind {N:Nat} {p:Pz α} {f:α->Pz β} (hp:PE N p) (hf:∀ a,PE N (f a)):PE N (dI p f):=⟨.bind hp.pf (λa=>(hf a).pf) (λa=>(hf a).en),.bind hp.en λa=>(hf a).en⟩
theorem PE.nd {N:Nat} (w:Str):PE N (gNd w):=⟨.nd w,.nd w⟩
theorem PE.nm {N:Nat}:PE N gNm:=⟨.nm,.nm⟩
theorem PE.nu {N:Nat}:PE N gNu:=⟨.nu,.nu⟩
theorem PE.alt {N:Nat} {w:Str} {p q:Pz α} (hp:∀ M,M+1<=N->PE M p) (hq:PE N q):PE N (kO w p q):=⟨.alt (λM h=>(hp M h).pf) hq.pf hq.en,.alt hq.en⟩
theorem PE.many {N:Nat} {w:Str} {p:Pz α} (hs:Shr p) (hp:∀ M,M+1<=N->PE M p):PE N (AE w p):=⟨.many hs N λM h=>(hp M h).pf,.many⟩
theorem PE.list {N:Nat} {p:Pz α} (hs:Shr p) (hp:∀ M,M<=N->PE M p):PE N (BB p):=.bind (.nd _) λ_=>.alt (λM _=>.pure _) (.bind (hp N (aY _)) λ_=>.bind (.many hs λM h=>hp M (by omega)) λ_=>.bind (.nd _) λ_=>.pure _)
end
theorem SZ (lv:Nat):opAt lv []=none:=by
 have h:(bM0 lv).find? (λx=>isT x.1 [])=none:=List.find?_eq_none.2 (λx _=>Bool.false_ne_true);unfold opAt;rw [h]
 rfl
theorem En.l (lv:Nat) (a:Ex):En (gL lv a):=.inr ⟨a,BO (SZ lv)⟩
theorem En.nam:En aE2:=.bind .nm λ_=>.alt (.pure _)
theorem En.prim:En NE:=.alt<|.alt<|.alt<|.alt<|.alt<|.alt En.nam
theorem En.x:∀ (d lv:Nat),lv+d=5->En (gX lv)
 | 0,lv,h=>by
  obtain rfl:lv=5:=by omega
  rw [bJ8,YN];exact .alt (.alt En.prim)
 | d+1,lv,h=>by
  rw [aS6 (by omega)];exact .bind (En.x d (lv+1) (by omega)) λa=>En.l lv a
theorem Shr.l (lv:Nat) (a:Ex):Shr (gL lv a):=λr b r' e=>(AQ _).2 _ _ _ _ _ e
theorem Pf.xl:∀ (N:Nat),(∀ lv,lv<=5->Pf N (gX lv))/\(∀ lv,lv<=4->∀ a,Pf N (gL lv a))
 | 0=>⟨λlv _=>.zero (Shs.gx lv).le,λlv _ a=>.zero (Shr.l lv a)⟩
 | N+1=>by
  obtain ⟨ih1,ih2⟩:=Pf.xl N;have x:∀ lv,lv<=5->∀ M,M+1<=N+1->PE M (gX lv):=λlv h M hM=>⟨(ih1 lv h).le (by omega),En.x (5 - lv) lv (by omega)⟩
  have hk:∀ lv op a b,lv<=4->∀ M,M+1<=N+1->PE M (gK lv op a b):=λlv op a b h M hM=>by
   unfold gK
   split
   ·exact .pure _
   ·exact ⟨(ih2 lv h _).le (by omega),En.l lv _⟩
  have hl:∀ lv,lv<=4->∀ a,Pf (N+1) (gL lv a):=λlv h a=>by
   refine .choice (c:=λr=>(opAt lv r).isSome) (p:=λt=>match opAt lv [t] with | some op=>dI (gX (lv+1)) (gK lv op a) | none=>gC a) (q:=gC a) ?_ (λ_ _ _=>rfl) ?_ ?_ ?_ (.pure _) (.pure _)
   ·show (opAt lv []).isSome=false;rw [SZ]
    rfl
   ·intro t r e;obtain ⟨op,e⟩:=pP.1 e;have e2:opAt lv [t]=some op:=e;simp only [e2];show pL lv a (t::r)=_;rw [YP h e];refine Rs.bind_congr rfl λb q _=>?_;unfold gK
    split <;> rfl
   ·intro r e
    have e2:opAt lv r=none:=by
     cases k:opAt lv r with
     | none=>rfl
     | some op=>rw [k] at e;cases e
    exact BO e2
   ·intro t M hM;show Pf M (match opAt lv [t] with | some op=>dI (gX (lv+1)) (gK lv op a) | none=>gC a);cases opAt lv [t] with
    | none=>exact .pure _
    | some op=>exact (PE.bind (x (lv+1) (by omega) M hM) λb=>hk lv op a b h M hM).pf
  have key:∀ op nm M,M+1<=N+1->PE M (bF2 op nm):=λop nm M hM=>.bind (x 0 (by omega) M hM) λ_=>.bind (.nd _) λ_=>.pure _;have nam:PE (N+1) aE2:=.bind .nm λs=>.alt (λM hM=>key 6 s M hM) (.pure _);have last:PE (N+1) KT:=⟨.look (c:=ZA) (p:=bF1) (q:=aE2) rfl (λ_ _ _=>rfl) (λr h=>by unfold KT;rw [aL h]) (λr h=>by unfold KT;rw [aF (by rw [h];decide)]) (PE.bind .nu λ_=>.pure _).pf nam.pf nam.en,nam.en⟩;have prim:PE (N+1) NE:=.alt (λ_ _=>.pure _)<|.alt (λ_ _=>.pure _)<|.alt (λ_ _=>.pure _)<|.alt (λ_ _=>.bind .nm λ_=>.pure _)<|.alt (λM hM=>.bind .nm λs=>.bind (.nd _) λ_=>key 7 s M hM)<|.alt (λM hM=>.bind (x 0 (by omega) M hM) λ_=>.bind (.nd _) λ_=>.pure _) last
  have h5:PE (N+1) (gX 5):=by
   rw [bJ8,YN];exact .alt (λM hM=>.bind (x 5 (by omega) M hM) λ_=>.pure _)<|.alt (λM hM=>.bind (x 5 (by omega) M hM) λ_=>.pure _) prim
  have all:∀ d lv,lv+d=5->PE (N+1) (gX lv):=λd=>by
   induction d with
   | zero =>
    intro lv h;obtain rfl:lv=5:=by omega
    exact h5
   | succ d ih =>
    intro lv h;rw [aS6 (by omega)];exact .bind (ih (lv+1) (by omega)) λa=>⟨hl lv (by omega) a,En.l lv a⟩
  exact ⟨λlv h=>(all (5 - lv) lv (by omega)).pf,hl⟩
theorem PE.ex:PE N gEx:=⟨(Pf.xl N).1 0 (by omega),En.x 5 0 rfl⟩
theorem PE.st {b:Pz (List Sm)} (hb:∀ M,M+1<=N->PE M b):PE N (gSt b):=by
 have blk:∀ M,M+1<=N->PE M (GN b):=λM h=>.bind (.nd _) λ_=>.bind (hb M h) λ_=>.bind (.nd _) λ_=>.pure _;have els:∀ M,M+1<=N->PE M (aE3 b):=λM h=>.alt (λM' h'=>blk M' (by omega)) (.pure _);have oth:∀ M,M+1<=N->PE M (TR b):=λM h=>.alt (λM' h'=>blk M' (by omega)) (.bind (.nd _) λ_=>.pure _);have lst:∀ M,PE M (BB gEx):=λM=>.list Shs.ex.le λ_ _=>.ex
 exact .alt (λM h=>.bind .ex λ_=>.bind (blk M h) λ_=>.bind (els M h) λ_=>.pure _)<|.alt (λM h=>.bind .ex λ_=>.bind (blk M h) λ_=>.pure _)<|.alt (λM h=>.bind .ex λ_=>.bind (.nd _) λ_=>.bind .ex λ_=>.bind (oth M h) λ_=>.pure _)<|.alt (λM h=>.bind .nm λ_=>.bind (.nd _) λ_=>.bind .ex λ_=>.bind (oth M h) λ_=>.pure _)<|.alt (λM h=>.bind .nm λ_=>.bind (.nd _) λ_=>.bind .nm λ_=>.bind (lst M) λ_=>.bind (.nd _) λ_=>.pure _)<|.alt (λM h=>.bind .ex λ_=>.bind (.nd _) λ_=>.bind .nm λ_=>.bind (lst M) λ_=>.bind (.nd _) λ_=>.pure _)<|.alt (λM h=>.bind (.nd _) λ_=>.pure _)<|.alt (λM h=>.bind .nm λ_=>.bind (.nd _) λ_=>.bind .ex λ_=>.bind (.nd _) λ_=>.bind (.nd _) λ_=>.pure _)<|.bind .nm λ_=>.alt (λM h=>.bind .ex λ_=>.bind (.nd _) λ_=>.bind (.nd _) λ_=>.bind .ex λ_=>.bind (.nd _) λ_=>.pure _)
  (.bind (.nd _) λ_=>.bind .ex λ_=>.bind (.nd _) λ_=>.pure _)
theorem En.b:En gB:=.inl (by rw [TS];rfl)
theorem PE.b:∀ N,PE N gB
 | 0=>⟨.zero Shr.b,En.b⟩
 | N+1=>by
  have st:PE (N+1) (gSt gB):=.st λM h=>(PE.b N).le (by omega);have rest:∀ a:Sm,PE N (dI gB λl=>gC (a::l)):=λa=>.bind (PE.b N) λ_=>.pure _
  refine ⟨.look (c:=isT [125]) (p:=gC []) (q:=dI (gSt gB) λs=>dI gB λl=>gC (s::l)) rfl (λ_ _ _=>rfl) (λr h=>?_) (λr h=>?_) (.pure _)
   (.bindS st.pf (λr a q hr e=>?_) (λa=>(rest a).pf) (λa=>(rest a).en)) (.bind st.en λa=>(rest a).en),En.b⟩
  ·rw [TS,aL h]
   rfl
  ·rw [TS,aF (by rw [h];decide)]
   rfl
  ·have:=Shs.st Shr.b _ _ _ e;omega
theorem PE.blk:PE N (GN gB):=.bind (.nd _) λ_=>.bind (.b N) λ_=>.bind (.nd _) λ_=>.pure _
theorem PE.int:PE N aS7:=.alt (λ_ _=>.bind .nu λ_=>.pure _) .nu
theorem PE.hd:PE N gHd:=.bind .nm λ_=>.bind (.list Shs.nm.le λ_ _=>.nm) λ_=>.bind .blk λ_=>.pure _
structure Xf {α:Type} (p:Pz α):Prop where
 no:p []=.er [] 8
 go:∀ r a q w,p r=.ok a q->p (r++w)=.ok a (q++w)
theorem Xf.nd (w:Str):Xf (gNd w):=⟨Z,λr a q z e=>by
 cases r with
 | nil=>cases e
 | cons t r =>
  unfold gNd at e
  split at e
  ·rename_i h;injection e with _ e
   subst e;show (if isT w (t::(r++z))=true then _ else _)=_;have h2:isT w (t::(r++z))=true:=h;rw [aL h2]
   rfl
  ·cases e⟩
theorem Xf.pure {α β:Type} {p:Pz α} {f:α->β} (h:Xf p):Xf (dI p λa=>gC (f a)):=⟨by unfold dI;rw [h.no];rfl,λr b q w e=>by
 obtain ⟨a,q1,h1,h2⟩:=Rs.bind_ok e;injection h2 with h2 h3
 subst h2;subst h3;unfold dI;rw [h.go r a q1 w h1]
 rfl⟩
theorem Xf.bind {α β:Type} {p:Pz α} {f:α->Pz β} (hp:∀ N,PE N p) (hf:∀ a,Xf (f a)):Xf (dI p f):=⟨by
 unfold dI;rcases (hp 0).en with h | ⟨b,h⟩
 ·rw [h];rfl
 ·rw [h];exact (hf b).no,λr b q' w e=>by
 obtain ⟨a,q,h1,h2⟩:=Rs.bind_ok e
 have hq:q≠[]:=λk=>by
  subst k;rw [(hf a).no] at h2;cases h2
 obtain ⟨u,rfl,_,B⟩:=(hp r.length).pf _ _ _ (aY _) h1;have h3:=B (q++w) (λk=>hq (fB.1 k).1) (by cases q with | nil=>exact absurd rfl hq | cons t q=>rfl);unfold dI;rw [bD,h3];exact (hf a).go q b q' w h2⟩
def PR (ks:List Kt):List Kt:=(4,[40])::(ks++[(4,[41])])
def RdK (ks:List Kt) (e:Ex):Prop:=∀ le r,le.map kt=ks->Stp 0 r->pX 0 (le++r)=.ok e r
variable {ks:List Kt}
theorem RdK.par {e:Ex} (h:RdK ks e) {le r:List Tk} (hk:le.map kt=PR ks):pX 5 (le++r)=.ok e r:=by
 unfold PR at hk;obtain ⟨t,l1,rfl,ht,hk⟩:=cL.1 hk;obtain ⟨l2,l3,rfl,h2,h3⟩:=hI.1 hk;obtain ⟨t2,l4,rfl,ht2,h4⟩:=cL.1 h3;obtain rfl:=eX.1 h4;simp only [aV,bD,bW];have hf:=h l2 (t2::r) h2 (.of (by rw [ht2];decide) (by rw [ht2];decide));rw [CL,fD,fD,ht,aF (by decide),aF (by decide),qT];have hk0:t.k=4:=congrArg Prod.fst ht;simp only [fD,ht];rw [aF (by rw [hk0];decide),aF (by decide),aF (by decide),aF (by decide),aF (by decide),aL (by decide),hf];show sH [41] (t2::r) _=_;rw [sH,fD,ht2,aL (by decide)]
 rfl
end Go.Proofs.YtidclioghdbphaaGreatDoor
/- Plain: expressions with all parentheses are read back: the cases beside two operands. -/
namespace Go.Proofs.YtidclioghdbphaaGreatDoor
mutual
def TT:Ex->List Kt
 | .mk op nm n args=>match aS9 args with
  | []=>ktE (.mk op nm n [])
  | [b]=>if op=6 then (1,nm)::(4,[91])::(b++[(4,[93])]) else if op=7 then (2,[104,97,115])::(1,nm)::(4,[91])::(b++[(4,[93])])
   else if op=9 then (4,[45])::PR b else (2,[110,111,116])::PR b
  | a::b::_=>PR a++DD op::PR b
def aS9:List Ex->List (List Kt)
 | []=>[]
 | e::r=>TT e::aS9 r
end
mutual
def ZF:Ex->Str
 | .mk op nm n args=>match aS8 args with
  | []=>Ex.text (.mk op nm n [])
  | [b]=>if op=6 then nm++91::(b++[93]) else if op=7 then [104,97,115]++32::(nm++91::(b++[93]))
   else if op=9 then 45::32::40::(b++[41]) else [110,111,116]++32::40::(b++[41])
  | a::b::_=>40::(a++41::((eE op).tx++40::(b++[41])))
def aS8:List Ex->List Str
 | []=>[]
 | e::r=>ZF e::aS8 r
end
def LxF (e:Ex):Prop:=∀ r ks,rI r->Lx r ks->Lx (ZF e++r) (TT e++ks)/\hdB (ZF e++r)
variable {r:Str} {ks:List Kt}
theorem LxF.par {e:Ex} (h:LxF e) (hr:hdB r) (hk:Lx r ks):Lx (40::(ZF e++41::r)) (PR (TT e)++ks):=by
 obtain ⟨k1,k2⟩:=h (41::r) ((4,[41])::ks) HF (.sy (by decide) hr hk);have e2:PR (TT e)++ks=(4,[40])::(TT e++(4,[41])::ks):=by simp [PR]
 rw [e2];exact .sy (by decide) k2 k1
variable {n:Nat}
theorem SL {c:UInt8} {k:UInt8} (h:cI (c::r)=(k,n)) (h5:k≠5) :
 (pG c=true/\n=pre jC (c::r)/\(if words.contains ((c::r).take n) then (2:UInt8) else if n<=12 then 1 else 5)=k) \/
 (pG c=false/\iW c=true/\n=pre iW (c::r)/\(n=1\/c≠48)/\k=3) \/
 (pG c=false/\iW c=false/\k=4/\∃ y,symbols.find? (λx=>x.isPrefixOf (c::r))=some y/\n=y.length):=by
 cases h1:pG c with
 | true =>
  refine .inl ⟨Z,?_⟩;cases h4:words.contains ((c::r).take (pre jC (c::r))) with
  | true =>
   simp only [cI,aU,h1,h4,bP,iY] at h;obtain ⟨rfl,rfl⟩:=h;exact ⟨Z,by rw [h4];rfl⟩
  | false =>
   by_cases h6:pre jC (c::r)<=12
   ·simp only [cI,aU,h1,h4,h6,bP,aI,bL,iY] at h;obtain ⟨rfl,rfl⟩:=h;exact ⟨Z,by rw [h4,aF (by decide),aL h6]⟩
   ·simp only [cI,aU,h1,h4,h6,bP,aI,bL,iY] at h;exact absurd h.1.symm h5
 | false =>
  cases h4:iW c with
  | true =>
   by_cases h6:pre iW (c::r)=1\/c≠48
   ·simp only [cI,aU,h1,h4,h6,bP,aI,bL,iY] at h;obtain ⟨rfl,rfl⟩:=h;exact .inr (.inl ⟨Z,Z,Z,h6,Z⟩)
   ·simp only [cI,aU,h1,h4,h6,bP,aI,bL,iY] at h;exact absurd h.1.symm h5
  | false =>
   cases hx:symbols.find? (λx=>x.isPrefixOf (c::r)) with
   | none =>
    simp only [cI,aU,h1,h4,hx,aI,bL,iY] at h;exact absurd h.1.symm h5
   | some y =>
    simp only [cI,aU,h1,h4,hx,aI,bL,iY] at h;obtain ⟨rfl,rfl⟩:=h;exact .inr (.inr ⟨Z,Z,Z,y,Z,Z⟩)
theorem aZ6 {c:UInt8} {t:Str} (hsh:(c::t).length<=1000000) (hall:(c::t).all iW=true) (h2:t=[]\/c≠48) (hr:∀ d,r.head? = some d->iW d=false):Tok (3,c::t) r:=by
 have hp:pre iW ((c::t)++r)=(c::t).length:=xF hall hr;rw [fZ,aE] at hall;have hb:=QU c hall.1;refine ⟨by simp,?_,pU hb.1 (λe=>hb.2.1 e.1),(show (3:UInt8)≠5 by decide),hsh⟩;show cI ((c::t)++r)=(3,(c::t).length);unfold cI;simp only;rw [show ((c::t)++r).headD 0=c from rfl,hb.2.2.2.2.2,aF (by decide),hall.1,aL rfl,hp];refine aL ?_;rcases h2 with rfl | h2
 ·exact .inl Z
 ·exact .inr h2
variable {w:Str}
theorem ER {q:UInt8->Bool} (h:pre q (w++r)=w.length):w.all q=true/\∀ d,r.head? = some d->q d=false:=by
 induction w with
 | nil =>
  refine ⟨Z,λd hd=>?_⟩;cases r with
  | nil=>cases hd
  | cons e r =>
   obtain rfl:e=d:=bK hd;cases hq:q e with
   | false=>rfl
   | true =>
    rw [bW] at h;unfold pre at h;rw [dU,hq] at h;simp at h
 | cons a w ih =>
  rw [aV] at h;unfold pre at h;rw [dU] at h;cases hq:q a with
  | false=>rw [hq] at h;simp at h
  | true =>
   rw [hq] at h;have:=ih (by unfold pre;simpa using h);exact ⟨by rw [fZ,hq,this.1];rfl,this.2⟩
theorem UF {α:Type} {p q:α->Bool}:∀ {l:List α},(∀ x∈l,p x=q x)->l.find? p=l.find? q
 | [],_=>rfl
 | a::l,h=>by
  rw [List.find?_cons,List.find?_cons,h a (by simp),UF λx hx=>h x (bS _ hx)]
theorem aA9:∀ w∈symbols,w≠[]/\pG (w.headD 0)=false/\iW (w.headD 0)=false/\mC (w.headD 0)=false/\w.take 2≠[47,47]/\w.all (λc=>!mC c)=true/\w.length<=2/\symbols.find? (λx=>x.isPrefixOf w)=some w:=by decide +kernel
theorem VZ {z a b:Str} (hz:z.length<=2) (h:a.take 2=b.take 2):z.isPrefixOf a=z.isPrefixOf b:=by
 have key:∀ (m:Str),z.isPrefixOf m=z.isPrefixOf (m.take 2):=by
  intro m
  match z,hz,m with
  | [],_,m=>simp [List.isPrefixOf]
  | [x],_,[]=>rfl
  | [x],_,[y]=>rfl
  | [x],_,y::u::m=>rfl
  | [x,x'],_,[]=>rfl
  | [x,x'],_,[y]=>rfl
  | [x,x'],_,y::u::m=>rfl
 rw [key a,key b,h]
theorem Tok.tail {x:Kt} {d:UInt8} {r':Str} (h:Tok x (d::r)):Tok x (d::r'):=by
 obtain ⟨k,w⟩:=x;have hne:=h.ne
 match w,hne with
 | c::t,hne =>
  have hrd:cI (c::(t++d::r))=(k,(c::t).length):=h.read;have htk:(c::(t++d::r)).take (c::t).length=c::t:=by rw [<-aV,iG]
  have h2t:((c::t)++d::r).take 2=((c::t)++d::r').take 2:=by
   cases t with
   | nil=>rfl
   | cons b t=>rfl
  have hsk:gA false ((c::t)++d::r')=(c::t)++d::r':=by
   have h0:gA false (c::(t++d::r))=c::(t++d::r):=h.skip;rw [gA] at h0
   have hb:mC c=false:=by
    cases e:mC c with
    | false=>rfl
    | true =>
     rw [aL e] at h0;have h1:=congrArg List.length h0;have h2:=nN false (t++d::r);rw [aJ] at h1;omega
   rw [aF (by rw [hb];decide)] at h0;refine pU hb λe=>?_;have e2:(t++d::r').head? = (t++d::r).head? := by cases t <;> rfl
   have e1:c=47/\(t++d::r').head? = some 47:=e;rw [e2] at e1;rw [aL e1] at h0;have h1:=congrArg List.length h0;have h2:=nN true (t++d::r);rw [aJ] at h1;omega
  refine ⟨h.ne,?_,hsk,h.k5,h.sh⟩;show cI ((c::t)++d::r')=(k,(c::t).length);rcases SL hrd h.k5 with ⟨h1,h2,h3⟩ | ⟨h1,h2,h3,h4,h5⟩ | ⟨h1,h2,h3,y,h4,h5⟩
  ·have ha:=ER (w:=c::t) (r:=d::r) h2.symm;have hp:pre jC ((c::t)++d::r')=(c::t).length:=xF ha.1 λe he=>ha.2 e he;rw [htk] at h3;unfold cI;simp only;rw [show ((c::t)++d::r').headD 0=c from rfl,h1,aL rfl,hp,iG]
   split at h3
   ·rename_i e;rw [aL e,<-h3]
   ·rename_i e;rw [aF e]
    split at h3
    ·rename_i e2;rw [aL e2,<-h3]
    ·exact absurd h3.symm h.k5
  ·obtain rfl:k=3:=h5;have ha:=ER (w:=c::t) (r:=d::r) h3.symm;have hp:pre iW ((c::t)++d::r')=(c::t).length:=xF ha.1 λe he=>ha.2 e he;unfold cI;simp only;rw [show ((c::t)++d::r').headD 0=c from rfl,h1,aF (by decide),h2,aL rfl,hp];exact aL h4
  ·obtain rfl:k=4:=h3
   have hf:symbols.find? (λx=>x.isPrefixOf ((c::t)++d::r'))=some y:=by
    rw [<-h4];exact UF λx hx=>VZ (aA9 x hx).2.2.2.2.2.2.1 h2t.symm
   unfold cI;simp only;rw [show ((c::t)++d::r').headD 0=c from rfl,h1,h2,hf];simp [<-h5]
variable {s:Str}
theorem Lx.size {k:List Kt} (h:Lx s k):(k.map λx=>x.2.length).sum<=s.length/\k.length<=(k.map λx=>x.2.length).sum:=by
 induction h with
 | nil=>simp
 | blk _ _ ih=>simp only [aJ];omega
 | @tok x s k ht _ ih =>
  have:=tG.2 ht.ne;simp only [dG,List.sum_cons,aJ,aG];omega
end Go.Proofs.YtidclioghdbphaaGreatDoor
namespace Go.Proofs.YtidclioghdbphaaGreatDoor
open Go.RowKit Go.Par Go.Sx
def tqN (n:Str):List Kt:=match eI n with | some (a,b)=>[(1,a),(4,[46]),(1,b)] | none=>[(1,n)]
def prQ (b:Bool) (l:List Kt):List Kt:=if b then (4,[40])::(l++[(4,[41])]) else l
def hdQ (l:List (UInt8 × List Kt)):UInt8 × List Kt:=l.headD (0,[])
def tqO (op:UInt8) (nm:Str) (n:Int64) (l:List (UInt8 × List Kt)):List Kt :=
 if op=1 then [(3,Lib.itoa n.toInt)]
 else if op=4 then [(2,[110,111,119])]
 else if op=5 then tqN nm
 else if op=6 then tqN nm++((4,[91])::((hdQ l).2++[(4,[93])]))
 else if op=8 then (2,[115,105,122,101])::tqN nm
 else if op=9 then (4,[45])::prQ (decide (tlv (hdQ l).1<6)) (hdQ l).2
 else if op=11\/op=12\/op=13\/op=14\/op=15 then
  prQ (decide (tlv (hdQ l).1<tlv op)) (hdQ l).2++(4,wZ op)::prQ (decide (tlv (hdQ (l.drop 1)).1<tlv op+1)) (hdQ (l.drop 1)).2
 else [(4,[95])]
mutual
def tqT:Ex->List Kt
 | .mk op nm n args=>tqO op nm n (aZ3 args)
def aZ3:List Ex->List (UInt8 × List Kt)
 | []=>[]
 | e::r=>(e.op,tqT e)::aZ3 r
end
theorem RP:∀ l,aZ3 l=l.map λe=>(e.op,tqT e)
 | []=>rfl
 | e::r=>by rw [aZ3,RP r];rfl
theorem aK8 {op:UInt8} {nm:Str} {n:Int64} {args:List Ex} :tqT (.mk op nm n args)=tqO op nm n (args.map λe=>(e.op,tqT e)):=by rw [tqT,RP]
def nmQ (n:Str):Bool:=match eI n with | some (a,b)=>fN a && fN b | none=>fN n
theorem sF:∀ {n a b:Str},eI n=some (a,b)->n=a++([46]:Str)++b
 | [],_,_,h=>by cases h
 | c::r,a,b,h=>by
  rw [eI] at h
  split at h
  ·rename_i hc;cases h;rw [hc];rfl
  ·cases hs:eI r with
   | none=>rw [hs] at h;cases h
   | some x =>
    obtain ⟨y,z⟩:=x;rw [hs] at h;cases h;rw [sF hs];rfl
def wrB (r:Str):Prop:=∀ c,r.head? = some c->jC c=false
variable {w r:Str}
theorem aA7 (hw:fN w=true) (hr:wrB r):Tok (1,w) r:=by
 obtain ⟨h1,hl,hw,h4,h5⟩:=lK hw
 match w,h1 with
 | c::t,h0 =>
  have hlb:=EY c hl;have hp:pre jC ((c::t)++r)=(c::t).length:=xF hw λd hd=>hr d hd;refine ⟨h0,?_,?_,(show (1:UInt8)≠5 by decide),(by show (c::t).length<=1000000;omega)⟩
  ·show cI ((c::t)++r)=(1,(c::t).length);unfold cI;simp only;rw [show ((c::t)++r).headD 0=c from rfl,show pG c=true from hl,aL rfl,hp,iG,h4,aF (by decide),aL h5]
  ·exact pU hlb.1 (λe=>hlb.2.1 e.1)
theorem Lx.nw {k:List Kt} (hw:fN w=true) (hr:wrB r) (h:Lx r k):Lx (w++r) ((1,w)::k):=.tok (x:=(1,w)) (aA7 hw hr) h
theorem bK7:Tok (4,[95]) r:=by
 refine ⟨by simp,?_,?_,(show (4:UInt8)≠5 by decide),(by show (1:Nat)<=_;omega)⟩
 ·show cI (95::r)=(4,1);simp [cI,pG,iW,symbols,List.find?,List.isPrefixOf]
 ·show gA false (95::r)=95::r;simp [gA,mC]
theorem bK8:Tok (4,[46,46]) r:=by
 refine ⟨by simp,?_,?_,(show (4:UInt8)≠5 by decide),(by show (2:Nat)<=_;omega)⟩
 ·show cI (46::46::r)=(4,2);simp [cI,pG,iW,symbols,List.find?,List.isPrefixOf]
 ·show gA false (46::46::r)=46::46::r;simp [gA,mC]
theorem aL1 {u:Nat} (hu:u<=9223372036854775808) (hr:∀ d,r.head? = some d->iW d=false):Tok (3,Lib.decDigits u) r:=by
 have hdl:=ZQ hu;obtain ⟨c,t,e,h2,_⟩:=HD u
 have hall:(Lib.decDigits u).all iW=true:=aW.2 λd hd=>by
  have:=Plain.digits_are u d hd;simp only [iW,aE,aD];exact this
 rw [e] at hall hdl|-;exact aZ6 (by omega) hall h2 hr
theorem Lx.nd {u:Nat} {k:List Kt} (hu:u<=9223372036854775808) (hr:∀ d,r.head? = some d->iW d=false) (h:Lx r k):Lx (Lib.decDigits u++r) ((3,Lib.decDigits u)::k):=.tok (x:=(3,Lib.decDigits u)) (aL1 hu hr) h
theorem KK {n:Int64} (h:0<=n.toInt) {k:List Kt} (hr:∀ d,r.head? = some d->iW d=false) (hk:Lx r k):Lx (Lib.itoa n.toInt++r) ((3,Lib.itoa n.toInt)::k)/\hdB (Lib.itoa n.toInt++r):=by
 rw [Lib.itoa,aF (by omega)];exact ⟨.nd bJ9 hr hk,WG⟩
theorem EN (h:rI r):∀ d,r.head? = some d->iW d=false:=λd e=>ZB d (h d e).1
def LxN (s:Str) (q:List Kt):Prop:=∀ r ks,rI r->Lx r ks->Lx (s++r) (q++ks)/\hdB (s++r)
theorem WJ {n:Str} (h:nmQ n=true):LxN n (tqN n):=by
 intro r ks hr hk;unfold nmQ at h;unfold tqN;cases hs:eI n with
 | none =>
  rw [hs] at h;exact ⟨.nm h hr hk,sZ h⟩
 | some x =>
  obtain ⟨a,b⟩:=x;rw [hs] at h;simp only [aE] at h;rw [sF hs];simp only [bD,aV,bW];exact ⟨.nw h.1 (λc e=>by cases e;decide) (.sy (by decide) (sZ h.2) (.nm h.2 hr hk)),sZ h.1⟩
variable {s:Str}
theorem xR {q:List Kt} (h:LxN s q) (b:Bool):LxN (yG b s) (prQ b q):=by
 intro r ks hr hk;unfold yG prQ
 split
 ·simp only [aV,bW,bD];obtain ⟨h1,h2⟩:=h (41::r) ((4,[41])::ks) HF (.sy (by decide) hr.hd hk);exact ⟨.sy (by decide) h2 h1,fJ (by decide)⟩
 ·exact h r ks hr hk
theorem aZ7:∀ op∈([11,12,13,14,15,16,17,18,19,20,21]:List UInt8),wZ op∈aZ8\/∃ c∈aM2,wZ op=[c]:=by decide +kernel
theorem aQ5 {op:UInt8} (h:op∈([11,12,13,14,15,16,17,18,19,20,21]:List UInt8)) {k:List Kt} (hk:Lx r k):Lx ([32]++(wZ op++([32]++r))) ((4,wZ op)::k):=by
 refine .sp ?_;have hs:Lx ([32]++r) k:=hk.sp;rcases aZ7 op h with hw | ⟨c,hc,hw⟩
 ·exact .tok (x:=(4,wZ op)) (OP hw) hs
 ·rw [hw];exact .sy hc iO.hd hs
theorem GJ {op:UInt8} {nm:Str} {n:Int64} {args:List Ex} (h:qK (.mk op nm n args)=false):(op=5\/op=6\/op=8->nmQ nm=true)/\(op=6\/op=8->(eI nm).isSome=true)/\∀ a∈args,qK a=false:=by
 rw [bE4,bK9,sM] at h;obtain ⟨h1,h2⟩:=h;rw [Bool.not_eq_false'] at h1;unfold tnB at h1;refine ⟨λho=>?_,λho=>?_,λa ha=>?_⟩
 ·rw [aL ho] at h1;unfold nmQ;cases hs:eI nm with
  | none=>rw [hs] at h1;simp only [aE] at h1;exact h1.2
  | some x=>rw [hs] at h1;exact h1
 ·rw [aL (.inr ho)] at h1;cases hs:eI nm with
  | none=>rw [hs] at h1;rcases ho with rfl | rfl <;> simp at h1
  | some x=>rfl
 ·cases hm:qK a with
  | false=>rfl
  | true=>rw [fW.2 ⟨a,ha,hm⟩] at h2;cases h2
theorem OO {op:UInt8} {nm:Str} {n:Int64} {args:List Ex} (h:eL (.mk op nm n args)=true) :
 (op=1/\nm=[]/\0<=n.toInt/\args=[])\/(op=4/\nm=[]/\n=0/\args=[])\/((op=5\/op=8)/\n=0/\args=[])\/(op=6/\n=0/\∃ a,args=[a]/\eL a=true)\/(op=9/\nm=[]/\n=0/\∃ a,args=[a]/\eL a=true) \/
 (op∈([11,12,13,14,15]:List UInt8)/\nm=[]/\n=0/\∃ a b,args=[a,b]/\eL a=true/\eL b=true):=by
 rw [eL] at h
 split at h
 ·rename_i e;simp only [aE,aD] at h;exact .inl ⟨e,h.1.1,h.1.2,bI h.2⟩
 split at h
 ·rename_i e;simp only [aE,aD] at h;exact .inr (.inl ⟨e,h.1.1,h.1.2,bI h.2⟩)
 split at h
 ·rename_i e;simp only [aE,aD] at h;exact .inr (.inr (.inl ⟨e,h.1,bI h.2⟩))
 split at h
 ·rename_i e;simp only [aE,aD,rV] at h;obtain ⟨a,rfl⟩:=gY h.2.2;exact .inr (.inr (.inr (.inl ⟨e,h.1,a,Z,by simpa using h.2.1⟩)))
 split at h
 ·rename_i e;simp only [aE,aD,rV] at h;obtain ⟨a,rfl⟩:=gY h.2.2;exact .inr (.inr (.inr (.inr (.inl ⟨e,h.1.1,h.1.2,a,Z,by simpa using h.2.1⟩))))
 split at h
 ·rename_i e;simp only [aE,aD,rV] at h;obtain ⟨a,b,rfl⟩:=nY (l:=args) h.2.2;refine .inr (.inr (.inr (.inr (.inr ⟨?_,h.1.1,h.1.2,a,b,Z,?_⟩))))
  ·simpa using e
  ·simpa using h.2.1
 ·cases h
theorem TG (e:Ex):eL e=true->qK e=false->LxN (tmT e) (tqT e):=by
 induction e using Ex.ind with
 | _ op nm n args ih =>
  intro h hm r ks hr hk;obtain ⟨m1,m2,m3⟩:=GJ hm;rcases OO h with ⟨rfl,rfl,hn,rfl⟩ | ⟨rfl,rfl,rfl,rfl⟩ | ⟨ho,rfl,rfl⟩ | ⟨rfl,rfl,a,rfl,ha⟩ | ⟨rfl,rfl,rfl,a,rfl,ha⟩ | ⟨ho,rfl,rfl,a,b,rfl,ha,hb⟩
  ·exact KK hn (EN hr) hk
  ·exact ⟨Lx.kw (w:=[110,111,119]) (by decide) hr hk,tJ (w:=[110,111,119]) (by decide)⟩
  ·rcases ho with rfl | rfl
   ·exact WJ (m1 (.inl Z)) r ks hr hk
   ·obtain ⟨k1,_⟩:=WJ (m1 (.inr (.inr Z))) r ks hr hk;exact ⟨Lx.kw (w:=[115,105,122,101]) (by decide) iO (.sp k1),tJ (w:=[115,105,122,101]) (by decide)⟩
  ·obtain ⟨k1,k2⟩:=ih a (by simp) ha (m3 a (by simp)) (93::r) ((4,[93])::ks) HH (.sy (by decide) hr.hd hk);obtain ⟨k3,k4⟩:=WJ (m1 (.inr (.inl Z))) (91::(tmT a++93::r)) ((4,[91])::(tqT a++(4,[93])::ks)) DM (.sy (by decide) k2 k1);have e1:tmT (.mk 6 nm 0 [a])++r=nm++(91::(tmT a++93::r)):=by rw [vX];simp [VI]
   have e2:tqT (.mk 6 nm 0 [a])++ks=tqN nm++((4,[91])::(tqT a++(4,[93])::ks)):=by rw [aK8];simp [tqO,hdQ]
   rw [e1,e2];exact ⟨k3,k4⟩
  ·obtain ⟨k1,k2⟩:=xR (ih a (by simp) ha (m3 a (by simp))) (decide (tlv a.op<6)) r ks hr hk;exact ⟨.sy (c:=45) (by decide) k2 k1,fJ (by decide)⟩
  ·have ho2:op=11\/op=12\/op=13\/op=14\/op=15:=by simpa using ho
   obtain ⟨k1,_⟩:=xR (ih b (by simp) hb (m3 b (by simp))) (decide (tlv b.op<tlv op+1)) r ks hr hk;have k2:=aQ5 (op:=op) (by rcases ho2 with rfl | rfl | rfl | rfl | rfl <;> decide) k1;obtain ⟨k3,k4⟩:=xR (ih a (by simp) ha (m3 a (by simp))) (decide (tlv a.op<tlv op)) _ _ iO k2
   have e1:tmT (.mk op [] 0 [a,b])++r=yG (decide (tlv a.op<tlv op)) (tmT a)++([32]++(wZ op++([32]++(yG (decide (tlv b.op<tlv op+1)) (tmT b)++r)))):=by
    rw [tmb ho2 (by simp) (by simp)];simp only [bD];rfl
   have e2:tqT (.mk op [] 0 [a,b])++ks=prQ (decide (tlv a.op<tlv op)) (tqT a)++(4,wZ op)::(prQ (decide (tlv b.op<tlv op+1)) (tqT b)++ks):=by
    rw [aK8];rcases ho2 with rfl | rfl | rfl | rfl | rfl <;> simp [tqO,hdQ]
   rw [e1,e2];exact ⟨k3,k4⟩
def WL (n:Int):List Kt:=if n<0 then [(4,[45]),(3,Lib.decDigits n.natAbs)] else [(3,Lib.itoa n)]
theorem aQ6 {n:Int64} {k:List Kt} (hr:∀ d,r.head? = some d->iW d=false) (hk:Lx r k):Lx (Lib.itoa n.toInt++r) (WL n.toInt++k)/\hdB (Lib.itoa n.toInt++r):=by
 unfold WL
 by_cases h:n.toInt<0
 ·rw [aL h,Lib.itoa,aL h];have:=n.le_toInt;exact ⟨.sy (c:=45) (by decide) WG (.nd (by omega) hr hk),fJ (by decide)⟩
 ·rw [aF h];exact KK (by omega) hr hk
def AK (f:Fm):List Kt:=if !(cK f.op).wn || decide (f.b.toInt<0) then [] else [(4,[91]),(3,Lib.itoa f.a.toInt),(4,[44]),(3,Lib.itoa f.b.toInt),(4,[93])]
def IM (f:Fm):List Kt:=(1,f.nm)::(2,[105,110])::(WL f.a.toInt++(4,[46,46])::WL f.b.toInt)
def DH:List (List Kt)->List Kt
 | []=>[]
 | [x]=>x
 | x::r=>x++(4,[44])::DH r
def fqO (f:Fm) (l:List (UInt8 × List Kt)):List Kt :=
 if f.op=3 then tqT (ex0 (exH f))++(4,wZ (exH f).op)::tqT (ex1 (exH f))
 else if f.op=4 then [(1,f.nm),(4,[46]),(1,f.fd)]
 else if f.op=5 then (2,[104,97,115])::(1,f.nm)::(4,[46])::(1,f.fd)::(4,[91])::(tqT (exH f)++[(4,[93])])
 else if f.op=6 then [(2,[102,108,97,103]),(1,f.nm)]
 else if f.op=7 then (2,[97,114,114,105,118,101,115])::(1,f.nm)::(4,[46])::(1,f.fd)::(4,[40])::(DH (f.ex.map tqT)++[(4,[41])])
 else if f.op=8\/f.op=12\/f.op=13\/f.op=14 then (2,iB f.op)::(AK f++prQ (decide ((cK (hdQ l).1).lv<5)) (hdQ l).2)
 else if f.op=16\/f.op=17 then (2,iB f.op)::(IM f++prQ (decide ((cK (hdQ l).1).lv<5)) (hdQ l).2)
 else if f.op=18 then (2,iB f.op)::(IM f++(4,[40])::((hdQ l).2++(4,[41])::(4,[62,61])::tqT (exH f)))
 else if f.op=15\/f.op=9\/f.op=10\/f.op=11 then
  prQ (decide ((cK (hdQ l).1).lv<(cK f.op).lv)) (hdQ l).2++(2,iB f.op)::(AK f++prQ (decide ((cK (hdQ (l.drop 1)).1).lv<(cK f.op).lv+1)) (hdQ (l.drop 1)).2)
 else [(2,iB f.op)]
mutual
def tqF:Fm->List Kt
 | .mk op nm fd a b ex args=>fqO (.mk op nm fd a b ex args) (aZ4 args)
def aZ4:List Fm->List (UInt8 × List Kt)
 | []=>[]
 | f::r=>(f.op,tqF f)::aZ4 r
end
theorem RQ:∀ l,aZ4 l=l.map λf=>(f.op,tqF f)
 | []=>rfl
 | e::r=>by rw [aZ4,RQ r];rfl
variable {a:Int64}
theorem CR {op:UInt8} {nm fd:Str} {b:Int64} {ex:List Ex} {args:List Fm} :tqF (.mk op nm fd a b ex args)=fqO (.mk op nm fd a b ex args) (args.map λf=>(f.op,tqF f)):=by rw [tqF,RQ]
end Go.Proofs.YtidclioghdbphaaGreatDoor
