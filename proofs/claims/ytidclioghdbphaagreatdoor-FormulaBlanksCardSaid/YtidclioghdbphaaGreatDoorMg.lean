/- Texts of the proof, one behind the other. -/
import Derived.Test.YtidclioghdbphaaGreatDoorMf
set_option linter.all false
set_option maxRecDepth 100000
namespace Go.Proofs.YtidclioghdbphaaGreatDoor
open Go.RowKit Go.Par Go.Sx Tryz
theorem fld_sh0 (a b c d e f g:Value):∀ W,(Instr.field 157 (.agg [a,b,c,d,e,f,g].toArray) 0).run prg W=.ok a W:=λ_=>by kernel_rfl
variable {H:Hp} {w0 W:World} {bs AR:List Res} {tp:Option Addr} {tc:Nat} {ro rv:Value} {xo xv:List Value} {q:Rq}
set_option maxHeartbeats 1000000 in
theorem join_f {b:Nat} {l:Tks} {op:List Ov} {x:Vb} {dn:Bool} (K:Tkf H l tp tc) (Wq:Fwf l ⟨q,op,x,true,dn⟩) (S:Sq H ⟨q,op,x,true,dn⟩ xo xv AR) (G:Gf H) (h0:q.er=0) (hw:q.wrd l=true) (s:St H w0 (.box b [.slice tp l.length tc,iN q.i,ro,rv,.bool true,.bool dn,.bool x.2,iN q.off,iN q.er] 102::.row 97 11 (ro) (op.length) (xo)::.row 179 13 (rv) (x.1.length) (xv)::(AR++bs)) W) :
 Calls prg 101 #[.pointer (some ⟨b,0,none⟩)] W (Get w0 bs b l tp tc H (joiP l ⟨q,op,x,true,dn⟩)):=by
 have hq:q.i<l.length:=Wq.i;have hcap:=K.rep.cap;obtain ⟨hn1,hn2⟩:=wf_len Wq K.few;dsimp only at hn1 hn2;have hne:op≠[]:=Wq.ne;refine enterS func101 rfl ntmps101 rfl s ?_;obtain ⟨o,r,rfl⟩:=list1 (l:=op) (by cases op with | nil=>exact (hne rfl).elim | cons a t=>exact Nat.succ_pos _);dsimp only [List.length_cons] at hn1;obtain ⟨xr,s1,s2,e2,hlo,ho1,ho2⟩:=Ops.top S.ops;try dsimp only at e2
 subst e2;refine Sx.rowCase (size:=11) (r:=ro) (e:=97) mem1 (Nat.succ_pos _) λg c e hkc=>?_;subst e;refine .sq<|.sm Z<|.cs (X:=Unit) Fx.call105 Z (λW s=>top_f K hq (g:=g) (k:=r.length) (c:=c) (by omega) (s.pickT (hd:=[_,_,_]) (tl:=(AR++bs)) (hd':=[_,_,_]) [0,1,2] Z Z)) Z λ_ _=>.nC Z<|.fA Z Fx.field97_2<|.yw (.loadR1 Z Fx.agg4 mem1 (app_at hlo Z))<|.nt<|.cd Z (λh8=>?_) (λh8=>?_)
 ·refine .sm Z<|.cs (X:=Unit) Fx.call104 Z (λW s=>fail_f K hq 8 (s.pickT (hd:=[_,_,_]) (tl:=(AR++bs)) (hd':=[_,_,_]) [0,1,2] Z Z)) Z λ_ _=>.nt<|.rt<|.tR<|?_
  refine y7 Z .nil rfl λW s=>?_;have e0:joiP l (⟨q,o::r,x,true,dn⟩:Ps)=(⟨q,o::r,x,true,dn⟩:Ps).at (q.fail l 8):=by unfold joiP;rw [Al_if_pos (show (topO (⟨q,o::r,x,true,dn⟩:Ps)).tm=true from h8)]
  rw [e0];exact ⟨(_,_,_,_,_,AR),⟨.refl,⟨S.ops,S.vls⟩⟩,Z,s.pickT (hd:=[_,_,_]) (tl:=(AR++bs)) (hd':=[_,_,_]) [0,1,2] rfl rfl⟩
 refine .sk<|.tN<|.sr<|.al Fx.zero35 Z λb2=>.nt<|.sq<|.bk<|.sm Z<|.cs (X:=Unit) Fx.call107 Z (λW s=>accept_f K hq [115,105,110,99,101] (s.pickT (hd:=[_,_,_,_]) (tl:=(AR++bs)) (hd':=[_,_,_,_]) [1,0,2,3] Z Z)) Z λ_ _=>.aq Z<|.cd Z (λh11=>?_) (λh11=>?_)
 ·have a11:Rq.ac l [115,105,110,99,101] q=true:=h11;rw [acF_T a11];refine .rg<|.mv Z<|.cs (X:=Unit) Fx.call154 Z (λW s=>window_f K (wi_ac K.gd.last hq a11) 15 (s.pickT (hd:=[_,_,_,_]) (tl:=(AR++bs)) (hd':=[_,_,_,_]) [0,1,2,3] Z Z)) Z λ_ _=>.sX upd1 Z Z Fx.size35 Z<|.nl<|.bN<|.tN<|.sr<|.fA Z Fx.field35_0<|.lD Z Fx.agg31 mem1 Z<|.yw (.call (v:=.agg (fsC (fsOf 15)).toArray) Fx.call74 Z λW s=>fshape_any H G 15 W s.agr)<|.yw (.fld Z (fld_sh0 _ _ _ _ _ _ _))<|.yw (.conv Z Fx.int5 Fx.int3 (c:=((4:Nat):Int)) (by decide +kernel))<|?_
  have Wj:Fwf l ⟨(Rq.wiS l q.nx),o::r,x,true,dn⟩:=wf_at (q:=⟨q,o::r,x,true,dn⟩) (c:=(Rq.wiS l q.nx)) Wq (wi_wi K.gd.last (wi_ac K.gd.last hq a11)) (Al_Nat_le_trans (Nat.le_succ _) (Mq.wiS (q:=q.nx)).i);refine .a Z Z<|.ns<|.mv Z<|.mv Z<|.cs (X:=Hp × Value × Value × List Value × List Value × List Res) Fx.call102 Z (λW s=>reduce_f K Wj S.at 4 (by omega) (St.mid (a:=[_,_,_]) (d:=[_]) (s.pickT (hd:=[_,_,_,_]) (tl:=(AR++bs)) (hd':=[_,_,_,_]) [0,2,3,1] Z Z))) Z λz9 hz9=>?_
  obtain ⟨H1,ro,rv,xo,xv,AR⟩:=z9;obtain ⟨u1,S⟩:=hz9;dsimp only at u1 S|-;refine Sx.reSt (λW s=>St.mid (a:=[_,_,_]) (d:=AR) (c:=[_]) s) ?_;obtain ⟨op7,x7,e7⟩:∃ op7 x7,redP 4 (⟨(Rq.wiS l q.nx),o::r,x,true,dn⟩:Ps)=⟨(Rq.wiS l q.nx),op7,x7,true,dn⟩:=⟨_,_,Z⟩;rw [e7] at S|-;dsimp only at S|-;have W7:Fwf l ⟨(Rq.wiS l q.nx),op7,x7,true,dn⟩:=by rw [<-e7];exact wf_red (by omega) Wj rfl
  obtain ⟨hm1,hm2⟩:=wf_len W7 K.few;dsimp only at hm1 hm2;have hne7:op7≠[]:=W7.ne;refine .nt<|.rg<|.mv Z<|.mv Z<|.yw (.loadW Z Fx.agg35 mem3 Z)<|.yw (.build Z (Fx.bld97_0_1_4 _ _ _ _ _ _ _ _ _))<|.cs (X:=Option Addr × Nat) Fx.call109 Z (λW s=>push_f (K.up u1.up) (wi_wi K.gd.last (wi_ac K.gd.last hq a11)) (by simp [Value.oneCell',strV]) (Al_Nat_le_trans hm1 (by decide)) (λ_=>S.ops.tm hne7) (s.pickT (hd:=[_,_,_,_]) (tl:=(AR++bs)) (hd':=[_,_,_,_]) [0,1,2,3] Z Z)) Z λp9 _=>.nl<|?_
  refine retN (.inr Z) rfl .nil rfl λW s=>?_
  have e0:joiP l (⟨q,o::r,x,true,dn⟩:Ps)=pushS ⟨6,4,false,0,q.jnF l 4⟩ (⟨(Rq.wiS l q.nx),op7,x7,true,dn⟩:Ps):=by
   obtain ⟨j1,j2,j3,_,_⟩:=jn_lv (l:=l) (r:=q) (k:=4) (by decide) a11;unfold joiP;rw [Al_if_neg (show ¬ (topO (⟨q,o::r,x,true,dn⟩:Ps)).tm=true by rw [show (topO (⟨q,o::r,x,true,dn⟩:Ps)).tm=false from h8];decide),j1,j2,j3,<-e7]
   rfl
  rw [e0];exact ⟨(_,_,_,_,_,AR),⟨u1,⟨.cons S.ops (by show ¬ (6:UInt8)=5;decide) (FmR.zero rfl rfl (Al_Nat_zero_le _) (Al_Nat_zero_le _)),S.vls⟩⟩,Z,s.pickT (hd:=[_,_,_,_]) (tl:=(AR++bs)) (hd':=[_,_,_]) [0,1,2] rfl rfl⟩
 have a11:Rq.ac l [115,105,110,99,101] q=false:=h11;rw [acF_F a11];refine .sm Z<|.cs (X:=Unit) Fx.call107 Z (λW s=>accept_f K hq [97,110,100] (s.pickT (hd:=[_,_,_,_]) (tl:=(AR++bs)) (hd':=[_,_,_,_]) [0,1,2,3] Z Z)) Z λ_ _=>.aq Z<|.cd Z (λh16=>?_) (λh16=>?_)
 ·have a16:Rq.ac l [97,110,100] q=true:=h16;rw [acF_T a16];refine .rg<|.yw (.build Z (Fx.bld35_0 _))<|.sX upd1 Z Z Fx.size35 Z<|.nl<|.bN<|.tN<|.sr<|.fA Z Fx.field35_0<|.lD Z Fx.agg31 mem1 Z<|.yw (.call (v:=.agg (fsC (fsOf 9)).toArray) Fx.call74 Z λW s=>fshape_any H G 9 W s.agr)<|.yw (.fld Z (fld_sh0 _ _ _ _ _ _ _))<|.yw (.conv Z Fx.int5 Fx.int3 (c:=((3:Nat):Int)) (by decide +kernel))<|?_
  have Wj:Fwf l ⟨q.nx,o::r,x,true,dn⟩:=wf_at (q:=⟨q,o::r,x,true,dn⟩) (c:=q.nx) Wq (wi_ac K.gd.last hq a16) (Nat.le_succ _);refine .a Z Z<|.ns<|.mv Z<|.mv Z<|.cs (X:=Hp × Value × Value × List Value × List Value × List Res) Fx.call102 Z (λW s=>reduce_f K Wj S.at 3 (by omega) (St.mid (a:=[_,_,_]) (d:=[_]) (s.pickT (hd:=[_,_,_,_]) (tl:=(AR++bs)) (hd':=[_,_,_,_]) [0,2,3,1] Z Z))) Z λz9 hz9=>?_
  obtain ⟨H1,ro,rv,xo,xv,AR⟩:=z9;obtain ⟨u1,S⟩:=hz9;dsimp only at u1 S|-;refine Sx.reSt (λW s=>St.mid (a:=[_,_,_]) (d:=AR) (c:=[_]) s) ?_;obtain ⟨op7,x7,e7⟩:∃ op7 x7,redP 3 (⟨q.nx,o::r,x,true,dn⟩:Ps)=⟨q.nx,op7,x7,true,dn⟩:=⟨_,_,Z⟩;rw [e7] at S|-;dsimp only at S|-;have W7:Fwf l ⟨q.nx,op7,x7,true,dn⟩:=by rw [<-e7];exact wf_red (by omega) Wj rfl
  obtain ⟨hm1,hm2⟩:=wf_len W7 K.few;dsimp only at hm1 hm2;have hne7:op7≠[]:=W7.ne;refine .nt<|.rg<|.mv Z<|.mv Z<|.yw (.loadW Z Fx.agg35 mem3 Z)<|.yw (.build Z (Fx.bld97_0_1_4 _ _ _ _ _ _ _ _ _))<|.cs (X:=Option Addr × Nat) Fx.call109 Z (λW s=>push_f (K.up u1.up) (wi_ac K.gd.last hq a16) (by simp [Value.oneCell',strV]) (Al_Nat_le_trans hm1 (by decide)) (λ_=>S.ops.tm hne7) (s.pickT (hd:=[_,_,_,_]) (tl:=(AR++bs)) (hd':=[_,_,_,_]) [0,1,2,3] Z Z)) Z λp9 _=>.nl<|?_
  refine retN (.inr Z) rfl .nil rfl λW s=>?_
  have e0:joiP l (⟨q,o::r,x,true,dn⟩:Ps)=pushS ⟨6,3,false,0,q.jnF l 3⟩ (⟨q.nx,op7,x7,true,dn⟩:Ps):=by
   obtain ⟨j1,j2,j3,_,_⟩:=jn_lv (l:=l) (r:=q) (k:=3) (by decide) a16;unfold joiP;rw [Al_if_neg (show ¬ (topO (⟨q,o::r,x,true,dn⟩:Ps)).tm=true by rw [show (topO (⟨q,o::r,x,true,dn⟩:Ps)).tm=false from h8];decide),j1,j2,j3,<-e7]
   rfl
  rw [e0];exact ⟨(_,_,_,_,_,AR),⟨u1,⟨.cons S.ops (by show ¬ (6:UInt8)=5;decide) (FmR.zero rfl rfl (Al_Nat_zero_le _) (Al_Nat_zero_le _)),S.vls⟩⟩,Z,s.pickT (hd:=[_,_,_,_]) (tl:=(AR++bs)) (hd':=[_,_,_]) [0,1,2] rfl rfl⟩
 have a16:Rq.ac l [97,110,100] q=false:=h16;rw [acF_F a16];refine .sm Z<|.cs (X:=Unit) Fx.call107 Z (λW s=>accept_f K hq [111,114] (s.pickT (hd:=[_,_,_,_]) (tl:=(AR++bs)) (hd':=[_,_,_,_]) [0,1,2,3] Z Z)) Z λ_ _=>.aq Z<|.cd Z (λh20=>?_) (λh20=>?_)
 ·have a20:Rq.ac l [111,114] q=true:=h20;rw [acF_T a20];refine .rg<|.yw (.build Z (Fx.bld35_0 _))<|.sX upd1 Z Z Fx.size35 Z<|.nl<|.bN<|.tN<|.sr<|.fA Z Fx.field35_0<|.lD Z Fx.agg31 mem1 Z<|.yw (.call (v:=.agg (fsC (fsOf 10)).toArray) Fx.call74 Z λW s=>fshape_any H G 10 W s.agr)<|.yw (.fld Z (fld_sh0 _ _ _ _ _ _ _))<|.yw (.conv Z Fx.int5 Fx.int3 (c:=((2:Nat):Int)) (by decide +kernel))<|?_
  have Wj:Fwf l ⟨q.nx,o::r,x,true,dn⟩:=wf_at (q:=⟨q,o::r,x,true,dn⟩) (c:=q.nx) Wq (wi_ac K.gd.last hq a20) (Nat.le_succ _);refine .a Z Z<|.ns<|.mv Z<|.mv Z<|.cs (X:=Hp × Value × Value × List Value × List Value × List Res) Fx.call102 Z (λW s=>reduce_f K Wj S.at 2 (by omega) (St.mid (a:=[_,_,_]) (d:=[_]) (s.pickT (hd:=[_,_,_,_]) (tl:=(AR++bs)) (hd':=[_,_,_,_]) [0,2,3,1] Z Z))) Z λz9 hz9=>?_
  obtain ⟨H1,ro,rv,xo,xv,AR⟩:=z9;obtain ⟨u1,S⟩:=hz9;dsimp only at u1 S|-;refine Sx.reSt (λW s=>St.mid (a:=[_,_,_]) (d:=AR) (c:=[_]) s) ?_;obtain ⟨op7,x7,e7⟩:∃ op7 x7,redP 2 (⟨q.nx,o::r,x,true,dn⟩:Ps)=⟨q.nx,op7,x7,true,dn⟩:=⟨_,_,Z⟩;rw [e7] at S|-;dsimp only at S|-;have W7:Fwf l ⟨q.nx,op7,x7,true,dn⟩:=by rw [<-e7];exact wf_red (by omega) Wj rfl
  obtain ⟨hm1,hm2⟩:=wf_len W7 K.few;dsimp only at hm1 hm2;have hne7:op7≠[]:=W7.ne;refine .nt<|.rg<|.mv Z<|.mv Z<|.yw (.loadW Z Fx.agg35 mem3 Z)<|.yw (.build Z (Fx.bld97_0_1_4 _ _ _ _ _ _ _ _ _))<|.cs (X:=Option Addr × Nat) Fx.call109 Z (λW s=>push_f (K.up u1.up) (wi_ac K.gd.last hq a20) (by simp [Value.oneCell',strV]) (Al_Nat_le_trans hm1 (by decide)) (λ_=>S.ops.tm hne7) (s.pickT (hd:=[_,_,_,_]) (tl:=(AR++bs)) (hd':=[_,_,_,_]) [0,1,2,3] Z Z)) Z λp9 _=>.nl<|?_
  refine retN (.inr Z) rfl .nil rfl λW s=>?_
  have e0:joiP l (⟨q,o::r,x,true,dn⟩:Ps)=pushS ⟨6,2,false,0,q.jnF l 2⟩ (⟨q.nx,op7,x7,true,dn⟩:Ps):=by
   obtain ⟨j1,j2,j3,_,_⟩:=jn_lv (l:=l) (r:=q) (k:=2) (by decide) a20;unfold joiP;rw [Al_if_neg (show ¬ (topO (⟨q,o::r,x,true,dn⟩:Ps)).tm=true by rw [show (topO (⟨q,o::r,x,true,dn⟩:Ps)).tm=false from h8];decide),j1,j2,j3,<-e7]
   rfl
  rw [e0];exact ⟨(_,_,_,_,_,AR),⟨u1,⟨.cons S.ops (by show ¬ (6:UInt8)=5;decide) (FmR.zero rfl rfl (Al_Nat_zero_le _) (Al_Nat_zero_le _)),S.vls⟩⟩,Z,s.pickT (hd:=[_,_,_,_]) (tl:=(AR++bs)) (hd':=[_,_,_]) [0,1,2] rfl rfl⟩
 have a20:Rq.ac l [111,114] q=false:=h20;rw [acF_F a20];refine .sm Z<|.cs (X:=Unit) Fx.call107 Z (λW s=>accept_f K hq [105,109,112,108,105,101,115] (s.pickT (hd:=[_,_,_,_]) (tl:=(AR++bs)) (hd':=[_,_,_,_]) [0,1,2,3] Z Z)) Z λ_ _=>.aq Z<|.cd Z (λh24=>?_) (λh24=>?_)
 ·have a24:Rq.ac l [105,109,112,108,105,101,115] q=true:=h24;rw [acF_T a24];refine .rg<|.yw (.build Z (Fx.bld35_0 _))<|.sX upd1 Z Z Fx.size35 Z<|.nl<|.bN<|.tN<|.sr<|.fA Z Fx.field35_0<|.lD Z Fx.agg31 mem1 Z<|.yw (.call (v:=.agg (fsC (fsOf 11)).toArray) Fx.call74 Z λW s=>fshape_any H G 11 W s.agr)<|.yw (.fld Z (fld_sh0 _ _ _ _ _ _ _))<|.yw (.conv Z Fx.int5 Fx.int3 (c:=((1:Nat):Int)) (by decide +kernel))<|?_
  have Wj:Fwf l ⟨q.nx,o::r,x,true,dn⟩:=wf_at (q:=⟨q,o::r,x,true,dn⟩) (c:=q.nx) Wq (wi_ac K.gd.last hq a24) (Nat.le_succ _);refine .a Z Z<|.ns<|.mv Z<|.mv Z<|.cs (X:=Hp × Value × Value × List Value × List Value × List Res) Fx.call102 Z (λW s=>reduce_f K Wj S.at 1 (by omega) (St.mid (a:=[_,_,_]) (d:=[_]) (s.pickT (hd:=[_,_,_,_]) (tl:=(AR++bs)) (hd':=[_,_,_,_]) [0,2,3,1] Z Z))) Z λz9 hz9=>?_
  obtain ⟨H1,ro,rv,xo,xv,AR⟩:=z9;obtain ⟨u1,S⟩:=hz9;dsimp only at u1 S|-;refine Sx.reSt (λW s=>St.mid (a:=[_,_,_]) (d:=AR) (c:=[_]) s) ?_;obtain ⟨op7,x7,e7⟩:∃ op7 x7,redP 1 (⟨q.nx,o::r,x,true,dn⟩:Ps)=⟨q.nx,op7,x7,true,dn⟩:=⟨_,_,Z⟩;rw [e7] at S|-;dsimp only at S|-;have W7:Fwf l ⟨q.nx,op7,x7,true,dn⟩:=by rw [<-e7];exact wf_red (by omega) Wj rfl
  obtain ⟨hm1,hm2⟩:=wf_len W7 K.few;dsimp only at hm1 hm2;have hne7:op7≠[]:=W7.ne;refine .nt<|.rg<|.mv Z<|.mv Z<|.yw (.loadW Z Fx.agg35 mem3 Z)<|.yw (.build Z (Fx.bld97_0_1_4 _ _ _ _ _ _ _ _ _))<|.cs (X:=Option Addr × Nat) Fx.call109 Z (λW s=>push_f (K.up u1.up) (wi_ac K.gd.last hq a24) (by simp [Value.oneCell',strV]) (Al_Nat_le_trans hm1 (by decide)) (λ_=>S.ops.tm hne7) (s.pickT (hd:=[_,_,_,_]) (tl:=(AR++bs)) (hd':=[_,_,_,_]) [0,1,2,3] Z Z)) Z λp9 _=>.nl<|?_
  refine retN (.inr Z) rfl .nil rfl λW s=>?_
  have e0:joiP l (⟨q,o::r,x,true,dn⟩:Ps)=pushS ⟨6,1,false,0,q.jnF l 1⟩ (⟨q.nx,op7,x7,true,dn⟩:Ps):=by
   obtain ⟨j1,j2,j3,_,_⟩:=jn_lv (l:=l) (r:=q) (k:=1) (by decide) a24;unfold joiP;rw [Al_if_neg (show ¬ (topO (⟨q,o::r,x,true,dn⟩:Ps)).tm=true by rw [show (topO (⟨q,o::r,x,true,dn⟩:Ps)).tm=false from h8];decide),j1,j2,j3,<-e7]
   rfl
  rw [e0];exact ⟨(_,_,_,_,_,AR),⟨u1,⟨.cons S.ops (by show ¬ (6:UInt8)=5;decide) (FmR.zero rfl rfl (Al_Nat_zero_le _) (Al_Nat_zero_le _)),S.vls⟩⟩,Z,s.pickT (hd:=[_,_,_,_]) (tl:=(AR++bs)) (hd':=[_,_,_]) [0,1,2] rfl rfl⟩
 have a24:Rq.ac l [105,109,112,108,105,101,115] q=false:=h24;exact absurd hw (by unfold Rq.wrd;rw [is_ac0 h0,is_ac0 h0,is_ac0 h0,is_ac0 h0,a11,a16,a20,a24];decide)
variable {xr:List Value} {n j:Nat}
theorem app_at4 {cs:List Value} {u:Value} (hl:xr.length=n) (h:cs[4+j]? = some u):(xr++cs)[n+4+j]? = some u:=by rw [Al_Nat_add_assoc];exact app_at hl h
variable {s1 s2:Value}
theorem Ops.inv5 {o:Ov} {r:List Ov} (h:Ops H (o::r) (xr++oC o s1 s2) AR) (hk:o.kd=5):∃ AR1 xe,AR=.row 76 4 s1 o.f.ex.length xe::AR1/\Ops H r xr AR1/\s2=.slice none 0 0/\RepZ H 4 (o.f.ex.map (dEx .u8)) xe/\o.f.args=[]/\o.f.nm.length<=1000000/\o.f.fd.length<=1000000:=by
 generalize hx:xr++oC o s1 s2=xo at h;cases h with
 | cons h k f=>exact absurd hk k
 | arg h k a b c z s =>
  obtain ⟨e1,e2⟩:=List.append_inj' hx rfl;subst e1;simp only [Al_List_cons_injEq,Al_and_true,true_and] at e2;obtain ⟨rfl,rfl⟩:=e2;exact ⟨_,_,Z,h,Z,z,a,b,c⟩
theorem zx_rep (H:Hp):Rep H (dEx .u8 zE) [.int .u8 0,.string ⟨#[]⟩,.int .i64 0,.slice none 0 0]:=ex_shut (op:=0) (nm:=[]) (n:=0) (args:=[]) (by decide) (Rep.empty (p:=none) (c:=0) (by decide))
variable {z k:Nat} {xs news:List Value}
theorem row_put {ds:List D} {d0 d:D} {vs:List Value} (hz:RepZ H z ds xs) (hn:RepZ H z [d0] news) (hd:Rep H d vs) (hl:vs.length=z) (hk:ds.length=k):RepZ H z (ds++[d]) (setsL (xs++news) (k * z) vs):=by
 subst hk;have h:=RepZ.put hd hl (hz.app hn) (i:=ds.length) (by simp)
 rwa [Al_List_set_append_right _ _ (Al_Nat_le_refl _),Al_Nat_sub_self,Al_List_set_cons_zero] at h
set_option maxHeartbeats 4000000 in
theorem closing_f {b:Nat} {l:Tks} {op:List Ov} {x:Vb} {dn:Bool} (K:Tkf H l tp tc) (Wq:Fwf l ⟨q,op,x,true,dn⟩) (S:Sq H ⟨q,op,x,true,dn⟩ xo xv AR) (hfew:∀ o∈op,o.f.ex.length<=600000) (s:St H w0 (.box b [.slice tp l.length tc,iN q.i,ro,rv,.bool true,.bool dn,.bool x.2,iN q.off,iN q.er] 102::.row 97 11 (ro) (op.length) (xo)::.row 179 13 (rv) (x.1.length) (xv)::(AR++bs)) W) :
 Calls prg 103 #[.pointer (some ⟨b,0,none⟩)] W (Get w0 bs b l tp tc H (clgP l ⟨q,op,x,true,dn⟩)):=by
 have hq:q.i<l.length:=Wq.i;have hcap:=K.rep.cap;obtain ⟨hn1,hn2⟩:=wf_len Wq K.few;dsimp only at hn1 hn2;have hne:op≠[]:=Wq.ne;obtain ⟨o,r,rfl⟩:=list1 (l:=op) (by cases op with | nil=>exact (hne rfl).elim | cons a t=>exact Nat.succ_pos _);dsimp only [List.length_cons] at hn1;have hfx:=hfew o (Al_List_mem_cons_self ..);have hv1:1<=x.1.length:=by have:=Wq.vs;dsimp only at this;rw [this];exact Nat.le_add_left _ _
 obtain ⟨vs,bd⟩:=x;dsimp only at hv1 hn2;obtain ⟨v,V,rfl⟩:=list1 hv1;dsimp only [List.length_cons] at hn2;obtain ⟨yr,t0,t1,t2,e4,VS1,V1⟩:=VR.inv S.vls;try dsimp only at e4
 subst e4;have l1:=VS1.len;refine enterS func103 rfl ntmps103 rfl s ?_;obtain ⟨xr,s1,s2,e2,hlo,ho1,ho2⟩:=Ops.top S.ops;try dsimp only at e2
 subst e2;refine Sx.rowCase (size:=11) (r:=ro) (e:=97) mem1 (Nat.succ_pos _) λg c e hkc=>?_;subst e;refine .sm Z<|.cs (X:=Unit) Fx.call105 Z (λW s=>top_f K hq (g:=g) (k:=r.length) (c:=c) (by omega) (s.pickT (hd:=[_,_,_]) (tl:=(AR++bs)) (hd':=[_,_,_]) [0,1,2] Z Z)) Z λ_ _=>.aq Z<|.bk<|.cu (X:=Bool) [(0,_),(2,_)] ⟨Z,Z,Jt⟩ (λz=>[(9,.bool z)]) (λz=>H) (λz=>(.box b [.slice tp l.length tc,iN q.i,(.slice (some ⟨g,0,none⟩) (o::r).length c),rv,.bool true,.bool dn,.bool bd,iN q.off,iN q.er] 102::.row 97 11 ((.slice (some ⟨g,0,none⟩) (o::r).length c)) ((o::r).length) ((xr++oC o s1 s2))::.row 179 13 (rv) (V.length+1) ((yr++vC v t0 t1 t2))::(AR++bs))) (λz=>z=(decide (o.kd=1) && decide ((tkf l q.i).k=0))) ?_ λz hC=>?_
 ·
  refine .rg<|.mv Z<|.nC Z<|.fA Z Fx.field97_0<|.yw (.loadR1 Z Fx.agg95 mem1 (app_at hlo Z))<|.yw (.eql Z Z)<|.mv Z<|.b2 (λh15=>?_) (λh15=>?_)
  ·have hg:o.kd=1:=Al_UInt8_toNat_inj.1 (by have:=Al_of_decide_eq_true h15;show o.kd.toNat=1;omega);exact .gy (.move Z)<|.gd Z Z<|.cs (X:=Unit) Fx.call98 Z (λW s=>token_f K hq  (s.pickT (hd:=[_,_,_]) (tl:=(AR++bs)) (hd':=[_,_,_]) [0,1,2] Z Z)) Z λ_ _=>.gy (.fld Z (fld_f0 _ _ _))<|.gy (.eql Z Z)<|.yw (.pickT Z Z)<|.aq Z<|.me _ ⟨Z,Jt⟩ ⟨Z,Z,Jt⟩ (λ_ s=>s) (by first | (rw [Al_decide_eq_true hg,Al_Bool_true_and];exact k80) | (rw [Al_decide_eq_false hg];rfl))
  have hg:¬ o.kd=1:=λe=>Al_of_decide_eq_false h15 (by rw [e];rfl);exact .gG<|.gG<|.gG<|.gG<|.yw (.pickF Z Z)<|.aq Z<|.me _ ⟨Z,Jt⟩ ⟨Z,Z,Jt⟩ (λ_ s=>s) (by first | (rw [Al_decide_eq_true hg,Al_Bool_true_and];exact k80) | (rw [Al_decide_eq_false hg];rfl))
 have e9:=hC;refine .cd Z (λh9=>?_) (λh9=>?_)
 ·rw [h9] at e9;have y9:=Al_Bool_and_eq_true _ _ |>.mp e9.symm
  refine .rg<|.mv Z<|.nC Z<|.fA Z Fx.field102_5<|.st .head Z Z Fx.size4 Z (nb Z) Z<|.nl<|.bN<|?_
  refine retN (.inr Z) rfl .nil rfl λW s=>?_;have e0:clgP l (⟨q,o::r,(v::V,bd),true,dn⟩:Ps)=⟨q,o::r,(v::V,bd),true,true⟩:=by unfold clgP;exact Al_if_pos ⟨Al_of_decide_eq_true y9.1,Al_of_decide_eq_true y9.2⟩
  rw [e0];exact ⟨(_,_,_,_,_,AR),⟨.refl,⟨S.ops,S.vls⟩⟩,Z,s.pickT (hd:=[_,_,_]) (tl:=(AR++bs)) (hd':=[_,_,_]) [0,1,2] rfl rfl⟩
 rw [h9] at e9;refine .cu (X:=Bool) [(0,_),(2,_)] ⟨Z,Z,Jt⟩ (λz=>[(24,.bool z)]) (λz=>H) (λz=>(.box b [.slice tp l.length tc,iN ((if z then Rq.nx q else q).i),(.slice (some ⟨g,0,none⟩) (o::r).length c),rv,.bool true,.bool dn,.bool bd,iN ((if z then Rq.nx q else q).off),iN ((if z then Rq.nx q else q).er)] 102::.row 97 11 ((.slice (some ⟨g,0,none⟩) (o::r).length c)) ((o::r).length) ((xr++oC o s1 s2))::.row 179 13 (rv) (V.length+1) ((yr++vC v t0 t1 t2))::(AR++bs))) (λz=>z=(decide (o.kd=2) && Rq.ac l [41] q)) ?_ λz hC=>?_
 ·
  refine .rg<|.mv Z<|.nC Z<|.fA Z Fx.field97_0<|.yw (.loadR1 Z Fx.agg95 mem1 (app_at hlo Z))<|.yw (.eql Z Z)<|.mv Z<|.b2 (λh30=>?_) (λh30=>?_)
  ·have hg:o.kd=2:=Al_UInt8_toNat_inj.1 (by have:=Al_of_decide_eq_true h30;show o.kd.toNat=2;omega);exact .gy (.move Z)<|.gd Z Z<|.cs (X:=Unit) Fx.call107 Z (λW s=>accept_f K hq [41] (s.pickT (hd:=[_,_,_]) (tl:=(AR++bs)) (hd':=[_,_,_]) [0,1,2] Z Z)) Z λ_ _=>.yw (.pickT Z Z)<|.aq Z<|.me _ ⟨Z,Jt⟩ ⟨Z,Z,Jt⟩ (λ_ s=>s) (by first | rw [Al_decide_eq_true hg,Al_Bool_true_and] | (rw [Al_decide_eq_false hg];rfl))
  have hg:¬ o.kd=2:=λe=>Al_of_decide_eq_false h30 (by rw [e];rfl);exact .gG<|.gG<|.yw (.pickF Z Z)<|.aq Z<|.me _ ⟨Z,Jt⟩ ⟨Z,Z,Jt⟩ (λ_ s=>s) (by first | rw [Al_decide_eq_true hg,Al_Bool_true_and] | (rw [Al_decide_eq_false hg];rfl))
 have e24:=hC;refine .cd Z (λh24=>?_) (λh24=>?_)
 ·rw [h24] at e24;have y24:=Al_Bool_and_eq_true _ _ |>.mp e24.symm
  have hk:o.kd=2:=Al_of_decide_eq_true y24.1;rw [Al_if_pos h24];have hk5:o.kd≠5:=by rw [hk];decide
  obtain ⟨SO,FO⟩:=Ops.inv2 S.ops hk5;refine .sm Z<|.cs (X:=Nat × Nat) Fx.call116 Z (λW s=>pop_f K (wi_ac K.gd.last hq y24.2) V1.one (by omega) l1 (s.pickT (hd:=[_,_,_]) (tl:=(AR++bs)) (hd':=[_,_,_]) [0,2,1] Z Z)) Z λp1 _=>.al Fx.zero179 Z λb3=>.sW .head Z Z Fx.size179 V1.one Z<|.ns<|.fA Z Fx.field179_1<|.st .head Z Z Fx.size4 Z (nb Z) Z<|.nt<|.rg<|.mv Z<|.yw (.loadW Z Fx.agg179 Hm Z)<|.cs (X:=(Nat × Nat) × (Option Addr × Nat)) Fx.call156 Z (λW s=>close_f K (wi_ac K.gd.last hq y24.2) (VlR.one (v:=(⟨v.tm,false,v.e,v.f⟩:Vl)) ⟨V1.e,V1.f⟩) (by omega) (by omega) hlo (s.pickT (hd:=[_,_,_,_]) (tl:=(AR++bs)) (hd':=[_,_,_,_]) [1,3,2,0] Z Z)) Z λp9 _=>.nl<|.bN<|?_
  refine retN (.inr Z) rfl .nil rfl λW s=>?_;have e0:clgP l (⟨q,o::r,(v::V,bd),true,dn⟩:Ps)=⟨q.nx,r,((⟨v.tm,false,v.e,v.f⟩:Vl)::V,bd),true,dn⟩:=clg_par rfl hk y24.2;rw [e0];exact ⟨(_,_,_,_,_,AR),⟨.refl,⟨SO,.cons VS1 (v:=(⟨v.tm,false,v.e,v.f⟩:Vl)) ⟨V1.e,V1.f⟩⟩⟩,Z,s.pickT (hd:=[_,_,_,_]) (tl:=(AR++bs)) (hd':=[_,_,_]) [0,1,2] rfl rfl⟩
 rw [h24] at e24;rw [Al_if_neg (by rw [h24];decide)];refine .cu (X:=Bool) [(0,_),(2,_)] ⟨Z,Z,Jt⟩ (λz=>[(40,.bool z)]) (λz=>H) (λz=>(.box b [.slice tp l.length tc,iN ((if z then Rq.nx q else q).i),(.slice (some ⟨g,0,none⟩) (o::r).length c),rv,.bool true,.bool dn,.bool bd,iN ((if z then Rq.nx q else q).off),iN ((if z then Rq.nx q else q).er)] 102::.row 97 11 ((.slice (some ⟨g,0,none⟩) (o::r).length c)) ((o::r).length) ((xr++oC o s1 s2))::.row 179 13 (rv) (V.length+1) ((yr++vC v t0 t1 t2))::(AR++bs))) (λz=>z=(decide (o.kd=3) && Rq.ac l [41] q)) ?_ λz hC=>?_
 ·
  refine .rg<|.mv Z<|.nC Z<|.fA Z Fx.field97_0<|.yw (.loadR1 Z Fx.agg95 mem1 (app_at hlo Z))<|.yw (.eql Z Z)<|.mv Z<|.b2 (λh46=>?_) (λh46=>?_)
  ·have hg:o.kd=3:=Al_UInt8_toNat_inj.1 (by have:=Al_of_decide_eq_true h46;show o.kd.toNat=3;omega);exact .gy (.move Z)<|.gd Z Z<|.cs (X:=Unit) Fx.call107 Z (λW s=>accept_f K hq [41] (s.pickT (hd:=[_,_,_]) (tl:=(AR++bs)) (hd':=[_,_,_]) [0,1,2] Z Z)) Z λ_ _=>.yw (.pickT Z Z)<|.aq Z<|.me _ ⟨Z,Jt⟩ ⟨Z,Z,Jt⟩ (λ_ s=>s) (by first | rw [Al_decide_eq_true hg,Al_Bool_true_and] | (rw [Al_decide_eq_false hg];rfl))
  have hg:¬ o.kd=3:=λe=>Al_of_decide_eq_false h46 (by rw [e];rfl);exact .gG<|.gG<|.yw (.pickF Z Z)<|.aq Z<|.me _ ⟨Z,Jt⟩ ⟨Z,Z,Jt⟩ (λ_ s=>s) (by first | rw [Al_decide_eq_true hg,Al_Bool_true_and] | (rw [Al_decide_eq_false hg];rfl))
 have e40:=hC;refine .cd Z (λh40=>?_) (λh40=>?_)
 ·rw [h40] at e40;have y40:=Al_Bool_and_eq_true _ _ |>.mp e40.symm
  have hk:o.kd=3:=Al_of_decide_eq_true y40.1;rw [Al_if_pos h40];have hk5:o.kd≠5:=by rw [hk];decide
  obtain ⟨SO,FO⟩:=Ops.inv2 S.ops hk5;refine .sm Z<|.cs (X:=Unit) Fx.call114 Z (λW s=>expect_f K (wi_ac K.gd.last hq y40.2) [62,61] (s.pickT (hd:=[_,_,_]) (tl:=(AR++bs)) (hd':=[_,_,_]) [0,1,2] Z Z)) Z λ_ _=>.ns<|.mv Z<|.mv Z<|.cs (X:=Unit) Fx.call110 Z (λW s=>number_f K (wi_ex K.gd.last (wi_ac K.gd.last hq y40.2))  (s.pickT (hd:=[_,_,_]) (tl:=(AR++bs)) (hd':=[_,_,_]) [0,1,2] Z Z)) Z λ_ _=>.yw (.build Z (Fx.bld76_0_2 _ _))<|.bl Z (Fx.bsl32_1 _ _ _ _) Z λb56=>?_
  refine Sx.freezeBoxN λH2 u2 m2=>?_;refine .nC Z<|.fA Z Fx.field97_4<|.fA Z Fx.field35_5<|.s1Q (set_row (n:=r.length * 11) (j:=9) (cs':=oC o (.slice (some ⟨b56,0,none⟩) 1 1) s2) hlo Z) Z Z Fx.size32 Z upd1 (by rw [Al_List_length_append,hlo];show r.length * 11+9<r.length * 11+11;omega)<|.ns<|.mv Z<|.mv Z<|.cs (X:=Nat × Nat) Fx.call57 Z (λW s=>formula_f (K.up u2.up) (wi_nb K.gd.last (wi_ex K.gd.last (wi_ac K.gd.last hq y40.2))) V1.one V1.e.nm (by omega) l1 (s.pickT (hd:=[_,_,_]) (tl:=(AR++bs)) (hd':=[_,_,_]) [0,2,1] Z Z)) Z λp1 _=>?_
  obtain ⟨q1,q2,ef,FR⟩:=fm_lay V1;rw [ef];refine .bl Z (Fx.bsl33_1 _ _ _ _ _ _ _) Z λb63=>?_;refine Sx.freezeBoxN λH3 u3 m3=>?_;refine .nC Z<|.fA Z Fx.field97_4<|.fA Z Fx.field35_6<|.s1Q (set_row (n:=r.length * 11) (j:=10) (cs':=oC o (.slice (some ⟨b56,0,none⟩) 1 1) (.slice (some ⟨b63,0,none⟩) 1 1)) hlo Z) Z Z Fx.size33 Z upd2 (by rw [Al_List_length_append,hlo];show r.length * 11+10<r.length * 11+11;omega)<|.nt<|.rg<|.mv Z<|.mv Z<|.nC Z<|.fA Z Fx.field97_4<|.yw (.loadR (vs:=(cFm .u8 o.f.op o.f.nm o.f.fd o.f.a o.f.b (.slice (some ⟨b56,0,none⟩) 1 1) (.slice (some ⟨b63,0,none⟩) 1 1))) Z Fx.agg35 mem2 Z (λj u h=>by rw [Al_Nat_add_assoc];exact app_at hlo (by rw [Nat.add_comm 4 j];exact h)))<|.yw (.build Z (Fx.bld179_1_3 _ _ _ _ _ _ _ _))<|?_
  have VN:VlR H3 (⟨false,true,zE,(o.f.wEx [(.mk 1 [] ((q.nx.exS l [62,61]).nbV l) [])]).wAr [v.fm]⟩:Vl) (.slice none 0 0) (.slice (some ⟨b56,0,none⟩) 1 1) (.slice (some ⟨b63,0,none⟩) 1 1):=⟨ExR.zero rfl (Al_Nat_zero_le _),⟨(Rep.mk (n:=1) (c:=1) m2 (.single (ExR.zero (e:=(.mk 1 [] ((q.nx.exS l [62,61]).nbV l) [])) rfl (Al_Nat_zero_le _)).rep rfl) rfl (Al_Nat_le_refl _) (by decide)).up u3.up,(Rep.mk m3 (.single ((FR.up u2.up).up u3.up).rep rfl) rfl (Al_Nat_le_refl _) (by decide)),FO.nm,FO.fd⟩⟩;refine .cs (X:=(Nat × Nat) × (Option Addr × Nat)) Fx.call156 Z (λW s=>close_f ((K.up u2.up).up u3.up) (wi_nb K.gd.last (wi_ex K.gd.last (wi_ac K.gd.last hq y40.2))) VN.one (by omega) (by omega) hlo (s.pickT (hd:=[_,_,_]) (tl:=(AR++bs)) (hd':=[_,_,_]) [0,2,1] Z Z)) Z λp9 _=>.nl<|.bN<|?_
  refine retN (.inr Z) rfl .nil rfl λW s=>?_;have e0:clgP l (⟨q,o::r,(v::V,bd),true,dn⟩:Ps)=⟨((q.nx.exS l [62,61]).nbS l),r,((⟨false,true,zE,(o.f.wEx [(.mk 1 [] ((q.nx.exS l [62,61]).nbV l) [])]).wAr [v.fm]⟩:Vl)::V,bd || v.noF),true,dn⟩:=clg_cnt rfl hk y40.2;rw [e0];exact ⟨(_,_,_,_,_,AR),⟨(u2.trans u3),⟨(SO.up u2.up).up u3.up,.cons ((VS1.up u2.up).up u3.up) VN⟩⟩,Z,s.pickT (hd:=[_,_,_]) (tl:=(AR++bs)) (hd':=[_,_,_]) [0,1,2] rfl rfl⟩
 rw [h40] at e40;rw [Al_if_neg (by rw [h40];decide)];refine .cu (X:=Bool) [(0,_),(2,_)] ⟨Z,Z,Jt⟩ (λz=>[(74,.bool z)]) (λz=>H) (λz=>(.box b [.slice tp l.length tc,iN ((if z then Rq.nx q else q).i),(.slice (some ⟨g,0,none⟩) (o::r).length c),rv,.bool true,.bool dn,.bool bd,iN ((if z then Rq.nx q else q).off),iN ((if z then Rq.nx q else q).er)] 102::.row 97 11 ((.slice (some ⟨g,0,none⟩) (o::r).length c)) ((o::r).length) ((xr++oC o s1 s2))::.row 179 13 (rv) (V.length+1) ((yr++vC v t0 t1 t2))::(AR++bs))) (λz=>z=(decide (o.kd=4) && Rq.ac l [93] q)) ?_ λz hC=>?_
 ·
  refine .rg<|.mv Z<|.nC Z<|.fA Z Fx.field97_0<|.yw (.loadR1 Z Fx.agg95 mem1 (app_at hlo Z))<|.yw (.eql Z Z)<|.mv Z<|.b2 (λh80=>?_) (λh80=>?_)
  ·have hg:o.kd=4:=Al_UInt8_toNat_inj.1 (by have:=Al_of_decide_eq_true h80;show o.kd.toNat=4;omega);exact .gy (.move Z)<|.gd Z Z<|.cs (X:=Unit) Fx.call107 Z (λW s=>accept_f K hq [93] (s.pickT (hd:=[_,_,_]) (tl:=(AR++bs)) (hd':=[_,_,_]) [0,1,2] Z Z)) Z λ_ _=>.yw (.pickT Z Z)<|.aq Z<|.me _ ⟨Z,Jt⟩ ⟨Z,Z,Jt⟩ (λ_ s=>s) (by first | rw [Al_decide_eq_true hg,Al_Bool_true_and] | (rw [Al_decide_eq_false hg];rfl))
  have hg:¬ o.kd=4:=λe=>Al_of_decide_eq_false h80 (by rw [e];rfl);exact .gG<|.gG<|.yw (.pickF Z Z)<|.aq Z<|.me _ ⟨Z,Jt⟩ ⟨Z,Z,Jt⟩ (λ_ s=>s) (by first | rw [Al_decide_eq_true hg,Al_Bool_true_and] | (rw [Al_decide_eq_false hg];rfl))
 have e74:=hC;refine .cd Z (λh74=>?_) (λh74=>?_)
 ·rw [h74] at e74;have y74:=Al_Bool_and_eq_true _ _ |>.mp e74.symm
  have hk:o.kd=4:=Al_of_decide_eq_true y74.1;rw [Al_if_pos h74];have hk5:o.kd≠5:=by rw [hk];decide
  obtain ⟨SO,FO⟩:=Ops.inv2 S.ops hk5;refine .sm Z<|.cs (X:=Nat × Nat) Fx.call155 Z (λW s=>term_f K (wi_ac K.gd.last hq y74.2) V1.one (by omega) l1 (s.pickT (hd:=[_,_,_]) (tl:=(AR++bs)) (hd':=[_,_,_]) [0,2,1] Z Z)) Z λp1 _=>.bl Z (Fx.bsl32_1 _ _ _ _) Z λb86=>?_
  refine Sx.freezeBoxN λH2 u2 m2=>?_;refine .aq Z<|.sq<|.sm Z<|.nC Z<|.fA Z Fx.field97_3<|.yw (.loadR1 Z Fx.agg74 mem2 (app_at hlo Z))<|.yw (.eql Z Z)<|.nt<|.cd Z (λh91=>?_) (λh91=>?_)
  ·have ho6:o.op=6:=Al_UInt8_toNat_inj.1 (by have:=Al_of_decide_eq_true h91;show o.op.toNat=6;omega);refine .sm Z<|.mv Z<|.nC Z<|.fA Z Fx.field97_4<|.fA Z Fx.field35_1<|.yw (.loadR1 Z Fx.agg9 mem2 (app_at4 (j:=1) hlo Z))<|.mv Z<|.yw (.build Z (Fx.bld76_0_1_3 _ _ _ _ _))<|.yw (.build Z (Fx.bld179_0_2 _ _ _ _ _))<|?_
   have VN:VlR H2 (tmv (.mk 6 o.f.nm 0 [v.e])) (.slice (some ⟨b86,0,none⟩) 1 1) (.slice none 0 0) (.slice none 0 0):=⟨⟨(Rep.mk m2 (.single (V1.e.up u2.up).rep rfl) rfl (Al_Nat_le_refl _) (by decide)),FO.nm⟩,FmR.zero rfl rfl (Al_Nat_zero_le _) (Al_Nat_zero_le _)⟩;refine .cs (X:=(Nat × Nat) × (Option Addr × Nat)) Fx.call156 Z (λW s=>close_f (K.up u2.up) (wi_ac K.gd.last hq y74.2) VN.one (by omega) (by omega) hlo (s.pickT (hd:=[_,_,_]) (tl:=(AR++bs)) (hd':=[_,_,_]) [0,2,1] Z Z)) Z λp9 _=>.nt<|.rt<|.tR<|.bR<|?_
   refine y7 Z .nil rfl λW s=>?_;have e0:clgP l (⟨q,o::r,(v::V,bd),true,dn⟩:Ps)=⟨q.nx,r,((tmv (.mk 6 o.f.nm 0 [v.e]))::V,bd || !v.tm),true,dn⟩:=clg_get rfl hk ho6 y74.2;rw [e0];exact ⟨(_,_,_,_,_,AR),⟨u2,⟨SO.up u2.up,.cons (VS1.up u2.up) VN⟩⟩,Z,s.pickT (hd:=[_,_,_]) (tl:=(AR++bs)) (hd':=[_,_,_]) [0,1,2] rfl rfl⟩
  have ho6:¬ o.op=6:=λe=>Al_of_decide_eq_false h91 (by rw [e];rfl);refine .sk<|.tN<|.sm Z<|.mv Z<|.nC Z<|.fA Z Fx.field97_4<|.fA Z Fx.field35_5<|.s1Q (set_row (n:=r.length * 11) (j:=9) (cs':=oC o (.slice (some ⟨b86,0,none⟩) 1 1) s2) hlo Z) Z Z Fx.size32 Z upd2 (by rw [Al_List_length_append,hlo];show r.length * 11+9<r.length * 11+11;omega)<|.nt<|.rg<|.mv Z<|.mv Z<|.nC Z<|.fA Z Fx.field97_4<|.yw (.loadR (vs:=(cFm .u8 o.f.op o.f.nm o.f.fd o.f.a o.f.b (.slice (some ⟨b86,0,none⟩) 1 1) s2)) Z Fx.agg35 mem2 Z (λj u h=>by rw [Al_Nat_add_assoc];exact app_at hlo (by rw [Nat.add_comm 4 j];exact h)))<|.yw (.build Z (Fx.bld179_3 _ _ _ _ _ _ _))<|?_
  have VN:VlR H2 (fmv (o.f.wEx [v.e])) (.slice none 0 0) (.slice (some ⟨b86,0,none⟩) 1 1) s2:=⟨ExR.zero rfl (Al_Nat_zero_le _),⟨(Rep.mk m2 (.single (V1.e.up u2.up).rep rfl) rfl (Al_Nat_le_refl _) (by decide)),FO.ar.up u2.up,FO.nm,FO.fd⟩⟩;refine .cs (X:=(Nat × Nat) × (Option Addr × Nat)) Fx.call156 Z (λW s=>close_f (K.up u2.up) (wi_ac K.gd.last hq y74.2) VN.one (by omega) (by omega) hlo (s.pickT (hd:=[_,_,_]) (tl:=(AR++bs)) (hd':=[_,_,_]) [0,2,1] Z Z)) Z λp9 _=>.nl<|.bN<|?_
  refine retN (.inr Z) rfl .nil rfl λW s=>?_;have e0:clgP l (⟨q,o::r,(v::V,bd),true,dn⟩:Ps)=⟨q.nx,r,((fmv (o.f.wEx [v.e]))::V,bd || !v.tm),true,dn⟩:=clg_has rfl hk ho6 y74.2;rw [e0];exact ⟨(_,_,_,_,_,AR),⟨u2,⟨SO.up u2.up,.cons (VS1.up u2.up) VN⟩⟩,Z,s.pickT (hd:=[_,_,_]) (tl:=(AR++bs)) (hd':=[_,_,_]) [0,1,2] rfl rfl⟩
 rw [h74] at e74;rw [Al_if_neg (by rw [h74];decide)];refine .cu (X:=Bool) [(0,_),(2,_)] ⟨Z,Z,Jt⟩ (λz=>[(114,.bool z)]) (λz=>H) (λz=>(.box b [.slice tp l.length tc,iN ((if z then Rq.nx q else q).i),(.slice (some ⟨g,0,none⟩) (o::r).length c),rv,.bool true,.bool dn,.bool bd,iN ((if z then Rq.nx q else q).off),iN ((if z then Rq.nx q else q).er)] 102::.row 97 11 ((.slice (some ⟨g,0,none⟩) (o::r).length c)) ((o::r).length) ((xr++oC o s1 s2))::.row 179 13 (rv) (V.length+1) ((yr++vC v t0 t1 t2))::(AR++bs))) (λz=>z=(decide (o.kd=5) && Rq.ac l [44] q)) ?_ λz hC=>?_
 ·
  refine .rg<|.mv Z<|.nC Z<|.fA Z Fx.field97_0<|.yw (.loadR1 Z Fx.agg95 mem1 (app_at hlo Z))<|.yw (.eql Z Z)<|.mv Z<|.b2 (λh120=>?_) (λh120=>?_)
  ·have hg:o.kd=5:=Al_UInt8_toNat_inj.1 (by have:=Al_of_decide_eq_true h120;show o.kd.toNat=5;omega);exact .gy (.move Z)<|.gd Z Z<|.cs (X:=Unit) Fx.call107 Z (λW s=>accept_f K hq [44] (s.pickT (hd:=[_,_,_]) (tl:=(AR++bs)) (hd':=[_,_,_]) [0,1,2] Z Z)) Z λ_ _=>.yw (.pickT Z Z)<|.aq Z<|.me _ ⟨Z,Jt⟩ ⟨Z,Z,Jt⟩ (λ_ s=>s) (by first | rw [Al_decide_eq_true hg,Al_Bool_true_and] | (rw [Al_decide_eq_false hg];rfl))
  have hg:¬ o.kd=5:=λe=>Al_of_decide_eq_false h120 (by rw [e];rfl);exact .gG<|.gG<|.yw (.pickF Z Z)<|.aq Z<|.me _ ⟨Z,Jt⟩ ⟨Z,Z,Jt⟩ (λ_ s=>s) (by first | rw [Al_decide_eq_true hg,Al_Bool_true_and] | (rw [Al_decide_eq_false hg];rfl))
 have e114:=hC;refine .cd Z (λh114=>?_) (λh114=>?_)
 ·rw [h114] at e114;have y114:=Al_Bool_and_eq_true _ _ |>.mp e114.symm
  have hk:o.kd=5:=Al_of_decide_eq_true y114.1;rw [Al_if_pos h114];obtain ⟨AR1,xe,rfl,SO,rfl,hze,har,hnm,hfd⟩:=Ops.inv5 S.ops hk;refine Sx.reSt (λW s=>(s:St _ _ (_::_::_::_::(AR1++bs)) W)) ?_;obtain ⟨AR,rfl⟩:∃ A,A=AR1:=⟨_,Z⟩;refine Sx.At.ra (size:=4) (r:=s1) (e:=76) mem3 λpA cA e=>?_;subst e;refine .sq<|.fx (p:=.light _ _ (.light _ _ (.light _ _ (.light _ _ (.light _ _ (.light _ _ (.light _ _ (.alt _ _ _ (.alt _ _ _ (.alt _ _ _ (.light _ _ (.light _ _ (.light _ _ (.light _ _ (.alt _ _ _ (.alt _ _ _ (.done) (.no)) (.alt _ _ _ (.alt _ _ _ (.done) (.no)) (.no))))))) (.no)) (.no)) (.alt _ _ _ (.alt _ _ _ (.alt _ _ _ (.light _ _ (.light _ _ (.light _ _ (.light _ _ (.alt _ _ _ (.alt _ _ _ (.done) (.no)) (.alt _ _ _ (.alt _ _ _ (.done) (.no)) (.no))))))) (.no)) (.no)) (.no)))))))))) 16 (.light 0 (.light 1 (.light 2 (.light 3 (.light 4 (.light 5 (.light 7 (.alt 6 2 (.alt 8 0 (.alt 9 2 (.light 10 (.light 12 (.light 13 (.light 14 (.alt 11 2 (.alt 15 2 (.done) (.no)) (.alt 15 2 (.alt 11 2 (.done) (.no)) (.no))))))) (.no)) (.no)) (.alt 8 0 (.alt 6 2 (.alt 9 2 (.light 10 (.light 12 (.light 13 (.light 14 (.alt 11 2 (.alt 15 2 (.done) (.no)) (.alt 15 2 (.alt 11 2 (.done) (.no)) (.no))))))) (.no)) (.no)) (.no)))))))))) (by kernel_rfl) (by kernel_rfl) Z<|.mv Z<|.nC Z<|.fA Z Fx.field97_4<|.fA Z Fx.field35_5<|.yw (.loadR1 Z Fx.agg32 mem1 (app_at4 (j:=5) hlo Z))<|.mv Z<|.yw (.lenSl Fx.sl32 Z)<|.h ?_ (.h ?_ .nn)
  ·
   refine .c3 (X:=Nat × Nat) Fx.call155 Z (λW s=>term_f K (wi_ac K.gd.last hq y114.2) V1.one (by omega) l1 (s.pickT (hd:=[_,_,_,_]) (tl:=(AR++bs)) (hd':=[_,_,_,_]) [0,2,1,3] Z Z)) Z (λ_ _=>(.yv (.lenSl Fx.sl32 Z)<|.dn<|.yv (.loadR1 Z Fx.agg32 mem2 (app_at4 (j:=5) hlo Z))<|.yv (.fieldAddr Z Fx.field35_5)<|.yv (.fieldAddr Z Fx.field97_4)<|.yv (.nilCheck Z)<|.yv (.move Z)<|.nl)) λp1 _=>.h1<|.blF Z (Fx.bsl32_1 _ _ _ _) Z λb132 H3 u3 m3=>.h1<|.apE Fx.row32 Z (λ_ _=>upd3) Z (Rep.mk (n:=1) (c:=1) (ds:=[dEx .u8 zE]) m3 (.single (zx_rep _) Z) Z (Al_Nat_le_refl _) (by decide)) (Nat.succ_pos _) (by simp only [maxLen];omega) (by omega) Z (λ_ _=>(.d4<|.d3<|.nl)) λnews gE cE hn=>.yw (.indexSl Fx.sl32 Z Z (i:=o.f.ex.length) Z (by omega) (q:=o.f.ex.length * 4) (by omega))<|.nC Z<|.fA Z Fx.field97_4<|.fA Z Fx.field35_5<|.h ?_ (.h ?_ .nn)
   ·
    refine .sR Z Z Fx.size76 (Rep.one V1.e.rep) upd3 (by have:=hn.len;have:=hze.len;simp only [Al_List_length_append,Al_List_length_cons,Al_List_length_nil,Al_List_length_map] at * <;> omega) (.yv (.fieldAddr Z Fx.field35_5)<|.yv (.fieldAddr Z Fx.field97_4)<|.yv (.nilCheck Z)<|.d4<|.d4<|.nl) <|.h1<|.s1Q (set_row (n:=r.length * 11) (j:=9) (cs':=oC o (.slice (some ⟨gE,0,none⟩) (o.f.ex.length+1) cE) (.slice none 0 0)) hlo Z) Z Z Fx.size32 Z upd2 (by rw [Al_List_length_append,hlo];show r.length * 11+9<r.length * 11+11;omega) (.d3<|.yv (.indexSl Fx.sl32 Z Z (i:=o.f.ex.length) Z (by omega) (q:=o.f.ex.length * 4) (by omega))<|.d4<|.d3<|.nl) <|.fe<|.tN<|.rg<|.mv Z<|.nC Z<|.fA Z Fx.field102_4<|.st .head Z Z Fx.size4 Z (nb Z) Z<|.nl<|.bN<|?_
    refine retN (.inr Z) rfl .nil rfl λW s=>?_;have e0:clgP l (⟨q,o::r,(v::V,bd),true,dn⟩:Ps)=⟨q.nx,⟨o.kd,o.lv,o.tm,o.op,o.f.wEx (o.f.ex++[v.e])⟩::r,(V,bd || !v.tm),false,dn⟩:=clg_com rfl hk y114.2;rw [e0];have hz:=row_put (ds:=o.f.ex.map (dEx .u8)) (hze.up u3.up) hn (V1.e.up u3.up).rep rfl (Al_List_length_map ..);have ha:=Ops.arg (o:=⟨o.kd,o.lv,o.tm,o.op,o.f.wEx (o.f.ex++[v.e])⟩) (SO.up u3.up) hk har hnm hfd (by rw [show (⟨o.kd,o.lv,o.tm,o.op,o.f.wEx (o.f.ex++[v.e])⟩:Ov).f.ex=o.f.ex++[v.e] from rfl,Al_List_map_append];exact hz) (s1:=(.slice (some ⟨gE,0,none⟩) (o.f.ex.length+1) cE)) rfl;rw [show (⟨o.kd,o.lv,o.tm,o.op,o.f.wEx (o.f.ex++[v.e])⟩:Ov).f.ex.length=o.f.ex.length+1 from by show (o.f.ex++[v.e]).length=_;rw [Al_List_length_append];rfl] at ha;exact ⟨(H3,(.slice (some ⟨g,0,none⟩) (o::r).length c),.slice (some ⟨p1.1,0,none⟩) V.length p1.2,xr++oC ⟨o.kd,o.lv,o.tm,o.op,o.f.wEx (o.f.ex++[v.e])⟩ (.slice (some ⟨gE,0,none⟩) (o.f.ex.length+1) cE) (.slice none 0 0),yr,.row 76 4 (.slice (some ⟨gE,0,none⟩) (o.f.ex.length+1) cE) (o.f.ex.length+1) (setsL (xe++news) (o.f.ex.length * 4) [.int .u8 v.e.op.toNat,strV v.e.nm,.int .i64 v.e.n.toInt,t0])::AR),⟨u3,⟨ha,(VS1.up u3.up)⟩⟩,Z,s.pickT (hd:=[_,_,_,_]) (tl:=(AR++bs)) (hd':=[_,_,_,_]) [0,2,1,3] rfl rfl⟩
   refine .s1Q (set_row (n:=r.length * 11) (j:=9) (cs':=oC o (.slice (some ⟨gE,0,none⟩) (o.f.ex.length+1) cE) (.slice none 0 0)) hlo Z) Z Z Fx.size32 Z upd2 (by rw [Al_List_length_append,hlo];show r.length * 11+9<r.length * 11+11;omega) (.d3<|.yv (.indexSl Fx.sl32 Z Z (i:=o.f.ex.length) Z (by omega) (q:=o.f.ex.length * 4) (by omega))<|.d4<|.d3<|.nl) <|.h1<|.sR Z Z Fx.size76 (Rep.one V1.e.rep) upd3 (by have:=hn.len;have:=hze.len;simp only [Al_List_length_append,Al_List_length_cons,Al_List_length_nil,Al_List_length_map] at * <;> omega) (.yv (.fieldAddr Z Fx.field35_5)<|.yv (.fieldAddr Z Fx.field97_4)<|.yv (.nilCheck Z)<|.d4<|.d4<|.nl) <|.fe<|.tN<|.rg<|.mv Z<|.nC Z<|.fA Z Fx.field102_4<|.st .head Z Z Fx.size4 Z (nb Z) Z<|.nl<|.bN<|?_
   refine retN (.inr Z) rfl .nil rfl λW s=>?_;have e0:clgP l (⟨q,o::r,(v::V,bd),true,dn⟩:Ps)=⟨q.nx,⟨o.kd,o.lv,o.tm,o.op,o.f.wEx (o.f.ex++[v.e])⟩::r,(V,bd || !v.tm),false,dn⟩:=clg_com rfl hk y114.2;rw [e0];have hz:=row_put (ds:=o.f.ex.map (dEx .u8)) (hze.up u3.up) hn (V1.e.up u3.up).rep rfl (Al_List_length_map ..);have ha:=Ops.arg (o:=⟨o.kd,o.lv,o.tm,o.op,o.f.wEx (o.f.ex++[v.e])⟩) (SO.up u3.up) hk har hnm hfd (by rw [show (⟨o.kd,o.lv,o.tm,o.op,o.f.wEx (o.f.ex++[v.e])⟩:Ov).f.ex=o.f.ex++[v.e] from rfl,Al_List_map_append];exact hz) (s1:=(.slice (some ⟨gE,0,none⟩) (o.f.ex.length+1) cE)) rfl;rw [show (⟨o.kd,o.lv,o.tm,o.op,o.f.wEx (o.f.ex++[v.e])⟩:Ov).f.ex.length=o.f.ex.length+1 from by show (o.f.ex++[v.e]).length=_;rw [Al_List_length_append];rfl] at ha;exact ⟨(H3,(.slice (some ⟨g,0,none⟩) (o::r).length c),.slice (some ⟨p1.1,0,none⟩) V.length p1.2,xr++oC ⟨o.kd,o.lv,o.tm,o.op,o.f.wEx (o.f.ex++[v.e])⟩ (.slice (some ⟨gE,0,none⟩) (o.f.ex.length+1) cE) (.slice none 0 0),yr,.row 76 4 (.slice (some ⟨gE,0,none⟩) (o.f.ex.length+1) cE) (o.f.ex.length+1) (setsL (xe++news) (o.f.ex.length * 4) [.int .u8 v.e.op.toNat,strV v.e.nm,.int .i64 v.e.n.toInt,t0])::AR),⟨u3,⟨ha,(VS1.up u3.up)⟩⟩,Z,s.pickT (hd:=[_,_,_,_]) (tl:=(AR++bs)) (hd':=[_,_,_,_]) [0,2,1,3] rfl rfl⟩
  refine .blF Z (Fx.bsl32_1 _ _ _ _) Z λb132 H3 u3 m3=>.h1<|.c3 (X:=Nat × Nat) Fx.call155 Z (λW s=>term_f (K.up u3.up) (wi_ac K.gd.last hq y114.2) V1.one (by omega) l1 (s.pickT (hd:=[_,_,_,_]) (tl:=(AR++bs)) (hd':=[_,_,_,_]) [0,2,1,3] Z Z)) Z (λ_ _=>(.yv (.lenSl Fx.sl32 Z)<|.dn<|.yv (.loadR1 Z Fx.agg32 mem2 (app_at4 (j:=5) hlo Z))<|.yv (.fieldAddr Z Fx.field35_5)<|.yv (.fieldAddr Z Fx.field97_4)<|.yv (.nilCheck Z)<|.yv (.move Z)<|.nl)) λp1 _=>.h1<|.apE Fx.row32 Z (λ_ _=>upd3) Z (Rep.mk (n:=1) (c:=1) (ds:=[dEx .u8 zE]) m3 (.single (zx_rep _) Z) Z (Al_Nat_le_refl _) (by decide)) (Nat.succ_pos _) (by simp only [maxLen];omega) (by omega) Z (λ_ _=>(.d4<|.d3<|.nl)) λnews gE cE hn=>.yw (.indexSl Fx.sl32 Z Z (i:=o.f.ex.length) Z (by omega) (q:=o.f.ex.length * 4) (by omega))<|.nC Z<|.fA Z Fx.field97_4<|.fA Z Fx.field35_5<|.h ?_ (.h ?_ .nn)
  ·
   refine .sR Z Z Fx.size76 (Rep.one V1.e.rep) upd3 (by have:=hn.len;have:=hze.len;simp only [Al_List_length_append,Al_List_length_cons,Al_List_length_nil,Al_List_length_map] at * <;> omega) (.yv (.fieldAddr Z Fx.field35_5)<|.yv (.fieldAddr Z Fx.field97_4)<|.yv (.nilCheck Z)<|.d4<|.d4<|.nl) <|.h1<|.s1Q (set_row (n:=r.length * 11) (j:=9) (cs':=oC o (.slice (some ⟨gE,0,none⟩) (o.f.ex.length+1) cE) (.slice none 0 0)) hlo Z) Z Z Fx.size32 Z upd2 (by rw [Al_List_length_append,hlo];show r.length * 11+9<r.length * 11+11;omega) (.d3<|.yv (.indexSl Fx.sl32 Z Z (i:=o.f.ex.length) Z (by omega) (q:=o.f.ex.length * 4) (by omega))<|.d4<|.d3<|.nl) <|.fe<|.tN<|.rg<|.mv Z<|.nC Z<|.fA Z Fx.field102_4<|.st .head Z Z Fx.size4 Z (nb Z) Z<|.nl<|.bN<|?_
   refine retN (.inr Z) rfl .nil rfl λW s=>?_;have e0:clgP l (⟨q,o::r,(v::V,bd),true,dn⟩:Ps)=⟨q.nx,⟨o.kd,o.lv,o.tm,o.op,o.f.wEx (o.f.ex++[v.e])⟩::r,(V,bd || !v.tm),false,dn⟩:=clg_com rfl hk y114.2;rw [e0];have hz:=row_put (ds:=o.f.ex.map (dEx .u8)) (hze.up u3.up) hn (V1.e.up u3.up).rep rfl (Al_List_length_map ..);have ha:=Ops.arg (o:=⟨o.kd,o.lv,o.tm,o.op,o.f.wEx (o.f.ex++[v.e])⟩) (SO.up u3.up) hk har hnm hfd (by rw [show (⟨o.kd,o.lv,o.tm,o.op,o.f.wEx (o.f.ex++[v.e])⟩:Ov).f.ex=o.f.ex++[v.e] from rfl,Al_List_map_append];exact hz) (s1:=(.slice (some ⟨gE,0,none⟩) (o.f.ex.length+1) cE)) rfl;rw [show (⟨o.kd,o.lv,o.tm,o.op,o.f.wEx (o.f.ex++[v.e])⟩:Ov).f.ex.length=o.f.ex.length+1 from by show (o.f.ex++[v.e]).length=_;rw [Al_List_length_append];rfl] at ha;exact ⟨(H3,(.slice (some ⟨g,0,none⟩) (o::r).length c),.slice (some ⟨p1.1,0,none⟩) V.length p1.2,xr++oC ⟨o.kd,o.lv,o.tm,o.op,o.f.wEx (o.f.ex++[v.e])⟩ (.slice (some ⟨gE,0,none⟩) (o.f.ex.length+1) cE) (.slice none 0 0),yr,.row 76 4 (.slice (some ⟨gE,0,none⟩) (o.f.ex.length+1) cE) (o.f.ex.length+1) (setsL (xe++news) (o.f.ex.length * 4) [.int .u8 v.e.op.toNat,strV v.e.nm,.int .i64 v.e.n.toInt,t0])::AR),⟨u3,⟨ha,(VS1.up u3.up)⟩⟩,Z,s.pickT (hd:=[_,_,_,_]) (tl:=(AR++bs)) (hd':=[_,_,_,_]) [0,2,1,3] rfl rfl⟩
  refine .s1Q (set_row (n:=r.length * 11) (j:=9) (cs':=oC o (.slice (some ⟨gE,0,none⟩) (o.f.ex.length+1) cE) (.slice none 0 0)) hlo Z) Z Z Fx.size32 Z upd2 (by rw [Al_List_length_append,hlo];show r.length * 11+9<r.length * 11+11;omega) (.d3<|.yv (.indexSl Fx.sl32 Z Z (i:=o.f.ex.length) Z (by omega) (q:=o.f.ex.length * 4) (by omega))<|.d4<|.d3<|.nl) <|.h1<|.sR Z Z Fx.size76 (Rep.one V1.e.rep) upd3 (by have:=hn.len;have:=hze.len;simp only [Al_List_length_append,Al_List_length_cons,Al_List_length_nil,Al_List_length_map] at * <;> omega) (.yv (.fieldAddr Z Fx.field35_5)<|.yv (.fieldAddr Z Fx.field97_4)<|.yv (.nilCheck Z)<|.d4<|.d4<|.nl) <|.fe<|.tN<|.rg<|.mv Z<|.nC Z<|.fA Z Fx.field102_4<|.st .head Z Z Fx.size4 Z (nb Z) Z<|.nl<|.bN<|?_
  refine retN (.inr Z) rfl .nil rfl λW s=>?_;have e0:clgP l (⟨q,o::r,(v::V,bd),true,dn⟩:Ps)=⟨q.nx,⟨o.kd,o.lv,o.tm,o.op,o.f.wEx (o.f.ex++[v.e])⟩::r,(V,bd || !v.tm),false,dn⟩:=clg_com rfl hk y114.2;rw [e0];have hz:=row_put (ds:=o.f.ex.map (dEx .u8)) (hze.up u3.up) hn (V1.e.up u3.up).rep rfl (Al_List_length_map ..);have ha:=Ops.arg (o:=⟨o.kd,o.lv,o.tm,o.op,o.f.wEx (o.f.ex++[v.e])⟩) (SO.up u3.up) hk har hnm hfd (by rw [show (⟨o.kd,o.lv,o.tm,o.op,o.f.wEx (o.f.ex++[v.e])⟩:Ov).f.ex=o.f.ex++[v.e] from rfl,Al_List_map_append];exact hz) (s1:=(.slice (some ⟨gE,0,none⟩) (o.f.ex.length+1) cE)) rfl;rw [show (⟨o.kd,o.lv,o.tm,o.op,o.f.wEx (o.f.ex++[v.e])⟩:Ov).f.ex.length=o.f.ex.length+1 from by show (o.f.ex++[v.e]).length=_;rw [Al_List_length_append];rfl] at ha;exact ⟨(H3,(.slice (some ⟨g,0,none⟩) (o::r).length c),.slice (some ⟨p1.1,0,none⟩) V.length p1.2,xr++oC ⟨o.kd,o.lv,o.tm,o.op,o.f.wEx (o.f.ex++[v.e])⟩ (.slice (some ⟨gE,0,none⟩) (o.f.ex.length+1) cE) (.slice none 0 0),yr,.row 76 4 (.slice (some ⟨gE,0,none⟩) (o.f.ex.length+1) cE) (o.f.ex.length+1) (setsL (xe++news) (o.f.ex.length * 4) [.int .u8 v.e.op.toNat,strV v.e.nm,.int .i64 v.e.n.toInt,t0])::AR),⟨u3,⟨ha,(VS1.up u3.up)⟩⟩,Z,s.pickT (hd:=[_,_,_,_]) (tl:=(AR++bs)) (hd':=[_,_,_,_]) [0,2,1,3] rfl rfl⟩
 rw [h114] at e114;rw [Al_if_neg (by rw [h114];decide)];refine .cu (X:=Bool) [(0,_),(2,_)] ⟨Z,Z,Jt⟩ (λz=>[(141,.bool z)]) (λz=>H) (λz=>(.box b [.slice tp l.length tc,iN ((if z then Rq.nx q else q).i),(.slice (some ⟨g,0,none⟩) (o::r).length c),rv,.bool true,.bool dn,.bool bd,iN ((if z then Rq.nx q else q).off),iN ((if z then Rq.nx q else q).er)] 102::.row 97 11 ((.slice (some ⟨g,0,none⟩) (o::r).length c)) ((o::r).length) ((xr++oC o s1 s2))::.row 179 13 (rv) (V.length+1) ((yr++vC v t0 t1 t2))::(AR++bs))) (λz=>z=(decide (o.kd=5) && Rq.ac l [41] q)) ?_ λz hC=>?_
 ·
  refine .rg<|.mv Z<|.nC Z<|.fA Z Fx.field97_0<|.yw (.loadR1 Z Fx.agg95 mem1 (app_at hlo Z))<|.yw (.eql Z Z)<|.mv Z<|.b2 (λh147=>?_) (λh147=>?_)
  ·have hg:o.kd=5:=Al_UInt8_toNat_inj.1 (by have:=Al_of_decide_eq_true h147;show o.kd.toNat=5;omega);exact .gy (.move Z)<|.gd Z Z<|.cs (X:=Unit) Fx.call107 Z (λW s=>accept_f K hq [41] (s.pickT (hd:=[_,_,_]) (tl:=(AR++bs)) (hd':=[_,_,_]) [0,1,2] Z Z)) Z λ_ _=>.yw (.pickT Z Z)<|.aq Z<|.me _ ⟨Z,Jt⟩ ⟨Z,Z,Jt⟩ (λ_ s=>s) (by first | rw [Al_decide_eq_true hg,Al_Bool_true_and] | (rw [Al_decide_eq_false hg];rfl))
  have hg:¬ o.kd=5:=λe=>Al_of_decide_eq_false h147 (by rw [e];rfl);exact .gG<|.gG<|.yw (.pickF Z Z)<|.aq Z<|.me _ ⟨Z,Jt⟩ ⟨Z,Z,Jt⟩ (λ_ s=>s) (by first | rw [Al_decide_eq_true hg,Al_Bool_true_and] | (rw [Al_decide_eq_false hg];rfl))
 have e141:=hC;refine .cd Z (λh141=>?_) (λh141=>?_)
 ·rw [h141] at e141;have y141:=Al_Bool_and_eq_true _ _ |>.mp e141.symm
  have hk:o.kd=5:=Al_of_decide_eq_true y141.1;rw [Al_if_pos h141];obtain ⟨AR1,xe,rfl,SO,rfl,hze,har,hnm,hfd⟩:=Ops.inv5 S.ops hk;refine Sx.reSt (λW s=>(s:St _ _ (_::_::_::_::(AR1++bs)) W)) ?_;obtain ⟨AR,rfl⟩:∃ A,A=AR1:=⟨_,Z⟩;refine Sx.At.ra (size:=4) (r:=s1) (e:=76) mem3 λpA cA e=>?_;subst e;refine .sq<|.fx (p:=.light _ _ (.light _ _ (.light _ _ (.light _ _ (.light _ _ (.light _ _ (.light _ _ (.alt _ _ _ (.alt _ _ _ (.alt _ _ _ (.light _ _ (.light _ _ (.light _ _ (.light _ _ (.alt _ _ _ (.alt _ _ _ (.done) (.no)) (.alt _ _ _ (.alt _ _ _ (.done) (.no)) (.no))))))) (.no)) (.no)) (.alt _ _ _ (.alt _ _ _ (.alt _ _ _ (.light _ _ (.light _ _ (.light _ _ (.light _ _ (.alt _ _ _ (.alt _ _ _ (.done) (.no)) (.alt _ _ _ (.alt _ _ _ (.done) (.no)) (.no))))))) (.no)) (.no)) (.no)))))))))) 16 (.light 0 (.light 1 (.light 2 (.light 3 (.light 4 (.light 5 (.light 7 (.alt 6 2 (.alt 8 0 (.alt 9 2 (.light 10 (.light 12 (.light 13 (.light 14 (.alt 11 2 (.alt 15 2 (.done) (.no)) (.alt 15 2 (.alt 11 2 (.done) (.no)) (.no))))))) (.no)) (.no)) (.alt 8 0 (.alt 6 2 (.alt 9 2 (.light 10 (.light 12 (.light 13 (.light 14 (.alt 11 2 (.alt 15 2 (.done) (.no)) (.alt 15 2 (.alt 11 2 (.done) (.no)) (.no))))))) (.no)) (.no)) (.no)))))))))) (by kernel_rfl) (by kernel_rfl) Z<|.mv Z<|.nC Z<|.fA Z Fx.field97_4<|.fA Z Fx.field35_5<|.yw (.loadR1 Z Fx.agg32 mem1 (app_at4 (j:=5) hlo Z))<|.mv Z<|.yw (.lenSl Fx.sl32 Z)<|.h ?_ (.h ?_ .nn)
  ·
   refine .c3 (X:=Nat × Nat) Fx.call155 Z (λW s=>term_f K (wi_ac K.gd.last hq y141.2) V1.one (by omega) l1 (s.pickT (hd:=[_,_,_,_]) (tl:=(AR++bs)) (hd':=[_,_,_,_]) [0,2,1,3] Z Z)) Z (λ_ _=>(.yv (.lenSl Fx.sl32 Z)<|.dn<|.yv (.loadR1 Z Fx.agg32 mem2 (app_at4 (j:=5) hlo Z))<|.yv (.fieldAddr Z Fx.field35_5)<|.yv (.fieldAddr Z Fx.field97_4)<|.yv (.nilCheck Z)<|.yv (.move Z)<|.nl)) λp1 _=>.h1<|.blF Z (Fx.bsl32_1 _ _ _ _) Z λb159 H39 u39 m39=>.h1<|.apE Fx.row32 Z (λ_ _=>upd3) Z (Rep.mk (n:=1) (c:=1) (ds:=[dEx .u8 zE]) m39 (.single (zx_rep _) Z) Z (Al_Nat_le_refl _) (by decide)) (Nat.succ_pos _) (by simp only [maxLen];omega) (by omega) Z (λ_ _=>(.d4<|.d3<|.nl)) λnews9 gE9 cE9 hn9=>.yw (.indexSl Fx.sl32 Z Z (i:=o.f.ex.length) Z (by omega) (q:=o.f.ex.length * 4) (by omega))<|.nC Z<|.fA Z Fx.field97_4<|.fA Z Fx.field35_5<|.h ?_ (.h ?_ .nn)
   ·
    refine .sR Z Z Fx.size76 (Rep.one V1.e.rep) upd3 (by have:=hn9.len;have:=hze.len;simp only [Al_List_length_append,Al_List_length_cons,Al_List_length_nil,Al_List_length_map] at * <;> omega) (.yv (.fieldAddr Z Fx.field35_5)<|.yv (.fieldAddr Z Fx.field97_4)<|.yv (.nilCheck Z)<|.d4<|.d4<|.nl) <|.h1<|.s1Q (set_row (n:=r.length * 11) (j:=9) (cs':=oC o (.slice (some ⟨gE9,0,none⟩) (o.f.ex.length+1) cE9) (.slice none 0 0)) hlo Z) Z Z Fx.size32 Z upd2 (by rw [Al_List_length_append,hlo];show r.length * 11+9<r.length * 11+11;omega) (.d3<|.yv (.indexSl Fx.sl32 Z Z (i:=o.f.ex.length) Z (by omega) (q:=o.f.ex.length * 4) (by omega))<|.d4<|.d3<|.nl) <|.fe<|.tN<|.rg<|.mv Z<|.mv Z<|.nC Z<|.fA Z Fx.field97_4<|.yw (.loadR (vs:=(cFm .u8 o.f.op o.f.nm o.f.fd o.f.a o.f.b (.slice (some ⟨gE9,0,none⟩) (o.f.ex.length+1) cE9) (.slice none 0 0))) Z Fx.agg35 mem2 Z (λj u h=>by rw [Al_Nat_add_assoc];exact app_at hlo (by rw [Nat.add_comm 4 j];exact h)))<|.yw (.build Z (Fx.bld179_3 _ _ _ _ _ _ _))<|.cs (X:=(Nat × Nat) × (Option Addr × Nat)) Fx.call156 Z (λW s=>close_f (K.up u39.up) (wi_ac K.gd.last hq y141.2) (by simp [Value.oneCell',strV]) (by omega) (by omega) hlo (s.pickT (hd:=[_,_,_,_]) (tl:=(AR++bs)) (hd':=[_,_,_,_]) [0,2,1,3] Z Z)) Z λp9 _=>.nl<|.bN<|?_
    refine Sx.reSt (λW s=>s.pickT (hd:=[_,_,_,_]) (tl:=(AR++bs)) (hd':=[_,_,_,_]) [3,0,1,2] rfl rfl) ?_;refine freezeSeq (ds:=(o.f.ex++[v.e]).map (dEx .u8)) (by rw [Al_List_length_map,Al_List_length_append];rfl) (by rw [Al_List_map_append];exact row_put (ds:=o.f.ex.map (dEx .u8)) (hze.up u39.up) hn9 (V1.e.up u39.up).rep rfl (Al_List_length_map ..)) λH8 p8 c8 u8 e8 h8=>?_;refine retN (.inr Z) rfl .nil rfl λW s=>?_;have e0:clgP l (⟨q,o::r,(v::V,bd),true,dn⟩:Ps)=⟨q.nx,r,((fmv (o.f.wEx (o.f.ex++[v.e])))::V,bd || !v.tm),true,dn⟩:=clg_arg rfl hk y141.2;rw [e0];exact ⟨(_,_,_,_,_,AR),⟨(u39.trans u8),⟨((SO.up u39.up).up u8.up),.cons ((VS1.up u39.up).up u8.up) (v:=(fmv (o.f.wEx (o.f.ex++[v.e])))) ⟨ExR.zero rfl (Al_Nat_zero_le _),⟨h8,by show Rep _ (.seq 7 (o.f.args.map _)) _;rw [har];exact Rep.nil4,hnm,hfd⟩⟩⟩⟩,Z,s.pickT (hd:=[_,_,_]) (tl:=(AR++bs)) (hd':=[_,_,_]) [0,1,2] rfl rfl⟩
   refine .s1Q (set_row (n:=r.length * 11) (j:=9) (cs':=oC o (.slice (some ⟨gE9,0,none⟩) (o.f.ex.length+1) cE9) (.slice none 0 0)) hlo Z) Z Z Fx.size32 Z upd2 (by rw [Al_List_length_append,hlo];show r.length * 11+9<r.length * 11+11;omega) (.d3<|.yv (.indexSl Fx.sl32 Z Z (i:=o.f.ex.length) Z (by omega) (q:=o.f.ex.length * 4) (by omega))<|.d4<|.d3<|.nl) <|.h1<|.sR Z Z Fx.size76 (Rep.one V1.e.rep) upd3 (by have:=hn9.len;have:=hze.len;simp only [Al_List_length_append,Al_List_length_cons,Al_List_length_nil,Al_List_length_map] at * <;> omega) (.yv (.fieldAddr Z Fx.field35_5)<|.yv (.fieldAddr Z Fx.field97_4)<|.yv (.nilCheck Z)<|.d4<|.d4<|.nl) <|.fe<|.tN<|.rg<|.mv Z<|.mv Z<|.nC Z<|.fA Z Fx.field97_4<|.yw (.loadR (vs:=(cFm .u8 o.f.op o.f.nm o.f.fd o.f.a o.f.b (.slice (some ⟨gE9,0,none⟩) (o.f.ex.length+1) cE9) (.slice none 0 0))) Z Fx.agg35 mem2 Z (λj u h=>by rw [Al_Nat_add_assoc];exact app_at hlo (by rw [Nat.add_comm 4 j];exact h)))<|.yw (.build Z (Fx.bld179_3 _ _ _ _ _ _ _))<|.cs (X:=(Nat × Nat) × (Option Addr × Nat)) Fx.call156 Z (λW s=>close_f (K.up u39.up) (wi_ac K.gd.last hq y141.2) (by simp [Value.oneCell',strV]) (by omega) (by omega) hlo (s.pickT (hd:=[_,_,_,_]) (tl:=(AR++bs)) (hd':=[_,_,_,_]) [0,2,1,3] Z Z)) Z λp9 _=>.nl<|.bN<|?_
   refine Sx.reSt (λW s=>s.pickT (hd:=[_,_,_,_]) (tl:=(AR++bs)) (hd':=[_,_,_,_]) [3,0,1,2] rfl rfl) ?_;refine freezeSeq (ds:=(o.f.ex++[v.e]).map (dEx .u8)) (by rw [Al_List_length_map,Al_List_length_append];rfl) (by rw [Al_List_map_append];exact row_put (ds:=o.f.ex.map (dEx .u8)) (hze.up u39.up) hn9 (V1.e.up u39.up).rep rfl (Al_List_length_map ..)) λH8 p8 c8 u8 e8 h8=>?_;refine retN (.inr Z) rfl .nil rfl λW s=>?_;have e0:clgP l (⟨q,o::r,(v::V,bd),true,dn⟩:Ps)=⟨q.nx,r,((fmv (o.f.wEx (o.f.ex++[v.e])))::V,bd || !v.tm),true,dn⟩:=clg_arg rfl hk y141.2;rw [e0];exact ⟨(_,_,_,_,_,AR),⟨(u39.trans u8),⟨((SO.up u39.up).up u8.up),.cons ((VS1.up u39.up).up u8.up) (v:=(fmv (o.f.wEx (o.f.ex++[v.e])))) ⟨ExR.zero rfl (Al_Nat_zero_le _),⟨h8,by show Rep _ (.seq 7 (o.f.args.map _)) _;rw [har];exact Rep.nil4,hnm,hfd⟩⟩⟩⟩,Z,s.pickT (hd:=[_,_,_]) (tl:=(AR++bs)) (hd':=[_,_,_]) [0,1,2] rfl rfl⟩
  refine .blF Z (Fx.bsl32_1 _ _ _ _) Z λb159 H39 u39 m39=>.h1<|.c3 (X:=Nat × Nat) Fx.call155 Z (λW s=>term_f (K.up u39.up) (wi_ac K.gd.last hq y141.2) V1.one (by omega) l1 (s.pickT (hd:=[_,_,_,_]) (tl:=(AR++bs)) (hd':=[_,_,_,_]) [0,2,1,3] Z Z)) Z (λ_ _=>(.yv (.lenSl Fx.sl32 Z)<|.dn<|.yv (.loadR1 Z Fx.agg32 mem2 (app_at4 (j:=5) hlo Z))<|.yv (.fieldAddr Z Fx.field35_5)<|.yv (.fieldAddr Z Fx.field97_4)<|.yv (.nilCheck Z)<|.yv (.move Z)<|.nl)) λp1 _=>.h1<|.apE Fx.row32 Z (λ_ _=>upd3) Z (Rep.mk (n:=1) (c:=1) (ds:=[dEx .u8 zE]) m39 (.single (zx_rep _) Z) Z (Al_Nat_le_refl _) (by decide)) (Nat.succ_pos _) (by simp only [maxLen];omega) (by omega) Z (λ_ _=>(.d4<|.d3<|.nl)) λnews9 gE9 cE9 hn9=>.yw (.indexSl Fx.sl32 Z Z (i:=o.f.ex.length) Z (by omega) (q:=o.f.ex.length * 4) (by omega))<|.nC Z<|.fA Z Fx.field97_4<|.fA Z Fx.field35_5<|.h ?_ (.h ?_ .nn)
  ·
   refine .sR Z Z Fx.size76 (Rep.one V1.e.rep) upd3 (by have:=hn9.len;have:=hze.len;simp only [Al_List_length_append,Al_List_length_cons,Al_List_length_nil,Al_List_length_map] at * <;> omega) (.yv (.fieldAddr Z Fx.field35_5)<|.yv (.fieldAddr Z Fx.field97_4)<|.yv (.nilCheck Z)<|.d4<|.d4<|.nl) <|.h1<|.s1Q (set_row (n:=r.length * 11) (j:=9) (cs':=oC o (.slice (some ⟨gE9,0,none⟩) (o.f.ex.length+1) cE9) (.slice none 0 0)) hlo Z) Z Z Fx.size32 Z upd2 (by rw [Al_List_length_append,hlo];show r.length * 11+9<r.length * 11+11;omega) (.d3<|.yv (.indexSl Fx.sl32 Z Z (i:=o.f.ex.length) Z (by omega) (q:=o.f.ex.length * 4) (by omega))<|.d4<|.d3<|.nl) <|.fe<|.tN<|.rg<|.mv Z<|.mv Z<|.nC Z<|.fA Z Fx.field97_4<|.yw (.loadR (vs:=(cFm .u8 o.f.op o.f.nm o.f.fd o.f.a o.f.b (.slice (some ⟨gE9,0,none⟩) (o.f.ex.length+1) cE9) (.slice none 0 0))) Z Fx.agg35 mem2 Z (λj u h=>by rw [Al_Nat_add_assoc];exact app_at hlo (by rw [Nat.add_comm 4 j];exact h)))<|.yw (.build Z (Fx.bld179_3 _ _ _ _ _ _ _))<|.cs (X:=(Nat × Nat) × (Option Addr × Nat)) Fx.call156 Z (λW s=>close_f (K.up u39.up) (wi_ac K.gd.last hq y141.2) (by simp [Value.oneCell',strV]) (by omega) (by omega) hlo (s.pickT (hd:=[_,_,_,_]) (tl:=(AR++bs)) (hd':=[_,_,_,_]) [0,2,1,3] Z Z)) Z λp9 _=>.nl<|.bN<|?_
   refine Sx.reSt (λW s=>s.pickT (hd:=[_,_,_,_]) (tl:=(AR++bs)) (hd':=[_,_,_,_]) [3,0,1,2] rfl rfl) ?_;refine freezeSeq (ds:=(o.f.ex++[v.e]).map (dEx .u8)) (by rw [Al_List_length_map,Al_List_length_append];rfl) (by rw [Al_List_map_append];exact row_put (ds:=o.f.ex.map (dEx .u8)) (hze.up u39.up) hn9 (V1.e.up u39.up).rep rfl (Al_List_length_map ..)) λH8 p8 c8 u8 e8 h8=>?_;refine retN (.inr Z) rfl .nil rfl λW s=>?_;have e0:clgP l (⟨q,o::r,(v::V,bd),true,dn⟩:Ps)=⟨q.nx,r,((fmv (o.f.wEx (o.f.ex++[v.e])))::V,bd || !v.tm),true,dn⟩:=clg_arg rfl hk y141.2;rw [e0];exact ⟨(_,_,_,_,_,AR),⟨(u39.trans u8),⟨((SO.up u39.up).up u8.up),.cons ((VS1.up u39.up).up u8.up) (v:=(fmv (o.f.wEx (o.f.ex++[v.e])))) ⟨ExR.zero rfl (Al_Nat_zero_le _),⟨h8,by show Rep _ (.seq 7 (o.f.args.map _)) _;rw [har];exact Rep.nil4,hnm,hfd⟩⟩⟩⟩,Z,s.pickT (hd:=[_,_,_]) (tl:=(AR++bs)) (hd':=[_,_,_]) [0,1,2] rfl rfl⟩
  refine .s1Q (set_row (n:=r.length * 11) (j:=9) (cs':=oC o (.slice (some ⟨gE9,0,none⟩) (o.f.ex.length+1) cE9) (.slice none 0 0)) hlo Z) Z Z Fx.size32 Z upd2 (by rw [Al_List_length_append,hlo];show r.length * 11+9<r.length * 11+11;omega) (.d3<|.yv (.indexSl Fx.sl32 Z Z (i:=o.f.ex.length) Z (by omega) (q:=o.f.ex.length * 4) (by omega))<|.d4<|.d3<|.nl) <|.h1<|.sR Z Z Fx.size76 (Rep.one V1.e.rep) upd3 (by have:=hn9.len;have:=hze.len;simp only [Al_List_length_append,Al_List_length_cons,Al_List_length_nil,Al_List_length_map] at * <;> omega) (.yv (.fieldAddr Z Fx.field35_5)<|.yv (.fieldAddr Z Fx.field97_4)<|.yv (.nilCheck Z)<|.d4<|.d4<|.nl) <|.fe<|.tN<|.rg<|.mv Z<|.mv Z<|.nC Z<|.fA Z Fx.field97_4<|.yw (.loadR (vs:=(cFm .u8 o.f.op o.f.nm o.f.fd o.f.a o.f.b (.slice (some ⟨gE9,0,none⟩) (o.f.ex.length+1) cE9) (.slice none 0 0))) Z Fx.agg35 mem2 Z (λj u h=>by rw [Al_Nat_add_assoc];exact app_at hlo (by rw [Nat.add_comm 4 j];exact h)))<|.yw (.build Z (Fx.bld179_3 _ _ _ _ _ _ _))<|.cs (X:=(Nat × Nat) × (Option Addr × Nat)) Fx.call156 Z (λW s=>close_f (K.up u39.up) (wi_ac K.gd.last hq y141.2) (by simp [Value.oneCell',strV]) (by omega) (by omega) hlo (s.pickT (hd:=[_,_,_,_]) (tl:=(AR++bs)) (hd':=[_,_,_,_]) [0,2,1,3] Z Z)) Z λp9 _=>.nl<|.bN<|?_
  refine Sx.reSt (λW s=>s.pickT (hd:=[_,_,_,_]) (tl:=(AR++bs)) (hd':=[_,_,_,_]) [3,0,1,2] rfl rfl) ?_;refine freezeSeq (ds:=(o.f.ex++[v.e]).map (dEx .u8)) (by rw [Al_List_length_map,Al_List_length_append];rfl) (by rw [Al_List_map_append];exact row_put (ds:=o.f.ex.map (dEx .u8)) (hze.up u39.up) hn9 (V1.e.up u39.up).rep rfl (Al_List_length_map ..)) λH8 p8 c8 u8 e8 h8=>?_;refine retN (.inr Z) rfl .nil rfl λW s=>?_;have e0:clgP l (⟨q,o::r,(v::V,bd),true,dn⟩:Ps)=⟨q.nx,r,((fmv (o.f.wEx (o.f.ex++[v.e])))::V,bd || !v.tm),true,dn⟩:=clg_arg rfl hk y141.2;rw [e0];exact ⟨(_,_,_,_,_,AR),⟨(u39.trans u8),⟨((SO.up u39.up).up u8.up),.cons ((VS1.up u39.up).up u8.up) (v:=(fmv (o.f.wEx (o.f.ex++[v.e])))) ⟨ExR.zero rfl (Al_Nat_zero_le _),⟨h8,by show Rep _ (.seq 7 (o.f.args.map _)) _;rw [har];exact Rep.nil4,hnm,hfd⟩⟩⟩⟩,Z,s.pickT (hd:=[_,_,_]) (tl:=(AR++bs)) (hd':=[_,_,_]) [0,1,2] rfl rfl⟩
 rw [h141] at e141;rw [Al_if_neg (by rw [h141];decide)];refine .rg<|.mv Z<|.cs (X:=Unit) Fx.call104 Z (λW s=>fail_f K hq 8 (s.pickT (hd:=[_,_,_]) (tl:=(AR++bs)) (hd':=[_,_,_]) [0,1,2] Z Z)) Z λ_ _=>.nl<|.bN<|?_
 refine retN (.inr Z) rfl .nil rfl λW s=>?_;have n2:∀ {n:UInt8} {w:Str},false=(decide (o.kd=n) && Rq.ac l w q)->o.kd=n->Rq.ac l w q=false:=λe k=>by rw [Al_decide_eq_true k,Al_Bool_true_and] at e;exact e.symm
 have e0:clgP l (⟨q,o::r,(v::V,bd),true,dn⟩:Ps)=(⟨q,o::r,(v::V,bd),true,dn⟩:Ps).at (q.fail l 8):=clg_fail (λe e2=>by rw [Al_decide_eq_true (show o.kd=1 from e),Al_decide_eq_true (show (tkf l q.i).k=0 from e2)] at e9;cases e9) (λe=>by
  rcases e with e | e | e
  ·exact n2 e24 e
  ·exact n2 e40 e
  ·exact n2 e141 e) (n2 e74) (n2 e114)
 rw [e0];exact ⟨(_,_,_,_,_,AR),⟨.refl,⟨S.ops,S.vls⟩⟩,Z,s.pickT (hd:=[_,_,_]) (tl:=(AR++bs)) (hd':=[_,_,_]) [0,1,2] rfl rfl⟩
def Fex (q:Ps):Prop:=∀ o∈q.op,o.f.ex.length<=q.c.i
section
variable {l:Tks} {q:Ps} {c:Rq} {o:Ov} {v:Vl}
theorem fex_push (h:Fex q) (hi:q.c.i<=c.i) (ho:o.f.ex=[]):Fex (pushS o (q.at c)):=λz hz=>by
 rcases Al_List_mem_cons.1 hz with rfl | hz
 ·rw [inh_f,ho];exact Al_Nat_zero_le _
 ·exact Al_Nat_le_trans (h z hz) hi
theorem fex_give (h:Fex q) (hi:q.c.i<=c.i):Fex (giveS v (q.at c)):=λz hz=>Al_Nat_le_trans (h z hz) hi
theorem fex_at (h:Fex q) (hi:q.c.i<=c.i):Fex (q.at c):=λz hz=>Al_Nat_le_trans (h z hz) hi
theorem redL_sub {lv:Nat}:∀ (r:List Ov) (x:Vb),∀ z∈(redL lv r x).1,z∈r
 | [],_,z,h=>h
 | o::r,x,z,h=>by
  rw [redL] at h
  split at h
  ·exact Al_List_mem_cons_of_mem _ (redL_sub r _ z h)
  ·exact h
theorem fex_red {lv:Nat} (h:Fex q):Fex (redP lv q):=λz hz=>h z (redL_sub q.op q.x z hz)
theorem fex_clo {x:Vb} (h:Fex q) (hi:q.c.i<=c.i):Fex (cloS c v x q):=λz hz=>Al_Nat_le_trans (h z (List.mem_of_mem_tail hz)) hi
theorem fex_if {c:Prop} [Decidable c] {a b:Ps} (h1:c->Fex a) (h2:¬ c->Fex b):Fex (if c then a else b):=by
 by_cases hc:c
 ·rw [Al_if_pos hc];exact h1 hc
 ·rw [Al_if_neg hc];exact h2 hc
theorem le_nx (k:Mq q.c.nx c):q.c.i<=c.i:=Al_Nat_le_trans (Nat.le_succ _) k.i
theorem fex_pref {q':Ps} (h:Fex q) (e:prefS l q=some q'):Fex q':=by
 unfold prefS at e
 split at e
 ·injection e with e;subst e;exact fex_push h (le_nx (.refl _)) rfl
 split at e
 ·injection e with e;subst e;exact fex_push h (le_nx (.refl _)) rfl
 split at e
 ·injection e with e;subst e;exact fex_push h (le_nx .wiS) rfl
 split at e
 ·injection e with e;subst e;exact fex_push h (le_nx .wiS) rfl
 split at e
 ·injection e with e;subst e;exact fex_push h (le_nx .amS) rfl
 split at e
 ·injection e with e;subst e;exact fex_push h (le_nx .amS) rfl
 split at e
 ·injection e with e;subst e;exact fex_push h (le_nx (.trans .amS .exS)) rfl
 ·cases e
theorem le_nm:q.c.i<=(q.c.nmS l).i:=Mq.nmS.i
theorem fex_var (h:Fex q):Fex (varP l q):=by
 unfold varP;refine fex_if (λa=>fex_if (λb=>fex_push h ?_ rfl) λ_=>fex_give h ?_) λ_=>fex_give h le_nm
 ·exact Al_Nat_le_trans le_nm (Al_Nat_le_trans (Nat.le_succ _) (Al_Nat_le_trans (Mq.nmS (q:=(q.c.nmS l).nx)).i (Nat.le_succ _)))
 ·exact Al_Nat_le_trans le_nm (Al_Nat_le_trans (Nat.le_succ _) (Mq.nmS (q:=(q.c.nmS l).nx)).i)
theorem fex_arr (h:Fex q):Fex (arrP l q):=by
 unfold arrP;have h2:q.c.i<=((q.c.paS l).exS l [40]).i:=(Mq.trans (a:=q.c) .paS .exS).i;exact fex_if (λ_=>fex_give h (Al_Nat_le_trans h2 (Nat.le_succ _))) λ_=>fex_push h h2 rfl
theorem fex_re2 (h:Fex q):Fex (re2P l q):=by
 unfold re2P
 exact fex_if (λ_=>fex_push h (le_nx (.refl _)) rfl) λ_=>fex_if (λ_=>fex_push h (le_nx (.refl _)) rfl) λ_ =>
  fex_if (λ_=>fex_give h Mq.nbS.i) λ_=>fex_if (λ_=>fex_var h) λ_=>fex_if (λ_=>fex_give h (le_nx (.refl _))) λ_ =>
  fex_if (λ_=>fex_give h (le_nx .paS)) λ_=>fex_if (λ_=>fex_give h (le_nx (.refl _))) λ_=>fex_if (λ_=>fex_give h (le_nx (.refl _))) λ_ =>
  fex_if (λ_=>fex_give h (le_nx .nmS)) λ_=>fex_if (λ_=>fex_push h (le_nx (.trans .paS .exS)) rfl) λ_ =>
  fex_if (λ_=>fex_arr (fex_at h (Nat.le_succ _))) λ_=>fex_at h Mq.fail.i
theorem fex_operand (h:Fex q):Fex (operandP l q):=by
 unfold operandP;cases e:(if fmsB q then prefS l q else none) with
 | some q' =>
  split at e
  ·exact fex_pref h e
  ·cases e
 | none =>
  show Fex (restP l q);unfold restP;exact fex_if (λ_=>fex_give h (Nat.le_succ _)) λ_=>fex_re2 h
theorem fex_bet {op:UInt8} (h:Fex q):Fex (betP l op q):=by
 have f {lv:Nat}:Fex ((redP lv q).at (q.c.fail l 8)):=fex_at (fex_red h) (Mq.fail (q:=q.c)).i;have p {lv:Nat} {o:Ov} (ho:o.f.ex=[]):Fex (pushS o ((redP lv q).at q.c.nx)):=fex_push (fex_red h) (Nat.le_succ _) ho;unfold betP;exact fex_if (λ_=>fex_if (λ_=>f) λ_=>p rfl) λ_=>fex_if (λ_=>fex_if (λ_=>f) λ_=>p rfl) λ_=>fex_if (λ_=>f) λ_=>p rfl
theorem joV_ex (c:Rq):(c.joV l).ex=[]:=by
 unfold Rq.joV
 split
 ·rfl
 split
 ·rfl
 split
 ·rfl
 split <;> rfl
theorem fex_joi (h:Fex q):Fex (joiP l q):=by
 unfold joiP;exact fex_if (λ_=>fex_at h Mq.fail.i) λ_=>fex_push (q:=redP _ q) (c:=q.c.joS l) (fex_red h) (Mq.joS (q:=q.c)).i (joV_ex _)
theorem fex_clg (h:Fex q):Fex (clgP l q):=by
 unfold clgP;refine fex_if (λ_=>h) λ_=>fex_if (λ_=>fex_clo h (Nat.le_succ _)) λ_=>fex_if (λ_=>fex_clo h (le_nx (.trans .exS .nbS))) λ_=>fex_if (λ_=>fex_if (λ_=>fex_clo h (Nat.le_succ _)) λ_=>fex_clo h (Nat.le_succ _)) λ_=>fex_if (λa=>?_) λ_=>fex_if (λ_=>fex_clo h (Nat.le_succ _)) λ_=>fex_at h Mq.fail.i;intro z hz;have hz':z∈(⟨(topO q).kd,(topO q).lv,(topO q).tm,(topO q).op,(topO q).f.wEx ((topO q).f.ex++[tE q.x])⟩:Ov)::q.op.tail:=hz;show z.f.ex.length<=q.c.i+1;rcases Al_List_mem_cons.1 hz' with e | hz
 ·subst e;show ((topO q).f.ex++[tE q.x]).length<=_;rw [Al_List_length_append]
  have:(topO q).f.ex.length<=q.c.i:=by
   unfold topO;cases hq:q.op with
   | nil=>exact Al_Nat_zero_le _
   | cons o r=>exact h o (by rw [hq];exact Al_List_mem_cons_self ..)
  simp only [Al_List_length_cons,Al_List_length_nil];omega
 ·exact Al_Nat_le_trans (h z (List.mem_of_mem_tail hz)) (Nat.le_succ _)
theorem fex_step (h:Fex q):Fex (stepP l q):=by
 unfold stepP;refine fex_if (λ_=>?_) λ_=>fex_operand h;unfold operatorP;cases q.c.sym l with
 | some i=>exact fex_bet h
 | none =>
  show Fex (othP l q);unfold othP;exact fex_if (λ_=>fex_joi h) λ_=>fex_if (λ_=>fex_clg (fex_red h)) λ_=>fex_at h Mq.fail.i
end
def symP (t:Str) (i:Nat):Bool:=decide (fsyms.getD i []=t) && decide (¬ i=0)
theorem symF_some {t:Str} (hk:k<22) (h:symP t k=true) (hp:∀ j,j<k->symP t j=false):symF t=some k:=List.find?_range_eq_some.2 ⟨h,Al_List_mem_range.2 hk,λj hj=>by
 have:=hp j hj;unfold symP at this;rw [this];rfl⟩
theorem all_succ {p:Nat->Prop} (h:∀ j,j<k->p j) (hk:p k):∀ j,j<k+1->p j:=λj hj=>by
 by_cases e:j=k
 ·rw [e];exact hk
 ·exact h j (by omega)
theorem symF_none {t:Str} (hp:∀ j,j<22->symP t j=false):symF t=none:=List.find?_range_eq_none.2 λj hj=>by
 have:=hp j hj;unfold symP at this;rw [this];rfl
theorem u8_of (h:k<256):IntKind.u8.wrap (k:Int)=(((UInt8.ofNat k).toNat:Nat):Int):=by
 have key:∀ i∈List.range 256,IntKind.u8.wrap (i:Int)=(i:Int):=by decide +kernel
 rw [key k (Al_List_mem_range.2 h),Al_UInt8_toNat_ofNat_of_lt' h]
set_option maxHeartbeats 2000000 in
theorem operator_f {b:Nat} {l:Tks} {op:List Ov} {x:Vb} {dn:Bool} (K:Tkf H l tp tc) (Wq:Fwf l ⟨q,op,x,true,dn⟩) (S:Sq H ⟨q,op,x,true,dn⟩ xo xv AR) (G:Gf H) (h0:q.er=0) (FE:Fex (⟨q,op,x,true,dn⟩:Ps)) (s:St H w0 (.box b [.slice tp l.length tc,iN q.i,ro,rv,.bool true,.bool dn,.bool x.2,iN q.off,iN q.er] 102::.row 97 11 (ro) (op.length) (xo)::.row 179 13 (rv) (x.1.length) (xv)::(AR++bs)) W) :
 Calls prg 55 #[.pointer (some ⟨b,0,none⟩)] W (Get w0 bs b l tp tc H (operatorP l ⟨q,op,x,true,dn⟩)):=by
 have hq:q.i<l.length:=Wq.i;have hcap:=K.rep.cap;refine enterS func55 rfl ntmps55 rfl s ?_;refine .sm Z<|.cs (X:=Unit) Fx.call98 Z (λW s=>token_f K hq  (s.pickT (hd:=[_,_,_]) (tl:=(AR++bs)) (hd':=[_,_,_]) [0,1,2] Z Z)) Z λ_ _=>.al Fx.zero108 Z λb2=>.sW .head Z Z Fx.size108 (by simp [cTk,Value.oneCell',strV]) Z<|.nt<|.sq<|.cu (X:=Bool) [(0,_),(2,_)] ⟨Z,Z,Jt⟩ (λz=>[(14,.bool z)]) (λz=>H) (λz=>(.box b2 (cTk .u8 (tkf l q.i)) 108::.box b [.slice tp l.length tc,iN q.i,ro,rv,.bool true,.bool dn,.bool x.2,iN q.off,iN q.er] 102::.row 97 11 (ro) (op.length) (xo)::.row 179 13 (rv) (x.1.length) (xv)::(AR++bs))) (λz=>z=(decide ((tkf l q.i).k=2) || decide ((tkf l q.i).k=4))) ?_ λz hC=>?_
 ·
  refine .rg<|.fA Z Fx.field108_0<|.lD Z Fx.agg106 Hm Z<|.yw (.eql Z Z)<|.mv Z<|.b2 (λh10=>?_) (λh10=>?_)
  ·exact .gG<|.gG<|.gG<|.yw (.pickT Z Z)<|.nt<|.me _ ⟨Z,Jt⟩ ⟨Z,Z,Jt⟩ (λ_ s=>s) (by first | (rw [<-k82,<-k84,h11,Bool.true_or]) | (rw [<-k82,<-k84,h11,Al_Bool_false_or]) | (rw [<-k82,<-k84,h10,Bool.true_or]) | (rw [<-k82,<-k84,h10,Al_Bool_false_or]))
  exact .gy (.fieldAddr Z Fx.field108_0)<|.gy (.load Z Fx.agg106 Hm Z)<|.gy (.eql Z Z)<|.yw (.pickF Z Z)<|.nt<|.me _ ⟨Z,Jt⟩ ⟨Z,Z,Jt⟩ (λ_ s=>s) (by first | (rw [<-k82,<-k84,h11,Bool.true_or]) | (rw [<-k82,<-k84,h11,Al_Bool_false_or]) | (rw [<-k82,<-k84,h10,Bool.true_or]) | (rw [<-k82,<-k84,h10,Al_Bool_false_or]))
 have e14:=hC;refine .cd Z (λh14=>?_) (λh14=>?_)
 ·have hk24:(tkf l q.i).k=2\/(tkf l q.i).k=4:=by
   rw [h14] at e14;rcases Al_Bool_or_eq_true _ _ |>.mp e14.symm with h | h
   ·exact .inl (Al_of_decide_eq_true h)
   ·exact .inr (Al_of_decide_eq_true h)
  refine .sr<|.yw (.loadMW Z Fx.agg165 G.syms Z)<|.mv Z<|.nt<|.bk<|.lp (X:=Nat) [(0,_),(2,_),(15,_)] ⟨Z,Z,Z,Jt⟩ ((AR++bs)) (λk=>[(16,iN k)]) (λk=>H) (λk=>[.box b2 (cTk .u8 (tkf l q.i)) 108,.box b [.slice tp l.length tc,iN q.i,ro,rv,.bool true,.bool dn,.bool x.2,iN q.off,iN q.er] 102,.row 97 11 (ro) (op.length) (xo),.row 179 13 (rv) (x.1.length) (xv)]) (λk=>k<=22/\∀ j,j<k->symP (tkf l q.i).t j=false) (λk=>22 - k) 0 (λ_ s=>s) ⟨Z,Jt⟩ ⟨by decide,λj h=>by omega⟩ λk hC=>?_
  obtain ⟨hk0,hpk⟩:=hC;refine .sr<|.yw (.lss Z Z)<|.nt<|.sq<|.ce Z (λh17=>?_) (λh17=>?_)
  ·have hk:k<22:=by omega
   refine .sk<|.tN<|.sq<|.bk<|.sm Z<|.yw (.idxA Fx.arr165 Fx.are165 Z Z Z (by omega) (list_at (by show k<22;omega) []))<|.a Z Z<|.a Z Z<|.ns<|.mv Z<|.fA Z Fx.field108_1<|.lD Z Fx.agg9 Hm Z<|.yw (.eqS Z Z)<|.mv Z<|.b2 (λh24=>?_) (λh24=>?_)
   ·have q24:fsyms.getD k []=(tkf l q.i).t:=Al_of_decide_eq_true h24;refine .gy (.move Z)<|.gy (.neq Z Z)<|.yw (.pickT Z Z)<|.nt<|.cd Z (λh27=>?_) (λh27=>?_)
    ·have hyk:symP (tkf l q.i).t k=true:=by unfold symP;rw [Al_decide_eq_true q24,Al_decide_eq_true (show ¬ k=0 by have:=Al_of_decide_eq_true h27;omega)];rfl
     have hsy:q.sym l=some k:=by unfold Rq.sym;rw [Al_if_pos hk24];exact symF_some hk hyk hpk
     have hac:=(sym_ac K.gd.last h0 hsy).1;refine .sm Z<|.mv Z<|.yw (.conv Z Fx.int3 Fx.int5 (c:=(((UInt8.ofNat k).toNat:Nat):Int)) (u8_of (by omega)))<|.cs (X:=Hp × Value × Value × List Value × List Value × List Res) Fx.call99 Z (λW s=>between_f K Wq S (UInt8.ofNat k) (wi_ac K.gd.last hq hac) (St.mid (a:=[_,_,_]) (d:=[_]) (s.pickT (hd:=[_,_,_,_]) (tl:=(AR++bs)) (hd':=[_,_,_,_]) [1,2,3,0] Z Z))) Z λz9 hz9=>?_
     obtain ⟨H1,ro,rv,xo,xv,AR⟩:=z9;obtain ⟨u1,S⟩:=hz9;dsimp only at u1 S|-;refine Sx.reSt (λW s=>St.mid (a:=[_,_,_]) (d:=AR) (c:=[_]) s) ?_;refine .zR<|.tR<|.bR<|.tR<|?_
     refine y7 Z .nil rfl λW s=>?_;have e0:operatorP l (⟨q,op,x,true,dn⟩:Ps)=betP l (UInt8.ofNat k) (⟨q,op,x,true,dn⟩:Ps):=by unfold operatorP;rw [hsy]
     rw [e0];exact ⟨(_,_,_,_,_,AR),⟨u1,⟨S.ops,S.vls⟩⟩,Z,s.pickT (hd:=[_,_,_,_]) (tl:=(AR++bs)) (hd':=[_,_,_]) [0,1,2] rfl rfl⟩
    have hnk:symP (tkf l q.i).t k=false:=by unfold symP;rw [Al_decide_eq_false (show ¬ ¬ k=0 by have:=Al_of_decide_eq_false h27;omega),Bool.and_false]
    exact .sk<|.bN<|.tN<|.rg<|.yw (.add Z Z w7)<|.mv Z<|.nt<|.ag (k+1) ⟨Z,Jt⟩ ⟨Z,Z,Z,Jt⟩ (λ_ s=>s) ⟨by omega,all_succ hpk hnk⟩ (by omega)
   have hnk:symP (tkf l q.i).t k=false:=by unfold symP;rw [Al_decide_eq_false (Al_of_decide_eq_false h24)];rfl
   exact .gG<|.gG<|.yw (.pickF Z Z)<|.nt<|.cF Z<|.sk<|.bN<|.tN<|.rg<|.yw (.add Z Z w7)<|.mv Z<|.nt<|.ag (k+1) ⟨Z,Jt⟩ ⟨Z,Z,Z,Jt⟩ (λ_ s=>s) ⟨by omega,all_succ hpk hnk⟩ (by omega)
  obtain rfl:k=22:=by omega
  have hsy:q.sym l=none:=by unfold Rq.sym;rw [Al_if_pos hk24];exact symF_none hpk
  refine .ex<|.eb<|.bk<|.cu (X:=Bool) [(0,_),(2,_)] ⟨Z,Z,Jt⟩ (λz=>[(35,.bool z)]) (λz=>H) (λz=>(.box b2 (cTk .u8 (tkf l q.i)) 108::.box b [.slice tp l.length tc,iN q.i,ro,rv,.bool true,.bool dn,.bool x.2,iN q.off,iN q.er] 102::.row 97 11 (ro) (op.length) (xo)::.row 179 13 (rv) (x.1.length) (xv)::(AR++bs))) (λz=>z=q.wrd l) ?_ λz hC=>?_
  ·
   refine .sm Z<|.cs (X:=Unit) Fx.call100 Z (λW s=>is_f K hq [115,105,110,99,101] (s.pickT (hd:=[_,_,_,_]) (tl:=(AR++bs)) (hd':=[_,_,_,_]) [1,0,2,3] Z Z)) Z λ_ _=>.aq Z<|.cd Z (λh35=>?_) (λh35=>?_)
   ·have i1:=h35;exact .sk<|.tN<|.me _ ⟨Z,Jt⟩ ⟨Z,Z,Jt⟩ (λ_ s=>(s.pickT (hd:=[_,_,_,_]) (tl:=(AR++bs)) (hd':=[_,_,_,_]) [1,0,2,3] Z Z)) (by unfold Rq.wrd;first | simp only [i1,i2,i3,Al_Bool_false_or,Bool.true_or,Bool.or_true,Bool.or_false] | simp only [i1,i2,Al_Bool_false_or,Bool.true_or,Bool.or_true] | simp only [i1,Al_Bool_false_or,Bool.true_or,Bool.or_true])
   have i1:=h35;refine .sm Z<|.cs (X:=Unit) Fx.call100 Z (λW s=>is_f K hq [97,110,100] (s.pickT (hd:=[_,_,_,_]) (tl:=(AR++bs)) (hd':=[_,_,_,_]) [0,1,2,3] Z Z)) Z λ_ _=>.aq Z<|.cd Z (λh35=>?_) (λh35=>?_)
   ·have i2:=h35;exact .sk<|.tN<|.me _ ⟨Z,Jt⟩ ⟨Z,Z,Jt⟩ (λ_ s=>(s.pickT (hd:=[_,_,_,_]) (tl:=(AR++bs)) (hd':=[_,_,_,_]) [1,0,2,3] Z Z)) (by unfold Rq.wrd;first | simp only [i1,i2,i3,Al_Bool_false_or,Bool.true_or,Bool.or_true,Bool.or_false] | simp only [i1,i2,Al_Bool_false_or,Bool.true_or,Bool.or_true] | simp only [i1,Al_Bool_false_or,Bool.true_or,Bool.or_true])
   have i2:=h35;refine .sm Z<|.cs (X:=Unit) Fx.call100 Z (λW s=>is_f K hq [111,114] (s.pickT (hd:=[_,_,_,_]) (tl:=(AR++bs)) (hd':=[_,_,_,_]) [0,1,2,3] Z Z)) Z λ_ _=>.aq Z<|.cd Z (λh35=>?_) (λh35=>?_)
   ·have i3:=h35;exact .sk<|.tN<|.me _ ⟨Z,Jt⟩ ⟨Z,Z,Jt⟩ (λ_ s=>(s.pickT (hd:=[_,_,_,_]) (tl:=(AR++bs)) (hd':=[_,_,_,_]) [1,0,2,3] Z Z)) (by unfold Rq.wrd;first | simp only [i1,i2,i3,Al_Bool_false_or,Bool.true_or,Bool.or_true,Bool.or_false] | simp only [i1,i2,Al_Bool_false_or,Bool.true_or,Bool.or_true] | simp only [i1,Al_Bool_false_or,Bool.true_or,Bool.or_true])
   have i3:=h35;exact .rg<|.mv Z<|.cs (X:=Unit) Fx.call100 Z (λW s=>is_f K hq [105,109,112,108,105,101,115] (s.pickT (hd:=[_,_,_,_]) (tl:=(AR++bs)) (hd':=[_,_,_,_]) [0,1,2,3] Z Z)) Z λ_ _=>.aq Z<|.me _ ⟨Z,Jt⟩ ⟨Z,Z,Jt⟩ (λ_ s=>(s.pickT (hd:=[_,_,_,_]) (tl:=(AR++bs)) (hd':=[_,_,_,_]) [1,0,2,3] Z Z)) (by unfold Rq.wrd;first | simp only [i1,i2,i3,Al_Bool_false_or,Bool.true_or,Bool.or_true,Bool.or_false] | simp only [i1,i2,Al_Bool_false_or,Bool.true_or,Bool.or_true] | simp only [i1,Al_Bool_false_or,Bool.true_or,Bool.or_true])
  have ew:=hC;refine .cd Z (λh35=>?_) (λh35=>?_)
  ·have w35:=h35;refine .rg<|.mv Z<|.cs (X:=Hp × Value × Value × List Value × List Value × List Res) Fx.call101 Z (λW s=>join_f K Wq S G h0 (by rw [<-ew];exact w35) (St.mid (a:=[_,_,_]) (d:=[_]) (s.pickT (hd:=[_,_,_,_]) (tl:=(AR++bs)) (hd':=[_,_,_,_]) [1,2,3,0] Z Z))) Z λz9 hz9=>?_
   obtain ⟨H1,ro,rv,xo,xv,AR⟩:=z9;obtain ⟨u1,S⟩:=hz9;dsimp only at u1 S|-;refine Sx.reSt (λW s=>St.mid (a:=[_,_,_]) (d:=AR) (c:=[_]) s) ?_;refine .nl<|.bN<|?_
   refine retN (.inr Z) rfl .nil rfl λW s=>?_;have e0:operatorP l (⟨q,op,x,true,dn⟩:Ps)=othP l (⟨q,op,x,true,dn⟩:Ps):=by unfold operatorP;rw [show q.sym l=none from hsy]
   rw [e0];have e1:othP l (⟨q,op,x,true,dn⟩:Ps)=joiP l (⟨q,op,x,true,dn⟩:Ps):=by unfold othP;exact Al_if_pos (by rw [<-ew];exact w35)
   rw [e1];exact ⟨(_,_,_,_,_,AR),⟨u1,⟨S.ops,S.vls⟩⟩,Z,s.pickT (hd:=[_,_,_,_]) (tl:=(AR++bs)) (hd':=[_,_,_]) [0,1,2] rfl rfl⟩
  have w35:=h35;refine .cu (X:=Bool) [(0,_)] ⟨Z,Jt⟩ (λz=>[(46,.bool z)]) (λz=>H) (λz=>(.box b2 (cTk .u8 (tkf l q.i)) 108::.box b [.slice tp l.length tc,iN q.i,ro,rv,.bool true,.bool dn,.bool x.2,iN q.off,iN q.er] 102::.row 97 11 (ro) (op.length) (xo)::.row 179 13 (rv) (x.1.length) (xv)::(AR++bs))) (λz=>z=q.endB l) ?_ λz hC=>?_
  ·
   refine .sm Z<|.cs (X:=Unit) Fx.call100 Z (λW s=>is_f K hq [41] (s.pickT (hd:=[_,_,_,_]) (tl:=(AR++bs)) (hd':=[_,_,_,_]) [1,0,2,3] Z Z)) Z λ_ _=>.aq Z<|.cd Z (λh46=>?_) (λh46=>?_)
   ·have j1:=h46;exact .sk<|.tN<|.me _ ⟨Z,Jt⟩ ⟨Z,Jt⟩ (λ_ s=>(s.pickT (hd:=[_,_,_,_]) (tl:=(AR++bs)) (hd':=[_,_,_,_]) [1,0,2,3] Z Z)) (by unfold Rq.endB;rw [<-k80];first | simp only [j1,j2,j3,Al_Bool_false_or,Bool.true_or,Bool.or_true,Bool.or_false] | simp only [j1,j2,Al_Bool_false_or,Bool.true_or,Bool.or_true] | simp only [j1,Al_Bool_false_or,Bool.true_or,Bool.or_true])
   have j1:=h46;refine .sm Z<|.cs (X:=Unit) Fx.call100 Z (λW s=>is_f K hq [93] (s.pickT (hd:=[_,_,_,_]) (tl:=(AR++bs)) (hd':=[_,_,_,_]) [0,1,2,3] Z Z)) Z λ_ _=>.aq Z<|.cd Z (λh46=>?_) (λh46=>?_)
   ·have j2:=h46;exact .sk<|.tN<|.me _ ⟨Z,Jt⟩ ⟨Z,Jt⟩ (λ_ s=>(s.pickT (hd:=[_,_,_,_]) (tl:=(AR++bs)) (hd':=[_,_,_,_]) [1,0,2,3] Z Z)) (by unfold Rq.endB;rw [<-k80];first | simp only [j1,j2,j3,Al_Bool_false_or,Bool.true_or,Bool.or_true,Bool.or_false] | simp only [j1,j2,Al_Bool_false_or,Bool.true_or,Bool.or_true] | simp only [j1,Al_Bool_false_or,Bool.true_or,Bool.or_true])
   have j2:=h46;refine .sm Z<|.cs (X:=Unit) Fx.call100 Z (λW s=>is_f K hq [44] (s.pickT (hd:=[_,_,_,_]) (tl:=(AR++bs)) (hd':=[_,_,_,_]) [0,1,2,3] Z Z)) Z λ_ _=>.aq Z<|.cd Z (λh46=>?_) (λh46=>?_)
   ·have j3:=h46;exact .sk<|.tN<|.me _ ⟨Z,Jt⟩ ⟨Z,Jt⟩ (λ_ s=>(s.pickT (hd:=[_,_,_,_]) (tl:=(AR++bs)) (hd':=[_,_,_,_]) [1,0,2,3] Z Z)) (by unfold Rq.endB;rw [<-k80];first | simp only [j1,j2,j3,Al_Bool_false_or,Bool.true_or,Bool.or_true,Bool.or_false] | simp only [j1,j2,Al_Bool_false_or,Bool.true_or,Bool.or_true] | simp only [j1,Al_Bool_false_or,Bool.true_or,Bool.or_true])
   have j3:=h46;exact .rg<|.fA Z Fx.field108_0<|.lD Z Fx.agg106 mem1 Z<|.yw (.eql Z Z)<|.aq Z<|.me _ ⟨Z,Jt⟩ ⟨Z,Jt⟩ (λ_ s=>(s.pickT (hd:=[_,_,_,_]) (tl:=(AR++bs)) (hd':=[_,_,_,_]) [1,0,2,3] Z Z)) (by unfold Rq.endB;rw [<-k80];first | simp only [j1,j2,j3,Al_Bool_false_or,Bool.true_or,Bool.or_true,Bool.or_false] | simp only [j1,j2,Al_Bool_false_or,Bool.true_or,Bool.or_true] | simp only [j1,Al_Bool_false_or,Bool.true_or,Bool.or_true])
  have ee:=hC;refine .cd Z (λh46=>?_) (λh46=>?_)
  ·have w46:=h46;refine .sm Z<|.cs (X:=Hp × Value × Value × List Value × List Value × List Res) Fx.call102 Z (λW s=>reduce_f K Wq S 1 (by omega) (St.mid (a:=[_,_,_]) (d:=[_]) (s.pickT (hd:=[_,_,_,_]) (tl:=(AR++bs)) (hd':=[_,_,_,_]) [1,2,3,0] Z Z))) Z λz9 hz9=>?_
   obtain ⟨H1,ro,rv,xo,xv,AR⟩:=z9;obtain ⟨u1,S⟩:=hz9;dsimp only at u1 S|-;refine Sx.reSt (λW s=>St.mid (a:=[_,_,_]) (d:=AR) (c:=[_]) s) ?_;obtain ⟨op7,x7,e7⟩:∃ op7 x7,redP 1 ((⟨q,op,x,true,dn⟩:Ps):Ps)=⟨q,op7,x7,true,dn⟩:=⟨_,_,Z⟩;rw [e7] at S|-;dsimp only at S|-;have W7:Fwf l ⟨q,op7,x7,true,dn⟩:=by rw [<-e7];exact wf_red (by omega) Wq rfl
   obtain ⟨hm1,hm2⟩:=wf_len W7 K.few;dsimp only at hm1 hm2;have hne7:op7≠[]:=W7.ne;have FE1:Fex (⟨q,op7,x7,true,dn⟩:Ps):=by rw [<-e7];exact fex_red FE
   refine .nt<|.rg<|.mv Z<|.cs (X:=Hp × Value × Value × List Value × List Value × List Res) Fx.call103 Z (λW s=>closing_f (K.up u1.up) W7 S (λz hz=>Al_Nat_le_trans (FE1 z hz) (Al_Nat_le_trans (Al_Nat_le_of_lt hq) K.few)) (St.mid (a:=[_,_,_]) (d:=[_]) (s.pickT (hd:=[_,_,_,_]) (tl:=(AR++bs)) (hd':=[_,_,_,_]) [0,1,2,3] Z Z))) Z λz9 hz9=>?_
   obtain ⟨H2,ro,rv,xo,xv,AR⟩:=z9;obtain ⟨u2,S⟩:=hz9;dsimp only at u2 S|-;refine Sx.reSt (λW s=>St.mid (a:=[_,_,_]) (d:=AR) (c:=[_]) s) ?_;refine .nl<|.bN<|?_
   refine retN (.inr Z) rfl .nil rfl λW s=>?_;have e0:operatorP l (⟨q,op,x,true,dn⟩:Ps)=othP l (⟨q,op,x,true,dn⟩:Ps):=by unfold operatorP;rw [show q.sym l=none from hsy]
   rw [e0];have e1:othP l (⟨q,op,x,true,dn⟩:Ps)=clgP l (⟨q,op7,x7,true,dn⟩:Ps):=by unfold othP;rw [Al_if_neg (show ¬ q.wrd l=true by rw [<-ew,w35];decide),Al_if_pos (show q.endB l=true by rw [<-ee];exact w46),e7]
   rw [e1];exact ⟨(_,_,_,_,_,AR),⟨(u1.trans u2),⟨S.ops,S.vls⟩⟩,Z,s.pickT (hd:=[_,_,_,_]) (tl:=(AR++bs)) (hd':=[_,_,_]) [0,1,2] rfl rfl⟩
  have w46:=h46;refine .rg<|.mv Z<|.cs (X:=Unit) Fx.call104 Z (λW s=>fail_f K hq 8 (s.pickT (hd:=[_,_,_,_]) (tl:=(AR++bs)) (hd':=[_,_,_,_]) [1,0,2,3] Z Z)) Z λ_ _=>.nl<|.bN<|?_
  refine retN (.inr Z) rfl .nil rfl λW s=>?_;have e0:operatorP l (⟨q,op,x,true,dn⟩:Ps)=othP l (⟨q,op,x,true,dn⟩:Ps):=by unfold operatorP;rw [show q.sym l=none from hsy]
  rw [e0];have e1:othP l (⟨q,op,x,true,dn⟩:Ps)=(⟨q,op,x,true,dn⟩:Ps).at (q.fail l 8):=by unfold othP;rw [Al_if_neg (show ¬ q.wrd l=true by rw [<-ew,w35];decide),Al_if_neg (show ¬ q.endB l=true by rw [<-ee,w46];decide)]
  rw [e1];exact ⟨(_,_,_,_,_,AR),⟨.refl,⟨S.ops,S.vls⟩⟩,Z,s.pickT (hd:=[_,_,_,_]) (tl:=(AR++bs)) (hd':=[_,_,_]) [0,2,3] rfl rfl⟩
 have hk24:¬ ((tkf l q.i).k=2\/(tkf l q.i).k=4):=λh=>by
  rw [h14] at e14;rcases h with h | h <;> rw [h] at e14 <;> simp at e14
 have hsy:q.sym l=none:=by unfold Rq.sym;rw [Al_if_neg hk24]
 refine .sk<|.tN<|.bk<|.cu (X:=Bool) [(0,_),(2,_)] ⟨Z,Z,Jt⟩ (λz=>[(35,.bool z)]) (λz=>H) (λz=>(.box b2 (cTk .u8 (tkf l q.i)) 108::.box b [.slice tp l.length tc,iN q.i,ro,rv,.bool true,.bool dn,.bool x.2,iN q.off,iN q.er] 102::.row 97 11 (ro) (op.length) (xo)::.row 179 13 (rv) (x.1.length) (xv)::(AR++bs))) (λz=>z=q.wrd l) ?_ λz hC=>?_
 ·
  refine .sm Z<|.cs (X:=Unit) Fx.call100 Z (λW s=>is_f K hq [115,105,110,99,101] (s.pickT (hd:=[_,_,_,_]) (tl:=(AR++bs)) (hd':=[_,_,_,_]) [1,0,2,3] Z Z)) Z λ_ _=>.aq Z<|.cd Z (λh35=>?_) (λh35=>?_)
  ·have i1:=h35;exact .sk<|.tN<|.me _ ⟨Z,Jt⟩ ⟨Z,Z,Jt⟩ (λ_ s=>(s.pickT (hd:=[_,_,_,_]) (tl:=(AR++bs)) (hd':=[_,_,_,_]) [1,0,2,3] Z Z)) (by unfold Rq.wrd;first | simp only [i1,i2,i3,Al_Bool_false_or,Bool.true_or,Bool.or_true,Bool.or_false] | simp only [i1,i2,Al_Bool_false_or,Bool.true_or,Bool.or_true] | simp only [i1,Al_Bool_false_or,Bool.true_or,Bool.or_true])
  have i1:=h35;refine .sm Z<|.cs (X:=Unit) Fx.call100 Z (λW s=>is_f K hq [97,110,100] (s.pickT (hd:=[_,_,_,_]) (tl:=(AR++bs)) (hd':=[_,_,_,_]) [0,1,2,3] Z Z)) Z λ_ _=>.aq Z<|.cd Z (λh35=>?_) (λh35=>?_)
  ·have i2:=h35;exact .sk<|.tN<|.me _ ⟨Z,Jt⟩ ⟨Z,Z,Jt⟩ (λ_ s=>(s.pickT (hd:=[_,_,_,_]) (tl:=(AR++bs)) (hd':=[_,_,_,_]) [1,0,2,3] Z Z)) (by unfold Rq.wrd;first | simp only [i1,i2,i3,Al_Bool_false_or,Bool.true_or,Bool.or_true,Bool.or_false] | simp only [i1,i2,Al_Bool_false_or,Bool.true_or,Bool.or_true] | simp only [i1,Al_Bool_false_or,Bool.true_or,Bool.or_true])
  have i2:=h35;refine .sm Z<|.cs (X:=Unit) Fx.call100 Z (λW s=>is_f K hq [111,114] (s.pickT (hd:=[_,_,_,_]) (tl:=(AR++bs)) (hd':=[_,_,_,_]) [0,1,2,3] Z Z)) Z λ_ _=>.aq Z<|.cd Z (λh35=>?_) (λh35=>?_)
  ·have i3:=h35;exact .sk<|.tN<|.me _ ⟨Z,Jt⟩ ⟨Z,Z,Jt⟩ (λ_ s=>(s.pickT (hd:=[_,_,_,_]) (tl:=(AR++bs)) (hd':=[_,_,_,_]) [1,0,2,3] Z Z)) (by unfold Rq.wrd;first | simp only [i1,i2,i3,Al_Bool_false_or,Bool.true_or,Bool.or_true,Bool.or_false] | simp only [i1,i2,Al_Bool_false_or,Bool.true_or,Bool.or_true] | simp only [i1,Al_Bool_false_or,Bool.true_or,Bool.or_true])
  have i3:=h35;exact .rg<|.mv Z<|.cs (X:=Unit) Fx.call100 Z (λW s=>is_f K hq [105,109,112,108,105,101,115] (s.pickT (hd:=[_,_,_,_]) (tl:=(AR++bs)) (hd':=[_,_,_,_]) [0,1,2,3] Z Z)) Z λ_ _=>.aq Z<|.me _ ⟨Z,Jt⟩ ⟨Z,Z,Jt⟩ (λ_ s=>(s.pickT (hd:=[_,_,_,_]) (tl:=(AR++bs)) (hd':=[_,_,_,_]) [1,0,2,3] Z Z)) (by unfold Rq.wrd;first | simp only [i1,i2,i3,Al_Bool_false_or,Bool.true_or,Bool.or_true,Bool.or_false] | simp only [i1,i2,Al_Bool_false_or,Bool.true_or,Bool.or_true] | simp only [i1,Al_Bool_false_or,Bool.true_or,Bool.or_true])
 have ew:=hC;refine .cd Z (λh35=>?_) (λh35=>?_)
 ·have w35:=h35;refine .rg<|.mv Z<|.cs (X:=Hp × Value × Value × List Value × List Value × List Res) Fx.call101 Z (λW s=>join_f K Wq S G h0 (by rw [<-ew];exact w35) (St.mid (a:=[_,_,_]) (d:=[_]) (s.pickT (hd:=[_,_,_,_]) (tl:=(AR++bs)) (hd':=[_,_,_,_]) [1,2,3,0] Z Z))) Z λz9 hz9=>?_
  obtain ⟨H1,ro,rv,xo,xv,AR⟩:=z9;obtain ⟨u1,S⟩:=hz9;dsimp only at u1 S|-;refine Sx.reSt (λW s=>St.mid (a:=[_,_,_]) (d:=AR) (c:=[_]) s) ?_;refine .nl<|.bN<|?_
  refine retN (.inr Z) rfl .nil rfl λW s=>?_;have e0:operatorP l (⟨q,op,x,true,dn⟩:Ps)=othP l (⟨q,op,x,true,dn⟩:Ps):=by unfold operatorP;rw [show q.sym l=none from hsy]
  rw [e0];have e1:othP l (⟨q,op,x,true,dn⟩:Ps)=joiP l (⟨q,op,x,true,dn⟩:Ps):=by unfold othP;exact Al_if_pos (by rw [<-ew];exact w35)
  rw [e1];exact ⟨(_,_,_,_,_,AR),⟨u1,⟨S.ops,S.vls⟩⟩,Z,s.pickT (hd:=[_,_,_,_]) (tl:=(AR++bs)) (hd':=[_,_,_]) [0,1,2] rfl rfl⟩
 have w35:=h35;refine .cu (X:=Bool) [(0,_)] ⟨Z,Jt⟩ (λz=>[(46,.bool z)]) (λz=>H) (λz=>(.box b2 (cTk .u8 (tkf l q.i)) 108::.box b [.slice tp l.length tc,iN q.i,ro,rv,.bool true,.bool dn,.bool x.2,iN q.off,iN q.er] 102::.row 97 11 (ro) (op.length) (xo)::.row 179 13 (rv) (x.1.length) (xv)::(AR++bs))) (λz=>z=q.endB l) ?_ λz hC=>?_
 ·
  refine .sm Z<|.cs (X:=Unit) Fx.call100 Z (λW s=>is_f K hq [41] (s.pickT (hd:=[_,_,_,_]) (tl:=(AR++bs)) (hd':=[_,_,_,_]) [1,0,2,3] Z Z)) Z λ_ _=>.aq Z<|.cd Z (λh46=>?_) (λh46=>?_)
  ·have j1:=h46;exact .sk<|.tN<|.me _ ⟨Z,Jt⟩ ⟨Z,Jt⟩ (λ_ s=>(s.pickT (hd:=[_,_,_,_]) (tl:=(AR++bs)) (hd':=[_,_,_,_]) [1,0,2,3] Z Z)) (by unfold Rq.endB;rw [<-k80];first | simp only [j1,j2,j3,Al_Bool_false_or,Bool.true_or,Bool.or_true,Bool.or_false] | simp only [j1,j2,Al_Bool_false_or,Bool.true_or,Bool.or_true] | simp only [j1,Al_Bool_false_or,Bool.true_or,Bool.or_true])
  have j1:=h46;refine .sm Z<|.cs (X:=Unit) Fx.call100 Z (λW s=>is_f K hq [93] (s.pickT (hd:=[_,_,_,_]) (tl:=(AR++bs)) (hd':=[_,_,_,_]) [0,1,2,3] Z Z)) Z λ_ _=>.aq Z<|.cd Z (λh46=>?_) (λh46=>?_)
  ·have j2:=h46;exact .sk<|.tN<|.me _ ⟨Z,Jt⟩ ⟨Z,Jt⟩ (λ_ s=>(s.pickT (hd:=[_,_,_,_]) (tl:=(AR++bs)) (hd':=[_,_,_,_]) [1,0,2,3] Z Z)) (by unfold Rq.endB;rw [<-k80];first | simp only [j1,j2,j3,Al_Bool_false_or,Bool.true_or,Bool.or_true,Bool.or_false] | simp only [j1,j2,Al_Bool_false_or,Bool.true_or,Bool.or_true] | simp only [j1,Al_Bool_false_or,Bool.true_or,Bool.or_true])
  have j2:=h46;refine .sm Z<|.cs (X:=Unit) Fx.call100 Z (λW s=>is_f K hq [44] (s.pickT (hd:=[_,_,_,_]) (tl:=(AR++bs)) (hd':=[_,_,_,_]) [0,1,2,3] Z Z)) Z λ_ _=>.aq Z<|.cd Z (λh46=>?_) (λh46=>?_)
  ·have j3:=h46;exact .sk<|.tN<|.me _ ⟨Z,Jt⟩ ⟨Z,Jt⟩ (λ_ s=>(s.pickT (hd:=[_,_,_,_]) (tl:=(AR++bs)) (hd':=[_,_,_,_]) [1,0,2,3] Z Z)) (by unfold Rq.endB;rw [<-k80];first | simp only [j1,j2,j3,Al_Bool_false_or,Bool.true_or,Bool.or_true,Bool.or_false] | simp only [j1,j2,Al_Bool_false_or,Bool.true_or,Bool.or_true] | simp only [j1,Al_Bool_false_or,Bool.true_or,Bool.or_true])
  have j3:=h46;exact .rg<|.fA Z Fx.field108_0<|.lD Z Fx.agg106 mem1 Z<|.yw (.eql Z Z)<|.aq Z<|.me _ ⟨Z,Jt⟩ ⟨Z,Jt⟩ (λ_ s=>(s.pickT (hd:=[_,_,_,_]) (tl:=(AR++bs)) (hd':=[_,_,_,_]) [1,0,2,3] Z Z)) (by unfold Rq.endB;rw [<-k80];first | simp only [j1,j2,j3,Al_Bool_false_or,Bool.true_or,Bool.or_true,Bool.or_false] | simp only [j1,j2,Al_Bool_false_or,Bool.true_or,Bool.or_true] | simp only [j1,Al_Bool_false_or,Bool.true_or,Bool.or_true])
 have ee:=hC;refine .cd Z (λh46=>?_) (λh46=>?_)
 ·have w46:=h46;refine .sm Z<|.cs (X:=Hp × Value × Value × List Value × List Value × List Res) Fx.call102 Z (λW s=>reduce_f K Wq S 1 (by omega) (St.mid (a:=[_,_,_]) (d:=[_]) (s.pickT (hd:=[_,_,_,_]) (tl:=(AR++bs)) (hd':=[_,_,_,_]) [1,2,3,0] Z Z))) Z λz9 hz9=>?_
  obtain ⟨H1,ro,rv,xo,xv,AR⟩:=z9;obtain ⟨u1,S⟩:=hz9;dsimp only at u1 S|-;refine Sx.reSt (λW s=>St.mid (a:=[_,_,_]) (d:=AR) (c:=[_]) s) ?_;obtain ⟨op7,x7,e7⟩:∃ op7 x7,redP 1 ((⟨q,op,x,true,dn⟩:Ps):Ps)=⟨q,op7,x7,true,dn⟩:=⟨_,_,Z⟩;rw [e7] at S|-;dsimp only at S|-;have W7:Fwf l ⟨q,op7,x7,true,dn⟩:=by rw [<-e7];exact wf_red (by omega) Wq rfl
  obtain ⟨hm1,hm2⟩:=wf_len W7 K.few;dsimp only at hm1 hm2;have hne7:op7≠[]:=W7.ne;have FE1:Fex (⟨q,op7,x7,true,dn⟩:Ps):=by rw [<-e7];exact fex_red FE
  refine .nt<|.rg<|.mv Z<|.cs (X:=Hp × Value × Value × List Value × List Value × List Res) Fx.call103 Z (λW s=>closing_f (K.up u1.up) W7 S (λz hz=>Al_Nat_le_trans (FE1 z hz) (Al_Nat_le_trans (Al_Nat_le_of_lt hq) K.few)) (St.mid (a:=[_,_,_]) (d:=[_]) (s.pickT (hd:=[_,_,_,_]) (tl:=(AR++bs)) (hd':=[_,_,_,_]) [0,1,2,3] Z Z))) Z λz9 hz9=>?_
  obtain ⟨H2,ro,rv,xo,xv,AR⟩:=z9;obtain ⟨u2,S⟩:=hz9;dsimp only at u2 S|-;refine Sx.reSt (λW s=>St.mid (a:=[_,_,_]) (d:=AR) (c:=[_]) s) ?_;refine .nl<|.bN<|?_
  refine retN (.inr Z) rfl .nil rfl λW s=>?_;have e0:operatorP l (⟨q,op,x,true,dn⟩:Ps)=othP l (⟨q,op,x,true,dn⟩:Ps):=by unfold operatorP;rw [show q.sym l=none from hsy]
  rw [e0];have e1:othP l (⟨q,op,x,true,dn⟩:Ps)=clgP l (⟨q,op7,x7,true,dn⟩:Ps):=by unfold othP;rw [Al_if_neg (show ¬ q.wrd l=true by rw [<-ew,w35];decide),Al_if_pos (show q.endB l=true by rw [<-ee];exact w46),e7]
  rw [e1];exact ⟨(_,_,_,_,_,AR),⟨(u1.trans u2),⟨S.ops,S.vls⟩⟩,Z,s.pickT (hd:=[_,_,_,_]) (tl:=(AR++bs)) (hd':=[_,_,_]) [0,1,2] rfl rfl⟩
 have w46:=h46;refine .rg<|.mv Z<|.cs (X:=Unit) Fx.call104 Z (λW s=>fail_f K hq 8 (s.pickT (hd:=[_,_,_,_]) (tl:=(AR++bs)) (hd':=[_,_,_,_]) [1,0,2,3] Z Z)) Z λ_ _=>.nl<|.bN<|?_
 refine retN (.inr Z) rfl .nil rfl λW s=>?_;have e0:operatorP l (⟨q,op,x,true,dn⟩:Ps)=othP l (⟨q,op,x,true,dn⟩:Ps):=by unfold operatorP;rw [show q.sym l=none from hsy]
 rw [e0];have e1:othP l (⟨q,op,x,true,dn⟩:Ps)=(⟨q,op,x,true,dn⟩:Ps).at (q.fail l 8):=by unfold othP;rw [Al_if_neg (show ¬ q.wrd l=true by rw [<-ew,w35];decide),Al_if_neg (show ¬ q.endB l=true by rw [<-ee,w46];decide)]
 rw [e1];exact ⟨(_,_,_,_,_,AR),⟨.refl,⟨S.ops,S.vls⟩⟩,Z,s.pickT (hd:=[_,_,_,_]) (tl:=(AR++bs)) (hd':=[_,_,_]) [0,2,3] rfl rfl⟩
theorem preF_cons (q:UInt8->Bool) (c:UInt8) (r:Str):pre q (c::r)=if q c then pre q r+1 else 0:=by
 unfold pre;rw [Al_List_takeWhile_cons]
 split <;> simp
theorem preF_take (q:UInt8->Bool):∀ (m:Str),pre q (m.take (pre q m))=pre q m
 | []=>rfl
 | c::r=>by
  rw [preF_cons];cases h:q c with
  | false=>rw [Al_if_neg (by decide)];rfl
  | true=>rw [Al_if_pos rfl,List.take_succ_cons,preF_cons,h,Al_if_pos rfl,preF_take q r]
theorem readK_digF {m:Str} (h:m≠[]) (hk:(readK m).1=3):pre digB (m.take (readK m).2)=(m.take (readK m).2).length:=by
 have key:(readK m).2=pre digB m:=by
  match m,h with
  | c::r,_ =>
   cases h1:letB c with
   | true =>
    exfalso
    revert hk
    cases h4:words.contains ((c::r).take (pre insB (c::r))) with
    | true=>simp only [readK,Al_List_headD_cons,h1,h4,Al_if_true];decide
    | false =>
     by_cases h5:pre insB (c::r)<=12
     ·simp only [readK,Al_List_headD_cons,h1,h4,h5,Al_if_true,Al_Bool_false_eq_true,Al_if_false];decide
     ·simp only [readK,Al_List_headD_cons,h1,h4,h5,Al_if_true,Al_Bool_false_eq_true,Al_if_false];decide
   | false =>
    cases h4:digB c with
    | true =>
     by_cases h5:pre digB (c::r)=1\/c≠48
     ·simp only [readK,Al_List_headD_cons,h1,h4,h5,Al_if_true,Al_Bool_false_eq_true,Al_if_false]
     ·exfalso;revert hk;simp only [readK,Al_List_headD_cons,h1,h4,h5,Al_if_true,Al_Bool_false_eq_true,Al_if_false];decide
    | false =>
     exfalso
     revert hk
     cases hx:symbols.find? (λx=>x.isPrefixOf (c::r)) <;> simp only [readK,Al_List_headD_cons,h1,h4,hx,Al_Bool_false_eq_true,Al_if_false] <;> decide
 rw [key,preF_take,Al_List_length_take,Al_Nat_min_eq_left (pre_le digB m)]
theorem tokF_numF:∀ (f o:Nat) (m:Str),∀ t∈tokF f o m,t.k=3->pre digB t.t=t.t.length
 | 0,_,_,t,h=>by cases h
 | f+1,o,m,t,h=>by
  by_cases h0:m=[]
  ·rw [h0,tokF_nil] at h;cases h
  ·rw [tokF_step h0] at h;rcases Al_List_mem_cons.1 h with rfl | h
   ·exact λhk=>readK_digF h0 hk
   ·exact tokF_numF f _ _ t h
theorem lexR_numF (s:Str):∀ t∈lexR s,t.k=3->pre digB t.t=t.t.length:=tokF_numF _ _ _
theorem tokF_shortF:∀ (f o:Nat) (m:Str),∀ t∈tokF f o m,t.t.length<=m.length
 | 0,_,_,t,h=>by cases h
 | f+1,o,m,t,h=>by
  by_cases h0:m=[]
  ·rw [h0,tokF_nil] at h;cases h
  ·rw [tokF_step h0] at h;rcases Al_List_mem_cons.1 h with rfl | h
   ·show (m.take _).length<=_;rw [Al_List_length_take];omega
   ·have h1:=tokF_shortF f _ _ t h;have h2:=skipS_len false (m.drop (readK m).2);rw [Al_List_length_drop] at h2;omega
theorem lexR_shortF (s:Str):∀ t∈lexR s,t.t.length<=s.length:=λt h=>Al_Nat_le_trans (tokF_shortF _ _ _ t h) (skipS_len false s)

theorem readK_nmF {m:Str} (h:m≠[]) (hk:(readK m).1=1):(m.take (readK m).2).all insB=true:=by
 have key:(readK m).2=pre insB m:=by
  match m,h with
  | c::r,_ =>
   cases h1:letB c with
   | true =>
    revert hk
    cases h4:words.contains ((c::r).take (pre insB (c::r))) with
    | true=>simp only [readK,Al_List_headD_cons,h1,h4,Al_if_true];decide
    | false =>
     by_cases h5:pre insB (c::r)<=12
     ·simp only [readK,Al_List_headD_cons,h1,h4,h5,Al_if_true,Al_Bool_false_eq_true,Al_if_false];exact λ_=>trivial
     ·simp only [readK,Al_List_headD_cons,h1,h4,h5,Al_if_true,Al_Bool_false_eq_true,Al_if_false];intro h;exact absurd h (by decide)
   | false =>
    exfalso
    revert hk
    cases h4:digB c with
    | true =>
     by_cases h5:pre digB (c::r)=1\/c≠48
     ·simp only [readK,Al_List_headD_cons,h1,h4,h5,Al_if_true,Al_Bool_false_eq_true,Al_if_false];decide
     ·simp only [readK,Al_List_headD_cons,h1,h4,h5,Al_if_true,Al_Bool_false_eq_true,Al_if_false];decide
    | false =>
     cases hx:symbols.find? (λx=>x.isPrefixOf (c::r)) <;> simp only [readK,Al_List_headD_cons,h1,h4,hx,Al_Bool_false_eq_true,Al_if_false] <;> decide
 rw [key];unfold pre
 have:m.take (m.takeWhile insB).length=m.takeWhile insB:=by
  have:=List.takeWhile_append_dropWhile (p:=insB) (l:=m)
  conv=>lhs;rw [<-this]
  rw [List.take_left' (by rw [this])]
 rw [this];exact List.all_takeWhile
theorem tokF_nmF:∀ (f o:Nat) (m:Str),∀ t∈tokF f o m,t.k=1->t.t.all insB=true
 | 0,_,_,t,h=>by cases h
 | f+1,o,m,t,h=>by
  by_cases h0:m=[]
  ·rw [h0,tokF_nil] at h;cases h
  ·rw [tokF_step h0] at h;rcases Al_List_mem_cons.1 h with rfl | h
   ·exact λhk=>readK_nmF h0 hk
   ·exact tokF_nmF f _ _ t h
theorem lexR_nmF (s:Str):∀ t∈lexR s,t.k=1->t.t.all insB=true:=tokF_nmF _ _ _
def endT (s:Str):Tk:=⟨0,[],s.length⟩
def tksF (s:Str):Tks:=lexR s++[endT s]
theorem tksF_len (s:Str):(tksF s).length=(lexR s).length+1:=by unfold tksF;rw [Al_List_length_append];rfl
theorem tkf_cases (s:Str) (i:Nat):tkf (tksF s) i∈lexR s\/(tkf (tksF s) i).k=0:=by
 unfold tkf tksF;rw [List.getD_eq_getElem?_getD]
 by_cases h:i<(lexR s).length
 ·rw [List.getElem?_append_left h,List.getElem?_eq_getElem h];exact .inl (Al_List_getElem_mem h)
 ·rw [List.getElem?_append_right (by omega)];cases e:i - (lexR s).length with
  | zero=>exact .inr rfl
  | succ n=>exact .inr rfl
theorem tgd_of (s:Str):Tgd (tksF s):=by
 refine ⟨λi hi hk=>?_,λi hk=>?_,λi hk=>?_⟩
 ·rw [tksF_len] at hi|-;refine Classical.byContradiction λhn=>hk ?_;have e:i=(lexR s).length:=by omega
  unfold tkf tksF;rw [List.getD_eq_getElem?_getD,List.getElem?_append_right (by omega),e,Al_Nat_sub_self];rfl
 ·rcases tkf_cases s i with h | h
  ·exact (lexR_good s _ h).2.2
  ·rw [h] at hk;exact absurd hk (by decide)
 ·rcases tkf_cases s i with h | h
  ·exact nins46 (lexR_nmF s _ h hk)
  ·rw [h] at hk;exact absurd hk (by decide)
/-! ### Lists that are not long -/
section
variable {N:Nat} {l:Tks} {q:Ps} {c:Rq} {o:Ov} {v:Vl} {x:Vb} {f:Fm}
def VbN (N:Nat) (x:Vb):Prop:=∀ v∈x.1,blE N v.e=true/\blF N v.f=true
structure Fbd (N:Nat) (q:Ps):Prop where
 x:VbN N q.x
 op:∀ o∈q.op,blF N o.f=true
theorem blE_z:blE N zE=true:=blE_mk.2 ⟨Al_Nat_zero_le _,λa h=>(by cases h)⟩
theorem blF_z {op:UInt8} {nm fd:Str} {a b:Int64}:blF N (.mk op nm fd a b [] [])=true:=blF_mk.2 ⟨⟨Al_Nat_zero_le _,Al_Nat_zero_le _,λa h=>(by cases h)⟩,λa h=>(by cases h)⟩
theorem blE_args {op:UInt8} {nm:Str} {z:Int64} {es:List Ex} (h:es.length<=N) (k:∀ e∈es,blE N e=true):blE N (.mk op nm z es)=true:=blE_mk.2 ⟨h,k⟩
theorem blF_wAr {gs:List Fm} (h:blF N f=true) (hl:gs.length<=N) (hg:∀ g∈gs,blF N g=true):blF N (f.wAr gs)=true:=by
 obtain ⟨op,nm,fd,a,b,ex,args⟩:=f;have:=blF_mk.1 h;exact blF_mk.2 ⟨⟨this.1.1,hl,this.1.2.2⟩,hg⟩
theorem blF_wEx {es:List Ex} (h:blF N f=true) (hl:es.length<=N) (hg:∀ g∈es,blE N g=true):blF N (f.wEx es)=true:=by
 obtain ⟨op,nm,fd,a,b,ex,args⟩:=f;have:=blF_mk.1 h;exact blF_mk.2 ⟨⟨hl,this.1.2.1,hg⟩,this.2⟩
theorem blF_ex (h:blF N f=true):∀ e∈f.ex,blE N e=true:=by
 obtain ⟨op,nm,fd,a,b,ex,args⟩:=f;exact (blF_mk.1 h).1.2.2
theorem vbn_top (h:VbN N x):blE N (topV x).e=true/\blF N (topV x).f=true:=by
 unfold topV;cases e:x.1 with
 | nil=>exact ⟨blE_z,blF_z⟩
 | cons v r=>exact h v (by rw [e];exact Al_List_mem_cons_self ..)
theorem vbn_tl {b:Bool} (h:VbN N x):VbN N (x.1.tail,b):=λv hv=>h v (List.mem_of_mem_tail hv)
theorem vbn_tS (h:VbN N x):VbN N (tS x):=vbn_tl h
theorem vbn_fS (h:VbN N x):VbN N (fS x):=vbn_tl h
theorem vbn_tE (h:VbN N x):blE N (tE x)=true:=(vbn_top h).1
theorem vbn_fF (h:VbN N x):blF N (fF x)=true:=by
 unfold fF Vl.fm
 split
 ·exact blF_z
 ·exact (vbn_top h).2
theorem vbn_put (h:VbN N x) (he:blE N v.e=true) (hf:blF N v.f=true):VbN N (x.put v):=λu hu=>by
 rcases Al_List_mem_cons.1 hu with rfl | hu
 ·exact ⟨he,hf⟩
 ·exact h u hu
theorem bl1 {e:Ex} (hN:2<=N) (h:blE N e=true):([e]:List Ex).length<=N/\∀ x∈[e],blE N x=true:=⟨by show 1<=N;omega,λx hx=>by rw [Al_List_mem_singleton.1 hx];exact h⟩
theorem bl2 {e g:Ex} (hN:2<=N) (h:blE N e=true) (k:blE N g=true):([e,g]:List Ex).length<=N/\∀ x∈[e,g],blE N x=true:=⟨hN,λx hx=>by
 rcases Al_List_mem_cons.1 hx with rfl | hx
 ·exact h
 ·rw [Al_List_mem_singleton.1 hx];exact k⟩
theorem bf1 {e:Fm} (hN:2<=N) (h:blF N e=true):([e]:List Fm).length<=N/\∀ x∈[e],blF N x=true:=⟨by show 1<=N;omega,λx hx=>by rw [Al_List_mem_singleton.1 hx];exact h⟩
theorem bf2 {e g:Fm} (hN:2<=N) (h:blF N e=true) (k:blF N g=true):([e,g]:List Fm).length<=N/\∀ x∈[e,g],blF N x=true:=⟨hN,λx hx=>by
 rcases Al_List_mem_cons.1 hx with rfl | hx
 ·exact h
 ·rw [Al_List_mem_singleton.1 hx];exact k⟩
theorem vbn_comb (hN:2<=N) (h:VbN N x) (ho:blF N o.f=true):VbN N (comb o x):=by
 unfold comb
 split
 ·have:=bl1 hN (vbn_tE h);exact vbn_put (vbn_tS h) (blE_args this.1 this.2) blF_z
 split
 ·have:=bl2 hN (vbn_tE (vbn_tS h)) (vbn_tE h);exact vbn_put (vbn_tS (vbn_tS h)) (blE_args this.1 this.2) blF_z
 split
 ·have:=bl2 hN (vbn_tE (vbn_tS h)) (vbn_tE h);have k:=bl1 hN (blE_args (op:=o.op) (nm:=[]) (z:=0) this.1 this.2);exact vbn_put (vbn_tS (vbn_tS h)) blE_z (blF_mk.2 ⟨⟨k.1,Al_Nat_zero_le _,k.2⟩,λa h=>(by cases h)⟩)
 split
 ·have:=bf1 hN (vbn_fF h);exact vbn_put (vbn_fS h) blE_z (blF_wAr ho this.1 this.2)
 split
 ·have:=bf2 hN (vbn_fF (vbn_fS h)) (vbn_fF h);exact vbn_put (vbn_fS (vbn_fS h)) blE_z (blF_wAr ho this.1 this.2)
 ·exact h
theorem redL_bd (hN:2<=N) {lv:Nat}:∀ (r:List Ov) (x:Vb),(∀ o∈r,blF N o.f=true)->VbN N x->VbN N (redL lv r x).2
 | [],x,_,h=>h
 | o::r,x,ho,h=>by
  rw [redL]
  split
  ·exact redL_bd hN r _ (λz hz=>ho z (Al_List_mem_cons_of_mem _ hz)) (vbn_comb hN h (ho o (Al_List_mem_cons_self ..)))
  ·exact h
theorem fbd_red (hN:2<=N) {lv:Nat} (h:Fbd N q):Fbd N (redP lv q):=⟨redL_bd hN q.op q.x h.op h.x,λo ho=>h.op o (redL_sub q.op q.x o ho)⟩
theorem fbd_push (h:Fbd N q) (ho:blF N o.f=true):Fbd N (pushS o (q.at c)):=⟨h.x,λz hz=>by
 rcases Al_List_mem_cons.1 hz with rfl | hz
 ·rw [inh_f];exact ho
 ·exact h.op z hz⟩
theorem fbd_give (h:Fbd N q) (he:blE N v.e=true) (hf:blF N v.f=true):Fbd N (giveS v (q.at c)):=⟨vbn_put h.x he hf,h.op⟩
theorem fbd_at (h:Fbd N q):Fbd N (q.at c):=⟨h.x,h.op⟩
theorem fbd_clo (h:Fbd N q) (hx:VbN N x) (he:blE N v.e=true) (hf:blF N v.f=true):Fbd N (cloS c v x q):=⟨vbn_put hx he hf,λo ho=>h.op o (List.mem_of_mem_tail ho)⟩
theorem fbd_if {c:Prop} [Decidable c] {a b:Ps} (h1:c->Fbd N a) (h2:¬ c->Fbd N b):Fbd N (if c then a else b):=by
 by_cases hc:c
 ·rw [Al_if_pos hc];exact h1 hc
 ·rw [Al_if_neg hc];exact h2 hc
theorem fbd_pref {q':Ps} (h:Fbd N q) (e:prefS l q=some q'):Fbd N q':=by
 unfold prefS at e
 split at e
 ·injection e with e;subst e;exact fbd_push h blF_z
 split at e
 ·injection e with e;subst e;exact fbd_push h blF_z
 split at e
 ·injection e with e;subst e;exact fbd_push h blF_z
 split at e
 ·injection e with e;subst e;exact fbd_push h blF_z
 split at e
 ·injection e with e;subst e;exact fbd_push h blF_z
 split at e
 ·injection e with e;subst e;exact fbd_push h blF_z
 split at e
 ·injection e with e;subst e;exact fbd_push h blF_z
 ·cases e
theorem blE0 {op:UInt8} {nm:Str} {z:Int64}:blE N (.mk op nm z [])=true:=blE_args (Al_Nat_zero_le _) λa h=>(by cases h)
theorem fbd_var (h:Fbd N q):Fbd N (varP l q):=by
 unfold varP;exact fbd_if (λ_=>fbd_if (λ_=>fbd_push h blF_z) λ_=>fbd_give h blE0 blF_z) λ_=>fbd_give h blE0 blF_z
theorem fbd_arr (h:Fbd N q):Fbd N (arrP l q):=by
 unfold arrP;exact fbd_if (λ_=>fbd_give h blE_z blF_z) λ_=>fbd_push h blF_z
theorem fbd_re2 (h:Fbd N q):Fbd N (re2P l q):=by
 unfold re2P
 exact fbd_if (λ_=>fbd_push h blF_z) λ_=>fbd_if (λ_=>fbd_push h blF_z) λ_=>fbd_if (λ_=>fbd_give h blE0 blF_z) λ_=>fbd_if (λ_=>fbd_var h) λ_ =>
  fbd_if (λ_=>fbd_give h blE0 blF_z) λ_=>fbd_if (λ_=>fbd_give h blE0 blF_z) λ_=>fbd_if (λ_=>fbd_give h blE_z blF_z) λ_=>fbd_if (λ_=>fbd_give h blE_z blF_z) λ_ =>
  fbd_if (λ_=>fbd_give h blE_z blF_z) λ_=>fbd_if (λ_=>fbd_push h blF_z) λ_=>fbd_if (λ_=>fbd_arr (fbd_at h)) λ_=>fbd_at h
theorem fbd_operand (h:Fbd N q):Fbd N (operandP l q):=by
 unfold operandP;cases e:(if fmsB q then prefS l q else none) with
 | some q' =>
  split at e
  ·exact fbd_pref h e
  ·cases e
 | none =>
  show Fbd N (restP l q);unfold restP;exact fbd_if (λ_=>fbd_give h blE_z blF_z) λ_=>fbd_re2 h
theorem fbd_bet (hN:2<=N) {op:UInt8} (h:Fbd N q):Fbd N (betP l op q):=by
 have f {lv:Nat} {c:Rq}:Fbd N ((redP lv q).at c):=fbd_at (fbd_red hN h);have p {lv:Nat} {c:Rq} {o:Ov} (ho:blF N o.f=true):Fbd N (pushS o ((redP lv q).at c)):=fbd_push (fbd_red hN h) ho;unfold betP;exact fbd_if (λ_=>fbd_if (λ_=>f) λ_=>p blF_z) λ_=>fbd_if (λ_=>fbd_if (λ_=>f) λ_=>p blF_z) λ_=>fbd_if (λ_=>f) λ_=>p blF_z
theorem joV_bl (c:Rq):blF N (c.joV l)=true:=by
 unfold Rq.joV
 split
 ·exact blF_z
 split
 ·exact blF_z
 split
 ·exact blF_z
 split
 ·exact blF_z
 ·exact blF_z
theorem fbd_joi (hN:2<=N) (h:Fbd N q):Fbd N (joiP l q):=by
 unfold joiP;exact fbd_if (λ_=>fbd_at h) λ_=>fbd_push (q:=redP _ q) (c:=q.c.joS l) (fbd_red hN h) (joV_bl _)
theorem fbd_top (h:Fbd N q):blF N (topO q).f=true:=by
 unfold topO;cases e:q.op with
 | nil=>exact blF_z
 | cons o r=>exact h.op o (by rw [e];exact Al_List_mem_cons_self ..)
theorem fex_top (h:Fex q):(topO q).f.ex.length<=q.c.i:=by
 unfold topO;cases e:q.op with
 | nil=>exact Al_Nat_zero_le _
 | cons o r=>exact h o (by rw [e];exact Al_List_mem_cons_self ..)
theorem bl_snoc (h:Fbd N q) (k:Fex q) (hi:q.c.i<N):((topO q).f.ex++[tE q.x]).length<=N/\∀ e∈(topO q).f.ex++[tE q.x],blE N e=true:=by
 refine ⟨?_,λe he=>?_⟩
 ·rw [Al_List_length_append];have:=fex_top k;simp only [Al_List_length_cons,Al_List_length_nil];omega
 ·rcases Al_List_mem_append.1 he with he | he
  ·exact blF_ex (fbd_top h) e he
  ·rw [Al_List_mem_singleton.1 he];exact vbn_tE h.x
theorem fbd_clg (hN:2<=N) (h:Fbd N q) (k:Fex q) (hi:q.c.i<N):Fbd N (clgP l q):=by
 have s:=bl_snoc h k hi;have t:=fbd_top h;have e1:=bl1 hN (vbn_tE h.x);unfold clgP
 refine fbd_if (λ_=>⟨h.x,h.op⟩) λ_=>fbd_if (λ_=>fbd_clo h (vbn_tl h.x) (vbn_top h.x).1 (vbn_top h.x).2) λ_=>fbd_if (λ_=>?_) λ_ =>
  fbd_if (λ_=>fbd_if (λ_=>fbd_clo h (vbn_tS h.x) (blE_args e1.1 e1.2) blF_z) λ_=>fbd_clo h (vbn_tS h.x) blE_z (blF_wEx t e1.1 e1.2)) λ_ =>
  fbd_if (λ_=>⟨vbn_tS h.x,λz hz=>?_⟩) λ_=>fbd_if (λ_=>fbd_clo h (vbn_tS h.x) blE_z (blF_wEx t s.1 s.2)) λ_=>fbd_at h
 ·have n1:=bl1 (e:=.mk 1 [] ((q.c.nx.exS l [62,61]).nbV l) []) hN blE0;have f1:=bf1 hN (vbn_fF h.x);exact fbd_clo h (vbn_fS h.x) blE_z (blF_wAr (blF_wEx t n1.1 n1.2) f1.1 f1.2)
 ·have hz':z∈(⟨(topO q).kd,(topO q).lv,(topO q).tm,(topO q).op,(topO q).f.wEx ((topO q).f.ex++[tE q.x])⟩:Ov)::q.op.tail:=hz;rcases Al_List_mem_cons.1 hz' with e | hz
  ·subst e;exact blF_wEx t s.1 s.2
  ·exact h.op z (List.mem_of_mem_tail hz)
theorem fbd_step (hN:2<=N) (h:Fbd N q) (k:Fex q) (hi:q.c.i<N):Fbd N (stepP l q):=by
 unfold stepP;refine fbd_if (λ_=>?_) λ_=>fbd_operand h;unfold operatorP;cases q.c.sym l with
 | some i=>exact fbd_bet hN h
 | none =>
  show Fbd N (othP l q);unfold othP;exact fbd_if (λ_=>fbd_joi hN h) λ_=>fbd_if (λ_=>fbd_clg hN (fbd_red hN h) (fex_red k) hi) λ_=>fbd_at h
theorem fbd_ini:Fbd N iniP:=⟨λv h=>(by cases h),λo ho=>by rw [Al_List_mem_singleton.1 ho];exact blF_z⟩
/-! ### Where it ends, an operand stands ready -/
def Dnr (q:Ps):Prop:=q.dn=false\/q.rd=true
theorem dnr_if {c:Prop} [Decidable c] {a b:Ps} (h1:c->Dnr a) (h2:¬ c->Dnr b):Dnr (if c then a else b):=by
 by_cases hc:c
 ·rw [Al_if_pos hc];exact h1 hc
 ·rw [Al_if_neg hc];exact h2 hc
theorem dnr_step (hd:q.dn=false):Dnr (stepP l q):=by
 have pu {o:Ov} {c:Rq}:Dnr (pushS o (q.at c)):=.inl hd;have gi {v:Vl} {c:Rq}:Dnr (giveS v (q.at c)):=.inl hd;have at_ {c:Rq}:Dnr (q.at c):=.inl hd
 have opd:Dnr (operandP l q):=by
  unfold operandP;cases e:(if fmsB q then prefS l q else none) with
  | some q' =>
   split at e
   ·unfold prefS at e
    split at e
    ·injection e with e;subst e;exact pu
    split at e
    ·injection e with e;subst e;exact pu
    split at e
    ·injection e with e;subst e;exact pu
    split at e
    ·injection e with e;subst e;exact pu
    split at e
    ·injection e with e;subst e;exact pu
    split at e
    ·injection e with e;subst e;exact pu
    split at e
    ·injection e with e;subst e;exact pu
    ·cases e
   ·cases e
  | none =>
   show Dnr (restP l q);unfold restP re2P varP arrP
   refine dnr_if (λ_=>gi) λ_=>dnr_if (λ_=>pu) λ_=>dnr_if (λ_=>pu) λ_=>dnr_if (λ_=>gi) λ_=>dnr_if (λ_=>dnr_if (λ_=>dnr_if (λ_=>pu) λ_=>gi) λ_=>gi) λ_ =>
    dnr_if (λ_=>gi) λ_=>dnr_if (λ_=>gi) λ_=>dnr_if (λ_=>gi) λ_=>dnr_if (λ_=>gi) λ_=>dnr_if (λ_=>gi) λ_=>dnr_if (λ_=>pu) λ_=>dnr_if (λ_=>dnr_if (λ_=>.inl hd) λ_=>.inl hd) λ_=>at_
 unfold stepP;refine dnr_if (λhr=>?_) λ_=>opd;unfold operatorP;cases q.c.sym l with
 | some i =>
  show Dnr (betP l _ q);unfold betP;exact dnr_if (λ_=>dnr_if (λ_=>.inl hd) λ_=>.inl hd) λ_=>dnr_if (λ_=>dnr_if (λ_=>.inl hd) λ_=>.inl hd) λ_=>dnr_if (λ_=>.inl hd) λ_=>.inl hd
 | none =>
  show Dnr (othP l q);unfold othP joiP clgP;exact dnr_if (λ_=>dnr_if (λ_=>.inl hd) λ_=>.inl hd) λ_=>dnr_if (λ_=>dnr_if (λ_=>.inr hr) λ_=>dnr_if (λ_=>.inl hd) λ_=>dnr_if (λ_=>.inl hd) λ_=>dnr_if (λ_=>dnr_if (λ_=>.inl hd) λ_=>.inl hd) λ_=>dnr_if (λ_=>.inl hd) λ_=>dnr_if (λ_=>.inl hd) λ_=>.inl hd) λ_=>.inl hd
end
variable {H':Hp}
theorem tok_rowF {x:TkS} {l:List Value} (h:RepZ H 3 [dTk .u8 x.1] l):RepZ H' 3 (List.map (dTk .u8) (List.map (·.1) [x])) l:=by
 unfold RepZ at h;obtain ⟨a,y,rfl,_,h1,h2⟩:=h;unfold RepZ at h2;subst h2;rw [Al_List_append_nil];obtain ⟨rfl,_⟩:=tk_open h1;exact .single (tk_shut x.2) Z
theorem zf_rep (H:Hp):Rep H (dFm .u8 zF) [.int .u8 0,.string ⟨#[]⟩,.string ⟨#[]⟩,.int .i64 0,.int .i64 0,.slice none 0 0,.slice none 0 0]:=fm_shut (op:=0) (nm:=[]) (fd:=[]) (a:=0) (b:=0) (ex:=[]) (args:=[]) (by decide) (by decide) Rep.nil4 Rep.nil4
def muF (l:Tks) (q:Ps):Nat:=if q.fin then 0 else l.length - q.c.i
theorem mu_step {l:Tks} {q q':Ps} (h:¬ q.fin) (g:q'.fin\/q.c.i<q'.c.i) (hi:q.c.i<l.length):muF l q'<muF l q:=by
 unfold muF;rw [Al_if_neg h]
 split
 ·omega
 ·rename_i h2;rcases g with g | g
  ·exact absurd g h2
  ·omega
section
variable {c:Rq} {op:List Ov} {v:Vl} {V:List Vl} {bd rd dn:Bool} {x:Vb}
theorem end_er (h:¬ c.er=0):endP ⟨c,op,x,rd,dn⟩=(zF,c.off,c.er):=by unfold endP;exact Al_if_pos h
theorem end_bad (h:c.er=0) (hb:(bd || v.noF)=true):endP ⟨c,op,(v::V,bd),rd,dn⟩=(zF,0,6):=by
 unfold endP;rw [Al_if_neg (show ¬ ¬ c.er=0 by rw [h];decide),Al_if_pos (show (fS (v::V,bd)).2=true from hb)]
theorem end_chk (h:c.er=0) (hb:(bd || v.noF)=false) (hc:¬ fcheck v.fm=0):endP ⟨c,op,(v::V,bd),rd,dn⟩=(zF,0,fcheck v.fm):=by
 unfold endP;rw [Al_if_neg (show ¬ ¬ c.er=0 by rw [h];decide),Al_if_neg (show ¬ (fS (v::V,bd)).2=true by rw [show (fS (v::V,bd)).2=false from hb];decide)];exact Al_if_pos hc
theorem end_ok (h:c.er=0) (hb:(bd || v.noF)=false) (hc:fcheck v.fm=0):endP ⟨c,op,(v::V,bd),rd,dn⟩=(v.fm,0,0):=by
 unfold endP;rw [Al_if_neg (show ¬ ¬ c.er=0 by rw [h];decide),Al_if_neg (show ¬ (fS (v::V,bd)).2=true by rw [show (fS (v::V,bd)).2=false from hb];decide)];exact Al_if_neg (show ¬ ¬ fcheck v.fm=0 by rw [hc];decide)
end
set_option maxHeartbeats 4000000 in
theorem fparse_any (H:Hp) (G:Gl H) (Gt:Gf H) (t:Str) (hl:t.length<=400000) (w:World) (hA:Agr H w) :
 Calls prg 26 #[strV t] w λe W'=>∃ (cs:List Value) (H':Hp),Rep H' (dFm .u8 (parF (tksF t)).1) cs/\e=.returned (.tuple #[.agg cs.toArray,iN ((parF (tksF t)).2.1),iN ((parF (tksF t)).2.2)])/\Grow H w H' W':=by
 refine Sx.enterM (H:=H) func26 rfl ntmps26 rfl hA ?_;refine .sr<|.al Fx.zero35 Z λb2=>.a Z Z<|.a Z Z<|.ns<|.yw (.build Z (Fx.bld97_0 _))<|.blR (z:=11) Z (Fx.bsl98_1 _ _ _ _ _ _ _ _ _ _ _) Z Z (by simp [maxLen]) λb10=>.yw (.build Z (Fx.bld102_2 _ _ _))<|.bx Z Z Z λb12=>.al Fx.zero94 Z λb5=>.st .head Z Z Fx.size94 Z (nb Z) Z<|.nt<|.sq<|.sm Z<|.ct (X:=Nat) Fx.call54 Z (λW s=>lex_any H t W s.agr) Z λb1 H1 m1 u1=>.nt<|.bk<|?_
 refine Sx.row0 108 3 ?_;refine At.pm [0,2,1,3,4] [_,_,_,_,_] rfl rfl ?_
 refine At.rfB (α:=TkS) (Z:=Value × Nat × List Value) (N:=t.length+1) (e:=108) (T:=102) (TX:=108) (size:=3) (p:=b12) (fx:=[.box b5 [.pointer (some ⟨b12,0,none⟩)] 94,.row 97 11 (.slice (some ⟨b10,0,none⟩) 1 1) 1 [.int .u8 1,.int .i64 0,.bool false,.int .u8 0,.int .u8 0,.string ⟨#[]⟩,.string ⟨#[]⟩,.int .i64 0,.int .i64 0,.slice none 0 0,.slice none 0 0],.box b2 [.int .u8 0,.string ⟨#[]⟩,.string ⟨#[]⟩,.int .i64 0,.int .i64 0,.slice none 0 0,.slice none 0 0] 35]) (enc:=λx:TkS=>.agg (cTk .u8 x.1).toArray) (S:=λxs=>xs.map (·.1)=lexR t)
  (λpre z=>z.2.1=pre.length/\RepZ H1 3 ((pre.map (·.1)).map (dTk .u8)) z.2.2) (λz=>z.1) (λz=>z.2.1) (λz=>z.2.2) (λ_=>[.int .i64 0,.slice (some ⟨b10,0,none⟩) 1 1,.slice none 0 0,.bool false,.bool false,.bool false,.int .i64 0,.int .i64 0]) (.slice none 0 0,0,[])
  (λ_ b=>[(0,strV t),(5,.pointer (some ⟨b5,0,none⟩)),(6,.pointer (some ⟨b,0,none⟩))]) (λx=>cTk .u8 x.1) rfl (λ_ _=>run_callFunc Fx.call95) rfl (λw hA=>lex_seq H1 (G.up u1.up) t (by omega) (λx hx=>Al_Nat_le_trans (lexR_shortF t x hx) (by omega)) b1 m1 w hA) ⟨rfl,RepZ.nil⟩ rfl rfl ?_ ?_ ?_
 ·intro l x bs' K h;exact .rgI<|.alI Fx.zero108 Z λb=>.sWI .head Z Z Fx.size108 (by simp [cTk,Value.oneCell',strV]) Z<|.nlI<|.tN<|λa W f s=>h b a W (f.sub ⟨rfl,rfl,rfl,trivial⟩) s
 ·intro l' pre x z tl b H2 hC hlen u2 m2;obtain ⟨v,k,xs⟩:=z;obtain ⟨hk,hz⟩:=hC;dsimp only at hk hz|-;change At [] _ _ H2 w (.row 108 3 v k xs::.box b12 (v::[.int .i64 0,.slice (some ⟨b10,0,none⟩) 1 1,.slice none 0 0,.bool false,.bool false,.bool false,.int .i64 0,.int .i64 0]) 102::.box b5 [.pointer (some ⟨b12,0,none⟩)] 94::.row 97 11 (.slice (some ⟨b10,0,none⟩) 1 1) 1 [.int .u8 1,.int .i64 0,.bool false,.int .u8 0,.int .u8 0,.string ⟨#[]⟩,.string ⟨#[]⟩,.int .i64 0,.int .i64 0,.slice none 0 0,.slice none 0 0]::.box b2 [.int .u8 0,.string ⟨#[]⟩,.string ⟨#[]⟩,.int .i64 0,.int .i64 0,.slice none 0 0,.slice none 0 0] 35::tl) _;refine At.ra Hm λpv cv ev=>?_;subst ev;refine .bkI<|.flI (trip:=[(_,_,_),(_,_,_),(_,_,_),(_,_,_),(_,_,_),(_,_,_),(_,_,_),(_,_,_)]) 8 [(0,0),(1,0),(2,0),(3,0),(4,0),(5,0),(6,1),(7,3)] (by kernel_rfl) (by kernel_rfl) (by kernel_rfl) Z<|.lD Z Fx.agg94 mem2 Z<|.lD Z Fx.agg94 mem2 Z<|.nC Z<|.fA Z Fx.field102_0<|.lD Z Fx.agg99 mem1 Z<|.yw (.loadMW Z Fx.agg108 m2 Z)<|.blF Z (Fx.bsl99_1 _ _ _) Z λb22 H3 u3 m3=>.apD Fx.row99 Z (λ_ _=>.head) Z (Rep.mk (n:=1) (c:=1) (ds:=[dTk .u8 x.1]) m3 (.single (tk_shut x.2) Z) Z (Al_Nat_le_refl _) (by decide)) (by simp [maxLen];omega) (by omega) Z (λ_ _=>(.d3<|.d2<|.yv (.load Z Fx.agg94 mem2 Z)<|.nl)) λxs26 p26 c26 hz26=>.fn (tl:=[_,_,_]) Z<|.nC Z<|.fA Z Fx.field102_0<|.st upd1 Z Z Fx.size99 Z (nb Z) Z<|.nlQ<|.bN<|?_
  refine At.rE ((.slice p26 (k+1) c26,k+1,xs++xs26):Value × Nat × List Value) (u2.trans u3.up) ?_ rfl;exact ⟨by simp [hk],by rw [Al_List_map_append,Al_List_map_append];exact hz.app (tok_rowF hz26)⟩
 intro D ys z hS hC;obtain ⟨v,k,xs⟩:=z;obtain ⟨hk,hz⟩:=hC;dsimp only at hk hz|-;change At _ _ _ H1 w (.obj D (.deferred (some []))::.row 108 3 v k xs::.box b12 (v::[.int .i64 0,.slice (some ⟨b10,0,none⟩) 1 1,.slice none 0 0,.bool false,.bool false,.bool false,.int .i64 0,.int .i64 0]) 102::.box b5 [.pointer (some ⟨b12,0,none⟩)] 94::.row 97 11 (.slice (some ⟨b10,0,none⟩) 1 1) 1 [.int .u8 1,.int .i64 0,.bool false,.int .u8 0,.int .u8 0,.string ⟨#[]⟩,.string ⟨#[]⟩,.int .i64 0,.int .i64 0,.slice none 0 0,.slice none 0 0]::.box b2 [.int .u8 0,.string ⟨#[]⟩,.string ⟨#[]⟩,.int .i64 0,.int .i64 0,.slice none 0 0,.slice none 0 0] 35::[]) _;refine At.ra mem1 λpv cv ev=>?_;subst ev;have hkl:k<=t.length:=by have:=lexR_len t;rw [<-hS,Al_List_length_map] at this;omega
 refine .bN<|.tN<|.sq<|.fL 10 [(0,0),(1,0),(2,0),(3,0),(4,0),(5,0),(6,0),(7,0),(8,1),(9,3)]<|.lD Z Fx.agg94 mem3 Z<|.lD Z Fx.agg94 mem3 Z<|.nC Z<|.fA Z Fx.field102_0<|.lD Z Fx.agg99 mem2 Z<|.mv Z<|.yw (.lenS Fx.str9 Z)<|.yw (.build Z (Fx.bld108_2 _))<|.blF Z (Fx.bsl99_1 _ _ _) Z λb34 H3 u3 m3=>.apD Fx.row99 Z (λ_ _=>upd1) Z (Rep.mk (n:=1) (c:=1) (ds:=[dTk .u8 (endT t)]) m3 (.single (tk_shut (x:=endT t) (Al_Nat_zero_le _)) Z) Z (Al_Nat_le_refl _) (by decide)) (by simp [maxLen];omega) (by omega) Z (λ_ _=>(.d4<|.d3<|.yv (.load Z Fx.agg94 mem3 Z)<|.nl)) λxs35 p35 c35 hz35=>.fn (tl:=[_,_,_]) Z<|.nC Z<|.fA Z Fx.field102_0<|.st upd2 Z Z Fx.size99 Z (nb Z) Z<|?_
 refine At.pm [1,0,2,3,4,5] [_,_,_,_,_,_] rfl rfl ?_
 have hz2:RepZ H3 3 ((tksF t).map (dTk .u8)) (xs++xs35):=by
  unfold tksF;rw [Al_List_map_append,<-hS];exact (hz.up u3.up).app hz35
 have hlen:((tksF t).map (dTk .u8)).length=k+1:=by rw [Al_List_length_map,tksF_len,<-hS,Al_List_length_map,hk]
 refine freezeSeq hlen hz2 λH4 p4 c4 u4 e4 h4=>?_;injection e4 with e5 _ e6
 subst e5 e6;rw [Al_List_length_map] at hlen;rw [<-hlen]
 have K:Tkf H4 (tksF t) p35 c35:=⟨by rw [hlen];exact h4,tgd_of t,λx hx=>by
  rcases Al_List_mem_append.1 hx with hx | hx
  ·exact Al_Nat_le_trans (lexR_shortF t x hx) hl
  ·rw [Al_List_mem_singleton.1 hx];exact Al_Nat_zero_le _,by rw [tksF_len];have:=lexR_len t;omega,λx hx hk=>by
  rcases Al_List_mem_append.1 hx with hx | hx
  ·exact ⟨lexR_numF t x hx hk,(lexR_good t x hx).2.2⟩
  ·rw [Al_List_mem_singleton.1 hx] at hk;exact (by cases hk)⟩
 obtain ⟨p4,hp4⟩:∃ p,p=p35:=⟨_,rfl⟩;obtain ⟨c4,hc4⟩:∃ c,c=c35:=⟨_,rfl⟩;subst hp4 hc4;have G4:=((G.up u1.up).up u3.up).up u4.up;have GT4:=((Gt.up u1.up).up u3.up).up u4.up;refine Sx.row0 179 13 ?_;refine .nt<|.sq<|.bk<|.pm [2,4,0,1,3,5] [_,_,_,_,_,_] Z Z<|.lp (X:=Hp × Value × Value × List Value × List Value × List Res × Ps) [(2,_),(5,_)] ⟨rfl,rfl,trivial⟩ [_,_,_] (λz=>[]) (λz=>z.1) (λz=>[.box b12 [.slice p4 (tksF t).length c4,iN z.2.2.2.2.2.2.c.i,z.2.1,z.2.2.1,.bool z.2.2.2.2.2.2.rd,.bool z.2.2.2.2.2.2.dn,.bool z.2.2.2.2.2.2.x.2,iN z.2.2.2.2.2.2.c.off,iN z.2.2.2.2.2.2.c.er] 102,.row 97 11 (z.2.1) (z.2.2.2.2.2.2.op.length) (z.2.2.2.1),.row 179 13 (z.2.2.1) (z.2.2.2.2.2.2.x.1.length) (z.2.2.2.2.1)]++z.2.2.2.2.2.1) (λz=>HUp w H4 z.1/\Sq z.1 z.2.2.2.2.2.2 z.2.2.2.1 z.2.2.2.2.1 z.2.2.2.2.2.1/\Fwf (tksF t) z.2.2.2.2.2.2/\Fex z.2.2.2.2.2.2/\Fbd 600000 z.2.2.2.2.2.2/\Rch (tksF t) iniP z.2.2.2.2.2.2/\Dnr z.2.2.2.2.2.2) (λz=>muF (tksF t) z.2.2.2.2.2.2) (H4,.slice (some ⟨b10,0,none⟩) 1 1,.slice none 0 0,[.int .u8 1,.int .i64 0,.bool false,.int .u8 0,.int .u8 0,.string ⟨#[]⟩,.string ⟨#[]⟩,.int .i64 0,.int .i64 0,.slice none 0 0,.slice none 0 0],[],[],iniP) (λ_ s=>s) trivial ⟨.refl,⟨Ops.cons (xo:=[]) (AR:=[]) .nil (by decide) (FmR.zero Z Z (Al_Nat_zero_le _) (Al_Nat_zero_le _)),.nil⟩,wf_ini (by rw [tksF_len];exact Nat.succ_pos _),(λo ho=>by rw [Al_List_mem_singleton.1 ho];exact Al_Nat_zero_le _),fbd_ini,.refl,.inl Z⟩ λz hC=>?_
 obtain ⟨H5,ro,rv,xo,xv,AR,q1⟩:=z;obtain ⟨u5,S,Wq,FE,FB,RC,DR⟩:=hC;dsimp only at u5 S Wq FE FB RC DR|-;have K5:=K.up u5.up;refine Sx.reSt (λW s=>St.mid (a:=[_,_,_]) (d:=AR) (c:=[_,_,_]) (e:=[]) s) ?_;obtain ⟨q,op,x,rd,dn⟩:=q1;dsimp only;refine .sq<|.sr<|.lD Z Fx.agg94 mem4 Z<|.nC Z<|.fA Z Fx.field102_5<|.lD Z Fx.agg4 Hm Z<|.yw (.not Z)<|.mv Z<|.b2 (λh43=>?_) (λh43=>?_)
 ·have hd:dn=false:=by simpa using h43
  refine .gy (.load Z Fx.agg94 mem4 Z)<|.gy (.nilCheck Z)<|.gy (.fieldAddr Z Fx.field102_8)<|.gy (.load Z Fx.agg29 Hm Z)<|.gy (.eql Z Z)<|.yw (.pickT Z Z)<|.nt<|.cd Z (λh49=>?_) (λh49=>?_)
  ·have h0:q.er=0:=by have:=Al_of_decide_eq_true h49;omega
   have hnf:¬ (Ps.fin ⟨q,op,x,rd,dn⟩):=λe=>by
    rcases e with e | e
    ·rw [show dn=true from e] at hd;cases hd
    ·exact e h0
   have ST:=stp_step K.gd.last Wq hnf;have RS:=RC.trans (.one h0 hd rfl);have DS:=dnr_step (l:=tksF t) (q:=⟨q,op,x,rd,dn⟩) hd;have FS:=fbd_step (l:=tksF t) (by decide) FB FE (Al_Nat_lt_of_lt_of_le Wq.i K.few);have FT:=fex_step (l:=tksF t) FE;refine .sk<|.tN<|.bk<|.sr<|.lD Z Fx.agg94 mem4 Z<|.nC Z<|.fA Z Fx.field102_4<|.lD Z Fx.agg4 Hm Z<|.nt<|.cd Z (λh53=>?_) (λh53=>?_)
   ·have hr:rd=true:=h53;subst hr;refine .rg<|.lD Z Fx.agg94 mem4 Z<|.cs (X:=Hp × Value × Value × List Value × List Value × List Res) Fx.call55 Z (λW s=>operator_f K5 Wq S (GT4.up u5.up) h0 FE (St.mid (a:=[_,_,_]) (d:=[_,_,_]) (s.pickT (hd:=[_,_,_,_,_,_]) (tl:=(AR++[])) (hd':=[_,_,_,_,_,_]) [0,1,2,3,4,5] Z Z))) Z λz9 hz9=>?_
    obtain ⟨H6,ro6,rv6,xo6,xv6,AR6⟩:=z9;obtain ⟨u6,S⟩:=hz9;dsimp only at u6 S|-;refine Sx.reSt (λW s=>St.mid (a:=[_,_,_]) (d:=AR6) (c:=[_,_,_]) s) ?_;exact .nl<|.bN<|.tN<|.ag (x:=((H5,ro,rv,xo,xv,AR,(⟨q,op,x,true,dn⟩:Ps)):Hp × Value × Value × List Value × List Value × List Res × Ps)) (H6,ro6,rv6,xo6,xv6,AR6,stepP (tksF t) ⟨q,op,x,true,dn⟩) trivial ⟨rfl,rfl,trivial⟩ (λ_ s=>St.mid (a:=[_,_,_]) (d:=[_,_,_]) (c:=AR6) (e:=[]) s) ⟨u5.trans u6,S,ST.wf,FT,FS,RS,DS⟩ (mu_step hnf ST.go Wq.i)
   have hr:rd=false:=h53;subst hr;refine .rg<|.lD Z Fx.agg94 mem4 Z<|.cs (X:=Hp × Value × Value × List Value × List Value × List Res) Fx.call56 Z (λW s=>operand_f K5 Wq S (St.mid (a:=[_,_,_]) (d:=[_,_,_]) (s.pickT (hd:=[_,_,_,_,_,_]) (tl:=(AR++[])) (hd':=[_,_,_,_,_,_]) [0,1,2,3,4,5] Z Z))) Z λz9 hz9=>?_
   obtain ⟨H6,ro6,rv6,xo6,xv6,AR6⟩:=z9;obtain ⟨u6,S⟩:=hz9;dsimp only at u6 S|-;refine Sx.reSt (λW s=>St.mid (a:=[_,_,_]) (d:=AR6) (c:=[_,_,_]) s) ?_;exact .nl<|.bN<|.tN<|.ag (x:=((H5,ro,rv,xo,xv,AR,(⟨q,op,x,false,dn⟩:Ps)):Hp × Value × Value × List Value × List Value × List Res × Ps)) (H6,ro6,rv6,xo6,xv6,AR6,stepP (tksF t) ⟨q,op,x,false,dn⟩) trivial ⟨rfl,rfl,trivial⟩ (λ_ s=>St.mid (a:=[_,_,_]) (d:=[_,_,_]) (c:=AR6) (e:=[]) s) ⟨u5.trans u6,S,ST.wf,FT,FS,RS,DS⟩ (mu_step hnf ST.go Wq.i)
  have hfin:(Ps.fin ⟨q,op,x,rd,dn⟩):=.inr (λe=>Al_of_decide_eq_false h49 (by rw [show q.er=0 from e];rfl));refine .ex<|.eb<|.sq<|.sq<|?_
  have EP:parF (tksF t)=endP ⟨q,op,x,rd,dn⟩:=by unfold parF;rw [run_unique RC hfin (run_end K.gd.last (tksF t).length iniP (wf_ini (by rw [tksF_len];exact Nat.succ_pos _)) (by show _<=0+_;omega)).1]
  refine .rg<|.lD Z Fx.agg94 mem4 Z<|.nC Z<|.fA Z Fx.field102_8<|.lD Z Fx.agg29 Hm Z<|.yw (.neq Z Z)<|.nt<|.cd Z (λh62=>?_) (λh62=>?_)
  ·have hne:¬ q.er=0:=λe=>Al_of_decide_eq_true h62 (by rw [e];rfl);refine .sq<|.fL 11 [(0,0),(1,0),(2,0),(3,0),(4,0),(5,0),(6,0),(7,0),(8,0),(9,3),(10,0)]<|.yw (.build Z Fx.bld35)<|.lD Z Fx.agg94 mem4 Z<|.nC Z<|.fA Z Fx.field102_7<|.lD Z Fx.agg3 Hm Z<|.lD Z Fx.agg94 mem4 Z<|.nC Z<|.fA Z Fx.field102_8<|.lD Z Fx.agg29 Hm Z<|.sW upd5 Z Z Fx.size35 (by simp [Value.oneCell',strV]) Z ((.yv (.load Z Fx.agg29 Hm Z)<|.yv (.fieldAddr Z Fx.field102_8)<|.yv (.nilCheck Z)<|.yv (.load Z Fx.agg94 mem4 Z)<|.yv (.load Z Fx.agg3 Hm Z)<|.yv (.fieldAddr Z Fx.field102_7)<|.yv (.nilCheck Z)<|.yv (.load Z Fx.agg94 mem4 Z)<|.dn<|.nl))<|.a Z Z<|.fn (tl:=[_]) Z<|.az Z<|.tR<|?_
   refine Sx.retM (.inl rfl) upd3 ?_;refine y7 Z (.cons (.cell rfl Fx.agg35 mem5 rfl) (.cons (.tmp rfl) (.cons (.tmp rfl) .nil))) rfl λW s=>?_;rw [EP,end_er hne];exact ⟨[.int .u8 0,.string ⟨#[]⟩,.string ⟨#[]⟩,.int .i64 0,.int .i64 0,.slice none 0 0,.slice none 0 0],H5,zf_rep _,rfl,(((u1.trans u3).trans u4).trans u5).grow s⟩
  have he0:q.er=0:=by have:=Al_of_decide_eq_false h62;omega
  have hd:dn=true:=by
   rcases hfin with e | e
   ·exact e
   ·exact (e he0).elim
  have hr:rd=true:=by
   rcases DR with e | e
   ·rw [show dn=false from e] at hd;cases hd
   ·exact e
  subst hr;have hv1:1<=x.1.length:=by have:=Wq.vs;dsimp only at this;rw [this];exact Nat.le_add_left _ _
  obtain ⟨hn1,hn2⟩:=wf_len Wq K.few;dsimp only at hn1 hn2;obtain ⟨vs,bd⟩:=x;dsimp only at hv1 hn2;obtain ⟨v,V,rfl⟩:=list1 hv1;dsimp only [List.length_cons] at hn2;obtain ⟨yr,t0,t1,t2,e8,VS1,V1⟩:=VR.inv S.vls;try dsimp only at e8
  subst e8;have l1:=VS1.len;obtain ⟨q1,q2,ef,FR⟩:=fm_lay V1;have FBv:=vbn_fF FB.x;dsimp only;refine .sk<|.tN<|.sr<|.lD Z Fx.agg94 mem4 Z<|.cs (X:=Nat × Nat) Fx.call57 Z (λW s=>formula_f K5 Wq.i V1.one V1.e.nm (by omega) l1 (s.pickT (hd:=[_,_,_,_,_,_]) (tl:=(AR++[])) (hd':=[_,_,_,_,_,_]) [0,2,1,3,4,5] Z Z)) Z λp1 _=>?_
  rw [ef];refine .al Fx.zero35 Z λb7=>.sW .head Z Z Fx.size35 (by intro a ha;exact Rep.one FR.rep a ha) Z<|.nt<|.sq<|.sr<|.lD Z Fx.agg94 mem5 Z<|.nC Z<|.fA Z Fx.field102_6<|.lD Z Fx.agg4 mem1 Z<|.nt<|.cd Z (λh77=>?_) (λh77=>?_)
  ·have hbd:(bd || v.noF)=true:=h77;refine .sr<|.yw (.build Z Fx.bld35)<|.sX upd6 Z Z Fx.size35 Z<|.a Z Z<|.az Z<|.tR<|?_
   refine Sx.retM (.inl rfl) upd4 ?_;refine y7 Z (.cons (.cell rfl Fx.agg35 mem6 rfl) (.cons (.tmp rfl) (.cons (.tmp rfl) .nil))) rfl λW s=>?_;rw [EP,end_bad he0 hbd];exact ⟨[.int .u8 0,.string ⟨#[]⟩,.string ⟨#[]⟩,.int .i64 0,.int .i64 0,.slice none 0 0,.slice none 0 0],H5,zf_rep _,rfl,(((u1.trans u3).trans u4).trans u5).grow s⟩
  have hbd:(bd || v.noF)=false:=h77;refine .sk<|.tN<|.sq<|.sr<|.yw (.loadW Z Fx.agg35 Hm Z)<|.yw (.call Fx.call15 Z (λW s=>fcheck_any H5 (G4.up u5.up) (GT4.up u5.up) v.fm FBv _ W FR.rep s.agr))<|.a Z Z<|.ns<|.mv Z<|.yw (.neq Z Z)<|.nt<|.cd Z (λh82=>?_) (λh82=>?_)
  ·have hck:¬ fcheck v.fm=0:=λe=>Al_of_decide_eq_true h82 (by rw [e];rfl);refine .sr<|.yw (.build Z Fx.bld35)<|.mv Z<|.sX upd6 Z Z Fx.size35 Z<|.a Z Z<|.az Z<|.tR<|?_
   refine Sx.retM (.inl rfl) upd4 ?_;refine y7 Z (.cons (.cell rfl Fx.agg35 mem6 rfl) (.cons (.tmp rfl) (.cons (.tmp rfl) .nil))) rfl λW s=>?_;rw [EP,end_chk he0 hbd hck];exact ⟨[.int .u8 0,.string ⟨#[]⟩,.string ⟨#[]⟩,.int .i64 0,.int .i64 0,.slice none 0 0,.slice none 0 0],H5,zf_rep _,rfl,(((u1.trans u3).trans u4).trans u5).grow s⟩
  have hck:fcheck v.fm=0:=by have:=Al_of_decide_eq_false h82;omega
  refine .sk<|.tN<|.sr<|.yw (.loadW Z Fx.agg35 Hm Z)<|.sW upd6 Z Z Fx.size35 (by intro a ha;exact Rep.one FR.rep a ha) Z<|.a Z Z<|.az Z<|?_
  refine Sx.retM (.inl rfl) upd4 ?_;refine y7 Z (.cons (.cell rfl Fx.agg35 mem6 rfl) (.cons (.tmp rfl) (.cons (.tmp rfl) .nil))) rfl λW s=>?_;rw [EP,end_ok he0 hbd hck];exact ⟨cFm .u8 v.fm.op v.fm.nm v.fm.fd v.fm.a v.fm.b q1 q2,H5,FR.rep,rfl,(((u1.trans u3).trans u4).trans u5).grow s⟩
 have hd:dn=true:=by simpa using h43
 have hfin:(Ps.fin ⟨q,op,x,rd,dn⟩):=.inl hd;refine .gG<|.gG<|.gG<|.gG<|.gG<|.yw (.pickF Z Z)<|.nt<|.cF Z<|.ex<|.eb<|.sq<|.sq<|?_
 have EP:parF (tksF t)=endP ⟨q,op,x,rd,dn⟩:=by unfold parF;rw [run_unique RC hfin (run_end K.gd.last (tksF t).length iniP (wf_ini (by rw [tksF_len];exact Nat.succ_pos _)) (by show _<=0+_;omega)).1]
 refine .rg<|.lD Z Fx.agg94 mem4 Z<|.nC Z<|.fA Z Fx.field102_8<|.lD Z Fx.agg29 Hm Z<|.yw (.neq Z Z)<|.nt<|.cd Z (λh62=>?_) (λh62=>?_)
 ·have hne:¬ q.er=0:=λe=>Al_of_decide_eq_true h62 (by rw [e];rfl);refine .sq<|.fL 11 [(0,0),(1,0),(2,0),(3,0),(4,0),(5,0),(6,0),(7,0),(8,0),(9,3),(10,0)]<|.yw (.build Z Fx.bld35)<|.lD Z Fx.agg94 mem4 Z<|.nC Z<|.fA Z Fx.field102_7<|.lD Z Fx.agg3 Hm Z<|.lD Z Fx.agg94 mem4 Z<|.nC Z<|.fA Z Fx.field102_8<|.lD Z Fx.agg29 Hm Z<|.sW upd5 Z Z Fx.size35 (by simp [Value.oneCell',strV]) Z ((.yv (.load Z Fx.agg29 Hm Z)<|.yv (.fieldAddr Z Fx.field102_8)<|.yv (.nilCheck Z)<|.yv (.load Z Fx.agg94 mem4 Z)<|.yv (.load Z Fx.agg3 Hm Z)<|.yv (.fieldAddr Z Fx.field102_7)<|.yv (.nilCheck Z)<|.yv (.load Z Fx.agg94 mem4 Z)<|.dn<|.nl))<|.a Z Z<|.fn (tl:=[_]) Z<|.az Z<|.tR<|?_
  refine Sx.retM (.inl rfl) upd3 ?_;refine y7 Z (.cons (.cell rfl Fx.agg35 mem5 rfl) (.cons (.tmp rfl) (.cons (.tmp rfl) .nil))) rfl λW s=>?_;rw [EP,end_er hne];exact ⟨[.int .u8 0,.string ⟨#[]⟩,.string ⟨#[]⟩,.int .i64 0,.int .i64 0,.slice none 0 0,.slice none 0 0],H5,zf_rep _,rfl,(((u1.trans u3).trans u4).trans u5).grow s⟩
 have he0:q.er=0:=by have:=Al_of_decide_eq_false h62;omega
 have hd:dn=true:=by
  rcases hfin with e | e
  ·exact e
  ·exact (e he0).elim
 have hr:rd=true:=by
  rcases DR with e | e
  ·rw [show dn=false from e] at hd;cases hd
  ·exact e
 subst hr;have hv1:1<=x.1.length:=by have:=Wq.vs;dsimp only at this;rw [this];exact Nat.le_add_left _ _
 obtain ⟨hn1,hn2⟩:=wf_len Wq K.few;dsimp only at hn1 hn2;obtain ⟨vs,bd⟩:=x;dsimp only at hv1 hn2;obtain ⟨v,V,rfl⟩:=list1 hv1;dsimp only [List.length_cons] at hn2;obtain ⟨yr,t0,t1,t2,e8,VS1,V1⟩:=VR.inv S.vls;try dsimp only at e8
 subst e8;have l1:=VS1.len;obtain ⟨q1,q2,ef,FR⟩:=fm_lay V1;have FBv:=vbn_fF FB.x;dsimp only;refine .sk<|.tN<|.sr<|.lD Z Fx.agg94 mem4 Z<|.cs (X:=Nat × Nat) Fx.call57 Z (λW s=>formula_f K5 Wq.i V1.one V1.e.nm (by omega) l1 (s.pickT (hd:=[_,_,_,_,_,_]) (tl:=(AR++[])) (hd':=[_,_,_,_,_,_]) [0,2,1,3,4,5] Z Z)) Z λp1 _=>?_
 rw [ef];refine .al Fx.zero35 Z λb7=>.sW .head Z Z Fx.size35 (by intro a ha;exact Rep.one FR.rep a ha) Z<|.nt<|.sq<|.sr<|.lD Z Fx.agg94 mem5 Z<|.nC Z<|.fA Z Fx.field102_6<|.lD Z Fx.agg4 mem1 Z<|.nt<|.cd Z (λh77=>?_) (λh77=>?_)
 ·have hbd:(bd || v.noF)=true:=h77;refine .sr<|.yw (.build Z Fx.bld35)<|.sX upd6 Z Z Fx.size35 Z<|.a Z Z<|.az Z<|.tR<|?_
  refine Sx.retM (.inl rfl) upd4 ?_;refine y7 Z (.cons (.cell rfl Fx.agg35 mem6 rfl) (.cons (.tmp rfl) (.cons (.tmp rfl) .nil))) rfl λW s=>?_;rw [EP,end_bad he0 hbd];exact ⟨[.int .u8 0,.string ⟨#[]⟩,.string ⟨#[]⟩,.int .i64 0,.int .i64 0,.slice none 0 0,.slice none 0 0],H5,zf_rep _,rfl,(((u1.trans u3).trans u4).trans u5).grow s⟩
 have hbd:(bd || v.noF)=false:=h77;refine .sk<|.tN<|.sq<|.sr<|.yw (.loadW Z Fx.agg35 Hm Z)<|.yw (.call Fx.call15 Z (λW s=>fcheck_any H5 (G4.up u5.up) (GT4.up u5.up) v.fm FBv _ W FR.rep s.agr))<|.a Z Z<|.ns<|.mv Z<|.yw (.neq Z Z)<|.nt<|.cd Z (λh82=>?_) (λh82=>?_)
 ·have hck:¬ fcheck v.fm=0:=λe=>Al_of_decide_eq_true h82 (by rw [e];rfl);refine .sr<|.yw (.build Z Fx.bld35)<|.mv Z<|.sX upd6 Z Z Fx.size35 Z<|.a Z Z<|.az Z<|.tR<|?_
  refine Sx.retM (.inl rfl) upd4 ?_;refine y7 Z (.cons (.cell rfl Fx.agg35 mem6 rfl) (.cons (.tmp rfl) (.cons (.tmp rfl) .nil))) rfl λW s=>?_;rw [EP,end_chk he0 hbd hck];exact ⟨[.int .u8 0,.string ⟨#[]⟩,.string ⟨#[]⟩,.int .i64 0,.int .i64 0,.slice none 0 0,.slice none 0 0],H5,zf_rep _,rfl,(((u1.trans u3).trans u4).trans u5).grow s⟩
 have hck:fcheck v.fm=0:=by have:=Al_of_decide_eq_false h82;omega
 refine .sk<|.tN<|.sr<|.yw (.loadW Z Fx.agg35 Hm Z)<|.sW upd6 Z Z Fx.size35 (by intro a ha;exact Rep.one FR.rep a ha) Z<|.a Z Z<|.az Z<|?_
 refine Sx.retM (.inl rfl) upd4 ?_;refine y7 Z (.cons (.cell rfl Fx.agg35 mem6 rfl) (.cons (.tmp rfl) (.cons (.tmp rfl) .nil))) rfl λW s=>?_;rw [EP,end_ok he0 hbd hck];exact ⟨cFm .u8 v.fm.op v.fm.nm v.fm.fd v.fm.a v.fm.b q1 q2,H5,FR.rep,rfl,(((u1.trans u3).trans u4).trans u5).grow s⟩
def awk1:Str:=[111,110,99,101,91,48,44,32,53,93,32,40,97,114,114,105,118,101,115,32,102,114,111,110,116,46,103,101,116,40,95,44,32,55,41,32,97,110,100,32,110,111,116,32,102,108,97,103,32,115,108,111,119,41]
def awk2:Str:=[40,97,46,120,32,43,32,49,41,32,42,32,50,32,62,32,110,111,119]
def awf1:Fm:=.mk 13 [] [] 0 5 [] [.mk 9 [] [] 0 0 [] [.mk 7 [102,114,111,110,116] [103,101,116] 0 0 [.mk 0 [] 0 [],.mk 1 [] 7 []] [],.mk 8 [] [] 0 0 [] [.mk 6 [115,108,111,119] [] 0 0 [] []]]]
def awf2:Fm:=.mk 3 [] [] 0 0 [.mk 20 [] 0 [.mk 11 [] 0 [.mk 14 [] 0 [.mk 5 [97,46,120] 0 [],.mk 1 [] 1 []],.mk 1 [] 2 []],.mk 4 [] 0 []]] []
theorem awk1_par:parF (tksF awk1)=(awf1,0,0):=by kernel_rfl
theorem awk2_par:parF (tksF awk2)=(awf2,0,0):=by kernel_rfl
theorem awk1_txt:textF awf1=awk1:=by kernel_rfl
theorem fparse_ok (H:Hp) (GL:Gl H) (G:Gf H) (t:Str) (f:Fm) (hl:t.length<=400000) (hp:parF (tksF t)=(f,0,0)) (w:World) (hA:Agr H w) :
 Calls prg 26 #[strV t] w λe W'=>∃ (cs:List Value) (H':Hp),Rep H' (dFm .u8 f) cs/\e=.returned (.tuple #[.agg cs.toArray,.int .i64 0,.int .i64 0])/\Grow H w H' W':=by
 have h:=fparse_any H GL G t hl w hA;rw [hp] at h;exact h
theorem awk1_text (H:Hp) (GL:Gl H) (G:Gf H) (gq:Gq H) (cs:List Value) (w:World) (h:Rep H (dFm .u8 awf1) cs) (hA:Agr H w):Calls prg 19 #[.agg cs.toArray] w λr w'=>r=.returned (strV awk1)/\Ext w w':=by
 have h1:=fText_any H GL G gq awf1 (by decide +kernel) cs w h hA;rw [awk1_txt] at h1;exact h1
theorem awake_any (H:Hp) (GL:Gl H) (G:Gf H) (gq:Gq H) (w:World) (hA:Agr H w):Calls prg 13 #[] w λr w'=>r=.returned (.bool true)/\Ext w w':=by
 refine Sx.enter (H:=H) func13 rfl ntmps13 rfl hA ?_;refine .sr<|.a Z Z<|.ns<|.ct (X:=List Value) Fx.call26 Z (λW s=>fparse_ok H GL G awk1 awf1 (by decide) awk1_par W s.agr) Z λx1 H1 r1 u1=>?_
 have r1f:Rep H1 (dFm .u8 (Fm.mk 13 [] [] 0 5 [] [.mk 9 [] [] 0 0 [] [.mk 7 [102,114,111,110,116] [103,101,116] 0 0 [.mk 0 [] 0 [],.mk 1 [] 7 []] [],.mk 8 [] [] 0 0 [] [.mk 6 [115,108,111,119] [] 0 0 [] []]]])) x1:=r1;obtain ⟨p1,c1,p2,c2,rfl,hs1,hs2,_,_⟩:=fm_open r1f;obtain ⟨bE,oE,cE,hpE,rE,lE,mE⟩:=hs2.elem (i:=0) (d:=dFm .u8 (Fm.mk 9 [] [] 0 0 [] [.mk 7 [102,114,111,110,116] [103,101,116] 0 0 [.mk 0 [] 0 [],.mk 1 [] 7 []] [],.mk 8 [] [] 0 0 [] [.mk 6 [115,108,111,119] [] 0 0 [] []]])) rfl;cases hpE;obtain ⟨q1,d1,q2,d2,rfl,g1,g2,_,_⟩:=fm_open rE;refine .mv Z<|.yw (.extract Z Z)<|.yw (.extract Z Z)<|.yw (.extract Z Z)<|.al Fx.zero35 Z λb1=>.sW .head Z Z Fx.size35 (Rep.one r1) Z<|.a Z Z<|.aq Z<|.sq<|.sm Z<|.yw (.cast (.neq Z Z) (congrArg Value.bool (Al_decide_eq_false (λh=>h Z))))<|.mv Z<|.gy (.move Z)<|.gy (.cast (.neq Z Z) (congrArg Value.bool (Al_decide_eq_false (λh=>h Z))))<|.yw (.pickF Z Z)<|.mv Z<|.gy (.fieldAddr Z Fx.field35_0)<|.gy (.load Z Fx.agg31 Hm Z)<|.gy (.cast (.neq Z Z) (congrArg Value.bool (Al_decide_eq_false (λh=>h Z))))<|.yw (.pickF Z Z)<|.mv Z<|.gy (.fieldAddr Z Fx.field35_4)<|.gy (.load Z Fx.agg3 Hm Z)<|.gy (.cast (.neq Z Z) (congrArg Value.bool (Al_decide_eq_false (λh=>h Z))))<|.yw (.pickF Z Z)<|.mv Z<|.gy (.fieldAddr Z Fx.field35_6)<|.gy (.load Z Fx.agg33 Hm Z)<|.gy (.lenSl Fx.sl33 Z)<|.gy (.cast (.neq Z Z) (congrArg Value.bool (Al_decide_eq_false (λh=>h Z))))<|.yw (.pickF Z Z)<|.mv Z<|.gy (.fieldAddr Z Fx.field35_6)<|.gy (.load Z Fx.agg33 Hm Z)<|.gy (.indexSl Fx.sl33 Z Z (i:=0) Z (by decide) (q:=oE+0 * 7) Z)<|.gy (.fieldAddr Z Fx.field35_0)<|.gy (.loadM Z Fx.agg31 mE (k:=0) Z Z)<|.gy (.cast (.neq Z Z) (congrArg Value.bool (Al_decide_eq_false (λh=>h Z))))<|.yw (.pickF Z Z)<|.mv Z<|.gy (.loadW Z Fx.agg35 Hm Z)<|.gy (.call (v:=strV awk1) Fx.call19 Z (λW s=>awk1_text H1 (GL.up u1.up) (G.up u1.up) (gq.up u1.up) _ W r1 s.agr))<|.gy (.cast (.neS Z Z) (congrArg Value.bool (Al_decide_eq_false (λh=>h Z))))<|.yw (.pickF Z Z)<|.nt<|.cF Z<|.sk<|.tN<|.sr<|.ct (X:=List Value) Fx.call26 Z (λW s=>fparse_ok H1 (GL.up u1.up) (G.up u1.up) awk2 awf2 (by decide) awk2_par W s.agr) Z λx2 H2 r2 u2=>?_
 have r2f:Rep H2 (dFm .u8 (Fm.mk 3 [] [] 0 0 [(Ex.mk 20 [] 0 [(Ex.mk 11 [] 0 [.mk 14 [] 0 [.mk 5 [97,46,120] 0 [],.mk 1 [] 1 []],.mk 1 [] 2 []]),.mk 4 [] 0 []])] [])) x2:=r2;obtain ⟨p3,c3,p4,c4,rfl,hs3,hs4,_,_⟩:=fm_open r2f;obtain ⟨bF,oF,cF,hpF,rF,lF,mF⟩:=hs3.elem (i:=0) (d:=dEx .u8 (Ex.mk 20 [] 0 [(Ex.mk 11 [] 0 [.mk 14 [] 0 [.mk 5 [97,46,120] 0 [],.mk 1 [] 1 []],.mk 1 [] 2 []]),.mk 4 [] 0 []])) rfl;cases hpF;obtain ⟨p5,c5,rfl,hs5,_⟩:=ex_open rF;obtain ⟨bG,oG,cG,hpG,rG,lG,mG⟩:=hs5.elem (i:=0) (d:=dEx .u8 (Ex.mk 11 [] 0 [.mk 14 [] 0 [.mk 5 [97,46,120] 0 [],.mk 1 [] 1 []],.mk 1 [] 2 []])) rfl;cases hpG;obtain ⟨p6,c6,rfl,hs6,_⟩:=ex_open rG;refine .mv Z<|.yw (.extract Z Z)<|.yw (.extract Z Z)<|.yw (.extract Z Z)<|.al Fx.zero35 Z λb4=>.sW .head Z Z Fx.size35 (Rep.one r2) Z<|.a Z Z<|.a Z Z<|.ns<|.mv Z<|.yw (.cast (.eql Z Z) (congrArg Value.bool (Al_decide_eq_true Z)))<|.mv Z<|.gy (.fieldAddr Z Fx.field35_0)<|.gy (.load Z Fx.agg31 Hm Z)<|.gy (.cast (.eql Z Z) (congrArg Value.bool (Al_decide_eq_true Z)))<|.yw (.pickT Z Z)<|.mv Z<|.gy (.fieldAddr Z Fx.field35_5)<|.gy (.load Z Fx.agg32 Hm Z)<|.gy (.lenSl Fx.sl32 Z)<|.gy (.cast (.eql Z Z) (congrArg Value.bool (Al_decide_eq_true Z)))<|.yw (.pickT Z Z)<|.mv Z<|.gy (.fieldAddr Z Fx.field35_5)<|.gy (.load Z Fx.agg32 Hm Z)<|.gy (.indexSl Fx.sl32 Z Z (i:=0) Z (by decide) (q:=oF+0 * 4) Z)<|.gy (.fieldAddr Z Fx.field76_0)<|.gy (.loadM Z Fx.agg74 mF (k:=0) Z Z)<|.gy (.cast (.eql Z Z) (congrArg Value.bool (Al_decide_eq_true Z)))<|.yw (.pickT Z Z)<|.mv Z<|.gy (.fieldAddr Z Fx.field35_5)<|.gy (.load Z Fx.agg32 Hm Z)<|.gy (.indexSl Fx.sl32 Z Z (i:=0) Z (by decide) (q:=oF+0 * 4) Z)<|.gy (.fieldAddr Z Fx.field76_3)<|.gy (.loadM Z Fx.agg32 mF (k:=3) Z Z)<|.gy (.indexSl Fx.sl32 Z Z (i:=0) Z (by decide) (q:=oG+0 * 4) Z)<|.gy (.fieldAddr Z Fx.field76_0)<|.gy (.loadM Z Fx.agg74 mG (k:=0) Z Z)<|.gy (.cast (.eql Z Z) (congrArg Value.bool (Al_decide_eq_true Z)))<|.yw (.pickT Z Z)<|.az Z<|?_
 exact y9 Z Z λW s=>⟨Z,s.ext⟩
def gX (lv:Nat):Pz Ex:=pX lv
def gL (lv:Nat) (a:Ex):Pz Ex:=pL lv a
theorem Cz.ex (lv:Nat):Cz (gX lv):=by
 have prim:∀ rec:List Tk->Rs Ex,(∀ r r' c,rec r=.er r' c->c≠0)->∀ r r' c,primE rec r=.er r' c->c≠0:=by
  intro rec hr r r' c e
  have nd:∀ {α:Type} (w:Str) (r:List Tk) (f:List Tk->Rs α),(∀ r r' c,f r=.er r' c->c≠0)->∀ r' c,needT w r f=.er r' c->c≠0:=by
   intro α w r f hf r' c e;unfold needT at e
   split at e
   ·exact hf _ _ _ e
   ·injection e with _ e;omega
  have nm:∀ {α:Type} (r:List Tk) (f:Str->List Tk->Rs α),(∀ s r r' c,f s r=.er r' c->c≠0)->∀ r' c,nameT r f=.er r' c->c≠0:=by
   intro α r f hf r' c e;unfold nameT at e
   split at e
   ·injection e with _ e;omega
   ·split at e
    ·exact hf _ _ _ _ e
    ·injection e with _ e;omega
  have rb:∀ (r:List Tk) (f:Ex->List Tk->Rs Ex),(∀ x r r' c,f x r=.er r' c->c≠0)->∀ r' c,(rec r).bind f=.er r' c->c≠0:=by
   intro r f hf r' c e;rcases Rs.bind_er e with e | ⟨a,q,_,e⟩
   ·exact hr _ _ _ e
   ·exact hf _ _ _ _ e
  unfold primE at e
  split at e
  ·injection e with _ e;omega
  ·split at e
   ·split at e
    ·cases e
    ·injection e with _ e;omega
   split at e
   ·cases e
   split at e
   ·cases e
   split at e
   ·cases e
   split at e
   ·exact nm _ _ (λs r r' c e=>by cases e) _ _ e
   split at e
   ·exact rb _ _ (λx r r' c e=>nd _ _ _ (λr r' c e=>by cases e) _ _ e) _ _ e
   split at e
   ·exact nm _ _ (λs r r' c e=>nd _ _ _ (λr r' c e=>rb _ _ (λx r r' c e=>nd _ _ _ (λr r' c e=>by cases e) _ _ e) _ _ e) _ _ e) _ _ e
   split at e
   ·split at e
    ·exact rb _ _ (λx r r' c e=>nd _ _ _ (λr r' c e=>by cases e) _ _ e) _ _ e
    ·cases e
   ·injection e with _ e;omega
 have key:∀ f,(∀ lv r r' c,pE f (.ex lv) r=.er r' c->c≠0)/\(∀ lv a r r' c,pE f (.lp lv a) r=.er r' c->c≠0):=by
  intro f;induction f with
  | zero=>exact ⟨λlv r r' c e=>by unfold pE at e;injection e with _ e;omega,λlv a r r' c e=>by unfold pE at e;injection e with _ e;omega⟩
  | succ f ih =>
   obtain ⟨ih1,ih2⟩:=ih;refine ⟨λlv r r' c e=>?_,λlv a r r' c e=>?_⟩
   ·rw [pE_ex] at e
    split at e
    ·rcases Rs.bind_er e with e | ⟨a,q,_,e⟩
     ·exact ih1 _ _ _ _ e
     ·exact ih2 _ _ _ _ _ e
    split at e
    ·rcases Rs.bind_er e with e | ⟨a,q,_,e⟩
     ·exact ih1 _ _ _ _ e
     ·cases e
    split at e
    ·rcases Rs.bind_er e with e | ⟨a,q,_,e⟩
     ·exact ih1 _ _ _ _ e
     ·cases e
    ·exact prim _ (λr r' c e=>ih1 _ _ _ _ e) _ _ _ e
   ·rw [pE_lp] at e
    split at e
    ·cases e
    ·rcases Rs.bind_er e with e | ⟨b,q,_,e⟩
     ·exact ih1 _ _ _ _ e
     ·split at e
      ·cases e
      ·exact ih2 _ _ _ _ _ e
 exact λr r' c e=>(key _).1 _ _ _ _ e
theorem Shs.gx (lv:Nat):Shs (gX lv):=λr a r' e=>(pE_len _).1 _ _ _ _ e
theorem gX_low {lv:Nat} (h:lv<5):gX lv=gBind (gX (lv+1)) (gL lv):=funext λ_=>pX_low h
theorem gX_un:gX 5=gAlt [45] (gBind (gX 5) λx=>gPure (opE 9 [x])) (gAlt [110,111,116] (gBind (gX 5) λx=>gPure (opE 10 [x])) (primE (gX 0))):=funext λ_=>pX_un
def gK (lv:Nat) (op:UInt8) (a:Ex) (b:Ex):Pz Ex:=if lv=2 then gPure (opE op [a,b]) else gL lv (opE op [a,b])
def gKey (op:UInt8) (nm:Str):Pz Ex:=gBind (gX 0) λx=>gBind (gNd [93]) λ_=>gPure (.mk op nm 0 [x])
def gNum:Pz Ex:=gBind gNu λv=>gPure (.mk 1 [] v [])
def gNam:Pz Ex:=gBind gNm λs=>gAlt [91] (gKey 6 s) (gPure (.mk 5 s 0 []))
def isNum:List Tk->Bool
 | []=>false
 | t::_=>decide (t.k=3)
def gLast:Pz Ex:=λr=>if isNum r then gNum r else gNam r
def gPrim:Pz Ex :=
 gAlt [116,114,117,101] (gPure (opE 2 []))<|gAlt [102,97,108,115,101] (gPure (opE 3 []))<|gAlt [110,111,119] (gPure (opE 4 []))<|gAlt [115,105,122,101] (gBind gNm λs=>gPure (.mk 8 s 0 []))<|gAlt [104,97,115] (gBind gNm λs=>gBind (gNd [91]) λ_=>gKey 7 s)<|gAlt [40] (gBind (gX 0) λx=>gBind (gNd [41]) λ_=>gPure x) gLast
theorem nameT_eq {α:Type} (r:List Tk) (f:Str->Pz α):(nameT r λs q=>f s q)=gBind gNm f r:=by
 unfold nameT gBind gNm;cases r with
 | nil=>rfl
 | cons t q =>
  simp only
  split <;> rfl
theorem needT_eq {α:Type} (w:Str) (r:List Tk) (f:Pz α):(needT w r λq=>f q)=gBind (gNd w) (λ_=>f) r:=by
 unfold needT gBind gNd
 split <;> rfl
variable {w:Str}
theorem isT_k {t:Tk} {q:List Tk} (h:isT w (t::q)=true):(t.k=2\/t.k=4)/\t.t=w:=by
 unfold isT at h;rw [Al_Bool_and_eq_true,Al_decide_eq_true_eq,Al_Bool_or_eq_true,Al_beq_iff_eq,Al_beq_iff_eq] at h;exact h
theorem isT_k3 {t:Tk} {q:List Tk} (h:t.k=3):isT w (t::q)=false:=by
 cases e:isT w (t::q) with
 | false=>rfl
 | true =>
  have:=(isT_k e).1;rw [h] at this
  revert this
  decide
theorem prim_eq:primE (gX 0)=gPrim:=funext λr=>by
 cases r with
 | nil=>rfl
 | cons t q =>
  by_cases h3:t.k=3
  ·have e:gPrim (t::q)=gNum (t::q):=by
    unfold gPrim gAlt gLast isNum;simp only [isT_k3 h3,Al_Bool_false_eq_true,Al_if_false,h3,decide_true,Al_if_true]
   rw [e];unfold primE gNum gBind gNu;simp only [h3,Al_if_true]
   split <;> rfl
  ·have hl:gLast (t::q)=gNam (t::q):=by
    unfold gLast isNum;simp only [h3,Al_decide_false,Al_Bool_false_eq_true,Al_if_false]
   unfold primE;simp only [h3,Al_if_false];unfold gPrim gAlt;refine ifC rfl (ifC rfl (ifC rfl (ifC ?_ ?_)))
   ·exact nameT_eq q λs=>gPure _
   by_cases hp:isT [40] (t::q)=true
   ·have hn:isT [104,97,115] (t::q)=false:=by
     cases e:isT [104,97,115] (t::q) with
     | false=>rfl
     | true =>
      have h1:=(isT_k hp).2;have h2:=(isT_k e).2;rw [h1] at h2
      revert h2
      decide
    simp only [hp,hn,Al_if_true,Al_Bool_false_eq_true,Al_if_false];refine Rs.bind_congr rfl λx r2 _=>?_;exact needT_eq [41] r2 (gPure x)
   ·simp only [hp,Al_Bool_false_eq_true,Al_if_false];refine ifC ?_ ?_
    ·rw [Al_List_tail_cons,<-nameT_eq];unfold nameT;cases q with
     | nil=>rfl
     | cons t2 q2 =>
      simp only;refine ifC ?_ rfl;rw [<-needT_eq];unfold needT;refine ifC ?_ rfl;refine Rs.bind_congr rfl λx r4 _=>?_;exact needT_eq [93] r4 (gPure _)
    ·rw [hl];unfold gNam gBind gNm;simp only
     by_cases h1:t.k=1
     ·simp only [h1,Al_if_true];show _=gAlt [91] (gKey 6 t.t) (gPure (.mk 5 t.t 0 [])) q;unfold gAlt;refine ifC ?_ rfl;refine Rs.bind_congr rfl λx r4 _=>?_;exact needT_eq [93] r4 (gPure _)
     ·simp only [h1,Al_if_false]
      rfl
section
variable {α β:Type}
end
theorem Cz.st {b:Pz (List Sm)} (h:Cz b):Cz (gSt b):=by
 have hx:Cz gEx:=Cz.ex 0;have blk:Cz (gBlk b):=.bind (.nd _) λ_=>.bind h λ_=>.bind (.nd _) λ_=>.pure _;have els:Cz (gEls b):=.alt blk (.pure _);have oth:Cz (gOth b):=.alt blk (.bind (.nd _) λ_=>.pure _);have lst:Cz (gList gEx):=.bind (.nd _) λ_=>.alt (.pure _) (.bind hx λ_=>.bind (.many hx) λ_=>.bind (.nd _) λ_=>.pure _)
 exact .alt (.bind hx λ_=>.bind blk λ_=>.bind els λ_=>.pure _)<|.alt (.bind hx λ_=>.bind blk λ_=>.pure _)<|.alt (.bind hx λ_=>.bind (.nd _) λ_=>.bind hx λ_=>.bind oth λ_=>.pure _)<|.alt (.bind .nm λ_=>.bind (.nd _) λ_=>.bind hx λ_=>.bind oth λ_=>.pure _)<|.alt (.bind .nm λ_=>.bind (.nd _) λ_=>.bind .nm λ_=>.bind lst λ_=>.bind (.nd _) λ_=>.pure _)<|.alt (.bind hx λ_=>.bind (.nd _) λ_=>.bind .nm λ_=>.bind lst λ_=>.bind (.nd _) λ_=>.pure _)<|.alt (.bind (.nd _) λ_=>.pure _)<|.alt (.bind .nm λ_=>.bind (.nd _) λ_=>.bind hx λ_=>.bind (.nd _) λ_=>.bind (.nd _) λ_=>.pure _)<|.bind .nm λ_=>.alt (.bind hx λ_=>.bind (.nd _) λ_=>.bind (.nd _) λ_=>.bind hx λ_=>.bind (.nd _) λ_=>.pure _)
  (.bind (.nd _) λ_=>.bind hx λ_=>.bind (.nd _) λ_=>.pure _)
theorem Cz.bF:∀ f,Cz (gBF f)
 | 0=>λr r' c e=>by unfold gBF at e;injection e with _ e;omega
 | f+1=>λr r' c e=>by
  unfold gBF at e
  split at e
  ·cases e
  ·rcases Rs.bind_er e with e | ⟨a,q,_,e⟩
   ·exact Cz.st (Cz.bF f) _ _ _ e
   ·rcases Rs.bind_er e with e | ⟨l,q2,_,e⟩
    ·exact Cz.bF f _ _ _ e
    ·cases e
theorem Cz.b:Cz gB:=λr r' c e=>Cz.bF _ _ _ _ e
section
variable {α:Type}
theorem Cz.blk:Cz (gBlk gB):=.bind (.nd _) λ_=>.bind Cz.b λ_=>.bind (.nd _) λ_=>.pure _
theorem Cz.list {p:Pz α} (h:Cz p):Cz (gList p):=.bind (.nd _) λ_=>.alt (.pure _) (.bind h λ_=>.bind (.many h) λ_=>.bind (.nd _) λ_=>.pure _)
theorem Cz.int:Cz gInt:=.alt (.bind .nu λ_=>.pure _) .nu
theorem Cz.hd:Cz gHd:=.bind .nm λ_=>.bind (.list .nm) λ_=>.bind .blk λ_=>.pure _
end
theorem Shr.int:Shr gInt:=.alt (.bind Shs.nu.le λ_=>.pure _) Shs.nu.le
section
variable {α β:Type}
def En (p:Pz α):Prop:=p []=.er [] 8\/∃ b,p []=.ok b []
def Pf (N:Nat) (p:Pz α):Prop:=∀ r a q,r.length<=N->p r=.ok a q->∃ u,r=u++q/\(∀ v w,u=v++w->p v=.er [] 8\/∃ b,p v=.ok b [])/\(∀ v,v≠[]->v.head? = q.head? -> p (u++v)=.ok a v)
theorem Pf.le {N M:Nat} {p:Pz α} (h:Pf N p) (k:M<=N):Pf M p:=λr a q hr e=>h r a q (Al_Nat_le_trans hr k) e
theorem Pf.zero {p:Pz α} (h:Shr p):Pf 0 p:=λr a q hr e=>by
 obtain rfl:r=[]:=Al_List_eq_nil_of_length_eq_zero (by omega);have:=h _ _ _ e;obtain rfl:q=[]:=Al_List_eq_nil_of_length_eq_zero (by simpa using this);refine ⟨[],Z,λv w h=>?_,λv hv h=>?_⟩
 ·obtain rfl:=(Al_List_append_eq_nil_iff.1 h.symm).1;exact .inr ⟨a,e⟩
 ·cases v with
  | nil=>exact absurd rfl hv
  | cons x v=>cases h
theorem En.pure (a:α):En (gPure a):=.inr ⟨a,Z⟩
theorem En.bind {p:Pz α} {f:α->Pz β} (h:En p) (k:∀ a,En (f a)):En (gBind p f):=by
 rcases h with h | ⟨b,h⟩
 ·exact .inl (by unfold gBind;rw [h];rfl)
 ·have e:gBind p f []=f b []:=by unfold gBind;rw [h];rfl
  rcases k b with k | ⟨c,k⟩
  ·exact .inl (e.trans k)
  ·exact .inr ⟨c,e.trans k⟩
theorem En.nd (w:Str):En (gNd w):=.inl rfl
theorem En.nm:En gNm:=.inl rfl
theorem En.nu:En gNu:=.inl rfl
theorem En.alt {w:Str} {p q:Pz α} (h:En q):En (gAlt w p q):=h
theorem En.many {w:Str} {p:Pz α}:En (gMany w p):=.inr ⟨[],Z⟩
theorem Pf.pure {N:Nat} (a:α):Pf N (gPure a):=λr b q _ e=>by
 injection e with e1 e2
 subst e1;subst e2;refine ⟨[],Z,λv w h=>?_,λv _ _=>rfl⟩;obtain rfl:=(Al_List_append_eq_nil_iff.1 h.symm).1;exact .inr ⟨a,Z⟩
theorem Pf.bindS {N M:Nat} {p:Pz α} {f:α->Pz β} (hp:Pf N p) (hM:∀ r a q,r.length<=N->p r=.ok a q->q.length<=M) (hf:∀ a,Pf M (f a)) (he:∀ a,En (f a)):Pf N (gBind p f):=by
 intro r b q' hr e;obtain ⟨a,q,h1,h2⟩:=Rs.bind_ok e;obtain ⟨u1,rfl,A1,B1⟩:=hp _ _ _ hr h1;obtain ⟨u2,rfl,A2,B2⟩:=hf a _ _ _ (hM _ _ _ hr h1) h2;have go:∀ x c y,p x=.ok c y->gBind p f x=f c y:=λx c y h=>by unfold gBind;rw [h];rfl
 have fst:∀ v w,u1=v++w->gBind p f v=.er [] 8\/∃ b,gBind p f v=.ok b []:=λv w h=>by
  rcases A1 v w h with h3 | ⟨b',h3⟩
  ·exact .inl (by unfold gBind;rw [h3];rfl)
  ·rw [go _ _ _ h3];exact he b'
 have hd:∀ (x y z:List Tk),(y.head? = z.head?)->(x++y).head? = (x++z).head? := λx y z h=>by
  cases x with
  | nil=>exact h
  | cons t x=>rfl
 refine ⟨u1++u2,(Al_List_append_assoc ..).symm,λv w h=>?_,λv hv h=>?_⟩
 ·rcases List.append_eq_append_iff.1 h with ⟨a',rfl,rfl⟩ | ⟨c,rfl,rfl⟩
  ·cases a' with
   | nil =>
    rw [Al_List_append_nil];exact fst u1 [] (Al_List_append_nil _).symm
   | cons t a' =>
    rw [go _ _ _ (B1 (t::a') (by simp) rfl)];exact A2 (t::a') w rfl
  ·exact fst v c rfl
 ·rw [Al_List_append_assoc,go _ _ _ (B1 (u2++v) (λk=>hv (Al_List_append_eq_nil_iff.1 k).2) (hd _ _ _ h))];exact B2 v hv h
theorem Pf.bind {N:Nat} {p:Pz α} {f:α->Pz β} (hp:Pf N p) (hf:∀ a,Pf N (f a)) (he:∀ a,En (f a)):Pf N (gBind p f):=.bindS hp (λr a q hr e=>by
 obtain ⟨u,rfl,_⟩:=hp r a q hr e;rw [Al_List_length_append] at hr;omega) hf he
theorem Pf.one {N:Nat} {p:Pz α} (h0:p []=.er [] 8) (h1:∀ t,(∃ a,∀ r,p (t::r)=.ok a r)\/∀ r,∃ r' c,p (t::r)=.er r' c):Pf N p:=by
 intro r a q _ e;cases r with
 | nil=>rw [h0] at e;cases e
 | cons t r =>
  rcases h1 t with ⟨b,h⟩ | h
  ·rw [h] at e;injection e with e1 e2
   subst e1;subst e2;refine ⟨[t],Z,λv w hv=>?_,λv _ _=>h v⟩;cases v with
   | nil=>exact .inl h0
   | cons x v =>
    injection hv with hx hv
    subst hx;obtain rfl:=(Al_List_append_eq_nil_iff.1 hv.symm).1;exact .inr ⟨b,h []⟩
  ·obtain ⟨r',c,h⟩:=h r;rw [h] at e;cases e
theorem Pf.nd {N:Nat} (w:Str):Pf N (gNd w):=.one rfl λt=>by
 cases e:isT w [t] with
 | true=>exact .inl ⟨(),λr=>by show (if isT w [t]=true then _ else _)=_;rw [Al_if_pos e];rfl⟩
 | false=>exact .inr λr=>⟨_,_,by show (if isT w [t]=true then _ else _)=_;rw [Al_if_neg (by rw [e];decide)]⟩
theorem Pf.nm {N:Nat}:Pf N gNm:=.one rfl λt=>by
 by_cases e:t.k=1
 ·exact .inl ⟨t.t,λr=>by unfold gNm;simp only [e,Al_if_true]⟩
 ·exact .inr λr=>⟨t::r,8,by unfold gNm;simp only [e,Al_if_false]⟩
theorem Pf.nu {N:Nat}:Pf N gNu:=.one rfl λt=>by
 by_cases e:t.k=3
 ·by_cases e2:numV t.t<=9223372036854775807
  ·exact .inl ⟨Int64.ofNat (numV t.t),λr=>by unfold gNu;simp only [e,e2,Al_if_true]⟩
  ·exact .inr λr=>⟨t::r,2,by unfold gNu;simp only [e,e2,Al_if_true,Al_if_false]⟩
 ·exact .inr λr=>⟨t::r,8,by unfold gNu;simp only [e,Al_if_false]⟩
theorem Pf.choice {N:Nat} {c:List Tk->Bool} {p:Tk->Pz α} {q g:Pz α} (hc0:c []=false) (hc:∀ t r r',c (t::r)=c (t::r')) (hT:∀ t r,c (t::r)=true->g (t::r)=p t r) (hF:∀ r,c r=false->g r=q r)
 (hp:∀ t M,M+1<=N->Pf M (p t)) (hq:Pf N q) (he:En q):Pf N g:=by
 intro r a z hr e;cases h:c r with
 | true =>
  cases r with
  | nil=>rw [hc0] at h;cases h
  | cons t r =>
   rw [hT _ _ h] at e;obtain ⟨u,rfl,A,B⟩:=hp t r.length (by simpa using hr) _ _ _ (Al_Nat_le_refl _) e;refine ⟨t::u,Z,λv w hv=>?_,λv hn hv=>?_⟩
   ·cases v with
    | nil=>rw [hF _ hc0];exact he
    | cons x v =>
     injection hv with hx hv
     subst hx;rw [hT _ _ ((hc ..).trans h)];exact A v w hv
   ·show g (t::(u++v))=_;rw [hT _ _ ((hc ..).trans h)];exact B v hn hv
 | false =>
  rw [hF _ h] at e;obtain ⟨u,rfl,A,B⟩:=hq _ _ _ hr e
  have pre:∀ v,(v=[]\/v.head? = (u++z).head?)->c v=false:=λv hv=>by
   cases v with
   | nil=>exact hc0
   | cons x v =>
    rcases hv with hv | hv
    ·cases hv
    ·cases k:u++z with
     | nil=>rw [k] at hv;cases hv
     | cons y s =>
      rw [k] at hv h;injection hv with hv
      subst hv;exact (hc x v s).trans h
  refine ⟨u,Z,λv w hv=>?_,λv hn hv=>?_⟩
  ·rw [hF _ (pre v (by rw [hv];cases v <;> simp))];exact A v w hv
  ·rw [hF _ (pre (u++v) (.inr (by cases u <;> first | exact hv | rfl)))];exact B v hn hv
theorem Pf.look {N:Nat} {c:List Tk->Bool} {p q g:Pz α} (hc0:c []=false) (hc:∀ t r r',c (t::r)=c (t::r')) (hT:∀ r,c r=true->g r=p r) (hF:∀ r,c r=false->g r=q r)
 (hp:Pf N p) (hq:Pf N q) (he:En q):Pf N g:=by
 intro r a z hr e
 have pre:∀ (x:Bool) (v:List Tk),v≠[]->v.head? = r.head? -> c r=x->c v=x:=λx v hn h2 h3=>by
  cases v with
  | nil=>exact absurd rfl hn
  | cons y v =>
   cases r with
   | nil=>cases h2
   | cons t r =>
    injection h2 with h2
    subst h2;exact (hc ..).trans h3
 have h1:∀ (u v w:List Tk),r=u++z->u=v++w->v≠[]->v.head? = r.head? := λu v w h2 h3 hn=>by
  cases v with
  | nil=>exact absurd rfl hn
  | cons y v=>rw [h2,h3];rfl
 have h2:∀ (u v:List Tk),r=u++z->v.head? = z.head? -> (u++v).head? = r.head? := λu v h3 h4=>by
  rw [h3];cases u with
  | nil=>exact h4
  | cons y u=>rfl
 cases h:c r with
 | true =>
  rw [hT _ h] at e;obtain ⟨u,hu,A,B⟩:=hp _ _ _ hr e;refine ⟨u,hu,λv w hv=>?_,λv hn hv=>?_⟩
  ·by_cases hn:v=[]
   ·subst hn;rw [hF _ hc0];exact he
   ·rw [hT _ (pre _ v hn (h1 u v w hu hv hn) h)];exact A v w hv
  ·rw [hT _ (pre _ (u++v) (λk=>hn (Al_List_append_eq_nil_iff.1 k).2) (h2 u v hu hv) h)];exact B v hn hv
 | false =>
  rw [hF _ h] at e;obtain ⟨u,hu,A,B⟩:=hq _ _ _ hr e;refine ⟨u,hu,λv w hv=>?_,λv hn hv=>?_⟩
  ·by_cases hn:v=[]
   ·subst hn;rw [hF _ hc0];exact he
   ·rw [hF _ (pre _ v hn (h1 u v w hu hv hn) h)];exact A v w hv
  ·rw [hF _ (pre _ (u++v) (λk=>hn (Al_List_append_eq_nil_iff.1 k).2) (h2 u v hu hv) h)];exact B v hn hv
theorem Pf.alt {N:Nat} {w:Str} {p q:Pz α} (hp:∀ M,M+1<=N->Pf M p) (hq:Pf N q) (he:En q):Pf N (gAlt w p q) :=
 .choice (c:=isT w) (p:=λ_=>p) rfl (λ_ _ _=>rfl) (λt r h=>by unfold gAlt;rw [Al_if_pos h];rfl) (λr h=>by unfold gAlt;rw [Al_if_neg (by rw [h];decide)]) (λ_=>hp) hq he
theorem Pf.many {w:Str} {p:Pz α} (hs:Shr p):∀ (N:Nat),(∀ M,M+1<=N->Pf M p)->Pf N (gMany w p)
 | 0,_=>.zero (.many hs)
 | N+1,h=>by
  rw [gMany_eq hs];refine .alt (λM hM=>?_) (.pure _) (.pure _);exact .bind (h M hM) (λa=>.bind ((Pf.many hs N λM hM=>h M (by omega)).le (by omega)) (λ_=>.pure _) (λ_=>.pure _)) (λa=>.bind .many λ_=>.pure _)
end
section
variable {α β:Type}
structure PE (N:Nat) (p:Pz α):Prop where
 pf:Pf N p
 en:En p
theorem PE.le {N M:Nat} {p:Pz α} (h:PE N p) (k:M<=N):PE M p:=⟨h.pf.le k,h.en⟩
theorem PE.pure {N:Nat} (a:α):PE N (gPure a):=⟨.pure a,.pure a⟩
theorem PE.bind {N:Nat} {p:Pz α} {f:α->Pz β} (hp:PE N p) (hf:∀ a,PE N (f a)):PE N (gBind p f):=⟨.bind hp.pf (λa=>(hf a).pf) (λa=>(hf a).en),.bind hp.en λa=>(hf a).en⟩
theorem PE.nd {N:Nat} (w:Str):PE N (gNd w):=⟨.nd w,.nd w⟩
theorem PE.nm {N:Nat}:PE N gNm:=⟨.nm,.nm⟩
theorem PE.nu {N:Nat}:PE N gNu:=⟨.nu,.nu⟩
theorem PE.alt {N:Nat} {w:Str} {p q:Pz α} (hp:∀ M,M+1<=N->PE M p) (hq:PE N q):PE N (gAlt w p q):=⟨.alt (λM h=>(hp M h).pf) hq.pf hq.en,.alt hq.en⟩
theorem PE.many {N:Nat} {w:Str} {p:Pz α} (hs:Shr p) (hp:∀ M,M+1<=N->PE M p):PE N (gMany w p):=⟨.many hs N λM h=>(hp M h).pf,.many⟩
theorem PE.list {N:Nat} {p:Pz α} (hs:Shr p) (hp:∀ M,M<=N->PE M p):PE N (gList p):=.bind (.nd _) λ_=>.alt (λM _=>.pure _) (.bind (hp N (Al_Nat_le_refl _)) λ_=>.bind (.many hs λM h=>hp M (by omega)) λ_=>.bind (.nd _) λ_=>.pure _)
end
theorem opAt_nil (lv:Nat):opAt lv []=none:=by
 have h:(opsL lv).find? (λx=>isT x.1 [])=none:=List.find?_eq_none.2 (λx _=>Bool.false_ne_true);unfold opAt;rw [h]
 rfl
theorem En.l (lv:Nat) (a:Ex):En (gL lv a):=.inr ⟨a,pL_none (opAt_nil lv)⟩
theorem En.nam:En gNam:=.bind .nm λ_=>.alt (.pure _)
theorem En.prim:En gPrim:=.alt<|.alt<|.alt<|.alt<|.alt<|.alt En.nam
theorem En.x:∀ (d lv:Nat),lv+d=5->En (gX lv)
 | 0,lv,h=>by
  obtain rfl:lv=5:=by omega
  rw [gX_un,prim_eq];exact .alt (.alt En.prim)
 | d+1,lv,h=>by
  rw [gX_low (by omega)];exact .bind (En.x d (lv+1) (by omega)) λa=>En.l lv a
theorem Shr.l (lv:Nat) (a:Ex):Shr (gL lv a):=λr b r' e=>(pE_len _).2 _ _ _ _ _ e
theorem Pf.xl:∀ (N:Nat),(∀ lv,lv<=5->Pf N (gX lv))/\(∀ lv,lv<=4->∀ a,Pf N (gL lv a))
 | 0=>⟨λlv _=>.zero (Shs.gx lv).le,λlv _ a=>.zero (Shr.l lv a)⟩
 | N+1=>by
  obtain ⟨ih1,ih2⟩:=Pf.xl N;have x:∀ lv,lv<=5->∀ M,M+1<=N+1->PE M (gX lv):=λlv h M hM=>⟨(ih1 lv h).le (by omega),En.x (5 - lv) lv (by omega)⟩
  have hk:∀ lv op a b,lv<=4->∀ M,M+1<=N+1->PE M (gK lv op a b):=λlv op a b h M hM=>by
   unfold gK
   split
   ·exact .pure _
   ·exact ⟨(ih2 lv h _).le (by omega),En.l lv _⟩
  have hl:∀ lv,lv<=4->∀ a,Pf (N+1) (gL lv a):=λlv h a=>by
   refine .choice (c:=λr=>(opAt lv r).isSome) (p:=λt=>match opAt lv [t] with | some op=>gBind (gX (lv+1)) (gK lv op a) | none=>gPure a) (q:=gPure a) ?_ (λ_ _ _=>rfl) ?_ ?_ ?_ (.pure _) (.pure _)
   ·show (opAt lv []).isSome=false;rw [opAt_nil]
    rfl
   ·intro t r e;obtain ⟨op,e⟩:=Al_Option_isSome_iff_exists.1 e;have e2:opAt lv [t]=some op:=e;simp only [e2];show pL lv a (t::r)=_;rw [pL_some h e];refine Rs.bind_congr rfl λb q _=>?_;unfold gK
    split <;> rfl
   ·intro r e
    have e2:opAt lv r=none:=by
     cases k:opAt lv r with
     | none=>rfl
     | some op=>rw [k] at e;cases e
    exact pL_none e2
   ·intro t M hM;show Pf M (match opAt lv [t] with | some op=>gBind (gX (lv+1)) (gK lv op a) | none=>gPure a);cases opAt lv [t] with
    | none=>exact .pure _
    | some op=>exact (PE.bind (x (lv+1) (by omega) M hM) λb=>hk lv op a b h M hM).pf
  have key:∀ op nm M,M+1<=N+1->PE M (gKey op nm):=λop nm M hM=>.bind (x 0 (by omega) M hM) λ_=>.bind (.nd _) λ_=>.pure _;have nam:PE (N+1) gNam:=.bind .nm λs=>.alt (λM hM=>key 6 s M hM) (.pure _);have last:PE (N+1) gLast:=⟨.look (c:=isNum) (p:=gNum) (q:=gNam) rfl (λ_ _ _=>rfl) (λr h=>by unfold gLast;rw [Al_if_pos h]) (λr h=>by unfold gLast;rw [Al_if_neg (by rw [h];decide)]) (PE.bind .nu λ_=>.pure _).pf nam.pf nam.en,nam.en⟩;have prim:PE (N+1) gPrim:=.alt (λ_ _=>.pure _)<|.alt (λ_ _=>.pure _)<|.alt (λ_ _=>.pure _)<|.alt (λ_ _=>.bind .nm λ_=>.pure _)<|.alt (λM hM=>.bind .nm λs=>.bind (.nd _) λ_=>key 7 s M hM)<|.alt (λM hM=>.bind (x 0 (by omega) M hM) λ_=>.bind (.nd _) λ_=>.pure _) last
  have h5:PE (N+1) (gX 5):=by
   rw [gX_un,prim_eq];exact .alt (λM hM=>.bind (x 5 (by omega) M hM) λ_=>.pure _)<|.alt (λM hM=>.bind (x 5 (by omega) M hM) λ_=>.pure _) prim
  have all:∀ d lv,lv+d=5->PE (N+1) (gX lv):=λd=>by
   induction d with
   | zero =>
    intro lv h;obtain rfl:lv=5:=by omega
    exact h5
   | succ d ih =>
    intro lv h;rw [gX_low (by omega)];exact .bind (ih (lv+1) (by omega)) λa=>⟨hl lv (by omega) a,En.l lv a⟩
  exact ⟨λlv h=>(all (5 - lv) lv (by omega)).pf,hl⟩
variable {N:Nat}
theorem PE.ex:PE N gEx:=⟨(Pf.xl N).1 0 (by omega),En.x 5 0 rfl⟩
theorem PE.st {b:Pz (List Sm)} (hb:∀ M,M+1<=N->PE M b):PE N (gSt b):=by
 have blk:∀ M,M+1<=N->PE M (gBlk b):=λM h=>.bind (.nd _) λ_=>.bind (hb M h) λ_=>.bind (.nd _) λ_=>.pure _;have els:∀ M,M+1<=N->PE M (gEls b):=λM h=>.alt (λM' h'=>blk M' (by omega)) (.pure _);have oth:∀ M,M+1<=N->PE M (gOth b):=λM h=>.alt (λM' h'=>blk M' (by omega)) (.bind (.nd _) λ_=>.pure _);have lst:∀ M,PE M (gList gEx):=λM=>.list Shs.ex.le λ_ _=>.ex
 exact .alt (λM h=>.bind .ex λ_=>.bind (blk M h) λ_=>.bind (els M h) λ_=>.pure _)<|.alt (λM h=>.bind .ex λ_=>.bind (blk M h) λ_=>.pure _)<|.alt (λM h=>.bind .ex λ_=>.bind (.nd _) λ_=>.bind .ex λ_=>.bind (oth M h) λ_=>.pure _)<|.alt (λM h=>.bind .nm λ_=>.bind (.nd _) λ_=>.bind .ex λ_=>.bind (oth M h) λ_=>.pure _)<|.alt (λM h=>.bind .nm λ_=>.bind (.nd _) λ_=>.bind .nm λ_=>.bind (lst M) λ_=>.bind (.nd _) λ_=>.pure _)<|.alt (λM h=>.bind .ex λ_=>.bind (.nd _) λ_=>.bind .nm λ_=>.bind (lst M) λ_=>.bind (.nd _) λ_=>.pure _)<|.alt (λM h=>.bind (.nd _) λ_=>.pure _)<|.alt (λM h=>.bind .nm λ_=>.bind (.nd _) λ_=>.bind .ex λ_=>.bind (.nd _) λ_=>.bind (.nd _) λ_=>.pure _)<|.bind .nm λ_=>.alt (λM h=>.bind .ex λ_=>.bind (.nd _) λ_=>.bind (.nd _) λ_=>.bind .ex λ_=>.bind (.nd _) λ_=>.pure _)
  (.bind (.nd _) λ_=>.bind .ex λ_=>.bind (.nd _) λ_=>.pure _)
theorem En.b:En gB:=.inl (by rw [gB_eq];rfl)
theorem PE.b:∀ N,PE N gB
 | 0=>⟨.zero Shr.b,En.b⟩
 | N+1=>by
  have st:PE (N+1) (gSt gB):=.st λM h=>(PE.b N).le (by omega);have rest:∀ a:Sm,PE N (gBind gB λl=>gPure (a::l)):=λa=>.bind (PE.b N) λ_=>.pure _
  refine ⟨.look (c:=isT [125]) (p:=gPure []) (q:=gBind (gSt gB) λs=>gBind gB λl=>gPure (s::l)) rfl (λ_ _ _=>rfl) (λr h=>?_) (λr h=>?_) (.pure _)
   (.bindS st.pf (λr a q hr e=>?_) (λa=>(rest a).pf) (λa=>(rest a).en)) (.bind st.en λa=>(rest a).en),En.b⟩
  ·rw [gB_eq,Al_if_pos h]
   rfl
  ·rw [gB_eq,Al_if_neg (by rw [h];decide)]
   rfl
  ·have:=Shs.st Shr.b _ _ _ e;omega
theorem PE.blk:PE N (gBlk gB):=.bind (.nd _) λ_=>.bind (.b N) λ_=>.bind (.nd _) λ_=>.pure _
theorem PE.int:PE N gInt:=.alt (λ_ _=>.bind .nu λ_=>.pure _) .nu
theorem PE.hd:PE N gHd:=.bind .nm λ_=>.bind (.list Shs.nm.le λ_ _=>.nm) λ_=>.bind .blk λ_=>.pure _
structure Xf {α:Type} (p:Pz α):Prop where
 no:p []=.er [] 8
 go:∀ r a q w,p r=.ok a q->p (r++w)=.ok a (q++w)
theorem Xf.nd (w:Str):Xf (gNd w):=⟨Z,λr a q z e=>by
 cases r with
 | nil=>cases e
 | cons t r =>
  unfold gNd at e
  split at e
  ·rename_i h;injection e with _ e
   subst e;show (if isT w (t::(r++z))=true then _ else _)=_;have h2:isT w (t::(r++z))=true:=h;rw [Al_if_pos h2]
   rfl
  ·cases e⟩
theorem Xf.pure {α β:Type} {p:Pz α} {f:α->β} (h:Xf p):Xf (gBind p λa=>gPure (f a)):=⟨by unfold gBind;rw [h.no];rfl,λr b q w e=>by
 obtain ⟨a,q1,h1,h2⟩:=Rs.bind_ok e;injection h2 with h2 h3
 subst h2;subst h3;unfold gBind;rw [h.go r a q1 w h1]
 rfl⟩
theorem Xf.bind {α β:Type} {p:Pz α} {f:α->Pz β} (hp:∀ N,PE N p) (hf:∀ a,Xf (f a)):Xf (gBind p f):=⟨by
 unfold gBind;rcases (hp 0).en with h | ⟨b,h⟩
 ·rw [h];rfl
 ·rw [h];exact (hf b).no,λr b q' w e=>by
 obtain ⟨a,q,h1,h2⟩:=Rs.bind_ok e
 have hq:q≠[]:=λk=>by
  subst k;rw [(hf a).no] at h2;cases h2
 obtain ⟨u,rfl,_,B⟩:=(hp r.length).pf _ _ _ (Al_Nat_le_refl _) h1;have h3:=B (q++w) (λk=>hq (Al_List_append_eq_nil_iff.1 k).1) (by cases q with | nil=>exact absurd rfl hq | cons t q=>rfl);unfold gBind;rw [Al_List_append_assoc,h3];exact (hf a).go q b q' w h2⟩
def parP (ks:List Kt):List Kt:=(4,[40])::(ks++[(4,[41])])
def RdK (ks:List Kt) (e:Ex):Prop:=∀ le r,le.map kt=ks->Stp 0 r->pX 0 (le++r)=.ok e r
variable {ks:List Kt}
theorem RdK.par {e:Ex} (h:RdK ks e) {le r:List Tk} (hk:le.map kt=parP ks):pX 5 (le++r)=.ok e r:=by
 unfold parP at hk;obtain ⟨t,l1,rfl,ht,hk⟩:=Al_List_map_eq_cons_iff.1 hk;obtain ⟨l2,l3,rfl,h2,h3⟩:=Al_List_map_eq_append_iff.1 hk;obtain ⟨t2,l4,rfl,ht2,h4⟩:=Al_List_map_eq_cons_iff.1 h3;obtain rfl:=Al_List_map_eq_nil_iff.1 h4;simp only [Al_List_cons_append,Al_List_append_assoc,Al_List_nil_append];have hf:=h l2 (t2::r) h2 (.of (by rw [ht2];decide) (by rw [ht2];decide));rw [pX_un,isT_cons,isT_cons,ht,Al_if_neg (by decide),Al_if_neg (by decide),primE];have hk0:t.k=4:=congrArg Prod.fst ht;simp only [isT_cons,ht];rw [Al_if_neg (by rw [hk0];decide),Al_if_neg (by decide),Al_if_neg (by decide),Al_if_neg (by decide),Al_if_neg (by decide),Al_if_pos (by decide),hf];show needT [41] (t2::r) _=_;rw [needT,isT_cons,ht2,Al_if_pos (by decide)]
 rfl
end Go.Proofs.YtidclioghdbphaaGreatDoor
/- Plain: expressions with all parentheses are read back: the cases beside two operands. -/
namespace Go.Proofs.YtidclioghdbphaaGreatDoor
mutual
def fullK:Ex->List Kt
 | .mk op nm n args=>match fullKs args with
  | []=>ktE (.mk op nm n [])
  | [b]=>if op=6 then (1,nm)::(4,[91])::(b++[(4,[93])]) else if op=7 then (2,[104,97,115])::(1,nm)::(4,[91])::(b++[(4,[93])])
   else if op=9 then (4,[45])::parP b else (2,[110,111,116])::parP b
  | a::b::_=>parP a++symK op::parP b
def fullKs:List Ex->List (List Kt)
 | []=>[]
 | e::r=>fullK e::fullKs r
end
mutual
def fullS:Ex->Str
 | .mk op nm n args=>match fullSs args with
  | []=>Ex.text (.mk op nm n [])
  | [b]=>if op=6 then nm++91::(b++[93]) else if op=7 then [104,97,115]++32::(nm++91::(b++[93]))
   else if op=9 then 45::32::40::(b++[41]) else [110,111,116]++32::40::(b++[41])
  | a::b::_=>40::(a++41::((shapeOf op).tx++40::(b++[41])))
def fullSs:List Ex->List Str
 | []=>[]
 | e::r=>fullS e::fullSs r
end
def LxF (e:Ex):Prop:=∀ r ks,sepB r->Lx r ks->Lx (fullS e++r) (fullK e++ks)/\hdB (fullS e++r)
variable {r:Str} {ks:List Kt}
theorem LxF.par {e:Ex} (h:LxF e) (hr:hdB r) (hk:Lx r ks):Lx (40::(fullS e++41::r)) (parP (fullK e)++ks):=by
 obtain ⟨k1,k2⟩:=h (41::r) ((4,[41])::ks) cl_sep (.sy (by decide) hr hk);have e2:parP (fullK e)++ks=(4,[40])::(fullK e++(4,[41])::ks):=by simp [parP]
 rw [e2];exact .sy (by decide) k2 k1
def tkA (o:Nat) (m:Str):List Tk:=toks (o+skipN m) (m.drop (skipN m))
theorem tkA_lex (s:Str):lexR s=tkA 0 s:=by
 unfold tkA;rw [Al_Nat_zero_add];exact lexR_toks s
theorem tkA_nil (o:Nat):tkA o []=[]:=by
 unfold tkA;rw [List.drop_nil,toks_nil]
theorem skipN_app {p m:Str} (h:skipS false (p++m)=skipS false m):skipN (p++m)=p.length+skipN m:=by
 unfold skipN;have:=skipS_len false m;rw [h,Al_List_length_append];omega
theorem tkA_gap {o:Nat} {p m:Str} (h:skipS false (p++m)=skipS false m):tkA o (p++m)=tkA (o+p.length) m:=by
 unfold tkA;rw [skipN_app h,<-Al_List_drop_drop,List.drop_left,Al_Nat_add_assoc]
theorem tkA_tok {o:Nat} {x:Kt} {m:Str} (h:Tok x m):tkA o (x.2++m)=⟨x.1,x.2,o⟩::tkA (o+x.2.length) m:=by
 have e:skipN (x.2++m)=0:=by unfold skipN;rw [h.skip];omega
 have hne:x.2++m≠[]:=by intro e;exact h.ne (Al_List_append_eq_nil_iff.1 e).1
 conv=>lhs;unfold tkA
 rw [e,Al_List_drop_zero,Al_Nat_add_zero,toks_cons hne,h.read];simp only [Al_List_take_left,List.drop_left]
 congr 1
 unfold tkA;rw [<-Al_List_drop_drop,List.drop_left]
variable {n:Nat}
theorem readK_split {c:UInt8} {k:UInt8} (h:readK (c::r)=(k,n)) (h5:k≠5) :
 (letB c=true/\n=pre insB (c::r)/\(if words.contains ((c::r).take n) then (2:UInt8) else if n<=12 then 1 else 5)=k) \/
 (letB c=false/\digB c=true/\n=pre digB (c::r)/\(n=1\/c≠48)/\k=3) \/
 (letB c=false/\digB c=false/\k=4/\∃ y,symbols.find? (λx=>x.isPrefixOf (c::r))=some y/\n=y.length):=by
 cases h1:letB c with
 | true =>
  refine .inl ⟨Z,?_⟩;cases h4:words.contains ((c::r).take (pre insB (c::r))) with
  | true =>
   simp only [readK,Al_List_headD_cons,h1,h4,Al_if_true,Al_Prod_mk_injEq] at h;obtain ⟨rfl,rfl⟩:=h;exact ⟨Z,by rw [h4];rfl⟩
  | false =>
   by_cases h6:pre insB (c::r)<=12
   ·simp only [readK,Al_List_headD_cons,h1,h4,h6,Al_if_true,Al_Bool_false_eq_true,Al_if_false,Al_Prod_mk_injEq] at h;obtain ⟨rfl,rfl⟩:=h;exact ⟨Z,by rw [h4,Al_if_neg (by decide),Al_if_pos h6]⟩
   ·simp only [readK,Al_List_headD_cons,h1,h4,h6,Al_if_true,Al_Bool_false_eq_true,Al_if_false,Al_Prod_mk_injEq] at h;exact absurd h.1.symm h5
 | false =>
  cases h4:digB c with
  | true =>
   by_cases h6:pre digB (c::r)=1\/c≠48
   ·simp only [readK,Al_List_headD_cons,h1,h4,h6,Al_if_true,Al_Bool_false_eq_true,Al_if_false,Al_Prod_mk_injEq] at h;obtain ⟨rfl,rfl⟩:=h;exact .inr (.inl ⟨Z,Z,Z,h6,Z⟩)
   ·simp only [readK,Al_List_headD_cons,h1,h4,h6,Al_if_true,Al_Bool_false_eq_true,Al_if_false,Al_Prod_mk_injEq] at h;exact absurd h.1.symm h5
  | false =>
   cases hx:symbols.find? (λx=>x.isPrefixOf (c::r)) with
   | none =>
    simp only [readK,Al_List_headD_cons,h1,h4,hx,Al_Bool_false_eq_true,Al_if_false,Al_Prod_mk_injEq] at h;exact absurd h.1.symm h5
   | some y =>
    simp only [readK,Al_List_headD_cons,h1,h4,hx,Al_Bool_false_eq_true,Al_if_false,Al_Prod_mk_injEq] at h;obtain ⟨rfl,rfl⟩:=h;exact .inr (.inr ⟨Z,Z,Z,y,Z,Z⟩)
theorem tok_dig {c:UInt8} {t:Str} (hsh:(c::t).length<=1000000) (hall:(c::t).all digB=true) (h2:t=[]\/c≠48) (hr:∀ d,r.head? = some d->digB d=false):Tok (3,c::t) r:=by
 have hp:pre digB ((c::t)++r)=(c::t).length:=pre_app hall hr;rw [Al_List_all_cons,Al_Bool_and_eq_true] at hall;have hb:=dig_blk c hall.1;refine ⟨by simp,?_,skipS_stop hb.1 (λe=>hb.2.1 e.1),(show (3:UInt8)≠5 by decide),hsh⟩;show readK ((c::t)++r)=(3,(c::t).length);unfold readK;simp only;rw [show ((c::t)++r).headD 0=c from rfl,hb.2.2.2.2.2,Al_if_neg (by decide),hall.1,Al_if_pos rfl,hp];refine Al_if_pos ?_;rcases h2 with rfl | h2
 ·exact .inl Z
 ·exact .inr h2
variable {w:Str}
theorem pre_take_all {q:UInt8->Bool} (h:pre q (w++r)=w.length):w.all q=true/\∀ d,r.head? = some d->q d=false:=by
 induction w with
 | nil =>
  refine ⟨Z,λd hd=>?_⟩;cases r with
  | nil=>cases hd
  | cons e r =>
   obtain rfl:e=d:=Al_Option_some_inj hd;cases hq:q e with
   | false=>rfl
   | true =>
    rw [Al_List_nil_append] at h;unfold pre at h;rw [Al_List_takeWhile_cons,hq] at h;simp at h
 | cons a w ih =>
  rw [Al_List_cons_append] at h;unfold pre at h;rw [Al_List_takeWhile_cons] at h;cases hq:q a with
  | false=>rw [hq] at h;simp at h
  | true =>
   rw [hq] at h;have:=ih (by unfold pre;simpa using h);exact ⟨by rw [Al_List_all_cons,hq,this.1];rfl,this.2⟩
theorem blk_sep {c:UInt8} (h:blkB c=true):insB c=false/\c≠46/\c≠61/\c≠62/\c≠47:=by
 revert h
 exact byte_key (Q:=λc=>blkB c=true->insB c=false/\c≠46/\c≠61/\c≠62/\c≠47) (by decide +kernel) c
theorem prefix_blk {d:UInt8} (hd:blkB d=true):∀ {z w r:Str},z.all (λc=>!blkB c)=true->z.isPrefixOf (w++d::r)=z.isPrefixOf w
 | [],w,r,_=>by simp [List.isPrefixOf]
 | a::z,[],r,h=>by
  rw [Al_List_all_cons,Al_Bool_and_eq_true] at h;have:(a == d)=false:=Al_beq_false_of_ne λe=>by subst e;rw [hd] at h;simp at h
  simp [List.isPrefixOf,this]
 | a::z,b::w,r,h=>by
  rw [Al_List_all_cons,Al_Bool_and_eq_true] at h;simp only [Al_List_cons_append,List.isPrefixOf];rw [prefix_blk hd h.2]
theorem find_ext {α:Type} {p q:α->Bool}:∀ {l:List α},(∀ x∈l,p x=q x)->l.find? p=l.find? q
 | [],_=>rfl
 | a::l,h=>by
  rw [List.find?_cons,List.find?_cons,h a (by simp),find_ext λx hx=>h x (Al_List_mem_cons_of_mem _ hx)]
theorem sym_facts:∀ w∈symbols,w≠[]/\letB (w.headD 0)=false/\digB (w.headD 0)=false/\blkB (w.headD 0)=false/\w.take 2≠[47,47]/\w.all (λc=>!blkB c)=true/\w.length<=2/\symbols.find? (λx=>x.isPrefixOf w)=some w:=by decide +kernel
def gapB (r:Str):Prop:=∀ d,r.head? = some d->blkB d=true
theorem tok_symG (hw:w∈symbols) (hr:gapB r):Tok (4,w) r:=by
 obtain ⟨h0,h1,h2,h3,h4,h5,h6,h7⟩:=sym_facts w hw
 match w,h0 with
 | c::t,h0 =>
  have hf:symbols.find? (λx=>x.isPrefixOf ((c::t)++r))=some (c::t):=by
   cases r with
   | nil=>rw [Al_List_append_nil];exact h7
   | cons d r=>rw [<-h7];exact find_ext λx hx=>prefix_blk (hr d rfl) (sym_facts x hx).2.2.2.2.2.1
  refine ⟨h0,?_,skipS_stop h3 ?_,(show (4:UInt8)≠5 by decide),(by show (c::t).length<=1000000;omega)⟩
  ·show readK ((c::t)++r)=(4,(c::t).length);unfold readK;simp only;rw [show ((c::t)++r).headD 0=c from rfl,show letB c=false from h1,show digB c=false from h2,hf];simp
  ·rintro ⟨rfl,h⟩;cases t with
   | nil =>
    cases r with
    | nil=>cases h
    | cons d r =>
     obtain rfl:d=47:=Al_Option_some_inj h;exact absurd (hr 47 rfl) (by decide)
   | cons b t =>
    obtain rfl:b=47:=Al_Option_some_inj h;exact h4 rfl
theorem gapB.sep (h:gapB r):sepB r:=λc hc=>blk_sep (h c hc)
theorem Tok.gap {x:Kt} {r':Str} (h:Tok x r) (hr:gapB r'):Tok x r':=by
 obtain ⟨k,w⟩:=x;have hne:=h.ne
 match w,hne with
 | c::t,hne =>
  have hrd:readK (c::(t++r))=(k,(c::t).length):=h.read;have htk:(c::(t++r)).take (c::t).length=c::t:=by rw [<-Al_List_cons_append,Al_List_take_left]
  rcases readK_split hrd h.k5 with ⟨h1,h2,h3⟩ | ⟨h1,h2,h3,h4,h5⟩ | ⟨h1,h2,h3,y,h4,h5⟩
  ·rw [htk] at h3;exact tok_word hne h1 (pre_take_all (w:=c::t) (r:=r) h2.symm).1 h3 h.k5 hr.sep
  ·obtain rfl:k=3:=h5;refine tok_dig h.sh (pre_take_all (w:=c::t) (r:=r) h3.symm).1 ?_ λd hd=>ins_dig d (hr.sep d hd).1;rcases h4 with h4 | h4
   ·left;cases t with
    | nil=>rfl
    | cons=>simp at h4
   ·exact .inr h4
  ·obtain rfl:k=4:=h3;have hm:=List.mem_of_find?_eq_some h4;have hpf:y.isPrefixOf (c::(t++r))=true:=by simpa using List.find?_some h4
   obtain ⟨u,hu⟩:=Al_List_isPrefixOf_iff_prefix.1 hpf
   have:y=c::t:=by
    have e:=congrArg (List.take y.length) hu;rw [Al_List_take_left,<-h5,htk] at e;exact e
   subst this;exact tok_symG hm hr
theorem prefix_two {z a b:Str} (hz:z.length<=2) (h:a.take 2=b.take 2):z.isPrefixOf a=z.isPrefixOf b:=by
 have key:∀ (m:Str),z.isPrefixOf m=z.isPrefixOf (m.take 2):=by
  intro m
  match z,hz,m with
  | [],_,m=>simp [List.isPrefixOf]
  | [x],_,[]=>rfl
  | [x],_,[y]=>rfl
  | [x],_,y::u::m=>rfl
  | [x,x'],_,[]=>rfl
  | [x,x'],_,[y]=>rfl
  | [x,x'],_,y::u::m=>rfl
 rw [key a,key b,h]
theorem Tok.tail {x:Kt} {d:UInt8} {r':Str} (h:Tok x (d::r)):Tok x (d::r'):=by
 obtain ⟨k,w⟩:=x;have hne:=h.ne
 match w,hne with
 | c::t,hne =>
  have hrd:readK (c::(t++d::r))=(k,(c::t).length):=h.read;have htk:(c::(t++d::r)).take (c::t).length=c::t:=by rw [<-Al_List_cons_append,Al_List_take_left]
  have h2t:((c::t)++d::r).take 2=((c::t)++d::r').take 2:=by
   cases t with
   | nil=>rfl
   | cons b t=>rfl
  have hsk:skipS false ((c::t)++d::r')=(c::t)++d::r':=by
   have h0:skipS false (c::(t++d::r))=c::(t++d::r):=h.skip;rw [skipS] at h0
   have hb:blkB c=false:=by
    cases e:blkB c with
    | false=>rfl
    | true =>
     rw [Al_if_pos e] at h0;have h1:=congrArg List.length h0;have h2:=skipS_len false (t++d::r);rw [Al_List_length_cons] at h1;omega
   rw [Al_if_neg (by rw [hb];decide)] at h0;refine skipS_stop hb λe=>?_;have e2:(t++d::r').head? = (t++d::r).head? := by cases t <;> rfl
   have e1:c=47/\(t++d::r').head? = some 47:=e;rw [e2] at e1;rw [Al_if_pos e1] at h0;have h1:=congrArg List.length h0;have h2:=skipS_len true (t++d::r);rw [Al_List_length_cons] at h1;omega
  refine ⟨h.ne,?_,hsk,h.k5,h.sh⟩;show readK ((c::t)++d::r')=(k,(c::t).length);rcases readK_split hrd h.k5 with ⟨h1,h2,h3⟩ | ⟨h1,h2,h3,h4,h5⟩ | ⟨h1,h2,h3,y,h4,h5⟩
  ·have ha:=pre_take_all (w:=c::t) (r:=d::r) h2.symm;have hp:pre insB ((c::t)++d::r')=(c::t).length:=pre_app ha.1 λe he=>ha.2 e he;rw [htk] at h3;unfold readK;simp only;rw [show ((c::t)++d::r').headD 0=c from rfl,h1,Al_if_pos rfl,hp,Al_List_take_left]
   split at h3
   ·rename_i e;rw [Al_if_pos e,<-h3]
   ·rename_i e;rw [Al_if_neg e]
    split at h3
    ·rename_i e2;rw [Al_if_pos e2,<-h3]
    ·exact absurd h3.symm h.k5
  ·obtain rfl:k=3:=h5;have ha:=pre_take_all (w:=c::t) (r:=d::r) h3.symm;have hp:pre digB ((c::t)++d::r')=(c::t).length:=pre_app ha.1 λe he=>ha.2 e he;unfold readK;simp only;rw [show ((c::t)++d::r').headD 0=c from rfl,h1,Al_if_neg (by decide),h2,Al_if_pos rfl,hp];exact Al_if_pos h4
  ·obtain rfl:k=4:=h3
   have hf:symbols.find? (λx=>x.isPrefixOf ((c::t)++d::r'))=some y:=by
    rw [<-h4];exact find_ext λx hx=>prefix_two (sym_facts x hx).2.2.2.2.2.2.1 h2t.symm
   unfold readK;simp only;rw [show ((c::t)++d::r').headD 0=c from rfl,h1,h2,hf];simp [<-h5]
variable {s:Str}
theorem Lx.size {k:List Kt} (h:Lx s k):(k.map λx=>x.2.length).sum<=s.length/\k.length<=(k.map λx=>x.2.length).sum:=by
 induction h with
 | nil=>simp
 | blk _ _ ih=>simp only [Al_List_length_cons];omega
 | @tok x s k ht _ ih =>
  have:=Al_List_length_pos_iff.2 ht.ne;simp only [Al_List_map_cons,List.sum_cons,Al_List_length_cons,Al_List_length_append];omega
end Go.Proofs.YtidclioghdbphaaGreatDoor
namespace Go.Proofs.YtidclioghdbphaaGreatDoor
open Go.RowKit Go.Par Go.Sx
def nmQ (n:Str):Bool:=match splitF n with | some (a,b)=>nameB a && nameB b | none=>nameB n
theorem splitF_back:∀ {n a b:Str},splitF n=some (a,b)->n=a++([46]:Str)++b
 | [],_,_,h=>by cases h
 | c::r,a,b,h=>by
  rw [splitF] at h
  split at h
  ·rename_i hc;cases h;rw [hc];rfl
  ·cases hs:splitF r with
   | none=>rw [hs] at h;cases h
   | some x =>
    obtain ⟨y,z⟩:=x;rw [hs] at h;cases h;rw [splitF_back hs];rfl
variable {r:Str}
theorem tok_numD {u:Nat} (hu:u<=9223372036854775808) (hr:∀ d,r.head? = some d->digB d=false):Tok (3,Lib.decDigits u) r:=by
 have hdl:=dec_len hu;obtain ⟨c,t,e,h2,_⟩:=digits_hd u
 have hall:(Lib.decDigits u).all digB=true:=Al_List_all_eq_true.2 λd hd=>by
  have:=Plain.digits_are u d hd;simp only [digB,Al_Bool_and_eq_true,Al_decide_eq_true_eq];exact this
 rw [e] at hall hdl|-;exact tok_dig (by omega) hall h2 hr
theorem Lx.nd {u:Nat} {k:List Kt} (hu:u<=9223372036854775808) (hr:∀ d,r.head? = some d->digB d=false) (h:Lx r k):Lx (Lib.decDigits u++r) ((3,Lib.decDigits u)::k):=.tok (x:=(3,Lib.decDigits u)) (tok_numD hu hr) h
def LxN (s:Str) (q:List Kt):Prop:=∀ r ks,sepB r->Lx r ks->Lx (s++r) (q++ks)/\hdB (s++r)
theorem mis_op {op:UInt8} {nm:Str} {n:Int64} {args:List Ex} (h:misB (.mk op nm n args)=false):(op=5\/op=6\/op=8->nmQ nm=true)/\(op=6\/op=8->(splitF nm).isSome=true)/\∀ a∈args,misB a=false:=by
 rw [misB_mk,tn_mis,Al_Bool_or_eq_false_iff] at h;obtain ⟨h1,h2⟩:=h;rw [Bool.not_eq_false'] at h1;unfold tnB at h1;refine ⟨λho=>?_,λho=>?_,λa ha=>?_⟩
 ·rw [Al_if_pos ho] at h1;unfold nmQ;cases hs:splitF nm with
  | none=>rw [hs] at h1;simp only [Al_Bool_and_eq_true] at h1;exact h1.2
  | some x=>rw [hs] at h1;exact h1
 ·rw [Al_if_pos (.inr ho)] at h1;cases hs:splitF nm with
  | none=>rw [hs] at h1;rcases ho with rfl | rfl <;> simp at h1
  | some x=>rfl
 ·cases hm:misB a with
  | false=>rfl
  | true=>rw [Al_List_any_eq_true.2 ⟨a,ha,hm⟩] at h2;cases h2
theorem trm_op {op:UInt8} {nm:Str} {n:Int64} {args:List Ex} (h:termB (.mk op nm n args)=true) :
 (op=1/\nm=[]/\0<=n.toInt/\args=[])\/(op=4/\nm=[]/\n=0/\args=[])\/((op=5\/op=8)/\n=0/\args=[])\/(op=6/\n=0/\∃ a,args=[a]/\termB a=true)\/(op=9/\nm=[]/\n=0/\∃ a,args=[a]/\termB a=true) \/
 (op∈([11,12,13,14,15]:List UInt8)/\nm=[]/\n=0/\∃ a b,args=[a,b]/\termB a=true/\termB b=true):=by
 rw [termB] at h
 split at h
 ·rename_i e;simp only [Al_Bool_and_eq_true,Al_decide_eq_true_eq] at h;exact .inl ⟨e,h.1.1,h.1.2,Al_List_eq_nil_of_length_eq_zero h.2⟩
 split at h
 ·rename_i e;simp only [Al_Bool_and_eq_true,Al_decide_eq_true_eq] at h;exact .inr (.inl ⟨e,h.1.1,h.1.2,Al_List_eq_nil_of_length_eq_zero h.2⟩)
 split at h
 ·rename_i e;simp only [Al_Bool_and_eq_true,Al_decide_eq_true_eq] at h;exact .inr (.inr (.inl ⟨e,h.1,Al_List_eq_nil_of_length_eq_zero h.2⟩))
 split at h
 ·rename_i e;simp only [Al_Bool_and_eq_true,Al_decide_eq_true_eq,termBs_all] at h;obtain ⟨a,rfl⟩:=args1 h.2.2;exact .inr (.inr (.inr (.inl ⟨e,h.1,a,Z,by simpa using h.2.1⟩)))
 split at h
 ·rename_i e;simp only [Al_Bool_and_eq_true,Al_decide_eq_true_eq,termBs_all] at h;obtain ⟨a,rfl⟩:=args1 h.2.2;exact .inr (.inr (.inr (.inr (.inl ⟨e,h.1.1,h.1.2,a,Z,by simpa using h.2.1⟩))))
 split at h
 ·rename_i e;simp only [Al_Bool_and_eq_true,Al_decide_eq_true_eq,termBs_all] at h;obtain ⟨a,b,rfl⟩:=args2 (l:=args) h.2.2;refine .inr (.inr (.inr (.inr (.inr ⟨?_,h.1.1,h.1.2,a,b,Z,?_⟩))))
  ·simpa using e
  ·simpa using h.2.1
 ·cases h
def bnW (a b:Int64):Prop:=(a=0/\b=-1)\/(0<=a.toInt/\a.toInt<=b.toInt/\b.toInt<=200)
inductive Fg7:Fm->Prop
 | tf {op:UInt8} (h:op=1\/op=2):Fg7 (.mk op [] [] 0 0 [] [])
 | cmp {o:UInt8} {x y:Ex} (h:o∈([16,17,18,19,20,21]:List UInt8)) (hx:termB x=true) (hy:termB y=true):Fg7 (.mk 3 [] [] 0 0 [.mk o [] 0 [x,y]] [])
 | var {nm fd:Str}:Fg7 (.mk 4 nm fd 0 0 [] [])
 | has {nm fd:Str} {x:Ex} (hx:termB x=true):Fg7 (.mk 5 nm fd 0 0 [x] [])
 | flg {nm:Str}:Fg7 (.mk 6 nm [] 0 0 [] [])
 | arr {nm fd:Str} {ex:List Ex} (hl:ex.length<=4) (hx:∀ x∈ex,x=zE\/termB x=true):Fg7 (.mk 7 nm fd 0 0 ex [])
 | un {op:UInt8} {g:Fm} (h:op=8\/op=12):Fg7 (.mk op [] [] 0 0 [] [g])
 | win {op:UInt8} {a b:Int64} {g:Fm} (h:op=13\/op=14) (hw:bnW a b):Fg7 (.mk op [] [] a b [] [g])
 | amo {op:UInt8} {nm:Str} {a b:Int64} {g:Fm} (h:op=16\/op=17) (ha:-1000000<=a.toInt) (hb:-1000000<=b.toInt):Fg7 (.mk op nm [] a b [] [g])
 | cnt {nm:Str} {a b n:Int64} {g:Fm} (ha:-1000000<=a.toInt) (hb:-1000000<=b.toInt) (hn:0<=n.toInt):Fg7 (.mk 18 nm [] a b [.mk 1 [] n []] [g])
 | bin {op:UInt8} {g h:Fm} (ho:op=9\/op=10\/op=11):Fg7 (.mk op [] [] 0 0 [] [g,h])
 | snc {a b:Int64} {g h:Fm} (hw:bnW a b):Fg7 (.mk 15 [] [] a b [] [g,h])
theorem op19 {op:UInt8} (h:op.toNat<=18):op∈([0,1,2,3,4,5,6,7,8,9,10,11,12,13,14,15,16,17,18]:List UInt8):=by
 revert h
 exact op_cases (q:=λop=>op.toNat<=18->op∈([0,1,2,3,4,5,6,7,8,9,10,11,12,13,14,15,16,17,18]:List UInt8)) (by decide +kernel) op
theorem op1621 {op:UInt8} (h:16<=op.toNat/\op.toNat<=21):op∈([16,17,18,19,20,21]:List UInt8):=by
 revert h
 exact op_cases (q:=λop=>16<=op.toNat/\op.toNat<=21->op∈([16,17,18,19,20,21]:List UInt8)) (by decide +kernel) op
theorem any_zE {e:Ex} (h:anyB e=true):e=zE:=by
 obtain ⟨op,nm,n,args⟩:=e;simp only [anyB,Al_Bool_and_eq_true,Al_decide_eq_true_eq] at h;obtain ⟨⟨⟨rfl,rfl⟩,rfl⟩,h⟩:=h;rw [Al_List_eq_nil_of_length_eq_zero h];rfl
theorem len1 {α:Type} {l:List α} (h:l.length=1):∃ a,l=[a]:=List.length_eq_one_iff.1 h
theorem len2 {α:Type} {l:List α} (h:l.length=2):∃ a b,l=[a,b]:=by
 match l,h with
 | [a,b],_=>exact ⟨a,b,Z⟩
theorem bn_of {op:UInt8} {nm fd:Str} {a b:Int64} {ex:List Ex} {args:List Fm} (h:bndB (.mk op nm fd a b ex args)=true):(((fsOf op).wn=true/\bnW a b)\/((fsOf op).wn=false/\(fsOf op).am=true/\-1000000<=a.toInt/\-1000000<=b.toInt))\/((fsOf op).wn=false/\(fsOf op).am=false/\a=0/\b=0):=by
 replace h:(if (fsOf op).wn=true then (decide (a=0) && decide (b.toInt=-1)) || (decide (0<=a.toInt) && decide (a.toInt<=b.toInt) && decide (b.toInt<=200))
  else if (fsOf op).am=true then decide (-1000000<=a.toInt) && decide (a.toInt<=b.toInt) && decide (b.toInt<=1000000) && decide (b.toInt - a.toInt<32)
  else decide (a=0) && decide (b=0))=true:=h
 cases hw:(fsOf op).wn with
 | true =>
  rw [Al_if_pos hw] at h;simp only [Al_Bool_or_eq_true,Al_Bool_and_eq_true,Al_decide_eq_true_eq] at h;refine .inl (.inl ⟨Z,?_⟩);rcases h with h | h
  ·exact .inl ⟨h.1,Al_Int64_toInt_inj.1 h.2⟩
  ·exact .inr ⟨h.1.1,h.1.2,h.2⟩
 | false =>
  rw [Al_if_neg (by rw [hw];decide)] at h;cases ha:(fsOf op).am with
  | true =>
   rw [Al_if_pos ha] at h;simp only [Al_Bool_and_eq_true,Al_decide_eq_true_eq] at h;exact .inl (.inr ⟨Z,Z,by omega,by omega⟩)
  | false =>
   rw [Al_if_neg (by rw [ha];decide)] at h;simp only [Al_Bool_and_eq_true,Al_decide_eq_true_eq] at h;exact .inr ⟨Z,Z,h.1,h.2⟩
theorem cmp_of {e:Ex} (h:cmpB e=true):∃ o x y,e=.mk o [] 0 [x,y]/\o∈([16,17,18,19,20,21]:List UInt8)/\termB x=true/\termB y=true:=by
 obtain ⟨o,nm,n,args⟩:=e;simp only [cmpB,Al_Bool_and_eq_true,Al_decide_eq_true_eq,termBs_all] at h;obtain ⟨⟨⟨⟨h1,h2⟩,rfl⟩,rfl⟩,h3,h4⟩:=h;obtain ⟨x,y,rfl⟩:=len2 h4;have h3':termB x=true/\termB y=true:=by simpa using h3
 exact ⟨o,x,y,Z,op1621 ⟨h1,h2⟩,h3'.1,h3'.2⟩
theorem form_of {op:UInt8} {nm fd:Str} {a b:Int64} {ex:List Ex} {args:List Fm} (h:formB (.mk op nm fd a b ex args)=true):Fg7 (.mk op nm fd a b ex args):=by
 have hop:=op19 (form_op h);have hB:=bn_of (form_parts h).2.2.2;have hE:=(form_parts h).2.2.1;have hA:=(form_parts h).2.1;have hL:=(form_parts h).1
 have hN:((fsOf op).nm=false->nm=[])/\((fsOf op).fd=false->fd=[]):=by
  unfold formB at h;rw [Al_Bool_and_eq_true,Al_Bool_and_eq_true,Al_Bool_and_eq_true,Al_Bool_and_eq_true,Al_Bool_and_eq_true,Al_Bool_or_eq_true,Al_Bool_or_eq_true] at h;exact ⟨λe=>Al_of_decide_eq_true (h.1.1.1.1.2.resolve_left (by show ¬ (fsOf op).nm=true;rw [e];decide)),λe=>Al_of_decide_eq_true (h.1.1.1.2.resolve_left (by show ¬ (fsOf op).fd=true;rw [e];decide))⟩
 clear h
 replace hE:(if op=7 then decide (ex.length<=4) && ex.all λe=>anyB e || termB e
  else decide (ex.length=(fsOf op).ex) && (if op=3 then cmpB (ex.headD (.mk 0 [] 0 [])) else if op=5 then termB (ex.headD (.mk 0 [] 0 []))
  else if op=18 then decide ((ex.headD (.mk 0 [] 0 [])).op=1) && termB (ex.headD (.mk 0 [] 0 [])) && decide ((ex.headD (.mk 0 [] 0 [])).n.toInt<=32) else true))=true:=hE
 have ab:(fsOf op).wn=false->(fsOf op).am=false->a=0/\b=0:=λh1 h2=>by
  rcases hB with (⟨e,_⟩ | ⟨_,e,_⟩) | ⟨_,_,e⟩
  ·rw [h1] at e;cases e
  ·rw [h2] at e;cases e
  ·exact e
 have aw:(fsOf op).wn=true->bnW a b:=λh1=>by
  rcases hB with (⟨_,e⟩ | ⟨e,_⟩) | ⟨e,_⟩
  ·exact e
  ·rw [h1] at e;cases e
  ·rw [h1] at e;cases e
 have am:(fsOf op).wn=false->(fsOf op).am=true->-1000000<=a.toInt/\-1000000<=b.toInt:=λh1 h2=>by
  rcases hB with (⟨e,_⟩ | ⟨_,_,e⟩) | ⟨_,e,_⟩
  ·rw [h1] at e;cases e
  ·exact e
  ·rw [h2] at e;cases e
 clear hB;simp only [Al_List_mem_cons,List.not_mem_nil,or_false] at hop
 have e0 {op:UInt8} (h7:¬ op=7) (h3:¬ op=3) (h5:¬ op=5) (h18:¬ op=18) (k:(fsOf op).ex=0) (hE:(if op=7 then decide (ex.length<=4) && ex.all λe=>anyB e || termB e
  else decide (ex.length=(fsOf op).ex) && (if op=3 then cmpB (ex.headD (.mk 0 [] 0 [])) else if op=5 then termB (ex.headD (.mk 0 [] 0 []))
  else if op=18 then decide ((ex.headD (.mk 0 [] 0 [])).op=1) && termB (ex.headD (.mk 0 [] 0 [])) && decide ((ex.headD (.mk 0 [] 0 [])).n.toInt<=32) else true))=true):ex=[]:=by
  rw [Al_if_neg h7,Al_if_neg h3,Al_if_neg h5,Al_if_neg h18,Al_Bool_and_true,Al_decide_eq_true_eq,k] at hE;exact Al_List_eq_nil_of_length_eq_zero hE
 rcases hop with rfl | rfl | rfl | rfl | rfl | rfl | rfl | rfl | rfl | rfl | rfl | rfl | rfl | rfl | rfl | rfl | rfl | rfl | rfl
 ·exact absurd rfl hL
 ·obtain ⟨rfl,rfl⟩:=ab rfl rfl;obtain rfl:=hN.1 rfl;obtain rfl:=hN.2 rfl;obtain rfl:=e0 (by decide) (by decide) (by decide) (by decide) rfl hE;obtain rfl:=Al_List_eq_nil_of_length_eq_zero hA;exact .tf (.inl Z)
 ·obtain ⟨rfl,rfl⟩:=ab rfl rfl;obtain rfl:=hN.1 rfl;obtain rfl:=hN.2 rfl;obtain rfl:=e0 (by decide) (by decide) (by decide) (by decide) rfl hE;obtain rfl:=Al_List_eq_nil_of_length_eq_zero hA;exact .tf (.inr Z)
 ·obtain ⟨rfl,rfl⟩:=ab rfl rfl;obtain rfl:=hN.1 rfl;obtain rfl:=hN.2 rfl;obtain rfl:=Al_List_eq_nil_of_length_eq_zero hA;rw [Al_if_neg (by decide),Al_if_pos rfl,Al_Bool_and_eq_true,Al_decide_eq_true_eq] at hE;obtain ⟨e,rfl⟩:=len1 hE.1;obtain ⟨o,x,y,rfl,h1,h2,h3⟩:=cmp_of hE.2;exact .cmp h1 h2 h3
 ·obtain ⟨rfl,rfl⟩:=ab rfl rfl;obtain rfl:=e0 (by decide) (by decide) (by decide) (by decide) rfl hE;obtain rfl:=Al_List_eq_nil_of_length_eq_zero hA;exact .var
 ·obtain ⟨rfl,rfl⟩:=ab rfl rfl;obtain rfl:=Al_List_eq_nil_of_length_eq_zero hA;rw [Al_if_neg (by decide),Al_if_neg (by decide),Al_if_pos rfl,Al_Bool_and_eq_true,Al_decide_eq_true_eq] at hE;obtain ⟨e,rfl⟩:=len1 hE.1;exact .has hE.2
 ·obtain ⟨rfl,rfl⟩:=ab rfl rfl;obtain rfl:=hN.2 rfl;obtain rfl:=e0 (by decide) (by decide) (by decide) (by decide) rfl hE;obtain rfl:=Al_List_eq_nil_of_length_eq_zero hA;exact .flg
 ·obtain ⟨rfl,rfl⟩:=ab rfl rfl;obtain rfl:=Al_List_eq_nil_of_length_eq_zero hA;rw [Al_if_pos rfl,Al_Bool_and_eq_true,Al_decide_eq_true_eq] at hE;refine .arr hE.1 λx hx=>?_;have:=Al_List_all_eq_true.1 hE.2 x hx;rw [Al_Bool_or_eq_true] at this;exact this.imp any_zE id
 ·obtain ⟨rfl,rfl⟩:=ab rfl rfl;obtain rfl:=hN.1 rfl;obtain rfl:=hN.2 rfl;obtain rfl:=e0 (by decide) (by decide) (by decide) (by decide) rfl hE;obtain ⟨g,rfl⟩:=len1 hA;exact .un (.inl Z)
 ·obtain ⟨rfl,rfl⟩:=ab rfl rfl;obtain rfl:=hN.1 rfl;obtain rfl:=hN.2 rfl;obtain rfl:=e0 (by decide) (by decide) (by decide) (by decide) rfl hE;obtain ⟨g,h,rfl⟩:=len2 hA;exact .bin (.inl Z)
 ·obtain ⟨rfl,rfl⟩:=ab rfl rfl;obtain rfl:=hN.1 rfl;obtain rfl:=hN.2 rfl;obtain rfl:=e0 (by decide) (by decide) (by decide) (by decide) rfl hE;obtain ⟨g,h,rfl⟩:=len2 hA;exact .bin (.inr (.inl Z))
 ·obtain ⟨rfl,rfl⟩:=ab rfl rfl;obtain rfl:=hN.1 rfl;obtain rfl:=hN.2 rfl;obtain rfl:=e0 (by decide) (by decide) (by decide) (by decide) rfl hE;obtain ⟨g,h,rfl⟩:=len2 hA;exact .bin (.inr (.inr Z))
 ·obtain ⟨rfl,rfl⟩:=ab rfl rfl;obtain rfl:=hN.1 rfl;obtain rfl:=hN.2 rfl;obtain rfl:=e0 (by decide) (by decide) (by decide) (by decide) rfl hE;obtain ⟨g,rfl⟩:=len1 hA;exact .un (.inr Z)
 ·obtain rfl:=hN.1 rfl;obtain rfl:=hN.2 rfl;obtain rfl:=e0 (by decide) (by decide) (by decide) (by decide) rfl hE;obtain ⟨g,rfl⟩:=len1 hA;exact .win (.inl Z) (aw Z)
 ·obtain rfl:=hN.1 rfl;obtain rfl:=hN.2 rfl;obtain rfl:=e0 (by decide) (by decide) (by decide) (by decide) rfl hE;obtain ⟨g,rfl⟩:=len1 hA;exact .win (.inr Z) (aw Z)
 ·obtain rfl:=hN.1 rfl;obtain rfl:=hN.2 rfl;obtain rfl:=e0 (by decide) (by decide) (by decide) (by decide) rfl hE;obtain ⟨g,h,rfl⟩:=len2 hA;exact .snc (aw Z)
 ·obtain rfl:=hN.2 rfl;obtain rfl:=e0 (by decide) (by decide) (by decide) (by decide) rfl hE;obtain ⟨g,rfl⟩:=len1 hA;exact .amo (.inl Z) (am Z Z).1 (am Z Z).2
 ·obtain rfl:=hN.2 rfl;obtain rfl:=e0 (by decide) (by decide) (by decide) (by decide) rfl hE;obtain ⟨g,rfl⟩:=len1 hA;exact .amo (.inr Z) (am Z Z).1 (am Z Z).2
 ·obtain rfl:=hN.2 rfl;obtain ⟨g,rfl⟩:=len1 hA;rw [Al_if_neg (by decide),Al_if_neg (by decide),Al_if_neg (by decide),Al_if_pos rfl,Al_Bool_and_eq_true,Al_decide_eq_true_eq] at hE;obtain ⟨e,rfl⟩:=len1 hE.1;have hE2:=hE.2;simp only [Al_List_headD_cons,Al_Bool_and_eq_true,Al_decide_eq_true_eq] at hE2;obtain ⟨o,m,n,al⟩:=e;obtain ⟨⟨ho,ht⟩,_⟩:=hE2;obtain rfl:o=1:=by first | exact ho | exact Al_of_decide_eq_true ho
  rcases trm_op ht with ⟨_,rfl,h3,rfl⟩ | ⟨k,_⟩ | ⟨k,_⟩ | ⟨k,_⟩ | ⟨k,_⟩ | ⟨k,_⟩
  ·exact .cnt (am Z Z).1 (am Z Z).2 h3
  ·cases k
  ·rcases k with k | k <;> cases k
  ·cases k
  ·cases k
  ·exact absurd k (by decide)
end Go.Proofs.YtidclioghdbphaaGreatDoor
