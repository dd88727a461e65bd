/- Texts of the proof, one behind the other. -/
import Derived.Test.YtidclioghdbphaaGreatDoorMd
set_option linter.all false
set_option maxRecDepth 100000
namespace Go.Proofs.YtidclioghdbphaaGreatDoor
open Go.RowKit Go.Par Go.Sx Tryz
def fsC (s:Fs):List Value:=[.int .u8 (s.lv:Nat),.bool s.nm,.bool s.fd,.bool s.wn,.bool s.am,.int .u8 (s.ex:Nat),.int .u8 (s.ar:Nat)]
structure Gf (H:Hp):Prop where
 words:MemAt H 0 0 (fwords.map strV)
 syms:MemAt H 1 0 (fsyms.map strV)
 shapes:MemAt H 2 0 (fshapes.flatMap fsC)
variable {H H':Hp}
theorem Gf.up (g:Gf H) (u:Up H H'):Gf H':=⟨g.words.up u,g.syms.up u,g.shapes.up u⟩
theorem fshape_any (H:Hp) (G:Gf H) (op:UInt8) (w:World) (hA:Agr H w):Calls prg 74 #[.int .u8 op.toNat] w λr w'=>r=.returned (.agg (fsC (fsOf op)).toArray)/\Ext w w':=by
 refine Sx.enter (H:=H) func74 rfl ntmps74 rfl hA ?_;refine .sr<|.al Fx.zero157 Z λb2=>.nt<|.sq<|.sm Z<|.yw (.conv Z Fx.int5 Fx.int3 (c:=((op.toNat:Nat):Int)) (w64 (by have:=op.toNat_lt;omega) (by have:=op.toNat_lt;omega)))<|.yw (.geq Z Z)<|.nt<|.ce Z (λh5=>?_) (λh5=>?_)
 ·refine .sr<|.yw (.build Z Fx.bld157)<|.sX .head Z Z Fx.size157 Z<|.nt<|.rt<|.tR<|?_
  refine y8 Z (.cell Z Fx.agg157 Hm rfl) λW s=>⟨?_,s.ext⟩
  first
   | (rw [show fsOf op=zFs from (by unfold fsOf;rw [List.getD_eq_getElem?_getD,List.getElem?_eq_none (by show 19<=op.toNat;omega)];rfl)];rfl)
   | rfl
 refine .sk<|.tN<|.sm Z<|.yw (.indexArr Fx.arr200 Z Z Z (by omega) (q:=op.toNat * 7) (by omega))<|.yw (.loadMS (k:=op.toNat * 7) (vs:=fsC (fshapes.getD op.toNat zFs)) Z Fx.agg157 G.shapes (by omega) Z (flat_at (f:=fsC) (z:=7) (l:=fshapes) (i:=op.toNat) (λ_=>rfl) _ (by show op.toNat<19;omega)))<|.sV .head Z Z Fx.size157 Z (by simp [fsC,Value.oneCell',strV]) Z<|.nt<|.rt<|?_
 refine y8 Z (.cell Z Fx.agg157 Hm rfl) λW s=>⟨?_,s.ext⟩
 first
  | (rw [show fsOf op=zFs from (by unfold fsOf;rw [List.getD_eq_getElem?_getD,List.getElem?_eq_none (by show 19<=op.toNat;omega)];rfl)];rfl)
  | rfl
variable {w0 W:World} {bs AR:List Res} {b tc:Nat} {tp:Option Addr} {ro rv:Value} {xo xv:List Value} {q:Rq}
set_option maxHeartbeats 2000000 in
theorem between_f {l:Tks} {op:List Ov} {x:Vb} {dn:Bool} (K:Tkf H l tp tc) (Wq:Fwf l ⟨q,op,x,true,dn⟩) (S:Sq H ⟨q,op,x,true,dn⟩ xo xv AR) (op8:UInt8) (hnx:q.nx.i<l.length) (s:St H w0 (.box b [.slice tp l.length tc,iN q.i,ro,rv,.bool true,.bool dn,.bool x.2,iN q.off,iN q.er] 102::.row 97 11 (ro) (op.length) (xo)::.row 179 13 (rv) (x.1.length) (xv)::(AR++bs)) W) :
 Calls prg 99 #[.pointer (some ⟨b,0,none⟩),.int .u8 op8.toNat] W (Get w0 bs b l tp tc H (betP l op8 ⟨q,op,x,true,dn⟩)):=by
 have hq:q.i<l.length:=Wq.i;have hnx2:q.i+1<l.length:=hnx;have hcap:=K.rep.cap;obtain ⟨hn1,hn2⟩:=wf_len Wq K.few;dsimp only at hn1 hn2;have hv1:1<=x.1.length:=by have:=Wq.vs;dsimp only at this;rw [this];exact Nat.le_add_left _ _
 obtain ⟨vs,bd⟩:=x;dsimp only at hv1 hn2;obtain ⟨v,V,rfl⟩:=list1 hv1;dsimp only [List.length_cons] at hn2;obtain ⟨yr,t0,t1,t2,e4,VS1,V1⟩:=VR.inv S.vls;try dsimp only at e4
 subst e4;have hlv:=VS1.len;refine enterS func99 rfl ntmps99 rfl s ?_;refine Sx.rowCase (size:=13) (r:=rv) (e:=179) mem2 (Nat.succ_pos _) λg2 c2 e hkc2=>?_;subst e;try dsimp only [List.length_cons] at hkc2
 dsimp only [List.length_cons];refine .sm Z<|.yw (.build Z (Fx.bld97_0_1_3 _ _ _))<|.al Fx.zero97 Z λb4=>.sX .head Z Z Fx.size97 Z<|.nt<|.sq<|.bk<|.sm Z<|.yw (.leq Z Z)<|.aq Z<|.cd Z (λh8=>?_) (λh8=>?_)
 ·have h13:op8<=13:=by rw [UInt8.le_iff_toNat_le];have:=Al_of_decide_eq_true h8;show op8.toNat<=13;omega
  have h16:¬ (16:UInt8)<=op8:=λe=>by rw [UInt8.le_iff_toNat_le] at e h13;have e1:(16:UInt8).toNat=16:=rfl;have e2:(13:UInt8).toNat=13:=rfl;omega
  refine .rg<|.fA Z Fx.field97_1<|.st .head Z Z Fx.size3 Z (nb Z) Z<|.nl<|.bN<|.tN<|.sq<|.fL 13 [(0,0),(1,0),(2,0),(3,0),(4,0),(5,0),(6,0),(7,0),(8,0),(9,0),(10,0),(11,0),(12,0)]<|.mv Z<|.nC Z<|.fA Z Fx.field102_3<|.lD Z Fx.agg100 mem1 Z<|.mv Z<|.nC Z<|.fA Z Fx.field102_3<|.lD Z Fx.agg100 mem1 Z<|.yw (.lenSl Fx.sl100 Z)<|.yw (.sub Z Z (c:=((V.length:Nat):Int)) ((w6 (by omega)).trans (by omega)))<|.yw (.indexSl Fx.sl100 Z Z (i:=V.length) Z (by omega) (q:=V.length * 13) (by omega))<|.fA Z Fx.field179_1<|.yw (.loadR1 Z Fx.agg4 mem3 (app_at hlv Z))<|.fn (tl:=[_]) Z<|.aq Z<|.sq<|.sr<|.fA Z Fx.field97_0<|.lD Z Fx.agg95 Hm Z<|.yw (.cast (.eql Z Z) (congrArg Value.bool (Al_decide_eq_false (by decide))))<|.nt<|.cF Z<|.rg<|.mv Z<|.fA Z Fx.field97_1<|.lD Z Fx.agg3 Hm Z<|.cs (X:=Hp × Value × Value × List Value × List Value × List Res) Fx.call102 Z (λW s=>reduce_f K Wq S 8 (by omega) (St.mid (a:=[_,_,_]) (d:=[_]) (s.pickT (hd:=[_,_,_,_]) (tl:=(AR++bs)) (hd':=[_,_,_,_]) [1,2,3,0] Z Z))) Z λz9 hz9=>?_
  obtain ⟨H1,ro,rv,xo,xv,AR⟩:=z9;obtain ⟨u1,S⟩:=hz9;dsimp only at u1 S|-;refine Sx.reSt (λW s=>St.mid (a:=[_,_,_]) (d:=AR) (c:=[_]) s) ?_;obtain ⟨op7,x7,e7⟩:∃ op7 x7,redP 8 (⟨q,op,(v::V,bd),true,dn⟩:Ps)=⟨q,op7,x7,true,dn⟩:=⟨_,_,Z⟩;rw [e7] at S|-;dsimp only at S|-;have W7:Fwf l ⟨q,op7,x7,true,dn⟩:=by rw [<-e7];exact wf_red (by omega) Wq rfl
  obtain ⟨hm1,hm2⟩:=wf_len W7 K.few;dsimp only at hm1 hm2;have hne7:op7≠[]:=W7.ne;refine .nt<|.sq<|.sm Z<|.nt<|.cd Z (λh55=>?_) (λh55=>?_)
  ·have hwh:v.wh=true:=h55;refine .sm Z<|.cs (X:=Unit) Fx.call104 Z (λW s=>fail_f (K.up u1.up) hq 8 (s.pickT (hd:=[_,_,_,_]) (tl:=(AR++bs)) (hd':=[_,_,_,_]) [0,1,2,3] Z Z)) Z λ_ _=>.nt<|.rt<|.tR<|?_
   refine y7 Z .nil rfl λW s=>?_
   have e0:betP l op8 ⟨q,op,(v::V,bd),true,dn⟩=(⟨q,op7,x7,true,dn⟩:Ps).at (q.fail l 8):=by
    unfold betP;rw [Al_if_neg h16,Al_if_pos h13,e7,Al_if_pos];exact hwh
   rw [e0];exact ⟨(_,_,_,_,_,AR),⟨u1,⟨S.ops,S.vls⟩⟩,Z,s.pickT (hd:=[_,_,_,_]) (tl:=(AR++bs)) (hd':=[_,_,_]) [0,1,2] rfl rfl⟩
  have hwh:v.wh=false:=h55;refine .sk<|.tN<|.sm Z<|.nC Z<|.fA Z Fx.field102_1<|.lD Z Fx.agg3 Hm Z<|.yw (.add Z Z (c:=((q.nx.i:Nat):Int)) ((w6 (by omega)).trans (by show _=((q.i+1:Nat):Int);omega)))<|.nC Z<|.fA Z Fx.field102_1<|.st .head Z Z Fx.size3 Z (nb Z) Z<|.nt<|.rg<|.mv Z<|.yw (.loadW Z Fx.agg97 mem3 Z)<|.cs (X:=Option Addr × Nat) Fx.call109 Z (λW s=>push_f (K.up u1.up) hnx (by simp [Value.oneCell',strV]) (Al_Nat_le_trans hm1 (by decide)) (λ_=>S.ops.tm hne7) (s.pickT (hd:=[_,_,_,_]) (tl:=(AR++bs)) (hd':=[_,_,_,_]) [0,1,2,3] Z Z)) Z λp9 _=>.nl<|?_
  refine retN (.inr Z) rfl .nil rfl λW s=>?_
  have e0:betP l op8 ⟨q,op,(v::V,bd),true,dn⟩=pushS ⟨9,8,false,op8,zF⟩ ((⟨q,op7,x7,true,dn⟩:Ps).at q.nx):=by
   unfold betP;rw [Al_if_neg h16,Al_if_pos h13,e7,Al_if_neg];show ¬ (topV (v::V,bd)).wh=true;rw [show (topV (v::V,bd)).wh=false from hwh];decide
  rw [e0];exact ⟨(_,_,_,_,_,AR),⟨u1,⟨.cons S.ops (by show ¬ (9:UInt8)=5;decide) (FmR.zero rfl rfl (Al_Nat_zero_le _) (Al_Nat_zero_le _)),S.vls⟩⟩,Z,s.pickT (hd:=[_,_,_,_]) (tl:=(AR++bs)) (hd':=[_,_,_]) [0,1,2] rfl rfl⟩
 have h13:¬ op8<=13:=λe=>Al_of_decide_eq_false h8 (by rw [UInt8.le_iff_toNat_le] at e;have e2:(13:UInt8).toNat=13:=rfl;omega);refine .sm Z<|.yw (.geq Z Z)<|.aq Z<|.cd Z (λh12=>?_) (λh12=>?_)
 ·have h16:(16:UInt8)<=op8:=by rw [UInt8.le_iff_toNat_le];have:=Al_of_decide_eq_true h12;show 16<=op8.toNat;omega
  refine .rg<|.fA Z Fx.field97_0<|.st .head Z Z Fx.size95 Z (nb Z) Z<|.fA Z Fx.field97_1<|.st .head Z Z Fx.size3 Z (nb Z) Z<|.nl<|.bN<|.tN<|.sq<|.fL 13 [(0,0),(1,0),(2,0),(3,0),(4,0),(5,0),(6,0),(7,0),(8,0),(9,0),(10,0),(11,0),(12,0)]<|.mv Z<|.nC Z<|.fA Z Fx.field102_3<|.lD Z Fx.agg100 mem1 Z<|.mv Z<|.nC Z<|.fA Z Fx.field102_3<|.lD Z Fx.agg100 mem1 Z<|.yw (.lenSl Fx.sl100 Z)<|.yw (.sub Z Z (c:=((V.length:Nat):Int)) ((w6 (by omega)).trans (by omega)))<|.yw (.indexSl Fx.sl100 Z Z (i:=V.length) Z (by omega) (q:=V.length * 13) (by omega))<|.fA Z Fx.field179_1<|.yw (.loadR1 Z Fx.agg4 mem3 (app_at hlv Z))<|.fn (tl:=[_]) Z<|.aq Z<|.sq<|.sr<|.fA Z Fx.field97_0<|.lD Z Fx.agg95 Hm Z<|.yw (.cast (.eql Z Z) (congrArg Value.bool (Al_decide_eq_true (by decide))))<|.nt<|.cT Z<|.sm Z<|.cs (X:=Hp × Value × Value × List Value × List Value × List Res) Fx.call102 Z (λW s=>reduce_f K Wq S 7 (by omega) (St.mid (a:=[_,_,_]) (d:=[_]) (s.pickT (hd:=[_,_,_,_]) (tl:=(AR++bs)) (hd':=[_,_,_,_]) [1,2,3,0] Z Z))) Z λz9 hz9=>?_
  obtain ⟨H1,ro,rv,xo,xv,AR⟩:=z9;obtain ⟨u1,S⟩:=hz9;dsimp only at u1 S|-;refine Sx.reSt (λW s=>St.mid (a:=[_,_,_]) (d:=AR) (c:=[_]) s) ?_;obtain ⟨op7,x7,e7⟩:∃ op7 x7,redP 7 (⟨q,op,(v::V,bd),true,dn⟩:Ps)=⟨q,op7,x7,true,dn⟩:=⟨_,_,Z⟩;rw [e7] at S|-;dsimp only at S|-;have W7:Fwf l ⟨q,op7,x7,true,dn⟩:=by rw [<-e7];exact wf_red (by omega) Wq rfl
  obtain ⟨hm1,hm2⟩:=wf_len W7 K.few;dsimp only at hm1 hm2;have hne7:op7≠[]:=W7.ne;refine .nt<|.rg<|.mv Z<|.mv Z<|.b2 (λh36=>?_) (λh36=>?_)
  ·have hwh:v.wh=true:=h36;refine .gG<|.gG<|.gG<|.gG<|.gG<|.yw (.pickT Z Z)<|.mv Z<|.gG<|.gG<|.gG<|.gG<|.gG<|.gG<|.yw (.pickT Z Z)<|.aq Z<|.sq<|.sm Z<|.nt<|.cT Z<|.sm Z<|.cs (X:=Unit) Fx.call104 Z (λW s=>fail_f (K.up u1.up) hq 8 (s.pickT (hd:=[_,_,_,_]) (tl:=(AR++bs)) (hd':=[_,_,_,_]) [0,1,2,3] Z Z)) Z λ_ _=>.nt<|.rt<|.tR<|?_
   refine y7 Z .nil rfl λW s=>?_
   have e0:betP l op8 ⟨q,op,(v::V,bd),true,dn⟩=(⟨q,op7,x7,true,dn⟩:Ps).at (q.fail l 8):=by
    unfold betP;rw [Al_if_pos h16,e7,Al_if_pos];show ((topV (v::V,bd)).wh || _ || _)=true;rw [show (topV (v::V,bd)).wh=true from hwh];rfl
   rw [e0];exact ⟨(_,_,_,_,_,AR),⟨u1,⟨S.ops,S.vls⟩⟩,Z,s.pickT (hd:=[_,_,_,_]) (tl:=(AR++bs)) (hd':=[_,_,_]) [0,1,2] rfl rfl⟩
  have hwh:v.wh=false:=h36;obtain ⟨o7,r7,rfl⟩:=list1 (l:=op7) (by cases op7 with | nil=>exact (hne7 rfl).elim | cons a t=>exact Nat.succ_pos _);dsimp only [List.length_cons] at hm1;obtain ⟨xr,s1,s2,e2,hlo,ho1,ho2⟩:=Ops.top S.ops;try dsimp only at e2
  subst e2;refine Sx.rowCase (size:=11) (r:=ro) (e:=97) mem1 (Nat.succ_pos _) λg c e hkc=>?_;subst e;refine .gy (.move Z)<|.gd Z Z<|.cs (X:=Unit) Fx.call105 Z (λW s=>top_f (K.up u1.up) hq (g:=g) (k:=r7.length) (c:=c) (by omega) (s.pickT (hd:=[_,_,_,_]) (tl:=(AR++bs)) (hd':=[_,_,_,_]) [0,1,2,3] Z Z)) Z λ_ _=>.gy (.nilCheck Z)<|.gy (.fieldAddr Z Fx.field97_2)<|.gy (.loadR1 Z Fx.agg4 mem1 (app_at hlo Z))<|.yw (.pickF Z Z)<|.mv Z<|.b2 (λh43=>?_) (λh43=>?_)
  ·have htm:o7.tm=true:=h43;refine .gG<|.gG<|.gG<|.gG<|.gG<|.gG<|.yw (.pickT Z Z)<|.aq Z<|.sq<|.sm Z<|.nt<|.cT Z<|.sm Z<|.cs (X:=Unit) Fx.call104 Z (λW s=>fail_f (K.up u1.up) hq 8 (s.pickT (hd:=[_,_,_,_]) (tl:=(AR++bs)) (hd':=[_,_,_,_]) [0,1,2,3] Z Z)) Z λ_ _=>.nt<|.rt<|.tR<|?_
   refine y7 Z .nil rfl λW s=>?_
   have e0:betP l op8 ⟨q,op,(v::V,bd),true,dn⟩=(⟨q,o7::r7,x7,true,dn⟩:Ps).at (q.fail l 8):=by
    unfold betP;rw [Al_if_pos h16,e7,Al_if_pos];show (_ || (topO (⟨q,o7::r7,x7,true,dn⟩:Ps)).tm || _)=true;rw [show (topO (⟨q,o7::r7,x7,true,dn⟩:Ps)).tm=true from htm,Bool.or_true];rfl
   rw [e0];exact ⟨(_,_,_,_,_,AR),⟨u1,⟨S.ops,S.vls⟩⟩,Z,s.pickT (hd:=[_,_,_,_]) (tl:=(AR++bs)) (hd':=[_,_,_]) [0,1,2] rfl rfl⟩
  have htm:o7.tm=false:=h43;refine .gy (.move Z)<|.gd Z Z<|.cs (X:=Unit) Fx.call105 Z (λW s=>top_f (K.up u1.up) hq (g:=g) (k:=r7.length) (c:=c) (by omega) (s.pickT (hd:=[_,_,_,_]) (tl:=(AR++bs)) (hd':=[_,_,_,_]) [0,1,2,3] Z Z)) Z λ_ _=>.gy (.nilCheck Z)<|.gy (.fieldAddr Z Fx.field97_0)<|.gy (.loadR1 Z Fx.agg95 mem1 (app_at hlo Z))<|.gy (.eql Z Z)<|.yw (.pickF Z Z)<|.aq Z<|.sq<|.sm Z<|.nt<|.cd Z (λh55=>?_) (λh55=>?_)
  ·have hk8:o7.kd=8:=Al_UInt8_toNat_inj.1 (by have:=Al_of_decide_eq_true h55;show o7.kd.toNat=8;omega);refine .sm Z<|.cs (X:=Unit) Fx.call104 Z (λW s=>fail_f (K.up u1.up) hq 8 (s.pickT (hd:=[_,_,_,_]) (tl:=(AR++bs)) (hd':=[_,_,_,_]) [0,1,2,3] Z Z)) Z λ_ _=>.nt<|.rt<|.tR<|?_
   refine y7 Z .nil rfl λW s=>?_
   have e0:betP l op8 ⟨q,op,(v::V,bd),true,dn⟩=(⟨q,o7::r7,x7,true,dn⟩:Ps).at (q.fail l 8):=by
    unfold betP;rw [Al_if_pos h16,e7,Al_if_pos];show (_ || _ || decide ((topO (⟨q,o7::r7,x7,true,dn⟩:Ps)).kd=8))=true;rw [Al_decide_eq_true (show (topO (⟨q,o7::r7,x7,true,dn⟩:Ps)).kd=8 from hk8),Bool.or_true]
   rw [e0];exact ⟨(_,_,_,_,_,AR),⟨u1,⟨S.ops,S.vls⟩⟩,Z,s.pickT (hd:=[_,_,_,_]) (tl:=(AR++bs)) (hd':=[_,_,_]) [0,1,2] rfl rfl⟩
  have hk8:¬ o7.kd=8:=λe=>Al_of_decide_eq_false h55 (by rw [e];rfl);refine .sk<|.tN<|.sm Z<|.nC Z<|.fA Z Fx.field102_1<|.lD Z Fx.agg3 Hm Z<|.yw (.add Z Z (c:=((q.nx.i:Nat):Int)) ((w6 (by omega)).trans (by show _=((q.i+1:Nat):Int);omega)))<|.nC Z<|.fA Z Fx.field102_1<|.st .head Z Z Fx.size3 Z (nb Z) Z<|.nt<|.rg<|.mv Z<|.yw (.loadW Z Fx.agg97 mem3 Z)<|.cs (X:=Option Addr × Nat) Fx.call109 Z (λW s=>push_f (K.up u1.up) hnx (by simp [Value.oneCell',strV]) (by show r7.length+1<=600001;omega) (λ_=>S.ops.tm hne7) (s.pickT (hd:=[_,_,_,_]) (tl:=(AR++bs)) (hd':=[_,_,_,_]) [0,1,2,3] Z Z)) Z λp9 _=>.nl<|?_
  refine retN (.inr Z) rfl .nil rfl λW s=>?_
  have e0:betP l op8 ⟨q,op,(v::V,bd),true,dn⟩=pushS ⟨8,6,false,op8,zF⟩ ((⟨q,o7::r7,x7,true,dn⟩:Ps).at q.nx):=by
   unfold betP;rw [Al_if_pos h16,e7,Al_if_neg];show ¬ ((topV (v::V,bd)).wh || (topO (⟨q,o7::r7,x7,true,dn⟩:Ps)).tm || decide ((topO (⟨q,o7::r7,x7,true,dn⟩:Ps)).kd=8))=true;rw [show (topV (v::V,bd)).wh=false from hwh,show (topO (⟨q,o7::r7,x7,true,dn⟩:Ps)).tm=false from htm,Al_decide_eq_false (show ¬ (topO (⟨q,o7::r7,x7,true,dn⟩:Ps)).kd=8 from hk8)]
   decide
  rw [e0];exact ⟨(_,_,_,_,_,AR),⟨u1,⟨.cons S.ops (by show ¬ (8:UInt8)=5;decide) (FmR.zero rfl rfl (Al_Nat_zero_le _) (Al_Nat_zero_le _)),S.vls⟩⟩,Z,s.pickT (hd:=[_,_,_,_]) (tl:=(AR++bs)) (hd':=[_,_,_]) [0,1,2] rfl rfl⟩
 have h16:¬ (16:UInt8)<=op8:=λe=>Al_of_decide_eq_false h12 (by rw [UInt8.le_iff_toNat_le] at e;have e2:(16:UInt8).toNat=16:=rfl;omega);refine .sk<|.bN<|.tN<|.sq<|.fL 13 [(0,0),(1,0),(2,0),(3,0),(4,0),(5,0),(6,0),(7,0),(8,0),(9,0),(10,0),(11,0),(12,0)]<|.mv Z<|.nC Z<|.fA Z Fx.field102_3<|.lD Z Fx.agg100 mem1 Z<|.mv Z<|.nC Z<|.fA Z Fx.field102_3<|.lD Z Fx.agg100 mem1 Z<|.yw (.lenSl Fx.sl100 Z)<|.yw (.sub Z Z (c:=((V.length:Nat):Int)) ((w6 (by omega)).trans (by omega)))<|.yw (.indexSl Fx.sl100 Z Z (i:=V.length) Z (by omega) (q:=V.length * 13) (by omega))<|.fA Z Fx.field179_1<|.yw (.loadR1 Z Fx.agg4 mem3 (app_at hlv Z))<|.fn (tl:=[_]) Z<|.aq Z<|.sq<|.sr<|.fA Z Fx.field97_0<|.lD Z Fx.agg95 Hm Z<|.yw (.cast (.eql Z Z) (congrArg Value.bool (Al_decide_eq_false (by decide))))<|.nt<|.cF Z<|.rg<|.mv Z<|.fA Z Fx.field97_1<|.lD Z Fx.agg3 Hm Z<|.cs (X:=Hp × Value × Value × List Value × List Value × List Res) Fx.call102 Z (λW s=>reduce_f K Wq S 7 (by omega) (St.mid (a:=[_,_,_]) (d:=[_]) (s.pickT (hd:=[_,_,_,_]) (tl:=(AR++bs)) (hd':=[_,_,_,_]) [1,2,3,0] Z Z))) Z λz9 hz9=>?_
 obtain ⟨H1,ro,rv,xo,xv,AR⟩:=z9;obtain ⟨u1,S⟩:=hz9;dsimp only at u1 S|-;refine Sx.reSt (λW s=>St.mid (a:=[_,_,_]) (d:=AR) (c:=[_]) s) ?_;obtain ⟨op7,x7,e7⟩:∃ op7 x7,redP 7 (⟨q,op,(v::V,bd),true,dn⟩:Ps)=⟨q,op7,x7,true,dn⟩:=⟨_,_,Z⟩;rw [e7] at S|-;dsimp only at S|-;have W7:Fwf l ⟨q,op7,x7,true,dn⟩:=by rw [<-e7];exact wf_red (by omega) Wq rfl
 obtain ⟨hm1,hm2⟩:=wf_len W7 K.few;dsimp only at hm1 hm2;have hne7:op7≠[]:=W7.ne;refine .nt<|.sq<|.sm Z<|.nt<|.cd Z (λh55=>?_) (λh55=>?_)
 ·have hwh:v.wh=true:=h55;refine .sm Z<|.cs (X:=Unit) Fx.call104 Z (λW s=>fail_f (K.up u1.up) hq 8 (s.pickT (hd:=[_,_,_,_]) (tl:=(AR++bs)) (hd':=[_,_,_,_]) [0,1,2,3] Z Z)) Z λ_ _=>.nt<|.rt<|.tR<|?_
  refine y7 Z .nil rfl λW s=>?_
  have e0:betP l op8 ⟨q,op,(v::V,bd),true,dn⟩=(⟨q,op7,x7,true,dn⟩:Ps).at (q.fail l 8):=by
   unfold betP;rw [Al_if_neg h16,Al_if_neg h13,e7,Al_if_pos];exact hwh
  rw [e0];exact ⟨(_,_,_,_,_,AR),⟨u1,⟨S.ops,S.vls⟩⟩,Z,s.pickT (hd:=[_,_,_,_]) (tl:=(AR++bs)) (hd':=[_,_,_]) [0,1,2] rfl rfl⟩
 have hwh:v.wh=false:=h55;refine .sk<|.tN<|.sm Z<|.nC Z<|.fA Z Fx.field102_1<|.lD Z Fx.agg3 Hm Z<|.yw (.add Z Z (c:=((q.nx.i:Nat):Int)) ((w6 (by omega)).trans (by show _=((q.i+1:Nat):Int);omega)))<|.nC Z<|.fA Z Fx.field102_1<|.st .head Z Z Fx.size3 Z (nb Z) Z<|.nt<|.rg<|.mv Z<|.yw (.loadW Z Fx.agg97 mem3 Z)<|.cs (X:=Option Addr × Nat) Fx.call109 Z (λW s=>push_f (K.up u1.up) hnx (by simp [Value.oneCell',strV]) (Al_Nat_le_trans hm1 (by decide)) (λ_=>S.ops.tm hne7) (s.pickT (hd:=[_,_,_,_]) (tl:=(AR++bs)) (hd':=[_,_,_,_]) [0,1,2,3] Z Z)) Z λp9 _=>.nl<|?_
 refine retN (.inr Z) rfl .nil rfl λW s=>?_
 have e0:betP l op8 ⟨q,op,(v::V,bd),true,dn⟩=pushS ⟨9,7,false,op8,zF⟩ ((⟨q,op7,x7,true,dn⟩:Ps).at q.nx):=by
  unfold betP;rw [Al_if_neg h16,Al_if_neg h13,e7,Al_if_neg];show ¬ (topV (v::V,bd)).wh=true;rw [show (topV (v::V,bd)).wh=false from hwh];decide
 rw [e0];exact ⟨(_,_,_,_,_,AR),⟨u1,⟨.cons S.ops (by show ¬ (9:UInt8)=5;decide) (FmR.zero rfl rfl (Al_Nat_zero_le _) (Al_Nat_zero_le _)),S.vls⟩⟩,Z,s.pickT (hd:=[_,_,_,_]) (tl:=(AR++bs)) (hd':=[_,_,_]) [0,1,2] rfl rfl⟩
theorem Fx.agg31:aggN prg 31=some none:=by kernel_rfl
theorem Fx.call74:callN prg 74=true:=by kernel_rfl
theorem Fx.field35_0:fieldN prg 35 0=some 0:=by kernel_rfl
theorem Fx.call156:callN prg 156=true:=by kernel_rfl
theorem Fx.field35_5:fieldN prg 35 5=some 5:=by kernel_rfl
theorem Fx.field102_5:fieldN prg 102 5=some 5:=by kernel_rfl
theorem Fx.bld179_1_3 (x1:Bool) (x30 x31 x32 x33 x34 x35 x36:Value):buildN prg 179 [(1,.bool x1),(3,.agg [x30,x31,x32,x33,x34,x35,x36].toArray)]=some [.bool false,.bool x1,.int .u8 0,.string ⟨#[]⟩,.int .i64 0,.slice none 0 0,x30,x31,x32,x33,x34,x35,x36]:=by kernel_rfl
theorem Fx.bld76_0_1_3 (x0:Int) (x1:ByteArray) (x3p:Option Addr) (x3n x3c:Nat):buildN prg 76 [(0,.int .u8 x0),(1,.string x1),(3,.slice x3p x3n x3c)]=some [.int .u8 x0,.string x1,.int .i64 0,.slice x3p x3n x3c]:=by kernel_rfl
theorem Fx.agg165:aggN prg 165=some (some 22):=by kernel_rfl
theorem Fx.are165:arrE prg 165=true:=by kernel_rfl
theorem Fx.arr165:arrN prg 165=some (22,1):=by kernel_rfl
theorem Fx.call99:callN prg 99=true:=by kernel_rfl
theorem Fx.call101:callN prg 101=true:=by kernel_rfl
theorem Fx.call103:callN prg 103=true:=by kernel_rfl
theorem Fx.call131:callN prg 131=true:=by kernel_rfl
theorem i0 {n:Int64} :decide (n.toInt=0)=decide (n=0):=by
 rw [Al_Bool_eq_iff_iff,Al_decide_eq_true_eq,Al_decide_eq_true_eq];exact ⟨λh=>Al_Int64_toInt_inj.1 h,λh=>by rw [h];rfl⟩
variable {n k:Nat}
theorem n0:decide (((n:Nat):Int)=((k:Nat):Int))=decide (n=k):=by rw [Al_Bool_eq_iff_iff,Al_decide_eq_true_eq,Al_decide_eq_true_eq];omega
theorem any_take {l:List Ex} {p:Ex->Bool} (hk:k<l.length) (h:(l.take k).any p=false) (hp:p l[k]=false):(l.take (k+1)).any p=false:=by
 rw [List.take_succ,List.any_append,h,List.getElem?_eq_getElem hk];simp [hp]
def ixV (l:List Ex) (p:Ex->Bool):Int:=match l.findIdx? p with | some i=>(i:Int) | none=>-1
theorem ix_at {l:List Ex} {p:Ex->Bool} (hk:k<l.length) (h:(l.take k).any p=false) (hp:p l[k]=true):ixV l p=(k:Int):=by
 unfold ixV
 rw [List.findIdx?_eq_some_iff_getElem.2 ⟨hk,hp,λj hj=>by
  have hm:l[j]∈l.take k:=List.mem_take_iff_getElem.2 ⟨j,by omega,Z⟩;have:=List.any_eq_false.1 h _ hm;exact this⟩]
theorem ix_no {l:List Ex} {p:Ex->Bool} (h:l.any p=false):ixV l p=-1:=by
 unfold ixV;rw [List.findIdx?_eq_none_iff.2 λx hx=>by have:=List.any_eq_false.1 h x hx;simpa using this]
theorem ix_any {l:List Ex} {p:Ex->Bool} :decide (0<=ixV l p)=l.any p:=by
 unfold ixV;cases h:l.findIdx? p with
 | some i =>
  obtain ⟨hi,hp,_⟩:=List.findIdx?_eq_some_iff_getElem.1 h;rw [Al_List_any_eq_true.2 ⟨_,Al_List_getElem_mem hi,hp⟩];exact Al_decide_eq_true (by show (0:Int)<=(i:Int);omega)
 | none =>
  rw [List.any_eq_false.2 λx hx=>by have:=List.findIdx?_eq_none_iff.1 h x hx;rw [this];decide];rfl
theorem any_mk {op:UInt8} {nm:Str} {n:Int64} {args:List Ex} :anyB (.mk op nm n args)=(decide (op=0) && decide (nm=[]) && decide (n=0) && decide (args.length=0)):=rfl
def EFn (H:Hp) (gf:FuncId) (ca:List Value) (p:Ex->Bool) (e:Ex):Prop:=∀ (cs:List Value) (W:World),Rep H (dEx .u8 e) cs->Agr H W->Calls prg gf (.agg cs.toArray::ca).toArray W λr W'=>r=.returned (.bool (p e))/\Ext W W'
variable {c:Nat}
theorem index_any (H:Hp) (gf:FuncId) (ca:List Value) (p:Ex->Bool) (l:List Ex) {pp:Option Addr} (hs:Rep H (.seq 4 (l.map (dEx .u8))) [.slice pp l.length c]) (hf:callN prg gf=true) (hg:∀ e∈l,EFn H gf ca p e) (w:World) (hA:Agr H w) :
 Calls prg 131 #[.slice pp l.length c,.func (.func gf) #[] ca.toArray] w λr w'=>r=.returned (.int .i64 (ixV l p))/\Ext w w':=by
 have hcap:=hs.cap;refine Sx.enter (H:=H) func131 rfl ntmps131 rfl hA ?_;refine .sr<|.aq Z<|.sq<|.sm Z<|.yw (.lenSl Fx.sl32 Z)<|.mv Z<|.nt<|.bk<|.lp (X:=Nat) [(0,_),(1,_),(7,_)] ⟨Z,Z,Z,Jt⟩ [] (λk=>[(8,iN k)]) (λk=>H) (λk=>[]) (λk=>k<=l.length/\(l.take k).any p=false) (λk=>l.length - k) 0 (λ_ s=>s) ⟨Z,Jt⟩ ⟨Al_Nat_zero_le _,Z⟩ λk hC=>?_
 obtain ⟨hk0,hal⟩:=hC;refine .sr<|.yw (.lss Z Z)<|.nt<|.sq<|.ce Z (λh9=>?_) (λh9=>?_)
 ·have hk:k<l.length:=by omega
  obtain ⟨bE,oE,cE,hpE,rE,lE,mE⟩:=hs.elem (map_at (f:=dEx .u8) hk);cases hpE;refine .sk<|.tN<|.sq<|.bk<|.sm Z<|.a Z Z<|.ns<|.mv Z<|.mv Z<|.mv Z<|.yw (.indexSl Fx.sl32 Z Z Z (by omega) (q:=oE+k * 4) Z)<|.yw (.loadMW Z Fx.agg76 mE lE)<|.yw (.callV (fi:=[]) Z hf Z (λW s=>hg _ (Al_List_getElem_mem hk) cE W rE s.agr))<|.nt<|.cd Z (λh16=>?_) (λh16=>?_)
  ·refine .sm Z<|.az Z<|.bR<|.tR<|.tR<|.bR<|.tR<|?_
   refine y9 Z Z λW s=>⟨?_,s.ext⟩
   first
    | (rw [ix_at hk hal h16])
    | (rw [ix_no hal])
  exact .sk<|.bN<|.tN<|.rg<|.yw (.add Z Z w7)<|.mv Z<|.nt<|.ag (k+1) ⟨Z,Jt⟩ ⟨Z,Z,Z,Jt⟩ (λ_ s=>s) ⟨by omega,any_take hk hal h16⟩ (by omega)
 obtain rfl:k=l.length:=by omega
 rw [Al_List_take_length] at hal;refine .ex<|.eb<|.sr<|.az Z<|?_
 refine y9 Z Z λW s=>⟨?_,s.ext⟩
 first
  | (rw [ix_at hk hal h16])
  | (rw [ix_no hal])
theorem contains_any (H:Hp) (gf:FuncId) (ca:List Value) (p:Ex->Bool) (l:List Ex) {pp:Option Addr} (hs:Rep H (.seq 4 (l.map (dEx .u8))) [.slice pp l.length c]) (hf:callN prg gf=true) (hg:∀ e∈l,EFn H gf ca p e) (w:World) (hA:Agr H w) :
 Calls prg 71 #[.slice pp l.length c,.func (.func gf) #[] ca.toArray] w λr w'=>r=.returned (.bool (l.any p))/\Ext w w':=by
 refine Sx.enter (H:=H) func71 rfl ntmps71 rfl hA ?_;refine .sr<|.a Z Z<|.ns<|.mv Z<|.mv Z<|.yw (.call (v:=.int .i64 (ixV l p)) Fx.call131 Z (λW s=>index_any H gf ca p l hs hf hg W s.agr))<|.yw (.cast (.geq Z Z) (congrArg Value.bool ix_any))<|.az Z<|?_
 exact y9 Z Z λW s=>⟨Z,s.ext⟩
theorem isAny_any (H:Hp) (e:Ex) (cs:List Value) (w:World) (h:Rep H (dEx .u8 e) cs) (hA:Agr H w):Calls prg 78 #[.agg cs.toArray] w λr w'=>r=.returned (.bool (anyB e))/\Ext w w':=by
 obtain ⟨op,nm,nn,args⟩:=e;obtain ⟨pp,c,rfl,hs,hnm⟩:=ex_open h;refine Sx.enter (H:=H) func78 rfl ntmps78 rfl hA ?_;refine .sr<|.bx Z Z Z λb1=>.a Z Z<|.ns<|.fA Z Fx.field76_0<|.lD Z Fx.agg74 Hm Z<|.yw (.cast (.eql Z Z) (congrArg Value.bool k80))<|.mv Z<|.b2 (λh6=>?_) (λh6=>?_)
 ·refine .gy (.fieldAddr Z Fx.field76_1)<|.gy (.load Z Fx.agg9 Hm Z)<|.gy (.eqS Z Z)<|.yw (.pickT Z Z)<|.mv Z<|.b2 (λh11=>?_) (λh11=>?_)
  ·refine .gy (.fieldAddr Z Fx.field76_2)<|.gy (.load Z Fx.agg2 Hm Z)<|.gy (.cast (.eql Z Z) (congrArg Value.bool i0))<|.yw (.pickT Z Z)<|.mv Z<|.b2 (λh16=>?_) (λh16=>?_)
   ·refine .gy (.fieldAddr Z Fx.field76_3)<|.gy (.load Z Fx.agg32 Hm Z)<|.gy (.lenSl Fx.sl32 Z)<|.gy (.cast (.eql Z Z) (congrArg Value.bool er0))<|.yw (.pickT Z Z)<|.az Z<|?_
    refine y9 Z Z λW s=>⟨?_,s.ext⟩
    first
     | (rw [any_mk,h6,h11,h16,Al_Bool_true_and,Al_Bool_true_and,Al_Bool_true_and])
     | (rw [any_mk,h6,h11,h16];rfl)
     | (rw [any_mk,h6,h11];rfl)
     | (rw [any_mk,h6];rfl)
   refine .gG<|.gG<|.gG<|.gG<|.yw (.pickF Z Z)<|.az Z<|?_
   refine y9 Z Z λW s=>⟨?_,s.ext⟩
   first
    | (rw [any_mk,h6,h11,h16,Al_Bool_true_and,Al_Bool_true_and,Al_Bool_true_and])
    | (rw [any_mk,h6,h11,h16];rfl)
    | (rw [any_mk,h6,h11];rfl)
    | (rw [any_mk,h6];rfl)
  refine .gG<|.gG<|.gG<|.yw (.pickF Z Z)<|.mv Z<|.gG<|.gG<|.gG<|.gG<|.yw (.pickF Z Z)<|.az Z<|?_
  refine y9 Z Z λW s=>⟨?_,s.ext⟩
  first
   | (rw [any_mk,h6,h11,h16,Al_Bool_true_and,Al_Bool_true_and,Al_Bool_true_and])
   | (rw [any_mk,h6,h11,h16];rfl)
   | (rw [any_mk,h6,h11];rfl)
   | (rw [any_mk,h6];rfl)
 refine .gG<|.gG<|.gG<|.yw (.pickF Z Z)<|.mv Z<|.gG<|.gG<|.gG<|.yw (.pickF Z Z)<|.mv Z<|.gG<|.gG<|.gG<|.gG<|.yw (.pickF Z Z)<|.az Z<|?_
 refine y9 Z Z λW s=>⟨?_,s.ext⟩
 first
  | (rw [any_mk,h6,h11,h16,Al_Bool_true_and,Al_Bool_true_and,Al_Bool_true_and])
  | (rw [any_mk,h6,h11,h16];rfl)
  | (rw [any_mk,h6,h11];rfl)
  | (rw [any_mk,h6];rfl)
theorem Fx.call78:callN prg 78=true:=by kernel_rfl
theorem Fx.call79:callN prg 79=true:=by kernel_rfl
theorem Fx.call132:callN prg 132=true:=by kernel_rfl
theorem all_take {l:List Ex} {p:Ex->Bool} (hk:k<l.length) (h:(l.take k).all p=true) (hp:p l[k]=true):(l.take (k+1)).all p=true:=by
 rw [List.take_succ,List.all_append,h,List.getElem?_eq_getElem hk];simp [hp]
theorem all_at {l:List Ex} {p:Ex->Bool} (hk:k<l.length) (hp:p l[k]=false):l.all p=false:=List.all_eq_false.2 ⟨_,Al_List_getElem_mem hk,by rw [hp];decide⟩
theorem termBs_allF:∀ l,termBs l=l.all termB
 | []=>rfl
 | e::r=>by rw [termBs,Al_List_all_cons,termBs_allF r]
theorem operands_any (H:Hp) (op:UInt8) (nm:Str) (nn:Int64) (args:List Ex) (n:Nat) (cs:List Value) (w:World) (h:Rep H (dEx .u8 (.mk op nm nn args)) cs) (ht:∀ a∈args,(∀ (cs:List Value) (W:World),Rep H (dEx .u8 a) cs->Agr H W->Calls prg 79 #[.agg cs.toArray] W λr W'=>r=.returned (.bool (termB a))/\Ext W W')) (hA:Agr H w) :
 Calls prg 132 #[.agg cs.toArray,iN n] w λr w'=>r=.returned (.bool (args.all termB && decide (args.length=n)))/\Ext w w':=by
 obtain ⟨pp,c,rfl,hs,hnm⟩:=ex_open h;have hcap:=hs.cap;refine Sx.enter (H:=H) func132 rfl ntmps132 rfl hA ?_;refine .sr<|.bx Z Z Z λb2=>.aq Z<|.sq<|.sr<|.fA Z Fx.field76_3<|.lD Z Fx.agg32 Hm Z<|.yw (.lenSl Fx.sl32 Z)<|.mv Z<|.nt<|.bk<|.lp (X:=Nat) [(1,_),(2,_),(8,_),(9,_)] ⟨Z,Z,Z,Z,Jt⟩ [_] (λk=>[(10,iN k)]) (λk=>H) (λk=>[]) (λk=>k<=args.length/\(args.take k).all termB=true) (λk=>args.length - k) 0 (λ_ s=>s) ⟨Z,Jt⟩ ⟨Al_Nat_zero_le _,Z⟩ λk hC=>?_
 obtain ⟨hk0,hal⟩:=hC;refine .sr<|.yw (.lss Z Z)<|.nt<|.sq<|.ce Z (λh11=>?_) (λh11=>?_)
 ·have hk:k<args.length:=by omega
  obtain ⟨bE,oE,cE,hpE,rE,lE,mE⟩:=hs.elem (map_at (f:=dEx .u8) hk);cases hpE;refine .sk<|.tN<|.sq<|.bk<|.sr<|.yw (.indexSl Fx.sl32 Z Z Z (by omega) (q:=oE+k * 4) Z)<|.yw (.loadMW Z Fx.agg76 mE lE)<|.al Fx.zero76 Z λb6=>.sV .head Z Z Fx.size76 lE rE.one Z<|.ns<|.yw (.loadW Z Fx.agg76 Hm lE)<|.yw (.call Fx.call79 Z (λW s=>ht _ (Al_List_getElem_mem hk) cE W rE s.agr))<|.yw (.not Z)<|.nt<|.cd Z (λh16=>?_) (λh16=>?_)
  ·refine .sr<|.az Z<|.bR<|.tR<|.tR<|.bR<|.tR<|?_
   refine y9 Z Z λW s=>⟨?_,s.ext⟩
   first
    | (rw [all_at hk (by simpa using h16)];rfl)
    | (rw [hal,Al_Bool_true_and])
  exact .sk<|.bN<|.tN<|.rg<|.yw (.add Z Z w7)<|.mv Z<|.nt<|.ag (k+1) ⟨Z,Jt⟩ ⟨Z,Z,Z,Z,Jt⟩ (λ_ s=>s.pick [1] [_] Z Z) ⟨by omega,all_take hk hal (by simpa using h16)⟩ (by omega)
 obtain rfl:k=args.length:=by omega
 rw [Al_List_take_length] at hal;refine .ex<|.eb<|.sr<|.fA Z Fx.field76_3<|.lD Z Fx.agg32 Hm Z<|.yw (.lenSl Fx.sl32 Z)<|.mv Z<|.yw (.cast (.eql Z Z) (congrArg Value.bool n0))<|.az Z<|?_
 refine y9 Z Z λW s=>⟨?_,s.ext⟩
 first
  | (rw [all_at hk (by simpa using h16)];rfl)
  | (rw [hal,Al_Bool_true_and])
theorem tb1 {op:UInt8} {nm:Str} {n:Int64} {args:List Ex} (h:op=1):termB (.mk op nm n args)=(decide (nm=[]) && decide (0<=n.toInt) && decide (args.length=0)):=by rw [termB,Al_if_pos h]
theorem tb4 {op:UInt8} {nm:Str} {n:Int64} {args:List Ex} (h:op=4):termB (.mk op nm n args)=(decide (nm=[]) && decide (n=0) && decide (args.length=0)):=by subst h;rw [termB,Al_if_neg (by decide),Al_if_pos rfl]
theorem tb5 {op:UInt8} {nm:Str} {n:Int64} {args:List Ex} (h:op=5\/op=8):termB (.mk op nm n args)=(decide (n=0) && decide (args.length=0)):=by
 rw [termB,Al_if_neg (by rcases h with rfl | rfl <;> decide),Al_if_neg (by rcases h with rfl | rfl <;> decide),Al_if_pos h]
theorem tb6 {op:UInt8} {nm:Str} {n:Int64} {args:List Ex} (h:op=6):termB (.mk op nm n args)=(decide (n=0) && (args.all termB && decide (args.length=1))):=by
 subst h;rw [termB,Al_if_neg (by decide),Al_if_neg (by decide),Al_if_neg (by decide),Al_if_pos rfl,termBs_allF]
theorem tb9 {op:UInt8} {nm:Str} {n:Int64} {args:List Ex} (h:op=9):termB (.mk op nm n args)=(decide (nm=[]) && decide (n=0) && (args.all termB && decide (args.length=1))):=by
 subst h;rw [termB,Al_if_neg (by decide),Al_if_neg (by decide),Al_if_neg (by decide),Al_if_neg (by decide),Al_if_pos rfl,termBs_allF]
theorem tbb {op:UInt8} {nm:Str} {n:Int64} {args:List Ex} (h:op=11\/op=12\/op=13\/op=14\/op=15):termB (.mk op nm n args)=(decide (nm=[]) && decide (n=0) && (args.all termB && decide (args.length=2))):=by
 have e:∀ k:UInt8,k<11->¬ op=k:=by
  intro k hk e;subst e;rcases h with rfl | rfl | rfl | rfl | rfl <;> exact absurd hk (by decide)
 rw [termB,Al_if_neg (e 1 (by decide)),Al_if_neg (e 4 (by decide)),Al_if_neg (by rintro (h | h);exact e 5 (by decide) h;exact e 8 (by decide) h),Al_if_neg (e 6 (by decide)),Al_if_neg (e 9 (by decide)),Al_if_pos h,termBs_allF]
theorem tbn {op:UInt8} {nm:Str} {n:Int64} {args:List Ex} (h1:¬ op=1) (h4:¬ op=4) (h5:¬ op=5) (h8:¬ op=8) (h6:¬ op=6) (h9:¬ op=9) (a:¬ op=11) (b:¬ op=12) (c:¬ op=13) (d:¬ op=14) (e:¬ op=15):termB (.mk op nm n args)=false:=by
 rw [termB,Al_if_neg h1,Al_if_neg h4,Al_if_neg (Al_not_or.2 ⟨h5,h8⟩),Al_if_neg h6,Al_if_neg h9,Al_if_neg (by rintro (h | h | h | h | h);exact a h;exact b h;exact c h;exact d h;exact e h)]
set_option maxHeartbeats 1000000 in
theorem isTerm_any (H:Hp) (e:Ex):(∀ (cs:List Value) (W:World),Rep H (dEx .u8 e) cs->Agr H W->Calls prg 79 #[.agg cs.toArray] W λr W'=>r=.returned (.bool (termB e))/\Ext W W'):=by
 induction e using Ex.ind with | _ op nm nn args ih
 intro cs w h hA;obtain ⟨pp,c,rfl,hs,hnm⟩:=ex_open h;refine Sx.enter (H:=H) func79 rfl ntmps79 rfl hA ?_;refine .sr<|.bx Z Z Z λb1=>.aq Z<|.sq<|.sr<|.fA Z Fx.field76_0<|.lD Z Fx.agg74 Hm Z<|.nt<|.bk<|.sr<|.yw (.eql Z Z)<|.aq Z<|.cd Z (λh5=>?_) (λh5=>?_)
 ·have q1:op=1:=Al_UInt8_toNat_inj.1 (by have:=Al_of_decide_eq_true h5;show op.toNat=1;omega);refine .sr<|.fA Z Fx.field76_1<|.lD Z Fx.agg9 Hm Z<|.yw (.eqS Z Z)<|.mv Z<|.b2 (λh10=>?_) (λh10=>?_)
  ·refine .gy (.fieldAddr Z Fx.field76_2)<|.gy (.load Z Fx.agg2 Hm Z)<|.gy (.geq Z Z)<|.yw (.pickT Z Z)<|.mv Z<|.b2 (λh15=>?_) (λh15=>?_)
   ·refine .gy (.fieldAddr Z Fx.field76_3)<|.gy (.load Z Fx.agg32 Hm Z)<|.gy (.lenSl Fx.sl32 Z)<|.gy (.cast (.eql Z Z) (congrArg Value.bool er0))<|.yw (.pickT Z Z)<|.az Z<|.bR<|.tR<|?_
    refine y9 Z Z λW s=>⟨?_,s.ext⟩
    first
     | (rw [tb1 q1,h10,h15];simp only [Al_Bool_true_and,Al_Bool_false_and,Al_Bool_and_true,Bool.and_false])
     | (rw [tb1 q1,h10,h15];rfl)
     | (rw [tb1 q1,h10];simp only [Al_Bool_true_and,Al_Bool_false_and,Al_Bool_and_true,Bool.and_false])
     | (rw [tb1 q1,h10];rfl)
     | (rw [tb4 q4,h26,h31];simp only [Al_Bool_true_and,Al_Bool_false_and,Al_Bool_and_true,Bool.and_false])
     | (rw [tb4 q4,h26,h31];rfl)
     | (rw [tb4 q4,h26];simp only [Al_Bool_true_and,Al_Bool_false_and,Al_Bool_and_true,Bool.and_false])
     | (rw [tb4 q4,h26];rfl)
     | (rw [tb5 (.inl q58),h43];simp only [Al_Bool_true_and,Al_Bool_false_and,Al_Bool_and_true,Bool.and_false])
     | (rw [tb5 (.inl q58),h43];rfl)
     | (rw [tb5 (.inr q58),h43];simp only [Al_Bool_true_and,Al_Bool_false_and,Al_Bool_and_true,Bool.and_false])
     | (rw [tb5 (.inr q58),h43];rfl)
     | (rw [tb6 q6,h54];simp only [Al_Bool_true_and,Al_Bool_false_and,Al_Bool_and_true,Bool.and_false])
     | (rw [tb6 q6,h54];rfl)
     | (rw [tb9 q9,h63,h68];simp only [Al_Bool_true_and,Al_Bool_false_and,Al_Bool_and_true,Bool.and_false])
     | (rw [tb9 q9,h63,h68];rfl)
     | (rw [tb9 q9,h63];simp only [Al_Bool_true_and,Al_Bool_false_and,Al_Bool_and_true,Bool.and_false])
     | (rw [tb9 q9,h63];rfl)
     | (rw [tbb (.inl qb),h81,h86];simp only [Al_Bool_true_and,Al_Bool_false_and,Al_Bool_and_true,Bool.and_false])
     | (rw [tbb (.inl qb),h81,h86];rfl)
     | (rw [tbb (.inl qb),h81];simp only [Al_Bool_true_and,Al_Bool_false_and,Al_Bool_and_true,Bool.and_false])
     | (rw [tbb (.inl qb),h81];rfl)
     | (rw [tbb (.inr (.inl qb)),h81,h86];simp only [Al_Bool_true_and,Al_Bool_false_and,Al_Bool_and_true,Bool.and_false])
     | (rw [tbb (.inr (.inl qb)),h81,h86];rfl)
     | (rw [tbb (.inr (.inl qb)),h81];simp only [Al_Bool_true_and,Al_Bool_false_and,Al_Bool_and_true,Bool.and_false])
     | (rw [tbb (.inr (.inl qb)),h81];rfl)
     | (rw [tbb (.inr (.inr (.inl qb))),h81,h86];simp only [Al_Bool_true_and,Al_Bool_false_and,Al_Bool_and_true,Bool.and_false])
     | (rw [tbb (.inr (.inr (.inl qb))),h81,h86];rfl)
     | (rw [tbb (.inr (.inr (.inl qb))),h81];simp only [Al_Bool_true_and,Al_Bool_false_and,Al_Bool_and_true,Bool.and_false])
     | (rw [tbb (.inr (.inr (.inl qb))),h81];rfl)
     | (rw [tbb (.inr (.inr (.inr (.inl qb)))),h81,h86];simp only [Al_Bool_true_and,Al_Bool_false_and,Al_Bool_and_true,Bool.and_false])
     | (rw [tbb (.inr (.inr (.inr (.inl qb)))),h81,h86];rfl)
     | (rw [tbb (.inr (.inr (.inr (.inl qb)))),h81];simp only [Al_Bool_true_and,Al_Bool_false_and,Al_Bool_and_true,Bool.and_false])
     | (rw [tbb (.inr (.inr (.inr (.inl qb)))),h81];rfl)
     | (rw [tbb (.inr (.inr (.inr (.inr qb)))),h81,h86];simp only [Al_Bool_true_and,Al_Bool_false_and,Al_Bool_and_true,Bool.and_false])
     | (rw [tbb (.inr (.inr (.inr (.inr qb)))),h81,h86];rfl)
     | (rw [tbb (.inr (.inr (.inr (.inr qb)))),h81];simp only [Al_Bool_true_and,Al_Bool_false_and,Al_Bool_and_true,Bool.and_false])
     | (rw [tbb (.inr (.inr (.inr (.inr qb)))),h81];rfl)
     | (rw [tbn q1 q4 q585 q588 q6 q9 qb11 qb12 qb13 qb14 qb15])
   refine .gG<|.gG<|.gG<|.gG<|.yw (.pickF Z Z)<|.az Z<|.bR<|.tR<|?_
   refine y9 Z Z λW s=>⟨?_,s.ext⟩
   first
    | (rw [tb1 q1,h10,h15];simp only [Al_Bool_true_and,Al_Bool_false_and,Al_Bool_and_true,Bool.and_false])
    | (rw [tb1 q1,h10,h15];rfl)
    | (rw [tb1 q1,h10];simp only [Al_Bool_true_and,Al_Bool_false_and,Al_Bool_and_true,Bool.and_false])
    | (rw [tb1 q1,h10];rfl)
    | (rw [tb4 q4,h26,h31];simp only [Al_Bool_true_and,Al_Bool_false_and,Al_Bool_and_true,Bool.and_false])
    | (rw [tb4 q4,h26,h31];rfl)
    | (rw [tb4 q4,h26];simp only [Al_Bool_true_and,Al_Bool_false_and,Al_Bool_and_true,Bool.and_false])
    | (rw [tb4 q4,h26];rfl)
    | (rw [tb5 (.inl q58),h43];simp only [Al_Bool_true_and,Al_Bool_false_and,Al_Bool_and_true,Bool.and_false])
    | (rw [tb5 (.inl q58),h43];rfl)
    | (rw [tb5 (.inr q58),h43];simp only [Al_Bool_true_and,Al_Bool_false_and,Al_Bool_and_true,Bool.and_false])
    | (rw [tb5 (.inr q58),h43];rfl)
    | (rw [tb6 q6,h54];simp only [Al_Bool_true_and,Al_Bool_false_and,Al_Bool_and_true,Bool.and_false])
    | (rw [tb6 q6,h54];rfl)
    | (rw [tb9 q9,h63,h68];simp only [Al_Bool_true_and,Al_Bool_false_and,Al_Bool_and_true,Bool.and_false])
    | (rw [tb9 q9,h63,h68];rfl)
    | (rw [tb9 q9,h63];simp only [Al_Bool_true_and,Al_Bool_false_and,Al_Bool_and_true,Bool.and_false])
    | (rw [tb9 q9,h63];rfl)
    | (rw [tbb (.inl qb),h81,h86];simp only [Al_Bool_true_and,Al_Bool_false_and,Al_Bool_and_true,Bool.and_false])
    | (rw [tbb (.inl qb),h81,h86];rfl)
    | (rw [tbb (.inl qb),h81];simp only [Al_Bool_true_and,Al_Bool_false_and,Al_Bool_and_true,Bool.and_false])
    | (rw [tbb (.inl qb),h81];rfl)
    | (rw [tbb (.inr (.inl qb)),h81,h86];simp only [Al_Bool_true_and,Al_Bool_false_and,Al_Bool_and_true,Bool.and_false])
    | (rw [tbb (.inr (.inl qb)),h81,h86];rfl)
    | (rw [tbb (.inr (.inl qb)),h81];simp only [Al_Bool_true_and,Al_Bool_false_and,Al_Bool_and_true,Bool.and_false])
    | (rw [tbb (.inr (.inl qb)),h81];rfl)
    | (rw [tbb (.inr (.inr (.inl qb))),h81,h86];simp only [Al_Bool_true_and,Al_Bool_false_and,Al_Bool_and_true,Bool.and_false])
    | (rw [tbb (.inr (.inr (.inl qb))),h81,h86];rfl)
    | (rw [tbb (.inr (.inr (.inl qb))),h81];simp only [Al_Bool_true_and,Al_Bool_false_and,Al_Bool_and_true,Bool.and_false])
    | (rw [tbb (.inr (.inr (.inl qb))),h81];rfl)
    | (rw [tbb (.inr (.inr (.inr (.inl qb)))),h81,h86];simp only [Al_Bool_true_and,Al_Bool_false_and,Al_Bool_and_true,Bool.and_false])
    | (rw [tbb (.inr (.inr (.inr (.inl qb)))),h81,h86];rfl)
    | (rw [tbb (.inr (.inr (.inr (.inl qb)))),h81];simp only [Al_Bool_true_and,Al_Bool_false_and,Al_Bool_and_true,Bool.and_false])
    | (rw [tbb (.inr (.inr (.inr (.inl qb)))),h81];rfl)
    | (rw [tbb (.inr (.inr (.inr (.inr qb)))),h81,h86];simp only [Al_Bool_true_and,Al_Bool_false_and,Al_Bool_and_true,Bool.and_false])
    | (rw [tbb (.inr (.inr (.inr (.inr qb)))),h81,h86];rfl)
    | (rw [tbb (.inr (.inr (.inr (.inr qb)))),h81];simp only [Al_Bool_true_and,Al_Bool_false_and,Al_Bool_and_true,Bool.and_false])
    | (rw [tbb (.inr (.inr (.inr (.inr qb)))),h81];rfl)
    | (rw [tbn q1 q4 q585 q588 q6 q9 qb11 qb12 qb13 qb14 qb15])
  refine .gG<|.gG<|.gG<|.yw (.pickF Z Z)<|.mv Z<|.gG<|.gG<|.gG<|.gG<|.yw (.pickF Z Z)<|.az Z<|.bR<|.tR<|?_
  refine y9 Z Z λW s=>⟨?_,s.ext⟩
  first
   | (rw [tb1 q1,h10,h15];simp only [Al_Bool_true_and,Al_Bool_false_and,Al_Bool_and_true,Bool.and_false])
   | (rw [tb1 q1,h10,h15];rfl)
   | (rw [tb1 q1,h10];simp only [Al_Bool_true_and,Al_Bool_false_and,Al_Bool_and_true,Bool.and_false])
   | (rw [tb1 q1,h10];rfl)
   | (rw [tb4 q4,h26,h31];simp only [Al_Bool_true_and,Al_Bool_false_and,Al_Bool_and_true,Bool.and_false])
   | (rw [tb4 q4,h26,h31];rfl)
   | (rw [tb4 q4,h26];simp only [Al_Bool_true_and,Al_Bool_false_and,Al_Bool_and_true,Bool.and_false])
   | (rw [tb4 q4,h26];rfl)
   | (rw [tb5 (.inl q58),h43];simp only [Al_Bool_true_and,Al_Bool_false_and,Al_Bool_and_true,Bool.and_false])
   | (rw [tb5 (.inl q58),h43];rfl)
   | (rw [tb5 (.inr q58),h43];simp only [Al_Bool_true_and,Al_Bool_false_and,Al_Bool_and_true,Bool.and_false])
   | (rw [tb5 (.inr q58),h43];rfl)
   | (rw [tb6 q6,h54];simp only [Al_Bool_true_and,Al_Bool_false_and,Al_Bool_and_true,Bool.and_false])
   | (rw [tb6 q6,h54];rfl)
   | (rw [tb9 q9,h63,h68];simp only [Al_Bool_true_and,Al_Bool_false_and,Al_Bool_and_true,Bool.and_false])
   | (rw [tb9 q9,h63,h68];rfl)
   | (rw [tb9 q9,h63];simp only [Al_Bool_true_and,Al_Bool_false_and,Al_Bool_and_true,Bool.and_false])
   | (rw [tb9 q9,h63];rfl)
   | (rw [tbb (.inl qb),h81,h86];simp only [Al_Bool_true_and,Al_Bool_false_and,Al_Bool_and_true,Bool.and_false])
   | (rw [tbb (.inl qb),h81,h86];rfl)
   | (rw [tbb (.inl qb),h81];simp only [Al_Bool_true_and,Al_Bool_false_and,Al_Bool_and_true,Bool.and_false])
   | (rw [tbb (.inl qb),h81];rfl)
   | (rw [tbb (.inr (.inl qb)),h81,h86];simp only [Al_Bool_true_and,Al_Bool_false_and,Al_Bool_and_true,Bool.and_false])
   | (rw [tbb (.inr (.inl qb)),h81,h86];rfl)
   | (rw [tbb (.inr (.inl qb)),h81];simp only [Al_Bool_true_and,Al_Bool_false_and,Al_Bool_and_true,Bool.and_false])
   | (rw [tbb (.inr (.inl qb)),h81];rfl)
   | (rw [tbb (.inr (.inr (.inl qb))),h81,h86];simp only [Al_Bool_true_and,Al_Bool_false_and,Al_Bool_and_true,Bool.and_false])
   | (rw [tbb (.inr (.inr (.inl qb))),h81,h86];rfl)
   | (rw [tbb (.inr (.inr (.inl qb))),h81];simp only [Al_Bool_true_and,Al_Bool_false_and,Al_Bool_and_true,Bool.and_false])
   | (rw [tbb (.inr (.inr (.inl qb))),h81];rfl)
   | (rw [tbb (.inr (.inr (.inr (.inl qb)))),h81,h86];simp only [Al_Bool_true_and,Al_Bool_false_and,Al_Bool_and_true,Bool.and_false])
   | (rw [tbb (.inr (.inr (.inr (.inl qb)))),h81,h86];rfl)
   | (rw [tbb (.inr (.inr (.inr (.inl qb)))),h81];simp only [Al_Bool_true_and,Al_Bool_false_and,Al_Bool_and_true,Bool.and_false])
   | (rw [tbb (.inr (.inr (.inr (.inl qb)))),h81];rfl)
   | (rw [tbb (.inr (.inr (.inr (.inr qb)))),h81,h86];simp only [Al_Bool_true_and,Al_Bool_false_and,Al_Bool_and_true,Bool.and_false])
   | (rw [tbb (.inr (.inr (.inr (.inr qb)))),h81,h86];rfl)
   | (rw [tbb (.inr (.inr (.inr (.inr qb)))),h81];simp only [Al_Bool_true_and,Al_Bool_false_and,Al_Bool_and_true,Bool.and_false])
   | (rw [tbb (.inr (.inr (.inr (.inr qb)))),h81];rfl)
   | (rw [tbn q1 q4 q585 q588 q6 q9 qb11 qb12 qb13 qb14 qb15])
 have q1:¬ op=1:=λe=>Al_of_decide_eq_false h5 (by rw [e];rfl);refine .sr<|.yw (.eql Z Z)<|.aq Z<|.cd Z (λh21=>?_) (λh21=>?_)
 ·have q4:op=4:=Al_UInt8_toNat_inj.1 (by have:=Al_of_decide_eq_true h21;show op.toNat=4;omega);refine .sr<|.fA Z Fx.field76_1<|.lD Z Fx.agg9 Hm Z<|.yw (.eqS Z Z)<|.mv Z<|.b2 (λh26=>?_) (λh26=>?_)
  ·refine .gy (.fieldAddr Z Fx.field76_2)<|.gy (.load Z Fx.agg2 Hm Z)<|.gy (.cast (.eql Z Z) (congrArg Value.bool i0))<|.yw (.pickT Z Z)<|.mv Z<|.b2 (λh31=>?_) (λh31=>?_)
   ·refine .gy (.fieldAddr Z Fx.field76_3)<|.gy (.load Z Fx.agg32 Hm Z)<|.gy (.lenSl Fx.sl32 Z)<|.gy (.cast (.eql Z Z) (congrArg Value.bool er0))<|.yw (.pickT Z Z)<|.az Z<|.bR<|.tR<|?_
    refine y9 Z Z λW s=>⟨?_,s.ext⟩
    first
     | (rw [tb1 q1,h10,h15];simp only [Al_Bool_true_and,Al_Bool_false_and,Al_Bool_and_true,Bool.and_false])
     | (rw [tb1 q1,h10,h15];rfl)
     | (rw [tb1 q1,h10];simp only [Al_Bool_true_and,Al_Bool_false_and,Al_Bool_and_true,Bool.and_false])
     | (rw [tb1 q1,h10];rfl)
     | (rw [tb4 q4,h26,h31];simp only [Al_Bool_true_and,Al_Bool_false_and,Al_Bool_and_true,Bool.and_false])
     | (rw [tb4 q4,h26,h31];rfl)
     | (rw [tb4 q4,h26];simp only [Al_Bool_true_and,Al_Bool_false_and,Al_Bool_and_true,Bool.and_false])
     | (rw [tb4 q4,h26];rfl)
     | (rw [tb5 (.inl q58),h43];simp only [Al_Bool_true_and,Al_Bool_false_and,Al_Bool_and_true,Bool.and_false])
     | (rw [tb5 (.inl q58),h43];rfl)
     | (rw [tb5 (.inr q58),h43];simp only [Al_Bool_true_and,Al_Bool_false_and,Al_Bool_and_true,Bool.and_false])
     | (rw [tb5 (.inr q58),h43];rfl)
     | (rw [tb6 q6,h54];simp only [Al_Bool_true_and,Al_Bool_false_and,Al_Bool_and_true,Bool.and_false])
     | (rw [tb6 q6,h54];rfl)
     | (rw [tb9 q9,h63,h68];simp only [Al_Bool_true_and,Al_Bool_false_and,Al_Bool_and_true,Bool.and_false])
     | (rw [tb9 q9,h63,h68];rfl)
     | (rw [tb9 q9,h63];simp only [Al_Bool_true_and,Al_Bool_false_and,Al_Bool_and_true,Bool.and_false])
     | (rw [tb9 q9,h63];rfl)
     | (rw [tbb (.inl qb),h81,h86];simp only [Al_Bool_true_and,Al_Bool_false_and,Al_Bool_and_true,Bool.and_false])
     | (rw [tbb (.inl qb),h81,h86];rfl)
     | (rw [tbb (.inl qb),h81];simp only [Al_Bool_true_and,Al_Bool_false_and,Al_Bool_and_true,Bool.and_false])
     | (rw [tbb (.inl qb),h81];rfl)
     | (rw [tbb (.inr (.inl qb)),h81,h86];simp only [Al_Bool_true_and,Al_Bool_false_and,Al_Bool_and_true,Bool.and_false])
     | (rw [tbb (.inr (.inl qb)),h81,h86];rfl)
     | (rw [tbb (.inr (.inl qb)),h81];simp only [Al_Bool_true_and,Al_Bool_false_and,Al_Bool_and_true,Bool.and_false])
     | (rw [tbb (.inr (.inl qb)),h81];rfl)
     | (rw [tbb (.inr (.inr (.inl qb))),h81,h86];simp only [Al_Bool_true_and,Al_Bool_false_and,Al_Bool_and_true,Bool.and_false])
     | (rw [tbb (.inr (.inr (.inl qb))),h81,h86];rfl)
     | (rw [tbb (.inr (.inr (.inl qb))),h81];simp only [Al_Bool_true_and,Al_Bool_false_and,Al_Bool_and_true,Bool.and_false])
     | (rw [tbb (.inr (.inr (.inl qb))),h81];rfl)
     | (rw [tbb (.inr (.inr (.inr (.inl qb)))),h81,h86];simp only [Al_Bool_true_and,Al_Bool_false_and,Al_Bool_and_true,Bool.and_false])
     | (rw [tbb (.inr (.inr (.inr (.inl qb)))),h81,h86];rfl)
     | (rw [tbb (.inr (.inr (.inr (.inl qb)))),h81];simp only [Al_Bool_true_and,Al_Bool_false_and,Al_Bool_and_true,Bool.and_false])
     | (rw [tbb (.inr (.inr (.inr (.inl qb)))),h81];rfl)
     | (rw [tbb (.inr (.inr (.inr (.inr qb)))),h81,h86];simp only [Al_Bool_true_and,Al_Bool_false_and,Al_Bool_and_true,Bool.and_false])
     | (rw [tbb (.inr (.inr (.inr (.inr qb)))),h81,h86];rfl)
     | (rw [tbb (.inr (.inr (.inr (.inr qb)))),h81];simp only [Al_Bool_true_and,Al_Bool_false_and,Al_Bool_and_true,Bool.and_false])
     | (rw [tbb (.inr (.inr (.inr (.inr qb)))),h81];rfl)
     | (rw [tbn q1 q4 q585 q588 q6 q9 qb11 qb12 qb13 qb14 qb15])
   refine .gG<|.gG<|.gG<|.gG<|.yw (.pickF Z Z)<|.az Z<|.bR<|.tR<|?_
   refine y9 Z Z λW s=>⟨?_,s.ext⟩
   first
    | (rw [tb1 q1,h10,h15];simp only [Al_Bool_true_and,Al_Bool_false_and,Al_Bool_and_true,Bool.and_false])
    | (rw [tb1 q1,h10,h15];rfl)
    | (rw [tb1 q1,h10];simp only [Al_Bool_true_and,Al_Bool_false_and,Al_Bool_and_true,Bool.and_false])
    | (rw [tb1 q1,h10];rfl)
    | (rw [tb4 q4,h26,h31];simp only [Al_Bool_true_and,Al_Bool_false_and,Al_Bool_and_true,Bool.and_false])
    | (rw [tb4 q4,h26,h31];rfl)
    | (rw [tb4 q4,h26];simp only [Al_Bool_true_and,Al_Bool_false_and,Al_Bool_and_true,Bool.and_false])
    | (rw [tb4 q4,h26];rfl)
    | (rw [tb5 (.inl q58),h43];simp only [Al_Bool_true_and,Al_Bool_false_and,Al_Bool_and_true,Bool.and_false])
    | (rw [tb5 (.inl q58),h43];rfl)
    | (rw [tb5 (.inr q58),h43];simp only [Al_Bool_true_and,Al_Bool_false_and,Al_Bool_and_true,Bool.and_false])
    | (rw [tb5 (.inr q58),h43];rfl)
    | (rw [tb6 q6,h54];simp only [Al_Bool_true_and,Al_Bool_false_and,Al_Bool_and_true,Bool.and_false])
    | (rw [tb6 q6,h54];rfl)
    | (rw [tb9 q9,h63,h68];simp only [Al_Bool_true_and,Al_Bool_false_and,Al_Bool_and_true,Bool.and_false])
    | (rw [tb9 q9,h63,h68];rfl)
    | (rw [tb9 q9,h63];simp only [Al_Bool_true_and,Al_Bool_false_and,Al_Bool_and_true,Bool.and_false])
    | (rw [tb9 q9,h63];rfl)
    | (rw [tbb (.inl qb),h81,h86];simp only [Al_Bool_true_and,Al_Bool_false_and,Al_Bool_and_true,Bool.and_false])
    | (rw [tbb (.inl qb),h81,h86];rfl)
    | (rw [tbb (.inl qb),h81];simp only [Al_Bool_true_and,Al_Bool_false_and,Al_Bool_and_true,Bool.and_false])
    | (rw [tbb (.inl qb),h81];rfl)
    | (rw [tbb (.inr (.inl qb)),h81,h86];simp only [Al_Bool_true_and,Al_Bool_false_and,Al_Bool_and_true,Bool.and_false])
    | (rw [tbb (.inr (.inl qb)),h81,h86];rfl)
    | (rw [tbb (.inr (.inl qb)),h81];simp only [Al_Bool_true_and,Al_Bool_false_and,Al_Bool_and_true,Bool.and_false])
    | (rw [tbb (.inr (.inl qb)),h81];rfl)
    | (rw [tbb (.inr (.inr (.inl qb))),h81,h86];simp only [Al_Bool_true_and,Al_Bool_false_and,Al_Bool_and_true,Bool.and_false])
    | (rw [tbb (.inr (.inr (.inl qb))),h81,h86];rfl)
    | (rw [tbb (.inr (.inr (.inl qb))),h81];simp only [Al_Bool_true_and,Al_Bool_false_and,Al_Bool_and_true,Bool.and_false])
    | (rw [tbb (.inr (.inr (.inl qb))),h81];rfl)
    | (rw [tbb (.inr (.inr (.inr (.inl qb)))),h81,h86];simp only [Al_Bool_true_and,Al_Bool_false_and,Al_Bool_and_true,Bool.and_false])
    | (rw [tbb (.inr (.inr (.inr (.inl qb)))),h81,h86];rfl)
    | (rw [tbb (.inr (.inr (.inr (.inl qb)))),h81];simp only [Al_Bool_true_and,Al_Bool_false_and,Al_Bool_and_true,Bool.and_false])
    | (rw [tbb (.inr (.inr (.inr (.inl qb)))),h81];rfl)
    | (rw [tbb (.inr (.inr (.inr (.inr qb)))),h81,h86];simp only [Al_Bool_true_and,Al_Bool_false_and,Al_Bool_and_true,Bool.and_false])
    | (rw [tbb (.inr (.inr (.inr (.inr qb)))),h81,h86];rfl)
    | (rw [tbb (.inr (.inr (.inr (.inr qb)))),h81];simp only [Al_Bool_true_and,Al_Bool_false_and,Al_Bool_and_true,Bool.and_false])
    | (rw [tbb (.inr (.inr (.inr (.inr qb)))),h81];rfl)
    | (rw [tbn q1 q4 q585 q588 q6 q9 qb11 qb12 qb13 qb14 qb15])
  refine .gG<|.gG<|.gG<|.yw (.pickF Z Z)<|.mv Z<|.gG<|.gG<|.gG<|.gG<|.yw (.pickF Z Z)<|.az Z<|.bR<|.tR<|?_
  refine y9 Z Z λW s=>⟨?_,s.ext⟩
  first
   | (rw [tb1 q1,h10,h15];simp only [Al_Bool_true_and,Al_Bool_false_and,Al_Bool_and_true,Bool.and_false])
   | (rw [tb1 q1,h10,h15];rfl)
   | (rw [tb1 q1,h10];simp only [Al_Bool_true_and,Al_Bool_false_and,Al_Bool_and_true,Bool.and_false])
   | (rw [tb1 q1,h10];rfl)
   | (rw [tb4 q4,h26,h31];simp only [Al_Bool_true_and,Al_Bool_false_and,Al_Bool_and_true,Bool.and_false])
   | (rw [tb4 q4,h26,h31];rfl)
   | (rw [tb4 q4,h26];simp only [Al_Bool_true_and,Al_Bool_false_and,Al_Bool_and_true,Bool.and_false])
   | (rw [tb4 q4,h26];rfl)
   | (rw [tb5 (.inl q58),h43];simp only [Al_Bool_true_and,Al_Bool_false_and,Al_Bool_and_true,Bool.and_false])
   | (rw [tb5 (.inl q58),h43];rfl)
   | (rw [tb5 (.inr q58),h43];simp only [Al_Bool_true_and,Al_Bool_false_and,Al_Bool_and_true,Bool.and_false])
   | (rw [tb5 (.inr q58),h43];rfl)
   | (rw [tb6 q6,h54];simp only [Al_Bool_true_and,Al_Bool_false_and,Al_Bool_and_true,Bool.and_false])
   | (rw [tb6 q6,h54];rfl)
   | (rw [tb9 q9,h63,h68];simp only [Al_Bool_true_and,Al_Bool_false_and,Al_Bool_and_true,Bool.and_false])
   | (rw [tb9 q9,h63,h68];rfl)
   | (rw [tb9 q9,h63];simp only [Al_Bool_true_and,Al_Bool_false_and,Al_Bool_and_true,Bool.and_false])
   | (rw [tb9 q9,h63];rfl)
   | (rw [tbb (.inl qb),h81,h86];simp only [Al_Bool_true_and,Al_Bool_false_and,Al_Bool_and_true,Bool.and_false])
   | (rw [tbb (.inl qb),h81,h86];rfl)
   | (rw [tbb (.inl qb),h81];simp only [Al_Bool_true_and,Al_Bool_false_and,Al_Bool_and_true,Bool.and_false])
   | (rw [tbb (.inl qb),h81];rfl)
   | (rw [tbb (.inr (.inl qb)),h81,h86];simp only [Al_Bool_true_and,Al_Bool_false_and,Al_Bool_and_true,Bool.and_false])
   | (rw [tbb (.inr (.inl qb)),h81,h86];rfl)
   | (rw [tbb (.inr (.inl qb)),h81];simp only [Al_Bool_true_and,Al_Bool_false_and,Al_Bool_and_true,Bool.and_false])
   | (rw [tbb (.inr (.inl qb)),h81];rfl)
   | (rw [tbb (.inr (.inr (.inl qb))),h81,h86];simp only [Al_Bool_true_and,Al_Bool_false_and,Al_Bool_and_true,Bool.and_false])
   | (rw [tbb (.inr (.inr (.inl qb))),h81,h86];rfl)
   | (rw [tbb (.inr (.inr (.inl qb))),h81];simp only [Al_Bool_true_and,Al_Bool_false_and,Al_Bool_and_true,Bool.and_false])
   | (rw [tbb (.inr (.inr (.inl qb))),h81];rfl)
   | (rw [tbb (.inr (.inr (.inr (.inl qb)))),h81,h86];simp only [Al_Bool_true_and,Al_Bool_false_and,Al_Bool_and_true,Bool.and_false])
   | (rw [tbb (.inr (.inr (.inr (.inl qb)))),h81,h86];rfl)
   | (rw [tbb (.inr (.inr (.inr (.inl qb)))),h81];simp only [Al_Bool_true_and,Al_Bool_false_and,Al_Bool_and_true,Bool.and_false])
   | (rw [tbb (.inr (.inr (.inr (.inl qb)))),h81];rfl)
   | (rw [tbb (.inr (.inr (.inr (.inr qb)))),h81,h86];simp only [Al_Bool_true_and,Al_Bool_false_and,Al_Bool_and_true,Bool.and_false])
   | (rw [tbb (.inr (.inr (.inr (.inr qb)))),h81,h86];rfl)
   | (rw [tbb (.inr (.inr (.inr (.inr qb)))),h81];simp only [Al_Bool_true_and,Al_Bool_false_and,Al_Bool_and_true,Bool.and_false])
   | (rw [tbb (.inr (.inr (.inr (.inr qb)))),h81];rfl)
   | (rw [tbn q1 q4 q585 q588 q6 q9 qb11 qb12 qb13 qb14 qb15])
 have q4:¬ op=4:=λe=>Al_of_decide_eq_false h21 (by rw [e];rfl);refine .sq<|.sr<|.yw (.eql Z Z)<|.aq Z<|.cr Z (λh37=>?_) (λh37=>?_)
 ·have q58:op=5:=Al_UInt8_toNat_inj.1 (by have:=Al_of_decide_eq_true h37;show op.toNat=5;omega);refine .sk<|.tN<|.cT Z<|.sr<|.fA Z Fx.field76_2<|.lD Z Fx.agg2 Hm Z<|.yw (.cast (.eql Z Z) (congrArg Value.bool i0))<|.mv Z<|.b2 (λh43=>?_) (λh43=>?_)
  ·refine .gy (.fieldAddr Z Fx.field76_3)<|.gy (.load Z Fx.agg32 Hm Z)<|.gy (.lenSl Fx.sl32 Z)<|.gy (.cast (.eql Z Z) (congrArg Value.bool er0))<|.yw (.pickT Z Z)<|.az Z<|.bR<|.tR<|?_
   refine y9 Z Z λW s=>⟨?_,s.ext⟩
   first
    | (rw [tb1 q1,h10,h15];simp only [Al_Bool_true_and,Al_Bool_false_and,Al_Bool_and_true,Bool.and_false])
    | (rw [tb1 q1,h10,h15];rfl)
    | (rw [tb1 q1,h10];simp only [Al_Bool_true_and,Al_Bool_false_and,Al_Bool_and_true,Bool.and_false])
    | (rw [tb1 q1,h10];rfl)
    | (rw [tb4 q4,h26,h31];simp only [Al_Bool_true_and,Al_Bool_false_and,Al_Bool_and_true,Bool.and_false])
    | (rw [tb4 q4,h26,h31];rfl)
    | (rw [tb4 q4,h26];simp only [Al_Bool_true_and,Al_Bool_false_and,Al_Bool_and_true,Bool.and_false])
    | (rw [tb4 q4,h26];rfl)
    | (rw [tb5 (.inl q58),h43];simp only [Al_Bool_true_and,Al_Bool_false_and,Al_Bool_and_true,Bool.and_false])
    | (rw [tb5 (.inl q58),h43];rfl)
    | (rw [tb5 (.inr q58),h43];simp only [Al_Bool_true_and,Al_Bool_false_and,Al_Bool_and_true,Bool.and_false])
    | (rw [tb5 (.inr q58),h43];rfl)
    | (rw [tb6 q6,h54];simp only [Al_Bool_true_and,Al_Bool_false_and,Al_Bool_and_true,Bool.and_false])
    | (rw [tb6 q6,h54];rfl)
    | (rw [tb9 q9,h63,h68];simp only [Al_Bool_true_and,Al_Bool_false_and,Al_Bool_and_true,Bool.and_false])
    | (rw [tb9 q9,h63,h68];rfl)
    | (rw [tb9 q9,h63];simp only [Al_Bool_true_and,Al_Bool_false_and,Al_Bool_and_true,Bool.and_false])
    | (rw [tb9 q9,h63];rfl)
    | (rw [tbb (.inl qb),h81,h86];simp only [Al_Bool_true_and,Al_Bool_false_and,Al_Bool_and_true,Bool.and_false])
    | (rw [tbb (.inl qb),h81,h86];rfl)
    | (rw [tbb (.inl qb),h81];simp only [Al_Bool_true_and,Al_Bool_false_and,Al_Bool_and_true,Bool.and_false])
    | (rw [tbb (.inl qb),h81];rfl)
    | (rw [tbb (.inr (.inl qb)),h81,h86];simp only [Al_Bool_true_and,Al_Bool_false_and,Al_Bool_and_true,Bool.and_false])
    | (rw [tbb (.inr (.inl qb)),h81,h86];rfl)
    | (rw [tbb (.inr (.inl qb)),h81];simp only [Al_Bool_true_and,Al_Bool_false_and,Al_Bool_and_true,Bool.and_false])
    | (rw [tbb (.inr (.inl qb)),h81];rfl)
    | (rw [tbb (.inr (.inr (.inl qb))),h81,h86];simp only [Al_Bool_true_and,Al_Bool_false_and,Al_Bool_and_true,Bool.and_false])
    | (rw [tbb (.inr (.inr (.inl qb))),h81,h86];rfl)
    | (rw [tbb (.inr (.inr (.inl qb))),h81];simp only [Al_Bool_true_and,Al_Bool_false_and,Al_Bool_and_true,Bool.and_false])
    | (rw [tbb (.inr (.inr (.inl qb))),h81];rfl)
    | (rw [tbb (.inr (.inr (.inr (.inl qb)))),h81,h86];simp only [Al_Bool_true_and,Al_Bool_false_and,Al_Bool_and_true,Bool.and_false])
    | (rw [tbb (.inr (.inr (.inr (.inl qb)))),h81,h86];rfl)
    | (rw [tbb (.inr (.inr (.inr (.inl qb)))),h81];simp only [Al_Bool_true_and,Al_Bool_false_and,Al_Bool_and_true,Bool.and_false])
    | (rw [tbb (.inr (.inr (.inr (.inl qb)))),h81];rfl)
    | (rw [tbb (.inr (.inr (.inr (.inr qb)))),h81,h86];simp only [Al_Bool_true_and,Al_Bool_false_and,Al_Bool_and_true,Bool.and_false])
    | (rw [tbb (.inr (.inr (.inr (.inr qb)))),h81,h86];rfl)
    | (rw [tbb (.inr (.inr (.inr (.inr qb)))),h81];simp only [Al_Bool_true_and,Al_Bool_false_and,Al_Bool_and_true,Bool.and_false])
    | (rw [tbb (.inr (.inr (.inr (.inr qb)))),h81];rfl)
    | (rw [tbn q1 q4 q585 q588 q6 q9 qb11 qb12 qb13 qb14 qb15])
  refine .gG<|.gG<|.gG<|.gG<|.yw (.pickF Z Z)<|.az Z<|.bR<|.tR<|?_
  refine y9 Z Z λW s=>⟨?_,s.ext⟩
  first
   | (rw [tb1 q1,h10,h15];simp only [Al_Bool_true_and,Al_Bool_false_and,Al_Bool_and_true,Bool.and_false])
   | (rw [tb1 q1,h10,h15];rfl)
   | (rw [tb1 q1,h10];simp only [Al_Bool_true_and,Al_Bool_false_and,Al_Bool_and_true,Bool.and_false])
   | (rw [tb1 q1,h10];rfl)
   | (rw [tb4 q4,h26,h31];simp only [Al_Bool_true_and,Al_Bool_false_and,Al_Bool_and_true,Bool.and_false])
   | (rw [tb4 q4,h26,h31];rfl)
   | (rw [tb4 q4,h26];simp only [Al_Bool_true_and,Al_Bool_false_and,Al_Bool_and_true,Bool.and_false])
   | (rw [tb4 q4,h26];rfl)
   | (rw [tb5 (.inl q58),h43];simp only [Al_Bool_true_and,Al_Bool_false_and,Al_Bool_and_true,Bool.and_false])
   | (rw [tb5 (.inl q58),h43];rfl)
   | (rw [tb5 (.inr q58),h43];simp only [Al_Bool_true_and,Al_Bool_false_and,Al_Bool_and_true,Bool.and_false])
   | (rw [tb5 (.inr q58),h43];rfl)
   | (rw [tb6 q6,h54];simp only [Al_Bool_true_and,Al_Bool_false_and,Al_Bool_and_true,Bool.and_false])
   | (rw [tb6 q6,h54];rfl)
   | (rw [tb9 q9,h63,h68];simp only [Al_Bool_true_and,Al_Bool_false_and,Al_Bool_and_true,Bool.and_false])
   | (rw [tb9 q9,h63,h68];rfl)
   | (rw [tb9 q9,h63];simp only [Al_Bool_true_and,Al_Bool_false_and,Al_Bool_and_true,Bool.and_false])
   | (rw [tb9 q9,h63];rfl)
   | (rw [tbb (.inl qb),h81,h86];simp only [Al_Bool_true_and,Al_Bool_false_and,Al_Bool_and_true,Bool.and_false])
   | (rw [tbb (.inl qb),h81,h86];rfl)
   | (rw [tbb (.inl qb),h81];simp only [Al_Bool_true_and,Al_Bool_false_and,Al_Bool_and_true,Bool.and_false])
   | (rw [tbb (.inl qb),h81];rfl)
   | (rw [tbb (.inr (.inl qb)),h81,h86];simp only [Al_Bool_true_and,Al_Bool_false_and,Al_Bool_and_true,Bool.and_false])
   | (rw [tbb (.inr (.inl qb)),h81,h86];rfl)
   | (rw [tbb (.inr (.inl qb)),h81];simp only [Al_Bool_true_and,Al_Bool_false_and,Al_Bool_and_true,Bool.and_false])
   | (rw [tbb (.inr (.inl qb)),h81];rfl)
   | (rw [tbb (.inr (.inr (.inl qb))),h81,h86];simp only [Al_Bool_true_and,Al_Bool_false_and,Al_Bool_and_true,Bool.and_false])
   | (rw [tbb (.inr (.inr (.inl qb))),h81,h86];rfl)
   | (rw [tbb (.inr (.inr (.inl qb))),h81];simp only [Al_Bool_true_and,Al_Bool_false_and,Al_Bool_and_true,Bool.and_false])
   | (rw [tbb (.inr (.inr (.inl qb))),h81];rfl)
   | (rw [tbb (.inr (.inr (.inr (.inl qb)))),h81,h86];simp only [Al_Bool_true_and,Al_Bool_false_and,Al_Bool_and_true,Bool.and_false])
   | (rw [tbb (.inr (.inr (.inr (.inl qb)))),h81,h86];rfl)
   | (rw [tbb (.inr (.inr (.inr (.inl qb)))),h81];simp only [Al_Bool_true_and,Al_Bool_false_and,Al_Bool_and_true,Bool.and_false])
   | (rw [tbb (.inr (.inr (.inr (.inl qb)))),h81];rfl)
   | (rw [tbb (.inr (.inr (.inr (.inr qb)))),h81,h86];simp only [Al_Bool_true_and,Al_Bool_false_and,Al_Bool_and_true,Bool.and_false])
   | (rw [tbb (.inr (.inr (.inr (.inr qb)))),h81,h86];rfl)
   | (rw [tbb (.inr (.inr (.inr (.inr qb)))),h81];simp only [Al_Bool_true_and,Al_Bool_false_and,Al_Bool_and_true,Bool.and_false])
   | (rw [tbb (.inr (.inr (.inr (.inr qb)))),h81];rfl)
   | (rw [tbn q1 q4 q585 q588 q6 q9 qb11 qb12 qb13 qb14 qb15])
 have q585:¬ op=5:=λe=>Al_of_decide_eq_false h37 (by rw [e];rfl);refine .rg<|.yw (.eql Z Z)<|.aq Z<|.cr Z (λh37=>?_) (λh37=>?_)
 ·have q58:op=8:=Al_UInt8_toNat_inj.1 (by have:=Al_of_decide_eq_true h37;show op.toNat=8;omega);refine .sr<|.fA Z Fx.field76_2<|.lD Z Fx.agg2 Hm Z<|.yw (.cast (.eql Z Z) (congrArg Value.bool i0))<|.mv Z<|.b2 (λh43=>?_) (λh43=>?_)
  ·refine .gy (.fieldAddr Z Fx.field76_3)<|.gy (.load Z Fx.agg32 Hm Z)<|.gy (.lenSl Fx.sl32 Z)<|.gy (.cast (.eql Z Z) (congrArg Value.bool er0))<|.yw (.pickT Z Z)<|.az Z<|.bR<|.tR<|?_
   refine y9 Z Z λW s=>⟨?_,s.ext⟩
   first
    | (rw [tb1 q1,h10,h15];simp only [Al_Bool_true_and,Al_Bool_false_and,Al_Bool_and_true,Bool.and_false])
    | (rw [tb1 q1,h10,h15];rfl)
    | (rw [tb1 q1,h10];simp only [Al_Bool_true_and,Al_Bool_false_and,Al_Bool_and_true,Bool.and_false])
    | (rw [tb1 q1,h10];rfl)
    | (rw [tb4 q4,h26,h31];simp only [Al_Bool_true_and,Al_Bool_false_and,Al_Bool_and_true,Bool.and_false])
    | (rw [tb4 q4,h26,h31];rfl)
    | (rw [tb4 q4,h26];simp only [Al_Bool_true_and,Al_Bool_false_and,Al_Bool_and_true,Bool.and_false])
    | (rw [tb4 q4,h26];rfl)
    | (rw [tb5 (.inl q58),h43];simp only [Al_Bool_true_and,Al_Bool_false_and,Al_Bool_and_true,Bool.and_false])
    | (rw [tb5 (.inl q58),h43];rfl)
    | (rw [tb5 (.inr q58),h43];simp only [Al_Bool_true_and,Al_Bool_false_and,Al_Bool_and_true,Bool.and_false])
    | (rw [tb5 (.inr q58),h43];rfl)
    | (rw [tb6 q6,h54];simp only [Al_Bool_true_and,Al_Bool_false_and,Al_Bool_and_true,Bool.and_false])
    | (rw [tb6 q6,h54];rfl)
    | (rw [tb9 q9,h63,h68];simp only [Al_Bool_true_and,Al_Bool_false_and,Al_Bool_and_true,Bool.and_false])
    | (rw [tb9 q9,h63,h68];rfl)
    | (rw [tb9 q9,h63];simp only [Al_Bool_true_and,Al_Bool_false_and,Al_Bool_and_true,Bool.and_false])
    | (rw [tb9 q9,h63];rfl)
    | (rw [tbb (.inl qb),h81,h86];simp only [Al_Bool_true_and,Al_Bool_false_and,Al_Bool_and_true,Bool.and_false])
    | (rw [tbb (.inl qb),h81,h86];rfl)
    | (rw [tbb (.inl qb),h81];simp only [Al_Bool_true_and,Al_Bool_false_and,Al_Bool_and_true,Bool.and_false])
    | (rw [tbb (.inl qb),h81];rfl)
    | (rw [tbb (.inr (.inl qb)),h81,h86];simp only [Al_Bool_true_and,Al_Bool_false_and,Al_Bool_and_true,Bool.and_false])
    | (rw [tbb (.inr (.inl qb)),h81,h86];rfl)
    | (rw [tbb (.inr (.inl qb)),h81];simp only [Al_Bool_true_and,Al_Bool_false_and,Al_Bool_and_true,Bool.and_false])
    | (rw [tbb (.inr (.inl qb)),h81];rfl)
    | (rw [tbb (.inr (.inr (.inl qb))),h81,h86];simp only [Al_Bool_true_and,Al_Bool_false_and,Al_Bool_and_true,Bool.and_false])
    | (rw [tbb (.inr (.inr (.inl qb))),h81,h86];rfl)
    | (rw [tbb (.inr (.inr (.inl qb))),h81];simp only [Al_Bool_true_and,Al_Bool_false_and,Al_Bool_and_true,Bool.and_false])
    | (rw [tbb (.inr (.inr (.inl qb))),h81];rfl)
    | (rw [tbb (.inr (.inr (.inr (.inl qb)))),h81,h86];simp only [Al_Bool_true_and,Al_Bool_false_and,Al_Bool_and_true,Bool.and_false])
    | (rw [tbb (.inr (.inr (.inr (.inl qb)))),h81,h86];rfl)
    | (rw [tbb (.inr (.inr (.inr (.inl qb)))),h81];simp only [Al_Bool_true_and,Al_Bool_false_and,Al_Bool_and_true,Bool.and_false])
    | (rw [tbb (.inr (.inr (.inr (.inl qb)))),h81];rfl)
    | (rw [tbb (.inr (.inr (.inr (.inr qb)))),h81,h86];simp only [Al_Bool_true_and,Al_Bool_false_and,Al_Bool_and_true,Bool.and_false])
    | (rw [tbb (.inr (.inr (.inr (.inr qb)))),h81,h86];rfl)
    | (rw [tbb (.inr (.inr (.inr (.inr qb)))),h81];simp only [Al_Bool_true_and,Al_Bool_false_and,Al_Bool_and_true,Bool.and_false])
    | (rw [tbb (.inr (.inr (.inr (.inr qb)))),h81];rfl)
    | (rw [tbn q1 q4 q585 q588 q6 q9 qb11 qb12 qb13 qb14 qb15])
  refine .gG<|.gG<|.gG<|.gG<|.yw (.pickF Z Z)<|.az Z<|.bR<|.tR<|?_
  refine y9 Z Z λW s=>⟨?_,s.ext⟩
  first
   | (rw [tb1 q1,h10,h15];simp only [Al_Bool_true_and,Al_Bool_false_and,Al_Bool_and_true,Bool.and_false])
   | (rw [tb1 q1,h10,h15];rfl)
   | (rw [tb1 q1,h10];simp only [Al_Bool_true_and,Al_Bool_false_and,Al_Bool_and_true,Bool.and_false])
   | (rw [tb1 q1,h10];rfl)
   | (rw [tb4 q4,h26,h31];simp only [Al_Bool_true_and,Al_Bool_false_and,Al_Bool_and_true,Bool.and_false])
   | (rw [tb4 q4,h26,h31];rfl)
   | (rw [tb4 q4,h26];simp only [Al_Bool_true_and,Al_Bool_false_and,Al_Bool_and_true,Bool.and_false])
   | (rw [tb4 q4,h26];rfl)
   | (rw [tb5 (.inl q58),h43];simp only [Al_Bool_true_and,Al_Bool_false_and,Al_Bool_and_true,Bool.and_false])
   | (rw [tb5 (.inl q58),h43];rfl)
   | (rw [tb5 (.inr q58),h43];simp only [Al_Bool_true_and,Al_Bool_false_and,Al_Bool_and_true,Bool.and_false])
   | (rw [tb5 (.inr q58),h43];rfl)
   | (rw [tb6 q6,h54];simp only [Al_Bool_true_and,Al_Bool_false_and,Al_Bool_and_true,Bool.and_false])
   | (rw [tb6 q6,h54];rfl)
   | (rw [tb9 q9,h63,h68];simp only [Al_Bool_true_and,Al_Bool_false_and,Al_Bool_and_true,Bool.and_false])
   | (rw [tb9 q9,h63,h68];rfl)
   | (rw [tb9 q9,h63];simp only [Al_Bool_true_and,Al_Bool_false_and,Al_Bool_and_true,Bool.and_false])
   | (rw [tb9 q9,h63];rfl)
   | (rw [tbb (.inl qb),h81,h86];simp only [Al_Bool_true_and,Al_Bool_false_and,Al_Bool_and_true,Bool.and_false])
   | (rw [tbb (.inl qb),h81,h86];rfl)
   | (rw [tbb (.inl qb),h81];simp only [Al_Bool_true_and,Al_Bool_false_and,Al_Bool_and_true,Bool.and_false])
   | (rw [tbb (.inl qb),h81];rfl)
   | (rw [tbb (.inr (.inl qb)),h81,h86];simp only [Al_Bool_true_and,Al_Bool_false_and,Al_Bool_and_true,Bool.and_false])
   | (rw [tbb (.inr (.inl qb)),h81,h86];rfl)
   | (rw [tbb (.inr (.inl qb)),h81];simp only [Al_Bool_true_and,Al_Bool_false_and,Al_Bool_and_true,Bool.and_false])
   | (rw [tbb (.inr (.inl qb)),h81];rfl)
   | (rw [tbb (.inr (.inr (.inl qb))),h81,h86];simp only [Al_Bool_true_and,Al_Bool_false_and,Al_Bool_and_true,Bool.and_false])
   | (rw [tbb (.inr (.inr (.inl qb))),h81,h86];rfl)
   | (rw [tbb (.inr (.inr (.inl qb))),h81];simp only [Al_Bool_true_and,Al_Bool_false_and,Al_Bool_and_true,Bool.and_false])
   | (rw [tbb (.inr (.inr (.inl qb))),h81];rfl)
   | (rw [tbb (.inr (.inr (.inr (.inl qb)))),h81,h86];simp only [Al_Bool_true_and,Al_Bool_false_and,Al_Bool_and_true,Bool.and_false])
   | (rw [tbb (.inr (.inr (.inr (.inl qb)))),h81,h86];rfl)
   | (rw [tbb (.inr (.inr (.inr (.inl qb)))),h81];simp only [Al_Bool_true_and,Al_Bool_false_and,Al_Bool_and_true,Bool.and_false])
   | (rw [tbb (.inr (.inr (.inr (.inl qb)))),h81];rfl)
   | (rw [tbb (.inr (.inr (.inr (.inr qb)))),h81,h86];simp only [Al_Bool_true_and,Al_Bool_false_and,Al_Bool_and_true,Bool.and_false])
   | (rw [tbb (.inr (.inr (.inr (.inr qb)))),h81,h86];rfl)
   | (rw [tbb (.inr (.inr (.inr (.inr qb)))),h81];simp only [Al_Bool_true_and,Al_Bool_false_and,Al_Bool_and_true,Bool.and_false])
   | (rw [tbb (.inr (.inr (.inr (.inr qb)))),h81];rfl)
   | (rw [tbn q1 q4 q585 q588 q6 q9 qb11 qb12 qb13 qb14 qb15])
 have q588:¬ op=8:=λe=>Al_of_decide_eq_false h37 (by rw [e];rfl);refine .sr<|.yw (.eql Z Z)<|.aq Z<|.cd Z (λh49=>?_) (λh49=>?_)
 ·have q6:op=6:=Al_UInt8_toNat_inj.1 (by have:=Al_of_decide_eq_true h49;show op.toNat=6;omega);refine .sr<|.fA Z Fx.field76_2<|.lD Z Fx.agg2 Hm Z<|.yw (.cast (.eql Z Z) (congrArg Value.bool i0))<|.mv Z<|.b2 (λh54=>?_) (λh54=>?_)
  ·refine .gy (.loadW Z Fx.agg76 Hm Z)<|.gy (.call Fx.call132 Z (λW s=>operands_any H op nm nn args 1 _ W h (λa ha=>ih a ha) s.agr))<|.yw (.pickT Z Z)<|.az Z<|.bR<|.tR<|?_
   refine y9 Z Z λW s=>⟨?_,s.ext⟩
   first
    | (rw [tb1 q1,h10,h15];simp only [Al_Bool_true_and,Al_Bool_false_and,Al_Bool_and_true,Bool.and_false])
    | (rw [tb1 q1,h10,h15];rfl)
    | (rw [tb1 q1,h10];simp only [Al_Bool_true_and,Al_Bool_false_and,Al_Bool_and_true,Bool.and_false])
    | (rw [tb1 q1,h10];rfl)
    | (rw [tb4 q4,h26,h31];simp only [Al_Bool_true_and,Al_Bool_false_and,Al_Bool_and_true,Bool.and_false])
    | (rw [tb4 q4,h26,h31];rfl)
    | (rw [tb4 q4,h26];simp only [Al_Bool_true_and,Al_Bool_false_and,Al_Bool_and_true,Bool.and_false])
    | (rw [tb4 q4,h26];rfl)
    | (rw [tb5 (.inl q58),h43];simp only [Al_Bool_true_and,Al_Bool_false_and,Al_Bool_and_true,Bool.and_false])
    | (rw [tb5 (.inl q58),h43];rfl)
    | (rw [tb5 (.inr q58),h43];simp only [Al_Bool_true_and,Al_Bool_false_and,Al_Bool_and_true,Bool.and_false])
    | (rw [tb5 (.inr q58),h43];rfl)
    | (rw [tb6 q6,h54];simp only [Al_Bool_true_and,Al_Bool_false_and,Al_Bool_and_true,Bool.and_false])
    | (rw [tb6 q6,h54];rfl)
    | (rw [tb9 q9,h63,h68];simp only [Al_Bool_true_and,Al_Bool_false_and,Al_Bool_and_true,Bool.and_false])
    | (rw [tb9 q9,h63,h68];rfl)
    | (rw [tb9 q9,h63];simp only [Al_Bool_true_and,Al_Bool_false_and,Al_Bool_and_true,Bool.and_false])
    | (rw [tb9 q9,h63];rfl)
    | (rw [tbb (.inl qb),h81,h86];simp only [Al_Bool_true_and,Al_Bool_false_and,Al_Bool_and_true,Bool.and_false])
    | (rw [tbb (.inl qb),h81,h86];rfl)
    | (rw [tbb (.inl qb),h81];simp only [Al_Bool_true_and,Al_Bool_false_and,Al_Bool_and_true,Bool.and_false])
    | (rw [tbb (.inl qb),h81];rfl)
    | (rw [tbb (.inr (.inl qb)),h81,h86];simp only [Al_Bool_true_and,Al_Bool_false_and,Al_Bool_and_true,Bool.and_false])
    | (rw [tbb (.inr (.inl qb)),h81,h86];rfl)
    | (rw [tbb (.inr (.inl qb)),h81];simp only [Al_Bool_true_and,Al_Bool_false_and,Al_Bool_and_true,Bool.and_false])
    | (rw [tbb (.inr (.inl qb)),h81];rfl)
    | (rw [tbb (.inr (.inr (.inl qb))),h81,h86];simp only [Al_Bool_true_and,Al_Bool_false_and,Al_Bool_and_true,Bool.and_false])
    | (rw [tbb (.inr (.inr (.inl qb))),h81,h86];rfl)
    | (rw [tbb (.inr (.inr (.inl qb))),h81];simp only [Al_Bool_true_and,Al_Bool_false_and,Al_Bool_and_true,Bool.and_false])
    | (rw [tbb (.inr (.inr (.inl qb))),h81];rfl)
    | (rw [tbb (.inr (.inr (.inr (.inl qb)))),h81,h86];simp only [Al_Bool_true_and,Al_Bool_false_and,Al_Bool_and_true,Bool.and_false])
    | (rw [tbb (.inr (.inr (.inr (.inl qb)))),h81,h86];rfl)
    | (rw [tbb (.inr (.inr (.inr (.inl qb)))),h81];simp only [Al_Bool_true_and,Al_Bool_false_and,Al_Bool_and_true,Bool.and_false])
    | (rw [tbb (.inr (.inr (.inr (.inl qb)))),h81];rfl)
    | (rw [tbb (.inr (.inr (.inr (.inr qb)))),h81,h86];simp only [Al_Bool_true_and,Al_Bool_false_and,Al_Bool_and_true,Bool.and_false])
    | (rw [tbb (.inr (.inr (.inr (.inr qb)))),h81,h86];rfl)
    | (rw [tbb (.inr (.inr (.inr (.inr qb)))),h81];simp only [Al_Bool_true_and,Al_Bool_false_and,Al_Bool_and_true,Bool.and_false])
    | (rw [tbb (.inr (.inr (.inr (.inr qb)))),h81];rfl)
    | (rw [tbn q1 q4 q585 q588 q6 q9 qb11 qb12 qb13 qb14 qb15])
  refine .gG<|.gG<|.yw (.pickF Z Z)<|.az Z<|.bR<|.tR<|?_
  refine y9 Z Z λW s=>⟨?_,s.ext⟩
  first
   | (rw [tb1 q1,h10,h15];simp only [Al_Bool_true_and,Al_Bool_false_and,Al_Bool_and_true,Bool.and_false])
   | (rw [tb1 q1,h10,h15];rfl)
   | (rw [tb1 q1,h10];simp only [Al_Bool_true_and,Al_Bool_false_and,Al_Bool_and_true,Bool.and_false])
   | (rw [tb1 q1,h10];rfl)
   | (rw [tb4 q4,h26,h31];simp only [Al_Bool_true_and,Al_Bool_false_and,Al_Bool_and_true,Bool.and_false])
   | (rw [tb4 q4,h26,h31];rfl)
   | (rw [tb4 q4,h26];simp only [Al_Bool_true_and,Al_Bool_false_and,Al_Bool_and_true,Bool.and_false])
   | (rw [tb4 q4,h26];rfl)
   | (rw [tb5 (.inl q58),h43];simp only [Al_Bool_true_and,Al_Bool_false_and,Al_Bool_and_true,Bool.and_false])
   | (rw [tb5 (.inl q58),h43];rfl)
   | (rw [tb5 (.inr q58),h43];simp only [Al_Bool_true_and,Al_Bool_false_and,Al_Bool_and_true,Bool.and_false])
   | (rw [tb5 (.inr q58),h43];rfl)
   | (rw [tb6 q6,h54];simp only [Al_Bool_true_and,Al_Bool_false_and,Al_Bool_and_true,Bool.and_false])
   | (rw [tb6 q6,h54];rfl)
   | (rw [tb9 q9,h63,h68];simp only [Al_Bool_true_and,Al_Bool_false_and,Al_Bool_and_true,Bool.and_false])
   | (rw [tb9 q9,h63,h68];rfl)
   | (rw [tb9 q9,h63];simp only [Al_Bool_true_and,Al_Bool_false_and,Al_Bool_and_true,Bool.and_false])
   | (rw [tb9 q9,h63];rfl)
   | (rw [tbb (.inl qb),h81,h86];simp only [Al_Bool_true_and,Al_Bool_false_and,Al_Bool_and_true,Bool.and_false])
   | (rw [tbb (.inl qb),h81,h86];rfl)
   | (rw [tbb (.inl qb),h81];simp only [Al_Bool_true_and,Al_Bool_false_and,Al_Bool_and_true,Bool.and_false])
   | (rw [tbb (.inl qb),h81];rfl)
   | (rw [tbb (.inr (.inl qb)),h81,h86];simp only [Al_Bool_true_and,Al_Bool_false_and,Al_Bool_and_true,Bool.and_false])
   | (rw [tbb (.inr (.inl qb)),h81,h86];rfl)
   | (rw [tbb (.inr (.inl qb)),h81];simp only [Al_Bool_true_and,Al_Bool_false_and,Al_Bool_and_true,Bool.and_false])
   | (rw [tbb (.inr (.inl qb)),h81];rfl)
   | (rw [tbb (.inr (.inr (.inl qb))),h81,h86];simp only [Al_Bool_true_and,Al_Bool_false_and,Al_Bool_and_true,Bool.and_false])
   | (rw [tbb (.inr (.inr (.inl qb))),h81,h86];rfl)
   | (rw [tbb (.inr (.inr (.inl qb))),h81];simp only [Al_Bool_true_and,Al_Bool_false_and,Al_Bool_and_true,Bool.and_false])
   | (rw [tbb (.inr (.inr (.inl qb))),h81];rfl)
   | (rw [tbb (.inr (.inr (.inr (.inl qb)))),h81,h86];simp only [Al_Bool_true_and,Al_Bool_false_and,Al_Bool_and_true,Bool.and_false])
   | (rw [tbb (.inr (.inr (.inr (.inl qb)))),h81,h86];rfl)
   | (rw [tbb (.inr (.inr (.inr (.inl qb)))),h81];simp only [Al_Bool_true_and,Al_Bool_false_and,Al_Bool_and_true,Bool.and_false])
   | (rw [tbb (.inr (.inr (.inr (.inl qb)))),h81];rfl)
   | (rw [tbb (.inr (.inr (.inr (.inr qb)))),h81,h86];simp only [Al_Bool_true_and,Al_Bool_false_and,Al_Bool_and_true,Bool.and_false])
   | (rw [tbb (.inr (.inr (.inr (.inr qb)))),h81,h86];rfl)
   | (rw [tbb (.inr (.inr (.inr (.inr qb)))),h81];simp only [Al_Bool_true_and,Al_Bool_false_and,Al_Bool_and_true,Bool.and_false])
   | (rw [tbb (.inr (.inr (.inr (.inr qb)))),h81];rfl)
   | (rw [tbn q1 q4 q585 q588 q6 q9 qb11 qb12 qb13 qb14 qb15])
 have q6:¬ op=6:=λe=>Al_of_decide_eq_false h49 (by rw [e];rfl);refine .sr<|.yw (.eql Z Z)<|.aq Z<|.cd Z (λh58=>?_) (λh58=>?_)
 ·have q9:op=9:=Al_UInt8_toNat_inj.1 (by have:=Al_of_decide_eq_true h58;show op.toNat=9;omega);refine .sr<|.fA Z Fx.field76_1<|.lD Z Fx.agg9 Hm Z<|.yw (.eqS Z Z)<|.mv Z<|.b2 (λh63=>?_) (λh63=>?_)
  ·refine .gy (.fieldAddr Z Fx.field76_2)<|.gy (.load Z Fx.agg2 Hm Z)<|.gy (.cast (.eql Z Z) (congrArg Value.bool i0))<|.yw (.pickT Z Z)<|.mv Z<|.b2 (λh68=>?_) (λh68=>?_)
   ·refine .gy (.loadW Z Fx.agg76 Hm Z)<|.gy (.call Fx.call132 Z (λW s=>operands_any H op nm nn args 1 _ W h (λa ha=>ih a ha) s.agr))<|.yw (.pickT Z Z)<|.az Z<|.bR<|.tR<|?_
    refine y9 Z Z λW s=>⟨?_,s.ext⟩
    first
     | (rw [tb1 q1,h10,h15];simp only [Al_Bool_true_and,Al_Bool_false_and,Al_Bool_and_true,Bool.and_false])
     | (rw [tb1 q1,h10,h15];rfl)
     | (rw [tb1 q1,h10];simp only [Al_Bool_true_and,Al_Bool_false_and,Al_Bool_and_true,Bool.and_false])
     | (rw [tb1 q1,h10];rfl)
     | (rw [tb4 q4,h26,h31];simp only [Al_Bool_true_and,Al_Bool_false_and,Al_Bool_and_true,Bool.and_false])
     | (rw [tb4 q4,h26,h31];rfl)
     | (rw [tb4 q4,h26];simp only [Al_Bool_true_and,Al_Bool_false_and,Al_Bool_and_true,Bool.and_false])
     | (rw [tb4 q4,h26];rfl)
     | (rw [tb5 (.inl q58),h43];simp only [Al_Bool_true_and,Al_Bool_false_and,Al_Bool_and_true,Bool.and_false])
     | (rw [tb5 (.inl q58),h43];rfl)
     | (rw [tb5 (.inr q58),h43];simp only [Al_Bool_true_and,Al_Bool_false_and,Al_Bool_and_true,Bool.and_false])
     | (rw [tb5 (.inr q58),h43];rfl)
     | (rw [tb6 q6,h54];simp only [Al_Bool_true_and,Al_Bool_false_and,Al_Bool_and_true,Bool.and_false])
     | (rw [tb6 q6,h54];rfl)
     | (rw [tb9 q9,h63,h68];simp only [Al_Bool_true_and,Al_Bool_false_and,Al_Bool_and_true,Bool.and_false])
     | (rw [tb9 q9,h63,h68];rfl)
     | (rw [tb9 q9,h63];simp only [Al_Bool_true_and,Al_Bool_false_and,Al_Bool_and_true,Bool.and_false])
     | (rw [tb9 q9,h63];rfl)
     | (rw [tbb (.inl qb),h81,h86];simp only [Al_Bool_true_and,Al_Bool_false_and,Al_Bool_and_true,Bool.and_false])
     | (rw [tbb (.inl qb),h81,h86];rfl)
     | (rw [tbb (.inl qb),h81];simp only [Al_Bool_true_and,Al_Bool_false_and,Al_Bool_and_true,Bool.and_false])
     | (rw [tbb (.inl qb),h81];rfl)
     | (rw [tbb (.inr (.inl qb)),h81,h86];simp only [Al_Bool_true_and,Al_Bool_false_and,Al_Bool_and_true,Bool.and_false])
     | (rw [tbb (.inr (.inl qb)),h81,h86];rfl)
     | (rw [tbb (.inr (.inl qb)),h81];simp only [Al_Bool_true_and,Al_Bool_false_and,Al_Bool_and_true,Bool.and_false])
     | (rw [tbb (.inr (.inl qb)),h81];rfl)
     | (rw [tbb (.inr (.inr (.inl qb))),h81,h86];simp only [Al_Bool_true_and,Al_Bool_false_and,Al_Bool_and_true,Bool.and_false])
     | (rw [tbb (.inr (.inr (.inl qb))),h81,h86];rfl)
     | (rw [tbb (.inr (.inr (.inl qb))),h81];simp only [Al_Bool_true_and,Al_Bool_false_and,Al_Bool_and_true,Bool.and_false])
     | (rw [tbb (.inr (.inr (.inl qb))),h81];rfl)
     | (rw [tbb (.inr (.inr (.inr (.inl qb)))),h81,h86];simp only [Al_Bool_true_and,Al_Bool_false_and,Al_Bool_and_true,Bool.and_false])
     | (rw [tbb (.inr (.inr (.inr (.inl qb)))),h81,h86];rfl)
     | (rw [tbb (.inr (.inr (.inr (.inl qb)))),h81];simp only [Al_Bool_true_and,Al_Bool_false_and,Al_Bool_and_true,Bool.and_false])
     | (rw [tbb (.inr (.inr (.inr (.inl qb)))),h81];rfl)
     | (rw [tbb (.inr (.inr (.inr (.inr qb)))),h81,h86];simp only [Al_Bool_true_and,Al_Bool_false_and,Al_Bool_and_true,Bool.and_false])
     | (rw [tbb (.inr (.inr (.inr (.inr qb)))),h81,h86];rfl)
     | (rw [tbb (.inr (.inr (.inr (.inr qb)))),h81];simp only [Al_Bool_true_and,Al_Bool_false_and,Al_Bool_and_true,Bool.and_false])
     | (rw [tbb (.inr (.inr (.inr (.inr qb)))),h81];rfl)
     | (rw [tbn q1 q4 q585 q588 q6 q9 qb11 qb12 qb13 qb14 qb15])
   refine .gG<|.gG<|.yw (.pickF Z Z)<|.az Z<|.bR<|.tR<|?_
   refine y9 Z Z λW s=>⟨?_,s.ext⟩
   first
    | (rw [tb1 q1,h10,h15];simp only [Al_Bool_true_and,Al_Bool_false_and,Al_Bool_and_true,Bool.and_false])
    | (rw [tb1 q1,h10,h15];rfl)
    | (rw [tb1 q1,h10];simp only [Al_Bool_true_and,Al_Bool_false_and,Al_Bool_and_true,Bool.and_false])
    | (rw [tb1 q1,h10];rfl)
    | (rw [tb4 q4,h26,h31];simp only [Al_Bool_true_and,Al_Bool_false_and,Al_Bool_and_true,Bool.and_false])
    | (rw [tb4 q4,h26,h31];rfl)
    | (rw [tb4 q4,h26];simp only [Al_Bool_true_and,Al_Bool_false_and,Al_Bool_and_true,Bool.and_false])
    | (rw [tb4 q4,h26];rfl)
    | (rw [tb5 (.inl q58),h43];simp only [Al_Bool_true_and,Al_Bool_false_and,Al_Bool_and_true,Bool.and_false])
    | (rw [tb5 (.inl q58),h43];rfl)
    | (rw [tb5 (.inr q58),h43];simp only [Al_Bool_true_and,Al_Bool_false_and,Al_Bool_and_true,Bool.and_false])
    | (rw [tb5 (.inr q58),h43];rfl)
    | (rw [tb6 q6,h54];simp only [Al_Bool_true_and,Al_Bool_false_and,Al_Bool_and_true,Bool.and_false])
    | (rw [tb6 q6,h54];rfl)
    | (rw [tb9 q9,h63,h68];simp only [Al_Bool_true_and,Al_Bool_false_and,Al_Bool_and_true,Bool.and_false])
    | (rw [tb9 q9,h63,h68];rfl)
    | (rw [tb9 q9,h63];simp only [Al_Bool_true_and,Al_Bool_false_and,Al_Bool_and_true,Bool.and_false])
    | (rw [tb9 q9,h63];rfl)
    | (rw [tbb (.inl qb),h81,h86];simp only [Al_Bool_true_and,Al_Bool_false_and,Al_Bool_and_true,Bool.and_false])
    | (rw [tbb (.inl qb),h81,h86];rfl)
    | (rw [tbb (.inl qb),h81];simp only [Al_Bool_true_and,Al_Bool_false_and,Al_Bool_and_true,Bool.and_false])
    | (rw [tbb (.inl qb),h81];rfl)
    | (rw [tbb (.inr (.inl qb)),h81,h86];simp only [Al_Bool_true_and,Al_Bool_false_and,Al_Bool_and_true,Bool.and_false])
    | (rw [tbb (.inr (.inl qb)),h81,h86];rfl)
    | (rw [tbb (.inr (.inl qb)),h81];simp only [Al_Bool_true_and,Al_Bool_false_and,Al_Bool_and_true,Bool.and_false])
    | (rw [tbb (.inr (.inl qb)),h81];rfl)
    | (rw [tbb (.inr (.inr (.inl qb))),h81,h86];simp only [Al_Bool_true_and,Al_Bool_false_and,Al_Bool_and_true,Bool.and_false])
    | (rw [tbb (.inr (.inr (.inl qb))),h81,h86];rfl)
    | (rw [tbb (.inr (.inr (.inl qb))),h81];simp only [Al_Bool_true_and,Al_Bool_false_and,Al_Bool_and_true,Bool.and_false])
    | (rw [tbb (.inr (.inr (.inl qb))),h81];rfl)
    | (rw [tbb (.inr (.inr (.inr (.inl qb)))),h81,h86];simp only [Al_Bool_true_and,Al_Bool_false_and,Al_Bool_and_true,Bool.and_false])
    | (rw [tbb (.inr (.inr (.inr (.inl qb)))),h81,h86];rfl)
    | (rw [tbb (.inr (.inr (.inr (.inl qb)))),h81];simp only [Al_Bool_true_and,Al_Bool_false_and,Al_Bool_and_true,Bool.and_false])
    | (rw [tbb (.inr (.inr (.inr (.inl qb)))),h81];rfl)
    | (rw [tbb (.inr (.inr (.inr (.inr qb)))),h81,h86];simp only [Al_Bool_true_and,Al_Bool_false_and,Al_Bool_and_true,Bool.and_false])
    | (rw [tbb (.inr (.inr (.inr (.inr qb)))),h81,h86];rfl)
    | (rw [tbb (.inr (.inr (.inr (.inr qb)))),h81];simp only [Al_Bool_true_and,Al_Bool_false_and,Al_Bool_and_true,Bool.and_false])
    | (rw [tbb (.inr (.inr (.inr (.inr qb)))),h81];rfl)
    | (rw [tbn q1 q4 q585 q588 q6 q9 qb11 qb12 qb13 qb14 qb15])
  refine .gG<|.gG<|.gG<|.yw (.pickF Z Z)<|.mv Z<|.gG<|.gG<|.yw (.pickF Z Z)<|.az Z<|.bR<|.tR<|?_
  refine y9 Z Z λW s=>⟨?_,s.ext⟩
  first
   | (rw [tb1 q1,h10,h15];simp only [Al_Bool_true_and,Al_Bool_false_and,Al_Bool_and_true,Bool.and_false])
   | (rw [tb1 q1,h10,h15];rfl)
   | (rw [tb1 q1,h10];simp only [Al_Bool_true_and,Al_Bool_false_and,Al_Bool_and_true,Bool.and_false])
   | (rw [tb1 q1,h10];rfl)
   | (rw [tb4 q4,h26,h31];simp only [Al_Bool_true_and,Al_Bool_false_and,Al_Bool_and_true,Bool.and_false])
   | (rw [tb4 q4,h26,h31];rfl)
   | (rw [tb4 q4,h26];simp only [Al_Bool_true_and,Al_Bool_false_and,Al_Bool_and_true,Bool.and_false])
   | (rw [tb4 q4,h26];rfl)
   | (rw [tb5 (.inl q58),h43];simp only [Al_Bool_true_and,Al_Bool_false_and,Al_Bool_and_true,Bool.and_false])
   | (rw [tb5 (.inl q58),h43];rfl)
   | (rw [tb5 (.inr q58),h43];simp only [Al_Bool_true_and,Al_Bool_false_and,Al_Bool_and_true,Bool.and_false])
   | (rw [tb5 (.inr q58),h43];rfl)
   | (rw [tb6 q6,h54];simp only [Al_Bool_true_and,Al_Bool_false_and,Al_Bool_and_true,Bool.and_false])
   | (rw [tb6 q6,h54];rfl)
   | (rw [tb9 q9,h63,h68];simp only [Al_Bool_true_and,Al_Bool_false_and,Al_Bool_and_true,Bool.and_false])
   | (rw [tb9 q9,h63,h68];rfl)
   | (rw [tb9 q9,h63];simp only [Al_Bool_true_and,Al_Bool_false_and,Al_Bool_and_true,Bool.and_false])
   | (rw [tb9 q9,h63];rfl)
   | (rw [tbb (.inl qb),h81,h86];simp only [Al_Bool_true_and,Al_Bool_false_and,Al_Bool_and_true,Bool.and_false])
   | (rw [tbb (.inl qb),h81,h86];rfl)
   | (rw [tbb (.inl qb),h81];simp only [Al_Bool_true_and,Al_Bool_false_and,Al_Bool_and_true,Bool.and_false])
   | (rw [tbb (.inl qb),h81];rfl)
   | (rw [tbb (.inr (.inl qb)),h81,h86];simp only [Al_Bool_true_and,Al_Bool_false_and,Al_Bool_and_true,Bool.and_false])
   | (rw [tbb (.inr (.inl qb)),h81,h86];rfl)
   | (rw [tbb (.inr (.inl qb)),h81];simp only [Al_Bool_true_and,Al_Bool_false_and,Al_Bool_and_true,Bool.and_false])
   | (rw [tbb (.inr (.inl qb)),h81];rfl)
   | (rw [tbb (.inr (.inr (.inl qb))),h81,h86];simp only [Al_Bool_true_and,Al_Bool_false_and,Al_Bool_and_true,Bool.and_false])
   | (rw [tbb (.inr (.inr (.inl qb))),h81,h86];rfl)
   | (rw [tbb (.inr (.inr (.inl qb))),h81];simp only [Al_Bool_true_and,Al_Bool_false_and,Al_Bool_and_true,Bool.and_false])
   | (rw [tbb (.inr (.inr (.inl qb))),h81];rfl)
   | (rw [tbb (.inr (.inr (.inr (.inl qb)))),h81,h86];simp only [Al_Bool_true_and,Al_Bool_false_and,Al_Bool_and_true,Bool.and_false])
   | (rw [tbb (.inr (.inr (.inr (.inl qb)))),h81,h86];rfl)
   | (rw [tbb (.inr (.inr (.inr (.inl qb)))),h81];simp only [Al_Bool_true_and,Al_Bool_false_and,Al_Bool_and_true,Bool.and_false])
   | (rw [tbb (.inr (.inr (.inr (.inl qb)))),h81];rfl)
   | (rw [tbb (.inr (.inr (.inr (.inr qb)))),h81,h86];simp only [Al_Bool_true_and,Al_Bool_false_and,Al_Bool_and_true,Bool.and_false])
   | (rw [tbb (.inr (.inr (.inr (.inr qb)))),h81,h86];rfl)
   | (rw [tbb (.inr (.inr (.inr (.inr qb)))),h81];simp only [Al_Bool_true_and,Al_Bool_false_and,Al_Bool_and_true,Bool.and_false])
   | (rw [tbb (.inr (.inr (.inr (.inr qb)))),h81];rfl)
   | (rw [tbn q1 q4 q585 q588 q6 q9 qb11 qb12 qb13 qb14 qb15])
 have q9:¬ op=9:=λe=>Al_of_decide_eq_false h58 (by rw [e];rfl);refine .sq<|.sr<|.yw (.eql Z Z)<|.aq Z<|.cr Z (λh72=>?_) (λh72=>?_)
 ·have qb:op=11:=Al_UInt8_toNat_inj.1 (by have:=Al_of_decide_eq_true h72;show op.toNat=11;omega);refine .sk<|.tN<|.cT Z<|.sr<|.fA Z Fx.field76_1<|.lD Z Fx.agg9 Hm Z<|.yw (.eqS Z Z)<|.mv Z<|.b2 (λh81=>?_) (λh81=>?_)
  ·refine .gy (.fieldAddr Z Fx.field76_2)<|.gy (.load Z Fx.agg2 Hm Z)<|.gy (.cast (.eql Z Z) (congrArg Value.bool i0))<|.yw (.pickT Z Z)<|.mv Z<|.b2 (λh86=>?_) (λh86=>?_)
   ·refine .gy (.loadW Z Fx.agg76 Hm Z)<|.gy (.call Fx.call132 Z (λW s=>operands_any H op nm nn args 2 _ W h (λa ha=>ih a ha) s.agr))<|.yw (.pickT Z Z)<|.az Z<|.bR<|.tR<|?_
    refine y9 Z Z λW s=>⟨?_,s.ext⟩
    first
     | (rw [tb1 q1,h10,h15];simp only [Al_Bool_true_and,Al_Bool_false_and,Al_Bool_and_true,Bool.and_false])
     | (rw [tb1 q1,h10,h15];rfl)
     | (rw [tb1 q1,h10];simp only [Al_Bool_true_and,Al_Bool_false_and,Al_Bool_and_true,Bool.and_false])
     | (rw [tb1 q1,h10];rfl)
     | (rw [tb4 q4,h26,h31];simp only [Al_Bool_true_and,Al_Bool_false_and,Al_Bool_and_true,Bool.and_false])
     | (rw [tb4 q4,h26,h31];rfl)
     | (rw [tb4 q4,h26];simp only [Al_Bool_true_and,Al_Bool_false_and,Al_Bool_and_true,Bool.and_false])
     | (rw [tb4 q4,h26];rfl)
     | (rw [tb5 (.inl q58),h43];simp only [Al_Bool_true_and,Al_Bool_false_and,Al_Bool_and_true,Bool.and_false])
     | (rw [tb5 (.inl q58),h43];rfl)
     | (rw [tb5 (.inr q58),h43];simp only [Al_Bool_true_and,Al_Bool_false_and,Al_Bool_and_true,Bool.and_false])
     | (rw [tb5 (.inr q58),h43];rfl)
     | (rw [tb6 q6,h54];simp only [Al_Bool_true_and,Al_Bool_false_and,Al_Bool_and_true,Bool.and_false])
     | (rw [tb6 q6,h54];rfl)
     | (rw [tb9 q9,h63,h68];simp only [Al_Bool_true_and,Al_Bool_false_and,Al_Bool_and_true,Bool.and_false])
     | (rw [tb9 q9,h63,h68];rfl)
     | (rw [tb9 q9,h63];simp only [Al_Bool_true_and,Al_Bool_false_and,Al_Bool_and_true,Bool.and_false])
     | (rw [tb9 q9,h63];rfl)
     | (rw [tbb (.inl qb),h81,h86];simp only [Al_Bool_true_and,Al_Bool_false_and,Al_Bool_and_true,Bool.and_false])
     | (rw [tbb (.inl qb),h81,h86];rfl)
     | (rw [tbb (.inl qb),h81];simp only [Al_Bool_true_and,Al_Bool_false_and,Al_Bool_and_true,Bool.and_false])
     | (rw [tbb (.inl qb),h81];rfl)
     | (rw [tbb (.inr (.inl qb)),h81,h86];simp only [Al_Bool_true_and,Al_Bool_false_and,Al_Bool_and_true,Bool.and_false])
     | (rw [tbb (.inr (.inl qb)),h81,h86];rfl)
     | (rw [tbb (.inr (.inl qb)),h81];simp only [Al_Bool_true_and,Al_Bool_false_and,Al_Bool_and_true,Bool.and_false])
     | (rw [tbb (.inr (.inl qb)),h81];rfl)
     | (rw [tbb (.inr (.inr (.inl qb))),h81,h86];simp only [Al_Bool_true_and,Al_Bool_false_and,Al_Bool_and_true,Bool.and_false])
     | (rw [tbb (.inr (.inr (.inl qb))),h81,h86];rfl)
     | (rw [tbb (.inr (.inr (.inl qb))),h81];simp only [Al_Bool_true_and,Al_Bool_false_and,Al_Bool_and_true,Bool.and_false])
     | (rw [tbb (.inr (.inr (.inl qb))),h81];rfl)
     | (rw [tbb (.inr (.inr (.inr (.inl qb)))),h81,h86];simp only [Al_Bool_true_and,Al_Bool_false_and,Al_Bool_and_true,Bool.and_false])
     | (rw [tbb (.inr (.inr (.inr (.inl qb)))),h81,h86];rfl)
     | (rw [tbb (.inr (.inr (.inr (.inl qb)))),h81];simp only [Al_Bool_true_and,Al_Bool_false_and,Al_Bool_and_true,Bool.and_false])
     | (rw [tbb (.inr (.inr (.inr (.inl qb)))),h81];rfl)
     | (rw [tbb (.inr (.inr (.inr (.inr qb)))),h81,h86];simp only [Al_Bool_true_and,Al_Bool_false_and,Al_Bool_and_true,Bool.and_false])
     | (rw [tbb (.inr (.inr (.inr (.inr qb)))),h81,h86];rfl)
     | (rw [tbb (.inr (.inr (.inr (.inr qb)))),h81];simp only [Al_Bool_true_and,Al_Bool_false_and,Al_Bool_and_true,Bool.and_false])
     | (rw [tbb (.inr (.inr (.inr (.inr qb)))),h81];rfl)
     | (rw [tbn q1 q4 q585 q588 q6 q9 qb11 qb12 qb13 qb14 qb15])
   refine .gG<|.gG<|.yw (.pickF Z Z)<|.az Z<|.bR<|.tR<|?_
   refine y9 Z Z λW s=>⟨?_,s.ext⟩
   first
    | (rw [tb1 q1,h10,h15];simp only [Al_Bool_true_and,Al_Bool_false_and,Al_Bool_and_true,Bool.and_false])
    | (rw [tb1 q1,h10,h15];rfl)
    | (rw [tb1 q1,h10];simp only [Al_Bool_true_and,Al_Bool_false_and,Al_Bool_and_true,Bool.and_false])
    | (rw [tb1 q1,h10];rfl)
    | (rw [tb4 q4,h26,h31];simp only [Al_Bool_true_and,Al_Bool_false_and,Al_Bool_and_true,Bool.and_false])
    | (rw [tb4 q4,h26,h31];rfl)
    | (rw [tb4 q4,h26];simp only [Al_Bool_true_and,Al_Bool_false_and,Al_Bool_and_true,Bool.and_false])
    | (rw [tb4 q4,h26];rfl)
    | (rw [tb5 (.inl q58),h43];simp only [Al_Bool_true_and,Al_Bool_false_and,Al_Bool_and_true,Bool.and_false])
    | (rw [tb5 (.inl q58),h43];rfl)
    | (rw [tb5 (.inr q58),h43];simp only [Al_Bool_true_and,Al_Bool_false_and,Al_Bool_and_true,Bool.and_false])
    | (rw [tb5 (.inr q58),h43];rfl)
    | (rw [tb6 q6,h54];simp only [Al_Bool_true_and,Al_Bool_false_and,Al_Bool_and_true,Bool.and_false])
    | (rw [tb6 q6,h54];rfl)
    | (rw [tb9 q9,h63,h68];simp only [Al_Bool_true_and,Al_Bool_false_and,Al_Bool_and_true,Bool.and_false])
    | (rw [tb9 q9,h63,h68];rfl)
    | (rw [tb9 q9,h63];simp only [Al_Bool_true_and,Al_Bool_false_and,Al_Bool_and_true,Bool.and_false])
    | (rw [tb9 q9,h63];rfl)
    | (rw [tbb (.inl qb),h81,h86];simp only [Al_Bool_true_and,Al_Bool_false_and,Al_Bool_and_true,Bool.and_false])
    | (rw [tbb (.inl qb),h81,h86];rfl)
    | (rw [tbb (.inl qb),h81];simp only [Al_Bool_true_and,Al_Bool_false_and,Al_Bool_and_true,Bool.and_false])
    | (rw [tbb (.inl qb),h81];rfl)
    | (rw [tbb (.inr (.inl qb)),h81,h86];simp only [Al_Bool_true_and,Al_Bool_false_and,Al_Bool_and_true,Bool.and_false])
    | (rw [tbb (.inr (.inl qb)),h81,h86];rfl)
    | (rw [tbb (.inr (.inl qb)),h81];simp only [Al_Bool_true_and,Al_Bool_false_and,Al_Bool_and_true,Bool.and_false])
    | (rw [tbb (.inr (.inl qb)),h81];rfl)
    | (rw [tbb (.inr (.inr (.inl qb))),h81,h86];simp only [Al_Bool_true_and,Al_Bool_false_and,Al_Bool_and_true,Bool.and_false])
    | (rw [tbb (.inr (.inr (.inl qb))),h81,h86];rfl)
    | (rw [tbb (.inr (.inr (.inl qb))),h81];simp only [Al_Bool_true_and,Al_Bool_false_and,Al_Bool_and_true,Bool.and_false])
    | (rw [tbb (.inr (.inr (.inl qb))),h81];rfl)
    | (rw [tbb (.inr (.inr (.inr (.inl qb)))),h81,h86];simp only [Al_Bool_true_and,Al_Bool_false_and,Al_Bool_and_true,Bool.and_false])
    | (rw [tbb (.inr (.inr (.inr (.inl qb)))),h81,h86];rfl)
    | (rw [tbb (.inr (.inr (.inr (.inl qb)))),h81];simp only [Al_Bool_true_and,Al_Bool_false_and,Al_Bool_and_true,Bool.and_false])
    | (rw [tbb (.inr (.inr (.inr (.inl qb)))),h81];rfl)
    | (rw [tbb (.inr (.inr (.inr (.inr qb)))),h81,h86];simp only [Al_Bool_true_and,Al_Bool_false_and,Al_Bool_and_true,Bool.and_false])
    | (rw [tbb (.inr (.inr (.inr (.inr qb)))),h81,h86];rfl)
    | (rw [tbb (.inr (.inr (.inr (.inr qb)))),h81];simp only [Al_Bool_true_and,Al_Bool_false_and,Al_Bool_and_true,Bool.and_false])
    | (rw [tbb (.inr (.inr (.inr (.inr qb)))),h81];rfl)
    | (rw [tbn q1 q4 q585 q588 q6 q9 qb11 qb12 qb13 qb14 qb15])
  refine .gG<|.gG<|.gG<|.yw (.pickF Z Z)<|.mv Z<|.gG<|.gG<|.yw (.pickF Z Z)<|.az Z<|.bR<|.tR<|?_
  refine y9 Z Z λW s=>⟨?_,s.ext⟩
  first
   | (rw [tb1 q1,h10,h15];simp only [Al_Bool_true_and,Al_Bool_false_and,Al_Bool_and_true,Bool.and_false])
   | (rw [tb1 q1,h10,h15];rfl)
   | (rw [tb1 q1,h10];simp only [Al_Bool_true_and,Al_Bool_false_and,Al_Bool_and_true,Bool.and_false])
   | (rw [tb1 q1,h10];rfl)
   | (rw [tb4 q4,h26,h31];simp only [Al_Bool_true_and,Al_Bool_false_and,Al_Bool_and_true,Bool.and_false])
   | (rw [tb4 q4,h26,h31];rfl)
   | (rw [tb4 q4,h26];simp only [Al_Bool_true_and,Al_Bool_false_and,Al_Bool_and_true,Bool.and_false])
   | (rw [tb4 q4,h26];rfl)
   | (rw [tb5 (.inl q58),h43];simp only [Al_Bool_true_and,Al_Bool_false_and,Al_Bool_and_true,Bool.and_false])
   | (rw [tb5 (.inl q58),h43];rfl)
   | (rw [tb5 (.inr q58),h43];simp only [Al_Bool_true_and,Al_Bool_false_and,Al_Bool_and_true,Bool.and_false])
   | (rw [tb5 (.inr q58),h43];rfl)
   | (rw [tb6 q6,h54];simp only [Al_Bool_true_and,Al_Bool_false_and,Al_Bool_and_true,Bool.and_false])
   | (rw [tb6 q6,h54];rfl)
   | (rw [tb9 q9,h63,h68];simp only [Al_Bool_true_and,Al_Bool_false_and,Al_Bool_and_true,Bool.and_false])
   | (rw [tb9 q9,h63,h68];rfl)
   | (rw [tb9 q9,h63];simp only [Al_Bool_true_and,Al_Bool_false_and,Al_Bool_and_true,Bool.and_false])
   | (rw [tb9 q9,h63];rfl)
   | (rw [tbb (.inl qb),h81,h86];simp only [Al_Bool_true_and,Al_Bool_false_and,Al_Bool_and_true,Bool.and_false])
   | (rw [tbb (.inl qb),h81,h86];rfl)
   | (rw [tbb (.inl qb),h81];simp only [Al_Bool_true_and,Al_Bool_false_and,Al_Bool_and_true,Bool.and_false])
   | (rw [tbb (.inl qb),h81];rfl)
   | (rw [tbb (.inr (.inl qb)),h81,h86];simp only [Al_Bool_true_and,Al_Bool_false_and,Al_Bool_and_true,Bool.and_false])
   | (rw [tbb (.inr (.inl qb)),h81,h86];rfl)
   | (rw [tbb (.inr (.inl qb)),h81];simp only [Al_Bool_true_and,Al_Bool_false_and,Al_Bool_and_true,Bool.and_false])
   | (rw [tbb (.inr (.inl qb)),h81];rfl)
   | (rw [tbb (.inr (.inr (.inl qb))),h81,h86];simp only [Al_Bool_true_and,Al_Bool_false_and,Al_Bool_and_true,Bool.and_false])
   | (rw [tbb (.inr (.inr (.inl qb))),h81,h86];rfl)
   | (rw [tbb (.inr (.inr (.inl qb))),h81];simp only [Al_Bool_true_and,Al_Bool_false_and,Al_Bool_and_true,Bool.and_false])
   | (rw [tbb (.inr (.inr (.inl qb))),h81];rfl)
   | (rw [tbb (.inr (.inr (.inr (.inl qb)))),h81,h86];simp only [Al_Bool_true_and,Al_Bool_false_and,Al_Bool_and_true,Bool.and_false])
   | (rw [tbb (.inr (.inr (.inr (.inl qb)))),h81,h86];rfl)
   | (rw [tbb (.inr (.inr (.inr (.inl qb)))),h81];simp only [Al_Bool_true_and,Al_Bool_false_and,Al_Bool_and_true,Bool.and_false])
   | (rw [tbb (.inr (.inr (.inr (.inl qb)))),h81];rfl)
   | (rw [tbb (.inr (.inr (.inr (.inr qb)))),h81,h86];simp only [Al_Bool_true_and,Al_Bool_false_and,Al_Bool_and_true,Bool.and_false])
   | (rw [tbb (.inr (.inr (.inr (.inr qb)))),h81,h86];rfl)
   | (rw [tbb (.inr (.inr (.inr (.inr qb)))),h81];simp only [Al_Bool_true_and,Al_Bool_false_and,Al_Bool_and_true,Bool.and_false])
   | (rw [tbb (.inr (.inr (.inr (.inr qb)))),h81];rfl)
   | (rw [tbn q1 q4 q585 q588 q6 q9 qb11 qb12 qb13 qb14 qb15])
 have qb11:¬ op=11:=λe=>Al_of_decide_eq_false h72 (by rw [e];rfl);refine .sr<|.yw (.eql Z Z)<|.aq Z<|.cr Z (λh72=>?_) (λh72=>?_)
 ·have qb:op=12:=Al_UInt8_toNat_inj.1 (by have:=Al_of_decide_eq_true h72;show op.toNat=12;omega);refine .sk<|.tN<|.cT Z<|.sr<|.fA Z Fx.field76_1<|.lD Z Fx.agg9 Hm Z<|.yw (.eqS Z Z)<|.mv Z<|.b2 (λh81=>?_) (λh81=>?_)
  ·refine .gy (.fieldAddr Z Fx.field76_2)<|.gy (.load Z Fx.agg2 Hm Z)<|.gy (.cast (.eql Z Z) (congrArg Value.bool i0))<|.yw (.pickT Z Z)<|.mv Z<|.b2 (λh86=>?_) (λh86=>?_)
   ·refine .gy (.loadW Z Fx.agg76 Hm Z)<|.gy (.call Fx.call132 Z (λW s=>operands_any H op nm nn args 2 _ W h (λa ha=>ih a ha) s.agr))<|.yw (.pickT Z Z)<|.az Z<|.bR<|.tR<|?_
    refine y9 Z Z λW s=>⟨?_,s.ext⟩
    first
     | (rw [tb1 q1,h10,h15];simp only [Al_Bool_true_and,Al_Bool_false_and,Al_Bool_and_true,Bool.and_false])
     | (rw [tb1 q1,h10,h15];rfl)
     | (rw [tb1 q1,h10];simp only [Al_Bool_true_and,Al_Bool_false_and,Al_Bool_and_true,Bool.and_false])
     | (rw [tb1 q1,h10];rfl)
     | (rw [tb4 q4,h26,h31];simp only [Al_Bool_true_and,Al_Bool_false_and,Al_Bool_and_true,Bool.and_false])
     | (rw [tb4 q4,h26,h31];rfl)
     | (rw [tb4 q4,h26];simp only [Al_Bool_true_and,Al_Bool_false_and,Al_Bool_and_true,Bool.and_false])
     | (rw [tb4 q4,h26];rfl)
     | (rw [tb5 (.inl q58),h43];simp only [Al_Bool_true_and,Al_Bool_false_and,Al_Bool_and_true,Bool.and_false])
     | (rw [tb5 (.inl q58),h43];rfl)
     | (rw [tb5 (.inr q58),h43];simp only [Al_Bool_true_and,Al_Bool_false_and,Al_Bool_and_true,Bool.and_false])
     | (rw [tb5 (.inr q58),h43];rfl)
     | (rw [tb6 q6,h54];simp only [Al_Bool_true_and,Al_Bool_false_and,Al_Bool_and_true,Bool.and_false])
     | (rw [tb6 q6,h54];rfl)
     | (rw [tb9 q9,h63,h68];simp only [Al_Bool_true_and,Al_Bool_false_and,Al_Bool_and_true,Bool.and_false])
     | (rw [tb9 q9,h63,h68];rfl)
     | (rw [tb9 q9,h63];simp only [Al_Bool_true_and,Al_Bool_false_and,Al_Bool_and_true,Bool.and_false])
     | (rw [tb9 q9,h63];rfl)
     | (rw [tbb (.inl qb),h81,h86];simp only [Al_Bool_true_and,Al_Bool_false_and,Al_Bool_and_true,Bool.and_false])
     | (rw [tbb (.inl qb),h81,h86];rfl)
     | (rw [tbb (.inl qb),h81];simp only [Al_Bool_true_and,Al_Bool_false_and,Al_Bool_and_true,Bool.and_false])
     | (rw [tbb (.inl qb),h81];rfl)
     | (rw [tbb (.inr (.inl qb)),h81,h86];simp only [Al_Bool_true_and,Al_Bool_false_and,Al_Bool_and_true,Bool.and_false])
     | (rw [tbb (.inr (.inl qb)),h81,h86];rfl)
     | (rw [tbb (.inr (.inl qb)),h81];simp only [Al_Bool_true_and,Al_Bool_false_and,Al_Bool_and_true,Bool.and_false])
     | (rw [tbb (.inr (.inl qb)),h81];rfl)
     | (rw [tbb (.inr (.inr (.inl qb))),h81,h86];simp only [Al_Bool_true_and,Al_Bool_false_and,Al_Bool_and_true,Bool.and_false])
     | (rw [tbb (.inr (.inr (.inl qb))),h81,h86];rfl)
     | (rw [tbb (.inr (.inr (.inl qb))),h81];simp only [Al_Bool_true_and,Al_Bool_false_and,Al_Bool_and_true,Bool.and_false])
     | (rw [tbb (.inr (.inr (.inl qb))),h81];rfl)
     | (rw [tbb (.inr (.inr (.inr (.inl qb)))),h81,h86];simp only [Al_Bool_true_and,Al_Bool_false_and,Al_Bool_and_true,Bool.and_false])
     | (rw [tbb (.inr (.inr (.inr (.inl qb)))),h81,h86];rfl)
     | (rw [tbb (.inr (.inr (.inr (.inl qb)))),h81];simp only [Al_Bool_true_and,Al_Bool_false_and,Al_Bool_and_true,Bool.and_false])
     | (rw [tbb (.inr (.inr (.inr (.inl qb)))),h81];rfl)
     | (rw [tbb (.inr (.inr (.inr (.inr qb)))),h81,h86];simp only [Al_Bool_true_and,Al_Bool_false_and,Al_Bool_and_true,Bool.and_false])
     | (rw [tbb (.inr (.inr (.inr (.inr qb)))),h81,h86];rfl)
     | (rw [tbb (.inr (.inr (.inr (.inr qb)))),h81];simp only [Al_Bool_true_and,Al_Bool_false_and,Al_Bool_and_true,Bool.and_false])
     | (rw [tbb (.inr (.inr (.inr (.inr qb)))),h81];rfl)
     | (rw [tbn q1 q4 q585 q588 q6 q9 qb11 qb12 qb13 qb14 qb15])
   refine .gG<|.gG<|.yw (.pickF Z Z)<|.az Z<|.bR<|.tR<|?_
   refine y9 Z Z λW s=>⟨?_,s.ext⟩
   first
    | (rw [tb1 q1,h10,h15];simp only [Al_Bool_true_and,Al_Bool_false_and,Al_Bool_and_true,Bool.and_false])
    | (rw [tb1 q1,h10,h15];rfl)
    | (rw [tb1 q1,h10];simp only [Al_Bool_true_and,Al_Bool_false_and,Al_Bool_and_true,Bool.and_false])
    | (rw [tb1 q1,h10];rfl)
    | (rw [tb4 q4,h26,h31];simp only [Al_Bool_true_and,Al_Bool_false_and,Al_Bool_and_true,Bool.and_false])
    | (rw [tb4 q4,h26,h31];rfl)
    | (rw [tb4 q4,h26];simp only [Al_Bool_true_and,Al_Bool_false_and,Al_Bool_and_true,Bool.and_false])
    | (rw [tb4 q4,h26];rfl)
    | (rw [tb5 (.inl q58),h43];simp only [Al_Bool_true_and,Al_Bool_false_and,Al_Bool_and_true,Bool.and_false])
    | (rw [tb5 (.inl q58),h43];rfl)
    | (rw [tb5 (.inr q58),h43];simp only [Al_Bool_true_and,Al_Bool_false_and,Al_Bool_and_true,Bool.and_false])
    | (rw [tb5 (.inr q58),h43];rfl)
    | (rw [tb6 q6,h54];simp only [Al_Bool_true_and,Al_Bool_false_and,Al_Bool_and_true,Bool.and_false])
    | (rw [tb6 q6,h54];rfl)
    | (rw [tb9 q9,h63,h68];simp only [Al_Bool_true_and,Al_Bool_false_and,Al_Bool_and_true,Bool.and_false])
    | (rw [tb9 q9,h63,h68];rfl)
    | (rw [tb9 q9,h63];simp only [Al_Bool_true_and,Al_Bool_false_and,Al_Bool_and_true,Bool.and_false])
    | (rw [tb9 q9,h63];rfl)
    | (rw [tbb (.inl qb),h81,h86];simp only [Al_Bool_true_and,Al_Bool_false_and,Al_Bool_and_true,Bool.and_false])
    | (rw [tbb (.inl qb),h81,h86];rfl)
    | (rw [tbb (.inl qb),h81];simp only [Al_Bool_true_and,Al_Bool_false_and,Al_Bool_and_true,Bool.and_false])
    | (rw [tbb (.inl qb),h81];rfl)
    | (rw [tbb (.inr (.inl qb)),h81,h86];simp only [Al_Bool_true_and,Al_Bool_false_and,Al_Bool_and_true,Bool.and_false])
    | (rw [tbb (.inr (.inl qb)),h81,h86];rfl)
    | (rw [tbb (.inr (.inl qb)),h81];simp only [Al_Bool_true_and,Al_Bool_false_and,Al_Bool_and_true,Bool.and_false])
    | (rw [tbb (.inr (.inl qb)),h81];rfl)
    | (rw [tbb (.inr (.inr (.inl qb))),h81,h86];simp only [Al_Bool_true_and,Al_Bool_false_and,Al_Bool_and_true,Bool.and_false])
    | (rw [tbb (.inr (.inr (.inl qb))),h81,h86];rfl)
    | (rw [tbb (.inr (.inr (.inl qb))),h81];simp only [Al_Bool_true_and,Al_Bool_false_and,Al_Bool_and_true,Bool.and_false])
    | (rw [tbb (.inr (.inr (.inl qb))),h81];rfl)
    | (rw [tbb (.inr (.inr (.inr (.inl qb)))),h81,h86];simp only [Al_Bool_true_and,Al_Bool_false_and,Al_Bool_and_true,Bool.and_false])
    | (rw [tbb (.inr (.inr (.inr (.inl qb)))),h81,h86];rfl)
    | (rw [tbb (.inr (.inr (.inr (.inl qb)))),h81];simp only [Al_Bool_true_and,Al_Bool_false_and,Al_Bool_and_true,Bool.and_false])
    | (rw [tbb (.inr (.inr (.inr (.inl qb)))),h81];rfl)
    | (rw [tbb (.inr (.inr (.inr (.inr qb)))),h81,h86];simp only [Al_Bool_true_and,Al_Bool_false_and,Al_Bool_and_true,Bool.and_false])
    | (rw [tbb (.inr (.inr (.inr (.inr qb)))),h81,h86];rfl)
    | (rw [tbb (.inr (.inr (.inr (.inr qb)))),h81];simp only [Al_Bool_true_and,Al_Bool_false_and,Al_Bool_and_true,Bool.and_false])
    | (rw [tbb (.inr (.inr (.inr (.inr qb)))),h81];rfl)
    | (rw [tbn q1 q4 q585 q588 q6 q9 qb11 qb12 qb13 qb14 qb15])
  refine .gG<|.gG<|.gG<|.yw (.pickF Z Z)<|.mv Z<|.gG<|.gG<|.yw (.pickF Z Z)<|.az Z<|.bR<|.tR<|?_
  refine y9 Z Z λW s=>⟨?_,s.ext⟩
  first
   | (rw [tb1 q1,h10,h15];simp only [Al_Bool_true_and,Al_Bool_false_and,Al_Bool_and_true,Bool.and_false])
   | (rw [tb1 q1,h10,h15];rfl)
   | (rw [tb1 q1,h10];simp only [Al_Bool_true_and,Al_Bool_false_and,Al_Bool_and_true,Bool.and_false])
   | (rw [tb1 q1,h10];rfl)
   | (rw [tb4 q4,h26,h31];simp only [Al_Bool_true_and,Al_Bool_false_and,Al_Bool_and_true,Bool.and_false])
   | (rw [tb4 q4,h26,h31];rfl)
   | (rw [tb4 q4,h26];simp only [Al_Bool_true_and,Al_Bool_false_and,Al_Bool_and_true,Bool.and_false])
   | (rw [tb4 q4,h26];rfl)
   | (rw [tb5 (.inl q58),h43];simp only [Al_Bool_true_and,Al_Bool_false_and,Al_Bool_and_true,Bool.and_false])
   | (rw [tb5 (.inl q58),h43];rfl)
   | (rw [tb5 (.inr q58),h43];simp only [Al_Bool_true_and,Al_Bool_false_and,Al_Bool_and_true,Bool.and_false])
   | (rw [tb5 (.inr q58),h43];rfl)
   | (rw [tb6 q6,h54];simp only [Al_Bool_true_and,Al_Bool_false_and,Al_Bool_and_true,Bool.and_false])
   | (rw [tb6 q6,h54];rfl)
   | (rw [tb9 q9,h63,h68];simp only [Al_Bool_true_and,Al_Bool_false_and,Al_Bool_and_true,Bool.and_false])
   | (rw [tb9 q9,h63,h68];rfl)
   | (rw [tb9 q9,h63];simp only [Al_Bool_true_and,Al_Bool_false_and,Al_Bool_and_true,Bool.and_false])
   | (rw [tb9 q9,h63];rfl)
   | (rw [tbb (.inl qb),h81,h86];simp only [Al_Bool_true_and,Al_Bool_false_and,Al_Bool_and_true,Bool.and_false])
   | (rw [tbb (.inl qb),h81,h86];rfl)
   | (rw [tbb (.inl qb),h81];simp only [Al_Bool_true_and,Al_Bool_false_and,Al_Bool_and_true,Bool.and_false])
   | (rw [tbb (.inl qb),h81];rfl)
   | (rw [tbb (.inr (.inl qb)),h81,h86];simp only [Al_Bool_true_and,Al_Bool_false_and,Al_Bool_and_true,Bool.and_false])
   | (rw [tbb (.inr (.inl qb)),h81,h86];rfl)
   | (rw [tbb (.inr (.inl qb)),h81];simp only [Al_Bool_true_and,Al_Bool_false_and,Al_Bool_and_true,Bool.and_false])
   | (rw [tbb (.inr (.inl qb)),h81];rfl)
   | (rw [tbb (.inr (.inr (.inl qb))),h81,h86];simp only [Al_Bool_true_and,Al_Bool_false_and,Al_Bool_and_true,Bool.and_false])
   | (rw [tbb (.inr (.inr (.inl qb))),h81,h86];rfl)
   | (rw [tbb (.inr (.inr (.inl qb))),h81];simp only [Al_Bool_true_and,Al_Bool_false_and,Al_Bool_and_true,Bool.and_false])
   | (rw [tbb (.inr (.inr (.inl qb))),h81];rfl)
   | (rw [tbb (.inr (.inr (.inr (.inl qb)))),h81,h86];simp only [Al_Bool_true_and,Al_Bool_false_and,Al_Bool_and_true,Bool.and_false])
   | (rw [tbb (.inr (.inr (.inr (.inl qb)))),h81,h86];rfl)
   | (rw [tbb (.inr (.inr (.inr (.inl qb)))),h81];simp only [Al_Bool_true_and,Al_Bool_false_and,Al_Bool_and_true,Bool.and_false])
   | (rw [tbb (.inr (.inr (.inr (.inl qb)))),h81];rfl)
   | (rw [tbb (.inr (.inr (.inr (.inr qb)))),h81,h86];simp only [Al_Bool_true_and,Al_Bool_false_and,Al_Bool_and_true,Bool.and_false])
   | (rw [tbb (.inr (.inr (.inr (.inr qb)))),h81,h86];rfl)
   | (rw [tbb (.inr (.inr (.inr (.inr qb)))),h81];simp only [Al_Bool_true_and,Al_Bool_false_and,Al_Bool_and_true,Bool.and_false])
   | (rw [tbb (.inr (.inr (.inr (.inr qb)))),h81];rfl)
   | (rw [tbn q1 q4 q585 q588 q6 q9 qb11 qb12 qb13 qb14 qb15])
 have qb12:¬ op=12:=λe=>Al_of_decide_eq_false h72 (by rw [e];rfl);refine .sr<|.yw (.eql Z Z)<|.aq Z<|.cr Z (λh72=>?_) (λh72=>?_)
 ·have qb:op=13:=Al_UInt8_toNat_inj.1 (by have:=Al_of_decide_eq_true h72;show op.toNat=13;omega);refine .sk<|.tN<|.cT Z<|.sr<|.fA Z Fx.field76_1<|.lD Z Fx.agg9 Hm Z<|.yw (.eqS Z Z)<|.mv Z<|.b2 (λh81=>?_) (λh81=>?_)
  ·refine .gy (.fieldAddr Z Fx.field76_2)<|.gy (.load Z Fx.agg2 Hm Z)<|.gy (.cast (.eql Z Z) (congrArg Value.bool i0))<|.yw (.pickT Z Z)<|.mv Z<|.b2 (λh86=>?_) (λh86=>?_)
   ·refine .gy (.loadW Z Fx.agg76 Hm Z)<|.gy (.call Fx.call132 Z (λW s=>operands_any H op nm nn args 2 _ W h (λa ha=>ih a ha) s.agr))<|.yw (.pickT Z Z)<|.az Z<|.bR<|.tR<|?_
    refine y9 Z Z λW s=>⟨?_,s.ext⟩
    first
     | (rw [tb1 q1,h10,h15];simp only [Al_Bool_true_and,Al_Bool_false_and,Al_Bool_and_true,Bool.and_false])
     | (rw [tb1 q1,h10,h15];rfl)
     | (rw [tb1 q1,h10];simp only [Al_Bool_true_and,Al_Bool_false_and,Al_Bool_and_true,Bool.and_false])
     | (rw [tb1 q1,h10];rfl)
     | (rw [tb4 q4,h26,h31];simp only [Al_Bool_true_and,Al_Bool_false_and,Al_Bool_and_true,Bool.and_false])
     | (rw [tb4 q4,h26,h31];rfl)
     | (rw [tb4 q4,h26];simp only [Al_Bool_true_and,Al_Bool_false_and,Al_Bool_and_true,Bool.and_false])
     | (rw [tb4 q4,h26];rfl)
     | (rw [tb5 (.inl q58),h43];simp only [Al_Bool_true_and,Al_Bool_false_and,Al_Bool_and_true,Bool.and_false])
     | (rw [tb5 (.inl q58),h43];rfl)
     | (rw [tb5 (.inr q58),h43];simp only [Al_Bool_true_and,Al_Bool_false_and,Al_Bool_and_true,Bool.and_false])
     | (rw [tb5 (.inr q58),h43];rfl)
     | (rw [tb6 q6,h54];simp only [Al_Bool_true_and,Al_Bool_false_and,Al_Bool_and_true,Bool.and_false])
     | (rw [tb6 q6,h54];rfl)
     | (rw [tb9 q9,h63,h68];simp only [Al_Bool_true_and,Al_Bool_false_and,Al_Bool_and_true,Bool.and_false])
     | (rw [tb9 q9,h63,h68];rfl)
     | (rw [tb9 q9,h63];simp only [Al_Bool_true_and,Al_Bool_false_and,Al_Bool_and_true,Bool.and_false])
     | (rw [tb9 q9,h63];rfl)
     | (rw [tbb (.inl qb),h81,h86];simp only [Al_Bool_true_and,Al_Bool_false_and,Al_Bool_and_true,Bool.and_false])
     | (rw [tbb (.inl qb),h81,h86];rfl)
     | (rw [tbb (.inl qb),h81];simp only [Al_Bool_true_and,Al_Bool_false_and,Al_Bool_and_true,Bool.and_false])
     | (rw [tbb (.inl qb),h81];rfl)
     | (rw [tbb (.inr (.inl qb)),h81,h86];simp only [Al_Bool_true_and,Al_Bool_false_and,Al_Bool_and_true,Bool.and_false])
     | (rw [tbb (.inr (.inl qb)),h81,h86];rfl)
     | (rw [tbb (.inr (.inl qb)),h81];simp only [Al_Bool_true_and,Al_Bool_false_and,Al_Bool_and_true,Bool.and_false])
     | (rw [tbb (.inr (.inl qb)),h81];rfl)
     | (rw [tbb (.inr (.inr (.inl qb))),h81,h86];simp only [Al_Bool_true_and,Al_Bool_false_and,Al_Bool_and_true,Bool.and_false])
     | (rw [tbb (.inr (.inr (.inl qb))),h81,h86];rfl)
     | (rw [tbb (.inr (.inr (.inl qb))),h81];simp only [Al_Bool_true_and,Al_Bool_false_and,Al_Bool_and_true,Bool.and_false])
     | (rw [tbb (.inr (.inr (.inl qb))),h81];rfl)
     | (rw [tbb (.inr (.inr (.inr (.inl qb)))),h81,h86];simp only [Al_Bool_true_and,Al_Bool_false_and,Al_Bool_and_true,Bool.and_false])
     | (rw [tbb (.inr (.inr (.inr (.inl qb)))),h81,h86];rfl)
     | (rw [tbb (.inr (.inr (.inr (.inl qb)))),h81];simp only [Al_Bool_true_and,Al_Bool_false_and,Al_Bool_and_true,Bool.and_false])
     | (rw [tbb (.inr (.inr (.inr (.inl qb)))),h81];rfl)
     | (rw [tbb (.inr (.inr (.inr (.inr qb)))),h81,h86];simp only [Al_Bool_true_and,Al_Bool_false_and,Al_Bool_and_true,Bool.and_false])
     | (rw [tbb (.inr (.inr (.inr (.inr qb)))),h81,h86];rfl)
     | (rw [tbb (.inr (.inr (.inr (.inr qb)))),h81];simp only [Al_Bool_true_and,Al_Bool_false_and,Al_Bool_and_true,Bool.and_false])
     | (rw [tbb (.inr (.inr (.inr (.inr qb)))),h81];rfl)
     | (rw [tbn q1 q4 q585 q588 q6 q9 qb11 qb12 qb13 qb14 qb15])
   refine .gG<|.gG<|.yw (.pickF Z Z)<|.az Z<|.bR<|.tR<|?_
   refine y9 Z Z λW s=>⟨?_,s.ext⟩
   first
    | (rw [tb1 q1,h10,h15];simp only [Al_Bool_true_and,Al_Bool_false_and,Al_Bool_and_true,Bool.and_false])
    | (rw [tb1 q1,h10,h15];rfl)
    | (rw [tb1 q1,h10];simp only [Al_Bool_true_and,Al_Bool_false_and,Al_Bool_and_true,Bool.and_false])
    | (rw [tb1 q1,h10];rfl)
    | (rw [tb4 q4,h26,h31];simp only [Al_Bool_true_and,Al_Bool_false_and,Al_Bool_and_true,Bool.and_false])
    | (rw [tb4 q4,h26,h31];rfl)
    | (rw [tb4 q4,h26];simp only [Al_Bool_true_and,Al_Bool_false_and,Al_Bool_and_true,Bool.and_false])
    | (rw [tb4 q4,h26];rfl)
    | (rw [tb5 (.inl q58),h43];simp only [Al_Bool_true_and,Al_Bool_false_and,Al_Bool_and_true,Bool.and_false])
    | (rw [tb5 (.inl q58),h43];rfl)
    | (rw [tb5 (.inr q58),h43];simp only [Al_Bool_true_and,Al_Bool_false_and,Al_Bool_and_true,Bool.and_false])
    | (rw [tb5 (.inr q58),h43];rfl)
    | (rw [tb6 q6,h54];simp only [Al_Bool_true_and,Al_Bool_false_and,Al_Bool_and_true,Bool.and_false])
    | (rw [tb6 q6,h54];rfl)
    | (rw [tb9 q9,h63,h68];simp only [Al_Bool_true_and,Al_Bool_false_and,Al_Bool_and_true,Bool.and_false])
    | (rw [tb9 q9,h63,h68];rfl)
    | (rw [tb9 q9,h63];simp only [Al_Bool_true_and,Al_Bool_false_and,Al_Bool_and_true,Bool.and_false])
    | (rw [tb9 q9,h63];rfl)
    | (rw [tbb (.inl qb),h81,h86];simp only [Al_Bool_true_and,Al_Bool_false_and,Al_Bool_and_true,Bool.and_false])
    | (rw [tbb (.inl qb),h81,h86];rfl)
    | (rw [tbb (.inl qb),h81];simp only [Al_Bool_true_and,Al_Bool_false_and,Al_Bool_and_true,Bool.and_false])
    | (rw [tbb (.inl qb),h81];rfl)
    | (rw [tbb (.inr (.inl qb)),h81,h86];simp only [Al_Bool_true_and,Al_Bool_false_and,Al_Bool_and_true,Bool.and_false])
    | (rw [tbb (.inr (.inl qb)),h81,h86];rfl)
    | (rw [tbb (.inr (.inl qb)),h81];simp only [Al_Bool_true_and,Al_Bool_false_and,Al_Bool_and_true,Bool.and_false])
    | (rw [tbb (.inr (.inl qb)),h81];rfl)
    | (rw [tbb (.inr (.inr (.inl qb))),h81,h86];simp only [Al_Bool_true_and,Al_Bool_false_and,Al_Bool_and_true,Bool.and_false])
    | (rw [tbb (.inr (.inr (.inl qb))),h81,h86];rfl)
    | (rw [tbb (.inr (.inr (.inl qb))),h81];simp only [Al_Bool_true_and,Al_Bool_false_and,Al_Bool_and_true,Bool.and_false])
    | (rw [tbb (.inr (.inr (.inl qb))),h81];rfl)
    | (rw [tbb (.inr (.inr (.inr (.inl qb)))),h81,h86];simp only [Al_Bool_true_and,Al_Bool_false_and,Al_Bool_and_true,Bool.and_false])
    | (rw [tbb (.inr (.inr (.inr (.inl qb)))),h81,h86];rfl)
    | (rw [tbb (.inr (.inr (.inr (.inl qb)))),h81];simp only [Al_Bool_true_and,Al_Bool_false_and,Al_Bool_and_true,Bool.and_false])
    | (rw [tbb (.inr (.inr (.inr (.inl qb)))),h81];rfl)
    | (rw [tbb (.inr (.inr (.inr (.inr qb)))),h81,h86];simp only [Al_Bool_true_and,Al_Bool_false_and,Al_Bool_and_true,Bool.and_false])
    | (rw [tbb (.inr (.inr (.inr (.inr qb)))),h81,h86];rfl)
    | (rw [tbb (.inr (.inr (.inr (.inr qb)))),h81];simp only [Al_Bool_true_and,Al_Bool_false_and,Al_Bool_and_true,Bool.and_false])
    | (rw [tbb (.inr (.inr (.inr (.inr qb)))),h81];rfl)
    | (rw [tbn q1 q4 q585 q588 q6 q9 qb11 qb12 qb13 qb14 qb15])
  refine .gG<|.gG<|.gG<|.yw (.pickF Z Z)<|.mv Z<|.gG<|.gG<|.yw (.pickF Z Z)<|.az Z<|.bR<|.tR<|?_
  refine y9 Z Z λW s=>⟨?_,s.ext⟩
  first
   | (rw [tb1 q1,h10,h15];simp only [Al_Bool_true_and,Al_Bool_false_and,Al_Bool_and_true,Bool.and_false])
   | (rw [tb1 q1,h10,h15];rfl)
   | (rw [tb1 q1,h10];simp only [Al_Bool_true_and,Al_Bool_false_and,Al_Bool_and_true,Bool.and_false])
   | (rw [tb1 q1,h10];rfl)
   | (rw [tb4 q4,h26,h31];simp only [Al_Bool_true_and,Al_Bool_false_and,Al_Bool_and_true,Bool.and_false])
   | (rw [tb4 q4,h26,h31];rfl)
   | (rw [tb4 q4,h26];simp only [Al_Bool_true_and,Al_Bool_false_and,Al_Bool_and_true,Bool.and_false])
   | (rw [tb4 q4,h26];rfl)
   | (rw [tb5 (.inl q58),h43];simp only [Al_Bool_true_and,Al_Bool_false_and,Al_Bool_and_true,Bool.and_false])
   | (rw [tb5 (.inl q58),h43];rfl)
   | (rw [tb5 (.inr q58),h43];simp only [Al_Bool_true_and,Al_Bool_false_and,Al_Bool_and_true,Bool.and_false])
   | (rw [tb5 (.inr q58),h43];rfl)
   | (rw [tb6 q6,h54];simp only [Al_Bool_true_and,Al_Bool_false_and,Al_Bool_and_true,Bool.and_false])
   | (rw [tb6 q6,h54];rfl)
   | (rw [tb9 q9,h63,h68];simp only [Al_Bool_true_and,Al_Bool_false_and,Al_Bool_and_true,Bool.and_false])
   | (rw [tb9 q9,h63,h68];rfl)
   | (rw [tb9 q9,h63];simp only [Al_Bool_true_and,Al_Bool_false_and,Al_Bool_and_true,Bool.and_false])
   | (rw [tb9 q9,h63];rfl)
   | (rw [tbb (.inl qb),h81,h86];simp only [Al_Bool_true_and,Al_Bool_false_and,Al_Bool_and_true,Bool.and_false])
   | (rw [tbb (.inl qb),h81,h86];rfl)
   | (rw [tbb (.inl qb),h81];simp only [Al_Bool_true_and,Al_Bool_false_and,Al_Bool_and_true,Bool.and_false])
   | (rw [tbb (.inl qb),h81];rfl)
   | (rw [tbb (.inr (.inl qb)),h81,h86];simp only [Al_Bool_true_and,Al_Bool_false_and,Al_Bool_and_true,Bool.and_false])
   | (rw [tbb (.inr (.inl qb)),h81,h86];rfl)
   | (rw [tbb (.inr (.inl qb)),h81];simp only [Al_Bool_true_and,Al_Bool_false_and,Al_Bool_and_true,Bool.and_false])
   | (rw [tbb (.inr (.inl qb)),h81];rfl)
   | (rw [tbb (.inr (.inr (.inl qb))),h81,h86];simp only [Al_Bool_true_and,Al_Bool_false_and,Al_Bool_and_true,Bool.and_false])
   | (rw [tbb (.inr (.inr (.inl qb))),h81,h86];rfl)
   | (rw [tbb (.inr (.inr (.inl qb))),h81];simp only [Al_Bool_true_and,Al_Bool_false_and,Al_Bool_and_true,Bool.and_false])
   | (rw [tbb (.inr (.inr (.inl qb))),h81];rfl)
   | (rw [tbb (.inr (.inr (.inr (.inl qb)))),h81,h86];simp only [Al_Bool_true_and,Al_Bool_false_and,Al_Bool_and_true,Bool.and_false])
   | (rw [tbb (.inr (.inr (.inr (.inl qb)))),h81,h86];rfl)
   | (rw [tbb (.inr (.inr (.inr (.inl qb)))),h81];simp only [Al_Bool_true_and,Al_Bool_false_and,Al_Bool_and_true,Bool.and_false])
   | (rw [tbb (.inr (.inr (.inr (.inl qb)))),h81];rfl)
   | (rw [tbb (.inr (.inr (.inr (.inr qb)))),h81,h86];simp only [Al_Bool_true_and,Al_Bool_false_and,Al_Bool_and_true,Bool.and_false])
   | (rw [tbb (.inr (.inr (.inr (.inr qb)))),h81,h86];rfl)
   | (rw [tbb (.inr (.inr (.inr (.inr qb)))),h81];simp only [Al_Bool_true_and,Al_Bool_false_and,Al_Bool_and_true,Bool.and_false])
   | (rw [tbb (.inr (.inr (.inr (.inr qb)))),h81];rfl)
   | (rw [tbn q1 q4 q585 q588 q6 q9 qb11 qb12 qb13 qb14 qb15])
 have qb13:¬ op=13:=λe=>Al_of_decide_eq_false h72 (by rw [e];rfl);refine .sr<|.yw (.eql Z Z)<|.aq Z<|.cr Z (λh72=>?_) (λh72=>?_)
 ·have qb:op=14:=Al_UInt8_toNat_inj.1 (by have:=Al_of_decide_eq_true h72;show op.toNat=14;omega);refine .sk<|.tN<|.cT Z<|.sr<|.fA Z Fx.field76_1<|.lD Z Fx.agg9 Hm Z<|.yw (.eqS Z Z)<|.mv Z<|.b2 (λh81=>?_) (λh81=>?_)
  ·refine .gy (.fieldAddr Z Fx.field76_2)<|.gy (.load Z Fx.agg2 Hm Z)<|.gy (.cast (.eql Z Z) (congrArg Value.bool i0))<|.yw (.pickT Z Z)<|.mv Z<|.b2 (λh86=>?_) (λh86=>?_)
   ·refine .gy (.loadW Z Fx.agg76 Hm Z)<|.gy (.call Fx.call132 Z (λW s=>operands_any H op nm nn args 2 _ W h (λa ha=>ih a ha) s.agr))<|.yw (.pickT Z Z)<|.az Z<|.bR<|.tR<|?_
    refine y9 Z Z λW s=>⟨?_,s.ext⟩
    first
     | (rw [tb1 q1,h10,h15];simp only [Al_Bool_true_and,Al_Bool_false_and,Al_Bool_and_true,Bool.and_false])
     | (rw [tb1 q1,h10,h15];rfl)
     | (rw [tb1 q1,h10];simp only [Al_Bool_true_and,Al_Bool_false_and,Al_Bool_and_true,Bool.and_false])
     | (rw [tb1 q1,h10];rfl)
     | (rw [tb4 q4,h26,h31];simp only [Al_Bool_true_and,Al_Bool_false_and,Al_Bool_and_true,Bool.and_false])
     | (rw [tb4 q4,h26,h31];rfl)
     | (rw [tb4 q4,h26];simp only [Al_Bool_true_and,Al_Bool_false_and,Al_Bool_and_true,Bool.and_false])
     | (rw [tb4 q4,h26];rfl)
     | (rw [tb5 (.inl q58),h43];simp only [Al_Bool_true_and,Al_Bool_false_and,Al_Bool_and_true,Bool.and_false])
     | (rw [tb5 (.inl q58),h43];rfl)
     | (rw [tb5 (.inr q58),h43];simp only [Al_Bool_true_and,Al_Bool_false_and,Al_Bool_and_true,Bool.and_false])
     | (rw [tb5 (.inr q58),h43];rfl)
     | (rw [tb6 q6,h54];simp only [Al_Bool_true_and,Al_Bool_false_and,Al_Bool_and_true,Bool.and_false])
     | (rw [tb6 q6,h54];rfl)
     | (rw [tb9 q9,h63,h68];simp only [Al_Bool_true_and,Al_Bool_false_and,Al_Bool_and_true,Bool.and_false])
     | (rw [tb9 q9,h63,h68];rfl)
     | (rw [tb9 q9,h63];simp only [Al_Bool_true_and,Al_Bool_false_and,Al_Bool_and_true,Bool.and_false])
     | (rw [tb9 q9,h63];rfl)
     | (rw [tbb (.inl qb),h81,h86];simp only [Al_Bool_true_and,Al_Bool_false_and,Al_Bool_and_true,Bool.and_false])
     | (rw [tbb (.inl qb),h81,h86];rfl)
     | (rw [tbb (.inl qb),h81];simp only [Al_Bool_true_and,Al_Bool_false_and,Al_Bool_and_true,Bool.and_false])
     | (rw [tbb (.inl qb),h81];rfl)
     | (rw [tbb (.inr (.inl qb)),h81,h86];simp only [Al_Bool_true_and,Al_Bool_false_and,Al_Bool_and_true,Bool.and_false])
     | (rw [tbb (.inr (.inl qb)),h81,h86];rfl)
     | (rw [tbb (.inr (.inl qb)),h81];simp only [Al_Bool_true_and,Al_Bool_false_and,Al_Bool_and_true,Bool.and_false])
     | (rw [tbb (.inr (.inl qb)),h81];rfl)
     | (rw [tbb (.inr (.inr (.inl qb))),h81,h86];simp only [Al_Bool_true_and,Al_Bool_false_and,Al_Bool_and_true,Bool.and_false])
     | (rw [tbb (.inr (.inr (.inl qb))),h81,h86];rfl)
     | (rw [tbb (.inr (.inr (.inl qb))),h81];simp only [Al_Bool_true_and,Al_Bool_false_and,Al_Bool_and_true,Bool.and_false])
     | (rw [tbb (.inr (.inr (.inl qb))),h81];rfl)
     | (rw [tbb (.inr (.inr (.inr (.inl qb)))),h81,h86];simp only [Al_Bool_true_and,Al_Bool_false_and,Al_Bool_and_true,Bool.and_false])
     | (rw [tbb (.inr (.inr (.inr (.inl qb)))),h81,h86];rfl)
     | (rw [tbb (.inr (.inr (.inr (.inl qb)))),h81];simp only [Al_Bool_true_and,Al_Bool_false_and,Al_Bool_and_true,Bool.and_false])
     | (rw [tbb (.inr (.inr (.inr (.inl qb)))),h81];rfl)
     | (rw [tbb (.inr (.inr (.inr (.inr qb)))),h81,h86];simp only [Al_Bool_true_and,Al_Bool_false_and,Al_Bool_and_true,Bool.and_false])
     | (rw [tbb (.inr (.inr (.inr (.inr qb)))),h81,h86];rfl)
     | (rw [tbb (.inr (.inr (.inr (.inr qb)))),h81];simp only [Al_Bool_true_and,Al_Bool_false_and,Al_Bool_and_true,Bool.and_false])
     | (rw [tbb (.inr (.inr (.inr (.inr qb)))),h81];rfl)
     | (rw [tbn q1 q4 q585 q588 q6 q9 qb11 qb12 qb13 qb14 qb15])
   refine .gG<|.gG<|.yw (.pickF Z Z)<|.az Z<|.bR<|.tR<|?_
   refine y9 Z Z λW s=>⟨?_,s.ext⟩
   first
    | (rw [tb1 q1,h10,h15];simp only [Al_Bool_true_and,Al_Bool_false_and,Al_Bool_and_true,Bool.and_false])
    | (rw [tb1 q1,h10,h15];rfl)
    | (rw [tb1 q1,h10];simp only [Al_Bool_true_and,Al_Bool_false_and,Al_Bool_and_true,Bool.and_false])
    | (rw [tb1 q1,h10];rfl)
    | (rw [tb4 q4,h26,h31];simp only [Al_Bool_true_and,Al_Bool_false_and,Al_Bool_and_true,Bool.and_false])
    | (rw [tb4 q4,h26,h31];rfl)
    | (rw [tb4 q4,h26];simp only [Al_Bool_true_and,Al_Bool_false_and,Al_Bool_and_true,Bool.and_false])
    | (rw [tb4 q4,h26];rfl)
    | (rw [tb5 (.inl q58),h43];simp only [Al_Bool_true_and,Al_Bool_false_and,Al_Bool_and_true,Bool.and_false])
    | (rw [tb5 (.inl q58),h43];rfl)
    | (rw [tb5 (.inr q58),h43];simp only [Al_Bool_true_and,Al_Bool_false_and,Al_Bool_and_true,Bool.and_false])
    | (rw [tb5 (.inr q58),h43];rfl)
    | (rw [tb6 q6,h54];simp only [Al_Bool_true_and,Al_Bool_false_and,Al_Bool_and_true,Bool.and_false])
    | (rw [tb6 q6,h54];rfl)
    | (rw [tb9 q9,h63,h68];simp only [Al_Bool_true_and,Al_Bool_false_and,Al_Bool_and_true,Bool.and_false])
    | (rw [tb9 q9,h63,h68];rfl)
    | (rw [tb9 q9,h63];simp only [Al_Bool_true_and,Al_Bool_false_and,Al_Bool_and_true,Bool.and_false])
    | (rw [tb9 q9,h63];rfl)
    | (rw [tbb (.inl qb),h81,h86];simp only [Al_Bool_true_and,Al_Bool_false_and,Al_Bool_and_true,Bool.and_false])
    | (rw [tbb (.inl qb),h81,h86];rfl)
    | (rw [tbb (.inl qb),h81];simp only [Al_Bool_true_and,Al_Bool_false_and,Al_Bool_and_true,Bool.and_false])
    | (rw [tbb (.inl qb),h81];rfl)
    | (rw [tbb (.inr (.inl qb)),h81,h86];simp only [Al_Bool_true_and,Al_Bool_false_and,Al_Bool_and_true,Bool.and_false])
    | (rw [tbb (.inr (.inl qb)),h81,h86];rfl)
    | (rw [tbb (.inr (.inl qb)),h81];simp only [Al_Bool_true_and,Al_Bool_false_and,Al_Bool_and_true,Bool.and_false])
    | (rw [tbb (.inr (.inl qb)),h81];rfl)
    | (rw [tbb (.inr (.inr (.inl qb))),h81,h86];simp only [Al_Bool_true_and,Al_Bool_false_and,Al_Bool_and_true,Bool.and_false])
    | (rw [tbb (.inr (.inr (.inl qb))),h81,h86];rfl)
    | (rw [tbb (.inr (.inr (.inl qb))),h81];simp only [Al_Bool_true_and,Al_Bool_false_and,Al_Bool_and_true,Bool.and_false])
    | (rw [tbb (.inr (.inr (.inl qb))),h81];rfl)
    | (rw [tbb (.inr (.inr (.inr (.inl qb)))),h81,h86];simp only [Al_Bool_true_and,Al_Bool_false_and,Al_Bool_and_true,Bool.and_false])
    | (rw [tbb (.inr (.inr (.inr (.inl qb)))),h81,h86];rfl)
    | (rw [tbb (.inr (.inr (.inr (.inl qb)))),h81];simp only [Al_Bool_true_and,Al_Bool_false_and,Al_Bool_and_true,Bool.and_false])
    | (rw [tbb (.inr (.inr (.inr (.inl qb)))),h81];rfl)
    | (rw [tbb (.inr (.inr (.inr (.inr qb)))),h81,h86];simp only [Al_Bool_true_and,Al_Bool_false_and,Al_Bool_and_true,Bool.and_false])
    | (rw [tbb (.inr (.inr (.inr (.inr qb)))),h81,h86];rfl)
    | (rw [tbb (.inr (.inr (.inr (.inr qb)))),h81];simp only [Al_Bool_true_and,Al_Bool_false_and,Al_Bool_and_true,Bool.and_false])
    | (rw [tbb (.inr (.inr (.inr (.inr qb)))),h81];rfl)
    | (rw [tbn q1 q4 q585 q588 q6 q9 qb11 qb12 qb13 qb14 qb15])
  refine .gG<|.gG<|.gG<|.yw (.pickF Z Z)<|.mv Z<|.gG<|.gG<|.yw (.pickF Z Z)<|.az Z<|.bR<|.tR<|?_
  refine y9 Z Z λW s=>⟨?_,s.ext⟩
  first
   | (rw [tb1 q1,h10,h15];simp only [Al_Bool_true_and,Al_Bool_false_and,Al_Bool_and_true,Bool.and_false])
   | (rw [tb1 q1,h10,h15];rfl)
   | (rw [tb1 q1,h10];simp only [Al_Bool_true_and,Al_Bool_false_and,Al_Bool_and_true,Bool.and_false])
   | (rw [tb1 q1,h10];rfl)
   | (rw [tb4 q4,h26,h31];simp only [Al_Bool_true_and,Al_Bool_false_and,Al_Bool_and_true,Bool.and_false])
   | (rw [tb4 q4,h26,h31];rfl)
   | (rw [tb4 q4,h26];simp only [Al_Bool_true_and,Al_Bool_false_and,Al_Bool_and_true,Bool.and_false])
   | (rw [tb4 q4,h26];rfl)
   | (rw [tb5 (.inl q58),h43];simp only [Al_Bool_true_and,Al_Bool_false_and,Al_Bool_and_true,Bool.and_false])
   | (rw [tb5 (.inl q58),h43];rfl)
   | (rw [tb5 (.inr q58),h43];simp only [Al_Bool_true_and,Al_Bool_false_and,Al_Bool_and_true,Bool.and_false])
   | (rw [tb5 (.inr q58),h43];rfl)
   | (rw [tb6 q6,h54];simp only [Al_Bool_true_and,Al_Bool_false_and,Al_Bool_and_true,Bool.and_false])
   | (rw [tb6 q6,h54];rfl)
   | (rw [tb9 q9,h63,h68];simp only [Al_Bool_true_and,Al_Bool_false_and,Al_Bool_and_true,Bool.and_false])
   | (rw [tb9 q9,h63,h68];rfl)
   | (rw [tb9 q9,h63];simp only [Al_Bool_true_and,Al_Bool_false_and,Al_Bool_and_true,Bool.and_false])
   | (rw [tb9 q9,h63];rfl)
   | (rw [tbb (.inl qb),h81,h86];simp only [Al_Bool_true_and,Al_Bool_false_and,Al_Bool_and_true,Bool.and_false])
   | (rw [tbb (.inl qb),h81,h86];rfl)
   | (rw [tbb (.inl qb),h81];simp only [Al_Bool_true_and,Al_Bool_false_and,Al_Bool_and_true,Bool.and_false])
   | (rw [tbb (.inl qb),h81];rfl)
   | (rw [tbb (.inr (.inl qb)),h81,h86];simp only [Al_Bool_true_and,Al_Bool_false_and,Al_Bool_and_true,Bool.and_false])
   | (rw [tbb (.inr (.inl qb)),h81,h86];rfl)
   | (rw [tbb (.inr (.inl qb)),h81];simp only [Al_Bool_true_and,Al_Bool_false_and,Al_Bool_and_true,Bool.and_false])
   | (rw [tbb (.inr (.inl qb)),h81];rfl)
   | (rw [tbb (.inr (.inr (.inl qb))),h81,h86];simp only [Al_Bool_true_and,Al_Bool_false_and,Al_Bool_and_true,Bool.and_false])
   | (rw [tbb (.inr (.inr (.inl qb))),h81,h86];rfl)
   | (rw [tbb (.inr (.inr (.inl qb))),h81];simp only [Al_Bool_true_and,Al_Bool_false_and,Al_Bool_and_true,Bool.and_false])
   | (rw [tbb (.inr (.inr (.inl qb))),h81];rfl)
   | (rw [tbb (.inr (.inr (.inr (.inl qb)))),h81,h86];simp only [Al_Bool_true_and,Al_Bool_false_and,Al_Bool_and_true,Bool.and_false])
   | (rw [tbb (.inr (.inr (.inr (.inl qb)))),h81,h86];rfl)
   | (rw [tbb (.inr (.inr (.inr (.inl qb)))),h81];simp only [Al_Bool_true_and,Al_Bool_false_and,Al_Bool_and_true,Bool.and_false])
   | (rw [tbb (.inr (.inr (.inr (.inl qb)))),h81];rfl)
   | (rw [tbb (.inr (.inr (.inr (.inr qb)))),h81,h86];simp only [Al_Bool_true_and,Al_Bool_false_and,Al_Bool_and_true,Bool.and_false])
   | (rw [tbb (.inr (.inr (.inr (.inr qb)))),h81,h86];rfl)
   | (rw [tbb (.inr (.inr (.inr (.inr qb)))),h81];simp only [Al_Bool_true_and,Al_Bool_false_and,Al_Bool_and_true,Bool.and_false])
   | (rw [tbb (.inr (.inr (.inr (.inr qb)))),h81];rfl)
   | (rw [tbn q1 q4 q585 q588 q6 q9 qb11 qb12 qb13 qb14 qb15])
 have qb14:¬ op=14:=λe=>Al_of_decide_eq_false h72 (by rw [e];rfl);refine .rg<|.yw (.eql Z Z)<|.aq Z<|.cr Z (λh72=>?_) (λh72=>?_)
 ·have qb:op=15:=Al_UInt8_toNat_inj.1 (by have:=Al_of_decide_eq_true h72;show op.toNat=15;omega);refine .sr<|.fA Z Fx.field76_1<|.lD Z Fx.agg9 Hm Z<|.yw (.eqS Z Z)<|.mv Z<|.b2 (λh81=>?_) (λh81=>?_)
  ·refine .gy (.fieldAddr Z Fx.field76_2)<|.gy (.load Z Fx.agg2 Hm Z)<|.gy (.cast (.eql Z Z) (congrArg Value.bool i0))<|.yw (.pickT Z Z)<|.mv Z<|.b2 (λh86=>?_) (λh86=>?_)
   ·refine .gy (.loadW Z Fx.agg76 Hm Z)<|.gy (.call Fx.call132 Z (λW s=>operands_any H op nm nn args 2 _ W h (λa ha=>ih a ha) s.agr))<|.yw (.pickT Z Z)<|.az Z<|.bR<|.tR<|?_
    refine y9 Z Z λW s=>⟨?_,s.ext⟩
    first
     | (rw [tb1 q1,h10,h15];simp only [Al_Bool_true_and,Al_Bool_false_and,Al_Bool_and_true,Bool.and_false])
     | (rw [tb1 q1,h10,h15];rfl)
     | (rw [tb1 q1,h10];simp only [Al_Bool_true_and,Al_Bool_false_and,Al_Bool_and_true,Bool.and_false])
     | (rw [tb1 q1,h10];rfl)
     | (rw [tb4 q4,h26,h31];simp only [Al_Bool_true_and,Al_Bool_false_and,Al_Bool_and_true,Bool.and_false])
     | (rw [tb4 q4,h26,h31];rfl)
     | (rw [tb4 q4,h26];simp only [Al_Bool_true_and,Al_Bool_false_and,Al_Bool_and_true,Bool.and_false])
     | (rw [tb4 q4,h26];rfl)
     | (rw [tb5 (.inl q58),h43];simp only [Al_Bool_true_and,Al_Bool_false_and,Al_Bool_and_true,Bool.and_false])
     | (rw [tb5 (.inl q58),h43];rfl)
     | (rw [tb5 (.inr q58),h43];simp only [Al_Bool_true_and,Al_Bool_false_and,Al_Bool_and_true,Bool.and_false])
     | (rw [tb5 (.inr q58),h43];rfl)
     | (rw [tb6 q6,h54];simp only [Al_Bool_true_and,Al_Bool_false_and,Al_Bool_and_true,Bool.and_false])
     | (rw [tb6 q6,h54];rfl)
     | (rw [tb9 q9,h63,h68];simp only [Al_Bool_true_and,Al_Bool_false_and,Al_Bool_and_true,Bool.and_false])
     | (rw [tb9 q9,h63,h68];rfl)
     | (rw [tb9 q9,h63];simp only [Al_Bool_true_and,Al_Bool_false_and,Al_Bool_and_true,Bool.and_false])
     | (rw [tb9 q9,h63];rfl)
     | (rw [tbb (.inl qb),h81,h86];simp only [Al_Bool_true_and,Al_Bool_false_and,Al_Bool_and_true,Bool.and_false])
     | (rw [tbb (.inl qb),h81,h86];rfl)
     | (rw [tbb (.inl qb),h81];simp only [Al_Bool_true_and,Al_Bool_false_and,Al_Bool_and_true,Bool.and_false])
     | (rw [tbb (.inl qb),h81];rfl)
     | (rw [tbb (.inr (.inl qb)),h81,h86];simp only [Al_Bool_true_and,Al_Bool_false_and,Al_Bool_and_true,Bool.and_false])
     | (rw [tbb (.inr (.inl qb)),h81,h86];rfl)
     | (rw [tbb (.inr (.inl qb)),h81];simp only [Al_Bool_true_and,Al_Bool_false_and,Al_Bool_and_true,Bool.and_false])
     | (rw [tbb (.inr (.inl qb)),h81];rfl)
     | (rw [tbb (.inr (.inr (.inl qb))),h81,h86];simp only [Al_Bool_true_and,Al_Bool_false_and,Al_Bool_and_true,Bool.and_false])
     | (rw [tbb (.inr (.inr (.inl qb))),h81,h86];rfl)
     | (rw [tbb (.inr (.inr (.inl qb))),h81];simp only [Al_Bool_true_and,Al_Bool_false_and,Al_Bool_and_true,Bool.and_false])
     | (rw [tbb (.inr (.inr (.inl qb))),h81];rfl)
     | (rw [tbb (.inr (.inr (.inr (.inl qb)))),h81,h86];simp only [Al_Bool_true_and,Al_Bool_false_and,Al_Bool_and_true,Bool.and_false])
     | (rw [tbb (.inr (.inr (.inr (.inl qb)))),h81,h86];rfl)
     | (rw [tbb (.inr (.inr (.inr (.inl qb)))),h81];simp only [Al_Bool_true_and,Al_Bool_false_and,Al_Bool_and_true,Bool.and_false])
     | (rw [tbb (.inr (.inr (.inr (.inl qb)))),h81];rfl)
     | (rw [tbb (.inr (.inr (.inr (.inr qb)))),h81,h86];simp only [Al_Bool_true_and,Al_Bool_false_and,Al_Bool_and_true,Bool.and_false])
     | (rw [tbb (.inr (.inr (.inr (.inr qb)))),h81,h86];rfl)
     | (rw [tbb (.inr (.inr (.inr (.inr qb)))),h81];simp only [Al_Bool_true_and,Al_Bool_false_and,Al_Bool_and_true,Bool.and_false])
     | (rw [tbb (.inr (.inr (.inr (.inr qb)))),h81];rfl)
     | (rw [tbn q1 q4 q585 q588 q6 q9 qb11 qb12 qb13 qb14 qb15])
   refine .gG<|.gG<|.yw (.pickF Z Z)<|.az Z<|.bR<|.tR<|?_
   refine y9 Z Z λW s=>⟨?_,s.ext⟩
   first
    | (rw [tb1 q1,h10,h15];simp only [Al_Bool_true_and,Al_Bool_false_and,Al_Bool_and_true,Bool.and_false])
    | (rw [tb1 q1,h10,h15];rfl)
    | (rw [tb1 q1,h10];simp only [Al_Bool_true_and,Al_Bool_false_and,Al_Bool_and_true,Bool.and_false])
    | (rw [tb1 q1,h10];rfl)
    | (rw [tb4 q4,h26,h31];simp only [Al_Bool_true_and,Al_Bool_false_and,Al_Bool_and_true,Bool.and_false])
    | (rw [tb4 q4,h26,h31];rfl)
    | (rw [tb4 q4,h26];simp only [Al_Bool_true_and,Al_Bool_false_and,Al_Bool_and_true,Bool.and_false])
    | (rw [tb4 q4,h26];rfl)
    | (rw [tb5 (.inl q58),h43];simp only [Al_Bool_true_and,Al_Bool_false_and,Al_Bool_and_true,Bool.and_false])
    | (rw [tb5 (.inl q58),h43];rfl)
    | (rw [tb5 (.inr q58),h43];simp only [Al_Bool_true_and,Al_Bool_false_and,Al_Bool_and_true,Bool.and_false])
    | (rw [tb5 (.inr q58),h43];rfl)
    | (rw [tb6 q6,h54];simp only [Al_Bool_true_and,Al_Bool_false_and,Al_Bool_and_true,Bool.and_false])
    | (rw [tb6 q6,h54];rfl)
    | (rw [tb9 q9,h63,h68];simp only [Al_Bool_true_and,Al_Bool_false_and,Al_Bool_and_true,Bool.and_false])
    | (rw [tb9 q9,h63,h68];rfl)
    | (rw [tb9 q9,h63];simp only [Al_Bool_true_and,Al_Bool_false_and,Al_Bool_and_true,Bool.and_false])
    | (rw [tb9 q9,h63];rfl)
    | (rw [tbb (.inl qb),h81,h86];simp only [Al_Bool_true_and,Al_Bool_false_and,Al_Bool_and_true,Bool.and_false])
    | (rw [tbb (.inl qb),h81,h86];rfl)
    | (rw [tbb (.inl qb),h81];simp only [Al_Bool_true_and,Al_Bool_false_and,Al_Bool_and_true,Bool.and_false])
    | (rw [tbb (.inl qb),h81];rfl)
    | (rw [tbb (.inr (.inl qb)),h81,h86];simp only [Al_Bool_true_and,Al_Bool_false_and,Al_Bool_and_true,Bool.and_false])
    | (rw [tbb (.inr (.inl qb)),h81,h86];rfl)
    | (rw [tbb (.inr (.inl qb)),h81];simp only [Al_Bool_true_and,Al_Bool_false_and,Al_Bool_and_true,Bool.and_false])
    | (rw [tbb (.inr (.inl qb)),h81];rfl)
    | (rw [tbb (.inr (.inr (.inl qb))),h81,h86];simp only [Al_Bool_true_and,Al_Bool_false_and,Al_Bool_and_true,Bool.and_false])
    | (rw [tbb (.inr (.inr (.inl qb))),h81,h86];rfl)
    | (rw [tbb (.inr (.inr (.inl qb))),h81];simp only [Al_Bool_true_and,Al_Bool_false_and,Al_Bool_and_true,Bool.and_false])
    | (rw [tbb (.inr (.inr (.inl qb))),h81];rfl)
    | (rw [tbb (.inr (.inr (.inr (.inl qb)))),h81,h86];simp only [Al_Bool_true_and,Al_Bool_false_and,Al_Bool_and_true,Bool.and_false])
    | (rw [tbb (.inr (.inr (.inr (.inl qb)))),h81,h86];rfl)
    | (rw [tbb (.inr (.inr (.inr (.inl qb)))),h81];simp only [Al_Bool_true_and,Al_Bool_false_and,Al_Bool_and_true,Bool.and_false])
    | (rw [tbb (.inr (.inr (.inr (.inl qb)))),h81];rfl)
    | (rw [tbb (.inr (.inr (.inr (.inr qb)))),h81,h86];simp only [Al_Bool_true_and,Al_Bool_false_and,Al_Bool_and_true,Bool.and_false])
    | (rw [tbb (.inr (.inr (.inr (.inr qb)))),h81,h86];rfl)
    | (rw [tbb (.inr (.inr (.inr (.inr qb)))),h81];simp only [Al_Bool_true_and,Al_Bool_false_and,Al_Bool_and_true,Bool.and_false])
    | (rw [tbb (.inr (.inr (.inr (.inr qb)))),h81];rfl)
    | (rw [tbn q1 q4 q585 q588 q6 q9 qb11 qb12 qb13 qb14 qb15])
  refine .gG<|.gG<|.gG<|.yw (.pickF Z Z)<|.mv Z<|.gG<|.gG<|.yw (.pickF Z Z)<|.az Z<|.bR<|.tR<|?_
  refine y9 Z Z λW s=>⟨?_,s.ext⟩
  first
   | (rw [tb1 q1,h10,h15];simp only [Al_Bool_true_and,Al_Bool_false_and,Al_Bool_and_true,Bool.and_false])
   | (rw [tb1 q1,h10,h15];rfl)
   | (rw [tb1 q1,h10];simp only [Al_Bool_true_and,Al_Bool_false_and,Al_Bool_and_true,Bool.and_false])
   | (rw [tb1 q1,h10];rfl)
   | (rw [tb4 q4,h26,h31];simp only [Al_Bool_true_and,Al_Bool_false_and,Al_Bool_and_true,Bool.and_false])
   | (rw [tb4 q4,h26,h31];rfl)
   | (rw [tb4 q4,h26];simp only [Al_Bool_true_and,Al_Bool_false_and,Al_Bool_and_true,Bool.and_false])
   | (rw [tb4 q4,h26];rfl)
   | (rw [tb5 (.inl q58),h43];simp only [Al_Bool_true_and,Al_Bool_false_and,Al_Bool_and_true,Bool.and_false])
   | (rw [tb5 (.inl q58),h43];rfl)
   | (rw [tb5 (.inr q58),h43];simp only [Al_Bool_true_and,Al_Bool_false_and,Al_Bool_and_true,Bool.and_false])
   | (rw [tb5 (.inr q58),h43];rfl)
   | (rw [tb6 q6,h54];simp only [Al_Bool_true_and,Al_Bool_false_and,Al_Bool_and_true,Bool.and_false])
   | (rw [tb6 q6,h54];rfl)
   | (rw [tb9 q9,h63,h68];simp only [Al_Bool_true_and,Al_Bool_false_and,Al_Bool_and_true,Bool.and_false])
   | (rw [tb9 q9,h63,h68];rfl)
   | (rw [tb9 q9,h63];simp only [Al_Bool_true_and,Al_Bool_false_and,Al_Bool_and_true,Bool.and_false])
   | (rw [tb9 q9,h63];rfl)
   | (rw [tbb (.inl qb),h81,h86];simp only [Al_Bool_true_and,Al_Bool_false_and,Al_Bool_and_true,Bool.and_false])
   | (rw [tbb (.inl qb),h81,h86];rfl)
   | (rw [tbb (.inl qb),h81];simp only [Al_Bool_true_and,Al_Bool_false_and,Al_Bool_and_true,Bool.and_false])
   | (rw [tbb (.inl qb),h81];rfl)
   | (rw [tbb (.inr (.inl qb)),h81,h86];simp only [Al_Bool_true_and,Al_Bool_false_and,Al_Bool_and_true,Bool.and_false])
   | (rw [tbb (.inr (.inl qb)),h81,h86];rfl)
   | (rw [tbb (.inr (.inl qb)),h81];simp only [Al_Bool_true_and,Al_Bool_false_and,Al_Bool_and_true,Bool.and_false])
   | (rw [tbb (.inr (.inl qb)),h81];rfl)
   | (rw [tbb (.inr (.inr (.inl qb))),h81,h86];simp only [Al_Bool_true_and,Al_Bool_false_and,Al_Bool_and_true,Bool.and_false])
   | (rw [tbb (.inr (.inr (.inl qb))),h81,h86];rfl)
   | (rw [tbb (.inr (.inr (.inl qb))),h81];simp only [Al_Bool_true_and,Al_Bool_false_and,Al_Bool_and_true,Bool.and_false])
   | (rw [tbb (.inr (.inr (.inl qb))),h81];rfl)
   | (rw [tbb (.inr (.inr (.inr (.inl qb)))),h81,h86];simp only [Al_Bool_true_and,Al_Bool_false_and,Al_Bool_and_true,Bool.and_false])
   | (rw [tbb (.inr (.inr (.inr (.inl qb)))),h81,h86];rfl)
   | (rw [tbb (.inr (.inr (.inr (.inl qb)))),h81];simp only [Al_Bool_true_and,Al_Bool_false_and,Al_Bool_and_true,Bool.and_false])
   | (rw [tbb (.inr (.inr (.inr (.inl qb)))),h81];rfl)
   | (rw [tbb (.inr (.inr (.inr (.inr qb)))),h81,h86];simp only [Al_Bool_true_and,Al_Bool_false_and,Al_Bool_and_true,Bool.and_false])
   | (rw [tbb (.inr (.inr (.inr (.inr qb)))),h81,h86];rfl)
   | (rw [tbb (.inr (.inr (.inr (.inr qb)))),h81];simp only [Al_Bool_true_and,Al_Bool_false_and,Al_Bool_and_true,Bool.and_false])
   | (rw [tbb (.inr (.inr (.inr (.inr qb)))),h81];rfl)
   | (rw [tbn q1 q4 q585 q588 q6 q9 qb11 qb12 qb13 qb14 qb15])
 have qb15:¬ op=15:=λe=>Al_of_decide_eq_false h72 (by rw [e];rfl);refine .sk<|.bN<|.tN<|.sr<|.az Z<|?_
 refine y9 Z Z λW s=>⟨?_,s.ext⟩
 first
  | (rw [tb1 q1,h10,h15];simp only [Al_Bool_true_and,Al_Bool_false_and,Al_Bool_and_true,Bool.and_false])
  | (rw [tb1 q1,h10,h15];rfl)
  | (rw [tb1 q1,h10];simp only [Al_Bool_true_and,Al_Bool_false_and,Al_Bool_and_true,Bool.and_false])
  | (rw [tb1 q1,h10];rfl)
  | (rw [tb4 q4,h26,h31];simp only [Al_Bool_true_and,Al_Bool_false_and,Al_Bool_and_true,Bool.and_false])
  | (rw [tb4 q4,h26,h31];rfl)
  | (rw [tb4 q4,h26];simp only [Al_Bool_true_and,Al_Bool_false_and,Al_Bool_and_true,Bool.and_false])
  | (rw [tb4 q4,h26];rfl)
  | (rw [tb5 (.inl q58),h43];simp only [Al_Bool_true_and,Al_Bool_false_and,Al_Bool_and_true,Bool.and_false])
  | (rw [tb5 (.inl q58),h43];rfl)
  | (rw [tb5 (.inr q58),h43];simp only [Al_Bool_true_and,Al_Bool_false_and,Al_Bool_and_true,Bool.and_false])
  | (rw [tb5 (.inr q58),h43];rfl)
  | (rw [tb6 q6,h54];simp only [Al_Bool_true_and,Al_Bool_false_and,Al_Bool_and_true,Bool.and_false])
  | (rw [tb6 q6,h54];rfl)
  | (rw [tb9 q9,h63,h68];simp only [Al_Bool_true_and,Al_Bool_false_and,Al_Bool_and_true,Bool.and_false])
  | (rw [tb9 q9,h63,h68];rfl)
  | (rw [tb9 q9,h63];simp only [Al_Bool_true_and,Al_Bool_false_and,Al_Bool_and_true,Bool.and_false])
  | (rw [tb9 q9,h63];rfl)
  | (rw [tbb (.inl qb),h81,h86];simp only [Al_Bool_true_and,Al_Bool_false_and,Al_Bool_and_true,Bool.and_false])
  | (rw [tbb (.inl qb),h81,h86];rfl)
  | (rw [tbb (.inl qb),h81];simp only [Al_Bool_true_and,Al_Bool_false_and,Al_Bool_and_true,Bool.and_false])
  | (rw [tbb (.inl qb),h81];rfl)
  | (rw [tbb (.inr (.inl qb)),h81,h86];simp only [Al_Bool_true_and,Al_Bool_false_and,Al_Bool_and_true,Bool.and_false])
  | (rw [tbb (.inr (.inl qb)),h81,h86];rfl)
  | (rw [tbb (.inr (.inl qb)),h81];simp only [Al_Bool_true_and,Al_Bool_false_and,Al_Bool_and_true,Bool.and_false])
  | (rw [tbb (.inr (.inl qb)),h81];rfl)
  | (rw [tbb (.inr (.inr (.inl qb))),h81,h86];simp only [Al_Bool_true_and,Al_Bool_false_and,Al_Bool_and_true,Bool.and_false])
  | (rw [tbb (.inr (.inr (.inl qb))),h81,h86];rfl)
  | (rw [tbb (.inr (.inr (.inl qb))),h81];simp only [Al_Bool_true_and,Al_Bool_false_and,Al_Bool_and_true,Bool.and_false])
  | (rw [tbb (.inr (.inr (.inl qb))),h81];rfl)
  | (rw [tbb (.inr (.inr (.inr (.inl qb)))),h81,h86];simp only [Al_Bool_true_and,Al_Bool_false_and,Al_Bool_and_true,Bool.and_false])
  | (rw [tbb (.inr (.inr (.inr (.inl qb)))),h81,h86];rfl)
  | (rw [tbb (.inr (.inr (.inr (.inl qb)))),h81];simp only [Al_Bool_true_and,Al_Bool_false_and,Al_Bool_and_true,Bool.and_false])
  | (rw [tbb (.inr (.inr (.inr (.inl qb)))),h81];rfl)
  | (rw [tbb (.inr (.inr (.inr (.inr qb)))),h81,h86];simp only [Al_Bool_true_and,Al_Bool_false_and,Al_Bool_and_true,Bool.and_false])
  | (rw [tbb (.inr (.inr (.inr (.inr qb)))),h81,h86];rfl)
  | (rw [tbb (.inr (.inr (.inr (.inr qb)))),h81];simp only [Al_Bool_true_and,Al_Bool_false_and,Al_Bool_and_true,Bool.and_false])
  | (rw [tbb (.inr (.inr (.inr (.inr qb)))),h81];rfl)
  | (rw [tbn q1 q4 q585 q588 q6 q9 qb11 qb12 qb13 qb14 qb15])
theorem ge16 {op:UInt8} :decide ((16:Int)<=((op.toNat:Nat):Int))=decide (16<=op.toNat):=by rw [Al_Bool_eq_iff_iff,Al_decide_eq_true_eq,Al_decide_eq_true_eq];omega
theorem le21 {op:UInt8} :decide (((op.toNat:Nat):Int)<=21)=decide (op.toNat<=21):=by rw [Al_Bool_eq_iff_iff,Al_decide_eq_true_eq,Al_decide_eq_true_eq];omega
theorem cmp_mk {op:UInt8} {nm:Str} {n:Int64} {args:List Ex} :cmpB (.mk op nm n args)=(decide (16<=op.toNat) && decide (op.toNat<=21) && decide (nm=[]) && decide (n=0) && (args.all termB && decide (args.length=2))):=by rw [<-termBs_allF];rfl
theorem isCmp_any (H:Hp) (e:Ex) (cs:List Value) (w:World) (h:Rep H (dEx .u8 e) cs) (hA:Agr H w):Calls prg 80 #[.agg cs.toArray] w λr w'=>r=.returned (.bool (cmpB e))/\Ext w w':=by
 obtain ⟨op,nm,nn,args⟩:=e;obtain ⟨pp,c,rfl,hs,hnm⟩:=ex_open h;refine Sx.enter (H:=H) func80 rfl ntmps80 rfl hA ?_;refine .sr<|.bx Z Z Z λb1=>.a Z Z<|.ns<|.fA Z Fx.field76_0<|.lD Z Fx.agg74 Hm Z<|.yw (.cast (.geq Z Z) (congrArg Value.bool (ge16)))<|.mv Z<|.b2 (λh6=>?_) (λh6=>?_)
 ·refine .gy (.fieldAddr Z Fx.field76_0)<|.gy (.load Z Fx.agg74 Hm Z)<|.gy (.cast (.leq Z Z) (congrArg Value.bool (le21)))<|.yw (.pickT Z Z)<|.mv Z<|.b2 (λh11=>?_) (λh11=>?_)
  ·refine .gy (.fieldAddr Z Fx.field76_1)<|.gy (.load Z Fx.agg9 Hm Z)<|.gy (.eqS Z Z)<|.yw (.pickT Z Z)<|.mv Z<|.b2 (λh16=>?_) (λh16=>?_)
   ·refine .gy (.fieldAddr Z Fx.field76_2)<|.gy (.load Z Fx.agg2 Hm Z)<|.gy (.cast (.eql Z Z) (congrArg Value.bool i0))<|.yw (.pickT Z Z)<|.mv Z<|.b2 (λh21=>?_) (λh21=>?_)
    ·refine .gy (.loadW Z Fx.agg76 Hm Z)<|.gy (.call Fx.call132 Z (λW s=>operands_any H op nm nn args 2 _ W h (λa _=>isTerm_any H a) s.agr))<|.yw (.pickT Z Z)<|.az Z<|?_
     refine y9 Z Z λW s=>⟨?_,s.ext⟩
     first
      | (rw [cmp_mk,h6,h11,h16,h21];simp only [Al_Bool_true_and,Al_Bool_false_and,Al_Bool_and_true,Bool.and_false])
      | (rw [cmp_mk,h6,h11,h16,h21];rfl)
      | (rw [cmp_mk,h6,h11,h16];simp only [Al_Bool_true_and,Al_Bool_false_and,Al_Bool_and_true,Bool.and_false])
      | (rw [cmp_mk,h6,h11,h16];rfl)
      | (rw [cmp_mk,h6,h11];simp only [Al_Bool_true_and,Al_Bool_false_and,Al_Bool_and_true,Bool.and_false])
      | (rw [cmp_mk,h6,h11];rfl)
      | (rw [cmp_mk,h6];simp only [Al_Bool_true_and,Al_Bool_false_and,Al_Bool_and_true,Bool.and_false])
      | (rw [cmp_mk,h6];rfl)
    refine .gG<|.gG<|.yw (.pickF Z Z)<|.az Z<|?_
    refine y9 Z Z λW s=>⟨?_,s.ext⟩
    first
     | (rw [cmp_mk,h6,h11,h16,h21];simp only [Al_Bool_true_and,Al_Bool_false_and,Al_Bool_and_true,Bool.and_false])
     | (rw [cmp_mk,h6,h11,h16,h21];rfl)
     | (rw [cmp_mk,h6,h11,h16];simp only [Al_Bool_true_and,Al_Bool_false_and,Al_Bool_and_true,Bool.and_false])
     | (rw [cmp_mk,h6,h11,h16];rfl)
     | (rw [cmp_mk,h6,h11];simp only [Al_Bool_true_and,Al_Bool_false_and,Al_Bool_and_true,Bool.and_false])
     | (rw [cmp_mk,h6,h11];rfl)
     | (rw [cmp_mk,h6];simp only [Al_Bool_true_and,Al_Bool_false_and,Al_Bool_and_true,Bool.and_false])
     | (rw [cmp_mk,h6];rfl)
   refine .gG<|.gG<|.gG<|.yw (.pickF Z Z)<|.mv Z<|.gG<|.gG<|.yw (.pickF Z Z)<|.az Z<|?_
   refine y9 Z Z λW s=>⟨?_,s.ext⟩
   first
    | (rw [cmp_mk,h6,h11,h16,h21];simp only [Al_Bool_true_and,Al_Bool_false_and,Al_Bool_and_true,Bool.and_false])
    | (rw [cmp_mk,h6,h11,h16,h21];rfl)
    | (rw [cmp_mk,h6,h11,h16];simp only [Al_Bool_true_and,Al_Bool_false_and,Al_Bool_and_true,Bool.and_false])
    | (rw [cmp_mk,h6,h11,h16];rfl)
    | (rw [cmp_mk,h6,h11];simp only [Al_Bool_true_and,Al_Bool_false_and,Al_Bool_and_true,Bool.and_false])
    | (rw [cmp_mk,h6,h11];rfl)
    | (rw [cmp_mk,h6];simp only [Al_Bool_true_and,Al_Bool_false_and,Al_Bool_and_true,Bool.and_false])
    | (rw [cmp_mk,h6];rfl)
  refine .gG<|.gG<|.gG<|.yw (.pickF Z Z)<|.mv Z<|.gG<|.gG<|.gG<|.yw (.pickF Z Z)<|.mv Z<|.gG<|.gG<|.yw (.pickF Z Z)<|.az Z<|?_
  refine y9 Z Z λW s=>⟨?_,s.ext⟩
  first
   | (rw [cmp_mk,h6,h11,h16,h21];simp only [Al_Bool_true_and,Al_Bool_false_and,Al_Bool_and_true,Bool.and_false])
   | (rw [cmp_mk,h6,h11,h16,h21];rfl)
   | (rw [cmp_mk,h6,h11,h16];simp only [Al_Bool_true_and,Al_Bool_false_and,Al_Bool_and_true,Bool.and_false])
   | (rw [cmp_mk,h6,h11,h16];rfl)
   | (rw [cmp_mk,h6,h11];simp only [Al_Bool_true_and,Al_Bool_false_and,Al_Bool_and_true,Bool.and_false])
   | (rw [cmp_mk,h6,h11];rfl)
   | (rw [cmp_mk,h6];simp only [Al_Bool_true_and,Al_Bool_false_and,Al_Bool_and_true,Bool.and_false])
   | (rw [cmp_mk,h6];rfl)
 refine .gG<|.gG<|.gG<|.yw (.pickF Z Z)<|.mv Z<|.gG<|.gG<|.gG<|.yw (.pickF Z Z)<|.mv Z<|.gG<|.gG<|.gG<|.yw (.pickF Z Z)<|.mv Z<|.gG<|.gG<|.yw (.pickF Z Z)<|.az Z<|?_
 refine y9 Z Z λW s=>⟨?_,s.ext⟩
 first
  | (rw [cmp_mk,h6,h11,h16,h21];simp only [Al_Bool_true_and,Al_Bool_false_and,Al_Bool_and_true,Bool.and_false])
  | (rw [cmp_mk,h6,h11,h16,h21];rfl)
  | (rw [cmp_mk,h6,h11,h16];simp only [Al_Bool_true_and,Al_Bool_false_and,Al_Bool_and_true,Bool.and_false])
  | (rw [cmp_mk,h6,h11,h16];rfl)
  | (rw [cmp_mk,h6,h11];simp only [Al_Bool_true_and,Al_Bool_false_and,Al_Bool_and_true,Bool.and_false])
  | (rw [cmp_mk,h6,h11];rfl)
  | (rw [cmp_mk,h6];simp only [Al_Bool_true_and,Al_Bool_false_and,Al_Bool_and_true,Bool.and_false])
  | (rw [cmp_mk,h6];rfl)
def frm1B (e:Ex):Bool:=!anyB e && !termB e
theorem frm1 {e:Ex} :frm1B e=(!anyB e && !termB e):=rfl
theorem formed1_any (H:Hp) (e:Ex):EFn H 77 [] frm1B e:=by
 intro cs w h hA;obtain ⟨op,nm,nn,args⟩:=e;obtain ⟨pp,c,rfl,hs,hnm⟩:=ex_open h;refine Sx.enter (H:=H) func77 rfl ntmps77 rfl hA ?_;refine .sr<|.bx Z Z Z λb1=>.a Z Z<|.ns<|.yw (.loadW Z Fx.agg76 Hm Z)<|.yw (.call Fx.call78 Z (λW s=>isAny_any H _ _ W h s.agr))<|.yw (.not Z)<|.mv Z<|.b2 (λh6=>?_) (λh6=>?_)
 ·refine .gy (.loadW Z Fx.agg76 Hm Z)<|.gy (.call Fx.call79 Z (λW s=>isTerm_any H _ _ W h s.agr))<|.gy (.not Z)<|.yw (.pickT Z Z)<|.az Z<|?_
  refine y9 Z Z λW s=>⟨?_,s.ext⟩
  first
   | (rw [frm1,h6,Al_Bool_true_and])
   | (rw [frm1,h6];rfl)
 refine .gG<|.gG<|.gG<|.yw (.pickF Z Z)<|.az Z<|?_
 refine y9 Z Z λW s=>⟨?_,s.ext⟩
 first
  | (rw [frm1,h6,Al_Bool_true_and])
  | (rw [frm1,h6];rfl)
theorem gtn:decide (((k:Nat):Int)<((n:Nat):Int))=decide (k<n):=by rw [Al_Bool_eq_iff_iff,Al_decide_eq_true_eq,Al_decide_eq_true_eq];omega
theorem shallow1_any (H:Hp) (e:Ex) (n b:Nat) (hd:e.depth<=1000000) (hm:MemAt H b 0 [iN n]):EFn H 72 [.pointer (some ⟨b,0,none⟩)] (λe=>decide (n<e.depth)) e:=by
 intro cs w h hA;obtain ⟨op,nm,nn,args⟩:=e;obtain ⟨pp,c,rfl,hs,hnm⟩:=ex_open h;refine Sx.enter (H:=H) func72 rfl ntmps72 rfl hA ?_;refine .sr<|.bx Z Z Z λb2=>.aq Z<|.sq<|.fL 4 [(0,0),(1,0),(2,0),(3,0)]<|.yw (.loadW Z Fx.agg76 Hm Z)<|.yw (.call Fx.call73 Z (λW s=>exprDepth_any _ H _ W h hd s.agr))<|.yw (.loadM Z Fx.agg3 hm (k:=0) Z Z)<|.yw (.cast (.gtr Z Z) (congrArg Value.bool gtn))<|.fn (tl:=[_]) Z<|.az Z<|?_
 exact y9 Z Z λW s=>⟨Z,s.ext⟩
theorem Fx.agg33:aggN prg 33=some none:=by kernel_rfl
theorem Fx.call35:callN prg 35=true:=by kernel_rfl
theorem Fx.call71:callN prg 71=true:=by kernel_rfl
theorem Fx.call72:callN prg 72=true:=by kernel_rfl
theorem Fx.call75:callN prg 75=true:=by kernel_rfl
theorem Fx.call76:callN prg 76=true:=by kernel_rfl
theorem Fx.field157_1:fieldN prg 157 1=some 1:=by kernel_rfl
theorem Fx.field157_2:fieldN prg 157 2=some 2:=by kernel_rfl
theorem Fx.sl33:slN prg 33=some 7:=by kernel_rfl
theorem Fx.zero3:zeroN prg 3=some [Go.Value.int Go.IntKind.i64 (Int.ofNat 0)]:=by kernel_rfl
theorem both_t {n:Str} (h:(splitF n).isSome=true):bothB n=(nameB (spA n) && nameB (spB n)):=by
 unfold bothB spA spB;cases hs:splitF n with
 | some x=>rfl
 | none=>rw [hs] at h;cases h
theorem both_f {n:Str} (h:(splitF n).isSome=false):bothB n=false:=by
 unfold bothB;cases hs:splitF n with
 | none=>rfl
 | some x=>rw [hs] at h;cases h
theorem spA_len (n:Str):(spA n).length<=n.length:=by
 unfold spA;rcases split_ix n with ⟨i,_,hi,e⟩ | ⟨_,e⟩
 ·rw [e];show (n.take i).length<=_;rw [Al_List_length_take];omega
 ·rw [e];exact Al_Nat_zero_le _
theorem spB_len (n:Str):(spB n).length<=n.length:=by
 unfold spB;rcases split_ix n with ⟨i,_,hi,e⟩ | ⟨_,e⟩
 ·rw [e];show (n.drop (i+1)).length<=_;rw [Al_List_length_drop];omega
 ·rw [e];exact Al_Nat_zero_le _
theorem misBs_anyF:∀ l,misBs l=l.any misB
 | []=>rfl
 | e::r=>by rw [misBs,List.any_cons,misBs_anyF r]
theorem mis5 {op:UInt8} {nm:Str} {n:Int64} {args:List Ex} (h:op=5):misB (.mk op nm n args)=((!bothB nm && !nameB nm) || args.any misB):=by subst h;rw [misB,misBs_anyF];simp
theorem mis6 {op:UInt8} {nm:Str} {n:Int64} {args:List Ex} (h:op=6\/op=8):misB (.mk op nm n args)=(!bothB nm || args.any misB):=by rcases h with rfl | rfl <;> (rw [misB,misBs_anyF];simp)
theorem misN {op:UInt8} {nm:Str} {n:Int64} {args:List Ex} (h:¬ op=5) (h6:¬ op=6) (h8:¬ op=8):misB (.mk op nm n args)=args.any misB:=by rw [misB,misBs_anyF,Al_decide_eq_false h,Al_decide_eq_false h6,Al_decide_eq_false h8];rfl
theorem misnamed_any (H:Hp) (G:Gl H) (e:Ex):EFn H 76 [] misB e:=by
 induction e using Ex.ind with | _ op nm nn args ih
 intro cs w h hA;obtain ⟨pp,c,rfl,hs,hnm⟩:=ex_open h;have hA':Agr H w:=hA;refine Sx.enter (H:=H) func76 rfl ntmps76 rfl hA ?_;refine .sr<|.bx Z Z Z λb1=>.a Z Z<|.ns<|.fA Z Fx.field76_1<|.lD Z Fx.agg9 Hm Z<|.yw (.call Fx.call20 Z (λW s=>split_any nm (by omega) W))<|.mv Z<|.yw (.extract Z Z)<|.yw (.extract Z Z)<|.yw (.extract Z Z)<|.a Z Z<|.a Z Z<|.aq Z<|.cu (X:=Bool) [(1,_)] ⟨Z,Jt⟩ (λz=>[(6,.bool z)]) (λz=>H) (λz=>[.box b1 [.int .u8 op.toNat,strV nm,.int .i64 nn.toInt,.slice pp args.length c] 76]) (λz=>z=bothB nm) ?_ λz hC=>?_
 ·
  refine .rg<|.mv Z<|.mv Z<|.b2 (λh15=>?_) (λh15=>?_)
  ·refine .gy (.move Z)<|.gy (.call Fx.call75 Z (λW s=>isName_any H G (spA nm) (by have:=spA_len nm;have:=spB_len nm;omega) W s.agr))<|.yw (.pickT Z Z)<|.mv Z<|.b2 (λh19=>?_) (λh19=>?_)
   ·exact .gy (.move Z)<|.gy (.call Fx.call75 Z (λW s=>isName_any H G (spB nm) (by have:=spA_len nm;have:=spB_len nm;omega) W s.agr))<|.yw (.pickT Z Z)<|.aq Z<|.me _ ⟨Z,Jt⟩ ⟨Z,Jt⟩ (λ_ s=>s) (by first | (rw [both_t h15,h19,Al_Bool_true_and]) | (rw [both_t h15,h19];rfl) | (rw [both_f h15]))
   exact .gG<|.gG<|.yw (.pickF Z Z)<|.aq Z<|.me _ ⟨Z,Jt⟩ ⟨Z,Jt⟩ (λ_ s=>s) (by first | (rw [both_t h15,h19,Al_Bool_true_and]) | (rw [both_t h15,h19];rfl) | (rw [both_f h15]))
  exact .gG<|.gG<|.yw (.pickF Z Z)<|.mv Z<|.gG<|.gG<|.yw (.pickF Z Z)<|.aq Z<|.me _ ⟨Z,Jt⟩ ⟨Z,Jt⟩ (λ_ s=>s) (by first | (rw [both_t h15,h19,Al_Bool_true_and]) | (rw [both_t h15,h19];rfl) | (rw [both_f h15]))
 have eb:=hC;refine .sq<|.sr<|.fA Z Fx.field76_0<|.lD Z Fx.agg74 Hm Z<|.nt<|.bk<|.sr<|.yw (.eql Z Z)<|.aq Z<|.cd Z (λh25=>?_) (λh25=>?_)
 ·have q5:op=5:=Al_UInt8_toNat_inj.1 (by have:=Al_of_decide_eq_true h25;show op.toNat=5;omega);refine .sm Z<|.yw (.not Z)<|.mv Z<|.b2 (λh29=>?_) (λh29=>?_)
  ·refine .gy (.fieldAddr Z Fx.field76_1)<|.gy (.load Z Fx.agg9 Hm Z)<|.gy (.call Fx.call75 Z (λW s=>isName_any H G nm (by have:=spA_len nm;have:=spB_len nm;omega) W s.agr))<|.gy (.not Z)<|.yw (.pickT Z Z)<|.nt<|.cd Z (λh34=>?_) (λh34=>?_)
   ·refine .sr<|.az Z<|.bR<|.tR<|?_
    refine y9 Z Z λW s=>⟨?_,s.ext⟩
    first
     | (rw [mis5 q5,<-eb,h29,h34];rfl)
     | (rw [mis5 q5,<-eb,h29,h34,Al_Bool_false_or])
     | (rw [mis5 q5,<-eb,h29];rfl)
     | (rw [mis5 q5,<-eb,h29,Al_Bool_false_and,Al_Bool_false_or])
     | (rw [mis6 (.inl q68),<-eb,h39];rfl)
     | (rw [mis6 (.inl q68),<-eb,h39,Al_Bool_false_or])
     | (rw [mis6 (.inr q68),<-eb,h39];rfl)
     | (rw [mis6 (.inr q68),<-eb,h39,Al_Bool_false_or])
     | (rw [misN q5 q686 q688])
   refine .sk<|.bN<|.tN<|.sr<|.fA Z Fx.field76_3<|.lD Z Fx.agg32 Hm Z<|.yw (.call Fx.call71 Z (λW s=>contains_any H 76 [] misB args hs Fx.call76 (λa ha=>ih a ha) W s.agr))<|.az Z<|?_
   refine y9 Z Z λW s=>⟨?_,s.ext⟩
   first
    | (rw [mis5 q5,<-eb,h29,h34];rfl)
    | (rw [mis5 q5,<-eb,h29,h34,Al_Bool_false_or])
    | (rw [mis5 q5,<-eb,h29];rfl)
    | (rw [mis5 q5,<-eb,h29,Al_Bool_false_and,Al_Bool_false_or])
    | (rw [mis6 (.inl q68),<-eb,h39];rfl)
    | (rw [mis6 (.inl q68),<-eb,h39,Al_Bool_false_or])
    | (rw [mis6 (.inr q68),<-eb,h39];rfl)
    | (rw [mis6 (.inr q68),<-eb,h39,Al_Bool_false_or])
    | (rw [misN q5 q686 q688])
  refine .gG<|.gG<|.gG<|.gG<|.yw (.pickF Z Z)<|.nt<|.cF Z<|.sk<|.bN<|.tN<|.sr<|.fA Z Fx.field76_3<|.lD Z Fx.agg32 Hm Z<|.yw (.call Fx.call71 Z (λW s=>contains_any H 76 [] misB args hs Fx.call76 (λa ha=>ih a ha) W s.agr))<|.az Z<|?_
  refine y9 Z Z λW s=>⟨?_,s.ext⟩
  first
   | (rw [mis5 q5,<-eb,h29,h34];rfl)
   | (rw [mis5 q5,<-eb,h29,h34,Al_Bool_false_or])
   | (rw [mis5 q5,<-eb,h29];rfl)
   | (rw [mis5 q5,<-eb,h29,Al_Bool_false_and,Al_Bool_false_or])
   | (rw [mis6 (.inl q68),<-eb,h39];rfl)
   | (rw [mis6 (.inl q68),<-eb,h39,Al_Bool_false_or])
   | (rw [mis6 (.inr q68),<-eb,h39];rfl)
   | (rw [mis6 (.inr q68),<-eb,h39,Al_Bool_false_or])
   | (rw [misN q5 q686 q688])
 have q5:¬ op=5:=λe=>Al_of_decide_eq_false h25 (by rw [e];rfl);refine .sq<|.sr<|.yw (.eql Z Z)<|.aq Z<|.cr Z (λh35=>?_) (λh35=>?_)
 ·have q68:op=6:=Al_UInt8_toNat_inj.1 (by have:=Al_of_decide_eq_true h35;show op.toNat=6;omega);refine .sk<|.tN<|.cT Z<|.sm Z<|.yw (.not Z)<|.nt<|.cd Z (λh39=>?_) (λh39=>?_)
  ·refine .sr<|.az Z<|.bR<|.tR<|?_
   refine y9 Z Z λW s=>⟨?_,s.ext⟩
   first
    | (rw [mis5 q5,<-eb,h29,h34];rfl)
    | (rw [mis5 q5,<-eb,h29,h34,Al_Bool_false_or])
    | (rw [mis5 q5,<-eb,h29];rfl)
    | (rw [mis5 q5,<-eb,h29,Al_Bool_false_and,Al_Bool_false_or])
    | (rw [mis6 (.inl q68),<-eb,h39];rfl)
    | (rw [mis6 (.inl q68),<-eb,h39,Al_Bool_false_or])
    | (rw [mis6 (.inr q68),<-eb,h39];rfl)
    | (rw [mis6 (.inr q68),<-eb,h39,Al_Bool_false_or])
    | (rw [misN q5 q686 q688])
  refine .sk<|.bN<|.tN<|.sr<|.fA Z Fx.field76_3<|.lD Z Fx.agg32 Hm Z<|.yw (.call Fx.call71 Z (λW s=>contains_any H 76 [] misB args hs Fx.call76 (λa ha=>ih a ha) W s.agr))<|.az Z<|?_
  refine y9 Z Z λW s=>⟨?_,s.ext⟩
  first
   | (rw [mis5 q5,<-eb,h29,h34];rfl)
   | (rw [mis5 q5,<-eb,h29,h34,Al_Bool_false_or])
   | (rw [mis5 q5,<-eb,h29];rfl)
   | (rw [mis5 q5,<-eb,h29,Al_Bool_false_and,Al_Bool_false_or])
   | (rw [mis6 (.inl q68),<-eb,h39];rfl)
   | (rw [mis6 (.inl q68),<-eb,h39,Al_Bool_false_or])
   | (rw [mis6 (.inr q68),<-eb,h39];rfl)
   | (rw [mis6 (.inr q68),<-eb,h39,Al_Bool_false_or])
   | (rw [misN q5 q686 q688])
 have q686:¬ op=6:=λe=>Al_of_decide_eq_false h35 (by rw [e];rfl);refine .rg<|.yw (.eql Z Z)<|.aq Z<|.cr Z (λh35=>?_) (λh35=>?_)
 ·have q68:op=8:=Al_UInt8_toNat_inj.1 (by have:=Al_of_decide_eq_true h35;show op.toNat=8;omega);refine .sm Z<|.yw (.not Z)<|.nt<|.cd Z (λh39=>?_) (λh39=>?_)
  ·refine .sr<|.az Z<|.bR<|.tR<|?_
   refine y9 Z Z λW s=>⟨?_,s.ext⟩
   first
    | (rw [mis5 q5,<-eb,h29,h34];rfl)
    | (rw [mis5 q5,<-eb,h29,h34,Al_Bool_false_or])
    | (rw [mis5 q5,<-eb,h29];rfl)
    | (rw [mis5 q5,<-eb,h29,Al_Bool_false_and,Al_Bool_false_or])
    | (rw [mis6 (.inl q68),<-eb,h39];rfl)
    | (rw [mis6 (.inl q68),<-eb,h39,Al_Bool_false_or])
    | (rw [mis6 (.inr q68),<-eb,h39];rfl)
    | (rw [mis6 (.inr q68),<-eb,h39,Al_Bool_false_or])
    | (rw [misN q5 q686 q688])
  refine .sk<|.bN<|.tN<|.sr<|.fA Z Fx.field76_3<|.lD Z Fx.agg32 Hm Z<|.yw (.call Fx.call71 Z (λW s=>contains_any H 76 [] misB args hs Fx.call76 (λa ha=>ih a ha) W s.agr))<|.az Z<|?_
  refine y9 Z Z λW s=>⟨?_,s.ext⟩
  first
   | (rw [mis5 q5,<-eb,h29,h34];rfl)
   | (rw [mis5 q5,<-eb,h29,h34,Al_Bool_false_or])
   | (rw [mis5 q5,<-eb,h29];rfl)
   | (rw [mis5 q5,<-eb,h29,Al_Bool_false_and,Al_Bool_false_or])
   | (rw [mis6 (.inl q68),<-eb,h39];rfl)
   | (rw [mis6 (.inl q68),<-eb,h39,Al_Bool_false_or])
   | (rw [mis6 (.inr q68),<-eb,h39];rfl)
   | (rw [mis6 (.inr q68),<-eb,h39,Al_Bool_false_or])
   | (rw [misN q5 q686 q688])
 have q688:¬ op=8:=λe=>Al_of_decide_eq_false h35 (by rw [e];rfl);refine .sk<|.bN<|.tN<|.sr<|.fA Z Fx.field76_3<|.lD Z Fx.agg32 Hm Z<|.yw (.call Fx.call71 Z (λW s=>contains_any H 76 [] misB args hs Fx.call76 (λa ha=>ih a ha) W s.agr))<|.az Z<|?_
 refine y9 Z Z λW s=>⟨?_,s.ext⟩
 first
  | (rw [mis5 q5,<-eb,h29,h34];rfl)
  | (rw [mis5 q5,<-eb,h29,h34,Al_Bool_false_or])
  | (rw [mis5 q5,<-eb,h29];rfl)
  | (rw [mis5 q5,<-eb,h29,Al_Bool_false_and,Al_Bool_false_or])
  | (rw [mis6 (.inl q68),<-eb,h39];rfl)
  | (rw [mis6 (.inl q68),<-eb,h39,Al_Bool_false_or])
  | (rw [mis6 (.inr q68),<-eb,h39];rfl)
  | (rw [mis6 (.inr q68),<-eb,h39,Al_Bool_false_or])
  | (rw [misN q5 q686 q688])
def FFn (H:Hp) (gf:FuncId) (q:Fm->Bool) (f:Fm):Prop:=∀ (cs:List Value) (W:World),Rep H (dFm .u8 f) cs->Agr H W->Calls prg gf #[.agg cs.toArray] W λr W'=>r=.returned (.bool (q f))/\Ext W W'
theorem fm_alls (q:Fm->Bool):∀ l,Fm.alls q l=l.all (Fm.all q)
 | []=>rfl
 | f::r=>by rw [Fm.alls,Al_List_all_cons,fm_alls q r]
theorem fm_all (q:Fm->Bool) (op:UInt8) (nm fd:Str) (a b:Int64) (ex:List Ex) (args:List Fm):Fm.all q (.mk op nm fd a b ex args)=(q (.mk op nm fd a b ex args) && args.all (Fm.all q)):=by rw [Fm.all,fm_alls]
theorem allF_take {l:List Fm} {p:Fm->Bool} (hk:k<l.length) (h:(l.take k).all p=true) (hp:p l[k]=true):(l.take (k+1)).all p=true:=by
 rw [List.take_succ,List.all_append,h,List.getElem?_eq_getElem hk];simp [hp]
theorem allF_at {l:List Fm} {p:Fm->Bool} (hk:k<l.length) (hp:p l[k]=false):l.all p=false:=List.all_eq_false.2 ⟨_,Al_List_getElem_mem hk,by rw [hp];decide⟩
theorem every_any (H:Hp) (gf:FuncId) (q p:Fm->Bool) (hf:callN prg gf=true) (hg:∀ f,p f=true->FFn H gf q f) (f:Fm):f.all p=true->∀ (cs:List Value) (w:World),Rep H (dFm .u8 f) cs->Agr H w ->
 Calls prg 35 #[.agg cs.toArray,.func (.func gf) #[] #[]] w λr w'=>r=.returned (.bool (f.all q))/\Ext w w':=by
 induction f using Fm.ind with | _ op nm fd a b ex args ih
 intro hp cs w h hA;rw [fm_all,Al_Bool_and_eq_true] at hp;obtain ⟨p1,c1,p2,c2,rfl,hs1,hs2,hnm,hfd⟩:=fm_open h;have hcap:=hs2.cap;refine Sx.enter (H:=H) func35 rfl ntmps35 rfl hA ?_;refine .sr<|.bx Z Z Z λb2=>.aq Z<|.sq<|.sm Z<|.yw (.loadW Z Fx.agg35 Hm Z)<|.yw (.callV (fi:=[]) (ca:=[]) Z hf Z (λW s=>hg _ hp.1 _ W h s.agr))<|.yw (.not Z)<|.nt<|.cd Z (λh10=>?_) (λh10=>?_)
 ·refine .sr<|.az Z<|.tR<|?_
  refine y9 Z Z λW s=>⟨?_,s.ext⟩
  first
   | (rw [fm_all,show q (.mk op nm fd a b ex args)=false by simpa using h10];rfl)
   | (rw [fm_all,allF_at hk (by simpa using h21)];simp)
   | (rw [fm_all,hal,show q (.mk op nm fd a b ex args)=true by simpa using h10];rfl)
 refine .sk<|.tN<|.sq<|.sr<|.fA Z Fx.field35_6<|.lD Z Fx.agg33 Hm Z<|.yw (.lenSl Fx.sl33 Z)<|.mv Z<|.nt<|.bk<|.lp (X:=Nat) [(1,_),(12,_),(13,_)] ⟨Z,Z,Z,Jt⟩ [_] (λk=>[(14,iN k)]) (λk=>H) (λk=>[]) (λk=>k<=args.length/\(args.take k).all (Fm.all q)=true) (λk=>args.length - k) 0 (λ_ s=>s) ⟨Z,Jt⟩ ⟨Al_Nat_zero_le _,Z⟩ λk hC=>?_
 obtain ⟨hk0,hal⟩:=hC;refine .sr<|.yw (.lss Z Z)<|.nt<|.sq<|.ce Z (λh15=>?_) (λh15=>?_)
 ·have hk:k<args.length:=by omega
  obtain ⟨bE,oE,cE,hpE,rE,lE,mE⟩:=hs2.elem (map_at (f:=dFm .u8) hk);cases hpE;have hpk:=Al_List_all_eq_true.1 hp.2 _ (Al_List_getElem_mem hk);refine .sk<|.tN<|.sq<|.bk<|.sr<|.yw (.indexSl Fx.sl33 Z Z Z (by omega) (q:=oE+k * 7) Z)<|.yw (.loadMW Z Fx.agg35 mE lE)<|.al Fx.zero35 Z λb6=>.sV .head Z Z Fx.size35 lE rE.one Z<|.ns<|.yw (.loadW Z Fx.agg35 Hm lE)<|.mv Z<|.yw (.call Fx.call35 Z (λW s=>ih _ (Al_List_getElem_mem hk) hpk cE W rE s.agr))<|.yw (.not Z)<|.nt<|.cd Z (λh21=>?_) (λh21=>?_)
  ·refine .sr<|.az Z<|.bR<|.tR<|.tR<|.bR<|.tR<|?_
   refine y9 Z Z λW s=>⟨?_,s.ext⟩
   first
    | (rw [fm_all,show q (.mk op nm fd a b ex args)=false by simpa using h10];rfl)
    | (rw [fm_all,allF_at hk (by simpa using h21)];simp)
    | (rw [fm_all,hal,show q (.mk op nm fd a b ex args)=true by simpa using h10];rfl)
  exact .sk<|.bN<|.tN<|.rg<|.yw (.add Z Z w7)<|.mv Z<|.nt<|.ag (k+1) ⟨Z,Jt⟩ ⟨Z,Z,Z,Jt⟩ (λ_ s=>s.pick [1] [_] Z Z) ⟨by omega,allF_take hk hal (by simpa using h21)⟩ (by omega)
 obtain rfl:k=args.length:=by omega
 rw [Al_List_take_length] at hal;refine .ex<|.eb<|.sr<|.az Z<|?_
 refine y9 Z Z λW s=>⟨?_,s.ext⟩
 first
  | (rw [fm_all,show q (.mk op nm fd a b ex args)=false by simpa using h10];rfl)
  | (rw [fm_all,allF_at hk (by simpa using h21)];simp)
  | (rw [fm_all,hal,show q (.mk op nm fd a b ex args)=true by simpa using h10];rfl)
theorem shallow_any (H:Hp) (f:Fm) (hd:(λf:Fm=>f.ex.all λe=>decide (e.depth<=1000000)) f=true):FFn H 36 shalB f:=by
 intro cs w h hA;obtain ⟨op,nm,fd,a,b,ex,args⟩:=f;obtain ⟨p1,c1,p2,c2,rfl,hs1,hs2,hnm,hfd⟩:=fm_open h;refine Sx.enter (H:=H) func36 rfl ntmps36 rfl hA ?_;refine .sr<|.bx Z Z Z λb1=>.a Z Z<|.ns<|.al Fx.zero3 Z λb3=>.st .head Z Z Fx.size3 Z (nb Z) Z<|.nt<|.sq<|.sr<|.fA Z Fx.field35_0<|.lD Z Fx.agg31 mem1 Z<|.yw (.eql Z Z)<|.nt<|.cd Z (λh6=>?_) (λh6=>?_)
 ·have q3:op=3:=Al_UInt8_toNat_inj.1 (by have:=Al_of_decide_eq_true h6;show op.toNat=3;omega);refine .rg<|.lD Z Fx.agg3 Hm Z<|.yw (.add Z Z (c:=((9:Nat):Int)) (by decide))<|.st .head Z Z Fx.size3 Z (nb Z) Z<|.nt<|.sq<|?_
  refine freezeBox λH1 u1 m1=>?_;refine .rg<|.fA Z Fx.field35_5<|.lD Z Fx.agg32 Hm Z<|.yw (.mkF Z Z)<|.yw (.call Fx.call71 Z (λW s=>contains_any H1 72 [.pointer (some ⟨b3,0,none⟩)] (λe=>decide (9<e.depth)) ex (hs1.up u1.up) Fx.call72 (λa ha=>shallow1_any H1 a 9 b3 (by have:=Al_List_all_eq_true.1 hd a ha;exact Al_of_decide_eq_true this) m1) W s.agr))<|.yw (.not Z)<|.az Z<|?_
  refine y9 Z Z λW s=>⟨?_,s.ext⟩
  first
   | (unfold shalB;rw [show (Fm.mk op nm fd a b ex args).op=3 from q3];rfl)
   | (unfold shalB;simp only [show ¬ (Fm.mk op nm fd a b ex args).op=3 from q3,Al_if_false];rfl)
 have q3:¬ op=3:=λe=>Al_of_decide_eq_false h6 (by rw [e];rfl);refine .sk<|.tN<|.sq<|?_
 refine freezeBox λH1 u1 m1=>?_;refine .rg<|.fA Z Fx.field35_5<|.lD Z Fx.agg32 Hm Z<|.yw (.mkF Z Z)<|.yw (.call Fx.call71 Z (λW s=>contains_any H1 72 [.pointer (some ⟨b3,0,none⟩)] (λe=>decide (8<e.depth)) ex (hs1.up u1.up) Fx.call72 (λa ha=>shallow1_any H1 a 8 b3 (by have:=Al_List_all_eq_true.1 hd a ha;exact Al_of_decide_eq_true this) m1) W s.agr))<|.yw (.not Z)<|.az Z<|?_
 refine y9 Z Z λW s=>⟨?_,s.ext⟩
 first
  | (unfold shalB;rw [show (Fm.mk op nm fd a b ex args).op=3 from q3];rfl)
  | (unfold shalB;simp only [show ¬ (Fm.mk op nm fd a b ex args).op=3 from q3,Al_if_false];rfl)
variable {a:Int64}
theorem nam_mk {op:UInt8} {nm fd:Str} {b:Int64} {ex:List Ex} {args:List Fm} :namdB (.mk op nm fd a b ex args)=(!((fsOf op).nm && !nameB nm || (fsOf op).fd && !nameB fd) && !ex.any misB):=by rw [<-misBs_anyF];rfl
theorem named_any (H:Hp) (G:Gl H) (Gt:Gf H) (f:Fm):FFn H 37 namdB f:=by
 intro cs w h hA;obtain ⟨op,nm,fd,a,b,ex,args⟩:=f;obtain ⟨p1,c1,p2,c2,rfl,hs1,hs2,hnm,hfd⟩:=fm_open h;refine Sx.enter (H:=H) func37 rfl ntmps37 rfl hA ?_;refine .sr<|.bx Z Z Z λb1=>.a Z Z<|.ns<|.fA Z Fx.field35_0<|.lD Z Fx.agg31 Hm Z<|.yw (.call (v:=.agg (fsC (fsOf op)).toArray) Fx.call74 Z (λW s=>fshape_any H Gt op W s.agr))<|.al Fx.zero157 Z λb3=>.sW .head Z Z Fx.size157 (by simp [fsC,Value.oneCell',strV]) Z<|.nt<|.sq<|.cu (X:=Bool) [(1,_)] ⟨Z,Jt⟩ (λz=>[(24,.bool z)]) (λz=>H) (λz=>[.box b3 (fsC (fsOf op)) 157,.box b1 [.int .u8 op.toNat,strV nm,strV fd,.int .i64 a.toInt,.int .i64 b.toInt,.slice p1 ex.length c1,.slice p2 args.length c2] 35]) (λz=>z=((fsOf op).nm && !nameB nm || (fsOf op).fd && !nameB fd)) ?_ λz hC=>?_
 ·
  refine .rg<|.fA Z Fx.field157_1<|.lD Z Fx.agg4 Hm Z<|.mv Z<|.b2 (λh9=>?_) (λh9=>?_)
  ·refine .gy (.fieldAddr Z Fx.field35_1)<|.gy (.load Z Fx.agg9 mem1 Z)<|.gy (.call Fx.call75 Z (λW s=>isName_any H G nm (by omega) W s.agr))<|.gy (.not Z)<|.yw (.pickT Z Z)<|.mv Z<|.b2 (λh15=>?_) (λh15=>?_)
   ·exact .gG<|.gG<|.gG<|.gV<|.gV<|.gV<|.gV<|.gG<|.yw (.pickT Z Z)<|.nt<|.me _ ⟨Z,Jt⟩ ⟨Z,Jt⟩ (λ_ s=>s) (by first | simp only [h9,h15,h18,Al_Bool_true_and,Al_Bool_false_and,Bool.true_or,Al_Bool_false_or] | simp only [h9,h15,Al_Bool_true_and,Al_Bool_false_and,Bool.true_or,Al_Bool_false_or] | simp only [h9,h18,Al_Bool_true_and,Al_Bool_false_and,Bool.true_or,Al_Bool_false_or])
   refine .gy (.fieldAddr Z Fx.field157_2)<|.gy (.load Z Fx.agg4 Hm Z)<|.gy (.move Z)<|.b2 (λh18=>?_) (λh18=>?_)
   ·exact .gy (.fieldAddr Z Fx.field35_2)<|.gy (.load Z Fx.agg9 mem1 Z)<|.gy (.call Fx.call75 Z (λW s=>isName_any H G fd (by omega) W s.agr))<|.gy (.not Z)<|.gy (.pickT Z Z)<|.yw (.pickF Z Z)<|.nt<|.me _ ⟨Z,Jt⟩ ⟨Z,Jt⟩ (λ_ s=>s) (by first | simp only [h9,h15,h18,Al_Bool_true_and,Al_Bool_false_and,Bool.true_or,Al_Bool_false_or] | simp only [h9,h15,Al_Bool_true_and,Al_Bool_false_and,Bool.true_or,Al_Bool_false_or] | simp only [h9,h18,Al_Bool_true_and,Al_Bool_false_and,Bool.true_or,Al_Bool_false_or])
   exact .gG<|.gG<|.gG<|.gG<|.gy (.pickF Z Z)<|.yw (.pickF Z Z)<|.nt<|.me _ ⟨Z,Jt⟩ ⟨Z,Jt⟩ (λ_ s=>s) (by first | simp only [h9,h15,h18,Al_Bool_true_and,Al_Bool_false_and,Bool.true_or,Al_Bool_false_or] | simp only [h9,h15,Al_Bool_true_and,Al_Bool_false_and,Bool.true_or,Al_Bool_false_or] | simp only [h9,h18,Al_Bool_true_and,Al_Bool_false_and,Bool.true_or,Al_Bool_false_or])
  refine .gG<|.gG<|.gG<|.gG<|.yw (.pickF Z Z)<|.mv Z<|.gy (.fieldAddr Z Fx.field157_2)<|.gy (.load Z Fx.agg4 Hm Z)<|.gy (.move Z)<|.b2 (λh18=>?_) (λh18=>?_)
  ·exact .gy (.fieldAddr Z Fx.field35_2)<|.gy (.load Z Fx.agg9 mem1 Z)<|.gy (.call Fx.call75 Z (λW s=>isName_any H G fd (by omega) W s.agr))<|.gy (.not Z)<|.gy (.pickT Z Z)<|.yw (.pickF Z Z)<|.nt<|.me _ ⟨Z,Jt⟩ ⟨Z,Jt⟩ (λ_ s=>s) (by first | simp only [h9,h15,h18,Al_Bool_true_and,Al_Bool_false_and,Bool.true_or,Al_Bool_false_or] | simp only [h9,h15,Al_Bool_true_and,Al_Bool_false_and,Bool.true_or,Al_Bool_false_or] | simp only [h9,h18,Al_Bool_true_and,Al_Bool_false_and,Bool.true_or,Al_Bool_false_or])
  exact .gG<|.gG<|.gG<|.gG<|.gy (.pickF Z Z)<|.yw (.pickF Z Z)<|.nt<|.me _ ⟨Z,Jt⟩ ⟨Z,Jt⟩ (λ_ s=>s) (by first | simp only [h9,h15,h18,Al_Bool_true_and,Al_Bool_false_and,Bool.true_or,Al_Bool_false_or] | simp only [h9,h15,Al_Bool_true_and,Al_Bool_false_and,Bool.true_or,Al_Bool_false_or] | simp only [h9,h18,Al_Bool_true_and,Al_Bool_false_and,Bool.true_or,Al_Bool_false_or])
 have en:=hC;refine .cd Z (λh24=>?_) (λh24=>?_)
 ·refine .sr<|.az Z<|.tR<|?_
  refine y9 Z Z λW s=>⟨?_,s.ext⟩
  first
   | (rw [nam_mk,<-en,h24];rfl)
   | (rw [nam_mk,<-en,h24,Bool.not_false,Al_Bool_true_and])
 refine .sk<|.tN<|.sr<|.fA Z Fx.field35_5<|.lD Z Fx.agg32 mem1 Z<|.yw (.call Fx.call71 Z (λW s=>contains_any H 76 [] misB ex hs1 Fx.call76 (λa _=>misnamed_any H G a) W s.agr))<|.yw (.not Z)<|.az Z<|?_
 refine y9 Z Z λW s=>⟨?_,s.ext⟩
 first
  | (rw [nam_mk,<-en,h24];rfl)
  | (rw [nam_mk,<-en,h24,Bool.not_false,Al_Bool_true_and])
theorem misBs_any:∀ l,misBs l=l.any misB
 | []=>rfl
 | e::r=>by rw [misBs,List.any_cons,misBs_any r]
theorem termBs_all:∀ l,termBs l=l.all termB
 | []=>rfl
 | e::r=>by rw [termBs,Al_List_all_cons,termBs_all r]
theorem misB_mk (op:UInt8) (nm:Str) (n:Int64) (args:List Ex):misB (.mk op nm n args)=((decide (op=5) && !bothB nm && !nameB nm) || ((decide (op=6) || decide (op=8)) && !bothB nm) || args.any misB):=by rw [misB,misBs_any]
def tnB (op:UInt8) (nm:Str):Bool :=
 if op=5\/op=6\/op=8 then (match splitF nm with | some (a,b)=>nameB a && nameB b | none=>decide (op=5) && nameB nm) else true
theorem nins46:∀ {l:Str},l.all insB=true->splitF l=none
 | [],_=>rfl
 | c::r,h=>by
  rw [Al_List_all_cons,Al_Bool_and_eq_true] at h
  have hc:¬ c=46:=by
   rintro rfl;exact absurd h.1 (by decide)
  rw [splitF,Al_if_neg hc,nins46 h.2];rfl
theorem name_split {n:Str} (h:nameB n=true):splitF n=none:=nins46 (nameB_facts h).2.2.1
theorem tn_mis (op:UInt8) (nm:Str):((decide (op=5) && !bothB nm && !nameB nm) || ((decide (op=6) || decide (op=8)) && !bothB nm))=!tnB op nm:=by
 unfold tnB bothB
 by_cases h5:op=5
 ·subst h5;rw [Al_if_pos (.inl Z)];cases hs:splitF nm with
  | none=>simp
  | some x =>
   have hn:nameB nm=false:=by
    cases h:nameB nm with
    | false=>rfl
    | true=>rw [name_split h] at hs;cases hs
   rw [hn];simp
 ·by_cases h6:op=6\/op=8
  ·rw [Al_if_pos (.inr h6)];have e:(decide (op=6) || decide (op=8))=true:=by rcases h6 with rfl | rfl <;> decide
   rw [e,Al_decide_eq_false h5];cases hs:splitF nm with
   | none=>simp
   | some x=>simp
  ·have e:(decide (op=6) || decide (op=8))=false:=by
    simp only [Al_not_or] at h6;rw [Al_decide_eq_false h6.1,Al_decide_eq_false h6.2];rfl
   rw [Al_if_neg (by rintro (h | h | h);exact h5 h;exact h6 (.inl h);exact h6 (.inr h)),e,Al_decide_eq_false h5];rfl
theorem op_cases {q:UInt8->Prop} [DecidablePred q] (h:∀ i∈List.range 256,q (UInt8.ofNat i)) (op:UInt8):q op:=by
 have:=h op.toNat (Al_List_mem_range.2 op.toNat_lt)
 rwa [Al_UInt8_ofNat_toNat] at this
def trmB (op:UInt8) (nm:Str) (n:Int64) (k:Nat):Bool :=
 (decide (op=1) || decide (op=4) || decide (op=5) || decide (op=6) || decide (op=8) || decide (op=9) || (decide (11<=op.toNat) && decide (op.toNat<=15))) && decide (arR op.toNat=(k:Nat)) && (decide (op=1) || decide (n=0)) && decide (0<=n.toInt) && (decide (nm=[]) || decide (op=5) || decide (op=6) || decide (op=8))
theorem decLn {m:Int} (h:m=(k:Nat)):decide (m=(n:Nat))=decide (n=k):=by
 rw [h,Al_Bool_eq_iff_iff,Al_decide_eq_true_eq,Al_decide_eq_true_eq];omega
theorem term_rec (op:UInt8) (nm:Str) (n:Int64) (args:List Ex):termB (.mk op nm n args)=(trmB op nm n args.length && args.all termB):=by
 rw [termB,termBs_all];unfold trmB
 have r1:decide (n=0)=true->decide (0<=n.toInt)=true:=by
  intro h;rw [Al_decide_eq_true_eq] at h;subst h
  decide
 have r2:decide (args.length=0)=true->args.all termB=true:=by
  intro h;rw [Al_decide_eq_true_eq] at h;rw [Al_List_eq_nil_of_length_eq_zero h];rfl
 generalize args.all termB=z at r2|-;generalize decide (0<=n.toInt)=c at r1|-;generalize decide (n=0)=b at r1|-;generalize decide (nm=[])=a
 by_cases h1:op=1
 ·subst h1;rw [decLn (k:=0) (by decide)];generalize decide (args.length=0)=d at r2|-;simp only [Al_if_true]
  revert a b c d z;decide
 by_cases h4:op=4
 ·subst h4;rw [decLn (k:=0) (by decide)];generalize decide (args.length=0)=d at r2|-;simp only [Al_if_neg (show ¬ (4:UInt8)=1 by decide),Al_if_true]
  revert a b c d z;decide
 by_cases h5:op=5\/op=8
 ·rw [Al_if_neg h1,Al_if_neg h4,Al_if_pos h5];have e:arR op.toNat=0:=by rcases h5 with rfl | rfl <;> decide
  rw [decLn (k:=0) (by rw [e];rfl)];generalize decide (args.length=0)=d at r2|-;rcases h5 with rfl | rfl <;> (revert a b c d z;decide)
 by_cases h6:op=6
 ·subst h6;rw [decLn (k:=1) (by decide)];generalize decide (args.length=1)=d;clear r2;simp only [Al_if_neg (show ¬ (6:UInt8)=1 by decide),Al_if_neg (show ¬ (6:UInt8)=4 by decide),Al_if_neg (show ¬ ((6:UInt8)=5\/(6:UInt8)=8) by decide),Al_if_true]
  revert a b c d z;decide
 by_cases h9:op=9
 ·subst h9;rw [decLn (k:=1) (by decide)];generalize decide (args.length=1)=d;clear r2;simp only [Al_if_neg (show ¬ (9:UInt8)=1 by decide),Al_if_neg (show ¬ (9:UInt8)=4 by decide),Al_if_neg (show ¬ ((9:UInt8)=5\/(9:UInt8)=8) by decide),Al_if_neg (show ¬ (9:UInt8)=6 by decide),Al_if_true]
  revert a b c d z;decide
 rw [Al_if_neg h1,Al_if_neg h4,Al_if_neg h5,Al_if_neg h6,Al_if_neg h9];clear r2
 by_cases hb:op=11\/op=12\/op=13\/op=14\/op=15
 ·rw [Al_if_pos hb];have e:arR op.toNat=2:=by rcases hb with rfl | rfl | rfl | rfl | rfl <;> decide
  rw [decLn (k:=2) (by rw [e];rfl)];generalize decide (args.length=2)=d;rcases hb with rfl | rfl | rfl | rfl | rfl <;> (revert a b c d z;decide)
 ·rw [Al_if_neg hb]
  have e:(decide (op=1) || decide (op=4) || decide (op=5) || decide (op=6) || decide (op=8) || decide (op=9) || (decide (11<=op.toNat) && decide (op.toNat<=15)))=false:=by
   have:=op_cases (q:=λop=>op=1\/op=4\/(op=5\/op=8)\/op=6\/op=9\/(op=11\/op=12\/op=13\/op=14\/op=15)\/(decide (op=1) || decide (op=4) || decide (op=5) || decide (op=6) || decide (op=8) || decide (op=9) || (decide (11<=op.toNat) && decide (op.toNat<=15)))=false) (by decide +kernel) op;rcases this with h | h | h | h | h | h | h
   ·exact absurd h h1
   ·exact absurd h h4
   ·exact absurd h h5
   ·exact absurd h h6
   ·exact absurd h h9
   ·exact absurd h hb
   ·exact h
  rw [e];rfl
theorem Fx.call77:callN prg 77=true:=by kernel_rfl
theorem Fx.call80:callN prg 80=true:=by kernel_rfl
theorem Fx.field157_0:fieldN prg 157 0=some 0:=by kernel_rfl
theorem Fx.field157_3:fieldN prg 157 3=some 3:=by kernel_rfl
theorem Fx.field157_4:fieldN prg 157 4=some 4:=by kernel_rfl
theorem Fx.field157_5:fieldN prg 157 5=some 5:=by kernel_rfl
theorem Fx.field157_6:fieldN prg 157 6=some 6:=by kernel_rfl
end Go.Proofs.YtidclioghdbphaaGreatDoor
