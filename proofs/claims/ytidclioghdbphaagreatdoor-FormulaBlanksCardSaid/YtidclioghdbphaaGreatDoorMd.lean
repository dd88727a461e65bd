/- Texts of the proof, one behind the other. -/
import Derived.Test.YtidclioghdbphaaGreatDoorMc
import Derived.Shelf.Strings.Builder1
import Derived.Shelf.Strings.Builder2
import Derived.Shelf.Strings.OnBuilder
import Derived.Shelf.Strings.BuilderF
import Derived.Shelf.Strings.BuilderK
import Derived.Shelf.Strings.Builder2Cap
import Derived.Shelf.Strconv.Itoa0
import Derived.Shelf.Strconv.Itoa1
import Derived.Shelf.LaysM
import Derived.Shelf.Strconv.Itoa2
import Derived.Shelf.Strconv.Itoa3
import Derived.Shelf.Strconv.Itoa4
import Derived.Shelf.Strings.Search1
import Derived.Shelf.Strings.Search2
import Derived.Shelf.Strings.Cut
import Derived.Shelf.Strings.Shaped
import Derived.Shelf.Strings.Prefix
import Derived.Shelf.Strings.BuilderCap
import Derived.Test.YtidclioghdbphaaGreatDoorProg
import Derived.Lib.ItoaNum
set_option linter.all false
set_option maxRecDepth 100000
namespace Go.Proofs.YtidclioghdbphaaGreatDoor
open Go.RowKit Go.Par Go.Sx Tryz
theorem u8w {c:UInt8} (h:48<=c.toNat):IntKind.u8.wrap ((c.toNat:Int) - 48)=((c.toNat - 48:Nat):Int):=by
 have key:∀ i∈List.range 256,IntKind.u8.wrap (i:Int)=(i:Int):=by decide +kernel
 rw [show (c.toNat:Int) - 48=((c.toNat - 48:Nat):Int) by omega];exact key _ (Al_List_mem_range.2 (by have:=c.toNat_lt;omega))
theorem dig_rng {c:UInt8} (h:digB c=true):48<=c.toNat/\c.toNat<=57:=by
 have key:∀ i∈List.range 256,digB (UInt8.ofNat i)=true->48<=i/\i<=57:=by decide +kernel
 exact key c.toNat (Al_List_mem_range.2 c.toNat_lt) (by rw [Al_UInt8_ofNat_toNat];exact h)
def valE (t:Tk):Nat:=if t.k=3 then (if numV t.t<=9223372036854775807 then 0 else 2) else 1
def valV (t:Tk):Nat:=if t.k=3/\numV t.t<=9223372036854775807 then numV t.t else 0
theorem val_ok {t:Tk} (h:t.k=3) (hn:numV t.t<=9223372036854775807):valE t=0/\valV t=numV t.t:=⟨by unfold valE;rw [Al_if_pos h,Al_if_pos hn],by unfold valV;rw [Al_if_pos ⟨h,hn⟩]⟩
theorem val_big {t:Tk} (h:t.k=3) (hn:¬ numV t.t<=9223372036854775807):valE t=2/\valV t=0:=⟨by unfold valE;rw [Al_if_pos h,Al_if_neg hn],by unfold valV;rw [Al_if_neg (λk=>hn k.2)]⟩
theorem val_no {t:Tk} (h:¬ t.k=3):valE t=1/\valV t=0:=⟨by unfold valE;rw [Al_if_neg h],by unfold valV;rw [Al_if_neg (λk=>h k.1)]⟩
theorem value_any (t:Tk) (hd:t.k=3->pre digB t.t=t.t.length/\¬ t.t=[]) (hl:t.t.length<=1000000) (w:World) :
 Calls prg 158 #[.agg (cTk .u8 t).toArray] w λr w'=>r=.returned (.tuple #[iN (valV t),iN (valE t)])/\Ext w w':=by
 refine y6 func158 Z ntmps158 Z ?_;refine .sr<|.bx Z Z Z λb1=>.a Z Z<|.aq Z<|.sq<|.sq<|.fL 16 [(0,0),(1,0),(2,0),(3,0),(4,0),(5,0),(6,0),(7,0),(8,0),(9,0),(10,0),(11,0),(12,0),(13,0),(14,0),(15,0)]<|.fA Z Fx.field108_0<|.lD Z Fx.agg106 Hm Z<|.yw (.neq Z Z)<|.mv Z<|.b2 (λh10=>?_) (λh10=>?_)
 ·have hk:¬ t.k=3:=λe=>Al_of_decide_eq_true h10 (by rw [e];rfl);obtain ⟨hv1,hv2⟩:=val_no hk;refine .gG<|.gG<|.gG<|.yw (.pickT Z Z)<|.mv Z<|.gG<|.gG<|.gG<|.gG<|.gG<|.gG<|.gG<|.fn (tl:=[_]) Z<|.yw (.pickT Z Z)<|.nt<|.cT Z<|.sr<|.a Z Z<|.az Z<|.tR<|?_
  refine y7 Z (.cons (.tmp Z) (.cons (.tmp Z) .nil)) rfl λW s=>⟨?_,s.ext⟩
  first
   | (rw [hv1,hv2];rfl)
   | (rw [hv1,hv2,Al_List_take_length];rfl)
   | (rw [hv1,hv2,Al_List_take_length])
 have hk:t.k=3:=Al_UInt8_toNat_inj.1 (by have:=Al_Classical_not_not.1 (Al_of_decide_eq_false h10);exact Int.ofNat.inj this);obtain ⟨hd1,hd2⟩:=hd hk;have hall:=Al_List_all_eq_true.1 (pre_all hd1);refine .yg Z Z (.fieldAddr Z Fx.field108_1) Z<|.yg Z Z (.load Z Fx.agg9 Hm Z) Z<|.yg Z Z (.cast (.eqS Z Z) (congrArg Value.bool (Al_decide_eq_false hd2))) Z<|.yw (.pickF Z Z)<|.mv Z<|.yg Z Z (.fieldAddr Z Fx.field108_1) Z<|.yg Z Z (.load Z Fx.agg9 Hm Z) Z<|.yg Z Z (.call Fx.call146 Z (λW s=>prefix_any 153 digB Fx.call153 digit_any t.t (by omega) W)) Z<|.yg Z Z (.fieldAddr Z Fx.field108_1) Z<|.yg Z Z (.load Z Fx.agg9 Hm Z) Z<|.yg Z Z (.lenS Fx.str9 Z) Z<|.yg Z Z (.cast (.neq Z Z) (congrArg Value.bool (Al_decide_eq_false (by rw [hd1];simp)))) Z<|.fn (tl:=[_]) Z<|.yw (.pickF Z Z)<|.nt<|.cF Z<|.sk<|.tN<|.sr<|.aq Z<|.sq<|.sr<|.fA Z Fx.field108_1<|.lD Z Fx.agg9 Hm Z<|.yw (.lenS Fx.str9 Z)<|.mv Z<|.nt<|.bk<|.lp (X:=Nat) [(1,_),(26,_)] ⟨Z,Z,Jt⟩ [_] (λk=>[(27,iN k),(4,iN (numV (t.t.take k)))]) (λk=>(⟨λ_=>none,0⟩:Hp)) (λk=>[]) (λk=>k<=t.t.length/\numV (t.t.take k)<=9223372036854775807) (λk=>t.t.length - k) 0 (λ_ s=>s) ⟨Z,Z,Jt⟩ ⟨Al_Nat_zero_le _,by simp [numV_zero]⟩ λk hC=>?_
 obtain ⟨hk0,hv0⟩:=hC;refine .sr<|.yw (.lss Z Z)<|.nt<|.sq<|.ce Z (λh28=>?_) (λh28=>?_)
 ·have hlt:k<t.t.length:=by omega
  obtain ⟨c,hc⟩:∃ c,c=t.t[k]:=⟨_,Z⟩;obtain ⟨hc1,hc2⟩:=dig_rng (hall c (by rw [hc];exact Al_List_getElem_mem hlt));have hst:numV (t.t.take (k+1))=10 * numV (t.t.take k)+(c.toNat - 48):=numV_step (by rw [hc];exact List.getElem?_eq_getElem hlt);have hle:=numV_take t.t (k+1);rw [hst] at hle;refine .sk<|.tN<|.sq<|.bk<|.sm Z<|.a Z Z<|.ns<|.fA Z Fx.field108_1<|.lD Z Fx.agg9 Hm Z<|.mv Z<|.yw (.idxS Fx.str9 Z Z Z (b:=c) (j:=k) (by rw [hc];exact List.getElem?_eq_getElem hlt))<|.yw (.sub Z Z (u8w hc1))<|.yw (.conv Z Fx.int5 Fx.int2 (c:=((c.toNat - 48:Nat):Int)) (w6 (by omega)))<|.aq Z<|.sq<|.sm Z<|.mv Z<|.yw (.sub Z Z (c:=((9223372036854775807 - (c.toNat - 48):Nat):Int)) ((w6 (by omega)).trans (by omega)))<|.yw (.quo Z Z (by decide) (c:=(((9223372036854775807 - (c.toNat - 48)) / 10:Nat):Int)) (by rw [Al_Int_tdiv_eq_ediv_of_nonneg (by omega)];exact (w6 (by omega)).trans (by omega)))<|.yw (.gtr Z Z)<|.nt<|.ce Z (λh40=>?_) (λh40=>?_)
  ·obtain ⟨hv1,hv2⟩:=val_big hk (show ¬ numV t.t<=9223372036854775807 by omega);refine .sr<|.a Z Z<|.az Z<|.tR<|.bR<|.tR<|.tR<|.bR<|.tR<|?_
   refine y7 Z (.cons (.tmp Z) (.cons (.tmp Z) .nil)) rfl λW s=>⟨?_,s.ext⟩
   first
    | (rw [hv1,hv2];rfl)
    | (rw [hv1,hv2,Al_List_take_length];rfl)
    | (rw [hv1,hv2,Al_List_take_length])
  have hb:10 * numV (t.t.take k)+(c.toNat - 48)<=9223372036854775807:=by omega
  exact .sk<|.tN<|.rg<|.mv Z<|.yw (.mul Z Z (c:=((10 * numV (t.t.take k):Nat):Int)) ((w6 (by omega)).trans (by omega)))<|.mv Z<|.yw (.add Z Z (c:=((10 * numV (t.t.take k)+(c.toNat - 48):Nat):Int)) ((w6 (by omega)).trans (by omega)))<|.a Z Z<|.nl<|.bN<|.tN<|.rg<|.yw (.add Z Z w7)<|.mv Z<|.nt<|.ag (k+1) ⟨Z,by rw [hst];rfl,Jt⟩ ⟨Z,Z,Jt⟩ (λ_ s=>s) ⟨by omega,by rw [hst];omega⟩ (by omega)
 obtain rfl:k=t.t.length:=by omega
 rw [Al_List_take_length] at hv0;obtain ⟨hv1,hv2⟩:=val_ok hk hv0;refine .ex<|.eb<|.sm Z<|.a Z Z<|.az Z<|?_
 refine y7 Z (.cons (.tmp Z) (.cons (.tmp Z) .nil)) rfl λW s=>⟨?_,s.ext⟩
 first
  | (rw [hv1,hv2];rfl)
  | (rw [hv1,hv2,Al_List_take_length];rfl)
  | (rw [hv1,hv2,Al_List_take_length])
variable {H:Hp} {tp:Option Addr} {tc:Nat} {q:Rq}
theorem tk_num {l:Tks} (K:Tkf H l tp tc) (hq:q.i<l.length):(tkf l q.i).k=3->pre digB (tkf l q.i).t=(tkf l q.i).t.length/\¬ (tkf l q.i).t=[]:=K.num _ (tkf_mem hq)
variable {n:Nat}
theorem i64_fit (h:n<=9223372036854775807):(Int64.ofNat n).toInt=(n:Int):=by
 rw [Al_Int64_toInt_ofNat_of_lt (by omega)]
theorem nbV_rng {l:Tks} :0<=(q.nbV l).toInt/\(q.nbV l).toInt<=9223372036854775807:=by
 unfold Rq.nbV
 split
 ·rename_i h;rw [Al_Bool_and_eq_true] at h;have h2:=Al_of_decide_eq_true h.2;rw [i64_fit h2];omega
 ·decide
variable {w0 W:World} {bs:List Res} {b:Nat} {ro rv:Value} {bd:Bool}
theorem number_f {l:Tks} {rd dn:Bool} (K:Tkf H l tp tc) (hq:q.i<l.length) (s:St H w0 (.box b [.slice tp l.length tc,iN q.i,ro,rv,.bool rd,.bool dn,.bool bd,iN q.off,iN q.er] 102::bs) W) :
 Calls prg 110 #[.pointer (some ⟨b,0,none⟩)] W λe W'=>∃ _:Unit,(True)/\e=.returned (.int .i64 (q.nbV l).toInt)/\St H w0 (.box b [.slice tp l.length tc,iN ((q.nbS l).i),ro,rv,.bool rd,.bool dn,.bool bd,iN ((q.nbS l).off),iN ((q.nbS l).er)] 102::bs) W':=by
 have hcap:=K.rep.cap;refine enterS func110 rfl ntmps110 rfl s ?_;refine .sr<|.aq Z<|.sq<|.sm Z<|.nC Z<|.fA Z Fx.field102_8<|.lD Z Fx.agg29 Hm Z<|.yw (.neq Z Z)<|.mv Z<|.b2 (λh10=>?_) (λh10=>?_)
 ·have hbad:¬ q.nbB l=true:=λe=>by have:=(nbB_er e).1;simp [this] at h10
  have e1:q.nbS l=q.fail l 8:=by unfold Rq.nbS;rw [Al_if_neg hbad]
  have e2:q.nbV l=0:=by unfold Rq.nbV;rw [Al_if_neg (λe=>hbad (by rw [Al_Bool_and_eq_true] at e;exact e.1))]
  rw [e1,e2];refine .gG<|.gG<|.gG<|.gG<|.yw (.pickT Z Z)<|.nt<|.cT Z<|.sm Z<|.cs (X:=Unit) Fx.call104 Z (λW s=>fail_f K hq 8 (s.p1_1 [0] Z)) Z λ_ _=>.ns<|.az Z<|.tR<|?_
  refine y9 Z Z λW s=>?_;exact ⟨(),Jt,Z,s.p1_1 [0] rfl⟩
 have h0:q.er=0:=by have:=Al_of_decide_eq_false h10;omega
 refine .gy (.move Z)<|.gd Z Z<|.cs (X:=Unit) Fx.call98 Z (λW s=>token_f K hq  (s.p1_1 [0] Z)) Z λ_ _=>.gy (.fld Z (fld_f0 _ _ _))<|.gy (.neq Z Z)<|.yw (.pickF Z Z)<|.nt<|.cd Z (λh15=>?_) (λh15=>?_)
 ·have hbad:¬ q.nbB l=true:=λe=>by have:=(nbB_er e).2;simp [this] at h15
  have e1:q.nbS l=q.fail l 8:=by unfold Rq.nbS;rw [Al_if_neg hbad]
  have e2:q.nbV l=0:=by unfold Rq.nbV;rw [Al_if_neg (λe=>hbad (by rw [Al_Bool_and_eq_true] at e;exact e.1))]
  rw [e1,e2];refine .sm Z<|.cs (X:=Unit) Fx.call104 Z (λW s=>fail_f K hq 8 (s.p1_1 [0] Z)) Z λ_ _=>.ns<|.az Z<|.tR<|?_
  refine y9 Z Z λW s=>?_;exact ⟨(),Jt,Z,s.p1_1 [0] rfl⟩
 have hk:(tkf l q.i).k=3:=Al_UInt8_toNat_inj.1 (by have:=Al_of_decide_eq_false h15;show (tkf l q.i).k.toNat=3;omega);have hok:q.nbB l=true:=by unfold Rq.nbB;rw [Al_decide_eq_true h0,Al_decide_eq_true hk];rfl
 refine .sk<|.tN<|.sm Z<|.cs (X:=Unit) Fx.call98 Z (λW s=>token_f K hq  (s.p1_1 [0] Z)) Z λ_ _=>.yw (.call Fx.call158 Z λW s=>value_any (tkf l q.i) (tk_num K hq) (Al_Nat_le_trans (K.short _ (tkf_mem hq)) (by decide)) W)<|.mv Z<|.yw (.extract Z Z)<|.yw (.extract Z Z)<|.a Z Z<|.aq Z<|.sq<|.sm Z<|.yw (.neq Z Z)<|.nt<|.ce Z (λh25=>?_) (λh25=>?_)
 ·have hv:¬ numV (tkf l q.i).t<=9223372036854775807:=λe=>by rw [(val_ok hk e).1] at h25;omega
  obtain ⟨v1,v2⟩:=val_big hk hv;have e1:q.nbS l=q.fail l (valE (tkf l q.i)):=by rw [v1];unfold Rq.nbS;rw [Al_if_pos hok,Al_if_neg (by unfold Rq.fit;rw [Al_decide_eq_false hv];decide)]
  have e2:q.nbV l=0:=by unfold Rq.nbV;rw [Al_if_neg (by unfold Rq.fit;rw [Al_decide_eq_false hv,Bool.and_false];decide)]
  rw [e1,e2];refine .sm Z<|.mv Z<|.cs (X:=Unit) Fx.call104 Z (λW s=>fail_f K hq (valE (tkf l q.i)) (s.p1_1 [0] Z)) Z λ_ _=>?_

  refine .ns<|.az Z<|.tR<|?_
  refine y9 Z Z λW s=>?_;exact ⟨(),Jt,Z,s.p1_1 [0] rfl⟩
 have hv:numV (tkf l q.i).t<=9223372036854775807:=Classical.byContradiction λe=>by rw [(val_big hk e).1] at h25;omega
 obtain ⟨v1,v2⟩:=val_ok hk hv;have hf:q.fit l=true:=by unfold Rq.fit;rw [Al_decide_eq_true hv]
 have e1:q.nbS l=q.nx:=by unfold Rq.nbS;rw [Al_if_pos hok,Al_if_pos hf]
 have e2:q.nbV l=Int64.ofNat (numV (tkf l q.i).t):=by unfold Rq.nbV;rw [hok,hf];rfl
 rw [e1,e2,i64_fit hv];have hi:=K.gd.last _ hq (by rw [hk];decide);have hi2:q.nx.i=q.i+1:=rfl;rw [v2];refine .sk<|.tN<|.sm Z<|.nC Z<|.fA Z Fx.field102_1<|.lD Z Fx.agg3 Hm Z<|.yw (.add Z Z (c:=((q.nx.i:Nat):Int)) ((w6 (by omega)).trans (by show _=((q.i+1:Nat):Int);omega)))<|.nC Z<|.fA Z Fx.field102_1<|.st .head Z Z Fx.size3 Z (nb Z) Z<|.ns<|.mv Z<|.az Z<|?_
 refine y9 Z Z λW s=>?_;exact ⟨(),Jt,Z,s.p1_1 [0] rfl⟩
theorem pair_f {l:Tks} {rd dn:Bool} (K:Tkf H l tp tc) (hq:q.i<l.length) (op:UInt8) (s:St H w0 (.box b [.slice tp l.length tc,iN q.i,ro,rv,.bool rd,.bool dn,.bool bd,iN q.off,iN q.er] 102::bs) W) :
 Calls prg 112 #[.pointer (some ⟨b,0,none⟩),.int .u8 op.toNat] W λe W'=>∃ _:Unit,(True)/\e=.returned (.agg [.int .u8 op.toNat,strV (q.paN l),strV (q.paF l),.int .i64 0,.int .i64 0,.slice none 0 0,.slice none 0 0].toArray)/\St H w0 (.box b [.slice tp l.length tc,iN ((q.paS l).i),ro,rv,.bool rd,.bool dn,.bool bd,iN ((q.paS l).off),iN ((q.paS l).er)] 102::bs) W':=by
 refine enterS func112 rfl ntmps112 rfl s ?_;refine .sr<|.al Fx.zero35 Z λb4=>.ns<|.mv Z<|.mv Z<|.cs (X:=Unit) Fx.call113 Z (λW s=>name_f K hq  (s.p2_2 [1,0] Z)) Z λ_ _=>.yw (.build Z (Fx.bld35_0_1 _ _))<|.al Fx.zero35 Z λb5=>.sX .head Z Z Fx.size35 Z<|.ns<|.mv Z<|.cs (X:=Unit) Fx.call114 Z (λW s=>expect_f K (wi_nm K.gd.last hq) [46] (s.p3_3 [1,0,2] Z)) Z λ_ _=>.ns<|.mv Z<|.cs (X:=Unit) Fx.call113 Z (λW s=>name_f K (wi_ex K.gd.last (wi_nm K.gd.last hq))  (s.p3_3 [0,1,2] Z)) Z λ_ _=>.fA Z Fx.field35_2<|.st upd1 Z Z Fx.size9 Z (nb Z) Z<|.ns<|.yw (.loadW Z Fx.agg35 mem1 Z)<|.sX upd2 Z Z Fx.size35 Z<|.nt<|.rt<|?_
 refine y8 Z (.cell Z Fx.agg35 mem2 rfl) λW s=>?_;exact ⟨(),Jt,Z,s.p3_1 [0] rfl⟩
theorem window_f {l:Tks} {rd dn:Bool} (K:Tkf H l tp tc) (hq:q.i<l.length) (op:UInt8) (s:St H w0 (.box b [.slice tp l.length tc,iN q.i,ro,rv,.bool rd,.bool dn,.bool bd,iN q.off,iN q.er] 102::bs) W) :
 Calls prg 154 #[.pointer (some ⟨b,0,none⟩),.int .u8 op.toNat] W λe W'=>∃ _:Unit,(True)/\e=.returned (.agg [.int .u8 op.toNat,strV [],strV [],.int .i64 (q.wiA l).toInt,.int .i64 (q.wiB l).toInt,.slice none 0 0,.slice none 0 0].toArray)/\St H w0 (.box b [.slice tp l.length tc,iN ((q.wiS l).i),ro,rv,.bool rd,.bool dn,.bool bd,iN ((q.wiS l).off),iN ((q.wiS l).er)] 102::bs) W':=by
 refine enterS func154 rfl ntmps154 rfl s ?_;refine .sr<|.al Fx.zero35 Z λb4=>.ns<|.mv Z<|.yw (.build Z (Fx.bld35_0_4 _ _))<|.al Fx.zero35 Z λb5=>.sX .head Z Z Fx.size35 Z<|.nt<|.sq<|.sm Z<|.cs (X:=Unit) Fx.call107 Z (λW s=>accept_f K hq [91] (s.p3_3 [2,0,1] Z)) Z λ_ _=>.nt<|.cd Z (λh9=>?_) (λh9=>?_)
 ·have a9:Rq.ac l [91] q=true:=h9;rw [acF_T a9];have e1:q.wiA l=q.nx.nbV l:=by unfold Rq.wiA;rw [Al_if_pos a9]
  have e2:q.wiB l=((q.nx.nbS l).exS l [44]).nbV l:=by unfold Rq.wiB;rw [Al_if_pos a9]
  have e3:q.wiS l=(((q.nx.nbS l).exS l [44]).nbS l).exS l [93]:=by unfold Rq.wiS;rw [Al_if_pos a9]
  rw [e1,e2,e3];refine .sm Z<|.cs (X:=Unit) Fx.call110 Z (λW s=>number_f K (wi_ac K.gd.last hq a9)  (s.p3_3 [0,1,2] Z)) Z λ_ _=>.fA Z Fx.field35_3<|.st upd1 Z Z Fx.size3 Z (nb Z) Z<|.ns<|.mv Z<|.cs (X:=Unit) Fx.call114 Z (λW s=>expect_f K (wi_nb K.gd.last (wi_ac K.gd.last hq a9)) [44] (s.p3_3 [0,1,2] Z)) Z λ_ _=>.ns<|.mv Z<|.cs (X:=Unit) Fx.call110 Z (λW s=>number_f K (wi_ex K.gd.last (wi_nb K.gd.last (wi_ac K.gd.last hq a9)))  (s.p3_3 [0,1,2] Z)) Z λ_ _=>.fA Z Fx.field35_4<|.st upd1 Z Z Fx.size3 Z (nb Z) Z<|.nt<|.rg<|.mv Z<|.cs (X:=Unit) Fx.call114 Z (λW s=>expect_f K (wi_nb K.gd.last (wi_ex K.gd.last (wi_nb K.gd.last (wi_ac K.gd.last hq a9)))) [93] (s.p3_3 [0,1,2] Z)) Z λ_ _=>.ns<|.yw (.loadW Z Fx.agg35 mem1 Z)<|.sX upd2 Z Z Fx.size35 Z<|.nt<|.rt<|?_
  refine y8 Z (.cell Z Fx.agg35 mem2 rfl) λW s=>?_;exact ⟨(),Jt,Z,s.p3_1 [0] rfl⟩
 have a9:Rq.ac l [91] q=false:=h9;rw [acF_F a9];have e1:q.wiA l=0:=by unfold Rq.wiA;rw [Al_if_neg (by rw [a9];decide)]
 have e2:q.wiB l=-1:=by unfold Rq.wiB;rw [Al_if_neg (by rw [a9];decide)]
 have e3:q.wiS l=q:=by unfold Rq.wiS;rw [Al_if_neg (by rw [a9];decide)]
 rw [e1,e2,e3];refine .sk<|.tN<|.sr<|.yw (.loadW Z Fx.agg35 mem1 Z)<|.sX upd2 Z Z Fx.size35 Z<|.nt<|.rt<|?_
 refine y8 Z (.cell Z Fx.agg35 mem2 rfl) λW s=>?_;exact ⟨(),Jt,Z,s.p3_1 [0] rfl⟩
theorem neg_i64 {x:Int64} (h:0<=x.toInt/\x.toInt<=9223372036854775807):IntKind.i64.wrap (0 - x.toInt)=(-x).toInt:=by
 rw [Go.Sx.w64 (by omega) (by omega),Int64.toInt_neg,Int.bmod_eq_of_le (by omega) (by omega)];omega
theorem bound_f {l:Tks} {rd dn:Bool} (K:Tkf H l tp tc) (hq:q.i<l.length) (s:St H w0 (.box b [.slice tp l.length tc,iN q.i,ro,rv,.bool rd,.bool dn,.bool bd,iN q.off,iN q.er] 102::bs) W) :
 Calls prg 180 #[.pointer (some ⟨b,0,none⟩)] W λe W'=>∃ _:Unit,(True)/\e=.returned (.int .i64 (q.boV l).toInt)/\St H w0 (.box b [.slice tp l.length tc,iN ((q.boS l).i),ro,rv,.bool rd,.bool dn,.bool bd,iN ((q.boS l).off),iN ((q.boS l).er)] 102::bs) W':=by
 refine enterS func180 rfl ntmps180 rfl s ?_;refine .sr<|.aq Z<|.sq<|.sm Z<|.cs (X:=Unit) Fx.call107 Z (λW s=>accept_f K hq [45] (s.p1_1 [0] Z)) Z λ_ _=>.nt<|.cd Z (λh4=>?_) (λh4=>?_)
 ·have a4:Rq.ac l [45] q=true:=h4;rw [acF_T a4];have e1:q.boV l=-(q.nx.nbV l):=by unfold Rq.boV;rw [Al_if_pos a4]
  have e3:q.boS l=q.nx.nbS l:=by unfold Rq.boS;rw [Al_if_pos a4]
  rw [e1,e3];refine .sm Z<|.cs (X:=Unit) Fx.call110 Z (λW s=>number_f K (wi_ac K.gd.last hq a4)  (s.p1_1 [0] Z)) Z λ_ _=>.yw (.neg Z (c:=(-(q.nx.nbV l)).toInt) (neg_i64 nbV_rng))<|.az Z<|.tR<|?_
  refine y9 Z Z λW s=>?_;exact ⟨(),Jt,Z,s.p1_1 [0] rfl⟩
 have a4:Rq.ac l [45] q=false:=h4;rw [acF_F a4];have e1:q.boV l=q.nbV l:=by unfold Rq.boV;rw [Al_if_neg (by rw [a4];decide)]
 have e3:q.boS l=q.nbS l:=by unfold Rq.boS;rw [Al_if_neg (by rw [a4];decide)]
 rw [e1,e3];refine .sk<|.tN<|.sm Z<|.cs (X:=Unit) Fx.call110 Z (λW s=>number_f K hq  (s.p1_1 [0] Z)) Z λ_ _=>.az Z<|?_
 refine y9 Z Z λW s=>?_;exact ⟨(),Jt,Z,s.p1_1 [0] rfl⟩
theorem among_f {l:Tks} {rd dn:Bool} (K:Tkf H l tp tc) (hq:q.i<l.length) (op:UInt8) (s:St H w0 (.box b [.slice tp l.length tc,iN q.i,ro,rv,.bool rd,.bool dn,.bool bd,iN q.off,iN q.er] 102::bs) W) :
 Calls prg 157 #[.pointer (some ⟨b,0,none⟩),.int .u8 op.toNat] W λe W'=>∃ _:Unit,(True)/\e=.returned (.agg [.int .u8 op.toNat,strV (q.nmV l),strV [],.int .i64 ((q.ama l).boV l).toInt,.int .i64 ((q.amb l).boV l).toInt,.slice none 0 0,.slice none 0 0].toArray)/\St H w0 (.box b [.slice tp l.length tc,iN ((q.amS l).i),ro,rv,.bool rd,.bool dn,.bool bd,iN ((q.amS l).off),iN ((q.amS l).er)] 102::bs) W':=by
 refine enterS func157 rfl ntmps157 rfl s ?_;refine .sr<|.al Fx.zero35 Z λb4=>.ns<|.mv Z<|.mv Z<|.cs (X:=Unit) Fx.call113 Z (λW s=>name_f K hq  (s.p2_2 [1,0] Z)) Z λ_ _=>.yw (.build Z (Fx.bld35_0_1 _ _))<|.al Fx.zero35 Z λb5=>.sX .head Z Z Fx.size35 Z<|.ns<|.mv Z<|.cs (X:=Unit) Fx.call114 Z (λW s=>expect_f K (wi_nm K.gd.last hq) [105,110] (s.p3_3 [1,0,2] Z)) Z λ_ _=>.ns<|.mv Z<|.cs (X:=Unit) Fx.call180 Z (λW s=>bound_f K (wi_ex K.gd.last (wi_nm K.gd.last hq))  (s.p3_3 [0,1,2] Z)) Z λ_ _=>.fA Z Fx.field35_3<|.st upd1 Z Z Fx.size3 Z (nb Z) Z<|.ns<|.mv Z<|.cs (X:=Unit) Fx.call114 Z (λW s=>expect_f K (wi_bo K.gd.last (wi_ex K.gd.last (wi_nm K.gd.last hq))) [46,46] (s.p3_3 [0,1,2] Z)) Z λ_ _=>.ns<|.mv Z<|.cs (X:=Unit) Fx.call180 Z (λW s=>bound_f K (wi_ex K.gd.last (wi_bo K.gd.last (wi_ex K.gd.last (wi_nm K.gd.last hq))))  (s.p3_3 [0,1,2] Z)) Z λ_ _=>.fA Z Fx.field35_4<|.st upd1 Z Z Fx.size3 Z (nb Z) Z<|.ns<|.yw (.loadW Z Fx.agg35 mem1 Z)<|.sX upd2 Z Z Fx.size35 Z<|.nt<|.rt<|?_
 refine y8 Z (.cell Z Fx.agg35 mem2 rfl) λW s=>?_;exact ⟨(),Jt,Z,s.p3_1 [0] rfl⟩
end Go.Proofs.YtidclioghdbphaaGreatDoor
namespace Go.Sx
open Go.RowKit Go.Par
section
variable {dfs:List Deferred} {P:Program} {n:Nat} {L:Sl} {H:Hp} {w0:World} {bs:List Res} {Q:Exit->Act->World->Prop} {ops:Array Oper} {rest:List Oper} {K:Act->World->Prop}
variable {d:Option Tmp} {ty:TypeId} {pos:String} {aft:Array Edge} {v:Value} {t:Tmp} {x y:Operand} {T:TypeId}
variable {N hn:Nat} {pa:List (Nat × Oper × Value)} {E:Sl->Hp->List Res->Prop} {fr:List (Nat × Nat × Oper)} {i k:Nat}
theorem St.perm {W:World} {bs':List Res} (s:St H w0 bs W) (h:bs.Perm bs'):St H w0 bs' W :=
 ⟨s.ext,s.agr,λz hz=>s.own z (h.mem_iff.2 hz),h.pairwise s.apart (λ{x y} k=>Res.apart.symm k),s.lo⟩
theorem St.mid {W:World} {a d c e:List Res} (s:St H w0 (a++(d++(c++e))) W):St H w0 (a++(c++(d++e))) W :=
 s.perm (List.Perm.append_left a (by rw [<-Al_List_append_assoc,<-Al_List_append_assoc];exact List.Perm.append_right e List.perm_append_comm))
theorem Yl.loadR1 {e:TypeId} {size k g c off:Nat} {xs:List Value} (hp:ev L x=some (.pointer (some ⟨g,off,none⟩))) (hT:aggN P T=some none) (hm:Res.row e size (.slice (some ⟨g,0,none⟩) k c) k xs∈bs) (hv:xs[off]? = some v) {gd:Option (Nat × Bool)}:Yl P L H w0 bs ⟨d,.load T x,ty,pos,aft,gd⟩ v:=.of_run λa W f s=>by
 have ho:W.ownsRow w0.heap.size e size (.slice (some ⟨g,0,none⟩) k c) k xs:=(s.own _ hm).1;have hc:=World.ownsRow.cells ho (g:=g) rfl off v hv;rw [Addr.add_lit,Al_Nat_zero_add] at hc;unfold execOp;simp only [f x _ hp,Instr.loadAt,Instr.sureAddr,loadVar,Sem.run_bind,Sem.run_pure,Result.andThen,run_isAgg_no hT,Al_Bool_false_eq_true,Al_if_false];rw [show (Go.load ⟨g,off,none⟩).run P W=.ok v W from by simp [Go.load,Sem.run,hc]]
theorem FlowP.apB {e:TypeId} {size bytes m c k b off:Nat} {r:Value} {xs news:List Value} {bs':Value->List Res} (hT:rowN P T=some (e,size,bytes)) (hx:ev L x=some r)
 (hm:∀ r',Upd bs (.row e size r k xs) (.row e size r' (k+m) (xs++news)) (bs' r')) (hy:ev L y=some (.slice (some ⟨b,off,none⟩) m c)) (hs:Src H bs b off news) (hl:news.length=m * size) (h1:∀ u∈news,u.oneCell'=true)
 (h63:k+m<=maxLen) (hb:(k+m) * bytes<=140737488355328) (ht:Nat.blt t N=true)
 (hr2:∀ r',RedoP dfs P ops hn w0 N L H (bs' r') i pa) (h:∀ p c,FlowP dfs P ops hn w0 N E fr pa ((t,.slice p (k+m) c)::L) H (bs' (.slice p (k+m) c))) :
 FlowP dfs P ops hn w0 N E ((i,3,⟨some t,.call ⟨.builtin .append,#[x,y],#[T,T]⟩,ty,pos,aft,none⟩)::fr) pa L H bs :=
 ⟨blt_of ht,append hT hx hm hy hs hl h1 h63 hb ht λr' _=>At.ra (hm r').new λp c e=>by subst e;exact FlowP.into (.inr<|.inr<|hr2 _) (h p c)⟩
theorem At.s1Q {g off k c size:Nat} {e:TypeId} {xs ys:List Value} {v:Value} {bs':List Res} (he:xs.set off v=ys) (hp:ev L x=some (.pointer (some ⟨g,off,none⟩))) (hv:ev L y=some v) (hT:sizeN P T=some 1) (h1:v.oneCell'=true)
 (hm:Upd bs (.row e size (.slice (some ⟨g,0,none⟩) k c) k xs) (.row e size (.slice (some ⟨g,0,none⟩) k c) k ys) bs') (ho:off<xs.length) (h:At dfs n L H w0 bs' (wpList P ops Q rest)) :
 At dfs n L H w0 bs (wpList P ops Q (⟨none,.store T x y,ty,pos,aft,none⟩::rest)):=by
 subst he;exact At.s1R hp hv hT h1 hm ho h
theorem AltT.s1Q {kk:Nat} {q:PlT} {bs':List Res} {g off k c size:Nat} {e:TypeId} {xs ys:List Value} {v:Value} (he:xs.set off v=ys) (hp:ev L x=some (.pointer (some ⟨g,off,none⟩))) (hv:ev L y=some v) (hT:sizeN P T=some 1) (h1:v.oneCell'=true)
 (hm:Upd bs (.row e size (.slice (some ⟨g,0,none⟩) k c) k xs) (.row e size (.slice (some ⟨g,0,none⟩) k c) k ys) bs') (ho:off<xs.length)
 (hr:RedoP dfs P ops hn w0 N L H bs' i pa) (h:FlowT dfs P ops hn w0 N E q pa L H bs'):AltT dfs P ops hn w0 N E i kk ⟨none,.store T x y,ty,pos,aft,none⟩ q pa L H bs:=by
 subst he;exact ⟨λ_ e=>(by cases e),storeR1 hp hv hT h1 hm ho (AltT.into0 hr h)⟩
theorem set_row {xr cs cs':List Value} {n j:Nat} {v:Value} (hl:xr.length=n) (h:cs.set j v=cs'):(xr++cs).set (n+j) v=xr++cs':=by
 subst hl h;rw [Al_List_set_append_right _ _ (Nat.le_add_right _ _),Al_Nat_add_sub_cancel_left]
end
end Go.Sx
namespace Go.Proofs.YtidclioghdbphaaGreatDoor
open Go.RowKit Go.Par Go.Sx Tryz
theorem Fx.agg97:aggN prg 97=some (some 11):=by kernel_rfl
theorem Fx.agg98:aggN prg 98=some none:=by kernel_rfl
theorem Fx.agg100:aggN prg 100=some none:=by kernel_rfl
theorem Fx.agg179:aggN prg 179=some (some 13):=by kernel_rfl
theorem Fx.call105:callN prg 105=true:=by kernel_rfl
theorem Fx.field97_1:fieldN prg 97 1=some 1:=by kernel_rfl
theorem Fx.field97_2:fieldN prg 97 2=some 2:=by kernel_rfl
theorem Fx.field102_2:fieldN prg 102 2=some 2:=by kernel_rfl
theorem Fx.field102_3:fieldN prg 102 3=some 3:=by kernel_rfl
theorem Fx.field102_4:fieldN prg 102 4=some 4:=by kernel_rfl
theorem Fx.row98:rowN prg 98=some (97,11,128):=by kernel_rfl
theorem Fx.row100:rowN prg 100=some (179,13,168):=by kernel_rfl
theorem Fx.size4:sizeN prg 4=some 1:=by kernel_rfl
theorem Fx.size98:sizeN prg 98=some 1:=by kernel_rfl
theorem Fx.size100:sizeN prg 100=some 1:=by kernel_rfl
theorem Fx.size179:sizeN prg 179=some 13:=by kernel_rfl
theorem Fx.sl98:slN prg 98=some 11:=by kernel_rfl
theorem Fx.sl100:slN prg 100=some 13:=by kernel_rfl
theorem Fx.zero179:zeroN prg 179=some
 [Go.Value.bool false,Go.Value.bool false,Go.Value.int Go.IntKind.u8 (Int.ofNat 0),
  Go.Value.string { data:={ toList:=[] } },Go.Value.int Go.IntKind.i64 (Int.ofNat 0),
  Go.Value.slice none 0 0,Go.Value.int Go.IntKind.u8 (Int.ofNat 0),
  Go.Value.string { data:={ toList:=[] } },Go.Value.string { data:={ toList:=[] } },
  Go.Value.int Go.IntKind.i64 (Int.ofNat 0),Go.Value.int Go.IntKind.i64 (Int.ofNat 0),
  Go.Value.slice none 0 0,Go.Value.slice none 0 0]:=by kernel_rfl
theorem Fx.bsl100_1 (x00 x01 x02 x03 x04 x05 x06 x07 x08 x09 x010 x011 x012:Value):bslN prg 100 1 [(0,.agg [x00,x01,x02,x03,x04,x05,x06,x07,x08,x09,x010,x011,x012].toArray)]=some (179,[x00,x01,x02,x03,x04,x05,x06,x07,x08,x09,x010,x011,x012]):=by kernel_rfl
theorem Fx.bsl98_1 (x00 x01 x02 x03 x04 x05 x06 x07 x08 x09 x010:Value):bslN prg 98 1 [(0,.agg [x00,x01,x02,x03,x04,x05,x06,x07,x08,x09,x010].toArray)]=some (97,[x00,x01,x02,x03,x04,x05,x06,x07,x08,x09,x010]):=by kernel_rfl
variable {g k c:Nat}
variable {H:Hp} {w0 W:World} {bs:List Res} {b tc:Nat} {tp:Option Addr} {rv:Value} {bd:Bool} {q:Rq}
theorem top_f {l:Tks} {rd dn:Bool} (K:Tkf H l tp tc) (hq:q.i<l.length) (hkm:k<=600001) (s:St H w0 (.box b [.slice tp l.length tc,iN q.i,.slice (some ⟨g,0,none⟩) (k+1) c,rv,.bool rd,.bool dn,.bool bd,iN q.off,iN q.er] 102::bs) W) :
 Calls prg 105 #[.pointer (some ⟨b,0,none⟩)] W λe W'=>∃ _:Unit,(True)/\e=.returned (.pointer (some ⟨g,k * 11,none⟩))/\St H w0 (.box b [.slice tp l.length tc,iN q.i,.slice (some ⟨g,0,none⟩) (k+1) c,rv,.bool rd,.bool dn,.bool bd,iN q.off,iN q.er] 102::bs) W':=by
 have hcap:=K.rep.cap;refine enterS func105 rfl ntmps105 rfl s ?_;refine .sr<|.aq Z<|.sq<|.fL 11 [(0,0),(1,0),(2,0),(3,0),(4,0),(5,0),(6,0),(7,0),(8,0),(9,0),(10,0)]<|.mv Z<|.nC Z<|.fA Z Fx.field102_2<|.lD Z Fx.agg98 Hm Z<|.mv Z<|.nC Z<|.fA Z Fx.field102_2<|.lD Z Fx.agg98 Hm Z<|.yw (.lenSl Fx.sl98 Z)<|.yw (.sub Z Z (c:=((k:Nat):Int)) ((w6 (by omega)).trans (by omega)))<|.yw (.indexSl Fx.sl98 Z Z (i:=k) Z (by omega) (q:=k * 11) (by omega))<|.fn (tl:=[_]) Z<|.az Z<|?_
 refine y9 Z Z λW s=>?_;exact ⟨(),Jt,Z,s.p1_1 [0] rfl⟩
theorem one11 {lv:Nat} {t:Bool} {a0 a3 a4 a5 a6 a7 a8 a9 a10:Value} (h1:∀ u∈[a0,a3,a4,a5,a6,a7,a8,a9,a10],u.oneCell'=true):∀ u∈[a0,iN lv,.bool t,a3,a4,a5,a6,a7,a8,a9,a10],u.oneCell'=true:=by
 intro u hu;simp only [Al_List_mem_cons,List.not_mem_nil,or_false] at hu h1;rcases hu with h | h | h | h | h | h | h | h | h | h | h
 ·exact h1 u (by simp [h])
 ·rw [h];rfl
 ·rw [h];rfl
 all_goals exact h1 u (by simp [h])
variable {xo:List Value}
variable {ro:Value}
theorem push_f {l:Tks} {rd dn:Bool} (K:Tkf H l tp tc) (hq:q.i<l.length) {lv:Nat} {t t':Bool} {a0 a3 a4 a5 a6 a7 a8 a9 a10:Value} (h1:∀ u∈[a0,a3,a4,a5,a6,a7,a8,a9,a10],u.oneCell'=true) (hkm:k<=600001) (hT:0<lv->∃ k1,k=k1+1/\xo[k1 * 11+2]? = some (.bool t')) (s:St H w0 (.box b [.slice tp l.length tc,iN q.i,ro,rv,.bool rd,.bool dn,.bool bd,iN q.off,iN q.er] 102::.row 97 11 (ro) (k) (xo)::bs) W) :
 Calls prg 109 #[.pointer (some ⟨b,0,none⟩),.agg [a0,iN lv,.bool t,a3,a4,a5,a6,a7,a8,a9,a10].toArray] W λe W'=>∃ z:Option Addr × Nat,(True)/\e=.returned (.tuple #[])/\St H w0 (.box b [.slice tp l.length tc,iN q.i,(.slice z.1 (k+1) z.2),rv,.bool false,.bool dn,.bool bd,iN q.off,iN q.er] 102::.row 97 11 (.slice z.1 (k+1) z.2) (k+1) (xo++[a0,iN lv,.bool (if 0<lv then t' else t),a3,a4,a5,a6,a7,a8,a9,a10])::bs) W':=by
 have hcap:=K.rep.cap;refine enterS func109 rfl ntmps109 rfl s ?_;refine .sr<|.bx Z Z Z λb3=>.nt<|.sq<|.sr<|.fA Z Fx.field97_1<|.lD Z Fx.agg3 Hm Z<|.yw (.gtr Z Z)<|.nt<|.ce Z (λh6=>?_) (λh6=>?_)
 ·obtain ⟨k1,rfl,ht⟩:=hT (by omega);refine Sx.At.rs (size:=11) (k:=k1+1) (r:=ro) (xs:=xo) (e:=97) mem2 (by omega) λg c e=>?_;subst e;refine .rg<|.mv Z<|.cs (X:=Unit) Fx.call105 Z (λW s=>top_f K hq (g:=g) (k:=k1) (c:=c) (by omega) (s.p3_3 [1,0,2] Z)) Z λ_ _=>.nC Z<|.fA Z Fx.field97_2<|.yw (.loadR1 Z Fx.agg4 mem2 ht)<|.fA Z Fx.field97_2<|.st upd1 Z Z Fx.size4 Z (nb Z) Z<|.nt<|.sq<|.fL 8 [(0,0),(1,0),(2,0),(3,0),(4,0),(5,0),(6,1),(7,3)]<|.mv Z<|.mv Z<|.nC Z<|.fA Z Fx.field102_2<|.lD Z Fx.agg98 Hm Z<|.yw (.loadW Z Fx.agg97 mem1 Z)<|.bl Z (Fx.bsl98_1 _ _ _ _ _ _ _ _ _ _ _) Z λb19=>.apB Fx.row98 Z (λ_=>upd3) Z (.box Hm z0) Z (one11 h1) (by simp only [maxLen];omega) (by omega) Z (λ_=>(.d3<|.d2<|.yv (.move Z)<|.nl)) λp20 c20=>.fn (tl:=[_,_,_]) Z<|.nC Z<|.fA Z Fx.field102_2<|.st upd1 Z Z Fx.size98 Z (nb Z) Z<|.nt<|.rg<|.mv Z<|.nC Z<|.fA Z Fx.field102_4<|.st upd1 Z Z Fx.size4 Z (nb Z) Z<|.nl<|?_
  refine retN (.inr Z) rfl .nil rfl λW s=>⟨(p20,c20),Jt,Z,?_⟩;rw [Al_if_pos (show 0<lv by omega)];exact s.p4_2 [1,3] rfl
 refine .sk<|.tN<|.sq<|.fL 8 [(0,0),(1,0),(2,0),(3,0),(4,0),(5,0),(6,1),(7,3)]<|.mv Z<|.mv Z<|.nC Z<|.fA Z Fx.field102_2<|.lD Z Fx.agg98 mem1 Z<|.yw (.loadW Z Fx.agg97 Hm Z)<|.bl Z (Fx.bsl98_1 _ _ _ _ _ _ _ _ _ _ _) Z λb19=>.apB Fx.row98 Z (λ_=>upd3) Z (.box Hm z0) Z (one11 h1) (by simp only [maxLen];omega) (by omega) Z (λ_=>(.d3<|.d2<|.yv (.move Z)<|.nl)) λp20 c20=>.fn (tl:=[_,_,_]) Z<|.nC Z<|.fA Z Fx.field102_2<|.st upd2 Z Z Fx.size98 Z (nb Z) Z<|.nt<|.rg<|.mv Z<|.nC Z<|.fA Z Fx.field102_4<|.st upd2 Z Z Fx.size4 Z (nb Z) Z<|.nl<|?_
 refine retN (.inr Z) rfl .nil rfl λW s=>⟨(p20,c20),Jt,Z,?_⟩;rw [Al_if_neg (show ¬ 0<lv by omega)];exact s.p4_2 [2,3] rfl
variable {v0 v1:Value} {xv:List Value}
theorem give_f {l:Tks} {rd dn:Bool} (K:Tkf H l tp tc) (hq:q.i<l.length) {v2 v3 v4 v5 v6 v7 v8 v9 va vb vc:Value} (h1:∀ u∈[v0,v1,v2,v3,v4,v5,v6,v7,v8,v9,va,vb,vc],u.oneCell'=true) (hkm:k<=600001) (s:St H w0 (.box b [.slice tp l.length tc,iN q.i,ro,rv,.bool rd,.bool dn,.bool bd,iN q.off,iN q.er] 102::.row 179 13 (rv) (k) (xv)::bs) W) :
 Calls prg 108 #[.pointer (some ⟨b,0,none⟩),.agg [v0,v1,v2,v3,v4,v5,v6,v7,v8,v9,va,vb,vc].toArray] W λe W'=>∃ z:Option Addr × Nat,(True)/\e=.returned (.tuple #[])/\St H w0 (.box b [.slice tp l.length tc,iN q.i,ro,(.slice z.1 (k+1) z.2),.bool true,.bool dn,.bool bd,iN q.off,iN q.er] 102::.row 179 13 (.slice z.1 (k+1) z.2) (k+1) (xv++[v0,v1,v2,v3,v4,v5,v6,v7,v8,v9,va,vb,vc])::bs) W':=by
 have hcap:=K.rep.cap;refine enterS func108 rfl ntmps108 rfl s ?_;refine .sr<|.bx Z Z Z λb3=>.nt<|.sq<|.fL 8 [(0,0),(1,0),(2,0),(3,0),(4,0),(5,0),(6,1),(7,3)]<|.mv Z<|.mv Z<|.nC Z<|.fA Z Fx.field102_3<|.lD Z Fx.agg100 mem1 Z<|.yw (.loadW Z Fx.agg179 Hm Z)<|.bl Z (Fx.bsl100_1 _ _ _ _ _ _ _ _ _ _ _ _ _) Z λb10=>.apB Fx.row100 Z (λ_=>upd3) Z (.box Hm z0) Z h1 (by simp only [maxLen];omega) (by omega) Z (λ_=>(.d3<|.d2<|.yv (.move Z)<|.nl)) λp20 c20=>.fn (tl:=[_,_,_]) Z<|.nC Z<|.fA Z Fx.field102_3<|.st upd2 Z Z Fx.size100 Z (nb Z) Z<|.nt<|.rg<|.mv Z<|.nC Z<|.fA Z Fx.field102_4<|.st upd2 Z Z Fx.size4 Z (nb Z) Z<|.nl<|?_
 refine retN (.inr Z) rfl .nil rfl λW s=>⟨(p20,c20),Jt,Z,?_⟩;exact s.p4_2 [2,3] rfl
variable {xr:List Value}
theorem pop_f {l:Tks} {rd dn:Bool} (K:Tkf H l tp tc) (hq:q.i<l.length) {v2 v3 v4 v5 v6 v7 v8 v9 va vb vc:Value} (h1:∀ u∈[v0,v1,v2,v3,v4,v5,v6,v7,v8,v9,va,vb,vc],u.oneCell'=true) (hkm:k<=600001) (hl:xr.length=k * 13) (s:St H w0 (.box b [.slice tp l.length tc,iN q.i,ro,rv,.bool rd,.bool dn,.bool bd,iN q.off,iN q.er] 102::.row 179 13 (rv) (k+1) (xr++[v0,v1,v2,v3,v4,v5,v6,v7,v8,v9,va,vb,vc])::bs) W) :
 Calls prg 116 #[.pointer (some ⟨b,0,none⟩)] W λe W'=>∃ z:Nat × Nat,(True)/\e=.returned (.agg [v0,v1,v2,v3,v4,v5,v6,v7,v8,v9,va,vb,vc].toArray)/\St H w0 (.box b [.slice tp l.length tc,iN q.i,ro,(.slice (some ⟨z.1,0,none⟩) k z.2),.bool rd,.bool dn,.bool bd,iN q.off,iN q.er] 102::.row 179 13 (.slice (some ⟨z.1,0,none⟩) k z.2) (k) (xr)::bs) W':=by
 have hcap:=K.rep.cap;refine enterS func116 rfl ntmps116 rfl s ?_;refine Sx.rowCase (size:=13) (k:=k+1) (r:=rv) (e:=179) mem1 (by omega) λg c e hkc=>?_;subst e;refine .sr<|.al Fx.zero179 Z λb2=>.ns<|.mv Z<|.nC Z<|.fA Z Fx.field102_3<|.lD Z Fx.agg100 mem1 Z<|.yw (.lenSl Fx.sl100 Z)<|.yw (.sub Z Z (c:=((k:Nat):Int)) ((w6 (by omega)).trans (by omega)))<|.a Z Z<|.ns<|.mv Z<|.nC Z<|.fA Z Fx.field102_3<|.lD Z Fx.agg100 mem1 Z<|.mv Z<|.yw (.indexSl Fx.sl100 Z Z (i:=k) Z (by omega) (q:=k * 13) (by omega))<|.yw (.loadR (vs:=[v0,v1,v2,v3,v4,v5,v6,v7,v8,v9,va,vb,vc]) Z Fx.agg179 mem2 Z (λj u h=>(List.getElem?_append_right (by omega)).trans (by rw [hl,Al_Nat_add_sub_cancel_left];exact h)))<|.al Fx.zero179 Z λb4=>.sW .head Z Z Fx.size179 h1 Z<|.ns<|.mv Z<|.mv Z<|.nC Z<|.fA Z Fx.field102_3<|.lD Z Fx.agg100 mem2 Z<|.mv Z<|.yw (.cutHi Fx.sl100 Z Z Z (by omega) (λq e=>by cases e;rfl))<|.nC Z<|.fA Z Fx.field102_3<|.st upd2 Z Z Fx.size100 Z (nb Z) Z<|?_
 refine Sx.At.rcut (size:=13) (m:=k) (ys:=xr) upd3 (by omega) (by rw [<-hl,Al_List_take_left]) ?_;refine .ns<|.yw (.loadW Z Fx.agg179 Hm Z)<|.sW upd1 Z Z Fx.size179 h1 Z<|.nt<|.rt<|?_
 refine y8 Z (.cell Z Fx.agg179 mem1 rfl) λW s=>?_;exact ⟨(g,c),Jt,Z,s.p4_2 [2,3] rfl⟩
abbrev vC (v:Vl) (s0 s1 s2:Value):List Value:=[.bool v.tm,.bool v.wh,.int .u8 v.e.op.toNat,strV v.e.nm,.int .i64 v.e.n.toInt,s0,.int .u8 v.f.op.toNat,strV v.f.nm,strV v.f.fd,.int .i64 v.f.a.toInt,.int .i64 v.f.b.toInt,s1,s2]
abbrev oC (o:Ov) (s1 s2:Value):List Value:=[.int .u8 o.kd.toNat,iN o.lv,.bool o.tm,.int .u8 o.op.toNat,.int .u8 o.f.op.toNat,strV o.f.nm,strV o.f.fd,.int .i64 o.f.a.toInt,.int .i64 o.f.b.toInt,s1,s2]
structure FmR (H:Hp) (f:Fm) (s1 s2:Value):Prop where
 ex:Rep H (.seq 4 (f.ex.map (dEx .u8))) [s1]
 ar:Rep H (.seq 7 (f.args.map (dFm .u8))) [s2]
 nm:f.nm.length<=1000000
 fd:f.fd.length<=1000000
structure ExR (H:Hp) (e:Ex) (s:Value):Prop where
 ar:Rep H (.seq 4 (e.args.map (dEx .u8))) [s]
 nm:e.nm.length<=1000000
structure VlR (H:Hp) (v:Vl) (s0 s1 s2:Value):Prop where
 e:ExR H v.e s0
 f:FmR H v.f s1 s2
variable {H':Hp} {f:Fm} {s1 s2:Value}
theorem FmR.up (h:FmR H f s1 s2) (u:Up H H'):FmR H' f s1 s2:=⟨h.ex.up u,h.ar.up u,h.nm,h.fd⟩
theorem ExR.up {e:Ex} {s:Value} (h:ExR H e s) (u:Up H H'):ExR H' e s:=⟨h.ar.up u,h.nm⟩
theorem VlR.up {v:Vl} {s0:Value} (h:VlR H v s0 s1 s2) (u:Up H H'):VlR H' v s0 s1 s2:=⟨h.e.up u,h.f.up u⟩
theorem ExR.rep {e:Ex} {s:Value} (h:ExR H e s):Rep H (dEx .u8 e) [.int .u8 e.op.toNat,strV e.nm,.int .i64 e.n.toInt,s]:=by
 obtain ⟨op,nm,n,args⟩:=e;exact ex_shut h.nm h.ar
theorem FmR.rep (h:FmR H f s1 s2):Rep H (dFm .u8 f) (cFm .u8 f.op f.nm f.fd f.a f.b s1 s2):=by
 obtain ⟨op,nm,fd,a,b,ex,args⟩:=f;exact fm_shut h.nm h.fd h.ex h.ar
variable {z:Nat}
theorem Rep.nil4:Rep H (.seq z []) [.slice none 0 0]:=Rep.empty (p:=none) (c:=0) (by decide)
theorem FmR.zero (h1:f.ex=[]) (h2:f.args=[]) (h3:f.nm.length<=1000000) (h4:f.fd.length<=1000000):FmR H f (.slice none 0 0) (.slice none 0 0):=⟨by rw [h1];exact Rep.nil4,by rw [h2];exact Rep.nil4,h3,h4⟩
theorem ExR.zero {e:Ex} (h1:e.args=[]) (h3:e.nm.length<=1000000):ExR H e (.slice none 0 0):=⟨by rw [h1];exact Rep.nil4,h3⟩
theorem one_sl {ds:List D} {s:Value} (h:Rep H (.seq z ds) [s]):s.oneCell'=true:=h.one s (Al_List_mem_singleton.2 rfl)
theorem VlR.one {v:Vl} {s0:Value} (h:VlR H v s0 s1 s2):∀ u∈vC v s0 s1 s2,u.oneCell'=true:=by
 intro u hu;simp only [Al_List_mem_cons,List.not_mem_nil,or_false] at hu;rcases hu with rfl | rfl | rfl | rfl | rfl | rfl | rfl | rfl | rfl | rfl | rfl | rfl | rfl <;> first | rfl | exact one_sl h.e.ar | exact one_sl h.f.ex | exact one_sl h.f.ar
inductive VR (H:Hp):List Vl->List Value->Prop
 | nil:VR H [] []
 | cons {v:Vl} {vs:List Vl} {xv:List Value} {s0 s1 s2:Value}:VR H vs xv->VlR H v s0 s1 s2->VR H (v::vs) (xv++vC v s0 s1 s2)
theorem VR.up (u:Up H H'):∀ {vs:List Vl} {xv:List Value},VR H vs xv->VR H' vs xv
 | _,_,.nil=>.nil
 | _,_,.cons h k=>.cons (h.up u) (k.up u)
theorem VR.len:∀ {vs:List Vl} {xv:List Value},VR H vs xv->xv.length=vs.length * 13
 | _,_,.nil=>rfl
 | _,_,.cons h _=>by have:=h.len;simp only [Al_List_length_append,Al_List_length_cons,Al_List_length_nil];omega
inductive Ops (H:Hp):List Ov->List Value->List Res->Prop
 | nil:Ops H [] [] []
 | cons {o:Ov} {r:List Ov} {xo:List Value} {s1 s2:Value} {AR:List Res}:Ops H r xo AR->o.kd≠5->FmR H o.f s1 s2->Ops H (o::r) (xo++oC o s1 s2) AR
 | arg {o:Ov} {r:List Ov} {xo xe:List Value} {s1:Value} {AR:List Res}:Ops H r xo AR->o.kd=5->o.f.args=[]->o.f.nm.length<=1000000->o.f.fd.length<=1000000->RepZ H 4 (o.f.ex.map (dEx .u8)) xe->s1.oneCell'=true->Ops H (o::r) (xo++oC o s1 (.slice none 0 0)) (.row 76 4 s1 o.f.ex.length xe::AR)
theorem Ops.up (u:Up H H'):∀ {os:List Ov} {xo:List Value} {AR:List Res},Ops H os xo AR->Ops H' os xo AR
 | _,_,_,.nil=>.nil
 | _,_,_,.cons h k f=>.cons (h.up u) k (f.up u)
 | _,_,_,.arg h k a b c z s=>.arg (h.up u) k a b c (z.up u) s
theorem Ops.len:∀ {os:List Ov} {xo:List Value} {AR:List Res},Ops H os xo AR->xo.length=os.length * 11
 | _,_,_,.nil=>rfl
 | _,_,_,.cons h _ _=>by have:=h.len;simp only [Al_List_length_append,Al_List_length_cons,Al_List_length_nil];omega
 | _,_,_,.arg h _ _ _ _ _ _=>by have:=h.len;simp only [Al_List_length_append,Al_List_length_cons,Al_List_length_nil];omega
variable {AR:List Res}
theorem Ops.top {o:Ov} {r:List Ov} (h:Ops H (o::r) xo AR):∃ xr s1 s2,xo=xr++oC o s1 s2/\xr.length=r.length * 11/\s1.oneCell'=true/\s2.oneCell'=true:=by
 cases h with
 | cons h k f=>exact ⟨_,_,_,Z,h.len,one_sl f.ex,one_sl f.ar⟩
 | arg h k a b c z s=>exact ⟨_,_,_,Z,h.len,s,Z⟩
variable {n j:Nat}
theorem app_at {cs:List Value} {u:Value} (hl:xr.length=n) (h:cs[j]? = some u):(xr++cs)[n+j]? = some u:=by
 subst hl;rw [List.getElem?_append_right (Nat.le_add_right _ _),Al_Nat_add_sub_cancel_left];exact h
theorem oC_one {o:Ov} (h1:s1.oneCell'=true) (h2:s2.oneCell'=true):∀ u∈oC o s1 s2,u.oneCell'=true:=by
 intro u hu;simp only [Al_List_mem_cons,List.not_mem_nil,or_false] at hu;rcases hu with rfl | rfl | rfl | rfl | rfl | rfl | rfl | rfl | rfl | rfl | rfl <;> first | rfl | exact h1 | exact h2
structure Sq (H:Hp) (q:Ps) (xo xv:List Value) (AR:List Res):Prop where
 ops:Ops H q.op xo AR
 vls:VR H q.x.1 xv
theorem Sq.up {q:Ps} (h:Sq H q xo xv AR) (u:Up H H'):Sq H' q xo xv AR:=⟨h.ops.up u,h.vls.up u⟩
theorem Sq.at {q:Ps} {c:Rq} (h:Sq H q xo xv AR):Sq H (q.at c) xo xv AR:=⟨h.ops,h.vls⟩
abbrev pB (tp:Option Addr) (n tc:Nat) (q:Ps) (b:Nat) (ro rv:Value) (xo xv:List Value):List Res:=[.box b [.slice tp n tc,iN q.c.i,ro,rv,.bool q.rd,.bool q.dn,.bool q.x.2,iN q.c.off,iN q.c.er] 102,.row 97 11 ro q.op.length xo,.row 179 13 rv q.x.1.length xv]
abbrev StP (H:Hp) (w0:World) (bs:List Res) (W:World) (b:Nat) (l:Tks) (tp:Option Addr) (tc:Nat) (q:Ps) (ro rv:Value) (xo xv:List Value) (AR:List Res):Prop:=St H w0 (pB tp l.length tc q b ro rv xo xv++(AR++bs)) W
def Get (w0:World) (bs:List Res) (b:Nat) (l:Tks) (tp:Option Addr) (tc:Nat) (H:Hp) (q:Ps) (e:Ending) (W:World):Prop :=
 ∃ z:Hp × Value × Value × List Value × List Value × List Res,(HUp w0 H z.1/\Sq z.1 q z.2.2.2.1 z.2.2.2.2.1 z.2.2.2.2.2)/\e=.returned (.tuple #[])/\StP z.1 w0 bs W b l tp tc q z.2.1 z.2.2.1 z.2.2.2.1 z.2.2.2.2.1 z.2.2.2.2.2
end Go.Proofs.YtidclioghdbphaaGreatDoor
namespace Go.Proofs
open Go.Shelf
def Tryz.lays156_ren:Go.Shelf.Ren:=⟨λ| 156=>90 | 165=>141 | 166=>142 | 169=>143 | 240=>172 | 241=>173 | 276=>195 | 277=>196 | n=>n,λ| 31=>71 | 9=>9 | 3=>3 | 4=>4 | 0=>0 | 20=>20 | 72=>209 | 76=>212 | 70=>207 | 37=>50 | 75=>211 | 127=>232 | 164=>247 | 5=>5 | 80=>40 | n=>n,λ| n=>n⟩
theorem Tryz.lays156:Go.Proofs.Lays.n156 prg Tryz.lays156_ren:={
 mixed:=by kernel_rfl
 f156:=Tryz.func90.trans (congrArg some (by kernel_rfl))
 f165:=Tryz.func141.trans (congrArg some (by kernel_rfl))
 f166:=Tryz.func142.trans (congrArg some (by kernel_rfl))
 f169:=Tryz.func143.trans (congrArg some (by kernel_rfl))
 f240:=Tryz.func172.trans (congrArg some (by kernel_rfl))
 f241:=Tryz.func173.trans (congrArg some (by kernel_rfl))
 f276:=Tryz.func195.trans (congrArg some (by kernel_rfl))
 f277:=Tryz.func196.trans (congrArg some (by kernel_rfl))
 t0:=Tryz.underlying0
 a0:=Tryz.isAgg0
 z0:=Tryz.sizeOf0
 v0:=Tryz.zeroValue0
 t3:=Tryz.underlying3
 a3:=Tryz.isAgg3
 z3:=Tryz.sizeOf3
 v3:=Tryz.zeroValue3
 t4:=Tryz.underlying4
 a4:=Tryz.isAgg4
 z4:=Tryz.sizeOf4
 v4:=Tryz.zeroValue4
 t9:=Tryz.underlying9
 a9:=Tryz.isAgg9
 z9:=Tryz.sizeOf9
 v9:=Tryz.zeroValue9
 t20:=Tryz.underlying20
 a20:=Tryz.isAgg20
 z20:=Tryz.sizeOf20
 v20:=Tryz.zeroValue20
 t31:=Tryz.underlying71
 a31:=Tryz.isAgg71
 z31:=Tryz.sizeOf71
 v31:=Tryz.zeroValue71
 t37:=Tryz.underlying50
 a37:=Tryz.isAgg50
 z37:=Tryz.sizeOf50
 v37:=Tryz.zeroValue50
 t70:=Tryz.underlying207
 a70:=Tryz.isAgg207
 z70:=Tryz.sizeOf207
 v70:=Tryz.zeroValue207
 t72:=Tryz.underlying209
 a72:=Tryz.isAgg209
 z72:=Tryz.sizeOf209
 v72:=Tryz.zeroValue209
 t75:=Tryz.underlying211
 a75:=Tryz.isAgg211
 z75:=Tryz.sizeOf211
 v75:=Tryz.zeroValue211
 t76:=Tryz.underlying212
 a76:=Tryz.isAgg212
 z76:=Tryz.sizeOf212
 v76:=Tryz.zeroValue212
 t127:=Tryz.underlying232
 a127:=Tryz.isAgg232
 z127:=Tryz.sizeOf232
 v127:=Tryz.zeroValue232
 t164:=Tryz.underlying247
 a164:=Tryz.isAgg247
 z164:=Tryz.sizeOf247
 v164:=Tryz.zeroValue247 }
theorem Tryz.Builder_Extra_156:Builder.Extra prg Tryz.lays156_ren:={
 sizeBuilder:=by kernel_rfl
 liesBuilder:=by kernel_rfl
 t5:=Tryz.underlying5
 a5:=Tryz.isAgg5
 z5:=Tryz.sizeOf5
 v5:=Tryz.zeroValue5
 infoByte:=by kernel_rfl
 cellsByte:=by kernel_rfl
 sizeByte:=by kernel_rfl
 neB5:=by decide }
open Go.RowKit in
theorem Tryz.strings_Join_none (a:Option Addr) (c:Nat) (sep:ByteArray) (w:World) :
 Calls prg 90 #[.slice a 0 c,.string sep] w λe w'=>e=.returned (.string ⟨#[]⟩)/\w'=w:=Any.strings_Join_none Tryz.lays156 Tryz.Builder_Extra_156 a c sep w
open Go.RowKit in
theorem Tryz.strings_Join (bk o c:Nat) (xs:List ByteArray) (sep:ByteArray) (w:World) (hcells:∀ (j:Nat) x,xs[j]? = some x->w.cell? ⟨bk,o+j,none⟩=some (.string x)) (hbk:bk<w.heap.size) (hN:xs.length<=140737488355328) (hcap:xs.length<=c) (hlen:(Lib.join (xs.map (·.data.toList)) sep.data.toList).length<=140737488355328) :
 Calls prg 90 #[.slice (some ⟨bk,o,none⟩) xs.length c,.string sep] w λe w'=>e=.returned (.string ⟨(Lib.join (xs.map (·.data.toList)) sep.data.toList).toArray⟩)/\Below w.heap.size w w':=Any.strings_Join Tryz.lays156 Tryz.Builder_Extra_156 bk o c xs sep w hcells hbk hN hcap hlen
def Tryz.laysM171_ren:Go.Shelf.Ren:=⟨λ| 171=>144 | 243=>174 | 246=>171 | 283=>191 | 284=>192 | 285=>193 | 286=>194 | 129=>203 | 317=>202 | 318=>204 | 319=>205 | 320=>206 | 337=>210 | 338=>211 | n=>n,λ| 3=>3 | 9=>9 | 2=>2 | 4=>4 | 171=>241 | 0=>0 | 53=>242 | 37=>50 | 5=>5 | 173=>245 | 212=>257 | 51=>250 | 20=>20 | 213=>258 | 46=>234 | 232=>264 | 233=>265 | n=>n,λ| 17=>6 | 18=>7 | 19=>8 | n=>n⟩
theorem Tryz.laysM171:Go.Proofs.LaysM.n171 prg Tryz.laysM171_ren:={
 mixed:=by kernel_rfl
 f129:=Tryz.func203.trans (congrArg some (by kernel_rfl))
 f171:=Tryz.func144.trans (congrArg some (by kernel_rfl))
 f243:=Tryz.func174.trans (congrArg some (by kernel_rfl))
 f246:=Tryz.func171.trans (congrArg some (by kernel_rfl))
 f283:=Tryz.func191.trans (congrArg some (by kernel_rfl))
 f284:=Tryz.func192.trans (congrArg some (by kernel_rfl))
 f285:=Tryz.func193.trans (congrArg some (by kernel_rfl))
 f286:=Tryz.func194.trans (congrArg some (by kernel_rfl))
 f317:=Tryz.func202.trans (congrArg some (by kernel_rfl))
 f318:=Tryz.func204.trans (congrArg some (by kernel_rfl))
 f319:=Tryz.func205.trans (congrArg some (by kernel_rfl))
 f320:=Tryz.func206.trans (congrArg some (by kernel_rfl))
 f337:=Tryz.func210.trans (congrArg some (by kernel_rfl))
 f338:=Tryz.func211.trans (congrArg some (by kernel_rfl))
 t0:=Tryz.underlying0
 a0:=Tryz.isAgg0
 z0:=Tryz.sizeOf0
 v0:=Tryz.zeroValue0
 t2:=Tryz.underlying2
 a2:=Tryz.isAgg2
 z2:=Tryz.sizeOf2
 v2:=Tryz.zeroValue2
 t3:=Tryz.underlying3
 a3:=Tryz.isAgg3
 z3:=Tryz.sizeOf3
 v3:=Tryz.zeroValue3
 t4:=Tryz.underlying4
 a4:=Tryz.isAgg4
 z4:=Tryz.sizeOf4
 v4:=Tryz.zeroValue4
 t5:=Tryz.underlying5
 a5:=Tryz.isAgg5
 z5:=Tryz.sizeOf5
 v5:=Tryz.zeroValue5
 t9:=Tryz.underlying9
 a9:=Tryz.isAgg9
 z9:=Tryz.sizeOf9
 v9:=Tryz.zeroValue9
 t20:=Tryz.underlying20
 a20:=Tryz.isAgg20
 z20:=Tryz.sizeOf20
 v20:=Tryz.zeroValue20
 t37:=Tryz.underlying50
 a37:=Tryz.isAgg50
 z37:=Tryz.sizeOf50
 v37:=Tryz.zeroValue50
 t46:=Tryz.underlying234
 a46:=Tryz.isAgg234
 z46:=Tryz.sizeOf234
 v46:=Tryz.zeroValue234
 t51:=Tryz.underlying250
 a51:=Tryz.isAgg250
 z51:=Tryz.sizeOf250
 v51:=Tryz.zeroValue250
 t53:=Tryz.underlying242
 a53:=Tryz.isAgg242
 z53:=Tryz.sizeOf242
 v53:=Tryz.zeroValue242
 t171:=Tryz.underlying241
 a171:=Tryz.isAgg241
 z171:=Tryz.sizeOf241
 v171:=Tryz.zeroValue241
 t173:=Tryz.underlying245
 a173:=Tryz.isAgg245
 z173:=Tryz.sizeOf245
 v173:=Tryz.zeroValue245
 t212:=Tryz.underlying257
 a212:=Tryz.isAgg257
 z212:=Tryz.sizeOf257
 v212:=Tryz.zeroValue257
 t213:=Tryz.underlying258
 a213:=Tryz.isAgg258
 z213:=Tryz.sizeOf258
 t232:=Tryz.underlying264
 a232:=Tryz.isAgg264
 z232:=Tryz.sizeOf264
 v232:=Tryz.zeroValue264
 t233:=Tryz.underlying265
 a233:=Tryz.isAgg265
 z233:=Tryz.sizeOf265
 v233:=Tryz.zeroValue265
 g17:=by kernel_rfl
 g18:=by kernel_rfl
 g19:=by kernel_rfl
 i0:=by kernel_rfl
 i2:=by kernel_rfl
 i3:=by kernel_rfl
 i4:=by kernel_rfl
 i5:=by kernel_rfl
 i9:=by kernel_rfl
 i20:=by kernel_rfl
 i37:=by kernel_rfl
 i46:=by kernel_rfl
 i51:=by kernel_rfl
 i53:=by kernel_rfl
 i171:=by kernel_rfl
 i173:=by kernel_rfl
 i212:=by kernel_rfl
 i232:=by kernel_rfl
 i233:=by kernel_rfl
 m17:=by kernel_rfl
 m18:=by kernel_rfl
 m19:=by kernel_rfl }
open Go.RowKit Go.Sort Go.Lib in
theorem Tryz.strconv_Itoa (n:Int) (h0:-9223372036854775808<=n) (h1:n<=9223372036854775807) (w:World) (htab:Lib.TabIs prg w "internal/strconv.uint64pow10" .u64 Lib.pow10Tab) :
 Calls prg 144 #[.int .i64 n] w λe w'=>e=.returned (.string ⟨(Lib.itoa n).toArray⟩)/\∃ k os,w'=grow (w.drewN k) os:=Any.strconv_Itoa Tryz.laysM171 n h0 h1 w htab
def Tryz.laysM173_ren:Go.Shelf.Ren:=⟨λ| 173=>138 | 246=>171 | 283=>191 | 284=>192 | 285=>193 | 286=>194 | 129=>203 | 317=>202 | 318=>204 | 319=>205 | 320=>206 | 337=>210 | 338=>211 | n=>n,λ| 2=>2 | 3=>3 | 9=>9 | 4=>4 | 171=>241 | 0=>0 | 53=>242 | 37=>50 | 5=>5 | 173=>245 | 212=>257 | 51=>250 | 20=>20 | 213=>258 | 46=>234 | 232=>264 | 233=>265 | n=>n,λ| 17=>6 | 18=>7 | 19=>8 | n=>n⟩
theorem Tryz.laysM173:Go.Proofs.LaysM.n173 prg Tryz.laysM173_ren:={
 mixed:=by kernel_rfl
 f129:=Tryz.func203.trans (congrArg some (by kernel_rfl))
 f173:=Tryz.func138.trans (congrArg some (by kernel_rfl))
 f246:=Tryz.func171.trans (congrArg some (by kernel_rfl))
 f283:=Tryz.func191.trans (congrArg some (by kernel_rfl))
 f284:=Tryz.func192.trans (congrArg some (by kernel_rfl))
 f285:=Tryz.func193.trans (congrArg some (by kernel_rfl))
 f286:=Tryz.func194.trans (congrArg some (by kernel_rfl))
 f317:=Tryz.func202.trans (congrArg some (by kernel_rfl))
 f318:=Tryz.func204.trans (congrArg some (by kernel_rfl))
 f319:=Tryz.func205.trans (congrArg some (by kernel_rfl))
 f320:=Tryz.func206.trans (congrArg some (by kernel_rfl))
 f337:=Tryz.func210.trans (congrArg some (by kernel_rfl))
 f338:=Tryz.func211.trans (congrArg some (by kernel_rfl))
 t0:=Tryz.underlying0
 a0:=Tryz.isAgg0
 z0:=Tryz.sizeOf0
 v0:=Tryz.zeroValue0
 t2:=Tryz.underlying2
 a2:=Tryz.isAgg2
 z2:=Tryz.sizeOf2
 v2:=Tryz.zeroValue2
 t3:=Tryz.underlying3
 a3:=Tryz.isAgg3
 z3:=Tryz.sizeOf3
 v3:=Tryz.zeroValue3
 t4:=Tryz.underlying4
 a4:=Tryz.isAgg4
 z4:=Tryz.sizeOf4
 v4:=Tryz.zeroValue4
 t5:=Tryz.underlying5
 a5:=Tryz.isAgg5
 z5:=Tryz.sizeOf5
 v5:=Tryz.zeroValue5
 t9:=Tryz.underlying9
 a9:=Tryz.isAgg9
 z9:=Tryz.sizeOf9
 v9:=Tryz.zeroValue9
 t20:=Tryz.underlying20
 a20:=Tryz.isAgg20
 z20:=Tryz.sizeOf20
 v20:=Tryz.zeroValue20
 t37:=Tryz.underlying50
 a37:=Tryz.isAgg50
 z37:=Tryz.sizeOf50
 v37:=Tryz.zeroValue50
 t46:=Tryz.underlying234
 a46:=Tryz.isAgg234
 z46:=Tryz.sizeOf234
 v46:=Tryz.zeroValue234
 t51:=Tryz.underlying250
 a51:=Tryz.isAgg250
 z51:=Tryz.sizeOf250
 v51:=Tryz.zeroValue250
 t53:=Tryz.underlying242
 a53:=Tryz.isAgg242
 z53:=Tryz.sizeOf242
 v53:=Tryz.zeroValue242
 t171:=Tryz.underlying241
 a171:=Tryz.isAgg241
 z171:=Tryz.sizeOf241
 v171:=Tryz.zeroValue241
 t173:=Tryz.underlying245
 a173:=Tryz.isAgg245
 z173:=Tryz.sizeOf245
 v173:=Tryz.zeroValue245
 t212:=Tryz.underlying257
 a212:=Tryz.isAgg257
 z212:=Tryz.sizeOf257
 v212:=Tryz.zeroValue257
 t213:=Tryz.underlying258
 a213:=Tryz.isAgg258
 z213:=Tryz.sizeOf258
 t232:=Tryz.underlying264
 a232:=Tryz.isAgg264
 z232:=Tryz.sizeOf264
 v232:=Tryz.zeroValue264
 t233:=Tryz.underlying265
 a233:=Tryz.isAgg265
 z233:=Tryz.sizeOf265
 v233:=Tryz.zeroValue265
 g17:=by kernel_rfl
 g18:=by kernel_rfl
 g19:=by kernel_rfl
 i0:=by kernel_rfl
 i2:=by kernel_rfl
 i3:=by kernel_rfl
 i4:=by kernel_rfl
 i5:=by kernel_rfl
 i9:=by kernel_rfl
 i20:=by kernel_rfl
 i37:=by kernel_rfl
 i46:=by kernel_rfl
 i51:=by kernel_rfl
 i53:=by kernel_rfl
 i171:=by kernel_rfl
 i173:=by kernel_rfl
 i212:=by kernel_rfl
 i232:=by kernel_rfl
 i233:=by kernel_rfl
 m17:=by kernel_rfl
 m18:=by kernel_rfl
 m19:=by kernel_rfl }
open Go.RowKit Go.Sort Go.Lib in
theorem Tryz.strconv_FormatInt_10 (n:Int) (h0:-9223372036854775808<=n) (h1:n<=9223372036854775807) (w:World) (htab:Lib.TabIs prg w "internal/strconv.uint64pow10" .u64 Lib.pow10Tab) :
 Calls prg 138 #[.int .i64 n,.int .i64 10] w λe w'=>e=.returned (.string ⟨(Lib.itoa n).toArray⟩)/\∃ k os,w'=grow (w.drewN k) os:=Any.strconv_FormatInt_10 Tryz.laysM173 n h0 h1 w htab
def Tryz.lays219_ren:Go.Shelf.Ren:=⟨λ| 219=>145 | 217=>175 | 225=>176 | 224=>177 | 267=>178 | 266=>197 | 314=>198 | n=>n,λ| 9=>9 | 3=>3 | 4=>4 | 5=>5 | 46=>234 | 146=>251 | 51=>250 | n=>n,λ| 1=>4 | n=>n⟩
theorem Tryz.lays219:Go.Proofs.Lays.n219 prg Tryz.lays219_ren:={
 mixed:=by kernel_rfl
 f217:=Tryz.func175.trans (congrArg some (by kernel_rfl))
 f219:=Tryz.func145.trans (congrArg some (by kernel_rfl))
 f224:=Tryz.func177.trans (congrArg some (by kernel_rfl))
 f225:=Tryz.func176.trans (congrArg some (by kernel_rfl))
 f266:=Tryz.func197.trans (congrArg some (by kernel_rfl))
 f267:=Tryz.func178.trans (congrArg some (by kernel_rfl))
 f314:=Tryz.func198.trans (congrArg some (by kernel_rfl))
 t3:=Tryz.underlying3
 a3:=Tryz.isAgg3
 z3:=Tryz.sizeOf3
 v3:=Tryz.zeroValue3
 t4:=Tryz.underlying4
 a4:=Tryz.isAgg4
 z4:=Tryz.sizeOf4
 v4:=Tryz.zeroValue4
 t5:=Tryz.underlying5
 a5:=Tryz.isAgg5
 z5:=Tryz.sizeOf5
 v5:=Tryz.zeroValue5
 t9:=Tryz.underlying9
 a9:=Tryz.isAgg9
 z9:=Tryz.sizeOf9
 v9:=Tryz.zeroValue9
 t46:=Tryz.underlying234
 a46:=Tryz.isAgg234
 z46:=Tryz.sizeOf234
 v46:=Tryz.zeroValue234
 t51:=Tryz.underlying250
 a51:=Tryz.isAgg250
 z51:=Tryz.sizeOf250
 v51:=Tryz.zeroValue250
 t146:=Tryz.underlying251
 a146:=Tryz.isAgg251
 z146:=Tryz.sizeOf251
 v146:=Tryz.zeroValue251
 g1:=by kernel_rfl }
open Go.RowKit Go.Lib in
theorem Tryz.stringslite_Index_one (s:ByteArray) (c:UInt8) (w:World) :
 Calls prg 145 #[.string s,.string ⟨#[c]⟩] w λe w'=>e=.returned (.int .i64 (Lib.indexByte s.data.toList c))/\w'=w:=Any.stringslite_Index_one Tryz.lays219 s c w
end Go.Proofs
namespace Go.Proofs.YtidclioghdbphaaGreatDoor
open Go.RowKit Go.Par Go.Sx Tryz
theorem Fx.call20:callN prg 20=true:=by kernel_rfl
theorem Fx.call49:callN prg 49=true:=by kernel_rfl
theorem Fx.call94:callN prg 94=true:=by kernel_rfl
theorem Fx.call108:callN prg 108=true:=by kernel_rfl
theorem Fx.call116:callN prg 116=true:=by kernel_rfl
theorem Fx.call145:callN prg 145=true:=by kernel_rfl
theorem Fx.field102_6:fieldN prg 102 6=some 6:=by kernel_rfl
theorem Fx.field179_0:fieldN prg 179 0=some 0:=by kernel_rfl
theorem Fx.field179_2:fieldN prg 179 2=some 2:=by kernel_rfl
theorem Fx.field179_3:fieldN prg 179 3=some 6:=by kernel_rfl
theorem Fx.bld35_0_1_2 (x0:Int) (x1 x2:ByteArray):buildN prg 35 [(0,.int .u8 x0),(1,.string x1),(2,.string x2)]=some [.int .u8 x0,.string x1,.string x2,.int .i64 0,.int .i64 0,.slice none 0 0,.slice none 0 0]:=by kernel_rfl
theorem split_ix:∀ n:Str,(∃ i:Nat,Lib.indexByte n 46=(i:Int)/\i<n.length/\splitF n=some (n.take i,n.drop (i+1)))\/(Lib.indexByte n 46=-1/\splitF n=none)
 | []=>.inr ⟨Z,Z⟩
 | c::r=>by
  by_cases hc:c=46
  ·refine .inl ⟨0,?_,Nat.succ_pos _,?_⟩
   ·rw [Lib.indexByte,Al_if_pos (by rw [hc];rfl)];rfl
   ·rw [splitF,Al_if_pos hc];rfl
  ·have hb:¬ (c == 46)=true:=λe=>hc (by simpa using e);rcases split_ix r with ⟨i,h1,h2,h3⟩ | ⟨h1,h2⟩
   ·refine .inl ⟨i+1,?_,Nat.succ_lt_succ h2,?_⟩
    ·rw [Lib.indexByte,Al_if_neg hb,h1,Al_if_neg (by intro e;have:=eq_of_beq e;omega)];omega
    ·rw [splitF,Al_if_neg hc,h3];rfl
   ·refine .inr ⟨?_,?_⟩
    ·rw [Lib.indexByte,Al_if_neg hb,h1];rfl
    ·rw [splitF,Al_if_neg hc,h2];rfl
def spV (n:Str):Value:=.tuple #[strV (spA n),strV (spB n),.bool (splitF n).isSome]
def cutV (n:Str):Value:=.tuple #[strV (if (splitF n).isSome then spA n else n),strV (spB n),.bool (splitF n).isSome]
theorem cutL_any (n:Str) (hn:n.length<=9223372036854775807) (w:World):Calls prg 94 #[strV n,strV [46]] w λe w'=>e=.returned (cutV n)/\Ext w w':=by
 refine y6 func94 Z ntmps94 Z ?_;refine .sr<|.a Z Z<|.a Z Z<|.aq Z<|.sq<|.sm Z<|.mv Z<|.yw (.call (v:=.int .i64 (Lib.indexByte n 46)) Fx.call145 Z λW s=>(Tryz.stringslite_Index_one ⟨n.toArray⟩ 46 W).mono λ_ _ h=>⟨h.1,by rw [h.2];exact Ext.refl _⟩)<|.a Z Z<|.ns<|.mv Z<|.yw (.geq Z Z)<|.nt<|.ce Z (λh12=>?_) (λh12=>?_)
 ·obtain ⟨i,hx,hi,hs⟩:∃ i:Nat,Lib.indexByte n 46=(i:Int)/\i<n.length/\splitF n=some (n.take i,n.drop (i+1)):=by
   rcases split_ix n with h | ⟨h,_⟩
   ·exact h
   ·omega
  refine .sq<|.fL 11 [(0,0),(1,0),(2,0),(3,0),(4,0),(5,0),(6,0),(7,0),(8,0),(9,0),(10,0)]<|.mv Z<|.mv Z<|.yw (.takeS Fx.str9 Z Z (hi:=i) hx (by omega))<|.mv Z<|.mv Z<|.mv Z<|.yw (.lenS Fx.str9 Z)<|.yw (.add Z Z (c:=((i+1:Nat):Int)) (by rw [hx];exact (w64 (by show _<=(i:Int)+((1:Nat):Int);omega) (by show (i:Int)+((1:Nat):Int)<=_;omega)).trans (by show (i:Int)+((1:Nat):Int)=_;omega)))<|.yw (.dropS Fx.str9 Z Z (lo:=i+1) Z (by omega))<|.a Z Z<|.a Z Z<|.fn (tl:=[_]) Z<|.az Z<|.tR<|?_
  refine y7 Z (.cons (.tmp Z) (.cons (.tmp Z) (.cons (.tmp Z) .nil))) rfl λW s=>⟨(by unfold cutV spA spB;rw [hs];rfl),s.ext⟩
 have hs:splitF n=none:=by
  rcases split_ix n with ⟨i,h,_⟩ | ⟨_,h⟩
  ·omega
  ·exact h
 refine .sk<|.tN<|.sm Z<|.a Z Z<|.a Z Z<|.az Z<|?_
 refine y7 Z (.cons (.tmp Z) (.cons (.tmp Z) (.cons (.tmp Z) .nil))) rfl λW s=>⟨(by unfold cutV spA spB;rw [hs];rfl),s.ext⟩
theorem cut_any (n:Str) (hn:n.length<=9223372036854775807) (w:World):Calls prg 49 #[strV n,strV [46]] w λe w'=>e=.returned (cutV n)/\Ext w w':=by
 refine y6 func49 Z ntmps49 Z ?_;refine .sr<|.a Z Z<|.a Z Z<|.a Z Z<|.ns<|.mv Z<|.mv Z<|.yw (.call (v:=cutV n) Fx.call94 Z λW s=>cutL_any n hn W)<|.yw (.extract Z Z)<|.yw (.extract Z Z)<|.yw (.extract Z Z)<|.a Z Z<|.a Z Z<|.az Z<|?_
 refine y7 Z (.cons (.tmp Z) (.cons (.tmp Z) (.cons (.tmp Z) .nil))) rfl λW s=>⟨Z,s.ext⟩
theorem split_any (n:Str) (hn:n.length<=9223372036854775807) (w:World):Calls prg 20 #[strV n] w λe w'=>e=.returned (spV n)/\Ext w w':=by
 refine y6 func20 Z ntmps20 Z ?_;refine .sr<|.a Z Z<|.a Z Z<|.a Z Z<|.ns<|.mv Z<|.yw (.call (v:=cutV n) Fx.call49 Z λW s=>cut_any n hn W)<|.mv Z<|.yw (.extract Z Z)<|.yw (.extract Z Z)<|.yw (.extract Z Z)<|.a Z Z<|.a Z Z<|.aq Z<|.sq<|.sm Z<|.yw (.not Z)<|.nt<|.cd Z (λh12=>?_) (λh12=>?_)
 ·have hs:splitF n=none:=by cases e:splitF n with | none=>rfl | some x=>rw [e] at h12;cases h12
  refine .sr<|.a Z Z<|.a Z Z<|.az Z<|.tR<|?_
  refine y7 Z (.cons (.tmp Z) (.cons (.tmp Z) (.cons (.tmp Z) .nil))) rfl λW s=>⟨(by unfold spV spA spB;rw [hs];rfl),s.ext⟩
 obtain ⟨x,hs⟩:∃ x,splitF n=some x:=by cases e:splitF n with | some x=>exact ⟨x,rfl⟩ | none=>rw [e] at h12;cases h12
 refine .sk<|.tN<|.sm Z<|.mv Z<|.a Z Z<|.a Z Z<|.az Z<|?_
 refine y7 Z (.cons (.tmp Z) (.cons (.tmp Z) (.cons (.tmp Z) .nil))) rfl λW s=>⟨(by unfold spV spA spB;rw [hs];rfl),s.ext⟩
variable {l:List Value}
theorem oneE {p:Value->Prop} {t u e0 e1 e2 e3:Value} (h1:∀ x∈t::u::e0::e1::e2::e3::l,p x):∀ x∈[e0,e1,e2,e3],p x:=λx hx=>h1 x (Al_List_mem_cons_of_mem _<|Al_List_mem_cons_of_mem _<|(Al_List_mem_append.2 (.inl hx):x∈[e0,e1,e2,e3]++l))
theorem oneF {p:Value->Prop} {t u e0 e1 e2 e3:Value} (h1:∀ x∈t::u::e0::e1::e2::e3::l,p x):∀ x∈l,p x:=λx hx=>h1 x (Al_List_mem_cons_of_mem _<|Al_List_mem_cons_of_mem _<|(Al_List_mem_append.2 (.inr hx):x∈[e0,e1,e2,e3]++l))
variable {k:Nat} {xr:List Value}
variable {H:Hp} {w0 W:World} {bs:List Res} {b tc:Nat} {tp:Option Addr} {ro rv:Value} {bd:Bool} {q:Rq}
theorem term_f {l:Tks} {rd dn:Bool} (K:Tkf H l tp tc) (hq:q.i<l.length) {tm wh:Bool} {eop:UInt8} {enm:Str} {e2 e3 f0 f1 f2 f3 f4 f5 f6:Value} (h1:∀ u∈[.bool tm,.bool wh,.int .u8 eop.toNat,strV enm,e2,e3,f0,f1,f2,f3,f4,f5,f6],u.oneCell'=true) (hkm:k<=600001) (hl:xr.length=k * 13) (s:St H w0 (.box b [.slice tp l.length tc,iN q.i,ro,rv,.bool rd,.bool dn,.bool bd,iN q.off,iN q.er] 102::.row 179 13 (rv) (k+1) (xr++[.bool tm,.bool wh,.int .u8 eop.toNat,strV enm,e2,e3,f0,f1,f2,f3,f4,f5,f6])::bs) W) :
 Calls prg 155 #[.pointer (some ⟨b,0,none⟩)] W λe W'=>∃ z:Nat × Nat,(True)/\e=.returned (.agg [.int .u8 eop.toNat,strV enm,e2,e3].toArray)/\St H w0 (.box b [.slice tp l.length tc,iN q.i,ro,(.slice (some ⟨z.1,0,none⟩) k z.2),.bool rd,.bool dn,.bool (bd || !tm),iN q.off,iN q.er] 102::.row 179 13 (.slice (some ⟨z.1,0,none⟩) k z.2) (k) (xr)::bs) W':=by
 have hcap:=K.rep.cap;refine enterS func155 rfl ntmps155 rfl s ?_;refine .sr<|.al Fx.zero76 Z λb2=>.ns<|.mv Z<|.cs (X:=Nat × Nat) Fx.call116 Z (λW s=>pop_f K hq h1 hkm hl (s.p3_3 [1,2,0] Z)) Z λz _=>.al Fx.zero179 Z λb3=>.sW .head Z Z Fx.size179 h1 Z<|.ns<|.mv Z<|.mv Z<|.nC Z<|.fA Z Fx.field102_6<|.lD Z Fx.agg4 mem1 Z<|.mv Z<|.b2 (λh11=>?_) (λh11=>?_)
 ·subst h11;refine .gG<|.gG<|.gG<|.yw (.pickT Z Z)<|.nC Z<|.fA Z Fx.field102_6<|.st upd1 Z Z Fx.size4 Z (nb Z) Z<|.ns<|.fA Z Fx.field179_2<|.yw (.loadS (vs:=[_,_,_,_]) Z Fx.agg76 Hm Z (subL Z))<|.sW upd3 Z Z Fx.size76 (oneE h1) Z<|.nt<|.rt<|?_
  refine y8 Z (.cell Z Fx.agg76 mem3 rfl) λW s=>?_;exact ⟨z,Jt,Z,s.p4_2 [1,2] rfl⟩
 subst h11;refine .gy (.fieldAddr Z Fx.field179_0)<|.gy (.load Z Fx.agg4 Hm Z)<|.gy (.not Z)<|.yw (.pickF Z Z)<|.nC Z<|.fA Z Fx.field102_6<|.st upd1 Z Z Fx.size4 Z (nb Z) Z<|.ns<|.fA Z Fx.field179_2<|.yw (.loadS (vs:=[_,_,_,_]) Z Fx.agg76 Hm Z (subL Z))<|.sW upd3 Z Z Fx.size76 (oneE h1) Z<|.nt<|.rt<|?_
 refine y8 Z (.cell Z Fx.agg76 mem3 rfl) λW s=>?_;exact ⟨z,Jt,Z,s.p4_2 [1,2] rfl⟩
def fmC (tm:Bool) (enm:Str) (fs:List Value):List Value:=if tm then [.int .u8 4,strV (spA enm),strV (spB enm),.int .i64 0,.int .i64 0,.slice none 0 0,.slice none 0 0] else fs
theorem formula_f {l:Tks} {rd dn:Bool} (K:Tkf H l tp tc) (hq:q.i<l.length) {tm wh:Bool} {eop:UInt8} {enm:Str} {e2 e3 f0 f1 f2 f3 f4 f5 f6:Value} (h1:∀ u∈[.bool tm,.bool wh,.int .u8 eop.toNat,strV enm,e2,e3,f0,f1,f2,f3,f4,f5,f6],u.oneCell'=true) (hen:enm.length<=1000000) (hkm:k<=600001) (hl:xr.length=k * 13) (s:St H w0 (.box b [.slice tp l.length tc,iN q.i,ro,rv,.bool rd,.bool dn,.bool bd,iN q.off,iN q.er] 102::.row 179 13 (rv) (k+1) (xr++[.bool tm,.bool wh,.int .u8 eop.toNat,strV enm,e2,e3,f0,f1,f2,f3,f4,f5,f6])::bs) W) :
 Calls prg 57 #[.pointer (some ⟨b,0,none⟩)] W λe W'=>∃ z:Nat × Nat,(True)/\e=.returned (.agg (fmC tm enm [f0,f1,f2,f3,f4,f5,f6]).toArray)/\St H w0 (.box b [.slice tp l.length tc,iN q.i,ro,(.slice (some ⟨z.1,0,none⟩) k z.2),.bool rd,.bool dn,.bool (bd || (tm && (!decide (eop=5) || (splitF enm).isNone))),iN q.off,iN q.er] 102::.row 179 13 (.slice (some ⟨z.1,0,none⟩) k z.2) (k) (xr)::bs) W':=by
 have hcap:=K.rep.cap;refine enterS func57 rfl ntmps57 rfl s ?_;refine .sr<|.al Fx.zero35 Z λb2=>.ns<|.mv Z<|.cs (X:=Nat × Nat) Fx.call116 Z (λW s=>pop_f K hq h1 hkm hl (s.p3_3 [1,2,0] Z)) Z λz _=>.al Fx.zero179 Z λb3=>.sW .head Z Z Fx.size179 h1 Z<|.nt<|.sq<|.sr<|.fA Z Fx.field179_0<|.lD Z Fx.agg4 Hm Z<|.yw (.not Z)<|.nt<|.cd Z (λh11=>?_) (λh11=>?_)
 ·have ht:tm=false:=by simpa using h11
  subst ht;refine .sr<|.fA Z Fx.field179_3<|.yw (.loadS (vs:=[_,_,_,_,_,_,_]) Z Fx.agg35 Hm Z (subL Z))<|.sW upd3 Z Z Fx.size35 (oneF h1) Z<|.nt<|.rt<|.tR<|?_
  refine y8 Z (.cell Z Fx.agg35 mem3 rfl) λW s=>?_;rw [Al_Bool_false_and,Bool.or_false];exact ⟨z,Jt,Z,s.p4_2 [1,2] rfl⟩
 have ht:tm=true:=by simpa using h11
 subst ht;refine .sk<|.tN<|.sr<|.fA Z Fx.field179_2<|.fA Z Fx.field76_1<|.lD Z Fx.agg9 Hm Z<|.yw (.call Fx.call20 Z λW s=>split_any enm (by omega) W)<|.mv Z<|.yw (.extract Z Z)<|.yw (.extract Z Z)<|.yw (.extract Z Z)<|.a Z Z<|.a Z Z<|.aq Z<|.sq<|.sr<|.fA Z Fx.field179_2<|.fA Z Fx.field76_0<|.lD Z Fx.agg74 Hm Z<|.yw (.neq Z Z)<|.mv Z<|.b2 (λh26=>?_) (λh26=>?_)
 ·have e5:¬ eop=5:=λe=>by subst e;simp at h26
  have hb:(!decide (eop=5) || (splitF enm).isNone)=true:=by rw [Al_decide_eq_false e5];rfl
  refine .gG<|.gG<|.yw (.pickT Z Z)<|.nt<|.cT Z<|.rg<|.mv Z<|.nC Z<|.fA Z Fx.field102_6<|.st upd1 Z Z Fx.size4 Z (nb Z) Z<|.ns<|.mv Z<|.mv Z<|.yw (.build Z (Fx.bld35_0_1_2 _ _ _))<|.sX upd3 Z Z Fx.size35 Z<|.nt<|.rt<|?_
  refine y8 Z (.cell Z Fx.agg35 mem3 rfl) λW s=>?_;rw [hb,Al_Bool_true_and,Bool.or_true];exact ⟨z,Jt,Z,s.p4_2 [1,2] rfl⟩
 have e5:eop=5:=Al_UInt8_toNat_inj.1 (by have:=Al_of_decide_eq_false h26;show eop.toNat=5;omega);refine .gy (.move Z)<|.gy (.not Z)<|.yw (.pickF Z Z)<|.nt<|.cd Z (λh29=>?_) (λh29=>?_)
 ·have hb:(!decide (eop=5) || (splitF enm).isNone)=true:=by
   rw [Al_decide_eq_true e5];cases hs:splitF enm with
   | none=>rfl
   | some x=>rw [hs] at h29;cases h29
  refine .rg<|.mv Z<|.nC Z<|.fA Z Fx.field102_6<|.st upd1 Z Z Fx.size4 Z (nb Z) Z<|.ns<|.mv Z<|.mv Z<|.yw (.build Z (Fx.bld35_0_1_2 _ _ _))<|.sX upd3 Z Z Fx.size35 Z<|.nt<|.rt<|?_
  refine y8 Z (.cell Z Fx.agg35 mem3 rfl) λW s=>?_;rw [hb,Al_Bool_true_and,Bool.or_true];exact ⟨z,Jt,Z,s.p4_2 [1,2] rfl⟩
 have hb:(!decide (eop=5) || (splitF enm).isNone)=false:=by
  rw [Al_decide_eq_true e5];cases hs:splitF enm with
  | some x=>rfl
  | none=>rw [hs] at h29;cases h29
 refine .sk<|.tN<|.sm Z<|.mv Z<|.yw (.build Z (Fx.bld35_0_1_2 _ _ _))<|.sX upd3 Z Z Fx.size35 Z<|.nt<|.rt<|?_
 refine y8 Z (.cell Z Fx.agg35 mem3 rfl) λW s=>?_;rw [hb,Al_Bool_true_and,Bool.or_false];exact ⟨z,Jt,Z,s.p4_2 [1,2] rfl⟩
variable {j:Nat} {v0 v1:Value} {xv:List Value}
theorem close_f {l:Tks} {rd dn:Bool} (K:Tkf H l tp tc) (hq:q.i<l.length) {v2 v3 v4 v5 v6 v7 v8 v9 va vb vc:Value} {os:List Value} (h1:∀ u∈[v0,v1,v2,v3,v4,v5,v6,v7,v8,v9,va,vb,vc],u.oneCell'=true) (hkm:k<=600001) (hjm:j<=600001) (hl:xr.length=k * 11) (s:St H w0 (.box b [.slice tp l.length tc,iN q.i,ro,rv,.bool rd,.bool dn,.bool bd,iN q.off,iN q.er] 102::.row 97 11 (ro) (k+1) (xr++os)::.row 179 13 (rv) (j) (xv)::bs) W) :
 Calls prg 156 #[.pointer (some ⟨b,0,none⟩),.agg [v0,v1,v2,v3,v4,v5,v6,v7,v8,v9,va,vb,vc].toArray] W λe W'=>∃ z:(Nat × Nat) × (Option Addr × Nat),(True)/\e=.returned (.tuple #[])/\St H w0 (.box b [.slice tp l.length tc,iN q.i,(.slice (some ⟨z.1.1,0,none⟩) k z.1.2),(.slice z.2.1 (j+1) z.2.2),.bool true,.bool dn,.bool bd,iN q.off,iN q.er] 102::.row 97 11 (.slice (some ⟨z.1.1,0,none⟩) k z.1.2) (k) (xr)::.row 179 13 (.slice z.2.1 (j+1) z.2.2) (j+1) (xv++[v0,v1,v2,v3,v4,v5,v6,v7,v8,v9,va,vb,vc])::bs) W':=by
 have hcap:=K.rep.cap;refine enterS func156 rfl ntmps156 rfl s ?_;refine Sx.rowCase (size:=11) (k:=k+1) (r:=ro) (e:=97) mem1 (by omega) λg c e hkc=>?_;subst e;refine .sr<|.bx Z Z Z λb3=>.nt<|.sq<|.fL 12 [(0,0),(1,0),(2,0),(3,0),(4,0),(5,0),(6,0),(7,0),(8,0),(9,0),(10,0),(11,0)]<|.mv Z<|.mv Z<|.nC Z<|.fA Z Fx.field102_2<|.lD Z Fx.agg98 mem1 Z<|.mv Z<|.nC Z<|.fA Z Fx.field102_2<|.lD Z Fx.agg98 mem1 Z<|.yw (.lenSl Fx.sl98 Z)<|.yw (.sub Z Z (c:=((k:Nat):Int)) ((w6 (by omega)).trans (by omega)))<|.yw (.cutHi Fx.sl98 Z Z Z (by omega) (λq e=>by cases e;rfl))<|.fn (tl:=[_,_,_]) Z<|.nC Z<|.fA Z Fx.field102_2<|.st upd1 Z Z Fx.size98 Z (nb Z) Z<|?_
 refine Sx.At.rcut (size:=11) (m:=k) (ys:=xr) upd2 (by omega) (by rw [<-hl,Al_List_take_left]) ?_;refine .nt<|.rg<|.mv Z<|.yw (.loadW Z Fx.agg179 Hm Z)<|.cs (X:=Option Addr × Nat) Fx.call108 Z (λW s=>give_f K hq h1 hjm (s.p4_4 [1,3,0,2] Z)) Z λz _=>.nl<|?_
 refine retN (.inr Z) rfl .nil rfl λW s=>⟨((g,c),z),Jt,Z,?_⟩;exact s.p4_3 [0,3,1] rfl
theorem Fx.agg95:aggN prg 95=some none:=by kernel_rfl
theorem Fx.call57:callN prg 57=true:=by kernel_rfl
theorem Fx.call155:callN prg 155=true:=by kernel_rfl
theorem Fx.field35_6:fieldN prg 35 6=some 6:=by kernel_rfl
theorem Fx.field97_0:fieldN prg 97 0=some 0:=by kernel_rfl
theorem Fx.field97_3:fieldN prg 97 3=some 3:=by kernel_rfl
theorem Fx.field97_4:fieldN prg 97 4=some 4:=by kernel_rfl
theorem Fx.size33:sizeN prg 33=some 1:=by kernel_rfl
theorem Fx.size97:sizeN prg 97=some 11:=by kernel_rfl
theorem Fx.zero97:zeroN prg 97=some
 [Go.Value.int Go.IntKind.u8 (Int.ofNat 0),Go.Value.int Go.IntKind.i64 (Int.ofNat 0),Go.Value.bool false,
  Go.Value.int Go.IntKind.u8 (Int.ofNat 0),Go.Value.int Go.IntKind.u8 (Int.ofNat 0),
  Go.Value.string { data:={ toList:=[] } },Go.Value.string { data:={ toList:=[] } },
  Go.Value.int Go.IntKind.i64 (Int.ofNat 0),Go.Value.int Go.IntKind.i64 (Int.ofNat 0),
  Go.Value.slice none 0 0,Go.Value.slice none 0 0]:=by kernel_rfl
theorem Fx.bld179_0_2 (x0:Bool) (x20 x21 x22 x23:Value):buildN prg 179 [(0,.bool x0),(2,.agg [x20,x21,x22,x23].toArray)]=some [.bool x0,.bool false,x20,x21,x22,x23,.int .u8 0,.string ⟨#[]⟩,.string ⟨#[]⟩,.int .i64 0,.int .i64 0,.slice none 0 0,.slice none 0 0]:=by kernel_rfl
theorem Fx.bld179_3 (x30 x31 x32 x33 x34 x35 x36:Value):buildN prg 179 [(3,.agg [x30,x31,x32,x33,x34,x35,x36].toArray)]=some [.bool false,.bool false,.int .u8 0,.string ⟨#[]⟩,.int .i64 0,.slice none 0 0,x30,x31,x32,x33,x34,x35,x36]:=by kernel_rfl
theorem Fx.bld35_0_5 (x0:Int) (x5p:Option Addr) (x5n x5c:Nat):buildN prg 35 [(0,.int .u8 x0),(5,.slice x5p x5n x5c)]=some [.int .u8 x0,.string ⟨#[]⟩,.string ⟨#[]⟩,.int .i64 0,.int .i64 0,.slice x5p x5n x5c,.slice none 0 0]:=by kernel_rfl
theorem Fx.bld76_0_3 (x0:Int) (x3p:Option Addr) (x3n x3c:Nat):buildN prg 76 [(0,.int .u8 x0),(3,.slice x3p x3n x3c)]=some [.int .u8 x0,.string ⟨#[]⟩,.int .i64 0,.slice x3p x3n x3c]:=by kernel_rfl
theorem Fx.bsl32_2 (x00 x01 x02 x03 x10 x11 x12 x13:Value):bslN prg 32 2 [(0,.agg [x00,x01,x02,x03].toArray),(1,.agg [x10,x11,x12,x13].toArray)]=some (76,[x00,x01,x02,x03,x10,x11,x12,x13]):=by kernel_rfl
theorem Fx.bsl33_1 (x00 x01 x02 x03 x04 x05 x06:Value):bslN prg 33 1 [(0,.agg [x00,x01,x02,x03,x04,x05,x06].toArray)]=some (35,[x00,x01,x02,x03,x04,x05,x06]):=by kernel_rfl
theorem Fx.bsl33_2 (x00 x01 x02 x03 x04 x05 x06 x10 x11 x12 x13 x14 x15 x16:Value):bslN prg 33 2 [(0,.agg [x00,x01,x02,x03,x04,x05,x06].toArray),(1,.agg [x10,x11,x12,x13,x14,x15,x16].toArray)]=some (35,[x00,x01,x02,x03,x04,x05,x06,x10,x11,x12,x13,x14,x15,x16]):=by kernel_rfl
variable {xo:List Value} {AR:List Res}
theorem Ops.inv {o:Ov} {r:List Ov} (h:Ops H (o::r) xo AR) (hk:o.kd≠5):∃ xr s1 s2,xo=xr++oC o s1 s2/\Ops H r xr AR/\FmR H o.f s1 s2:=by
 cases h with
 | cons h k f=>exact ⟨_,_,_,Z,h,f⟩
 | arg h k a b c z s=>exact absurd k hk
theorem VR.inv {v:Vl} {vs:List Vl} (h:VR H (v::vs) xv):∃ xr s0 s1 s2,xv=xr++vC v s0 s1 s2/\VR H vs xr/\VlR H v s0 s1 s2:=by
 cases h with
 | cons h k=>exact ⟨_,_,_,_,Z,h,k⟩
theorem cnt_le (r:List Ov):cntB r<=r.length:=List.length_filter_le ..
theorem wf_comb {l:Tks} {c:Rq} {o:Ov} {r:List Ov} {x:Vb} {dn:Bool} (h:Fwf l ⟨c,o::r,x,true,dn⟩) (h0:0<o.lv):Fwf l ⟨c,r,comb o x,true,dn⟩:=by
 obtain ⟨r1,e,hr⟩:=h.op;cases r1 with
 | nil =>
  injection e with e1 e2
  subst e1;exact absurd h0 (by decide)
 | cons o1 r1 =>
  injection e with e1 e2
  subst e1;have ho:=hr _ (Al_List_mem_cons_self ..);have hv:=h.vs
  have hv':x.1.length=(if cnO o then 1 else 0)+cntB r+1:=by
   have:x.1.length=cntB (o::r)+1:=hv;rw [cnt_cons] at this;exact this
  have hl:=comb_len ho h0 (x:=x) (by rw [hv'];split <;> omega);refine ⟨h.i,⟨r1,e2,λz hz=>hr z (Al_List_mem_cons_of_mem _ hz)⟩,?_,?_⟩
  ·show (comb o x).1.length=cntB r+1;rw [hl,hv'];split <;> omega
  ·have:=h.so;show r.length<=c.i+1;have e3:(o::r).length<=c.i+1:=this;rw [Al_List_length_cons] at e3;omega
theorem wf_len {l:Tks} {q:Ps} (h:Fwf l q) (hn:l.length<=600000):q.op.length<=600000/\q.x.1.length<=600001:=by
 have h1:=h.so;have h2:=h.i;have h3:=h.vs;have h4:=cnt_le q.op;refine ⟨by omega,?_⟩;rw [h3]
 split <;> omega
theorem comb_10 {o:Ov} {v:Vl} {V:List Vl} {b:Bool} (h:o.kd=10):comb o (v::V,b)=(tmv (.mk 9 [] 0 [v.e])::V,b || !v.tm):=by unfold comb;rw [Al_if_pos h];rfl
theorem comb_9 {o:Ov} {v u:Vl} {V:List Vl} {b:Bool} (h:o.kd=9):comb o (v::u::V,b)=(tmv (.mk o.op [] 0 [u.e,v.e])::V,b || !v.tm || !u.tm):=by
 unfold comb;rw [Al_if_neg (by rw [h];decide),Al_if_pos h];rfl
theorem comb_8 {o:Ov} {v u:Vl} {V:List Vl} {b:Bool} (h:o.kd=8):comb o (v::u::V,b)=(fmv (.mk 3 [] [] 0 0 [.mk o.op [] 0 [u.e,v.e]] [])::V,b || !v.tm || !u.tm):=by
 unfold comb;rw [Al_if_neg (by rw [h];decide),Al_if_neg (by rw [h];decide),Al_if_pos h];rfl
theorem comb_7 {o:Ov} {v:Vl} {V:List Vl} {b:Bool} (h:o.kd=7):comb o (v::V,b)=(fmv (o.f.wAr [v.fm])::V,b || v.noF):=by
 unfold comb;rw [Al_if_neg (by rw [h];decide),Al_if_neg (by rw [h];decide),Al_if_neg (by rw [h];decide),Al_if_pos h];rfl
theorem comb_6 {o:Ov} {v u:Vl} {V:List Vl} {b:Bool} (h:o.kd=6):comb o (v::u::V,b)=(fmv (o.f.wAr [u.fm,v.fm])::V,b || v.noF || u.noF):=by
 unfold comb;rw [Al_if_neg (by rw [h];decide),Al_if_neg (by rw [h];decide),Al_if_neg (by rw [h];decide),Al_if_neg (by rw [h];decide),Al_if_pos h];rfl
theorem list1 {α:Type} {l:List α} (h:1<=l.length):∃ a r,l=a::r:=by cases l with | nil=>cases h | cons a r=>exact ⟨a,r,rfl⟩
theorem list2 {α:Type} {l:List α} (h:2<=l.length):∃ a b r,l=a::b::r:=by
 match l,h with
 | a::b::r,_=>exact ⟨a,b,r,Z⟩
variable {s1 s2:Value}
theorem fm_lay {v:Vl} {s0:Value} (h:VlR H v s0 s1 s2):∃ t1 t2,fmC v.tm v.e.nm (cFm .u8 v.f.op v.f.nm v.f.fd v.f.a v.f.b s1 s2)=cFm .u8 v.fm.op v.fm.nm v.fm.fd v.fm.a v.fm.b t1 t2/\FmR H v.fm t1 t2:=by
 unfold fmC Vl.fm;cases v.tm with
 | true =>
  refine ⟨.slice none 0 0,.slice none 0 0,Z,FmR.zero rfl rfl ?_ ?_⟩
  ·show (spA v.e.nm).length<=1000000;have:=h.e.nm;unfold spA;rcases split_ix v.e.nm with ⟨i,_,hi,e⟩ | ⟨_,e⟩
   ·rw [e];show (v.e.nm.take i).length<=_;rw [Al_List_length_take];omega
   ·rw [e];exact Al_Nat_zero_le _
  ·show (spB v.e.nm).length<=1000000;have:=h.e.nm;unfold spB;rcases split_ix v.e.nm with ⟨i,_,hi,e⟩ | ⟨_,e⟩
   ·rw [e];show (v.e.nm.drop (i+1)).length<=_;rw [Al_List_length_drop];omega
   ·rw [e];exact Al_Nat_zero_le _
 | false=>exact ⟨s1,s2,Z,h.f⟩
theorem Ops.inv2 {o:Ov} {r:List Ov} (h:Ops H (o::r) (xr++oC o s1 s2) AR) (hk:o.kd≠5):Ops H r xr AR/\FmR H o.f s1 s2:=by
 obtain ⟨xr',t1,t2,e,h1,h2⟩:=h.inv hk;obtain ⟨e1,e2⟩:=List.append_inj' e rfl;subst e1;simp only [Al_List_cons_injEq,Al_and_true,true_and] at e2;obtain ⟨rfl,rfl⟩:=e2;exact ⟨h1,h2⟩
theorem reduce_f {l:Tks} {op:List Ov} {x:Vb} {dn:Bool} (K:Tkf H l tp tc) (Wq:Fwf l ⟨q,op,x,true,dn⟩) (S:Sq H ⟨q,op,x,true,dn⟩ xo xv AR) (lv:Nat) (hlv:1<=lv/\lv<=9) (s:St H w0 (.box b [.slice tp l.length tc,iN q.i,ro,rv,.bool true,.bool dn,.bool x.2,iN q.off,iN q.er] 102::.row 97 11 (ro) (op.length) (xo)::.row 179 13 (rv) (x.1.length) (xv)::(AR++bs)) W) :
 Calls prg 102 #[.pointer (some ⟨b,0,none⟩),iN lv] W (Get w0 bs b l tp tc H (redP lv ⟨q,op,x,true,dn⟩)):=by
 have hq:q.i<l.length:=Wq.i;have hcap:=K.rep.cap;refine enterS func102 rfl ntmps102 rfl s ?_;refine .bk<|.lp (X:=(Hp × Value × Value × List Value × List Value) × List Ov × Vb) [(0,_),(1,_)] ⟨Z,Z,Jt⟩ ((AR++bs)) (λz=>[]) (λz=>z.1.1) (λz=>[.box b [.slice tp l.length tc,iN q.i,z.1.2.1,z.1.2.2.1,.bool true,.bool dn,.bool z.2.2.2,iN q.off,iN q.er] 102,.row 97 11 (z.1.2.1) (z.2.1.length) (z.1.2.2.2.1),.row 179 13 (z.1.2.2.1) (z.2.2.1.length) (z.1.2.2.2.2)]) (λz=>HUp w0 H z.1.1/\Sq z.1.1 ⟨q,z.2.1,z.2.2,true,dn⟩ z.1.2.2.2.1 z.1.2.2.2.2 AR/\Fwf l ⟨q,z.2.1,z.2.2,true,dn⟩/\redL lv z.2.1 z.2.2=redL lv op x) (λz=>z.2.1.length) ((H,ro,rv,xo,xv),op,x) (λ_ s=>s) trivial ⟨.refl,S,Wq,Z⟩ λz hC=>?_
 obtain ⟨⟨H1,ro1,rv1,xo1,xv1⟩,op1,x1⟩:=z;obtain ⟨u1,S1,W1,e1⟩:=hC;dsimp only at u1 S1 W1 e1|-;have K1:=K.up u1.up;obtain ⟨o,r,rfl⟩:=list1 (l:=op1) (by have:=W1.ne;cases op1 with | nil=>exact absurd rfl this | cons a t=>exact Nat.succ_pos _);obtain ⟨hn1,hn2⟩:=wf_len W1 K.few;try dsimp only [List.length_cons] at hn1 hn2
 obtain ⟨xr,s1,s2,e2,hlo,ho1,ho2⟩:=Ops.top S1.ops;try dsimp only at e2
 subst e2;refine Sx.rowCase (size:=11) (r:=ro1) (e:=97) mem1 (Nat.succ_pos _) λg c e hkc=>?_;try dsimp only [List.length_cons] at hkc
 subst e;refine .sq<|.sm Z<|.cs (X:=Unit) Fx.call105 Z (λW s=>top_f K1 hq (g:=g) (k:=r.length) (c:=c) (by omega) (s.pickT (hd:=[_,_,_]) (tl:=(AR++bs)) (hd':=[_,_,_]) [0,1,2] Z Z)) Z λ_ _=>.nC Z<|.fA Z Fx.field97_1<|.yw (.loadR1 Z Fx.agg3 mem1 (app_at hlo Z))<|.mv Z<|.yw (.geq Z Z)<|.nt<|.ce Z (λh17=>?_) (λh17=>?_)
 ·have hle:lv<=o.lv:=by omega
  have h0:0<o.lv:=by omega
  refine .sk<|.tN<|.bk<|.sm Z<|.cs (X:=Unit) Fx.call105 Z (λW s=>top_f K1 hq (g:=g) (k:=r.length) (c:=c) (by omega) (s.pickT (hd:=[_,_,_]) (tl:=(AR++bs)) (hd':=[_,_,_]) [0,1,2] Z Z)) Z λ_ _=>.nC Z<|.yw (.loadR (vs:=oC o s1 s2) Z Fx.agg97 mem1 Z (λj u h=>app_at hlo h))<|.al Fx.zero97 Z λb4=>.sW .head Z Z Fx.size97 (oC_one ho1 ho2) Z<|.nt<|.sq<|.fL 12 [(0,0),(1,0),(2,0),(3,0),(4,0),(5,0),(6,0),(7,0),(8,0),(9,0),(10,0),(11,0)]<|.mv Z<|.mv Z<|.nC Z<|.fA Z Fx.field102_2<|.lD Z Fx.agg98 mem1 Z<|.mv Z<|.nC Z<|.fA Z Fx.field102_2<|.lD Z Fx.agg98 mem1 Z<|.yw (.lenSl Fx.sl98 Z)<|.yw (.sub Z Z (c:=((r.length:Nat):Int)) ((w6 (by omega)).trans (by omega)))<|.yw (.cutHi Fx.sl98 Z Z Z (by omega) (λq e=>by cases e;rfl))<|.fn (tl:=[_,_,_]) Z<|.nC Z<|.fA Z Fx.field102_2<|.st upd1 Z Z Fx.size98 Z (nb Z) Z<|?_
  refine Sx.At.rcut (size:=11) (m:=r.length) (ys:=xr) upd2 (Nat.le_succ _) (by rw [<-hlo,Al_List_take_left]) ?_;refine .ns<|.fA Z Fx.field97_0<|.lD Z Fx.agg95 Hm Z<|.nt<|.bk<|.sr<|.yw (.eql Z Z)<|.aq Z<|.ce Z (λh38=>?_) (λh38=>?_)
  ·have hk:o.kd=10:=Al_UInt8_toNat_inj.1 (by show o.kd.toNat=10;omega);have hk5:o.kd≠5:=by rw [hk];decide
   have hv1:1<=x1.1.length:=by have:=W1.vs;dsimp only at this;rw [this];exact Nat.le_add_left _ _
   obtain ⟨vs,bd⟩:=x1;try dsimp only at hv1 hn2
   obtain ⟨v,V,rfl⟩:=list1 hv1;obtain ⟨yr,t0,t1,t2,e4,VS1,V1⟩:=VR.inv S1.vls;try dsimp only at e4
   subst e4;have l1:=VS1.len;try dsimp only [List.length_cons] at hn2
   refine .sm Z<|.cs (X:=Nat × Nat) Fx.call155 Z (λW s=>term_f K1 hq V1.one (by omega) l1 (s.pickT (hd:=[_,_,_,_]) (tl:=(AR++bs)) (hd':=[_,_,_,_]) [1,3,0,2] Z Z)) Z λp1 _=>.al Fx.zero76 Z λb5=>.sW .head Z Z Fx.size76 (by intro u hu;exact Rep.one V1.e.rep u hu) Z<|.nt<|.rg<|.mv Z<|.yw (.loadW Z Fx.agg76 Hm Z)<|.bl Z (Fx.bsl32_1 _ _ _ _) Z λb44=>?_
   refine Sx.freezeBoxN λH2 u2 m2=>?_;refine .yw (.build Z (Fx.bld76_0_3 _ _ _ _))<|.yw (.build Z (Fx.bld179_0_2 _ _ _ _ _))<|?_
   have VN:VlR H2 (tmv (.mk 9 [] 0 [v.e])) (.slice (some ⟨b44,0,none⟩) 1 1) (.slice none 0 0) (.slice none 0 0):=⟨⟨(Rep.mk m2 (.single (V1.e.up u2.up).rep rfl) rfl (Al_Nat_le_refl _) (by decide)),Al_Nat_zero_le _⟩,FmR.zero rfl rfl (Al_Nat_zero_le _) (Al_Nat_zero_le _)⟩;exact .cs (X:=Option Addr × Nat) Fx.call108 Z (λW s=>give_f (K1.up u2.up) hq VN.one (by omega) (s.pickT (hd:=[_,_,_,_,_]) (tl:=(AR++bs)) (hd':=[_,_,_,_,_]) [1,2,0,3,4] Z Z)) Z λp9 _=>.nl<|.bN<|.bN<|.tN<|.ag (x:=((H1,Value.slice (some ⟨g,0,none⟩) (o::r).length c,rv1,xr++oC o s1 s2,yr++vC v t0 t1 t2),o::r,(v::V,bd))) (((H2,Value.slice (some ⟨g,0,none⟩) r.length c,Value.slice p9.1 (V.length+1) p9.2,xr,yr++vC (tmv (.mk 9 [] 0 [v.e])) (.slice (some ⟨b44,0,none⟩) 1 1) (.slice none 0 0) (.slice none 0 0)),r,(tmv (.mk 9 [] 0 [v.e])::V,bd || !v.tm))) trivial ⟨rfl,rfl,trivial⟩ (λ_ s=>(s.pickT (hd:=[_,_,_,_,_]) (tl:=(AR++bs)) (hd':=[_,_,_]) [0,4,1] Z Z)) ⟨u1.trans u2,⟨(Ops.inv2 S1.ops hk5).1.up u2.up,.cons (VS1.up u2.up) VN⟩,(by rw [<-comb_10 hk];exact wf_comb W1 h0),(by rw [<-comb_10 hk,<-e1,redL,Al_if_pos hle])⟩ (Al_Nat_lt_succ_self _)
  have hk10:¬ o.kd=10:=λe=>by rw [e] at h38;exact h38 rfl
  refine .sq<|.sr<|.yw (.eql Z Z)<|.aq Z<|.cr Z (λh48=>?_) (λh48=>?_)
  ·try simp only [dt] at h48
   have hk:o.kd=9:=Al_UInt8_toNat_inj.1 (by show o.kd.toNat=9;omega);have hk5:o.kd≠5:=by rw [hk];decide
   have hv1:2<=x1.1.length:=by have:=W1.vs;dsimp only at this;rw [this,cnt_cons,show cnO o=true by unfold cnO;rw [hk];decide];simp only [Al_if_true];omega
   obtain ⟨vs,bd⟩:=x1;try dsimp only at hv1 hn2
   obtain ⟨v,u,V,rfl⟩:=list2 hv1;obtain ⟨yr,t0,t1,t2,e4,VS1,V1⟩:=VR.inv S1.vls;try dsimp only at e4
   subst e4;have l1:=VS1.len;obtain ⟨yr2,w0_,w1,w2,e5,VS2,V2⟩:=VR.inv VS1;subst e5;have l2:=VS2.len;try dsimp only [List.length_cons] at hn2 l1
   refine .sk<|.tN<|.cT Z<|.sm Z<|.cs (X:=Nat × Nat) Fx.call155 Z (λW s=>term_f K1 hq V1.one (by omega) l1 (s.pickT (hd:=[_,_,_,_]) (tl:=(AR++bs)) (hd':=[_,_,_,_]) [1,3,0,2] Z Z)) Z λp1 _=>.mv Z<|.cs (X:=Nat × Nat) Fx.call155 Z (λW s=>term_f K1 hq V2.one (by omega) l2 (s.pickT (hd:=[_,_,_,_]) (tl:=(AR++bs)) (hd':=[_,_,_,_]) [0,1,2,3] Z Z)) Z λp2 _=>.al Fx.zero76 Z λb6=>.al Fx.zero76 Z λb7=>.sW upd1 Z Z Fx.size76 (by intro a ha;exact Rep.one V1.e.rep a ha) Z<|.sW .head Z Z Fx.size76 (by intro a ha;exact Rep.one V2.e.rep a ha) Z<|.ns<|.fA Z Fx.field97_3<|.lD Z Fx.agg74 mem4 Z<|.yw (.loadW Z Fx.agg76 Hm Z)<|.yw (.loadW Z Fx.agg76 mem1 Z)<|.bl Z (Fx.bsl32_2 _ _ _ _ _ _ _ _) Z λb59=>?_
   refine Sx.freezeBoxN λH2 u2 m2=>?_;refine .yw (.build Z (Fx.bld76_0_3 _ _ _ _))<|.al Fx.zero76 Z λb8=>.sX .head Z Z Fx.size76 Z<|.ns<|.fA Z Fx.field97_0<|.lD Z Fx.agg95 mem5 Z<|.yw (.eql Z Z)<|.nt<|.cd Z (λh63=>?_) (λh63=>?_)
   ·try simp only [dt] at h63
    refine .rg<|.mv Z<|.yw (.loadW Z Fx.agg76 Hm Z)<|.yw (.build Z (Fx.bld179_0_2 _ _ _ _ _))<|?_
    have VN:VlR H2 (tmv (.mk o.op [] 0 [u.e,v.e])) (.slice (some ⟨b59,0,none⟩) 2 2) (.slice none 0 0) (.slice none 0 0):=⟨⟨(Rep.mk m2 (.app (.single (V2.e.up u2.up).rep rfl) (.single (V1.e.up u2.up).rep rfl)) rfl (Al_Nat_le_refl _) (by decide)),Al_Nat_zero_le _⟩,FmR.zero rfl rfl (Al_Nat_zero_le _) (Al_Nat_zero_le _)⟩;exact .cs (X:=Option Addr × Nat) Fx.call108 Z (λW s=>give_f (K1.up u2.up) hq VN.one (by omega) (s.pickT (hd:=[_,_,_,_,_,_,_]) (tl:=(AR++bs)) (hd':=[_,_,_,_,_,_,_]) [3,4,0,1,2,5,6] Z Z)) Z λp9 _=>.nl<|.bN<|.bN<|.tN<|.ag (x:=((H1,Value.slice (some ⟨g,0,none⟩) (o::r).length c,rv1,xr++oC o s1 s2,(yr2++vC u w0_ w1 w2)++vC v t0 t1 t2),o::r,(v::u::V,bd))) (((H2,Value.slice (some ⟨g,0,none⟩) r.length c,Value.slice p9.1 (V.length+1) p9.2,xr,yr2++vC (tmv (.mk o.op [] 0 [u.e,v.e])) (.slice (some ⟨b59,0,none⟩) 2 2) (.slice none 0 0) (.slice none 0 0)),r,(tmv (.mk o.op [] 0 [u.e,v.e])::V,bd || !v.tm || !u.tm))) trivial ⟨rfl,rfl,trivial⟩ (λ_ s=>(s.pickT (hd:=[_,_,_,_,_,_,_]) (tl:=(AR++bs)) (hd':=[_,_,_]) [0,6,1] Z Z)) ⟨u1.trans u2,⟨(Ops.inv2 S1.ops hk5).1.up u2.up,.cons (VS2.up u2.up) VN⟩,(by rw [<-comb_9 hk];exact wf_comb W1 h0),(by rw [<-comb_9 hk,<-e1,redL,Al_if_pos hle])⟩ (Al_Nat_lt_succ_self _)
   exact absurd (by rw [hk];rfl) (Al_of_decide_eq_false h63)
  try simp only [df] at h48
  have hk9:¬ o.kd=9:=λe=>by rw [e] at h48;exact h48 rfl
  refine .rg<|.yw (.eql Z Z)<|.aq Z<|.cr Z (λh48=>?_) (λh48=>?_)
  ·try simp only [dt] at h48
   have hk:o.kd=8:=Al_UInt8_toNat_inj.1 (by show o.kd.toNat=8;omega);have hk5:o.kd≠5:=by rw [hk];decide
   have hv1:2<=x1.1.length:=by have:=W1.vs;dsimp only at this;rw [this,cnt_cons,show cnO o=true by unfold cnO;rw [hk];decide];simp only [Al_if_true];omega
   obtain ⟨vs,bd⟩:=x1;try dsimp only at hv1 hn2
   obtain ⟨v,u,V,rfl⟩:=list2 hv1;obtain ⟨yr,t0,t1,t2,e4,VS1,V1⟩:=VR.inv S1.vls;try dsimp only at e4
   subst e4;have l1:=VS1.len;obtain ⟨yr2,w0_,w1,w2,e5,VS2,V2⟩:=VR.inv VS1;subst e5;have l2:=VS2.len;try dsimp only [List.length_cons] at hn2 l1
   refine .sm Z<|.cs (X:=Nat × Nat) Fx.call155 Z (λW s=>term_f K1 hq V1.one (by omega) l1 (s.pickT (hd:=[_,_,_,_]) (tl:=(AR++bs)) (hd':=[_,_,_,_]) [1,3,0,2] Z Z)) Z λp1 _=>.mv Z<|.cs (X:=Nat × Nat) Fx.call155 Z (λW s=>term_f K1 hq V2.one (by omega) l2 (s.pickT (hd:=[_,_,_,_]) (tl:=(AR++bs)) (hd':=[_,_,_,_]) [0,1,2,3] Z Z)) Z λp2 _=>.al Fx.zero76 Z λb6=>.al Fx.zero76 Z λb7=>.sW upd1 Z Z Fx.size76 (by intro a ha;exact Rep.one V1.e.rep a ha) Z<|.sW .head Z Z Fx.size76 (by intro a ha;exact Rep.one V2.e.rep a ha) Z<|.ns<|.fA Z Fx.field97_3<|.lD Z Fx.agg74 mem4 Z<|.yw (.loadW Z Fx.agg76 Hm Z)<|.yw (.loadW Z Fx.agg76 mem1 Z)<|.bl Z (Fx.bsl32_2 _ _ _ _ _ _ _ _) Z λb59=>?_
   refine Sx.freezeBoxN λH2 u2 m2=>?_;refine .yw (.build Z (Fx.bld76_0_3 _ _ _ _))<|.al Fx.zero76 Z λb8=>.sX .head Z Z Fx.size76 Z<|.ns<|.fA Z Fx.field97_0<|.lD Z Fx.agg95 mem5 Z<|.yw (.eql Z Z)<|.nt<|.cd Z (λh63=>?_) (λh63=>?_)
   ·exact absurd (Al_of_decide_eq_true h63) (by rw [hk];decide)
   try simp only [df] at h63
   refine .rg<|.mv Z<|.yw (.loadW Z Fx.agg76 Hm Z)<|.bl Z (Fx.bsl32_1 _ _ _ _) Z λb70=>?_
   refine Sx.freezeBoxN λH3 u3 m3=>?_;refine .yw (.build Z (Fx.bld35_0_5 _ _ _ _))<|.yw (.build Z (Fx.bld179_3 _ _ _ _ _ _ _))<|?_
   have RX:ExR H2 (.mk o.op [] 0 [u.e,v.e]) (.slice (some ⟨b59,0,none⟩) 2 2):=⟨(Rep.mk m2 (.app (.single (V2.e.up u2.up).rep rfl) (.single (V1.e.up u2.up).rep rfl)) rfl (Al_Nat_le_refl _) (by decide)),Al_Nat_zero_le _⟩;have VN:VlR H3 (fmv (.mk 3 [] [] 0 0 [.mk o.op [] 0 [u.e,v.e]] [])) (.slice none 0 0) (.slice (some ⟨b70,0,none⟩) 1 1) (.slice none 0 0):=⟨ExR.zero rfl (Al_Nat_zero_le _),⟨(Rep.mk m3 (.single (RX.up u3.up).rep rfl) rfl (Al_Nat_le_refl _) (by decide)),Rep.nil4,Al_Nat_zero_le _,Al_Nat_zero_le _⟩⟩;exact .cs (X:=Option Addr × Nat) Fx.call108 Z (λW s=>give_f ((K1.up u2.up).up u3.up) hq VN.one (by omega) (s.pickT (hd:=[_,_,_,_,_,_,_]) (tl:=(AR++bs)) (hd':=[_,_,_,_,_,_,_]) [3,4,0,1,2,5,6] Z Z)) Z λp9 _=>.nl<|.bN<|.bN<|.tN<|.ag (x:=((H1,Value.slice (some ⟨g,0,none⟩) (o::r).length c,rv1,xr++oC o s1 s2,(yr2++vC u w0_ w1 w2)++vC v t0 t1 t2),o::r,(v::u::V,bd))) (((H3,Value.slice (some ⟨g,0,none⟩) r.length c,Value.slice p9.1 (V.length+1) p9.2,xr,yr2++vC (fmv (.mk 3 [] [] 0 0 [.mk o.op [] 0 [u.e,v.e]] [])) (.slice none 0 0) (.slice (some ⟨b70,0,none⟩) 1 1) (.slice none 0 0)),r,(fmv (.mk 3 [] [] 0 0 [.mk o.op [] 0 [u.e,v.e]] [])::V,bd || !v.tm || !u.tm))) trivial ⟨rfl,rfl,trivial⟩ (λ_ s=>(s.pickT (hd:=[_,_,_,_,_,_,_]) (tl:=(AR++bs)) (hd':=[_,_,_]) [0,6,1] Z Z)) ⟨u1.trans (u2.trans u3),⟨(Ops.inv2 S1.ops hk5).1.up (u2.trans u3).up,.cons (VS2.up (u2.trans u3).up) VN⟩,(by rw [<-comb_8 hk];exact wf_comb W1 h0),(by rw [<-comb_8 hk,<-e1,redL,Al_if_pos hle])⟩ (Al_Nat_lt_succ_self _)
  try simp only [df] at h48
  have hk8:¬ o.kd=8:=λe=>by rw [e] at h48;exact h48 rfl
  refine .sr<|.yw (.eql Z Z)<|.aq Z<|.ce Z (λh74=>?_) (λh74=>?_)
  ·have hk:o.kd=7:=Al_UInt8_toNat_inj.1 (by show o.kd.toNat=7;omega);have hk5:o.kd≠5:=by rw [hk];decide
   have hv1:1<=x1.1.length:=by have:=W1.vs;dsimp only at this;rw [this];exact Nat.le_add_left _ _
   obtain ⟨vs,bd⟩:=x1;try dsimp only at hv1 hn2
   obtain ⟨v,V,rfl⟩:=list1 hv1;obtain ⟨yr,t0,t1,t2,e4,VS1,V1⟩:=VR.inv S1.vls;try dsimp only at e4
   subst e4;have l1:=VS1.len;try dsimp only [List.length_cons] at hn2
   refine .sm Z<|.cs (X:=Nat × Nat) Fx.call57 Z (λW s=>formula_f K1 hq V1.one V1.e.nm (by omega) l1 (s.pickT (hd:=[_,_,_,_]) (tl:=(AR++bs)) (hd':=[_,_,_,_]) [1,3,0,2] Z Z)) Z λp1 _=>?_
   obtain ⟨q1,q2,ef,FR⟩:=fm_lay V1;rw [ef];refine .bl Z (Fx.bsl33_1 _ _ _ _ _ _ _) Z λb78=>?_;refine Sx.freezeBoxN λH2 u2 m2=>?_;refine .fA Z Fx.field97_4<|.fA Z Fx.field35_6<|.st upd2 Z Z Fx.size33 Z (nb Z) Z<|.nt<|.rg<|.mv Z<|.fA Z Fx.field97_4<|.yw (.loadS (vs:=[_,_,_,_,_,_,_]) Z Fx.agg35 mem2 Z (subL Z))<|.yw (.build Z (Fx.bld179_3 _ _ _ _ _ _ _))<|?_
   have FO:=(Ops.inv2 S1.ops hk5).2;have VN:VlR H2 (fmv (o.f.wAr [v.fm])) (.slice none 0 0) s1 (.slice (some ⟨b78,0,none⟩) 1 1):=⟨ExR.zero rfl (Al_Nat_zero_le _),⟨FO.ex.up u2.up,(Rep.mk m2 (.single (FR.up u2.up).rep rfl) rfl (Al_Nat_le_refl _) (by decide)),FO.nm,FO.fd⟩⟩;exact .cs (X:=Option Addr × Nat) Fx.call108 Z (λW s=>give_f (K1.up u2.up) hq VN.one (by omega) (s.pickT (hd:=[_,_,_,_]) (tl:=(AR++bs)) (hd':=[_,_,_,_]) [0,1,2,3] Z Z)) Z λp9 _=>.nl<|.bN<|.bN<|.tN<|.ag (x:=((H1,Value.slice (some ⟨g,0,none⟩) (o::r).length c,rv1,xr++oC o s1 s2,yr++vC v t0 t1 t2),o::r,(v::V,bd))) (((H2,Value.slice (some ⟨g,0,none⟩) r.length c,Value.slice p9.1 (V.length+1) p9.2,xr,yr++vC (fmv (o.f.wAr [v.fm])) (.slice none 0 0) s1 (.slice (some ⟨b78,0,none⟩) 1 1)),r,(fmv (o.f.wAr [v.fm])::V,bd || v.noF))) trivial ⟨rfl,rfl,trivial⟩ (λ_ s=>(s.pickT (hd:=[_,_,_,_]) (tl:=(AR++bs)) (hd':=[_,_,_]) [0,3,1] Z Z)) ⟨u1.trans u2,⟨(Ops.inv2 S1.ops hk5).1.up u2.up,.cons (VS1.up u2.up) VN⟩,(by rw [<-comb_7 hk];exact wf_comb W1 h0),(by rw [<-comb_7 hk,<-e1,redL,Al_if_pos hle])⟩ (Al_Nat_lt_succ_self _)
  have hk7:¬ o.kd=7:=λe=>by rw [e] at h74;exact h74 rfl
  refine .sr<|.yw (.eql Z Z)<|.aq Z<|.cd Z (λh86=>?_) (λh86=>?_)
  ·try simp only [dt] at h86
   have hk:o.kd=6:=Al_UInt8_toNat_inj.1 (by show o.kd.toNat=6;omega);have hk5:o.kd≠5:=by rw [hk];decide
   have hv1:2<=x1.1.length:=by have:=W1.vs;dsimp only at this;rw [this,cnt_cons,show cnO o=true by unfold cnO;rw [hk];decide];simp only [Al_if_true];omega
   obtain ⟨vs,bd⟩:=x1;try dsimp only at hv1 hn2
   obtain ⟨v,u,V,rfl⟩:=list2 hv1;obtain ⟨yr,t0,t1,t2,e4,VS1,V1⟩:=VR.inv S1.vls;try dsimp only at e4
   subst e4;have l1:=VS1.len;obtain ⟨yr2,w0_,w1,w2,e5,VS2,V2⟩:=VR.inv VS1;subst e5;have l2:=VS2.len;try dsimp only [List.length_cons] at hn2 l1
   refine .sm Z<|.cs (X:=Nat × Nat) Fx.call57 Z (λW s=>formula_f K1 hq V1.one V1.e.nm (by omega) l1 (s.pickT (hd:=[_,_,_,_]) (tl:=(AR++bs)) (hd':=[_,_,_,_]) [1,3,0,2] Z Z)) Z λp1 _=>?_
   obtain ⟨q1,q2,ef,FR⟩:=fm_lay V1;rw [ef];refine .mv Z<|.cs (X:=Nat × Nat) Fx.call57 Z (λW s=>formula_f K1 hq V2.one V2.e.nm (by omega) l2 (s.pickT (hd:=[_,_,_,_]) (tl:=(AR++bs)) (hd':=[_,_,_,_]) [0,1,2,3] Z Z)) Z λp2 _=>?_
   obtain ⟨q3,q4,ef2,FR2⟩:=fm_lay V2;rw [ef2];refine .al Fx.zero35 Z λb9=>.al Fx.zero35 Z λb10=>.sW upd1 Z Z Fx.size35 (by intro a ha;exact Rep.one FR.rep a ha) Z<|.sW .head Z Z Fx.size35 (by intro a ha;exact Rep.one FR2.rep a ha) Z<|.ns<|.yw (.loadW Z Fx.agg35 Hm Z)<|.yw (.loadW Z Fx.agg35 mem1 Z)<|.bl Z (Fx.bsl33_2 _ _ _ _ _ _ _ _ _ _ _ _ _ _) Z λb94=>?_
   refine Sx.freezeBoxN λH2 u2 m2=>?_;refine .fA Z Fx.field97_4<|.fA Z Fx.field35_6<|.st upd4 Z Z Fx.size33 Z (nb Z) Z<|.nt<|.rg<|.mv Z<|.fA Z Fx.field97_4<|.yw (.loadS (vs:=[_,_,_,_,_,_,_]) Z Fx.agg35 mem4 Z (subL Z))<|.yw (.build Z (Fx.bld179_3 _ _ _ _ _ _ _))<|?_
   have FO:=(Ops.inv2 S1.ops hk5).2;have VN:VlR H2 (fmv (o.f.wAr [u.fm,v.fm])) (.slice none 0 0) s1 (.slice (some ⟨b94,0,none⟩) 2 2):=⟨ExR.zero rfl (Al_Nat_zero_le _),⟨FO.ex.up u2.up,(Rep.mk m2 (.app (.single (FR2.up u2.up).rep rfl) (.single (FR.up u2.up).rep rfl)) rfl (Al_Nat_le_refl _) (by decide)),FO.nm,FO.fd⟩⟩;exact .cs (X:=Option Addr × Nat) Fx.call108 Z (λW s=>give_f (K1.up u2.up) hq VN.one (by omega) (s.pickT (hd:=[_,_,_,_,_,_]) (tl:=(AR++bs)) (hd':=[_,_,_,_,_,_]) [2,3,0,1,4,5] Z Z)) Z λp9 _=>.nl<|.bN<|.bN<|.tN<|.ag (x:=((H1,Value.slice (some ⟨g,0,none⟩) (o::r).length c,rv1,xr++oC o s1 s2,(yr2++vC u w0_ w1 w2)++vC v t0 t1 t2),o::r,(v::u::V,bd))) (((H2,Value.slice (some ⟨g,0,none⟩) r.length c,Value.slice p9.1 (V.length+1) p9.2,xr,yr2++vC (fmv (o.f.wAr [u.fm,v.fm])) (.slice none 0 0) s1 (.slice (some ⟨b94,0,none⟩) 2 2)),r,(fmv (o.f.wAr [u.fm,v.fm])::V,bd || v.noF || u.noF))) trivial ⟨rfl,rfl,trivial⟩ (λ_ s=>(s.pickT (hd:=[_,_,_,_,_,_]) (tl:=(AR++bs)) (hd':=[_,_,_]) [0,5,1] Z Z)) ⟨u1.trans u2,⟨(Ops.inv2 S1.ops hk5).1.up u2.up,.cons (VS2.up u2.up) VN⟩,(by rw [<-comb_6 hk];exact wf_comb W1 h0),(by rw [<-comb_6 hk,<-e1,redL,Al_if_pos hle])⟩ (Al_Nat_lt_succ_self _)
  exact absurd ((okO_lv (by obtain ⟨r1,e7,hr1⟩:=W1.op;cases r1 with | nil=>(injection e7 with e7 _;subst e7;exact absurd h0 (by decide)) | cons a r1=>(injection e7 with e7 _;subst e7;exact hr1 _ (Al_List_mem_cons_self ..)))).2 h0) (by rintro (e | e | e | e | e) <;> first | exact hk10 e | exact hk9 e | exact hk8 e | exact hk7 e | exact (Al_of_decide_eq_false h86) (by rw [e];rfl))
 have e6:redP lv ⟨q,op,x,true,dn⟩=⟨q,o::r,x1,true,dn⟩:=by unfold redP;dsimp only;rw [<-e1,redL,Al_if_neg (show ¬ lv<=o.lv by omega)]
 refine .ex<|.tE<|.tE<|.bE<|?_
 refine retN (.inr Z) rfl .nil rfl λW s=>?_;rw [e6];exact ⟨(H1,_,rv1,_,xv1,AR),⟨u1,S1⟩,Z,s.pickT (hd:=[_,_,_]) (tl:=(AR++bs)) (hd':=[_,_,_]) [0,1,2] rfl rfl⟩
theorem Fx.call109:callN prg 109=true:=by kernel_rfl
theorem Fx.call112:callN prg 112=true:=by kernel_rfl
theorem Fx.call154:callN prg 154=true:=by kernel_rfl
theorem Fx.call157:callN prg 157=true:=by kernel_rfl
theorem Fx.bld35_0 (x0:Int):buildN prg 35 [(0,.int .u8 x0)]=some [.int .u8 x0,.string ⟨#[]⟩,.string ⟨#[]⟩,.int .i64 0,.int .i64 0,.slice none 0 0,.slice none 0 0]:=by kernel_rfl
theorem Fx.bld35_1 (x1:ByteArray):buildN prg 35 [(1,.string x1)]=some [.int .u8 0,.string x1,.string ⟨#[]⟩,.int .i64 0,.int .i64 0,.slice none 0 0,.slice none 0 0]:=by kernel_rfl
theorem Fx.bld76_0_1 (x0:Int) (x1:ByteArray):buildN prg 76 [(0,.int .u8 x0),(1,.string x1)]=some [.int .u8 x0,.string x1,.int .i64 0,.slice none 0 0]:=by kernel_rfl
theorem Fx.bld97_0_1_4 (x0 x1:Int) (x40 x41 x42 x43 x44 x45 x46:Value):buildN prg 97 [(0,.int .u8 x0),(1,.int .i64 x1),(4,.agg [x40,x41,x42,x43,x44,x45,x46].toArray)]=some [.int .u8 x0,.int .i64 x1,.bool false,.int .u8 0,x40,x41,x42,x43,x44,x45,x46]:=by kernel_rfl
theorem Fx.bld97_0_2_3_4 (x0:Int) (x2:Bool) (x3:Int) (x40 x41 x42 x43 x44 x45 x46:Value):buildN prg 97 [(0,.int .u8 x0),(2,.bool x2),(3,.int .u8 x3),(4,.agg [x40,x41,x42,x43,x44,x45,x46].toArray)]=some [.int .u8 x0,.int .i64 0,.bool x2,.int .u8 x3,x40,x41,x42,x43,x44,x45,x46]:=by kernel_rfl
theorem Fx.bld97_0_2_4 (x0:Int) (x2:Bool) (x40 x41 x42 x43 x44 x45 x46:Value):buildN prg 97 [(0,.int .u8 x0),(2,.bool x2),(4,.agg [x40,x41,x42,x43,x44,x45,x46].toArray)]=some [.int .u8 x0,.int .i64 0,.bool x2,.int .u8 0,x40,x41,x42,x43,x44,x45,x46]:=by kernel_rfl
theorem Fx.bld97_0_4 (x0:Int) (x40 x41 x42 x43 x44 x45 x46:Value):buildN prg 97 [(0,.int .u8 x0),(4,.agg [x40,x41,x42,x43,x44,x45,x46].toArray)]=some [.int .u8 x0,.int .i64 0,.bool false,.int .u8 0,x40,x41,x42,x43,x44,x45,x46]:=by kernel_rfl
def GetV (w0:World) (bs:List Res) (b:Nat) (l:Tks) (tp:Option Addr) (tc:Nat) (H:Hp) (v:Value) (q:Ps) (e:Ending) (W:World):Prop :=
 ∃ z:Hp × Value × Value × List Value × List Value × List Res,(HUp w0 H z.1/\Sq z.1 q z.2.2.2.1 z.2.2.2.2.1 z.2.2.2.2.2)/\e=.returned v/\StP z.1 w0 bs W b l tp tc q z.2.1 z.2.2.1 z.2.2.2.1 z.2.2.2.2.1 z.2.2.2.2.2
theorem Ops.tm {op:List Ov} (h:Ops H op xo AR) (hn:op≠[]):∃ k1,op.length=k1+1/\xo[k1 * 11+2]? = some (.bool (op.headD bO).tm):=by
 cases op with
 | nil=>exact absurd rfl hn
 | cons o r =>
  obtain ⟨xr,s1,s2,e,hl,_⟩:=h.top;subst e;exact ⟨r.length,Z,app_at hl rfl⟩
set_option maxHeartbeats 1000000 in
theorem prefix_f {l:Tks} {op:List Ov} {x:Vb} {dn:Bool} (K:Tkf H l tp tc) (Wq:Fwf l ⟨q,op,x,false,dn⟩) (S:Sq H ⟨q,op,x,false,dn⟩ xo xv AR) (s:St H w0 (.box b [.slice tp l.length tc,iN q.i,ro,rv,.bool false,.bool dn,.bool x.2,iN q.off,iN q.er] 102::.row 97 11 (ro) (op.length) (xo)::.row 179 13 (rv) (x.1.length) (xv)::(AR++bs)) W) :
 Calls prg 106 #[.pointer (some ⟨b,0,none⟩)] W (GetV w0 bs b l tp tc H (.bool (prefS l ⟨q,op,x,false,dn⟩).isSome) ((prefS l ⟨q,op,x,false,dn⟩).getD ⟨q,op,x,false,dn⟩)):=by
 have hq:q.i<l.length:=Wq.i;have hne:op≠[]:=Wq.ne;obtain ⟨hn1,hn2⟩:=wf_len Wq K.few;dsimp only at hn1 hn2;have hcap:=K.rep.cap;refine enterS func106 rfl ntmps106 rfl s ?_;refine .sr<|.a Z Z<|.ns<|.al Fx.zero35 Z λb3=>.nt<|.sq<|.bk<|.sm Z<|.cs (X:=Unit) Fx.call107 Z (λW s=>accept_f K hq [110,111,116] (s.pickT (hd:=[_,_,_,_]) (tl:=(AR++bs)) (hd':=[_,_,_,_]) [1,0,2,3] Z Z)) Z λ_ _=>.aq Z<|.cd Z (λh4=>?_) (λh4=>?_)
 ·have a4:Rq.ac l [110,111,116] q=true:=h4;rw [acF_T a4];refine .rg<|.yw (.build Z (Fx.bld35_0 _))<|.sX upd1 Z Z Fx.size35 Z<|.nl<|.bN<|.tN<|.sm Z<|.yw (.loadW Z Fx.agg35 mem1 Z)<|.yw (.build Z (Fx.bld97_0_1_4 _ _ _ _ _ _ _ _ _))<|.cs (X:=Option Addr × Nat) Fx.call109 Z (λW s=>push_f K (wi_ac K.gd.last hq a4) (by simp [Value.oneCell',strV]) (Al_Nat_le_trans hn1 (by decide)) (λ_=>S.ops.tm hne) (s.pickT (hd:=[_,_,_,_]) (tl:=(AR++bs)) (hd':=[_,_,_,_]) [0,2,1,3] Z Z)) Z λp9 _=>.ns<|.az Z<|?_
  refine y9 Z Z λW s=>?_;rw [pref_of (q:=⟨q,op,x,false,dn⟩) (op:=8) a4 (by decide)];exact ⟨(_,_,_,_,_,AR),⟨.refl,⟨.cons S.ops (by show ¬ (7:UInt8)=5;decide) (FmR.zero rfl rfl (Al_Nat_zero_le _) (Al_Nat_zero_le _)),S.vls⟩⟩,Z,s.pickT (hd:=[_,_,_,_]) (tl:=(AR++bs)) (hd':=[_,_,_]) [0,1,3] rfl rfl⟩
 have a4:Rq.ac l [110,111,116] q=false:=h4;rw [acF_F a4];refine .sm Z<|.cs (X:=Unit) Fx.call107 Z (λW s=>accept_f K hq [112,114,101,118,105,111,117,115] (s.pickT (hd:=[_,_,_,_]) (tl:=(AR++bs)) (hd':=[_,_,_,_]) [0,1,2,3] Z Z)) Z λ_ _=>.aq Z<|.cd Z (λh8=>?_) (λh8=>?_)
 ·have a8:Rq.ac l [112,114,101,118,105,111,117,115] q=true:=h8;rw [acF_T a8];refine .rg<|.yw (.build Z (Fx.bld35_0 _))<|.sX upd1 Z Z Fx.size35 Z<|.nl<|.bN<|.tN<|.sm Z<|.yw (.loadW Z Fx.agg35 mem1 Z)<|.yw (.build Z (Fx.bld97_0_1_4 _ _ _ _ _ _ _ _ _))<|.cs (X:=Option Addr × Nat) Fx.call109 Z (λW s=>push_f K (wi_ac K.gd.last hq a8) (by simp [Value.oneCell',strV]) (Al_Nat_le_trans hn1 (by decide)) (λ_=>S.ops.tm hne) (s.pickT (hd:=[_,_,_,_]) (tl:=(AR++bs)) (hd':=[_,_,_,_]) [0,2,1,3] Z Z)) Z λp9 _=>.ns<|.az Z<|?_
  refine y9 Z Z λW s=>?_;rw [pref_of (q:=⟨q,op,x,false,dn⟩) (op:=12) a8 (by decide)];exact ⟨(_,_,_,_,_,AR),⟨.refl,⟨.cons S.ops (by show ¬ (7:UInt8)=5;decide) (FmR.zero rfl rfl (Al_Nat_zero_le _) (Al_Nat_zero_le _)),S.vls⟩⟩,Z,s.pickT (hd:=[_,_,_,_]) (tl:=(AR++bs)) (hd':=[_,_,_]) [0,1,3] rfl rfl⟩
 have a8:Rq.ac l [112,114,101,118,105,111,117,115] q=false:=h8;rw [acF_F a8];refine .sm Z<|.cs (X:=Unit) Fx.call107 Z (λW s=>accept_f K hq [111,110,99,101] (s.pickT (hd:=[_,_,_,_]) (tl:=(AR++bs)) (hd':=[_,_,_,_]) [0,1,2,3] Z Z)) Z λ_ _=>.aq Z<|.cd Z (λh12=>?_) (λh12=>?_)
 ·have a12:Rq.ac l [111,110,99,101] q=true:=h12;rw [acF_T a12];refine .rg<|.mv Z<|.cs (X:=Unit) Fx.call154 Z (λW s=>window_f K (wi_ac K.gd.last hq a12) 13 (s.pickT (hd:=[_,_,_,_]) (tl:=(AR++bs)) (hd':=[_,_,_,_]) [0,1,2,3] Z Z)) Z λ_ _=>.sX upd1 Z Z Fx.size35 Z<|.nl<|.bN<|.tN<|.sm Z<|.yw (.loadW Z Fx.agg35 mem1 Z)<|.yw (.build Z (Fx.bld97_0_1_4 _ _ _ _ _ _ _ _ _))<|.cs (X:=Option Addr × Nat) Fx.call109 Z (λW s=>push_f K (wi_wi K.gd.last (wi_ac K.gd.last hq a12)) (by simp [Value.oneCell',strV]) (Al_Nat_le_trans hn1 (by decide)) (λ_=>S.ops.tm hne) (s.pickT (hd:=[_,_,_,_]) (tl:=(AR++bs)) (hd':=[_,_,_,_]) [0,2,1,3] Z Z)) Z λp9 _=>.ns<|.az Z<|?_
  refine y9 Z Z λW s=>?_;rw [pref_of (q:=⟨q,op,x,false,dn⟩) (op:=13) a12 (by decide)];exact ⟨(_,_,_,_,_,AR),⟨.refl,⟨.cons S.ops (by show ¬ (7:UInt8)=5;decide) (FmR.zero rfl rfl (Al_Nat_zero_le _) (Al_Nat_zero_le _)),S.vls⟩⟩,Z,s.pickT (hd:=[_,_,_,_]) (tl:=(AR++bs)) (hd':=[_,_,_]) [0,1,3] rfl rfl⟩
 have a12:Rq.ac l [111,110,99,101] q=false:=h12;rw [acF_F a12];refine .sm Z<|.cs (X:=Unit) Fx.call107 Z (λW s=>accept_f K hq [97,108,119,97,121,115] (s.pickT (hd:=[_,_,_,_]) (tl:=(AR++bs)) (hd':=[_,_,_,_]) [0,1,2,3] Z Z)) Z λ_ _=>.aq Z<|.cd Z (λh17=>?_) (λh17=>?_)
 ·have a17:Rq.ac l [97,108,119,97,121,115] q=true:=h17;rw [acF_T a17];refine .rg<|.mv Z<|.cs (X:=Unit) Fx.call154 Z (λW s=>window_f K (wi_ac K.gd.last hq a17) 14 (s.pickT (hd:=[_,_,_,_]) (tl:=(AR++bs)) (hd':=[_,_,_,_]) [0,1,2,3] Z Z)) Z λ_ _=>.sX upd1 Z Z Fx.size35 Z<|.nl<|.bN<|.tN<|.sm Z<|.yw (.loadW Z Fx.agg35 mem1 Z)<|.yw (.build Z (Fx.bld97_0_1_4 _ _ _ _ _ _ _ _ _))<|.cs (X:=Option Addr × Nat) Fx.call109 Z (λW s=>push_f K (wi_wi K.gd.last (wi_ac K.gd.last hq a17)) (by simp [Value.oneCell',strV]) (Al_Nat_le_trans hn1 (by decide)) (λ_=>S.ops.tm hne) (s.pickT (hd:=[_,_,_,_]) (tl:=(AR++bs)) (hd':=[_,_,_,_]) [0,2,1,3] Z Z)) Z λp9 _=>.ns<|.az Z<|?_
  refine y9 Z Z λW s=>?_;rw [pref_of (q:=⟨q,op,x,false,dn⟩) (op:=14) a17 (by decide)];exact ⟨(_,_,_,_,_,AR),⟨.refl,⟨.cons S.ops (by show ¬ (7:UInt8)=5;decide) (FmR.zero rfl rfl (Al_Nat_zero_le _) (Al_Nat_zero_le _)),S.vls⟩⟩,Z,s.pickT (hd:=[_,_,_,_]) (tl:=(AR++bs)) (hd':=[_,_,_]) [0,1,3] rfl rfl⟩
 have a17:Rq.ac l [97,108,119,97,121,115] q=false:=h17;rw [acF_F a17];refine .sm Z<|.cs (X:=Unit) Fx.call107 Z (λW s=>accept_f K hq [102,111,114,97,108,108] (s.pickT (hd:=[_,_,_,_]) (tl:=(AR++bs)) (hd':=[_,_,_,_]) [0,1,2,3] Z Z)) Z λ_ _=>.aq Z<|.cd Z (λh22=>?_) (λh22=>?_)
 ·have a22:Rq.ac l [102,111,114,97,108,108] q=true:=h22;rw [acF_T a22];refine .rg<|.mv Z<|.cs (X:=Unit) Fx.call157 Z (λW s=>among_f K (wi_ac K.gd.last hq a22) 16 (s.pickT (hd:=[_,_,_,_]) (tl:=(AR++bs)) (hd':=[_,_,_,_]) [0,1,2,3] Z Z)) Z λ_ _=>.sX upd1 Z Z Fx.size35 Z<|.nl<|.bN<|.tN<|.sm Z<|.yw (.loadW Z Fx.agg35 mem1 Z)<|.yw (.build Z (Fx.bld97_0_1_4 _ _ _ _ _ _ _ _ _))<|.cs (X:=Option Addr × Nat) Fx.call109 Z (λW s=>push_f K (wi_am K.gd.last (wi_ac K.gd.last hq a22)) (by simp [Value.oneCell',strV]) (Al_Nat_le_trans hn1 (by decide)) (λ_=>S.ops.tm hne) (s.pickT (hd:=[_,_,_,_]) (tl:=(AR++bs)) (hd':=[_,_,_,_]) [0,2,1,3] Z Z)) Z λp9 _=>.ns<|.az Z<|?_
  refine y9 Z Z λW s=>?_;rw [pref_of (q:=⟨q,op,x,false,dn⟩) (op:=16) a22 (by decide)];exact ⟨(_,_,_,_,_,AR),⟨.refl,⟨.cons S.ops (by show ¬ (7:UInt8)=5;decide) (FmR.zero rfl rfl (Al_Nat_le_trans (nmV_len K (wi_ac K.gd.last hq a22)) (by decide)) (Al_Nat_zero_le _)),S.vls⟩⟩,Z,s.pickT (hd:=[_,_,_,_]) (tl:=(AR++bs)) (hd':=[_,_,_]) [0,1,3] rfl rfl⟩
 have a22:Rq.ac l [102,111,114,97,108,108] q=false:=h22;rw [acF_F a22];refine .sm Z<|.cs (X:=Unit) Fx.call107 Z (λW s=>accept_f K hq [101,120,105,115,116,115] (s.pickT (hd:=[_,_,_,_]) (tl:=(AR++bs)) (hd':=[_,_,_,_]) [0,1,2,3] Z Z)) Z λ_ _=>.aq Z<|.cd Z (λh27=>?_) (λh27=>?_)
 ·have a27:Rq.ac l [101,120,105,115,116,115] q=true:=h27;rw [acF_T a27];refine .rg<|.mv Z<|.cs (X:=Unit) Fx.call157 Z (λW s=>among_f K (wi_ac K.gd.last hq a27) 17 (s.pickT (hd:=[_,_,_,_]) (tl:=(AR++bs)) (hd':=[_,_,_,_]) [0,1,2,3] Z Z)) Z λ_ _=>.sX upd1 Z Z Fx.size35 Z<|.nl<|.bN<|.tN<|.sm Z<|.yw (.loadW Z Fx.agg35 mem1 Z)<|.yw (.build Z (Fx.bld97_0_1_4 _ _ _ _ _ _ _ _ _))<|.cs (X:=Option Addr × Nat) Fx.call109 Z (λW s=>push_f K (wi_am K.gd.last (wi_ac K.gd.last hq a27)) (by simp [Value.oneCell',strV]) (Al_Nat_le_trans hn1 (by decide)) (λ_=>S.ops.tm hne) (s.pickT (hd:=[_,_,_,_]) (tl:=(AR++bs)) (hd':=[_,_,_,_]) [0,2,1,3] Z Z)) Z λp9 _=>.ns<|.az Z<|?_
  refine y9 Z Z λW s=>?_;rw [pref_of (q:=⟨q,op,x,false,dn⟩) (op:=17) a27 (by decide)];exact ⟨(_,_,_,_,_,AR),⟨.refl,⟨.cons S.ops (by show ¬ (7:UInt8)=5;decide) (FmR.zero rfl rfl (Al_Nat_le_trans (nmV_len K (wi_ac K.gd.last hq a27)) (by decide)) (Al_Nat_zero_le _)),S.vls⟩⟩,Z,s.pickT (hd:=[_,_,_,_]) (tl:=(AR++bs)) (hd':=[_,_,_]) [0,1,3] rfl rfl⟩
 have a27:Rq.ac l [101,120,105,115,116,115] q=false:=h27;rw [acF_F a27];refine .sm Z<|.cs (X:=Unit) Fx.call107 Z (λW s=>accept_f K hq [99,111,117,110,116] (s.pickT (hd:=[_,_,_,_]) (tl:=(AR++bs)) (hd':=[_,_,_,_]) [0,1,2,3] Z Z)) Z λ_ _=>.aq Z<|.cd Z (λh32=>?_) (λh32=>?_)
 ·have a32:Rq.ac l [99,111,117,110,116] q=true:=h32;rw [acF_T a32];refine .sm Z<|.cs (X:=Unit) Fx.call157 Z (λW s=>among_f K (wi_ac K.gd.last hq a32) 18 (s.pickT (hd:=[_,_,_,_]) (tl:=(AR++bs)) (hd':=[_,_,_,_]) [0,1,2,3] Z Z)) Z λ_ _=>.sX upd1 Z Z Fx.size35 Z<|.ns<|.mv Z<|.cs (X:=Unit) Fx.call114 Z (λW s=>expect_f K (wi_am K.gd.last (wi_ac K.gd.last hq a32)) [40] (s.pickT (hd:=[_,_,_,_]) (tl:=(AR++bs)) (hd':=[_,_,_,_]) [0,1,2,3] Z Z)) Z λ_ _=>.ns<|.mv Z<|.yw (.loadW Z Fx.agg35 mem1 Z)<|.yw (.build Z (Fx.bld97_0_4 _ _ _ _ _ _ _ _))<|.cs (X:=Option Addr × Nat) Fx.call109 Z (λW s=>push_f K (wi_ex K.gd.last (wi_am K.gd.last (wi_ac K.gd.last hq a32))) (by simp [Value.oneCell',strV]) (Al_Nat_le_trans hn1 (by decide)) (t':=false) (λh=>absurd h (Nat.lt_irrefl 0)) (s.pickT (hd:=[_,_,_,_]) (tl:=(AR++bs)) (hd':=[_,_,_,_]) [0,2,1,3] Z Z)) Z λp9 _=>.ns<|.az Z<|.bR<|.tR<|?_
  refine y9 Z Z λW s=>?_;rw [pref_cnt (q:=⟨q,op,x,false,dn⟩) a32];exact ⟨(_,_,_,_,_,AR),⟨.refl,⟨.cons S.ops (by show ¬ (3:UInt8)=5;decide) (FmR.zero rfl rfl (Al_Nat_le_trans (nmV_len K (wi_ac K.gd.last hq a32)) (by decide)) (Al_Nat_zero_le _)),S.vls⟩⟩,Z,s.pickT (hd:=[_,_,_,_]) (tl:=(AR++bs)) (hd':=[_,_,_]) [0,1,3] rfl rfl⟩
 have a32:Rq.ac l [99,111,117,110,116] q=false:=h32;rw [acF_F a32];refine .sr<|.az Z<|.bR<|.tR<|?_
 refine y9 Z Z λW s=>?_
 have e0:prefS l ⟨q,op,x,false,dn⟩=none:=pref_no (λw op hp=>by
  simp only [preW,Al_List_mem_cons,Al_Prod_mk_injEq,List.not_mem_nil,or_false] at hp;rcases hp with ⟨rfl,rfl⟩ | ⟨rfl,rfl⟩ | ⟨rfl,rfl⟩ | ⟨rfl,rfl⟩ | ⟨rfl,rfl⟩ | ⟨rfl,rfl⟩
  ·exact a4
  ·exact a8
  ·exact a12
  ·exact a17
  ·exact a22
  ·exact a27) a32
 rw [e0];exact ⟨(_,_,_,_,_,AR),⟨.refl,⟨S.ops,S.vls⟩⟩,Z,s.pickT (hd:=[_,_,_,_]) (tl:=(AR++bs)) (hd':=[_,_,_]) [0,2,3] rfl rfl⟩
theorem variable_f {l:Tks} {op:List Ov} {x:Vb} {dn:Bool} (K:Tkf H l tp tc) (Wq:Fwf l ⟨q,op,x,false,dn⟩) (S:Sq H ⟨q,op,x,false,dn⟩ xo xv AR) (s:St H w0 (.box b [.slice tp l.length tc,iN q.i,ro,rv,.bool false,.bool dn,.bool x.2,iN q.off,iN q.er] 102::.row 97 11 (ro) (op.length) (xo)::.row 179 13 (rv) (x.1.length) (xv)::(AR++bs)) W) :
 Calls prg 111 #[.pointer (some ⟨b,0,none⟩)] W (Get w0 bs b l tp tc H (varP l ⟨q,op,x,false,dn⟩)):=by
 have hq:q.i<l.length:=Wq.i;have hne:op≠[]:=Wq.ne;obtain ⟨hn1,hn2⟩:=wf_len Wq K.few;dsimp only at hn1 hn2;have hcap:=K.rep.cap;refine enterS func111 rfl ntmps111 rfl s ?_;refine .sm Z<|.cs (X:=Unit) Fx.call113 Z (λW s=>name_f K hq  (s.pickT (hd:=[_,_,_]) (tl:=(AR++bs)) (hd':=[_,_,_]) [0,1,2] Z Z)) Z λ_ _=>.aq Z<|.sq<|.sm Z<|.cs (X:=Unit) Fx.call107 Z (λW s=>accept_f K (wi_nm K.gd.last hq) [46] (s.pickT (hd:=[_,_,_]) (tl:=(AR++bs)) (hd':=[_,_,_]) [0,1,2] Z Z)) Z λ_ _=>.nt<|.cd Z (λh6=>?_) (λh6=>?_)
 ·have a6:Rq.ac l [46] (Rq.nmS l q)=true:=h6;rw [acF_T a6];refine .sm Z<|.mv Z<|.cs (X:=Unit) Fx.call113 Z (λW s=>name_f K (wi_ac K.gd.last (wi_nm K.gd.last hq) a6)  (s.pickT (hd:=[_,_,_]) (tl:=(AR++bs)) (hd':=[_,_,_]) [0,1,2] Z Z)) Z λ_ _=>.yw (.app Z Z (by have h1:=nmV_len K hq;have h2:=nmV_len K (wi_ac K.gd.last (wi_nm K.gd.last hq) a6);simp only [Al_List_length_append,Al_List_length_cons,Al_List_length_nil];omega))<|.yw (.cast (.app Z Z (by have h1:=nmV_len K hq;have h2:=nmV_len K (wi_ac K.gd.last (wi_nm K.gd.last hq) a6);simp only [Al_List_length_append,Al_List_length_cons,Al_List_length_nil];omega)) (congrArg strV (Al_List_append_assoc _ _ _).symm))<|.a Z Z<|.ns<|.mv Z<|.cs (X:=Unit) Fx.call107 Z (λW s=>accept_f K (wi_nm K.gd.last (wi_ac K.gd.last (wi_nm K.gd.last hq) a6)) [91] (s.pickT (hd:=[_,_,_]) (tl:=(AR++bs)) (hd':=[_,_,_]) [0,1,2] Z Z)) Z λ_ _=>.nt<|.cd Z (λh13=>?_) (λh13=>?_)
  ·have a13:Rq.ac l [91] (Rq.nmS l (Rq.nmS l q).nx)=true:=h13;rw [acF_T a13];refine .sm Z<|.mv Z<|.yw (.build Z (Fx.bld35_1 _))<|.yw (.build Z (Fx.bld97_0_2_3_4 _ _ _ _ _ _ _ _ _ _))<|.cs (X:=Option Addr × Nat) Fx.call109 Z (λW s=>push_f K (wi_ac K.gd.last (wi_nm K.gd.last (wi_ac K.gd.last (wi_nm K.gd.last hq) a6)) a13) (by simp [Value.oneCell',strV]) (Al_Nat_le_trans hn1 (by decide)) (t':=false) (λh=>absurd h (Nat.lt_irrefl 0)) (s.pickT (hd:=[_,_,_]) (tl:=(AR++bs)) (hd':=[_,_,_]) [0,1,2] Z Z)) Z λp9 _=>.nt<|.rt<|.tR<|?_
   refine y7 Z .nil rfl λW s=>?_;have e0:varP l ⟨q,op,x,false,dn⟩=pushS ⟨4,0,true,6,.mk 0 (q.ful l) [] 0 0 [] []⟩ ((⟨q,op,x,false,dn⟩:Ps).at ((q.nmS l).nx.nmS l).nx):=by unfold varP;exact (Al_if_pos a6).trans (Al_if_pos a13)
   rw [e0];exact ⟨(_,_,_,_,_,AR),⟨.refl,⟨.cons S.ops (by show ¬ (4:UInt8)=5;decide) (FmR.zero rfl rfl (by have h1:=nmV_len K hq;have h2:=nmV_len K (wi_ac K.gd.last (wi_nm K.gd.last hq) a6);show (Rq.ful l q).length<=1000000;unfold Rq.ful;simp only [Al_List_length_append,Al_List_length_cons,Al_List_length_nil];omega) (Al_Nat_zero_le _)),S.vls⟩⟩,Z,s.pickT (hd:=[_,_,_]) (tl:=(AR++bs)) (hd':=[_,_,_]) [0,1,2] rfl rfl⟩
  have a13:Rq.ac l [91] (Rq.nmS l (Rq.nmS l q).nx)=false:=h13;rw [acF_F a13];refine .sk<|.tN<|.rg<|.mv Z<|.mv Z<|.yw (.build Z (Fx.bld76_0_1 _ _))<|.yw (.build Z (Fx.bld179_0_2 _ _ _ _ _))<|.cs (X:=Option Addr × Nat) Fx.call108 Z (λW s=>give_f K (wi_nm K.gd.last (wi_ac K.gd.last (wi_nm K.gd.last hq) a6)) (by simp [Value.oneCell',strV]) hn2 (s.pickT (hd:=[_,_,_]) (tl:=(AR++bs)) (hd':=[_,_,_]) [0,2,1] Z Z)) Z λp9 _=>.nl<|?_
  refine retN (.inr Z) rfl .nil rfl λW s=>?_;have e0:varP l ⟨q,op,x,false,dn⟩=giveS (tmv (.mk 5 (q.ful l) 0 [])) ((⟨q,op,x,false,dn⟩:Ps).at ((q.nmS l).nx.nmS l)):=by unfold varP;exact (Al_if_pos a6).trans (Al_if_neg (by rw [a13];decide))
  rw [e0];exact ⟨(_,_,_,_,_,AR),⟨.refl,⟨S.ops,.cons S.vls ⟨ExR.zero rfl (by have h1:=nmV_len K hq;have h2:=nmV_len K (wi_ac K.gd.last (wi_nm K.gd.last hq) a6);show (Rq.ful l q).length<=1000000;unfold Rq.ful;simp only [Al_List_length_append,Al_List_length_cons,Al_List_length_nil];omega),FmR.zero rfl rfl (Al_Nat_zero_le _) (Al_Nat_zero_le _)⟩⟩⟩,Z,s.pickT (hd:=[_,_,_]) (tl:=(AR++bs)) (hd':=[_,_,_]) [0,2,1] rfl rfl⟩
 have a6:Rq.ac l [46] (Rq.nmS l q)=false:=h6;rw [acF_F a6];refine .sk<|.tN<|.rg<|.mv Z<|.mv Z<|.yw (.build Z (Fx.bld76_0_1 _ _))<|.yw (.build Z (Fx.bld179_0_2 _ _ _ _ _))<|.cs (X:=Option Addr × Nat) Fx.call108 Z (λW s=>give_f K (wi_nm K.gd.last hq) (by simp [Value.oneCell',strV]) hn2 (s.pickT (hd:=[_,_,_]) (tl:=(AR++bs)) (hd':=[_,_,_]) [0,2,1] Z Z)) Z λp9 _=>.nl<|?_
 refine retN (.inr Z) rfl .nil rfl λW s=>?_;have e0:varP l ⟨q,op,x,false,dn⟩=giveS (tmv (.mk 5 (q.nmV l) 0 [])) ((⟨q,op,x,false,dn⟩:Ps).at (q.nmS l)):=by unfold varP;exact Al_if_neg (by rw [a6];decide)
 rw [e0];exact ⟨(_,_,_,_,_,AR),⟨.refl,⟨S.ops,.cons S.vls ⟨ExR.zero rfl (Al_Nat_le_trans (nmV_len K hq) (by decide)),FmR.zero rfl rfl (Al_Nat_zero_le _) (Al_Nat_zero_le _)⟩⟩⟩,Z,s.pickT (hd:=[_,_,_]) (tl:=(AR++bs)) (hd':=[_,_,_]) [0,2,1] rfl rfl⟩
theorem arrives_f {l:Tks} {op:List Ov} {x:Vb} {dn:Bool} (K:Tkf H l tp tc) (Wq:Fwf l ⟨q,op,x,false,dn⟩) (S:Sq H ⟨q,op,x,false,dn⟩ xo xv AR) (s:St H w0 (.box b [.slice tp l.length tc,iN q.i,ro,rv,.bool false,.bool dn,.bool x.2,iN q.off,iN q.er] 102::.row 97 11 (ro) (op.length) (xo)::.row 179 13 (rv) (x.1.length) (xv)::(AR++bs)) W) :
 Calls prg 115 #[.pointer (some ⟨b,0,none⟩)] W (Get w0 bs b l tp tc H (arrP l ⟨q,op,x,false,dn⟩)):=by
 have hq:q.i<l.length:=Wq.i;have hne:op≠[]:=Wq.ne;obtain ⟨hn1,hn2⟩:=wf_len Wq K.few;dsimp only at hn1 hn2;have hcap:=K.rep.cap;refine enterS func115 rfl ntmps115 rfl s ?_;refine .sm Z<|.cs (X:=Unit) Fx.call112 Z (λW s=>pair_f K hq 7 (s.pickT (hd:=[_,_,_]) (tl:=(AR++bs)) (hd':=[_,_,_]) [0,1,2] Z Z)) Z λ_ _=>.al Fx.zero35 Z λb2=>.sX .head Z Z Fx.size35 Z<|.ns<|.mv Z<|.cs (X:=Unit) Fx.call114 Z (λW s=>expect_f K (wi_pa K.gd.last hq) [40] (s.pickT (hd:=[_,_,_,_]) (tl:=(AR++bs)) (hd':=[_,_,_,_]) [1,0,2,3] Z Z)) Z λ_ _=>.nt<|.sq<|.sm Z<|.cs (X:=Unit) Fx.call107 Z (λW s=>accept_f K (wi_ex K.gd.last (wi_pa K.gd.last hq)) [41] (s.pickT (hd:=[_,_,_,_]) (tl:=(AR++bs)) (hd':=[_,_,_,_]) [0,1,2,3] Z Z)) Z λ_ _=>.nt<|.cd Z (λh8=>?_) (λh8=>?_)
 ·have a8:Rq.ac l [41] (Rq.exS l [40] (Rq.paS l q))=true:=h8;rw [acF_T a8];refine .sm Z<|.yw (.loadW Z Fx.agg35 mem1 Z)<|.yw (.build Z (Fx.bld179_3 _ _ _ _ _ _ _))<|.cs (X:=Option Addr × Nat) Fx.call108 Z (λW s=>give_f K (wi_ac K.gd.last (wi_ex K.gd.last (wi_pa K.gd.last hq)) a8) (by simp [Value.oneCell',strV]) hn2 (s.pickT (hd:=[_,_,_,_]) (tl:=(AR++bs)) (hd':=[_,_,_,_]) [0,3,1,2] Z Z)) Z λp9 _=>.nt<|.rt<|.tR<|?_
  refine y7 Z .nil rfl λW s=>?_;have e0:arrP l ⟨q,op,x,false,dn⟩=giveS (fmv (q.paV l 7)) ((⟨q,op,x,false,dn⟩:Ps).at ((q.paS l).exS l [40]).nx):=by unfold arrP;exact Al_if_pos a8
  rw [e0];exact ⟨(_,_,_,_,_,AR),⟨.refl,⟨S.ops,.cons S.vls ⟨ExR.zero rfl (Al_Nat_zero_le _),FmR.zero rfl rfl (Al_Nat_le_trans (nmV_len K hq) (by decide)) (Al_Nat_le_trans (nmV_len K (wi_ex K.gd.last (wi_nm K.gd.last hq))) (by decide))⟩⟩⟩,Z,s.pickT (hd:=[_,_,_,_]) (tl:=(AR++bs)) (hd':=[_,_,_]) [0,3,1] rfl rfl⟩
 have a8:Rq.ac l [41] (Rq.exS l [40] (Rq.paS l q))=false:=h8;rw [acF_F a8];refine .sk<|.tN<|.rg<|.mv Z<|.yw (.loadW Z Fx.agg35 mem1 Z)<|.yw (.build Z (Fx.bld97_0_2_4 _ _ _ _ _ _ _ _ _))<|.cs (X:=Option Addr × Nat) Fx.call109 Z (λW s=>push_f K (wi_ex K.gd.last (wi_pa K.gd.last hq)) (by simp [Value.oneCell',strV]) (Al_Nat_le_trans hn1 (by decide)) (t':=false) (λh=>absurd h (Nat.lt_irrefl 0)) (s.pickT (hd:=[_,_,_,_]) (tl:=(AR++bs)) (hd':=[_,_,_,_]) [0,2,1,3] Z Z)) Z λp9 _=>.nl<|?_
 refine Sx.row0 76 4 ?_;refine retN (.inr Z) rfl .nil rfl λW s=>?_;have e0:arrP l ⟨q,op,x,false,dn⟩=pushS ⟨5,0,true,0,q.paV l 7⟩ ((⟨q,op,x,false,dn⟩:Ps).at ((q.paS l).exS l [40])):=by unfold arrP;exact Al_if_neg (by show ¬ ((q.paS l).exS l [40]).ac l [41]=true;rw [a8];decide)
 rw [e0];exact ⟨(_,_,_,_,_,_),⟨.refl,⟨.arg S.ops rfl rfl (Al_Nat_le_trans (nmV_len K hq) (by decide)) (Al_Nat_le_trans (nmV_len K (wi_ex K.gd.last (wi_nm K.gd.last hq))) (by decide)) RepZ.nil rfl,S.vls⟩⟩,Z,s.pickT (hd:=[_,_,_,_,_]) (tl:=(AR++bs)) (hd':=[_,_,_,_]) [1,2,4,0] rfl rfl⟩
theorem Fx.call106:callN prg 106=true:=by kernel_rfl
theorem Fx.call111:callN prg 111=true:=by kernel_rfl
theorem Fx.call115:callN prg 115=true:=by kernel_rfl
theorem Fx.field35_1:fieldN prg 35 1=some 1:=by kernel_rfl
theorem Fx.bld179_0_1 (x0 x1:Bool):buildN prg 179 [(0,.bool x0),(1,.bool x1)]=some [.bool x0,.bool x1,.int .u8 0,.string ⟨#[]⟩,.int .i64 0,.slice none 0 0,.int .u8 0,.string ⟨#[]⟩,.string ⟨#[]⟩,.int .i64 0,.int .i64 0,.slice none 0 0,.slice none 0 0]:=by kernel_rfl
theorem Fx.bld76_0 (x0:Int):buildN prg 76 [(0,.int .u8 x0)]=some [.int .u8 x0,.string ⟨#[]⟩,.int .i64 0,.slice none 0 0]:=by kernel_rfl
theorem Fx.bld76_0_2 (x0 x2:Int):buildN prg 76 [(0,.int .u8 x0),(2,.int .i64 x2)]=some [.int .u8 x0,.string ⟨#[]⟩,.int .i64 x2,.slice none 0 0]:=by kernel_rfl
theorem Fx.bld97_0 (x0:Int):buildN prg 97 [(0,.int .u8 x0)]=some [.int .u8 x0,.int .i64 0,.bool false,.int .u8 0,.int .u8 0,.string ⟨#[]⟩,.string ⟨#[]⟩,.int .i64 0,.int .i64 0,.slice none 0 0,.slice none 0 0]:=by kernel_rfl
theorem Fx.bld97_0_1 (x0 x1:Int):buildN prg 97 [(0,.int .u8 x0),(1,.int .i64 x1)]=some [.int .u8 x0,.int .i64 x1,.bool false,.int .u8 0,.int .u8 0,.string ⟨#[]⟩,.string ⟨#[]⟩,.int .i64 0,.int .i64 0,.slice none 0 0,.slice none 0 0]:=by kernel_rfl
theorem opd_any {l:Tks} {q:Ps} (hf:fmsB q=false\/prefS l q=none) (hk:(topO q).kd=5) (ha:q.c.ac l [95]=true):operandP l q=giveS ⟨true,true,zE,zF⟩ (q.at q.c.nx):=by
 have e:(if fmsB q then prefS l q else none)=none:=by
  rcases hf with e | e
  ·rw [e];rfl
  ·rw [e];split <;> rfl
 unfold operandP;rw [e];show restP l q=_;unfold restP;rw [Al_if_pos ⟨hk,ha⟩]
set_option maxHeartbeats 4000000 in
theorem operand_f {l:Tks} {op:List Ov} {x:Vb} {dn:Bool} (K:Tkf H l tp tc) (Wq:Fwf l ⟨q,op,x,false,dn⟩) (S:Sq H ⟨q,op,x,false,dn⟩ xo xv AR) (s:St H w0 (.box b [.slice tp l.length tc,iN q.i,ro,rv,.bool false,.bool dn,.bool x.2,iN q.off,iN q.er] 102::.row 97 11 (ro) (op.length) (xo)::.row 179 13 (rv) (x.1.length) (xv)::(AR++bs)) W) :
 Calls prg 56 #[.pointer (some ⟨b,0,none⟩)] W (Get w0 bs b l tp tc H (operandP l ⟨q,op,x,false,dn⟩)):=by
 have hq:q.i<l.length:=Wq.i;have hne:op≠[]:=Wq.ne;obtain ⟨hn1,hn2⟩:=wf_len Wq K.few;dsimp only at hn1 hn2;have hcap:=K.rep.cap;refine enterS func56 rfl ntmps56 rfl s ?_;obtain ⟨o,r,rfl⟩:=list1 (l:=op) (by cases op with | nil=>exact absurd rfl hne | cons a t=>exact Nat.succ_pos _);dsimp only [List.length_cons] at hn1;obtain ⟨xr,s1,s2,e2,hlo,ho1,ho2⟩:=Ops.top S.ops;try dsimp only at e2
 subst e2;refine Sx.rowCase (size:=11) (r:=ro) (e:=97) mem1 (Nat.succ_pos _) λg c e hkc=>?_;subst e;refine .sm Z<|.cs (X:=Unit) Fx.call98 Z (λW s=>token_f K hq  (s.pickT (hd:=[_,_,_]) (tl:=(AR++bs)) (hd':=[_,_,_]) [0,1,2] Z Z)) Z λ_ _=>.al Fx.zero108 Z λb2=>.sW .head Z Z Fx.size108 (by simp [cTk,Value.oneCell',strV]) Z<|.nt<|.cu (X:=Bool) [(0,_),(2,_)] ⟨Z,Z,Jt⟩ (λz=>[(3,.bool z)]) (λz=>H) (λz=>(.box b2 (cTk .u8 (tkf l q.i)) 108::.box b [.slice tp l.length tc,iN q.i,(.slice (some ⟨g,0,none⟩) (o::r).length c),rv,.bool false,.bool dn,.bool x.2,iN q.off,iN q.er] 102::.row 97 11 ((.slice (some ⟨g,0,none⟩) (o::r).length c)) ((o::r).length) ((xr++oC o s1 s2))::.row 179 13 (rv) (x.1.length) (xv)::(AR++bs))) (λz=>z=fmsB ⟨q,o::r,x,false,dn⟩) ?_ λz hC=>?_
 ·
  refine .rg<|.mv Z<|.cs (X:=Unit) Fx.call105 Z (λW s=>top_f K hq (g:=g) (k:=r.length) (c:=c) (by omega) (s.pickT (hd:=[_,_,_,_]) (tl:=(AR++bs)) (hd':=[_,_,_,_]) [1,0,2,3] Z Z)) Z λ_ _=>.nC Z<|.fA Z Fx.field97_2<|.yw (.loadR1 Z Fx.agg4 mem2 (app_at hlo Z))<|.yw (.not Z)<|.mv Z<|.b2 (λh14=>?_) (λh14=>?_)
  ·exact .gy (.move Z)<|.gd Z Z<|.cs (X:=Unit) Fx.call105 Z (λW s=>top_f K hq (g:=g) (k:=r.length) (c:=c) (by omega) (s.pickT (hd:=[_,_,_,_]) (tl:=(AR++bs)) (hd':=[_,_,_,_]) [0,1,2,3] Z Z)) Z λ_ _=>.gy (.nilCheck Z)<|.gy (.fieldAddr Z Fx.field97_1)<|.gy (.loadR1 Z Fx.agg3 mem2 (app_at hlo Z))<|.gy (.leq Z Z)<|.yw (.pickT Z Z)<|.aq Z<|.me _ ⟨Z,Jt⟩ ⟨Z,Z,Jt⟩ (λ_ s=>(s.pickT (hd:=[_,_,_,_]) (tl:=(AR++bs)) (hd':=[_,_,_,_]) [1,0,2,3] Z Z)) (by first | (show _=(!o.tm && decide (o.lv<=5));rw [h14,Al_Bool_true_and,Al_Bool_eq_iff_iff,Al_decide_eq_true_eq,Al_decide_eq_true_eq];omega) | (show _=(!o.tm && decide (o.lv<=5));rw [h14,Al_Bool_false_and]))
  exact .gG<|.gG<|.gG<|.gG<|.gG<|.gG<|.yw (.pickF Z Z)<|.aq Z<|.me _ ⟨Z,Jt⟩ ⟨Z,Z,Jt⟩ (λ_ s=>(s.pickT (hd:=[_,_,_,_]) (tl:=(AR++bs)) (hd':=[_,_,_,_]) [1,0,2,3] Z Z)) (by first | (show _=(!o.tm && decide (o.lv<=5));rw [h14,Al_Bool_true_and,Al_Bool_eq_iff_iff,Al_decide_eq_true_eq,Al_decide_eq_true_eq];omega) | (show _=(!o.tm && decide (o.lv<=5));rw [h14,Al_Bool_false_and]))
 have ef:=hC;refine .bk<|.sm Z<|.mv Z<|.b2 (λh26=>?_) (λh26=>?_)
 ·have hff:fmsB ⟨q,o::r,x,false,dn⟩=true:=by rw [<-ef];exact h26
  refine .gy (.move Z)<|.gd Z Z<|.cs (X:=Hp × Value × Value × List Value × List Value × List Res) Fx.call106 Z (λW s=>prefix_f K Wq S (St.mid (a:=[_,_,_]) (d:=[_]) (s.pickT (hd:=[_,_,_,_]) (tl:=(AR++bs)) (hd':=[_,_,_,_]) [1,2,3,0] Z Z))) Z λz9 hz9=>?_
  obtain ⟨H1,ro,rv,xo,xv,AR⟩:=z9;obtain ⟨u1,S⟩:=hz9;dsimp only at u1 S|-;refine Sx.reSt (λW s=>St.mid (a:=[_,_,_]) (d:=AR) (c:=[_]) s) ?_;refine .yw (.pickT Z Z)<|.aq Z<|.cd Z (λh24=>?_) (λh24=>?_)
  ·obtain ⟨q9,hp⟩:=Al_Option_isSome_iff_exists.1 h24;rw [hp] at S|-;dsimp only [Option.getD] at S|-;refine .sk<|.bN<|?_
   refine retN (.inr Z) rfl .nil rfl λW s=>?_;have e0:operandP l ⟨q,o::r,x,false,dn⟩=q9:=by unfold operandP;rw [hff,Al_if_pos rfl,hp]
   rw [e0];exact ⟨(_,_,_,_,_,AR),⟨u1,⟨S.ops,S.vls⟩⟩,Z,s.pickT (hd:=[_,_,_,_]) (tl:=(AR++bs)) (hd':=[_,_,_]) [0,1,2] rfl rfl⟩
  have hp:prefS l ⟨q,o::r,x,false,dn⟩=none:=by
   cases e:prefS l ⟨q,o::r,x,false,dn⟩ with
   | none=>rfl
   | some x=>rw [e] at h24;cases h24
  rw [hp] at S|-;dsimp only [Option.getD] at S|-;have hff:fmsB ⟨q,o::r,x,false,dn⟩=false\/prefS l ⟨q,o::r,x,false,dn⟩=none:=.inr hp;obtain ⟨xr,s1,s2,e2,hlo,ho1,ho2⟩:=Ops.top S.ops;try dsimp only at e2
  subst e2;refine Sx.rowCase (size:=11) (r:=ro) (e:=97) mem1 (Nat.succ_pos _) λg c e hkc=>?_;subst e;refine .cu (X:=Bool) [(0,_),(2,_)] ⟨Z,Z,Jt⟩ (λz=>[(30,.bool z)]) (λz=>H1) (λz=>(.box b2 (cTk .u8 (tkf l q.i)) 108::.box b [.slice tp l.length tc,iN ((if z then Rq.nx q else q).i),(.slice (some ⟨g,0,none⟩) (o::r).length c),rv,.bool false,.bool dn,.bool x.2,iN ((if z then Rq.nx q else q).off),iN ((if z then Rq.nx q else q).er)] 102::.row 97 11 ((.slice (some ⟨g,0,none⟩) (o::r).length c)) ((o::r).length) ((xr++oC o s1 s2))::.row 179 13 (rv) (x.1.length) (xv)::(AR++bs))) (λz=>z=(decide (o.kd=5) && Rq.ac l [95] q)) ?_ λz hC=>?_
  ·
   refine .rg<|.mv Z<|.cs (X:=Unit) Fx.call105 Z (λW s=>top_f (K.up u1.up) hq (g:=g) (k:=r.length) (c:=c) (by omega) (s.pickT (hd:=[_,_,_,_]) (tl:=(AR++bs)) (hd':=[_,_,_,_]) [0,1,2,3] Z Z)) Z λ_ _=>.nC Z<|.fA Z Fx.field97_0<|.yw (.loadR1 Z Fx.agg95 mem1 (app_at hlo Z))<|.yw (.eql Z Z)<|.mv Z<|.b2 (λh37=>?_) (λh37=>?_)
   ·have hk5:o.kd=5:=Al_UInt8_toNat_inj.1 (by have:=Al_of_decide_eq_true h37;show o.kd.toNat=5;omega);exact .gy (.move Z)<|.gd Z Z<|.cs (X:=Unit) Fx.call107 Z (λW s=>accept_f (K.up u1.up) hq [95] (s.pickT (hd:=[_,_,_,_]) (tl:=(AR++bs)) (hd':=[_,_,_,_]) [0,1,2,3] Z Z)) Z λ_ _=>.yw (.pickT Z Z)<|.aq Z<|.me _ ⟨Z,Jt⟩ ⟨Z,Z,Jt⟩ (λ_ s=>(s.pickT (hd:=[_,_,_,_]) (tl:=(AR++bs)) (hd':=[_,_,_,_]) [3,0,1,2] Z Z)) (by first | rw [Al_decide_eq_true hk5,Al_Bool_true_and] | (rw [Al_decide_eq_false hk5];rfl))
   have hk5:¬ o.kd=5:=λe=>Al_of_decide_eq_false h37 (by rw [e];rfl);exact .gG<|.gG<|.yw (.pickF Z Z)<|.aq Z<|.me _ ⟨Z,Jt⟩ ⟨Z,Z,Jt⟩ (λ_ s=>(s.pickT (hd:=[_,_,_,_]) (tl:=(AR++bs)) (hd':=[_,_,_,_]) [3,0,1,2] Z Z)) (by first | rw [Al_decide_eq_true hk5,Al_Bool_true_and] | (rw [Al_decide_eq_false hk5];rfl))
  have ez:=hC;refine .cd Z (λh30=>?_) (λh30=>?_)
  ·rw [h30] at ez;have ez2:=Al_Bool_and_eq_true _ _ |>.mp ez.symm
   rw [Al_if_pos h30];refine .rg<|.mv Z<|.yw (.build Z (Fx.bld179_0_1 _ _))<|.cs (X:=Option Addr × Nat) Fx.call108 Z (λW s=>give_f (K.up u1.up) (wi_ac K.gd.last hq ez2.2) (by simp [Value.oneCell',strV]) hn2 (s.pickT (hd:=[_,_,_,_]) (tl:=(AR++bs)) (hd':=[_,_,_,_]) [1,3,0,2] Z Z)) Z λp9 _=>.nl<|.bN<|?_
   refine retN (.inr Z) rfl .nil rfl λW s=>?_;have e0:operandP l ⟨q,o::r,x,false,dn⟩=giveS ⟨true,true,zE,zF⟩ (((⟨q,o::r,x,false,dn⟩:Ps)).at q.nx):=opd_any hff (Al_of_decide_eq_true ez2.1) ez2.2;rw [e0];exact ⟨(_,_,_,_,_,AR),⟨u1,⟨S.ops,.cons S.vls ⟨ExR.zero rfl (Al_Nat_zero_le _),FmR.zero rfl rfl (Al_Nat_zero_le _) (Al_Nat_zero_le _)⟩⟩⟩,Z,s.pickT (hd:=[_,_,_,_]) (tl:=(AR++bs)) (hd':=[_,_,_]) [0,3,1] rfl rfl⟩
  rw [h30] at ez
  have hno:(topO (⟨q,o::r,x,false,dn⟩:Ps)).kd=5->Rq.ac l [95] q=false:=λe=>by
   have e3:(false:Bool)=(decide (o.kd=5) && Rq.ac l [95] q):=ez;rw [Al_decide_eq_true (show o.kd=5 from e),Al_Bool_true_and] at e3;exact e3.symm
  rw [Al_if_neg (by rw [h30];decide)];refine .sm Z<|.cs (X:=Unit) Fx.call107 Z (λW s=>accept_f (K.up u1.up) hq [45] (s.pickT (hd:=[_,_,_,_]) (tl:=(AR++bs)) (hd':=[_,_,_,_]) [1,0,2,3] Z Z)) Z λ_ _=>.aq Z<|.cd Z (λh44=>?_) (λh44=>?_)
  ·have a44:Rq.ac l [45] q=true:=h44;rw [acF_T a44];refine .rg<|.mv Z<|.yw (.build Z (Fx.bld97_0_1 _ _))<|.cs (X:=Option Addr × Nat) Fx.call109 Z (λW s=>push_f (K.up u1.up) (wi_ac K.gd.last hq a44) (by simp [Value.oneCell',strV]) (Al_Nat_le_trans hn1 (by decide)) (λ_=>S.ops.tm hne) (s.pickT (hd:=[_,_,_,_]) (tl:=(AR++bs)) (hd':=[_,_,_,_]) [0,2,1,3] Z Z)) Z λp9 _=>.nl<|.bN<|?_
   refine retN (.inr Z) rfl .nil rfl λW s=>?_;have e0:operandP l ⟨q,o::r,x,false,dn⟩=pushS ⟨10,9,false,0,zF⟩ (((⟨q,o::r,x,false,dn⟩:Ps)).at q.nx):=(opd_no hff hno).trans (re2_neg a44);rw [e0];exact ⟨(_,_,_,_,_,AR),⟨u1,⟨.cons S.ops (by show ¬ (10:UInt8)=5;decide) (FmR.zero rfl rfl (Al_Nat_zero_le _) (Al_Nat_zero_le _)),S.vls⟩⟩,Z,s.pickT (hd:=[_,_,_,_]) (tl:=(AR++bs)) (hd':=[_,_,_]) [0,1,3] rfl rfl⟩
  have a44:Rq.ac l [45] q=false:=h44;rw [acF_F a44];refine .sm Z<|.cs (X:=Unit) Fx.call107 Z (λW s=>accept_f (K.up u1.up) hq [40] (s.pickT (hd:=[_,_,_,_]) (tl:=(AR++bs)) (hd':=[_,_,_,_]) [0,1,2,3] Z Z)) Z λ_ _=>.aq Z<|.cd Z (λh50=>?_) (λh50=>?_)
  ·have a50:Rq.ac l [40] q=true:=h50;rw [acF_T a50];refine .rg<|.mv Z<|.yw (.build Z (Fx.bld97_0 _))<|.cs (X:=Option Addr × Nat) Fx.call109 Z (λW s=>push_f (K.up u1.up) (wi_ac K.gd.last hq a50) (by simp [Value.oneCell',strV]) (Al_Nat_le_trans hn1 (by decide)) (t':=false) (λh=>absurd h (Nat.lt_irrefl 0)) (s.pickT (hd:=[_,_,_,_]) (tl:=(AR++bs)) (hd':=[_,_,_,_]) [0,2,1,3] Z Z)) Z λp9 _=>.nl<|.bN<|?_
   refine retN (.inr Z) rfl .nil rfl λW s=>?_;have e0:operandP l ⟨q,o::r,x,false,dn⟩=pushS ⟨2,0,false,0,zF⟩ (((⟨q,o::r,x,false,dn⟩:Ps)).at q.nx):=(opd_no hff hno).trans (re2_par a50);rw [e0];exact ⟨(_,_,_,_,_,AR),⟨u1,⟨.cons S.ops (by show ¬ (2:UInt8)=5;decide) (FmR.zero rfl rfl (Al_Nat_zero_le _) (Al_Nat_zero_le _)),S.vls⟩⟩,Z,s.pickT (hd:=[_,_,_,_]) (tl:=(AR++bs)) (hd':=[_,_,_]) [0,1,3] rfl rfl⟩
  have a50:Rq.ac l [40] q=false:=h50;rw [acF_F a50];refine .sr<|.fA Z Fx.field108_0<|.lD Z Fx.agg106 mem1 Z<|.yw (.eql Z Z)<|.aq Z<|.cd Z (λh56=>?_) (λh56=>?_)
  ·have hk3:(tkf l q.i).k=3:=Al_UInt8_toNat_inj.1 (by have:=Al_of_decide_eq_true h56;show (tkf l q.i).k.toNat=3;omega);refine .rg<|.mv Z<|.mv Z<|.cs (X:=Unit) Fx.call110 Z (λW s=>number_f (K.up u1.up) hq  (s.pickT (hd:=[_,_,_,_]) (tl:=(AR++bs)) (hd':=[_,_,_,_]) [0,1,2,3] Z Z)) Z λ_ _=>.yw (.build Z (Fx.bld76_0_2 _ _))<|.yw (.build Z (Fx.bld179_0_2 _ _ _ _ _))<|.cs (X:=Option Addr × Nat) Fx.call108 Z (λW s=>give_f (K.up u1.up) (wi_nb K.gd.last hq) (by simp [Value.oneCell',strV]) hn2 (s.pickT (hd:=[_,_,_,_]) (tl:=(AR++bs)) (hd':=[_,_,_,_]) [0,3,1,2] Z Z)) Z λp9 _=>.nl<|.bN<|?_
   refine retN (.inr Z) rfl .nil rfl λW s=>?_;have e0:operandP l ⟨q,o::r,x,false,dn⟩=giveS (tmv (.mk 1 [] (q.nbV l) [])) (((⟨q,o::r,x,false,dn⟩:Ps)).at (q.nbS l)):=(opd_no hff hno).trans (re2_num hk3);rw [e0];exact ⟨(_,_,_,_,_,AR),⟨u1,⟨S.ops,.cons S.vls ⟨ExR.zero rfl (Al_Nat_zero_le _),FmR.zero rfl rfl (Al_Nat_zero_le _) (Al_Nat_zero_le _)⟩⟩⟩,Z,s.pickT (hd:=[_,_,_,_]) (tl:=(AR++bs)) (hd':=[_,_,_]) [0,3,1] rfl rfl⟩
  have hk3:¬ (tkf l q.i).k=3:=λe=>Al_of_decide_eq_false h56 (by rw [e];rfl);refine .sr<|.fA Z Fx.field108_0<|.lD Z Fx.agg106 mem1 Z<|.yw (.eql Z Z)<|.aq Z<|.cd Z (λh66=>?_) (λh66=>?_)
  ·have hk1:(tkf l q.i).k=1:=Al_UInt8_toNat_inj.1 (by have:=Al_of_decide_eq_true h66;show (tkf l q.i).k.toNat=1;omega);refine .rg<|.mv Z<|.cs (X:=Hp × Value × Value × List Value × List Value × List Res) Fx.call111 Z (λW s=>variable_f (K.up u1.up) Wq S (St.mid (a:=[_,_,_]) (d:=[_]) (s.pickT (hd:=[_,_,_,_]) (tl:=(AR++bs)) (hd':=[_,_,_,_]) [0,2,3,1] Z Z))) Z λz9 hz9=>?_
   obtain ⟨H2,ro,rv,xo,xv,AR⟩:=z9;obtain ⟨u2,S⟩:=hz9;dsimp only at u2 S|-;refine Sx.reSt (λW s=>St.mid (a:=[_,_,_]) (d:=AR) (c:=[_]) s) ?_;refine .nl<|.bN<|?_
   refine retN (.inr Z) rfl .nil rfl λW s=>?_;have e0:operandP l ⟨q,o::r,x,false,dn⟩=varP l ⟨q,o::r,x,false,dn⟩:=(opd_no hff hno).trans (re2_nam hk1);rw [e0];exact ⟨(_,_,_,_,_,AR),⟨(u1.trans u2),⟨S.ops,S.vls⟩⟩,Z,s.pickT (hd:=[_,_,_,_]) (tl:=(AR++bs)) (hd':=[_,_,_]) [0,1,2] rfl rfl⟩
  have hk1:¬ (tkf l q.i).k=1:=λe=>Al_of_decide_eq_false h66 (by rw [e];rfl);refine .sm Z<|.cs (X:=Unit) Fx.call107 Z (λW s=>accept_f (K.up u1.up) hq [110,111,119] (s.pickT (hd:=[_,_,_,_]) (tl:=(AR++bs)) (hd':=[_,_,_,_]) [0,1,2,3] Z Z)) Z λ_ _=>.aq Z<|.cd Z (λh72=>?_) (λh72=>?_)
  ·have a72:Rq.ac l [110,111,119] q=true:=h72;rw [acF_T a72];refine .rg<|.mv Z<|.yw (.build Z (Fx.bld76_0 _))<|.yw (.build Z (Fx.bld179_0_2 _ _ _ _ _))<|.cs (X:=Option Addr × Nat) Fx.call108 Z (λW s=>give_f (K.up u1.up) (wi_ac K.gd.last hq a72) (by simp [Value.oneCell',strV]) hn2 (s.pickT (hd:=[_,_,_,_]) (tl:=(AR++bs)) (hd':=[_,_,_,_]) [0,3,1,2] Z Z)) Z λp9 _=>.nl<|.bN<|?_
   refine retN (.inr Z) rfl .nil rfl λW s=>?_;have e0:operandP l ⟨q,o::r,x,false,dn⟩=giveS (tmv (.mk 4 [] 0 [])) (((⟨q,o::r,x,false,dn⟩:Ps)).at q.nx):=(opd_no hff hno).trans (re2_now a72);rw [e0];exact ⟨(_,_,_,_,_,AR),⟨u1,⟨S.ops,.cons S.vls ⟨ExR.zero rfl (Al_Nat_zero_le _),FmR.zero rfl rfl (Al_Nat_zero_le _) (Al_Nat_zero_le _)⟩⟩⟩,Z,s.pickT (hd:=[_,_,_,_]) (tl:=(AR++bs)) (hd':=[_,_,_]) [0,3,1] rfl rfl⟩
  have a72:Rq.ac l [110,111,119] q=false:=h72;rw [acF_F a72];refine .sm Z<|.cs (X:=Unit) Fx.call107 Z (λW s=>accept_f (K.up u1.up) hq [115,105,122,101] (s.pickT (hd:=[_,_,_,_]) (tl:=(AR++bs)) (hd':=[_,_,_,_]) [0,1,2,3] Z Z)) Z λ_ _=>.aq Z<|.cd Z (λh79=>?_) (λh79=>?_)
  ·have a79:Rq.ac l [115,105,122,101] q=true:=h79;rw [acF_T a79];refine .sm Z<|.cs (X:=Unit) Fx.call112 Z (λW s=>pair_f (K.up u1.up) (wi_ac K.gd.last hq a79) 0 (s.pickT (hd:=[_,_,_,_]) (tl:=(AR++bs)) (hd':=[_,_,_,_]) [0,1,2,3] Z Z)) Z λ_ _=>.al Fx.zero35 Z λb4=>.sX .head Z Z Fx.size35 Z<|.nt<|.rg<|.mv Z<|.fA Z Fx.field35_1<|.lD Z Fx.agg9 Hm Z<|.yw (.app Z Z (by have h1:=nmV_len K (wi_ac K.gd.last hq a79);have h2:=nmV_len K (wi_ex K.gd.last (wi_nm K.gd.last (wi_ac K.gd.last hq a79)) (w:=[46]));show (Rq.nmV l q.nx).length+1<=_;omega))<|.fA Z Fx.field35_2<|.lD Z Fx.agg9 Hm Z<|.yw (.app Z Z (by have h1:=nmV_len K (wi_ac K.gd.last hq a79);have h2:=nmV_len K (wi_ex K.gd.last (wi_nm K.gd.last (wi_ac K.gd.last hq a79)) (w:=[46]));simp only [Al_List_length_append,Al_List_length_cons,Al_List_length_nil];unfold Rq.paN Rq.paF;omega))<|.yw (.build Z (Fx.bld76_0_1 _ _))<|.yw (.build Z (Fx.bld179_0_2 _ _ _ _ _))<|.cs (X:=Option Addr × Nat) Fx.call108 Z (λW s=>give_f (K.up u1.up) (wi_pa K.gd.last (wi_ac K.gd.last hq a79)) (by simp [Value.oneCell',strV]) hn2 (s.pickT (hd:=[_,_,_,_,_]) (tl:=(AR++bs)) (hd':=[_,_,_,_,_]) [1,4,0,2,3] Z Z)) Z λp9 _=>.nl<|.bN<|?_
   refine retN (.inr Z) rfl .nil rfl λW s=>?_;have e0:operandP l ⟨q,o::r,x,false,dn⟩=giveS (tmv (.mk 8 (q.nx.paN l++[46]++q.nx.paF l) 0 [])) (((⟨q,o::r,x,false,dn⟩:Ps)).at (q.nx.paS l)):=(opd_no hff hno).trans (re2_siz a79);rw [e0];exact ⟨(_,_,_,_,_,AR),⟨u1,⟨S.ops,.cons S.vls ⟨ExR.zero rfl (by have h1:=nmV_len K (wi_ac K.gd.last hq a79);have h2:=nmV_len K (wi_ex K.gd.last (wi_nm K.gd.last (wi_ac K.gd.last hq a79)) (w:=[46]));show (Rq.paN l q.nx++[46]++Rq.paF l q.nx).length<=1000000;unfold Rq.paN Rq.paF;simp only [Al_List_length_append,Al_List_length_cons,Al_List_length_nil];omega),FmR.zero rfl rfl (Al_Nat_zero_le _) (Al_Nat_zero_le _)⟩⟩⟩,Z,s.pickT (hd:=[_,_,_,_,_]) (tl:=(AR++bs)) (hd':=[_,_,_]) [0,4,1] rfl rfl⟩
  have a79:Rq.ac l [115,105,122,101] q=false:=h79;rw [acF_F a79];refine .sm Z<|.cs (X:=Unit) Fx.call107 Z (λW s=>accept_f (K.up u1.up) hq [116,114,117,101] (s.pickT (hd:=[_,_,_,_]) (tl:=(AR++bs)) (hd':=[_,_,_,_]) [0,1,2,3] Z Z)) Z λ_ _=>.aq Z<|.cd Z (λh94=>?_) (λh94=>?_)
  ·have a94:Rq.ac l [116,114,117,101] q=true:=h94;rw [acF_T a94];refine .rg<|.mv Z<|.yw (.build Z (Fx.bld35_0 _))<|.yw (.build Z (Fx.bld179_3 _ _ _ _ _ _ _))<|.cs (X:=Option Addr × Nat) Fx.call108 Z (λW s=>give_f (K.up u1.up) (wi_ac K.gd.last hq a94) (by simp [Value.oneCell',strV]) hn2 (s.pickT (hd:=[_,_,_,_]) (tl:=(AR++bs)) (hd':=[_,_,_,_]) [0,3,1,2] Z Z)) Z λp9 _=>.nl<|.bN<|?_
   refine retN (.inr Z) rfl .nil rfl λW s=>?_;have e0:operandP l ⟨q,o::r,x,false,dn⟩=giveS (fmv (.mk 1 [] [] 0 0 [] [])) (((⟨q,o::r,x,false,dn⟩:Ps)).at q.nx):=(opd_no hff hno).trans (re2_tru a94);rw [e0];exact ⟨(_,_,_,_,_,AR),⟨u1,⟨S.ops,.cons S.vls ⟨ExR.zero rfl (Al_Nat_zero_le _),FmR.zero rfl rfl (Al_Nat_zero_le _) (Al_Nat_zero_le _)⟩⟩⟩,Z,s.pickT (hd:=[_,_,_,_]) (tl:=(AR++bs)) (hd':=[_,_,_]) [0,3,1] rfl rfl⟩
  have a94:Rq.ac l [116,114,117,101] q=false:=h94;rw [acF_F a94];refine .sm Z<|.cs (X:=Unit) Fx.call107 Z (λW s=>accept_f (K.up u1.up) hq [102,97,108,115,101] (s.pickT (hd:=[_,_,_,_]) (tl:=(AR++bs)) (hd':=[_,_,_,_]) [0,1,2,3] Z Z)) Z λ_ _=>.aq Z<|.cd Z (λh101=>?_) (λh101=>?_)
  ·have a101:Rq.ac l [102,97,108,115,101] q=true:=h101;rw [acF_T a101];refine .rg<|.mv Z<|.yw (.build Z (Fx.bld35_0 _))<|.yw (.build Z (Fx.bld179_3 _ _ _ _ _ _ _))<|.cs (X:=Option Addr × Nat) Fx.call108 Z (λW s=>give_f (K.up u1.up) (wi_ac K.gd.last hq a101) (by simp [Value.oneCell',strV]) hn2 (s.pickT (hd:=[_,_,_,_]) (tl:=(AR++bs)) (hd':=[_,_,_,_]) [0,3,1,2] Z Z)) Z λp9 _=>.nl<|.bN<|?_
   refine retN (.inr Z) rfl .nil rfl λW s=>?_;have e0:operandP l ⟨q,o::r,x,false,dn⟩=giveS (fmv (.mk 2 [] [] 0 0 [] [])) (((⟨q,o::r,x,false,dn⟩:Ps)).at q.nx):=(opd_no hff hno).trans (re2_fal a101);rw [e0];exact ⟨(_,_,_,_,_,AR),⟨u1,⟨S.ops,.cons S.vls ⟨ExR.zero rfl (Al_Nat_zero_le _),FmR.zero rfl rfl (Al_Nat_zero_le _) (Al_Nat_zero_le _)⟩⟩⟩,Z,s.pickT (hd:=[_,_,_,_]) (tl:=(AR++bs)) (hd':=[_,_,_]) [0,3,1] rfl rfl⟩
  have a101:Rq.ac l [102,97,108,115,101] q=false:=h101;rw [acF_F a101];refine .sm Z<|.cs (X:=Unit) Fx.call107 Z (λW s=>accept_f (K.up u1.up) hq [102,108,97,103] (s.pickT (hd:=[_,_,_,_]) (tl:=(AR++bs)) (hd':=[_,_,_,_]) [0,1,2,3] Z Z)) Z λ_ _=>.aq Z<|.cd Z (λh108=>?_) (λh108=>?_)
  ·have a108:Rq.ac l [102,108,97,103] q=true:=h108;rw [acF_T a108];refine .rg<|.mv Z<|.mv Z<|.cs (X:=Unit) Fx.call113 Z (λW s=>name_f (K.up u1.up) (wi_ac K.gd.last hq a108)  (s.pickT (hd:=[_,_,_,_]) (tl:=(AR++bs)) (hd':=[_,_,_,_]) [0,1,2,3] Z Z)) Z λ_ _=>.yw (.build Z (Fx.bld35_0_1 _ _))<|.yw (.build Z (Fx.bld179_3 _ _ _ _ _ _ _))<|.cs (X:=Option Addr × Nat) Fx.call108 Z (λW s=>give_f (K.up u1.up) (wi_nm K.gd.last (wi_ac K.gd.last hq a108)) (by simp [Value.oneCell',strV]) hn2 (s.pickT (hd:=[_,_,_,_]) (tl:=(AR++bs)) (hd':=[_,_,_,_]) [0,3,1,2] Z Z)) Z λp9 _=>.nl<|.bN<|?_
   refine retN (.inr Z) rfl .nil rfl λW s=>?_;have e0:operandP l ⟨q,o::r,x,false,dn⟩=giveS (fmv (.mk 6 (q.nx.nmV l) [] 0 0 [] [])) (((⟨q,o::r,x,false,dn⟩:Ps)).at (q.nx.nmS l)):=(opd_no hff hno).trans (re2_flg a108);rw [e0];exact ⟨(_,_,_,_,_,AR),⟨u1,⟨S.ops,.cons S.vls ⟨ExR.zero rfl (Al_Nat_zero_le _),FmR.zero rfl rfl (Al_Nat_le_trans (nmV_len K (wi_ac K.gd.last hq a108)) (by decide)) (Al_Nat_zero_le _)⟩⟩⟩,Z,s.pickT (hd:=[_,_,_,_]) (tl:=(AR++bs)) (hd':=[_,_,_]) [0,3,1] rfl rfl⟩
  have a108:Rq.ac l [102,108,97,103] q=false:=h108;rw [acF_F a108];refine .sm Z<|.cs (X:=Unit) Fx.call107 Z (λW s=>accept_f (K.up u1.up) hq [104,97,115] (s.pickT (hd:=[_,_,_,_]) (tl:=(AR++bs)) (hd':=[_,_,_,_]) [0,1,2,3] Z Z)) Z λ_ _=>.aq Z<|.cd Z (λh117=>?_) (λh117=>?_)
  ·have a117:Rq.ac l [104,97,115] q=true:=h117;rw [acF_T a117];refine .sm Z<|.cs (X:=Unit) Fx.call112 Z (λW s=>pair_f (K.up u1.up) (wi_ac K.gd.last hq a117) 5 (s.pickT (hd:=[_,_,_,_]) (tl:=(AR++bs)) (hd':=[_,_,_,_]) [0,1,2,3] Z Z)) Z λ_ _=>.al Fx.zero35 Z λb5=>.sX .head Z Z Fx.size35 Z<|.ns<|.mv Z<|.cs (X:=Unit) Fx.call114 Z (λW s=>expect_f (K.up u1.up) (wi_pa K.gd.last (wi_ac K.gd.last hq a117)) [91] (s.pickT (hd:=[_,_,_,_,_]) (tl:=(AR++bs)) (hd':=[_,_,_,_,_]) [1,0,2,3,4] Z Z)) Z λ_ _=>.nt<|.rg<|.mv Z<|.yw (.loadW Z Fx.agg35 mem1 Z)<|.yw (.build Z (Fx.bld97_0_2_4 _ _ _ _ _ _ _ _ _))<|.cs (X:=Option Addr × Nat) Fx.call109 Z (λW s=>push_f (K.up u1.up) (wi_ex K.gd.last (wi_pa K.gd.last (wi_ac K.gd.last hq a117))) (by simp [Value.oneCell',strV]) (Al_Nat_le_trans hn1 (by decide)) (t':=false) (λh=>absurd h (Nat.lt_irrefl 0)) (s.pickT (hd:=[_,_,_,_,_]) (tl:=(AR++bs)) (hd':=[_,_,_,_,_]) [0,3,1,2,4] Z Z)) Z λp9 _=>.nl<|.bN<|?_
   refine retN (.inr Z) rfl .nil rfl λW s=>?_;have e0:operandP l ⟨q,o::r,x,false,dn⟩=pushS ⟨4,0,true,0,q.nx.paV l 5⟩ (((⟨q,o::r,x,false,dn⟩:Ps)).at ((q.nx.paS l).exS l [91])):=(opd_no hff hno).trans (re2_has a117);rw [e0];exact ⟨(_,_,_,_,_,AR),⟨u1,⟨.cons S.ops (by show ¬ (4:UInt8)=5;decide) (FmR.zero rfl rfl (Al_Nat_le_trans (nmV_len K (wi_ac K.gd.last hq a117)) (by decide)) (Al_Nat_le_trans (nmV_len K (wi_ex K.gd.last (wi_nm K.gd.last (wi_ac K.gd.last hq a117)))) (by decide))),S.vls⟩⟩,Z,s.pickT (hd:=[_,_,_,_,_]) (tl:=(AR++bs)) (hd':=[_,_,_]) [0,1,4] rfl rfl⟩
  have a117:Rq.ac l [104,97,115] q=false:=h117;rw [acF_F a117];refine .sm Z<|.cs (X:=Unit) Fx.call107 Z (λW s=>accept_f (K.up u1.up) hq [97,114,114,105,118,101,115] (s.pickT (hd:=[_,_,_,_]) (tl:=(AR++bs)) (hd':=[_,_,_,_]) [0,1,2,3] Z Z)) Z λ_ _=>.aq Z<|.cd Z (λh128=>?_) (λh128=>?_)
  ·have a128:Rq.ac l [97,114,114,105,118,101,115] q=true:=h128;rw [acF_T a128];refine .rg<|.mv Z<|.cs (X:=Hp × Value × Value × List Value × List Value × List Res) Fx.call115 Z (λW s=>arrives_f (K.up u1.up) (wf_at (q:=⟨q,o::r,x,false,dn⟩) (c:=q.nx) Wq (wi_ac K.gd.last hq a128) (Nat.le_succ _)) S.at (St.mid (a:=[_,_,_]) (d:=[_]) (s.pickT (hd:=[_,_,_,_]) (tl:=(AR++bs)) (hd':=[_,_,_,_]) [0,2,3,1] Z Z))) Z λz9 hz9=>?_
   obtain ⟨H2,ro,rv,xo,xv,AR⟩:=z9;obtain ⟨u2,S⟩:=hz9;dsimp only at u2 S|-;refine Sx.reSt (λW s=>St.mid (a:=[_,_,_]) (d:=AR) (c:=[_]) s) ?_;refine .nl<|.bN<|?_
   refine retN (.inr Z) rfl .nil rfl λW s=>?_;have e0:operandP l ⟨q,o::r,x,false,dn⟩=arrP l (((⟨q,o::r,x,false,dn⟩:Ps)).at q.nx):=(opd_no hff hno).trans (re2_arr a128);rw [e0];exact ⟨(_,_,_,_,_,AR),⟨(u1.trans u2),⟨S.ops,S.vls⟩⟩,Z,s.pickT (hd:=[_,_,_,_]) (tl:=(AR++bs)) (hd':=[_,_,_]) [0,1,2] rfl rfl⟩
  have a128:Rq.ac l [97,114,114,105,118,101,115] q=false:=h128;rw [acF_F a128];refine .rg<|.mv Z<|.cs (X:=Unit) Fx.call104 Z (λW s=>fail_f (K.up u1.up) hq 8 (s.pickT (hd:=[_,_,_,_]) (tl:=(AR++bs)) (hd':=[_,_,_,_]) [0,1,2,3] Z Z)) Z λ_ _=>.nl<|.bN<|?_
  refine retN (.inr Z) rfl .nil rfl λW s=>?_
  have e0:operandP l ⟨q,o::r,x,false,dn⟩=(((⟨q,o::r,x,false,dn⟩:Ps)).at (q.fail l 8)):=(opd_no hff hno).trans (re2_non a44 hk3 hk1 (λw hw=>by
   simp only [priW,Al_List_mem_cons,List.not_mem_nil,or_false] at hw;rcases hw with rfl | rfl | rfl | rfl | rfl | rfl | rfl | rfl
   ·exact a72
   ·exact a94
   ·exact a101
   ·exact a108
   ·exact a117
   ·exact a128
   ·exact a79
   ·exact a50))
  rw [e0];exact ⟨(_,_,_,_,_,AR),⟨u1,⟨S.ops,S.vls⟩⟩,Z,s.pickT (hd:=[_,_,_,_]) (tl:=(AR++bs)) (hd':=[_,_,_]) [0,2,3] rfl rfl⟩
 have hff:fmsB ⟨q,o::r,x,false,dn⟩=false\/prefS l ⟨q,o::r,x,false,dn⟩=none:=.inl (by rw [<-ef];exact h26);refine .gG<|.gG<|.yw (.pickF Z Z)<|.aq Z<|.cF Z<|.cu (X:=Bool) [(0,_),(2,_)] ⟨Z,Z,Jt⟩ (λz=>[(30,.bool z)]) (λz=>H) (λz=>(.box b2 (cTk .u8 (tkf l q.i)) 108::.box b [.slice tp l.length tc,iN ((if z then Rq.nx q else q).i),(.slice (some ⟨g,0,none⟩) (o::r).length c),rv,.bool false,.bool dn,.bool x.2,iN ((if z then Rq.nx q else q).off),iN ((if z then Rq.nx q else q).er)] 102::.row 97 11 ((.slice (some ⟨g,0,none⟩) (o::r).length c)) ((o::r).length) ((xr++oC o s1 s2))::.row 179 13 (rv) (x.1.length) (xv)::(AR++bs))) (λz=>z=(decide (o.kd=5) && Rq.ac l [95] q)) ?_ λz hC=>?_
 ·
  refine .rg<|.mv Z<|.cs (X:=Unit) Fx.call105 Z (λW s=>top_f K hq (g:=g) (k:=r.length) (c:=c) (by omega) (s.pickT (hd:=[_,_,_,_]) (tl:=(AR++bs)) (hd':=[_,_,_,_]) [1,0,2,3] Z Z)) Z λ_ _=>.nC Z<|.fA Z Fx.field97_0<|.yw (.loadR1 Z Fx.agg95 mem2 (app_at hlo Z))<|.yw (.eql Z Z)<|.mv Z<|.b2 (λh37=>?_) (λh37=>?_)
  ·have hk5:o.kd=5:=Al_UInt8_toNat_inj.1 (by have:=Al_of_decide_eq_true h37;show o.kd.toNat=5;omega);exact .gy (.move Z)<|.gd Z Z<|.cs (X:=Unit) Fx.call107 Z (λW s=>accept_f K hq [95] (s.pickT (hd:=[_,_,_,_]) (tl:=(AR++bs)) (hd':=[_,_,_,_]) [0,1,2,3] Z Z)) Z λ_ _=>.yw (.pickT Z Z)<|.aq Z<|.me _ ⟨Z,Jt⟩ ⟨Z,Z,Jt⟩ (λ_ s=>(s.pickT (hd:=[_,_,_,_]) (tl:=(AR++bs)) (hd':=[_,_,_,_]) [1,0,2,3] Z Z)) (by first | rw [Al_decide_eq_true hk5,Al_Bool_true_and] | (rw [Al_decide_eq_false hk5];rfl))
  have hk5:¬ o.kd=5:=λe=>Al_of_decide_eq_false h37 (by rw [e];rfl);exact .gG<|.gG<|.yw (.pickF Z Z)<|.aq Z<|.me _ ⟨Z,Jt⟩ ⟨Z,Z,Jt⟩ (λ_ s=>(s.pickT (hd:=[_,_,_,_]) (tl:=(AR++bs)) (hd':=[_,_,_,_]) [1,0,2,3] Z Z)) (by first | rw [Al_decide_eq_true hk5,Al_Bool_true_and] | (rw [Al_decide_eq_false hk5];rfl))
 have ez:=hC;refine .cd Z (λh30=>?_) (λh30=>?_)
 ·rw [h30] at ez;have ez2:=Al_Bool_and_eq_true _ _ |>.mp ez.symm
  rw [Al_if_pos h30];refine .rg<|.mv Z<|.yw (.build Z (Fx.bld179_0_1 _ _))<|.cs (X:=Option Addr × Nat) Fx.call108 Z (λW s=>give_f K (wi_ac K.gd.last hq ez2.2) (by simp [Value.oneCell',strV]) hn2 (s.pickT (hd:=[_,_,_,_]) (tl:=(AR++bs)) (hd':=[_,_,_,_]) [1,3,0,2] Z Z)) Z λp9 _=>.nl<|.bN<|?_
  refine retN (.inr Z) rfl .nil rfl λW s=>?_;have e0:operandP l ⟨q,o::r,x,false,dn⟩=giveS ⟨true,true,zE,zF⟩ (((⟨q,o::r,x,false,dn⟩:Ps)).at q.nx):=opd_any hff (Al_of_decide_eq_true ez2.1) ez2.2;rw [e0];exact ⟨(_,_,_,_,_,AR),⟨.refl,⟨S.ops,.cons S.vls ⟨ExR.zero rfl (Al_Nat_zero_le _),FmR.zero rfl rfl (Al_Nat_zero_le _) (Al_Nat_zero_le _)⟩⟩⟩,Z,s.pickT (hd:=[_,_,_,_]) (tl:=(AR++bs)) (hd':=[_,_,_]) [0,3,1] rfl rfl⟩
 rw [h30] at ez
 have hno:(topO (⟨q,o::r,x,false,dn⟩:Ps)).kd=5->Rq.ac l [95] q=false:=λe=>by
  have e3:(false:Bool)=(decide (o.kd=5) && Rq.ac l [95] q):=ez;rw [Al_decide_eq_true (show o.kd=5 from e),Al_Bool_true_and] at e3;exact e3.symm
 rw [Al_if_neg (by rw [h30];decide)];refine .sm Z<|.cs (X:=Unit) Fx.call107 Z (λW s=>accept_f K hq [45] (s.pickT (hd:=[_,_,_,_]) (tl:=(AR++bs)) (hd':=[_,_,_,_]) [1,0,2,3] Z Z)) Z λ_ _=>.aq Z<|.cd Z (λh44=>?_) (λh44=>?_)
 ·have a44:Rq.ac l [45] q=true:=h44;rw [acF_T a44];refine .rg<|.mv Z<|.yw (.build Z (Fx.bld97_0_1 _ _))<|.cs (X:=Option Addr × Nat) Fx.call109 Z (λW s=>push_f K (wi_ac K.gd.last hq a44) (by simp [Value.oneCell',strV]) (Al_Nat_le_trans hn1 (by decide)) (λ_=>S.ops.tm hne) (s.pickT (hd:=[_,_,_,_]) (tl:=(AR++bs)) (hd':=[_,_,_,_]) [0,2,1,3] Z Z)) Z λp9 _=>.nl<|.bN<|?_
  refine retN (.inr Z) rfl .nil rfl λW s=>?_;have e0:operandP l ⟨q,o::r,x,false,dn⟩=pushS ⟨10,9,false,0,zF⟩ (((⟨q,o::r,x,false,dn⟩:Ps)).at q.nx):=(opd_no hff hno).trans (re2_neg a44);rw [e0];exact ⟨(_,_,_,_,_,AR),⟨.refl,⟨.cons S.ops (by show ¬ (10:UInt8)=5;decide) (FmR.zero rfl rfl (Al_Nat_zero_le _) (Al_Nat_zero_le _)),S.vls⟩⟩,Z,s.pickT (hd:=[_,_,_,_]) (tl:=(AR++bs)) (hd':=[_,_,_]) [0,1,3] rfl rfl⟩
 have a44:Rq.ac l [45] q=false:=h44;rw [acF_F a44];refine .sm Z<|.cs (X:=Unit) Fx.call107 Z (λW s=>accept_f K hq [40] (s.pickT (hd:=[_,_,_,_]) (tl:=(AR++bs)) (hd':=[_,_,_,_]) [0,1,2,3] Z Z)) Z λ_ _=>.aq Z<|.cd Z (λh50=>?_) (λh50=>?_)
 ·have a50:Rq.ac l [40] q=true:=h50;rw [acF_T a50];refine .rg<|.mv Z<|.yw (.build Z (Fx.bld97_0 _))<|.cs (X:=Option Addr × Nat) Fx.call109 Z (λW s=>push_f K (wi_ac K.gd.last hq a50) (by simp [Value.oneCell',strV]) (Al_Nat_le_trans hn1 (by decide)) (t':=false) (λh=>absurd h (Nat.lt_irrefl 0)) (s.pickT (hd:=[_,_,_,_]) (tl:=(AR++bs)) (hd':=[_,_,_,_]) [0,2,1,3] Z Z)) Z λp9 _=>.nl<|.bN<|?_
  refine retN (.inr Z) rfl .nil rfl λW s=>?_;have e0:operandP l ⟨q,o::r,x,false,dn⟩=pushS ⟨2,0,false,0,zF⟩ (((⟨q,o::r,x,false,dn⟩:Ps)).at q.nx):=(opd_no hff hno).trans (re2_par a50);rw [e0];exact ⟨(_,_,_,_,_,AR),⟨.refl,⟨.cons S.ops (by show ¬ (2:UInt8)=5;decide) (FmR.zero rfl rfl (Al_Nat_zero_le _) (Al_Nat_zero_le _)),S.vls⟩⟩,Z,s.pickT (hd:=[_,_,_,_]) (tl:=(AR++bs)) (hd':=[_,_,_]) [0,1,3] rfl rfl⟩
 have a50:Rq.ac l [40] q=false:=h50;rw [acF_F a50];refine .sr<|.fA Z Fx.field108_0<|.lD Z Fx.agg106 mem1 Z<|.yw (.eql Z Z)<|.aq Z<|.cd Z (λh56=>?_) (λh56=>?_)
 ·have hk3:(tkf l q.i).k=3:=Al_UInt8_toNat_inj.1 (by have:=Al_of_decide_eq_true h56;show (tkf l q.i).k.toNat=3;omega);refine .rg<|.mv Z<|.mv Z<|.cs (X:=Unit) Fx.call110 Z (λW s=>number_f K hq  (s.pickT (hd:=[_,_,_,_]) (tl:=(AR++bs)) (hd':=[_,_,_,_]) [0,1,2,3] Z Z)) Z λ_ _=>.yw (.build Z (Fx.bld76_0_2 _ _))<|.yw (.build Z (Fx.bld179_0_2 _ _ _ _ _))<|.cs (X:=Option Addr × Nat) Fx.call108 Z (λW s=>give_f K (wi_nb K.gd.last hq) (by simp [Value.oneCell',strV]) hn2 (s.pickT (hd:=[_,_,_,_]) (tl:=(AR++bs)) (hd':=[_,_,_,_]) [0,3,1,2] Z Z)) Z λp9 _=>.nl<|.bN<|?_
  refine retN (.inr Z) rfl .nil rfl λW s=>?_;have e0:operandP l ⟨q,o::r,x,false,dn⟩=giveS (tmv (.mk 1 [] (q.nbV l) [])) (((⟨q,o::r,x,false,dn⟩:Ps)).at (q.nbS l)):=(opd_no hff hno).trans (re2_num hk3);rw [e0];exact ⟨(_,_,_,_,_,AR),⟨.refl,⟨S.ops,.cons S.vls ⟨ExR.zero rfl (Al_Nat_zero_le _),FmR.zero rfl rfl (Al_Nat_zero_le _) (Al_Nat_zero_le _)⟩⟩⟩,Z,s.pickT (hd:=[_,_,_,_]) (tl:=(AR++bs)) (hd':=[_,_,_]) [0,3,1] rfl rfl⟩
 have hk3:¬ (tkf l q.i).k=3:=λe=>Al_of_decide_eq_false h56 (by rw [e];rfl);refine .sr<|.fA Z Fx.field108_0<|.lD Z Fx.agg106 mem1 Z<|.yw (.eql Z Z)<|.aq Z<|.cd Z (λh66=>?_) (λh66=>?_)
 ·have hk1:(tkf l q.i).k=1:=Al_UInt8_toNat_inj.1 (by have:=Al_of_decide_eq_true h66;show (tkf l q.i).k.toNat=1;omega);refine .rg<|.mv Z<|.cs (X:=Hp × Value × Value × List Value × List Value × List Res) Fx.call111 Z (λW s=>variable_f K Wq S (St.mid (a:=[_,_,_]) (d:=[_]) (s.pickT (hd:=[_,_,_,_]) (tl:=(AR++bs)) (hd':=[_,_,_,_]) [0,2,3,1] Z Z))) Z λz9 hz9=>?_
  obtain ⟨H1,ro,rv,xo,xv,AR⟩:=z9;obtain ⟨u1,S⟩:=hz9;dsimp only at u1 S|-;refine Sx.reSt (λW s=>St.mid (a:=[_,_,_]) (d:=AR) (c:=[_]) s) ?_;refine .nl<|.bN<|?_
  refine retN (.inr Z) rfl .nil rfl λW s=>?_;have e0:operandP l ⟨q,o::r,x,false,dn⟩=varP l ⟨q,o::r,x,false,dn⟩:=(opd_no hff hno).trans (re2_nam hk1);rw [e0];exact ⟨(_,_,_,_,_,AR),⟨u1,⟨S.ops,S.vls⟩⟩,Z,s.pickT (hd:=[_,_,_,_]) (tl:=(AR++bs)) (hd':=[_,_,_]) [0,1,2] rfl rfl⟩
 have hk1:¬ (tkf l q.i).k=1:=λe=>Al_of_decide_eq_false h66 (by rw [e];rfl);refine .sm Z<|.cs (X:=Unit) Fx.call107 Z (λW s=>accept_f K hq [110,111,119] (s.pickT (hd:=[_,_,_,_]) (tl:=(AR++bs)) (hd':=[_,_,_,_]) [0,1,2,3] Z Z)) Z λ_ _=>.aq Z<|.cd Z (λh72=>?_) (λh72=>?_)
 ·have a72:Rq.ac l [110,111,119] q=true:=h72;rw [acF_T a72];refine .rg<|.mv Z<|.yw (.build Z (Fx.bld76_0 _))<|.yw (.build Z (Fx.bld179_0_2 _ _ _ _ _))<|.cs (X:=Option Addr × Nat) Fx.call108 Z (λW s=>give_f K (wi_ac K.gd.last hq a72) (by simp [Value.oneCell',strV]) hn2 (s.pickT (hd:=[_,_,_,_]) (tl:=(AR++bs)) (hd':=[_,_,_,_]) [0,3,1,2] Z Z)) Z λp9 _=>.nl<|.bN<|?_
  refine retN (.inr Z) rfl .nil rfl λW s=>?_;have e0:operandP l ⟨q,o::r,x,false,dn⟩=giveS (tmv (.mk 4 [] 0 [])) (((⟨q,o::r,x,false,dn⟩:Ps)).at q.nx):=(opd_no hff hno).trans (re2_now a72);rw [e0];exact ⟨(_,_,_,_,_,AR),⟨.refl,⟨S.ops,.cons S.vls ⟨ExR.zero rfl (Al_Nat_zero_le _),FmR.zero rfl rfl (Al_Nat_zero_le _) (Al_Nat_zero_le _)⟩⟩⟩,Z,s.pickT (hd:=[_,_,_,_]) (tl:=(AR++bs)) (hd':=[_,_,_]) [0,3,1] rfl rfl⟩
 have a72:Rq.ac l [110,111,119] q=false:=h72;rw [acF_F a72];refine .sm Z<|.cs (X:=Unit) Fx.call107 Z (λW s=>accept_f K hq [115,105,122,101] (s.pickT (hd:=[_,_,_,_]) (tl:=(AR++bs)) (hd':=[_,_,_,_]) [0,1,2,3] Z Z)) Z λ_ _=>.aq Z<|.cd Z (λh79=>?_) (λh79=>?_)
 ·have a79:Rq.ac l [115,105,122,101] q=true:=h79;rw [acF_T a79];refine .sm Z<|.cs (X:=Unit) Fx.call112 Z (λW s=>pair_f K (wi_ac K.gd.last hq a79) 0 (s.pickT (hd:=[_,_,_,_]) (tl:=(AR++bs)) (hd':=[_,_,_,_]) [0,1,2,3] Z Z)) Z λ_ _=>.al Fx.zero35 Z λb4=>.sX .head Z Z Fx.size35 Z<|.nt<|.rg<|.mv Z<|.fA Z Fx.field35_1<|.lD Z Fx.agg9 Hm Z<|.yw (.app Z Z (by have h1:=nmV_len K (wi_ac K.gd.last hq a79);have h2:=nmV_len K (wi_ex K.gd.last (wi_nm K.gd.last (wi_ac K.gd.last hq a79)) (w:=[46]));show (Rq.nmV l q.nx).length+1<=_;omega))<|.fA Z Fx.field35_2<|.lD Z Fx.agg9 Hm Z<|.yw (.app Z Z (by have h1:=nmV_len K (wi_ac K.gd.last hq a79);have h2:=nmV_len K (wi_ex K.gd.last (wi_nm K.gd.last (wi_ac K.gd.last hq a79)) (w:=[46]));simp only [Al_List_length_append,Al_List_length_cons,Al_List_length_nil];unfold Rq.paN Rq.paF;omega))<|.yw (.build Z (Fx.bld76_0_1 _ _))<|.yw (.build Z (Fx.bld179_0_2 _ _ _ _ _))<|.cs (X:=Option Addr × Nat) Fx.call108 Z (λW s=>give_f K (wi_pa K.gd.last (wi_ac K.gd.last hq a79)) (by simp [Value.oneCell',strV]) hn2 (s.pickT (hd:=[_,_,_,_,_]) (tl:=(AR++bs)) (hd':=[_,_,_,_,_]) [1,4,0,2,3] Z Z)) Z λp9 _=>.nl<|.bN<|?_
  refine retN (.inr Z) rfl .nil rfl λW s=>?_;have e0:operandP l ⟨q,o::r,x,false,dn⟩=giveS (tmv (.mk 8 (q.nx.paN l++[46]++q.nx.paF l) 0 [])) (((⟨q,o::r,x,false,dn⟩:Ps)).at (q.nx.paS l)):=(opd_no hff hno).trans (re2_siz a79);rw [e0];exact ⟨(_,_,_,_,_,AR),⟨.refl,⟨S.ops,.cons S.vls ⟨ExR.zero rfl (by have h1:=nmV_len K (wi_ac K.gd.last hq a79);have h2:=nmV_len K (wi_ex K.gd.last (wi_nm K.gd.last (wi_ac K.gd.last hq a79)) (w:=[46]));show (Rq.paN l q.nx++[46]++Rq.paF l q.nx).length<=1000000;unfold Rq.paN Rq.paF;simp only [Al_List_length_append,Al_List_length_cons,Al_List_length_nil];omega),FmR.zero rfl rfl (Al_Nat_zero_le _) (Al_Nat_zero_le _)⟩⟩⟩,Z,s.pickT (hd:=[_,_,_,_,_]) (tl:=(AR++bs)) (hd':=[_,_,_]) [0,4,1] rfl rfl⟩
 have a79:Rq.ac l [115,105,122,101] q=false:=h79;rw [acF_F a79];refine .sm Z<|.cs (X:=Unit) Fx.call107 Z (λW s=>accept_f K hq [116,114,117,101] (s.pickT (hd:=[_,_,_,_]) (tl:=(AR++bs)) (hd':=[_,_,_,_]) [0,1,2,3] Z Z)) Z λ_ _=>.aq Z<|.cd Z (λh94=>?_) (λh94=>?_)
 ·have a94:Rq.ac l [116,114,117,101] q=true:=h94;rw [acF_T a94];refine .rg<|.mv Z<|.yw (.build Z (Fx.bld35_0 _))<|.yw (.build Z (Fx.bld179_3 _ _ _ _ _ _ _))<|.cs (X:=Option Addr × Nat) Fx.call108 Z (λW s=>give_f K (wi_ac K.gd.last hq a94) (by simp [Value.oneCell',strV]) hn2 (s.pickT (hd:=[_,_,_,_]) (tl:=(AR++bs)) (hd':=[_,_,_,_]) [0,3,1,2] Z Z)) Z λp9 _=>.nl<|.bN<|?_
  refine retN (.inr Z) rfl .nil rfl λW s=>?_;have e0:operandP l ⟨q,o::r,x,false,dn⟩=giveS (fmv (.mk 1 [] [] 0 0 [] [])) (((⟨q,o::r,x,false,dn⟩:Ps)).at q.nx):=(opd_no hff hno).trans (re2_tru a94);rw [e0];exact ⟨(_,_,_,_,_,AR),⟨.refl,⟨S.ops,.cons S.vls ⟨ExR.zero rfl (Al_Nat_zero_le _),FmR.zero rfl rfl (Al_Nat_zero_le _) (Al_Nat_zero_le _)⟩⟩⟩,Z,s.pickT (hd:=[_,_,_,_]) (tl:=(AR++bs)) (hd':=[_,_,_]) [0,3,1] rfl rfl⟩
 have a94:Rq.ac l [116,114,117,101] q=false:=h94;rw [acF_F a94];refine .sm Z<|.cs (X:=Unit) Fx.call107 Z (λW s=>accept_f K hq [102,97,108,115,101] (s.pickT (hd:=[_,_,_,_]) (tl:=(AR++bs)) (hd':=[_,_,_,_]) [0,1,2,3] Z Z)) Z λ_ _=>.aq Z<|.cd Z (λh101=>?_) (λh101=>?_)
 ·have a101:Rq.ac l [102,97,108,115,101] q=true:=h101;rw [acF_T a101];refine .rg<|.mv Z<|.yw (.build Z (Fx.bld35_0 _))<|.yw (.build Z (Fx.bld179_3 _ _ _ _ _ _ _))<|.cs (X:=Option Addr × Nat) Fx.call108 Z (λW s=>give_f K (wi_ac K.gd.last hq a101) (by simp [Value.oneCell',strV]) hn2 (s.pickT (hd:=[_,_,_,_]) (tl:=(AR++bs)) (hd':=[_,_,_,_]) [0,3,1,2] Z Z)) Z λp9 _=>.nl<|.bN<|?_
  refine retN (.inr Z) rfl .nil rfl λW s=>?_;have e0:operandP l ⟨q,o::r,x,false,dn⟩=giveS (fmv (.mk 2 [] [] 0 0 [] [])) (((⟨q,o::r,x,false,dn⟩:Ps)).at q.nx):=(opd_no hff hno).trans (re2_fal a101);rw [e0];exact ⟨(_,_,_,_,_,AR),⟨.refl,⟨S.ops,.cons S.vls ⟨ExR.zero rfl (Al_Nat_zero_le _),FmR.zero rfl rfl (Al_Nat_zero_le _) (Al_Nat_zero_le _)⟩⟩⟩,Z,s.pickT (hd:=[_,_,_,_]) (tl:=(AR++bs)) (hd':=[_,_,_]) [0,3,1] rfl rfl⟩
 have a101:Rq.ac l [102,97,108,115,101] q=false:=h101;rw [acF_F a101];refine .sm Z<|.cs (X:=Unit) Fx.call107 Z (λW s=>accept_f K hq [102,108,97,103] (s.pickT (hd:=[_,_,_,_]) (tl:=(AR++bs)) (hd':=[_,_,_,_]) [0,1,2,3] Z Z)) Z λ_ _=>.aq Z<|.cd Z (λh108=>?_) (λh108=>?_)
 ·have a108:Rq.ac l [102,108,97,103] q=true:=h108;rw [acF_T a108];refine .rg<|.mv Z<|.mv Z<|.cs (X:=Unit) Fx.call113 Z (λW s=>name_f K (wi_ac K.gd.last hq a108)  (s.pickT (hd:=[_,_,_,_]) (tl:=(AR++bs)) (hd':=[_,_,_,_]) [0,1,2,3] Z Z)) Z λ_ _=>.yw (.build Z (Fx.bld35_0_1 _ _))<|.yw (.build Z (Fx.bld179_3 _ _ _ _ _ _ _))<|.cs (X:=Option Addr × Nat) Fx.call108 Z (λW s=>give_f K (wi_nm K.gd.last (wi_ac K.gd.last hq a108)) (by simp [Value.oneCell',strV]) hn2 (s.pickT (hd:=[_,_,_,_]) (tl:=(AR++bs)) (hd':=[_,_,_,_]) [0,3,1,2] Z Z)) Z λp9 _=>.nl<|.bN<|?_
  refine retN (.inr Z) rfl .nil rfl λW s=>?_;have e0:operandP l ⟨q,o::r,x,false,dn⟩=giveS (fmv (.mk 6 (q.nx.nmV l) [] 0 0 [] [])) (((⟨q,o::r,x,false,dn⟩:Ps)).at (q.nx.nmS l)):=(opd_no hff hno).trans (re2_flg a108);rw [e0];exact ⟨(_,_,_,_,_,AR),⟨.refl,⟨S.ops,.cons S.vls ⟨ExR.zero rfl (Al_Nat_zero_le _),FmR.zero rfl rfl (Al_Nat_le_trans (nmV_len K (wi_ac K.gd.last hq a108)) (by decide)) (Al_Nat_zero_le _)⟩⟩⟩,Z,s.pickT (hd:=[_,_,_,_]) (tl:=(AR++bs)) (hd':=[_,_,_]) [0,3,1] rfl rfl⟩
 have a108:Rq.ac l [102,108,97,103] q=false:=h108;rw [acF_F a108];refine .sm Z<|.cs (X:=Unit) Fx.call107 Z (λW s=>accept_f K hq [104,97,115] (s.pickT (hd:=[_,_,_,_]) (tl:=(AR++bs)) (hd':=[_,_,_,_]) [0,1,2,3] Z Z)) Z λ_ _=>.aq Z<|.cd Z (λh117=>?_) (λh117=>?_)
 ·have a117:Rq.ac l [104,97,115] q=true:=h117;rw [acF_T a117];refine .sm Z<|.cs (X:=Unit) Fx.call112 Z (λW s=>pair_f K (wi_ac K.gd.last hq a117) 5 (s.pickT (hd:=[_,_,_,_]) (tl:=(AR++bs)) (hd':=[_,_,_,_]) [0,1,2,3] Z Z)) Z λ_ _=>.al Fx.zero35 Z λb5=>.sX .head Z Z Fx.size35 Z<|.ns<|.mv Z<|.cs (X:=Unit) Fx.call114 Z (λW s=>expect_f K (wi_pa K.gd.last (wi_ac K.gd.last hq a117)) [91] (s.pickT (hd:=[_,_,_,_,_]) (tl:=(AR++bs)) (hd':=[_,_,_,_,_]) [1,0,2,3,4] Z Z)) Z λ_ _=>.nt<|.rg<|.mv Z<|.yw (.loadW Z Fx.agg35 mem1 Z)<|.yw (.build Z (Fx.bld97_0_2_4 _ _ _ _ _ _ _ _ _))<|.cs (X:=Option Addr × Nat) Fx.call109 Z (λW s=>push_f K (wi_ex K.gd.last (wi_pa K.gd.last (wi_ac K.gd.last hq a117))) (by simp [Value.oneCell',strV]) (Al_Nat_le_trans hn1 (by decide)) (t':=false) (λh=>absurd h (Nat.lt_irrefl 0)) (s.pickT (hd:=[_,_,_,_,_]) (tl:=(AR++bs)) (hd':=[_,_,_,_,_]) [0,3,1,2,4] Z Z)) Z λp9 _=>.nl<|.bN<|?_
  refine retN (.inr Z) rfl .nil rfl λW s=>?_;have e0:operandP l ⟨q,o::r,x,false,dn⟩=pushS ⟨4,0,true,0,q.nx.paV l 5⟩ (((⟨q,o::r,x,false,dn⟩:Ps)).at ((q.nx.paS l).exS l [91])):=(opd_no hff hno).trans (re2_has a117);rw [e0];exact ⟨(_,_,_,_,_,AR),⟨.refl,⟨.cons S.ops (by show ¬ (4:UInt8)=5;decide) (FmR.zero rfl rfl (Al_Nat_le_trans (nmV_len K (wi_ac K.gd.last hq a117)) (by decide)) (Al_Nat_le_trans (nmV_len K (wi_ex K.gd.last (wi_nm K.gd.last (wi_ac K.gd.last hq a117)))) (by decide))),S.vls⟩⟩,Z,s.pickT (hd:=[_,_,_,_,_]) (tl:=(AR++bs)) (hd':=[_,_,_]) [0,1,4] rfl rfl⟩
 have a117:Rq.ac l [104,97,115] q=false:=h117;rw [acF_F a117];refine .sm Z<|.cs (X:=Unit) Fx.call107 Z (λW s=>accept_f K hq [97,114,114,105,118,101,115] (s.pickT (hd:=[_,_,_,_]) (tl:=(AR++bs)) (hd':=[_,_,_,_]) [0,1,2,3] Z Z)) Z λ_ _=>.aq Z<|.cd Z (λh128=>?_) (λh128=>?_)
 ·have a128:Rq.ac l [97,114,114,105,118,101,115] q=true:=h128;rw [acF_T a128];refine .rg<|.mv Z<|.cs (X:=Hp × Value × Value × List Value × List Value × List Res) Fx.call115 Z (λW s=>arrives_f K (wf_at (q:=⟨q,o::r,x,false,dn⟩) (c:=q.nx) Wq (wi_ac K.gd.last hq a128) (Nat.le_succ _)) S.at (St.mid (a:=[_,_,_]) (d:=[_]) (s.pickT (hd:=[_,_,_,_]) (tl:=(AR++bs)) (hd':=[_,_,_,_]) [0,2,3,1] Z Z))) Z λz9 hz9=>?_
  obtain ⟨H1,ro,rv,xo,xv,AR⟩:=z9;obtain ⟨u1,S⟩:=hz9;dsimp only at u1 S|-;refine Sx.reSt (λW s=>St.mid (a:=[_,_,_]) (d:=AR) (c:=[_]) s) ?_;refine .nl<|.bN<|?_
  refine retN (.inr Z) rfl .nil rfl λW s=>?_;have e0:operandP l ⟨q,o::r,x,false,dn⟩=arrP l (((⟨q,o::r,x,false,dn⟩:Ps)).at q.nx):=(opd_no hff hno).trans (re2_arr a128);rw [e0];exact ⟨(_,_,_,_,_,AR),⟨u1,⟨S.ops,S.vls⟩⟩,Z,s.pickT (hd:=[_,_,_,_]) (tl:=(AR++bs)) (hd':=[_,_,_]) [0,1,2] rfl rfl⟩
 have a128:Rq.ac l [97,114,114,105,118,101,115] q=false:=h128;rw [acF_F a128];refine .rg<|.mv Z<|.cs (X:=Unit) Fx.call104 Z (λW s=>fail_f K hq 8 (s.pickT (hd:=[_,_,_,_]) (tl:=(AR++bs)) (hd':=[_,_,_,_]) [0,1,2,3] Z Z)) Z λ_ _=>.nl<|.bN<|?_
 refine retN (.inr Z) rfl .nil rfl λW s=>?_
 have e0:operandP l ⟨q,o::r,x,false,dn⟩=(((⟨q,o::r,x,false,dn⟩:Ps)).at (q.fail l 8)):=(opd_no hff hno).trans (re2_non a44 hk3 hk1 (λw hw=>by
  simp only [priW,Al_List_mem_cons,List.not_mem_nil,or_false] at hw;rcases hw with rfl | rfl | rfl | rfl | rfl | rfl | rfl | rfl
  ·exact a72
  ·exact a94
  ·exact a101
  ·exact a108
  ·exact a117
  ·exact a128
  ·exact a79
  ·exact a50))
 rw [e0];exact ⟨(_,_,_,_,_,AR),⟨.refl,⟨S.ops,S.vls⟩⟩,Z,s.pickT (hd:=[_,_,_,_]) (tl:=(AR++bs)) (hd':=[_,_,_]) [0,2,3] rfl rfl⟩
def fwords:List Str:=[[],[116,114,117,101],[102,97,108,115,101],[],[],[104,97,115],[102,108,97,103],[97,114,114,105,118,101,115],[110,111,116],[97,110,100],[111,114],[105,109,112,108,105,101,115],[112,114,101,118,105,111,117,115],[111,110,99,101],[97,108,119,97,121,115],[115,105,110,99,101],[102,111,114,97,108,108],[101,120,105,115,116,115],[99,111,117,110,116]]
def wordF (op:UInt8):Str:=fwords.getD op.toNat []
def symT (op:UInt8):Str:=fsyms.getD op.toNat []
def tlv (op:UInt8):Nat:=if op=14\/op=15 then 4 else if op=11\/op=12\/op=13 then 5 else if op=9 then 6 else 7
def prnT (b:Bool) (s:Str):Str:=if b then [40]++s++[41] else s
def tmOp (op:UInt8) (nm:Str) (n:Int64) (l:List (UInt8 × Str)):Str :=
 if op=1 then Lib.itoa n.toInt
 else if op=4 then [110,111,119]
 else if op=5 then nm
 else if op=6 then nm++[91]++(l.headD (0,[])).2++[93]
 else if op=8 then [115,105,122,101,32]++nm
 else if op=9 then [45]++prnT (decide (tlv (l.headD (0,[])).1<6)) (l.headD (0,[])).2
 else if op=11\/op=12\/op=13\/op=14\/op=15 then
  prnT (decide (tlv (l.headD (0,[])).1<tlv op)) (l.headD (0,[])).2++[32]++symT op++[32]++prnT (decide (tlv ((l.drop 1).headD (0,[])).1<tlv op+1)) ((l.drop 1).headD (0,[])).2
 else [95]
mutual
def tmT:Ex->Str
 | .mk op nm n args=>tmOp op nm n (tmTs args)
def tmTs:List Ex->List (UInt8 × Str)
 | []=>[]
 | e::r=>(e.op,tmT e)::tmTs r
end
def winT (f:Fm):Str:=if !(fsOf f.op).wn || decide (f.b.toInt<0) then [] else [91]++Lib.itoa f.a.toInt++[44,32]++Lib.itoa f.b.toInt++[93]
def amoT (f:Fm):Str:=[32]++f.nm++[32,105,110,32]++Lib.itoa f.a.toInt++[46,46]++Lib.itoa f.b.toInt
def joiT (sep:Str):List Str->Str
 | []=>[]
 | [x]=>x
 | x::r=>x++sep++joiT sep r
def exH (f:Fm):Ex:=f.ex.headD zE
def ex0 (e:Ex):Ex:=e.args.headD zE
def ex1 (e:Ex):Ex:=(e.args.drop 1).headD zE
def fmOp (f:Fm) (l:List (UInt8 × Str)):Str :=
 if f.op=3 then tmT (ex0 (exH f))++[32]++symT (exH f).op++[32]++tmT (ex1 (exH f))
 else if f.op=4 then f.nm++[46]++f.fd
 else if f.op=5 then wordF f.op++[32]++f.nm++[46]++f.fd++[91]++tmT (exH f)++[93]
 else if f.op=6 then wordF f.op++[32]++f.nm
 else if f.op=7 then wordF f.op++[32]++f.nm++[46]++f.fd++[40]++joiT [44,32] (f.ex.map tmT)++[41]
 else if f.op=8\/f.op=12\/f.op=13\/f.op=14 then wordF f.op++winT f++[32]++prnT (decide ((fsOf (l.headD (0,[])).1).lv<5)) (l.headD (0,[])).2
 else if f.op=16\/f.op=17 then wordF f.op++amoT f++[32]++prnT (decide ((fsOf (l.headD (0,[])).1).lv<5)) (l.headD (0,[])).2
 else if f.op=18 then wordF f.op++amoT f++[32,40]++(l.headD (0,[])).2++[41,32,62,61,32]++tmT (exH f)
 else if f.op=15\/f.op=9\/f.op=10\/f.op=11 then
  prnT (decide ((fsOf (l.headD (0,[])).1).lv<(fsOf f.op).lv)) (l.headD (0,[])).2++[32]++wordF f.op++winT f++[32]++prnT (decide ((fsOf ((l.drop 1).headD (0,[])).1).lv<(fsOf f.op).lv+1)) ((l.drop 1).headD (0,[])).2
 else wordF f.op
mutual
def fmT:Fm->Str
 | .mk op nm fd a b ex args=>fmOp (.mk op nm fd a b ex args) (fmTs args)
def fmTs:List Fm->List (UInt8 × Str)
 | []=>[]
 | f::r=>(f.op,fmT f)::fmTs r
end
def textF (f:Fm):Str:=if fcheck f=0 then fmT f else []
theorem Fx.agg157:aggN prg 157=some (some 7):=by kernel_rfl
theorem Fx.arr200:arrN prg 200=some (19,7):=by kernel_rfl
theorem Fx.call102:callN prg 102=true:=by kernel_rfl
theorem Fx.field179_1:fieldN prg 179 1=some 1:=by kernel_rfl
theorem Fx.size95:sizeN prg 95=some 1:=by kernel_rfl
theorem Fx.size157:sizeN prg 157=some 7:=by kernel_rfl
theorem Fx.zero157:zeroN prg 157=some
 [Go.Value.int Go.IntKind.u8 (Int.ofNat 0),Go.Value.bool false,Go.Value.bool false,
  Go.Value.bool false,Go.Value.bool false,Go.Value.int Go.IntKind.u8 (Int.ofNat 0),
  Go.Value.int Go.IntKind.u8 (Int.ofNat 0)]:=by kernel_rfl
theorem Fx.bld157  : buildN prg 157 []=some [.int .u8 0,.bool false,.bool false,.bool false,.bool false,.int .u8 0,.int .u8 0]:=by kernel_rfl
theorem Fx.bld97_0_1_3 (x0 x1 x3:Int):buildN prg 97 [(0,.int .u8 x0),(1,.int .i64 x1),(3,.int .u8 x3)]=some [.int .u8 x0,.int .i64 x1,.bool false,.int .u8 x3,.int .u8 0,.string ⟨#[]⟩,.string ⟨#[]⟩,.int .i64 0,.int .i64 0,.slice none 0 0,.slice none 0 0]:=by kernel_rfl
def fsC (s:Fs):List Value:=[.int .u8 (s.lv:Nat),.bool s.nm,.bool s.fd,.bool s.wn,.bool s.am,.int .u8 (s.ex:Nat),.int .u8 (s.ar:Nat)]
structure Gf (H:Hp):Prop where
 words:MemAt H 0 0 (fwords.map strV)
 syms:MemAt H 1 0 (fsyms.map strV)
 shapes:MemAt H 2 0 (fshapes.flatMap fsC)
variable {H':Hp}
theorem Gf.up (g:Gf H) (u:Up H H'):Gf H':=⟨g.words.up u,g.syms.up u,g.shapes.up u⟩
theorem fshape_any (H:Hp) (G:Gf H) (op:UInt8) (w:World) (hA:Agr H w):Calls prg 74 #[.int .u8 op.toNat] w λr w'=>r=.returned (.agg (fsC (fsOf op)).toArray)/\Ext w w':=by
 refine Sx.enter (H:=H) func74 rfl ntmps74 rfl hA ?_;refine .sr<|.al Fx.zero157 Z λb2=>.nt<|.sq<|.sm Z<|.yw (.conv Z Fx.int5 Fx.int3 (c:=((op.toNat:Nat):Int)) (w64 (by have:=op.toNat_lt;omega) (by have:=op.toNat_lt;omega)))<|.yw (.geq Z Z)<|.nt<|.ce Z (λh5=>?_) (λh5=>?_)
 ·refine .sr<|.yw (.build Z Fx.bld157)<|.sX .head Z Z Fx.size157 Z<|.nt<|.rt<|.tR<|?_
  refine y8 Z (.cell Z Fx.agg157 Hm rfl) λW s=>⟨?_,s.ext⟩
  first
   | (rw [show fsOf op=zFs from (by unfold fsOf;rw [List.getD_eq_getElem?_getD,List.getElem?_eq_none (by show 19<=op.toNat;omega)];rfl)];rfl)
   | rfl
 refine .sk<|.tN<|.sm Z<|.yw (.indexArr Fx.arr200 Z Z Z (by omega) (q:=op.toNat * 7) (by omega))<|.yw (.loadMS (k:=op.toNat * 7) (vs:=fsC (fshapes.getD op.toNat zFs)) Z Fx.agg157 G.shapes (by omega) Z (flat_at (f:=fsC) (z:=7) (l:=fshapes) (i:=op.toNat) (λ_=>rfl) _ (by show op.toNat<19;omega)))<|.sV .head Z Z Fx.size157 Z (by simp [fsC,Value.oneCell',strV]) Z<|.nt<|.rt<|?_
 refine y8 Z (.cell Z Fx.agg157 Hm rfl) λW s=>⟨?_,s.ext⟩
 first
  | (rw [show fsOf op=zFs from (by unfold fsOf;rw [List.getD_eq_getElem?_getD,List.getElem?_eq_none (by show 19<=op.toNat;omega)];rfl)];rfl)
  | rfl
set_option maxHeartbeats 2000000 in
theorem between_f {l:Tks} {op:List Ov} {x:Vb} {dn:Bool} (K:Tkf H l tp tc) (Wq:Fwf l ⟨q,op,x,true,dn⟩) (S:Sq H ⟨q,op,x,true,dn⟩ xo xv AR) (op8:UInt8) (hnx:q.nx.i<l.length) (s:St H w0 (.box b [.slice tp l.length tc,iN q.i,ro,rv,.bool true,.bool dn,.bool x.2,iN q.off,iN q.er] 102::.row 97 11 (ro) (op.length) (xo)::.row 179 13 (rv) (x.1.length) (xv)::(AR++bs)) W) :
 Calls prg 99 #[.pointer (some ⟨b,0,none⟩),.int .u8 op8.toNat] W (Get w0 bs b l tp tc H (betP l op8 ⟨q,op,x,true,dn⟩)):=by
 have hq:q.i<l.length:=Wq.i;have hnx2:q.i+1<l.length:=hnx;have hcap:=K.rep.cap;obtain ⟨hn1,hn2⟩:=wf_len Wq K.few;dsimp only at hn1 hn2;have hv1:1<=x.1.length:=by have:=Wq.vs;dsimp only at this;rw [this];exact Nat.le_add_left _ _
 obtain ⟨vs,bd⟩:=x;dsimp only at hv1 hn2;obtain ⟨v,V,rfl⟩:=list1 hv1;dsimp only [List.length_cons] at hn2;obtain ⟨yr,t0,t1,t2,e4,VS1,V1⟩:=VR.inv S.vls;try dsimp only at e4
 subst e4;have hlv:=VS1.len;refine enterS func99 rfl ntmps99 rfl s ?_;refine Sx.rowCase (size:=13) (r:=rv) (e:=179) mem2 (Nat.succ_pos _) λg2 c2 e hkc2=>?_;subst e;try dsimp only [List.length_cons] at hkc2
 dsimp only [List.length_cons];refine .sm Z<|.yw (.build Z (Fx.bld97_0_1_3 _ _ _))<|.al Fx.zero97 Z λb4=>.sX .head Z Z Fx.size97 Z<|.nt<|.sq<|.bk<|.sm Z<|.yw (.leq Z Z)<|.aq Z<|.cd Z (λh8=>?_) (λh8=>?_)
 ·have h13:op8<=13:=by rw [UInt8.le_iff_toNat_le];have:=Al_of_decide_eq_true h8;show op8.toNat<=13;omega
  have h16:¬ (16:UInt8)<=op8:=λe=>by rw [UInt8.le_iff_toNat_le] at e h13;have e1:(16:UInt8).toNat=16:=rfl;have e2:(13:UInt8).toNat=13:=rfl;omega
  refine .rg<|.fA Z Fx.field97_1<|.st .head Z Z Fx.size3 Z (nb Z) Z<|.nl<|.bN<|.tN<|.sq<|.fL 13 [(0,0),(1,0),(2,0),(3,0),(4,0),(5,0),(6,0),(7,0),(8,0),(9,0),(10,0),(11,0),(12,0)]<|.mv Z<|.nC Z<|.fA Z Fx.field102_3<|.lD Z Fx.agg100 mem1 Z<|.mv Z<|.nC Z<|.fA Z Fx.field102_3<|.lD Z Fx.agg100 mem1 Z<|.yw (.lenSl Fx.sl100 Z)<|.yw (.sub Z Z (c:=((V.length:Nat):Int)) ((w6 (by omega)).trans (by omega)))<|.yw (.indexSl Fx.sl100 Z Z (i:=V.length) Z (by omega) (q:=V.length * 13) (by omega))<|.fA Z Fx.field179_1<|.yw (.loadR1 Z Fx.agg4 mem3 (app_at hlv Z))<|.fn (tl:=[_]) Z<|.aq Z<|.sq<|.sr<|.fA Z Fx.field97_0<|.lD Z Fx.agg95 Hm Z<|.yw (.cast (.eql Z Z) (congrArg Value.bool (Al_decide_eq_false (by decide))))<|.nt<|.cF Z<|.rg<|.mv Z<|.fA Z Fx.field97_1<|.lD Z Fx.agg3 Hm Z<|.cs (X:=Hp × Value × Value × List Value × List Value × List Res) Fx.call102 Z (λW s=>reduce_f K Wq S 8 (by omega) (St.mid (a:=[_,_,_]) (d:=[_]) (s.pickT (hd:=[_,_,_,_]) (tl:=(AR++bs)) (hd':=[_,_,_,_]) [1,2,3,0] Z Z))) Z λz9 hz9=>?_
  obtain ⟨H1,ro,rv,xo,xv,AR⟩:=z9;obtain ⟨u1,S⟩:=hz9;dsimp only at u1 S|-;refine Sx.reSt (λW s=>St.mid (a:=[_,_,_]) (d:=AR) (c:=[_]) s) ?_;obtain ⟨op7,x7,e7⟩:∃ op7 x7,redP 8 (⟨q,op,(v::V,bd),true,dn⟩:Ps)=⟨q,op7,x7,true,dn⟩:=⟨_,_,Z⟩;rw [e7] at S|-;dsimp only at S|-;have W7:Fwf l ⟨q,op7,x7,true,dn⟩:=by rw [<-e7];exact wf_red (by omega) Wq rfl
  obtain ⟨hm1,hm2⟩:=wf_len W7 K.few;dsimp only at hm1 hm2;have hne7:op7≠[]:=W7.ne;refine .nt<|.sq<|.sm Z<|.nt<|.cd Z (λh55=>?_) (λh55=>?_)
  ·have hwh:v.wh=true:=h55;refine .sm Z<|.cs (X:=Unit) Fx.call104 Z (λW s=>fail_f (K.up u1.up) hq 8 (s.pickT (hd:=[_,_,_,_]) (tl:=(AR++bs)) (hd':=[_,_,_,_]) [0,1,2,3] Z Z)) Z λ_ _=>.nt<|.rt<|.tR<|?_
   refine y7 Z .nil rfl λW s=>?_
   have e0:betP l op8 ⟨q,op,(v::V,bd),true,dn⟩=(⟨q,op7,x7,true,dn⟩:Ps).at (q.fail l 8):=by
    unfold betP;rw [Al_if_neg h16,Al_if_pos h13,e7,Al_if_pos];exact hwh
   rw [e0];exact ⟨(_,_,_,_,_,AR),⟨u1,⟨S.ops,S.vls⟩⟩,Z,s.pickT (hd:=[_,_,_,_]) (tl:=(AR++bs)) (hd':=[_,_,_]) [0,1,2] rfl rfl⟩
  have hwh:v.wh=false:=h55;refine .sk<|.tN<|.sm Z<|.nC Z<|.fA Z Fx.field102_1<|.lD Z Fx.agg3 Hm Z<|.yw (.add Z Z (c:=((q.nx.i:Nat):Int)) ((w6 (by omega)).trans (by show _=((q.i+1:Nat):Int);omega)))<|.nC Z<|.fA Z Fx.field102_1<|.st .head Z Z Fx.size3 Z (nb Z) Z<|.nt<|.rg<|.mv Z<|.yw (.loadW Z Fx.agg97 mem3 Z)<|.cs (X:=Option Addr × Nat) Fx.call109 Z (λW s=>push_f (K.up u1.up) hnx (by simp [Value.oneCell',strV]) (Al_Nat_le_trans hm1 (by decide)) (λ_=>S.ops.tm hne7) (s.pickT (hd:=[_,_,_,_]) (tl:=(AR++bs)) (hd':=[_,_,_,_]) [0,1,2,3] Z Z)) Z λp9 _=>.nl<|?_
  refine retN (.inr Z) rfl .nil rfl λW s=>?_
  have e0:betP l op8 ⟨q,op,(v::V,bd),true,dn⟩=pushS ⟨9,8,false,op8,zF⟩ ((⟨q,op7,x7,true,dn⟩:Ps).at q.nx):=by
   unfold betP;rw [Al_if_neg h16,Al_if_pos h13,e7,Al_if_neg];show ¬ (topV (v::V,bd)).wh=true;rw [show (topV (v::V,bd)).wh=false from hwh];decide
  rw [e0];exact ⟨(_,_,_,_,_,AR),⟨u1,⟨.cons S.ops (by show ¬ (9:UInt8)=5;decide) (FmR.zero rfl rfl (Al_Nat_zero_le _) (Al_Nat_zero_le _)),S.vls⟩⟩,Z,s.pickT (hd:=[_,_,_,_]) (tl:=(AR++bs)) (hd':=[_,_,_]) [0,1,2] rfl rfl⟩
 have h13:¬ op8<=13:=λe=>Al_of_decide_eq_false h8 (by rw [UInt8.le_iff_toNat_le] at e;have e2:(13:UInt8).toNat=13:=rfl;omega);refine .sm Z<|.yw (.geq Z Z)<|.aq Z<|.cd Z (λh12=>?_) (λh12=>?_)
 ·have h16:(16:UInt8)<=op8:=by rw [UInt8.le_iff_toNat_le];have:=Al_of_decide_eq_true h12;show 16<=op8.toNat;omega
  refine .rg<|.fA Z Fx.field97_0<|.st .head Z Z Fx.size95 Z (nb Z) Z<|.fA Z Fx.field97_1<|.st .head Z Z Fx.size3 Z (nb Z) Z<|.nl<|.bN<|.tN<|.sq<|.fL 13 [(0,0),(1,0),(2,0),(3,0),(4,0),(5,0),(6,0),(7,0),(8,0),(9,0),(10,0),(11,0),(12,0)]<|.mv Z<|.nC Z<|.fA Z Fx.field102_3<|.lD Z Fx.agg100 mem1 Z<|.mv Z<|.nC Z<|.fA Z Fx.field102_3<|.lD Z Fx.agg100 mem1 Z<|.yw (.lenSl Fx.sl100 Z)<|.yw (.sub Z Z (c:=((V.length:Nat):Int)) ((w6 (by omega)).trans (by omega)))<|.yw (.indexSl Fx.sl100 Z Z (i:=V.length) Z (by omega) (q:=V.length * 13) (by omega))<|.fA Z Fx.field179_1<|.yw (.loadR1 Z Fx.agg4 mem3 (app_at hlv Z))<|.fn (tl:=[_]) Z<|.aq Z<|.sq<|.sr<|.fA Z Fx.field97_0<|.lD Z Fx.agg95 Hm Z<|.yw (.cast (.eql Z Z) (congrArg Value.bool (Al_decide_eq_true (by decide))))<|.nt<|.cT Z<|.sm Z<|.cs (X:=Hp × Value × Value × List Value × List Value × List Res) Fx.call102 Z (λW s=>reduce_f K Wq S 7 (by omega) (St.mid (a:=[_,_,_]) (d:=[_]) (s.pickT (hd:=[_,_,_,_]) (tl:=(AR++bs)) (hd':=[_,_,_,_]) [1,2,3,0] Z Z))) Z λz9 hz9=>?_
  obtain ⟨H1,ro,rv,xo,xv,AR⟩:=z9;obtain ⟨u1,S⟩:=hz9;dsimp only at u1 S|-;refine Sx.reSt (λW s=>St.mid (a:=[_,_,_]) (d:=AR) (c:=[_]) s) ?_;obtain ⟨op7,x7,e7⟩:∃ op7 x7,redP 7 (⟨q,op,(v::V,bd),true,dn⟩:Ps)=⟨q,op7,x7,true,dn⟩:=⟨_,_,Z⟩;rw [e7] at S|-;dsimp only at S|-;have W7:Fwf l ⟨q,op7,x7,true,dn⟩:=by rw [<-e7];exact wf_red (by omega) Wq rfl
  obtain ⟨hm1,hm2⟩:=wf_len W7 K.few;dsimp only at hm1 hm2;have hne7:op7≠[]:=W7.ne;refine .nt<|.rg<|.mv Z<|.mv Z<|.b2 (λh36=>?_) (λh36=>?_)
  ·have hwh:v.wh=true:=h36;refine .gG<|.gG<|.gG<|.gG<|.gG<|.yw (.pickT Z Z)<|.mv Z<|.gG<|.gG<|.gG<|.gG<|.gG<|.gG<|.yw (.pickT Z Z)<|.aq Z<|.sq<|.sm Z<|.nt<|.cT Z<|.sm Z<|.cs (X:=Unit) Fx.call104 Z (λW s=>fail_f (K.up u1.up) hq 8 (s.pickT (hd:=[_,_,_,_]) (tl:=(AR++bs)) (hd':=[_,_,_,_]) [0,1,2,3] Z Z)) Z λ_ _=>.nt<|.rt<|.tR<|?_
   refine y7 Z .nil rfl λW s=>?_
   have e0:betP l op8 ⟨q,op,(v::V,bd),true,dn⟩=(⟨q,op7,x7,true,dn⟩:Ps).at (q.fail l 8):=by
    unfold betP;rw [Al_if_pos h16,e7,Al_if_pos];show ((topV (v::V,bd)).wh || _ || _)=true;rw [show (topV (v::V,bd)).wh=true from hwh];rfl
   rw [e0];exact ⟨(_,_,_,_,_,AR),⟨u1,⟨S.ops,S.vls⟩⟩,Z,s.pickT (hd:=[_,_,_,_]) (tl:=(AR++bs)) (hd':=[_,_,_]) [0,1,2] rfl rfl⟩
  have hwh:v.wh=false:=h36;obtain ⟨o7,r7,rfl⟩:=list1 (l:=op7) (by cases op7 with | nil=>exact (hne7 rfl).elim | cons a t=>exact Nat.succ_pos _);dsimp only [List.length_cons] at hm1;obtain ⟨xr,s1,s2,e2,hlo,ho1,ho2⟩:=Ops.top S.ops;try dsimp only at e2
  subst e2;refine Sx.rowCase (size:=11) (r:=ro) (e:=97) mem1 (Nat.succ_pos _) λg c e hkc=>?_;subst e;refine .gy (.move Z)<|.gd Z Z<|.cs (X:=Unit) Fx.call105 Z (λW s=>top_f (K.up u1.up) hq (g:=g) (k:=r7.length) (c:=c) (by omega) (s.pickT (hd:=[_,_,_,_]) (tl:=(AR++bs)) (hd':=[_,_,_,_]) [0,1,2,3] Z Z)) Z λ_ _=>.gy (.nilCheck Z)<|.gy (.fieldAddr Z Fx.field97_2)<|.gy (.loadR1 Z Fx.agg4 mem1 (app_at hlo Z))<|.yw (.pickF Z Z)<|.mv Z<|.b2 (λh43=>?_) (λh43=>?_)
  ·have htm:o7.tm=true:=h43;refine .gG<|.gG<|.gG<|.gG<|.gG<|.gG<|.yw (.pickT Z Z)<|.aq Z<|.sq<|.sm Z<|.nt<|.cT Z<|.sm Z<|.cs (X:=Unit) Fx.call104 Z (λW s=>fail_f (K.up u1.up) hq 8 (s.pickT (hd:=[_,_,_,_]) (tl:=(AR++bs)) (hd':=[_,_,_,_]) [0,1,2,3] Z Z)) Z λ_ _=>.nt<|.rt<|.tR<|?_
   refine y7 Z .nil rfl λW s=>?_
   have e0:betP l op8 ⟨q,op,(v::V,bd),true,dn⟩=(⟨q,o7::r7,x7,true,dn⟩:Ps).at (q.fail l 8):=by
    unfold betP;rw [Al_if_pos h16,e7,Al_if_pos];show (_ || (topO (⟨q,o7::r7,x7,true,dn⟩:Ps)).tm || _)=true;rw [show (topO (⟨q,o7::r7,x7,true,dn⟩:Ps)).tm=true from htm,Bool.or_true];rfl
   rw [e0];exact ⟨(_,_,_,_,_,AR),⟨u1,⟨S.ops,S.vls⟩⟩,Z,s.pickT (hd:=[_,_,_,_]) (tl:=(AR++bs)) (hd':=[_,_,_]) [0,1,2] rfl rfl⟩
  have htm:o7.tm=false:=h43;refine .gy (.move Z)<|.gd Z Z<|.cs (X:=Unit) Fx.call105 Z (λW s=>top_f (K.up u1.up) hq (g:=g) (k:=r7.length) (c:=c) (by omega) (s.pickT (hd:=[_,_,_,_]) (tl:=(AR++bs)) (hd':=[_,_,_,_]) [0,1,2,3] Z Z)) Z λ_ _=>.gy (.nilCheck Z)<|.gy (.fieldAddr Z Fx.field97_0)<|.gy (.loadR1 Z Fx.agg95 mem1 (app_at hlo Z))<|.gy (.eql Z Z)<|.yw (.pickF Z Z)<|.aq Z<|.sq<|.sm Z<|.nt<|.cd Z (λh55=>?_) (λh55=>?_)
  ·have hk8:o7.kd=8:=Al_UInt8_toNat_inj.1 (by have:=Al_of_decide_eq_true h55;show o7.kd.toNat=8;omega);refine .sm Z<|.cs (X:=Unit) Fx.call104 Z (λW s=>fail_f (K.up u1.up) hq 8 (s.pickT (hd:=[_,_,_,_]) (tl:=(AR++bs)) (hd':=[_,_,_,_]) [0,1,2,3] Z Z)) Z λ_ _=>.nt<|.rt<|.tR<|?_
   refine y7 Z .nil rfl λW s=>?_
   have e0:betP l op8 ⟨q,op,(v::V,bd),true,dn⟩=(⟨q,o7::r7,x7,true,dn⟩:Ps).at (q.fail l 8):=by
    unfold betP;rw [Al_if_pos h16,e7,Al_if_pos];show (_ || _ || decide ((topO (⟨q,o7::r7,x7,true,dn⟩:Ps)).kd=8))=true;rw [Al_decide_eq_true (show (topO (⟨q,o7::r7,x7,true,dn⟩:Ps)).kd=8 from hk8),Bool.or_true]
   rw [e0];exact ⟨(_,_,_,_,_,AR),⟨u1,⟨S.ops,S.vls⟩⟩,Z,s.pickT (hd:=[_,_,_,_]) (tl:=(AR++bs)) (hd':=[_,_,_]) [0,1,2] rfl rfl⟩
  have hk8:¬ o7.kd=8:=λe=>Al_of_decide_eq_false h55 (by rw [e];rfl);refine .sk<|.tN<|.sm Z<|.nC Z<|.fA Z Fx.field102_1<|.lD Z Fx.agg3 Hm Z<|.yw (.add Z Z (c:=((q.nx.i:Nat):Int)) ((w6 (by omega)).trans (by show _=((q.i+1:Nat):Int);omega)))<|.nC Z<|.fA Z Fx.field102_1<|.st .head Z Z Fx.size3 Z (nb Z) Z<|.nt<|.rg<|.mv Z<|.yw (.loadW Z Fx.agg97 mem3 Z)<|.cs (X:=Option Addr × Nat) Fx.call109 Z (λW s=>push_f (K.up u1.up) hnx (by simp [Value.oneCell',strV]) (by show r7.length+1<=600001;omega) (λ_=>S.ops.tm hne7) (s.pickT (hd:=[_,_,_,_]) (tl:=(AR++bs)) (hd':=[_,_,_,_]) [0,1,2,3] Z Z)) Z λp9 _=>.nl<|?_
  refine retN (.inr Z) rfl .nil rfl λW s=>?_
  have e0:betP l op8 ⟨q,op,(v::V,bd),true,dn⟩=pushS ⟨8,6,false,op8,zF⟩ ((⟨q,o7::r7,x7,true,dn⟩:Ps).at q.nx):=by
   unfold betP;rw [Al_if_pos h16,e7,Al_if_neg];show ¬ ((topV (v::V,bd)).wh || (topO (⟨q,o7::r7,x7,true,dn⟩:Ps)).tm || decide ((topO (⟨q,o7::r7,x7,true,dn⟩:Ps)).kd=8))=true;rw [show (topV (v::V,bd)).wh=false from hwh,show (topO (⟨q,o7::r7,x7,true,dn⟩:Ps)).tm=false from htm,Al_decide_eq_false (show ¬ (topO (⟨q,o7::r7,x7,true,dn⟩:Ps)).kd=8 from hk8)]
   decide
  rw [e0];exact ⟨(_,_,_,_,_,AR),⟨u1,⟨.cons S.ops (by show ¬ (8:UInt8)=5;decide) (FmR.zero rfl rfl (Al_Nat_zero_le _) (Al_Nat_zero_le _)),S.vls⟩⟩,Z,s.pickT (hd:=[_,_,_,_]) (tl:=(AR++bs)) (hd':=[_,_,_]) [0,1,2] rfl rfl⟩
 have h16:¬ (16:UInt8)<=op8:=λe=>Al_of_decide_eq_false h12 (by rw [UInt8.le_iff_toNat_le] at e;have e2:(16:UInt8).toNat=16:=rfl;omega);refine .sk<|.bN<|.tN<|.sq<|.fL 13 [(0,0),(1,0),(2,0),(3,0),(4,0),(5,0),(6,0),(7,0),(8,0),(9,0),(10,0),(11,0),(12,0)]<|.mv Z<|.nC Z<|.fA Z Fx.field102_3<|.lD Z Fx.agg100 mem1 Z<|.mv Z<|.nC Z<|.fA Z Fx.field102_3<|.lD Z Fx.agg100 mem1 Z<|.yw (.lenSl Fx.sl100 Z)<|.yw (.sub Z Z (c:=((V.length:Nat):Int)) ((w6 (by omega)).trans (by omega)))<|.yw (.indexSl Fx.sl100 Z Z (i:=V.length) Z (by omega) (q:=V.length * 13) (by omega))<|.fA Z Fx.field179_1<|.yw (.loadR1 Z Fx.agg4 mem3 (app_at hlv Z))<|.fn (tl:=[_]) Z<|.aq Z<|.sq<|.sr<|.fA Z Fx.field97_0<|.lD Z Fx.agg95 Hm Z<|.yw (.cast (.eql Z Z) (congrArg Value.bool (Al_decide_eq_false (by decide))))<|.nt<|.cF Z<|.rg<|.mv Z<|.fA Z Fx.field97_1<|.lD Z Fx.agg3 Hm Z<|.cs (X:=Hp × Value × Value × List Value × List Value × List Res) Fx.call102 Z (λW s=>reduce_f K Wq S 7 (by omega) (St.mid (a:=[_,_,_]) (d:=[_]) (s.pickT (hd:=[_,_,_,_]) (tl:=(AR++bs)) (hd':=[_,_,_,_]) [1,2,3,0] Z Z))) Z λz9 hz9=>?_
 obtain ⟨H1,ro,rv,xo,xv,AR⟩:=z9;obtain ⟨u1,S⟩:=hz9;dsimp only at u1 S|-;refine Sx.reSt (λW s=>St.mid (a:=[_,_,_]) (d:=AR) (c:=[_]) s) ?_;obtain ⟨op7,x7,e7⟩:∃ op7 x7,redP 7 (⟨q,op,(v::V,bd),true,dn⟩:Ps)=⟨q,op7,x7,true,dn⟩:=⟨_,_,Z⟩;rw [e7] at S|-;dsimp only at S|-;have W7:Fwf l ⟨q,op7,x7,true,dn⟩:=by rw [<-e7];exact wf_red (by omega) Wq rfl
 obtain ⟨hm1,hm2⟩:=wf_len W7 K.few;dsimp only at hm1 hm2;have hne7:op7≠[]:=W7.ne;refine .nt<|.sq<|.sm Z<|.nt<|.cd Z (λh55=>?_) (λh55=>?_)
 ·have hwh:v.wh=true:=h55;refine .sm Z<|.cs (X:=Unit) Fx.call104 Z (λW s=>fail_f (K.up u1.up) hq 8 (s.pickT (hd:=[_,_,_,_]) (tl:=(AR++bs)) (hd':=[_,_,_,_]) [0,1,2,3] Z Z)) Z λ_ _=>.nt<|.rt<|.tR<|?_
  refine y7 Z .nil rfl λW s=>?_
  have e0:betP l op8 ⟨q,op,(v::V,bd),true,dn⟩=(⟨q,op7,x7,true,dn⟩:Ps).at (q.fail l 8):=by
   unfold betP;rw [Al_if_neg h16,Al_if_neg h13,e7,Al_if_pos];exact hwh
  rw [e0];exact ⟨(_,_,_,_,_,AR),⟨u1,⟨S.ops,S.vls⟩⟩,Z,s.pickT (hd:=[_,_,_,_]) (tl:=(AR++bs)) (hd':=[_,_,_]) [0,1,2] rfl rfl⟩
 have hwh:v.wh=false:=h55;refine .sk<|.tN<|.sm Z<|.nC Z<|.fA Z Fx.field102_1<|.lD Z Fx.agg3 Hm Z<|.yw (.add Z Z (c:=((q.nx.i:Nat):Int)) ((w6 (by omega)).trans (by show _=((q.i+1:Nat):Int);omega)))<|.nC Z<|.fA Z Fx.field102_1<|.st .head Z Z Fx.size3 Z (nb Z) Z<|.nt<|.rg<|.mv Z<|.yw (.loadW Z Fx.agg97 mem3 Z)<|.cs (X:=Option Addr × Nat) Fx.call109 Z (λW s=>push_f (K.up u1.up) hnx (by simp [Value.oneCell',strV]) (Al_Nat_le_trans hm1 (by decide)) (λ_=>S.ops.tm hne7) (s.pickT (hd:=[_,_,_,_]) (tl:=(AR++bs)) (hd':=[_,_,_,_]) [0,1,2,3] Z Z)) Z λp9 _=>.nl<|?_
 refine retN (.inr Z) rfl .nil rfl λW s=>?_
 have e0:betP l op8 ⟨q,op,(v::V,bd),true,dn⟩=pushS ⟨9,7,false,op8,zF⟩ ((⟨q,op7,x7,true,dn⟩:Ps).at q.nx):=by
  unfold betP;rw [Al_if_neg h16,Al_if_neg h13,e7,Al_if_neg];show ¬ (topV (v::V,bd)).wh=true;rw [show (topV (v::V,bd)).wh=false from hwh];decide
 rw [e0];exact ⟨(_,_,_,_,_,AR),⟨u1,⟨.cons S.ops (by show ¬ (9:UInt8)=5;decide) (FmR.zero rfl rfl (Al_Nat_zero_le _) (Al_Nat_zero_le _)),S.vls⟩⟩,Z,s.pickT (hd:=[_,_,_,_]) (tl:=(AR++bs)) (hd':=[_,_,_]) [0,1,2] rfl rfl⟩
theorem Fx.agg31:aggN prg 31=some none:=by kernel_rfl
theorem Fx.call74:callN prg 74=true:=by kernel_rfl
theorem Fx.field35_0:fieldN prg 35 0=some 0:=by kernel_rfl
theorem Fx.call156:callN prg 156=true:=by kernel_rfl
theorem Fx.field35_5:fieldN prg 35 5=some 5:=by kernel_rfl
theorem Fx.field102_5:fieldN prg 102 5=some 5:=by kernel_rfl
theorem Fx.bld179_1_3 (x1:Bool) (x30 x31 x32 x33 x34 x35 x36:Value):buildN prg 179 [(1,.bool x1),(3,.agg [x30,x31,x32,x33,x34,x35,x36].toArray)]=some [.bool false,.bool x1,.int .u8 0,.string ⟨#[]⟩,.int .i64 0,.slice none 0 0,x30,x31,x32,x33,x34,x35,x36]:=by kernel_rfl
theorem Fx.bld76_0_1_3 (x0:Int) (x1:ByteArray) (x3p:Option Addr) (x3n x3c:Nat):buildN prg 76 [(0,.int .u8 x0),(1,.string x1),(3,.slice x3p x3n x3c)]=some [.int .u8 x0,.string x1,.int .i64 0,.slice x3p x3n x3c]:=by kernel_rfl
theorem Fx.agg165:aggN prg 165=some (some 22):=by kernel_rfl
theorem Fx.are165:arrE prg 165=true:=by kernel_rfl
theorem Fx.arr165:arrN prg 165=some (22,1):=by kernel_rfl
theorem Fx.call99:callN prg 99=true:=by kernel_rfl
theorem Fx.call101:callN prg 101=true:=by kernel_rfl
theorem Fx.call103:callN prg 103=true:=by kernel_rfl
theorem Fx.call131:callN prg 131=true:=by kernel_rfl
theorem i0 {n:Int64} :decide (n.toInt=0)=decide (n=0):=by
 rw [Al_Bool_eq_iff_iff,Al_decide_eq_true_eq,Al_decide_eq_true_eq];exact ⟨λh=>Al_Int64_toInt_inj.1 h,λh=>by rw [h];rfl⟩
variable {n:Nat}
theorem n0:decide (((n:Nat):Int)=((k:Nat):Int))=decide (n=k):=by rw [Al_Bool_eq_iff_iff,Al_decide_eq_true_eq,Al_decide_eq_true_eq];omega
theorem any_take {l:List Ex} {p:Ex->Bool} (hk:k<l.length) (h:(l.take k).any p=false) (hp:p l[k]=false):(l.take (k+1)).any p=false:=by
 rw [List.take_succ,List.any_append,h,List.getElem?_eq_getElem hk];simp [hp]
def ixV (l:List Ex) (p:Ex->Bool):Int:=match l.findIdx? p with | some i=>(i:Int) | none=>-1
theorem ix_at {l:List Ex} {p:Ex->Bool} (hk:k<l.length) (h:(l.take k).any p=false) (hp:p l[k]=true):ixV l p=(k:Int):=by
 unfold ixV
 rw [List.findIdx?_eq_some_iff_getElem.2 ⟨hk,hp,λj hj=>by
  have hm:l[j]∈l.take k:=List.mem_take_iff_getElem.2 ⟨j,by omega,Z⟩;have:=List.any_eq_false.1 h _ hm;exact this⟩]
theorem ix_no {l:List Ex} {p:Ex->Bool} (h:l.any p=false):ixV l p=-1:=by
 unfold ixV;rw [List.findIdx?_eq_none_iff.2 λx hx=>by have:=List.any_eq_false.1 h x hx;simpa using this]
theorem ix_any {l:List Ex} {p:Ex->Bool} :decide (0<=ixV l p)=l.any p:=by
 unfold ixV;cases h:l.findIdx? p with
 | some i =>
  obtain ⟨hi,hp,_⟩:=List.findIdx?_eq_some_iff_getElem.1 h;rw [Al_List_any_eq_true.2 ⟨_,Al_List_getElem_mem hi,hp⟩];exact Al_decide_eq_true (by show (0:Int)<=(i:Int);omega)
 | none =>
  rw [List.any_eq_false.2 λx hx=>by have:=List.findIdx?_eq_none_iff.1 h x hx;rw [this];decide];rfl
theorem any_mk {op:UInt8} {nm:Str} {n:Int64} {args:List Ex} :anyB (.mk op nm n args)=(decide (op=0) && decide (nm=[]) && decide (n=0) && decide (args.length=0)):=rfl
def EFn (H:Hp) (gf:FuncId) (ca:List Value) (p:Ex->Bool) (e:Ex):Prop:=∀ (cs:List Value) (W:World),Rep H (dEx .u8 e) cs->Agr H W->Calls prg gf (.agg cs.toArray::ca).toArray W λr W'=>r=.returned (.bool (p e))/\Ext W W'
variable {c:Nat}
theorem index_any (H:Hp) (gf:FuncId) (ca:List Value) (p:Ex->Bool) (l:List Ex) {pp:Option Addr} (hs:Rep H (.seq 4 (l.map (dEx .u8))) [.slice pp l.length c]) (hf:callN prg gf=true) (hg:∀ e∈l,EFn H gf ca p e) (w:World) (hA:Agr H w) :
 Calls prg 131 #[.slice pp l.length c,.func (.func gf) #[] ca.toArray] w λr w'=>r=.returned (.int .i64 (ixV l p))/\Ext w w':=by
 have hcap:=hs.cap;refine Sx.enter (H:=H) func131 rfl ntmps131 rfl hA ?_;refine .sr<|.aq Z<|.sq<|.sm Z<|.yw (.lenSl Fx.sl32 Z)<|.mv Z<|.nt<|.bk<|.lp (X:=Nat) [(0,_),(1,_),(7,_)] ⟨Z,Z,Z,Jt⟩ [] (λk=>[(8,iN k)]) (λk=>H) (λk=>[]) (λk=>k<=l.length/\(l.take k).any p=false) (λk=>l.length - k) 0 (λ_ s=>s) ⟨Z,Jt⟩ ⟨Al_Nat_zero_le _,Z⟩ λk hC=>?_
 obtain ⟨hk0,hal⟩:=hC;refine .sr<|.yw (.lss Z Z)<|.nt<|.sq<|.ce Z (λh9=>?_) (λh9=>?_)
 ·have hk:k<l.length:=by omega
  obtain ⟨bE,oE,cE,hpE,rE,lE,mE⟩:=hs.elem (map_at (f:=dEx .u8) hk);cases hpE;refine .sk<|.tN<|.sq<|.bk<|.sm Z<|.a Z Z<|.ns<|.mv Z<|.mv Z<|.mv Z<|.yw (.indexSl Fx.sl32 Z Z Z (by omega) (q:=oE+k * 4) Z)<|.yw (.loadMW Z Fx.agg76 mE lE)<|.yw (.callV (fi:=[]) Z hf Z (λW s=>hg _ (Al_List_getElem_mem hk) cE W rE s.agr))<|.nt<|.cd Z (λh16=>?_) (λh16=>?_)
  ·refine .sm Z<|.az Z<|.bR<|.tR<|.tR<|.bR<|.tR<|?_
   refine y9 Z Z λW s=>⟨?_,s.ext⟩
   first
    | (rw [ix_at hk hal h16])
    | (rw [ix_no hal])
  exact .sk<|.bN<|.tN<|.rg<|.yw (.add Z Z w7)<|.mv Z<|.nt<|.ag (k+1) ⟨Z,Jt⟩ ⟨Z,Z,Z,Jt⟩ (λ_ s=>s) ⟨by omega,any_take hk hal h16⟩ (by omega)
 obtain rfl:k=l.length:=by omega
 rw [Al_List_take_length] at hal;refine .ex<|.eb<|.sr<|.az Z<|?_
 refine y9 Z Z λW s=>⟨?_,s.ext⟩
 first
  | (rw [ix_at hk hal h16])
  | (rw [ix_no hal])
theorem contains_any (H:Hp) (gf:FuncId) (ca:List Value) (p:Ex->Bool) (l:List Ex) {pp:Option Addr} (hs:Rep H (.seq 4 (l.map (dEx .u8))) [.slice pp l.length c]) (hf:callN prg gf=true) (hg:∀ e∈l,EFn H gf ca p e) (w:World) (hA:Agr H w) :
 Calls prg 71 #[.slice pp l.length c,.func (.func gf) #[] ca.toArray] w λr w'=>r=.returned (.bool (l.any p))/\Ext w w':=by
 refine Sx.enter (H:=H) func71 rfl ntmps71 rfl hA ?_;refine .sr<|.a Z Z<|.ns<|.mv Z<|.mv Z<|.yw (.call (v:=.int .i64 (ixV l p)) Fx.call131 Z (λW s=>index_any H gf ca p l hs hf hg W s.agr))<|.yw (.cast (.geq Z Z) (congrArg Value.bool ix_any))<|.az Z<|?_
 exact y9 Z Z λW s=>⟨Z,s.ext⟩
theorem isAny_any (H:Hp) (e:Ex) (cs:List Value) (w:World) (h:Rep H (dEx .u8 e) cs) (hA:Agr H w):Calls prg 78 #[.agg cs.toArray] w λr w'=>r=.returned (.bool (anyB e))/\Ext w w':=by
 obtain ⟨op,nm,nn,args⟩:=e;obtain ⟨pp,c,rfl,hs,hnm⟩:=ex_open h;refine Sx.enter (H:=H) func78 rfl ntmps78 rfl hA ?_;refine .sr<|.bx Z Z Z λb1=>.a Z Z<|.ns<|.fA Z Fx.field76_0<|.lD Z Fx.agg74 Hm Z<|.yw (.cast (.eql Z Z) (congrArg Value.bool k80))<|.mv Z<|.b2 (λh6=>?_) (λh6=>?_)
 ·refine .gy (.fieldAddr Z Fx.field76_1)<|.gy (.load Z Fx.agg9 Hm Z)<|.gy (.eqS Z Z)<|.yw (.pickT Z Z)<|.mv Z<|.b2 (λh11=>?_) (λh11=>?_)
  ·refine .gy (.fieldAddr Z Fx.field76_2)<|.gy (.load Z Fx.agg2 Hm Z)<|.gy (.cast (.eql Z Z) (congrArg Value.bool i0))<|.yw (.pickT Z Z)<|.mv Z<|.b2 (λh16=>?_) (λh16=>?_)
   ·refine .gy (.fieldAddr Z Fx.field76_3)<|.gy (.load Z Fx.agg32 Hm Z)<|.gy (.lenSl Fx.sl32 Z)<|.gy (.cast (.eql Z Z) (congrArg Value.bool er0))<|.yw (.pickT Z Z)<|.az Z<|?_
    refine y9 Z Z λW s=>⟨?_,s.ext⟩
    first
     | (rw [any_mk,h6,h11,h16,Al_Bool_true_and,Al_Bool_true_and,Al_Bool_true_and])
     | (rw [any_mk,h6,h11,h16];rfl)
     | (rw [any_mk,h6,h11];rfl)
     | (rw [any_mk,h6];rfl)
   refine .gG<|.gG<|.gG<|.gG<|.yw (.pickF Z Z)<|.az Z<|?_
   refine y9 Z Z λW s=>⟨?_,s.ext⟩
   first
    | (rw [any_mk,h6,h11,h16,Al_Bool_true_and,Al_Bool_true_and,Al_Bool_true_and])
    | (rw [any_mk,h6,h11,h16];rfl)
    | (rw [any_mk,h6,h11];rfl)
    | (rw [any_mk,h6];rfl)
  refine .gG<|.gG<|.gG<|.yw (.pickF Z Z)<|.mv Z<|.gG<|.gG<|.gG<|.gG<|.yw (.pickF Z Z)<|.az Z<|?_
  refine y9 Z Z λW s=>⟨?_,s.ext⟩
  first
   | (rw [any_mk,h6,h11,h16,Al_Bool_true_and,Al_Bool_true_and,Al_Bool_true_and])
   | (rw [any_mk,h6,h11,h16];rfl)
   | (rw [any_mk,h6,h11];rfl)
   | (rw [any_mk,h6];rfl)
 refine .gG<|.gG<|.gG<|.yw (.pickF Z Z)<|.mv Z<|.gG<|.gG<|.gG<|.yw (.pickF Z Z)<|.mv Z<|.gG<|.gG<|.gG<|.gG<|.yw (.pickF Z Z)<|.az Z<|?_
 refine y9 Z Z λW s=>⟨?_,s.ext⟩
 first
  | (rw [any_mk,h6,h11,h16,Al_Bool_true_and,Al_Bool_true_and,Al_Bool_true_and])
  | (rw [any_mk,h6,h11,h16];rfl)
  | (rw [any_mk,h6,h11];rfl)
  | (rw [any_mk,h6];rfl)
theorem Fx.call78:callN prg 78=true:=by kernel_rfl
theorem Fx.call79:callN prg 79=true:=by kernel_rfl
theorem Fx.call132:callN prg 132=true:=by kernel_rfl
end Go.Proofs.YtidclioghdbphaaGreatDoor
