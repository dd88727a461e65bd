/- Texts of the proof, one behind the other. -/
import Derived.Test.YtidclioghdbphaaGreatDoorMg
import Derived.Test.YtidclioghdbphaaGreatDoorTie
import Derived.ProofKit
import Derived.OpenShut
import Derived.ShutString
import Derived.Lay
import Derived.Stop.LaidErr
import Derived.Stop.Joined
import Derived.Shelf.Vars
import Derived.Lib.LaidTab
import Derived.Lib.SmallJoins
import Derived.SevenTiedAt
import Derived.Test.YtidclioghdbphaaGreatDoorCards
set_option linter.all false
set_option maxRecDepth 100000
namespace Go.Proofs.YtidclioghdbphaaGreatDoor
open Go.RowKit Go.Par Go.Sx _root_.Go.Proofs.Tryz
def symP (t:Str) (i:Nat):Bool:=decide (fsyms.getD i []=t) && decide (¬ i=0)
variable {k:Nat}
theorem symF_some {t:Str} (hk:k<22) (h:symP t k=true) (hp:∀ j,j<k->symP t j=false):symF t=some k:=List.find?_range_eq_some.2 ⟨h,Al_List_mem_range.2 hk,λj hj=>by
 have:=hp j hj;unfold symP at this;rw [this];rfl⟩
theorem all_succ {p:Nat->Prop} (h:∀ j,j<k->p j) (hk:p k):∀ j,j<k+1->p j:=λj hj=>by
 by_cases e:j=k
 ·rw [e];exact hk
 ·exact h j (by omega)
theorem symF_none {t:Str} (hp:∀ j,j<22->symP t j=false):symF t=none:=List.find?_range_eq_none.2 λj hj=>by
 have:=hp j hj;unfold symP at this;rw [this];rfl
theorem u8_of (h:k<256):IntKind.u8.wrap (k:Int)=(((UInt8.ofNat k).toNat:Nat):Int):=by
 have key:∀ i∈List.range 256,IntKind.u8.wrap (i:Int)=(i:Int):=by decide +kernel
 rw [key k (Al_List_mem_range.2 h),Al_UInt8_toNat_ofNat_of_lt' h]
variable {H:Hp} {w0 W:World} {bs AR:List Res} {b tc:Nat} {tp:Option Addr} {ro rv:Value} {xo xv:List Value} {q:Rq}
set_option maxHeartbeats 2000000 in
theorem operator_f {l:Tks} {op:List Ov} {x:Vb} {dn:Bool} (K:Tkf H l tp tc) (Wq:Fwf l ⟨q,op,x,true,dn⟩) (S:Sq H ⟨q,op,x,true,dn⟩ xo xv AR) (G:Gf H) (h0:q.er=0) (FE:Fex (⟨q,op,x,true,dn⟩:Ps)) (s:St H w0 (.box b [.slice tp l.length tc,iN q.i,ro,rv,.bool true,.bool dn,.bool x.2,iN q.off,iN q.er] 102::.row 97 11 (ro) (op.length) (xo)::.row 179 13 (rv) (x.1.length) (xv)::(AR++bs)) W) :
 Calls prg 55 #[.pointer (some ⟨b,0,none⟩)] W (Get w0 bs b l tp tc H (operatorP l ⟨q,op,x,true,dn⟩)):=by
 have hq:q.i<l.length:=Wq.i;have hcap:=K.rep.cap;refine enterS func55 rfl ntmps55 rfl s ?_;refine .sm Z<|.cs (X:=Unit) Fx.call98 Z (λW s=>token_f K hq  (s.pickT (hd:=[_,_,_]) (tl:=(AR++bs)) (hd':=[_,_,_]) [0,1,2] Z Z)) Z λ_ _=>.al Fx.zero108 Z λb2=>.sW .head Z Z Fx.size108 (by simp [cTk,Value.oneCell',strV]) Z<|.nt<|.sq<|.cu (X:=Bool) [(0,_),(2,_)] ⟨Z,Z,Jt⟩ (λz=>[(14,.bool z)]) (λz=>H) (λz=>(.box b2 (cTk .u8 (tkf l q.i)) 108::.box b [.slice tp l.length tc,iN q.i,ro,rv,.bool true,.bool dn,.bool x.2,iN q.off,iN q.er] 102::.row 97 11 (ro) (op.length) (xo)::.row 179 13 (rv) (x.1.length) (xv)::(AR++bs))) (λz=>z=(decide ((tkf l q.i).k=2) || decide ((tkf l q.i).k=4))) ?_ λz hC=>?_
 ·
  refine .rg<|.fA Z Fx.field108_0<|.lD Z Fx.agg106 Hm Z<|.yw (.eql Z Z)<|.mv Z<|.b2 (λh10=>?_) (λh10=>?_)
  ·exact .gG<|.gG<|.gG<|.yw (.pickT Z Z)<|.nt<|.me _ ⟨Z,Jt⟩ ⟨Z,Z,Jt⟩ (λ_ s=>s) (by first | (rw [<-k82,<-k84,h11,Bool.true_or]) | (rw [<-k82,<-k84,h11,Al_Bool_false_or]) | (rw [<-k82,<-k84,h10,Bool.true_or]) | (rw [<-k82,<-k84,h10,Al_Bool_false_or]))
  exact .gy (.fieldAddr Z Fx.field108_0)<|.gy (.load Z Fx.agg106 Hm Z)<|.gy (.eql Z Z)<|.yw (.pickF Z Z)<|.nt<|.me _ ⟨Z,Jt⟩ ⟨Z,Z,Jt⟩ (λ_ s=>s) (by first | (rw [<-k82,<-k84,h11,Bool.true_or]) | (rw [<-k82,<-k84,h11,Al_Bool_false_or]) | (rw [<-k82,<-k84,h10,Bool.true_or]) | (rw [<-k82,<-k84,h10,Al_Bool_false_or]))
 have e14:=hC;refine .cd Z (λh14=>?_) (λh14=>?_)
 ·have hk24:(tkf l q.i).k=2\/(tkf l q.i).k=4:=by
   rw [h14] at e14;rcases Al_Bool_or_eq_true _ _ |>.mp e14.symm with h | h
   ·exact .inl (Al_of_decide_eq_true h)
   ·exact .inr (Al_of_decide_eq_true h)
  refine .sr<|.yw (.loadMW Z Fx.agg165 G.syms Z)<|.mv Z<|.nt<|.bk<|.lp (X:=Nat) [(0,_),(2,_),(15,_)] ⟨Z,Z,Z,Jt⟩ ((AR++bs)) (λk=>[(16,iN k)]) (λk=>H) (λk=>[.box b2 (cTk .u8 (tkf l q.i)) 108,.box b [.slice tp l.length tc,iN q.i,ro,rv,.bool true,.bool dn,.bool x.2,iN q.off,iN q.er] 102,.row 97 11 (ro) (op.length) (xo),.row 179 13 (rv) (x.1.length) (xv)]) (λk=>k<=22/\∀ j,j<k->symP (tkf l q.i).t j=false) (λk=>22 - k) 0 (λ_ s=>s) ⟨Z,Jt⟩ ⟨by decide,λj h=>by omega⟩ λk hC=>?_
  obtain ⟨hk0,hpk⟩:=hC;refine .sr<|.yw (.lss Z Z)<|.nt<|.sq<|.ce Z (λh17=>?_) (λh17=>?_)
  ·have hk:k<22:=by omega
   refine .sk<|.tN<|.sq<|.bk<|.sm Z<|.yw (.idxA Fx.arr165 Fx.are165 Z Z Z (by omega) (list_at (by show k<22;omega) []))<|.a Z Z<|.a Z Z<|.ns<|.mv Z<|.fA Z Fx.field108_1<|.lD Z Fx.agg9 Hm Z<|.yw (.eqS Z Z)<|.mv Z<|.b2 (λh24=>?_) (λh24=>?_)
   ·have q24:fsyms.getD k []=(tkf l q.i).t:=Al_of_decide_eq_true h24;refine .gy (.move Z)<|.gy (.neq Z Z)<|.yw (.pickT Z Z)<|.nt<|.cd Z (λh27=>?_) (λh27=>?_)
    ·have hyk:symP (tkf l q.i).t k=true:=by unfold symP;rw [Al_decide_eq_true q24,Al_decide_eq_true (show ¬ k=0 by have:=Al_of_decide_eq_true h27;omega)];rfl
     have hsy:q.sym l=some k:=by unfold Rq.sym;rw [Al_if_pos hk24];exact symF_some hk hyk hpk
     have hac:=(sym_ac K.gd.last h0 hsy).1;refine .sm Z<|.mv Z<|.yw (.conv Z Fx.int3 Fx.int5 (c:=(((UInt8.ofNat k).toNat:Nat):Int)) (u8_of (by omega)))<|.cs (X:=Hp × Value × Value × List Value × List Value × List Res) Fx.call99 Z (λW s=>between_f K Wq S (UInt8.ofNat k) (wi_ac K.gd.last hq hac) (St.mid (a:=[_,_,_]) (d:=[_]) (s.pickT (hd:=[_,_,_,_]) (tl:=(AR++bs)) (hd':=[_,_,_,_]) [1,2,3,0] Z Z))) Z λz9 hz9=>?_
     obtain ⟨H1,ro,rv,xo,xv,AR⟩:=z9;obtain ⟨u1,S⟩:=hz9;dsimp only at u1 S|-;refine Sx.reSt (λW s=>St.mid (a:=[_,_,_]) (d:=AR) (c:=[_]) s) ?_;refine .zR<|.tR<|.bR<|.tR<|?_
     refine y7 Z .nil rfl λW s=>?_;have e0:operatorP l (⟨q,op,x,true,dn⟩:Ps)=betP l (UInt8.ofNat k) (⟨q,op,x,true,dn⟩:Ps):=by unfold operatorP;rw [hsy]
     rw [e0];exact ⟨(_,_,_,_,_,AR),⟨u1,⟨S.ops,S.vls⟩⟩,Z,s.pickT (hd:=[_,_,_,_]) (tl:=(AR++bs)) (hd':=[_,_,_]) [0,1,2] rfl rfl⟩
    have hnk:symP (tkf l q.i).t k=false:=by unfold symP;rw [Al_decide_eq_false (show ¬ ¬ k=0 by have:=Al_of_decide_eq_false h27;omega),Bool.and_false]
    exact .sk<|.bN<|.tN<|.rg<|.yw (.add Z Z w7)<|.mv Z<|.nt<|.ag (k+1) ⟨Z,Jt⟩ ⟨Z,Z,Z,Jt⟩ (λ_ s=>s) ⟨by omega,all_succ hpk hnk⟩ (by omega)
   have hnk:symP (tkf l q.i).t k=false:=by unfold symP;rw [Al_decide_eq_false (Al_of_decide_eq_false h24)];rfl
   exact .gG<|.gG<|.yw (.pickF Z Z)<|.nt<|.cF Z<|.sk<|.bN<|.tN<|.rg<|.yw (.add Z Z w7)<|.mv Z<|.nt<|.ag (k+1) ⟨Z,Jt⟩ ⟨Z,Z,Z,Jt⟩ (λ_ s=>s) ⟨by omega,all_succ hpk hnk⟩ (by omega)
  obtain rfl:k=22:=by omega
  have hsy:q.sym l=none:=by unfold Rq.sym;rw [Al_if_pos hk24];exact symF_none hpk
  refine .ex<|.eb<|.bk<|.cu (X:=Bool) [(0,_),(2,_)] ⟨Z,Z,Jt⟩ (λz=>[(35,.bool z)]) (λz=>H) (λz=>(.box b2 (cTk .u8 (tkf l q.i)) 108::.box b [.slice tp l.length tc,iN q.i,ro,rv,.bool true,.bool dn,.bool x.2,iN q.off,iN q.er] 102::.row 97 11 (ro) (op.length) (xo)::.row 179 13 (rv) (x.1.length) (xv)::(AR++bs))) (λz=>z=q.wrd l) ?_ λz hC=>?_
  ·
   refine .sm Z<|.cs (X:=Unit) Fx.call100 Z (λW s=>is_f K hq [115,105,110,99,101] (s.pickT (hd:=[_,_,_,_]) (tl:=(AR++bs)) (hd':=[_,_,_,_]) [1,0,2,3] Z Z)) Z λ_ _=>.aq Z<|.cd Z (λh35=>?_) (λh35=>?_)
   ·have i1:=h35;exact .sk<|.tN<|.me _ ⟨Z,Jt⟩ ⟨Z,Z,Jt⟩ (λ_ s=>(s.pickT (hd:=[_,_,_,_]) (tl:=(AR++bs)) (hd':=[_,_,_,_]) [1,0,2,3] Z Z)) (by unfold Rq.wrd;first | simp only [i1,i2,i3,Al_Bool_false_or,Bool.true_or,Bool.or_true,Bool.or_false] | simp only [i1,i2,Al_Bool_false_or,Bool.true_or,Bool.or_true] | simp only [i1,Al_Bool_false_or,Bool.true_or,Bool.or_true])
   have i1:=h35;refine .sm Z<|.cs (X:=Unit) Fx.call100 Z (λW s=>is_f K hq [97,110,100] (s.pickT (hd:=[_,_,_,_]) (tl:=(AR++bs)) (hd':=[_,_,_,_]) [0,1,2,3] Z Z)) Z λ_ _=>.aq Z<|.cd Z (λh35=>?_) (λh35=>?_)
   ·have i2:=h35;exact .sk<|.tN<|.me _ ⟨Z,Jt⟩ ⟨Z,Z,Jt⟩ (λ_ s=>(s.pickT (hd:=[_,_,_,_]) (tl:=(AR++bs)) (hd':=[_,_,_,_]) [1,0,2,3] Z Z)) (by unfold Rq.wrd;first | simp only [i1,i2,i3,Al_Bool_false_or,Bool.true_or,Bool.or_true,Bool.or_false] | simp only [i1,i2,Al_Bool_false_or,Bool.true_or,Bool.or_true] | simp only [i1,Al_Bool_false_or,Bool.true_or,Bool.or_true])
   have i2:=h35;refine .sm Z<|.cs (X:=Unit) Fx.call100 Z (λW s=>is_f K hq [111,114] (s.pickT (hd:=[_,_,_,_]) (tl:=(AR++bs)) (hd':=[_,_,_,_]) [0,1,2,3] Z Z)) Z λ_ _=>.aq Z<|.cd Z (λh35=>?_) (λh35=>?_)
   ·have i3:=h35;exact .sk<|.tN<|.me _ ⟨Z,Jt⟩ ⟨Z,Z,Jt⟩ (λ_ s=>(s.pickT (hd:=[_,_,_,_]) (tl:=(AR++bs)) (hd':=[_,_,_,_]) [1,0,2,3] Z Z)) (by unfold Rq.wrd;first | simp only [i1,i2,i3,Al_Bool_false_or,Bool.true_or,Bool.or_true,Bool.or_false] | simp only [i1,i2,Al_Bool_false_or,Bool.true_or,Bool.or_true] | simp only [i1,Al_Bool_false_or,Bool.true_or,Bool.or_true])
   have i3:=h35;exact .rg<|.mv Z<|.cs (X:=Unit) Fx.call100 Z (λW s=>is_f K hq [105,109,112,108,105,101,115] (s.pickT (hd:=[_,_,_,_]) (tl:=(AR++bs)) (hd':=[_,_,_,_]) [0,1,2,3] Z Z)) Z λ_ _=>.aq Z<|.me _ ⟨Z,Jt⟩ ⟨Z,Z,Jt⟩ (λ_ s=>(s.pickT (hd:=[_,_,_,_]) (tl:=(AR++bs)) (hd':=[_,_,_,_]) [1,0,2,3] Z Z)) (by unfold Rq.wrd;first | simp only [i1,i2,i3,Al_Bool_false_or,Bool.true_or,Bool.or_true,Bool.or_false] | simp only [i1,i2,Al_Bool_false_or,Bool.true_or,Bool.or_true] | simp only [i1,Al_Bool_false_or,Bool.true_or,Bool.or_true])
  have ew:=hC;refine .cd Z (λh35=>?_) (λh35=>?_)
  ·have w35:=h35;refine .rg<|.mv Z<|.cs (X:=Hp × Value × Value × List Value × List Value × List Res) Fx.call101 Z (λW s=>join_f K Wq S G h0 (by rw [<-ew];exact w35) (St.mid (a:=[_,_,_]) (d:=[_]) (s.pickT (hd:=[_,_,_,_]) (tl:=(AR++bs)) (hd':=[_,_,_,_]) [1,2,3,0] Z Z))) Z λz9 hz9=>?_
   obtain ⟨H1,ro,rv,xo,xv,AR⟩:=z9;obtain ⟨u1,S⟩:=hz9;dsimp only at u1 S|-;refine Sx.reSt (λW s=>St.mid (a:=[_,_,_]) (d:=AR) (c:=[_]) s) ?_;refine .nl<|.bN<|?_
   refine retN (.inr Z) rfl .nil rfl λW s=>?_;have e0:operatorP l (⟨q,op,x,true,dn⟩:Ps)=othP l (⟨q,op,x,true,dn⟩:Ps):=by unfold operatorP;rw [show q.sym l=none from hsy]
   rw [e0];have e1:othP l (⟨q,op,x,true,dn⟩:Ps)=joiP l (⟨q,op,x,true,dn⟩:Ps):=by unfold othP;exact Al_if_pos (by rw [<-ew];exact w35)
   rw [e1];exact ⟨(_,_,_,_,_,AR),⟨u1,⟨S.ops,S.vls⟩⟩,Z,s.pickT (hd:=[_,_,_,_]) (tl:=(AR++bs)) (hd':=[_,_,_]) [0,1,2] rfl rfl⟩
  have w35:=h35;refine .cu (X:=Bool) [(0,_)] ⟨Z,Jt⟩ (λz=>[(46,.bool z)]) (λz=>H) (λz=>(.box b2 (cTk .u8 (tkf l q.i)) 108::.box b [.slice tp l.length tc,iN q.i,ro,rv,.bool true,.bool dn,.bool x.2,iN q.off,iN q.er] 102::.row 97 11 (ro) (op.length) (xo)::.row 179 13 (rv) (x.1.length) (xv)::(AR++bs))) (λz=>z=q.endB l) ?_ λz hC=>?_
  ·
   refine .sm Z<|.cs (X:=Unit) Fx.call100 Z (λW s=>is_f K hq [41] (s.pickT (hd:=[_,_,_,_]) (tl:=(AR++bs)) (hd':=[_,_,_,_]) [1,0,2,3] Z Z)) Z λ_ _=>.aq Z<|.cd Z (λh46=>?_) (λh46=>?_)
   ·have j1:=h46;exact .sk<|.tN<|.me _ ⟨Z,Jt⟩ ⟨Z,Jt⟩ (λ_ s=>(s.pickT (hd:=[_,_,_,_]) (tl:=(AR++bs)) (hd':=[_,_,_,_]) [1,0,2,3] Z Z)) (by unfold Rq.endB;rw [<-k80];first | simp only [j1,j2,j3,Al_Bool_false_or,Bool.true_or,Bool.or_true,Bool.or_false] | simp only [j1,j2,Al_Bool_false_or,Bool.true_or,Bool.or_true] | simp only [j1,Al_Bool_false_or,Bool.true_or,Bool.or_true])
   have j1:=h46;refine .sm Z<|.cs (X:=Unit) Fx.call100 Z (λW s=>is_f K hq [93] (s.pickT (hd:=[_,_,_,_]) (tl:=(AR++bs)) (hd':=[_,_,_,_]) [0,1,2,3] Z Z)) Z λ_ _=>.aq Z<|.cd Z (λh46=>?_) (λh46=>?_)
   ·have j2:=h46;exact .sk<|.tN<|.me _ ⟨Z,Jt⟩ ⟨Z,Jt⟩ (λ_ s=>(s.pickT (hd:=[_,_,_,_]) (tl:=(AR++bs)) (hd':=[_,_,_,_]) [1,0,2,3] Z Z)) (by unfold Rq.endB;rw [<-k80];first | simp only [j1,j2,j3,Al_Bool_false_or,Bool.true_or,Bool.or_true,Bool.or_false] | simp only [j1,j2,Al_Bool_false_or,Bool.true_or,Bool.or_true] | simp only [j1,Al_Bool_false_or,Bool.true_or,Bool.or_true])
   have j2:=h46;refine .sm Z<|.cs (X:=Unit) Fx.call100 Z (λW s=>is_f K hq [44] (s.pickT (hd:=[_,_,_,_]) (tl:=(AR++bs)) (hd':=[_,_,_,_]) [0,1,2,3] Z Z)) Z λ_ _=>.aq Z<|.cd Z (λh46=>?_) (λh46=>?_)
   ·have j3:=h46;exact .sk<|.tN<|.me _ ⟨Z,Jt⟩ ⟨Z,Jt⟩ (λ_ s=>(s.pickT (hd:=[_,_,_,_]) (tl:=(AR++bs)) (hd':=[_,_,_,_]) [1,0,2,3] Z Z)) (by unfold Rq.endB;rw [<-k80];first | simp only [j1,j2,j3,Al_Bool_false_or,Bool.true_or,Bool.or_true,Bool.or_false] | simp only [j1,j2,Al_Bool_false_or,Bool.true_or,Bool.or_true] | simp only [j1,Al_Bool_false_or,Bool.true_or,Bool.or_true])
   have j3:=h46;exact .rg<|.fA Z Fx.field108_0<|.lD Z Fx.agg106 mem1 Z<|.yw (.eql Z Z)<|.aq Z<|.me _ ⟨Z,Jt⟩ ⟨Z,Jt⟩ (λ_ s=>(s.pickT (hd:=[_,_,_,_]) (tl:=(AR++bs)) (hd':=[_,_,_,_]) [1,0,2,3] Z Z)) (by unfold Rq.endB;rw [<-k80];first | simp only [j1,j2,j3,Al_Bool_false_or,Bool.true_or,Bool.or_true,Bool.or_false] | simp only [j1,j2,Al_Bool_false_or,Bool.true_or,Bool.or_true] | simp only [j1,Al_Bool_false_or,Bool.true_or,Bool.or_true])
  have ee:=hC;refine .cd Z (λh46=>?_) (λh46=>?_)
  ·have w46:=h46;refine .sm Z<|.cs (X:=Hp × Value × Value × List Value × List Value × List Res) Fx.call102 Z (λW s=>reduce_f K Wq S 1 (by omega) (St.mid (a:=[_,_,_]) (d:=[_]) (s.pickT (hd:=[_,_,_,_]) (tl:=(AR++bs)) (hd':=[_,_,_,_]) [1,2,3,0] Z Z))) Z λz9 hz9=>?_
   obtain ⟨H1,ro,rv,xo,xv,AR⟩:=z9;obtain ⟨u1,S⟩:=hz9;dsimp only at u1 S|-;refine Sx.reSt (λW s=>St.mid (a:=[_,_,_]) (d:=AR) (c:=[_]) s) ?_;obtain ⟨op7,x7,e7⟩:∃ op7 x7,redP 1 ((⟨q,op,x,true,dn⟩:Ps):Ps)=⟨q,op7,x7,true,dn⟩:=⟨_,_,Z⟩;rw [e7] at S|-;dsimp only at S|-;have W7:Fwf l ⟨q,op7,x7,true,dn⟩:=by rw [<-e7];exact wf_red (by omega) Wq rfl
   obtain ⟨hm1,hm2⟩:=wf_len W7 K.few;dsimp only at hm1 hm2;have hne7:op7≠[]:=W7.ne;have FE1:Fex (⟨q,op7,x7,true,dn⟩:Ps):=by rw [<-e7];exact fex_red FE
   refine .nt<|.rg<|.mv Z<|.cs (X:=Hp × Value × Value × List Value × List Value × List Res) Fx.call103 Z (λW s=>closing_f (K.up u1.up) W7 S (λz hz=>Al_Nat_le_trans (FE1 z hz) (Al_Nat_le_trans (Al_Nat_le_of_lt hq) K.few)) (St.mid (a:=[_,_,_]) (d:=[_]) (s.pickT (hd:=[_,_,_,_]) (tl:=(AR++bs)) (hd':=[_,_,_,_]) [0,1,2,3] Z Z))) Z λz9 hz9=>?_
   obtain ⟨H2,ro,rv,xo,xv,AR⟩:=z9;obtain ⟨u2,S⟩:=hz9;dsimp only at u2 S|-;refine Sx.reSt (λW s=>St.mid (a:=[_,_,_]) (d:=AR) (c:=[_]) s) ?_;refine .nl<|.bN<|?_
   refine retN (.inr Z) rfl .nil rfl λW s=>?_;have e0:operatorP l (⟨q,op,x,true,dn⟩:Ps)=othP l (⟨q,op,x,true,dn⟩:Ps):=by unfold operatorP;rw [show q.sym l=none from hsy]
   rw [e0];have e1:othP l (⟨q,op,x,true,dn⟩:Ps)=clgP l (⟨q,op7,x7,true,dn⟩:Ps):=by unfold othP;rw [Al_if_neg (show ¬ q.wrd l=true by rw [<-ew,w35];decide),Al_if_pos (show q.endB l=true by rw [<-ee];exact w46),e7]
   rw [e1];exact ⟨(_,_,_,_,_,AR),⟨(u1.trans u2),⟨S.ops,S.vls⟩⟩,Z,s.pickT (hd:=[_,_,_,_]) (tl:=(AR++bs)) (hd':=[_,_,_]) [0,1,2] rfl rfl⟩
  have w46:=h46;refine .rg<|.mv Z<|.cs (X:=Unit) Fx.call104 Z (λW s=>fail_f K hq 8 (s.pickT (hd:=[_,_,_,_]) (tl:=(AR++bs)) (hd':=[_,_,_,_]) [1,0,2,3] Z Z)) Z λ_ _=>.nl<|.bN<|?_
  refine retN (.inr Z) rfl .nil rfl λW s=>?_;have e0:operatorP l (⟨q,op,x,true,dn⟩:Ps)=othP l (⟨q,op,x,true,dn⟩:Ps):=by unfold operatorP;rw [show q.sym l=none from hsy]
  rw [e0];have e1:othP l (⟨q,op,x,true,dn⟩:Ps)=(⟨q,op,x,true,dn⟩:Ps).at (q.fail l 8):=by unfold othP;rw [Al_if_neg (show ¬ q.wrd l=true by rw [<-ew,w35];decide),Al_if_neg (show ¬ q.endB l=true by rw [<-ee,w46];decide)]
  rw [e1];exact ⟨(_,_,_,_,_,AR),⟨.refl,⟨S.ops,S.vls⟩⟩,Z,s.pickT (hd:=[_,_,_,_]) (tl:=(AR++bs)) (hd':=[_,_,_]) [0,2,3] rfl rfl⟩
 have hk24:¬ ((tkf l q.i).k=2\/(tkf l q.i).k=4):=λh=>by
  rw [h14] at e14;rcases h with h | h <;> rw [h] at e14 <;> simp at e14
 have hsy:q.sym l=none:=by unfold Rq.sym;rw [Al_if_neg hk24]
 refine .sk<|.tN<|.bk<|.cu (X:=Bool) [(0,_),(2,_)] ⟨Z,Z,Jt⟩ (λz=>[(35,.bool z)]) (λz=>H) (λz=>(.box b2 (cTk .u8 (tkf l q.i)) 108::.box b [.slice tp l.length tc,iN q.i,ro,rv,.bool true,.bool dn,.bool x.2,iN q.off,iN q.er] 102::.row 97 11 (ro) (op.length) (xo)::.row 179 13 (rv) (x.1.length) (xv)::(AR++bs))) (λz=>z=q.wrd l) ?_ λz hC=>?_
 ·
  refine .sm Z<|.cs (X:=Unit) Fx.call100 Z (λW s=>is_f K hq [115,105,110,99,101] (s.pickT (hd:=[_,_,_,_]) (tl:=(AR++bs)) (hd':=[_,_,_,_]) [1,0,2,3] Z Z)) Z λ_ _=>.aq Z<|.cd Z (λh35=>?_) (λh35=>?_)
  ·have i1:=h35;exact .sk<|.tN<|.me _ ⟨Z,Jt⟩ ⟨Z,Z,Jt⟩ (λ_ s=>(s.pickT (hd:=[_,_,_,_]) (tl:=(AR++bs)) (hd':=[_,_,_,_]) [1,0,2,3] Z Z)) (by unfold Rq.wrd;first | simp only [i1,i2,i3,Al_Bool_false_or,Bool.true_or,Bool.or_true,Bool.or_false] | simp only [i1,i2,Al_Bool_false_or,Bool.true_or,Bool.or_true] | simp only [i1,Al_Bool_false_or,Bool.true_or,Bool.or_true])
  have i1:=h35;refine .sm Z<|.cs (X:=Unit) Fx.call100 Z (λW s=>is_f K hq [97,110,100] (s.pickT (hd:=[_,_,_,_]) (tl:=(AR++bs)) (hd':=[_,_,_,_]) [0,1,2,3] Z Z)) Z λ_ _=>.aq Z<|.cd Z (λh35=>?_) (λh35=>?_)
  ·have i2:=h35;exact .sk<|.tN<|.me _ ⟨Z,Jt⟩ ⟨Z,Z,Jt⟩ (λ_ s=>(s.pickT (hd:=[_,_,_,_]) (tl:=(AR++bs)) (hd':=[_,_,_,_]) [1,0,2,3] Z Z)) (by unfold Rq.wrd;first | simp only [i1,i2,i3,Al_Bool_false_or,Bool.true_or,Bool.or_true,Bool.or_false] | simp only [i1,i2,Al_Bool_false_or,Bool.true_or,Bool.or_true] | simp only [i1,Al_Bool_false_or,Bool.true_or,Bool.or_true])
  have i2:=h35;refine .sm Z<|.cs (X:=Unit) Fx.call100 Z (λW s=>is_f K hq [111,114] (s.pickT (hd:=[_,_,_,_]) (tl:=(AR++bs)) (hd':=[_,_,_,_]) [0,1,2,3] Z Z)) Z λ_ _=>.aq Z<|.cd Z (λh35=>?_) (λh35=>?_)
  ·have i3:=h35;exact .sk<|.tN<|.me _ ⟨Z,Jt⟩ ⟨Z,Z,Jt⟩ (λ_ s=>(s.pickT (hd:=[_,_,_,_]) (tl:=(AR++bs)) (hd':=[_,_,_,_]) [1,0,2,3] Z Z)) (by unfold Rq.wrd;first | simp only [i1,i2,i3,Al_Bool_false_or,Bool.true_or,Bool.or_true,Bool.or_false] | simp only [i1,i2,Al_Bool_false_or,Bool.true_or,Bool.or_true] | simp only [i1,Al_Bool_false_or,Bool.true_or,Bool.or_true])
  have i3:=h35;exact .rg<|.mv Z<|.cs (X:=Unit) Fx.call100 Z (λW s=>is_f K hq [105,109,112,108,105,101,115] (s.pickT (hd:=[_,_,_,_]) (tl:=(AR++bs)) (hd':=[_,_,_,_]) [0,1,2,3] Z Z)) Z λ_ _=>.aq Z<|.me _ ⟨Z,Jt⟩ ⟨Z,Z,Jt⟩ (λ_ s=>(s.pickT (hd:=[_,_,_,_]) (tl:=(AR++bs)) (hd':=[_,_,_,_]) [1,0,2,3] Z Z)) (by unfold Rq.wrd;first | simp only [i1,i2,i3,Al_Bool_false_or,Bool.true_or,Bool.or_true,Bool.or_false] | simp only [i1,i2,Al_Bool_false_or,Bool.true_or,Bool.or_true] | simp only [i1,Al_Bool_false_or,Bool.true_or,Bool.or_true])
 have ew:=hC;refine .cd Z (λh35=>?_) (λh35=>?_)
 ·have w35:=h35;refine .rg<|.mv Z<|.cs (X:=Hp × Value × Value × List Value × List Value × List Res) Fx.call101 Z (λW s=>join_f K Wq S G h0 (by rw [<-ew];exact w35) (St.mid (a:=[_,_,_]) (d:=[_]) (s.pickT (hd:=[_,_,_,_]) (tl:=(AR++bs)) (hd':=[_,_,_,_]) [1,2,3,0] Z Z))) Z λz9 hz9=>?_
  obtain ⟨H1,ro,rv,xo,xv,AR⟩:=z9;obtain ⟨u1,S⟩:=hz9;dsimp only at u1 S|-;refine Sx.reSt (λW s=>St.mid (a:=[_,_,_]) (d:=AR) (c:=[_]) s) ?_;refine .nl<|.bN<|?_
  refine retN (.inr Z) rfl .nil rfl λW s=>?_;have e0:operatorP l (⟨q,op,x,true,dn⟩:Ps)=othP l (⟨q,op,x,true,dn⟩:Ps):=by unfold operatorP;rw [show q.sym l=none from hsy]
  rw [e0];have e1:othP l (⟨q,op,x,true,dn⟩:Ps)=joiP l (⟨q,op,x,true,dn⟩:Ps):=by unfold othP;exact Al_if_pos (by rw [<-ew];exact w35)
  rw [e1];exact ⟨(_,_,_,_,_,AR),⟨u1,⟨S.ops,S.vls⟩⟩,Z,s.pickT (hd:=[_,_,_,_]) (tl:=(AR++bs)) (hd':=[_,_,_]) [0,1,2] rfl rfl⟩
 have w35:=h35;refine .cu (X:=Bool) [(0,_)] ⟨Z,Jt⟩ (λz=>[(46,.bool z)]) (λz=>H) (λz=>(.box b2 (cTk .u8 (tkf l q.i)) 108::.box b [.slice tp l.length tc,iN q.i,ro,rv,.bool true,.bool dn,.bool x.2,iN q.off,iN q.er] 102::.row 97 11 (ro) (op.length) (xo)::.row 179 13 (rv) (x.1.length) (xv)::(AR++bs))) (λz=>z=q.endB l) ?_ λz hC=>?_
 ·
  refine .sm Z<|.cs (X:=Unit) Fx.call100 Z (λW s=>is_f K hq [41] (s.pickT (hd:=[_,_,_,_]) (tl:=(AR++bs)) (hd':=[_,_,_,_]) [1,0,2,3] Z Z)) Z λ_ _=>.aq Z<|.cd Z (λh46=>?_) (λh46=>?_)
  ·have j1:=h46;exact .sk<|.tN<|.me _ ⟨Z,Jt⟩ ⟨Z,Jt⟩ (λ_ s=>(s.pickT (hd:=[_,_,_,_]) (tl:=(AR++bs)) (hd':=[_,_,_,_]) [1,0,2,3] Z Z)) (by unfold Rq.endB;rw [<-k80];first | simp only [j1,j2,j3,Al_Bool_false_or,Bool.true_or,Bool.or_true,Bool.or_false] | simp only [j1,j2,Al_Bool_false_or,Bool.true_or,Bool.or_true] | simp only [j1,Al_Bool_false_or,Bool.true_or,Bool.or_true])
  have j1:=h46;refine .sm Z<|.cs (X:=Unit) Fx.call100 Z (λW s=>is_f K hq [93] (s.pickT (hd:=[_,_,_,_]) (tl:=(AR++bs)) (hd':=[_,_,_,_]) [0,1,2,3] Z Z)) Z λ_ _=>.aq Z<|.cd Z (λh46=>?_) (λh46=>?_)
  ·have j2:=h46;exact .sk<|.tN<|.me _ ⟨Z,Jt⟩ ⟨Z,Jt⟩ (λ_ s=>(s.pickT (hd:=[_,_,_,_]) (tl:=(AR++bs)) (hd':=[_,_,_,_]) [1,0,2,3] Z Z)) (by unfold Rq.endB;rw [<-k80];first | simp only [j1,j2,j3,Al_Bool_false_or,Bool.true_or,Bool.or_true,Bool.or_false] | simp only [j1,j2,Al_Bool_false_or,Bool.true_or,Bool.or_true] | simp only [j1,Al_Bool_false_or,Bool.true_or,Bool.or_true])
  have j2:=h46;refine .sm Z<|.cs (X:=Unit) Fx.call100 Z (λW s=>is_f K hq [44] (s.pickT (hd:=[_,_,_,_]) (tl:=(AR++bs)) (hd':=[_,_,_,_]) [0,1,2,3] Z Z)) Z λ_ _=>.aq Z<|.cd Z (λh46=>?_) (λh46=>?_)
  ·have j3:=h46;exact .sk<|.tN<|.me _ ⟨Z,Jt⟩ ⟨Z,Jt⟩ (λ_ s=>(s.pickT (hd:=[_,_,_,_]) (tl:=(AR++bs)) (hd':=[_,_,_,_]) [1,0,2,3] Z Z)) (by unfold Rq.endB;rw [<-k80];first | simp only [j1,j2,j3,Al_Bool_false_or,Bool.true_or,Bool.or_true,Bool.or_false] | simp only [j1,j2,Al_Bool_false_or,Bool.true_or,Bool.or_true] | simp only [j1,Al_Bool_false_or,Bool.true_or,Bool.or_true])
  have j3:=h46;exact .rg<|.fA Z Fx.field108_0<|.lD Z Fx.agg106 mem1 Z<|.yw (.eql Z Z)<|.aq Z<|.me _ ⟨Z,Jt⟩ ⟨Z,Jt⟩ (λ_ s=>(s.pickT (hd:=[_,_,_,_]) (tl:=(AR++bs)) (hd':=[_,_,_,_]) [1,0,2,3] Z Z)) (by unfold Rq.endB;rw [<-k80];first | simp only [j1,j2,j3,Al_Bool_false_or,Bool.true_or,Bool.or_true,Bool.or_false] | simp only [j1,j2,Al_Bool_false_or,Bool.true_or,Bool.or_true] | simp only [j1,Al_Bool_false_or,Bool.true_or,Bool.or_true])
 have ee:=hC;refine .cd Z (λh46=>?_) (λh46=>?_)
 ·have w46:=h46;refine .sm Z<|.cs (X:=Hp × Value × Value × List Value × List Value × List Res) Fx.call102 Z (λW s=>reduce_f K Wq S 1 (by omega) (St.mid (a:=[_,_,_]) (d:=[_]) (s.pickT (hd:=[_,_,_,_]) (tl:=(AR++bs)) (hd':=[_,_,_,_]) [1,2,3,0] Z Z))) Z λz9 hz9=>?_
  obtain ⟨H1,ro,rv,xo,xv,AR⟩:=z9;obtain ⟨u1,S⟩:=hz9;dsimp only at u1 S|-;refine Sx.reSt (λW s=>St.mid (a:=[_,_,_]) (d:=AR) (c:=[_]) s) ?_;obtain ⟨op7,x7,e7⟩:∃ op7 x7,redP 1 ((⟨q,op,x,true,dn⟩:Ps):Ps)=⟨q,op7,x7,true,dn⟩:=⟨_,_,Z⟩;rw [e7] at S|-;dsimp only at S|-;have W7:Fwf l ⟨q,op7,x7,true,dn⟩:=by rw [<-e7];exact wf_red (by omega) Wq rfl
  obtain ⟨hm1,hm2⟩:=wf_len W7 K.few;dsimp only at hm1 hm2;have hne7:op7≠[]:=W7.ne;have FE1:Fex (⟨q,op7,x7,true,dn⟩:Ps):=by rw [<-e7];exact fex_red FE
  refine .nt<|.rg<|.mv Z<|.cs (X:=Hp × Value × Value × List Value × List Value × List Res) Fx.call103 Z (λW s=>closing_f (K.up u1.up) W7 S (λz hz=>Al_Nat_le_trans (FE1 z hz) (Al_Nat_le_trans (Al_Nat_le_of_lt hq) K.few)) (St.mid (a:=[_,_,_]) (d:=[_]) (s.pickT (hd:=[_,_,_,_]) (tl:=(AR++bs)) (hd':=[_,_,_,_]) [0,1,2,3] Z Z))) Z λz9 hz9=>?_
  obtain ⟨H2,ro,rv,xo,xv,AR⟩:=z9;obtain ⟨u2,S⟩:=hz9;dsimp only at u2 S|-;refine Sx.reSt (λW s=>St.mid (a:=[_,_,_]) (d:=AR) (c:=[_]) s) ?_;refine .nl<|.bN<|?_
  refine retN (.inr Z) rfl .nil rfl λW s=>?_;have e0:operatorP l (⟨q,op,x,true,dn⟩:Ps)=othP l (⟨q,op,x,true,dn⟩:Ps):=by unfold operatorP;rw [show q.sym l=none from hsy]
  rw [e0];have e1:othP l (⟨q,op,x,true,dn⟩:Ps)=clgP l (⟨q,op7,x7,true,dn⟩:Ps):=by unfold othP;rw [Al_if_neg (show ¬ q.wrd l=true by rw [<-ew,w35];decide),Al_if_pos (show q.endB l=true by rw [<-ee];exact w46),e7]
  rw [e1];exact ⟨(_,_,_,_,_,AR),⟨(u1.trans u2),⟨S.ops,S.vls⟩⟩,Z,s.pickT (hd:=[_,_,_,_]) (tl:=(AR++bs)) (hd':=[_,_,_]) [0,1,2] rfl rfl⟩
 have w46:=h46;refine .rg<|.mv Z<|.cs (X:=Unit) Fx.call104 Z (λW s=>fail_f K hq 8 (s.pickT (hd:=[_,_,_,_]) (tl:=(AR++bs)) (hd':=[_,_,_,_]) [1,0,2,3] Z Z)) Z λ_ _=>.nl<|.bN<|?_
 refine retN (.inr Z) rfl .nil rfl λW s=>?_;have e0:operatorP l (⟨q,op,x,true,dn⟩:Ps)=othP l (⟨q,op,x,true,dn⟩:Ps):=by unfold operatorP;rw [show q.sym l=none from hsy]
 rw [e0];have e1:othP l (⟨q,op,x,true,dn⟩:Ps)=(⟨q,op,x,true,dn⟩:Ps).at (q.fail l 8):=by unfold othP;rw [Al_if_neg (show ¬ q.wrd l=true by rw [<-ew,w35];decide),Al_if_neg (show ¬ q.endB l=true by rw [<-ee,w46];decide)]
 rw [e1];exact ⟨(_,_,_,_,_,AR),⟨.refl,⟨S.ops,S.vls⟩⟩,Z,s.pickT (hd:=[_,_,_,_]) (tl:=(AR++bs)) (hd':=[_,_,_]) [0,2,3] rfl rfl⟩
theorem preF_cons (q:UInt8->Bool) (c:UInt8) (r:Str):pre q (c::r)=if q c then pre q r+1 else 0:=by
 unfold pre;rw [Al_List_takeWhile_cons]
 split <;> simp
theorem preF_take (q:UInt8->Bool):∀ (m:Str),pre q (m.take (pre q m))=pre q m
 | []=>rfl
 | c::r=>by
  rw [preF_cons];cases h:q c with
  | false=>rw [Al_if_neg (by decide)];rfl
  | true=>rw [Al_if_pos rfl,List.take_succ_cons,preF_cons,h,Al_if_pos rfl,preF_take q r]
variable {m:Str}
theorem readK_digF (h:m≠[]) (hk:(readK m).1=3):pre digB (m.take (readK m).2)=(m.take (readK m).2).length:=by
 have key:(readK m).2=pre digB m:=by
  match m,h with
  | c::r,_ =>
   cases h1:letB c with
   | true =>
    exfalso
    revert hk
    cases h4:words.contains ((c::r).take (pre insB (c::r))) with
    | true=>simp only [readK,Al_List_headD_cons,h1,h4,Al_if_true];decide
    | false =>
     by_cases h5:pre insB (c::r)<=12
     ·simp only [readK,Al_List_headD_cons,h1,h4,h5,Al_if_true,Al_Bool_false_eq_true,Al_if_false];decide
     ·simp only [readK,Al_List_headD_cons,h1,h4,h5,Al_if_true,Al_Bool_false_eq_true,Al_if_false];decide
   | false =>
    cases h4:digB c with
    | true =>
     by_cases h5:pre digB (c::r)=1\/c≠48
     ·simp only [readK,Al_List_headD_cons,h1,h4,h5,Al_if_true,Al_Bool_false_eq_true,Al_if_false]
     ·exfalso;revert hk;simp only [readK,Al_List_headD_cons,h1,h4,h5,Al_if_true,Al_Bool_false_eq_true,Al_if_false];decide
    | false =>
     exfalso
     revert hk
     cases hx:symbols.find? (λx=>x.isPrefixOf (c::r)) <;> simp only [readK,Al_List_headD_cons,h1,h4,hx,Al_Bool_false_eq_true,Al_if_false] <;> decide
 rw [key,preF_take,Al_List_length_take,Al_Nat_min_eq_left (pre_le digB m)]
theorem tokF_numF:∀ (f o:Nat) (m:Str),∀ t∈tokF f o m,t.k=3->pre digB t.t=t.t.length
 | 0,_,_,t,h=>by cases h
 | f+1,o,m,t,h=>by
  by_cases h0:m=[]
  ·rw [h0,tokF_nil] at h;cases h
  ·rw [tokF_step h0] at h;rcases Al_List_mem_cons.1 h with rfl | h
   ·exact λhk=>readK_digF h0 hk
   ·exact tokF_numF f _ _ t h
theorem lexR_numF (s:Str):∀ t∈lexR s,t.k=3->pre digB t.t=t.t.length:=tokF_numF _ _ _
theorem tokF_shortF:∀ (f o:Nat) (m:Str),∀ t∈tokF f o m,t.t.length<=m.length
 | 0,_,_,t,h=>by cases h
 | f+1,o,m,t,h=>by
  by_cases h0:m=[]
  ·rw [h0,tokF_nil] at h;cases h
  ·rw [tokF_step h0] at h;rcases Al_List_mem_cons.1 h with rfl | h
   ·show (m.take _).length<=_;rw [Al_List_length_take];omega
   ·have h1:=tokF_shortF f _ _ t h;have h2:=skipS_len false (m.drop (readK m).2);rw [Al_List_length_drop] at h2;omega
theorem lexR_shortF (s:Str):∀ t∈lexR s,t.t.length<=s.length:=λt h=>Al_Nat_le_trans (tokF_shortF _ _ _ t h) (skipS_len false s)

theorem readK_nmF (h:m≠[]) (hk:(readK m).1=1):(m.take (readK m).2).all insB=true:=by
 have key:(readK m).2=pre insB m:=by
  match m,h with
  | c::r,_ =>
   cases h1:letB c with
   | true =>
    revert hk
    cases h4:words.contains ((c::r).take (pre insB (c::r))) with
    | true=>simp only [readK,Al_List_headD_cons,h1,h4,Al_if_true];decide
    | false =>
     by_cases h5:pre insB (c::r)<=12
     ·simp only [readK,Al_List_headD_cons,h1,h4,h5,Al_if_true,Al_Bool_false_eq_true,Al_if_false];exact λ_=>trivial
     ·simp only [readK,Al_List_headD_cons,h1,h4,h5,Al_if_true,Al_Bool_false_eq_true,Al_if_false];intro h;exact absurd h (by decide)
   | false =>
    exfalso
    revert hk
    cases h4:digB c with
    | true =>
     by_cases h5:pre digB (c::r)=1\/c≠48
     ·simp only [readK,Al_List_headD_cons,h1,h4,h5,Al_if_true,Al_Bool_false_eq_true,Al_if_false];decide
     ·simp only [readK,Al_List_headD_cons,h1,h4,h5,Al_if_true,Al_Bool_false_eq_true,Al_if_false];decide
    | false =>
     cases hx:symbols.find? (λx=>x.isPrefixOf (c::r)) <;> simp only [readK,Al_List_headD_cons,h1,h4,hx,Al_Bool_false_eq_true,Al_if_false] <;> decide
 rw [key];unfold pre
 have:m.take (m.takeWhile insB).length=m.takeWhile insB:=by
  have:=List.takeWhile_append_dropWhile (p:=insB) (l:=m)
  conv=>lhs;rw [<-this]
  rw [List.take_left' (by rw [this])]
 rw [this];exact List.all_takeWhile
theorem tokF_nmF:∀ (f o:Nat) (m:Str),∀ t∈tokF f o m,t.k=1->t.t.all insB=true
 | 0,_,_,t,h=>by cases h
 | f+1,o,m,t,h=>by
  by_cases h0:m=[]
  ·rw [h0,tokF_nil] at h;cases h
  ·rw [tokF_step h0] at h;rcases Al_List_mem_cons.1 h with rfl | h
   ·exact λhk=>readK_nmF h0 hk
   ·exact tokF_nmF f _ _ t h
theorem lexR_nmF (s:Str):∀ t∈lexR s,t.k=1->t.t.all insB=true:=tokF_nmF _ _ _
def endT (s:Str):Tk:=⟨0,[],s.length⟩
def tksF (s:Str):Tks:=lexR s++[endT s]
theorem tksF_len (s:Str):(tksF s).length=(lexR s).length+1:=by unfold tksF;rw [Al_List_length_append];rfl
theorem tkf_cases (s:Str) (i:Nat):tkf (tksF s) i∈lexR s\/(tkf (tksF s) i).k=0:=by
 unfold tkf tksF;rw [List.getD_eq_getElem?_getD]
 by_cases h:i<(lexR s).length
 ·rw [List.getElem?_append_left h,List.getElem?_eq_getElem h];exact .inl (Al_List_getElem_mem h)
 ·rw [List.getElem?_append_right (by omega)];cases e:i - (lexR s).length with
  | zero=>exact .inr rfl
  | succ n=>exact .inr rfl
theorem tgd_of (s:Str):Tgd (tksF s):=by
 refine ⟨λi hi hk=>?_,λi hk=>?_,λi hk=>?_⟩
 ·rw [tksF_len] at hi|-;refine Classical.byContradiction λhn=>hk ?_;have e:i=(lexR s).length:=by omega
  unfold tkf tksF;rw [List.getD_eq_getElem?_getD,List.getElem?_append_right (by omega),e,Al_Nat_sub_self];rfl
 ·rcases tkf_cases s i with h | h
  ·exact (lexR_good s _ h).2.2
  ·rw [h] at hk;exact absurd hk (by decide)
 ·rcases tkf_cases s i with h | h
  ·exact nins46 (lexR_nmF s _ h hk)
  ·rw [h] at hk;exact absurd hk (by decide)
/-! ### Lists that are not long -/
section
variable {N:Nat} {l:Tks} {q:Ps} {c:Rq} {o:Ov} {v:Vl} {x:Vb} {f:Fm}
def VbN (N:Nat) (x:Vb):Prop:=∀ v∈x.1,blE N v.e=true/\blF N v.f=true
structure Fbd (N:Nat) (q:Ps):Prop where
 x:VbN N q.x
 op:∀ o∈q.op,blF N o.f=true
theorem blE_z:blE N zE=true:=blE_mk.2 ⟨Al_Nat_zero_le _,λa h=>(by cases h)⟩
theorem blF_z {op:UInt8} {nm fd:Str} {a b:Int64}:blF N (.mk op nm fd a b [] [])=true:=blF_mk.2 ⟨⟨Al_Nat_zero_le _,Al_Nat_zero_le _,λa h=>(by cases h)⟩,λa h=>(by cases h)⟩
theorem blE_args {op:UInt8} {nm:Str} {z:Int64} {es:List Ex} (h:es.length<=N) (k:∀ e∈es,blE N e=true):blE N (.mk op nm z es)=true:=blE_mk.2 ⟨h,k⟩
theorem blF_wAr {gs:List Fm} (h:blF N f=true) (hl:gs.length<=N) (hg:∀ g∈gs,blF N g=true):blF N (f.wAr gs)=true:=by
 obtain ⟨op,nm,fd,a,b,ex,args⟩:=f;have:=blF_mk.1 h;exact blF_mk.2 ⟨⟨this.1.1,hl,this.1.2.2⟩,hg⟩
theorem blF_wEx {es:List Ex} (h:blF N f=true) (hl:es.length<=N) (hg:∀ g∈es,blE N g=true):blF N (f.wEx es)=true:=by
 obtain ⟨op,nm,fd,a,b,ex,args⟩:=f;have:=blF_mk.1 h;exact blF_mk.2 ⟨⟨hl,this.1.2.1,hg⟩,this.2⟩
theorem blF_ex (h:blF N f=true):∀ e∈f.ex,blE N e=true:=by
 obtain ⟨op,nm,fd,a,b,ex,args⟩:=f;exact (blF_mk.1 h).1.2.2
theorem vbn_top (h:VbN N x):blE N (topV x).e=true/\blF N (topV x).f=true:=by
 unfold topV;cases e:x.1 with
 | nil=>exact ⟨blE_z,blF_z⟩
 | cons v r=>exact h v (by rw [e];exact Al_List_mem_cons_self ..)
theorem vbn_tl {b:Bool} (h:VbN N x):VbN N (x.1.tail,b):=λv hv=>h v (List.mem_of_mem_tail hv)
theorem vbn_tS (h:VbN N x):VbN N (tS x):=vbn_tl h
theorem vbn_fS (h:VbN N x):VbN N (fS x):=vbn_tl h
theorem vbn_tE (h:VbN N x):blE N (tE x)=true:=(vbn_top h).1
theorem vbn_fF (h:VbN N x):blF N (fF x)=true:=by
 unfold fF Vl.fm
 split
 ·exact blF_z
 ·exact (vbn_top h).2
theorem vbn_put (h:VbN N x) (he:blE N v.e=true) (hf:blF N v.f=true):VbN N (x.put v):=λu hu=>by
 rcases Al_List_mem_cons.1 hu with rfl | hu
 ·exact ⟨he,hf⟩
 ·exact h u hu
theorem bl1 {e:Ex} (hN:2<=N) (h:blE N e=true):([e]:List Ex).length<=N/\∀ x∈[e],blE N x=true:=⟨by show 1<=N;omega,λx hx=>by rw [Al_List_mem_singleton.1 hx];exact h⟩
theorem bl2 {e g:Ex} (hN:2<=N) (h:blE N e=true) (k:blE N g=true):([e,g]:List Ex).length<=N/\∀ x∈[e,g],blE N x=true:=⟨hN,λx hx=>by
 rcases Al_List_mem_cons.1 hx with rfl | hx
 ·exact h
 ·rw [Al_List_mem_singleton.1 hx];exact k⟩
theorem bf1 {e:Fm} (hN:2<=N) (h:blF N e=true):([e]:List Fm).length<=N/\∀ x∈[e],blF N x=true:=⟨by show 1<=N;omega,λx hx=>by rw [Al_List_mem_singleton.1 hx];exact h⟩
theorem bf2 {e g:Fm} (hN:2<=N) (h:blF N e=true) (k:blF N g=true):([e,g]:List Fm).length<=N/\∀ x∈[e,g],blF N x=true:=⟨hN,λx hx=>by
 rcases Al_List_mem_cons.1 hx with rfl | hx
 ·exact h
 ·rw [Al_List_mem_singleton.1 hx];exact k⟩
theorem vbn_comb (hN:2<=N) (h:VbN N x) (ho:blF N o.f=true):VbN N (comb o x):=by
 unfold comb
 split
 ·have:=bl1 hN (vbn_tE h);exact vbn_put (vbn_tS h) (blE_args this.1 this.2) blF_z
 split
 ·have:=bl2 hN (vbn_tE (vbn_tS h)) (vbn_tE h);exact vbn_put (vbn_tS (vbn_tS h)) (blE_args this.1 this.2) blF_z
 split
 ·have:=bl2 hN (vbn_tE (vbn_tS h)) (vbn_tE h);have k:=bl1 hN (blE_args (op:=o.op) (nm:=[]) (z:=0) this.1 this.2);exact vbn_put (vbn_tS (vbn_tS h)) blE_z (blF_mk.2 ⟨⟨k.1,Al_Nat_zero_le _,k.2⟩,λa h=>(by cases h)⟩)
 split
 ·have:=bf1 hN (vbn_fF h);exact vbn_put (vbn_fS h) blE_z (blF_wAr ho this.1 this.2)
 split
 ·have:=bf2 hN (vbn_fF (vbn_fS h)) (vbn_fF h);exact vbn_put (vbn_fS (vbn_fS h)) blE_z (blF_wAr ho this.1 this.2)
 ·exact h
theorem redL_bd (hN:2<=N) {lv:Nat}:∀ (r:List Ov) (x:Vb),(∀ o∈r,blF N o.f=true)->VbN N x->VbN N (redL lv r x).2
 | [],x,_,h=>h
 | o::r,x,ho,h=>by
  rw [redL]
  split
  ·exact redL_bd hN r _ (λz hz=>ho z (Al_List_mem_cons_of_mem _ hz)) (vbn_comb hN h (ho o (Al_List_mem_cons_self ..)))
  ·exact h
theorem fbd_red (hN:2<=N) {lv:Nat} (h:Fbd N q):Fbd N (redP lv q):=⟨redL_bd hN q.op q.x h.op h.x,λo ho=>h.op o (redL_sub q.op q.x o ho)⟩
theorem fbd_push (h:Fbd N q) (ho:blF N o.f=true):Fbd N (pushS o (q.at c)):=⟨h.x,λz hz=>by
 rcases Al_List_mem_cons.1 hz with rfl | hz
 ·rw [inh_f];exact ho
 ·exact h.op z hz⟩
theorem fbd_give (h:Fbd N q) (he:blE N v.e=true) (hf:blF N v.f=true):Fbd N (giveS v (q.at c)):=⟨vbn_put h.x he hf,h.op⟩
theorem fbd_at (h:Fbd N q):Fbd N (q.at c):=⟨h.x,h.op⟩
theorem fbd_clo (h:Fbd N q) (hx:VbN N x) (he:blE N v.e=true) (hf:blF N v.f=true):Fbd N (cloS c v x q):=⟨vbn_put hx he hf,λo ho=>h.op o (List.mem_of_mem_tail ho)⟩
theorem fbd_if {c:Prop} [Decidable c] {a b:Ps} (h1:c->Fbd N a) (h2:¬ c->Fbd N b):Fbd N (if c then a else b):=by
 by_cases hc:c
 ·rw [Al_if_pos hc];exact h1 hc
 ·rw [Al_if_neg hc];exact h2 hc
theorem fbd_pref {q':Ps} (h:Fbd N q) (e:prefS l q=some q'):Fbd N q':=by
 unfold prefS at e
 split at e
 ·injection e with e;subst e;exact fbd_push h blF_z
 split at e
 ·injection e with e;subst e;exact fbd_push h blF_z
 split at e
 ·injection e with e;subst e;exact fbd_push h blF_z
 split at e
 ·injection e with e;subst e;exact fbd_push h blF_z
 split at e
 ·injection e with e;subst e;exact fbd_push h blF_z
 split at e
 ·injection e with e;subst e;exact fbd_push h blF_z
 split at e
 ·injection e with e;subst e;exact fbd_push h blF_z
 ·cases e
theorem blE0 {op:UInt8} {nm:Str} {z:Int64}:blE N (.mk op nm z [])=true:=blE_args (Al_Nat_zero_le _) λa h=>(by cases h)
theorem fbd_var (h:Fbd N q):Fbd N (varP l q):=by
 unfold varP;exact fbd_if (λ_=>fbd_if (λ_=>fbd_push h blF_z) λ_=>fbd_give h blE0 blF_z) λ_=>fbd_give h blE0 blF_z
theorem fbd_arr (h:Fbd N q):Fbd N (arrP l q):=by
 unfold arrP;exact fbd_if (λ_=>fbd_give h blE_z blF_z) λ_=>fbd_push h blF_z
theorem fbd_re2 (h:Fbd N q):Fbd N (re2P l q):=by
 unfold re2P
 exact fbd_if (λ_=>fbd_push h blF_z) λ_=>fbd_if (λ_=>fbd_push h blF_z) λ_=>fbd_if (λ_=>fbd_give h blE0 blF_z) λ_=>fbd_if (λ_=>fbd_var h) λ_ =>
  fbd_if (λ_=>fbd_give h blE0 blF_z) λ_=>fbd_if (λ_=>fbd_give h blE0 blF_z) λ_=>fbd_if (λ_=>fbd_give h blE_z blF_z) λ_=>fbd_if (λ_=>fbd_give h blE_z blF_z) λ_ =>
  fbd_if (λ_=>fbd_give h blE_z blF_z) λ_=>fbd_if (λ_=>fbd_push h blF_z) λ_=>fbd_if (λ_=>fbd_arr (fbd_at h)) λ_=>fbd_at h
theorem fbd_operand (h:Fbd N q):Fbd N (operandP l q):=by
 unfold operandP;cases e:(if fmsB q then prefS l q else none) with
 | some q' =>
  split at e
  ·exact fbd_pref h e
  ·cases e
 | none =>
  show Fbd N (restP l q);unfold restP;exact fbd_if (λ_=>fbd_give h blE_z blF_z) λ_=>fbd_re2 h
theorem fbd_bet (hN:2<=N) {op:UInt8} (h:Fbd N q):Fbd N (betP l op q):=by
 have f {lv:Nat} {c:Rq}:Fbd N ((redP lv q).at c):=fbd_at (fbd_red hN h);have p {lv:Nat} {c:Rq} {o:Ov} (ho:blF N o.f=true):Fbd N (pushS o ((redP lv q).at c)):=fbd_push (fbd_red hN h) ho;unfold betP;exact fbd_if (λ_=>fbd_if (λ_=>f) λ_=>p blF_z) λ_=>fbd_if (λ_=>fbd_if (λ_=>f) λ_=>p blF_z) λ_=>fbd_if (λ_=>f) λ_=>p blF_z
theorem joV_bl (c:Rq):blF N (c.joV l)=true:=by
 unfold Rq.joV
 split
 ·exact blF_z
 split
 ·exact blF_z
 split
 ·exact blF_z
 split
 ·exact blF_z
 ·exact blF_z
theorem fbd_joi (hN:2<=N) (h:Fbd N q):Fbd N (joiP l q):=by
 unfold joiP;exact fbd_if (λ_=>fbd_at h) λ_=>fbd_push (q:=redP _ q) (c:=q.c.joS l) (fbd_red hN h) (joV_bl _)
theorem fbd_top (h:Fbd N q):blF N (topO q).f=true:=by
 unfold topO;cases e:q.op with
 | nil=>exact blF_z
 | cons o r=>exact h.op o (by rw [e];exact Al_List_mem_cons_self ..)
theorem fex_top (h:Fex q):(topO q).f.ex.length<=q.c.i:=by
 unfold topO;cases e:q.op with
 | nil=>exact Al_Nat_zero_le _
 | cons o r=>exact h o (by rw [e];exact Al_List_mem_cons_self ..)
theorem bl_snoc (h:Fbd N q) (k:Fex q) (hi:q.c.i<N):((topO q).f.ex++[tE q.x]).length<=N/\∀ e∈(topO q).f.ex++[tE q.x],blE N e=true:=by
 refine ⟨?_,λe he=>?_⟩
 ·rw [Al_List_length_append];have:=fex_top k;simp only [Al_List_length_cons,Al_List_length_nil];omega
 ·rcases Al_List_mem_append.1 he with he | he
  ·exact blF_ex (fbd_top h) e he
  ·rw [Al_List_mem_singleton.1 he];exact vbn_tE h.x
theorem fbd_clg (hN:2<=N) (h:Fbd N q) (k:Fex q) (hi:q.c.i<N):Fbd N (clgP l q):=by
 have s:=bl_snoc h k hi;have t:=fbd_top h;have e1:=bl1 hN (vbn_tE h.x);unfold clgP
 refine fbd_if (λ_=>⟨h.x,h.op⟩) λ_=>fbd_if (λ_=>fbd_clo h (vbn_tl h.x) (vbn_top h.x).1 (vbn_top h.x).2) λ_=>fbd_if (λ_=>?_) λ_ =>
  fbd_if (λ_=>fbd_if (λ_=>fbd_clo h (vbn_tS h.x) (blE_args e1.1 e1.2) blF_z) λ_=>fbd_clo h (vbn_tS h.x) blE_z (blF_wEx t e1.1 e1.2)) λ_ =>
  fbd_if (λ_=>⟨vbn_tS h.x,λz hz=>?_⟩) λ_=>fbd_if (λ_=>fbd_clo h (vbn_tS h.x) blE_z (blF_wEx t s.1 s.2)) λ_=>fbd_at h
 ·have n1:=bl1 (e:=.mk 1 [] ((q.c.nx.exS l [62,61]).nbV l) []) hN blE0;have f1:=bf1 hN (vbn_fF h.x);exact fbd_clo h (vbn_fS h.x) blE_z (blF_wAr (blF_wEx t n1.1 n1.2) f1.1 f1.2)
 ·have hz':z∈(⟨(topO q).kd,(topO q).lv,(topO q).tm,(topO q).op,(topO q).f.wEx ((topO q).f.ex++[tE q.x])⟩:Ov)::q.op.tail:=hz;rcases Al_List_mem_cons.1 hz' with e | hz
  ·subst e;exact blF_wEx t s.1 s.2
  ·exact h.op z (List.mem_of_mem_tail hz)
theorem fbd_step (hN:2<=N) (h:Fbd N q) (k:Fex q) (hi:q.c.i<N):Fbd N (stepP l q):=by
 unfold stepP;refine fbd_if (λ_=>?_) λ_=>fbd_operand h;unfold operatorP;cases q.c.sym l with
 | some i=>exact fbd_bet hN h
 | none =>
  show Fbd N (othP l q);unfold othP;exact fbd_if (λ_=>fbd_joi hN h) λ_=>fbd_if (λ_=>fbd_clg hN (fbd_red hN h) (fex_red k) hi) λ_=>fbd_at h
theorem fbd_ini:Fbd N iniP:=⟨λv h=>(by cases h),λo ho=>by rw [Al_List_mem_singleton.1 ho];exact blF_z⟩
/-! ### Where it ends, an operand stands ready -/
def Dnr (q:Ps):Prop:=q.dn=false\/q.rd=true
theorem dnr_if {c:Prop} [Decidable c] {a b:Ps} (h1:c->Dnr a) (h2:¬ c->Dnr b):Dnr (if c then a else b):=by
 by_cases hc:c
 ·rw [Al_if_pos hc];exact h1 hc
 ·rw [Al_if_neg hc];exact h2 hc
theorem dnr_step (hd:q.dn=false):Dnr (stepP l q):=by
 have pu {o:Ov} {c:Rq}:Dnr (pushS o (q.at c)):=.inl hd;have gi {v:Vl} {c:Rq}:Dnr (giveS v (q.at c)):=.inl hd;have at_ {c:Rq}:Dnr (q.at c):=.inl hd
 have opd:Dnr (operandP l q):=by
  unfold operandP;cases e:(if fmsB q then prefS l q else none) with
  | some q' =>
   split at e
   ·unfold prefS at e
    split at e
    ·injection e with e;subst e;exact pu
    split at e
    ·injection e with e;subst e;exact pu
    split at e
    ·injection e with e;subst e;exact pu
    split at e
    ·injection e with e;subst e;exact pu
    split at e
    ·injection e with e;subst e;exact pu
    split at e
    ·injection e with e;subst e;exact pu
    split at e
    ·injection e with e;subst e;exact pu
    ·cases e
   ·cases e
  | none =>
   show Dnr (restP l q);unfold restP re2P varP arrP
   refine dnr_if (λ_=>gi) λ_=>dnr_if (λ_=>pu) λ_=>dnr_if (λ_=>pu) λ_=>dnr_if (λ_=>gi) λ_=>dnr_if (λ_=>dnr_if (λ_=>dnr_if (λ_=>pu) λ_=>gi) λ_=>gi) λ_ =>
    dnr_if (λ_=>gi) λ_=>dnr_if (λ_=>gi) λ_=>dnr_if (λ_=>gi) λ_=>dnr_if (λ_=>gi) λ_=>dnr_if (λ_=>gi) λ_=>dnr_if (λ_=>pu) λ_=>dnr_if (λ_=>dnr_if (λ_=>.inl hd) λ_=>.inl hd) λ_=>at_
 unfold stepP;refine dnr_if (λhr=>?_) λ_=>opd;unfold operatorP;cases q.c.sym l with
 | some i =>
  show Dnr (betP l _ q);unfold betP;exact dnr_if (λ_=>dnr_if (λ_=>.inl hd) λ_=>.inl hd) λ_=>dnr_if (λ_=>dnr_if (λ_=>.inl hd) λ_=>.inl hd) λ_=>dnr_if (λ_=>.inl hd) λ_=>.inl hd
 | none =>
  show Dnr (othP l q);unfold othP joiP clgP;exact dnr_if (λ_=>dnr_if (λ_=>.inl hd) λ_=>.inl hd) λ_=>dnr_if (λ_=>dnr_if (λ_=>.inr hr) λ_=>dnr_if (λ_=>.inl hd) λ_=>dnr_if (λ_=>.inl hd) λ_=>dnr_if (λ_=>dnr_if (λ_=>.inl hd) λ_=>.inl hd) λ_=>dnr_if (λ_=>.inl hd) λ_=>dnr_if (λ_=>.inl hd) λ_=>.inl hd) λ_=>.inl hd
end
variable {H':Hp} {l:List Value}
theorem tok_rowF {x:TkS} (h:RepZ H 3 [dTk .u8 x.1] l):RepZ H' 3 (List.map (dTk .u8) (List.map (·.1) [x])) l:=by
 unfold RepZ at h;obtain ⟨a,y,rfl,_,h1,h2⟩:=h;unfold RepZ at h2;subst h2;rw [Al_List_append_nil];obtain ⟨rfl,_⟩:=tk_open h1;exact .single (tk_shut x.2) Z
theorem zf_rep (H:Hp):Rep H (dFm .u8 zF) [.int .u8 0,.string ⟨#[]⟩,.string ⟨#[]⟩,.int .i64 0,.int .i64 0,.slice none 0 0,.slice none 0 0]:=fm_shut (op:=0) (nm:=[]) (fd:=[]) (a:=0) (b:=0) (ex:=[]) (args:=[]) (by decide) (by decide) Rep.nil4 Rep.nil4
def muF (l:Tks) (q:Ps):Nat:=if q.fin then 0 else l.length - q.c.i
theorem mu_step {l:Tks} {q q':Ps} (h:¬ q.fin) (g:q'.fin\/q.c.i<q'.c.i) (hi:q.c.i<l.length):muF l q'<muF l q:=by
 unfold muF;rw [Al_if_neg h]
 split
 ·omega
 ·rename_i h2;rcases g with g | g
  ·exact absurd g h2
  ·omega
section
variable {c:Rq} {op:List Ov} {v:Vl} {V:List Vl} {bd rd dn:Bool} {x:Vb}
theorem end_er (h:¬ c.er=0):endP ⟨c,op,x,rd,dn⟩=(zF,c.off,c.er):=by unfold endP;exact Al_if_pos h
theorem end_bad (h:c.er=0) (hb:(bd || v.noF)=true):endP ⟨c,op,(v::V,bd),rd,dn⟩=(zF,0,6):=by
 unfold endP;rw [Al_if_neg (show ¬ ¬ c.er=0 by rw [h];decide),Al_if_pos (show (fS (v::V,bd)).2=true from hb)]
theorem end_chk (h:c.er=0) (hb:(bd || v.noF)=false) (hc:¬ fcheck v.fm=0):endP ⟨c,op,(v::V,bd),rd,dn⟩=(zF,0,fcheck v.fm):=by
 unfold endP;rw [Al_if_neg (show ¬ ¬ c.er=0 by rw [h];decide),Al_if_neg (show ¬ (fS (v::V,bd)).2=true by rw [show (fS (v::V,bd)).2=false from hb];decide)];exact Al_if_pos hc
theorem end_ok (h:c.er=0) (hb:(bd || v.noF)=false) (hc:fcheck v.fm=0):endP ⟨c,op,(v::V,bd),rd,dn⟩=(v.fm,0,0):=by
 unfold endP;rw [Al_if_neg (show ¬ ¬ c.er=0 by rw [h];decide),Al_if_neg (show ¬ (fS (v::V,bd)).2=true by rw [show (fS (v::V,bd)).2=false from hb];decide)];exact Al_if_neg (show ¬ ¬ fcheck v.fm=0 by rw [hc];decide)
end
set_option maxHeartbeats 4000000 in
theorem fparse_any (H:Hp) (G:Gl H) (Gt:Gf H) (t:Str) (hl:t.length<=400000) (w:World) (hA:Agr H w) :
 Calls prg 26 #[strV t] w λe W'=>∃ (cs:List Value) (H':Hp),Rep H' (dFm .u8 (parF (tksF t)).1) cs/\e=.returned (.tuple #[.agg cs.toArray,iN ((parF (tksF t)).2.1),iN ((parF (tksF t)).2.2)])/\Grow H w H' W':=by
 refine Sx.enterM (H:=H) func26 rfl ntmps26 rfl hA ?_;refine .sr<|.al Fx.zero35 Z λb2=>.a Z Z<|.a Z Z<|.ns<|.yw (.build Z (Fx.bld97_0 _))<|.blR (z:=11) Z (Fx.bsl98_1 _ _ _ _ _ _ _ _ _ _ _) Z Z (by simp [maxLen]) λb10=>.yw (.build Z (Fx.bld102_2 _ _ _))<|.bx Z Z Z λb12=>.al Fx.zero94 Z λb5=>.st .head Z Z Fx.size94 Z (nb Z) Z<|.nt<|.sq<|.sm Z<|.ct (X:=Nat) Fx.call54 Z (λW s=>lex_any H t W s.agr) Z λb1 H1 m1 u1=>.nt<|.bk<|?_
 refine Sx.row0 108 3 ?_;refine At.pm [0,2,1,3,4] [_,_,_,_,_] rfl rfl ?_
 refine At.rfB (α:=TkS) (Z:=Value × Nat × List Value) (N:=t.length+1) (e:=108) (T:=102) (TX:=108) (size:=3) (p:=b12) (fx:=[.box b5 [.pointer (some ⟨b12,0,none⟩)] 94,.row 97 11 (.slice (some ⟨b10,0,none⟩) 1 1) 1 [.int .u8 1,.int .i64 0,.bool false,.int .u8 0,.int .u8 0,.string ⟨#[]⟩,.string ⟨#[]⟩,.int .i64 0,.int .i64 0,.slice none 0 0,.slice none 0 0],.box b2 [.int .u8 0,.string ⟨#[]⟩,.string ⟨#[]⟩,.int .i64 0,.int .i64 0,.slice none 0 0,.slice none 0 0] 35]) (enc:=λx:TkS=>.agg (cTk .u8 x.1).toArray) (S:=λxs=>xs.map (·.1)=lexR t)
  (λpre z=>z.2.1=pre.length/\RepZ H1 3 ((pre.map (·.1)).map (dTk .u8)) z.2.2) (λz=>z.1) (λz=>z.2.1) (λz=>z.2.2) (λ_=>[.int .i64 0,.slice (some ⟨b10,0,none⟩) 1 1,.slice none 0 0,.bool false,.bool false,.bool false,.int .i64 0,.int .i64 0]) (.slice none 0 0,0,[])
  (λ_ b=>[(0,strV t),(5,.pointer (some ⟨b5,0,none⟩)),(6,.pointer (some ⟨b,0,none⟩))]) (λx=>cTk .u8 x.1) rfl (λ_ _=>run_callFunc Fx.call95) rfl (λw hA=>lex_seq H1 (G.up u1.up) t (by omega) (λx hx=>Al_Nat_le_trans (lexR_shortF t x hx) (by omega)) b1 m1 w hA) ⟨rfl,RepZ.nil⟩ rfl rfl ?_ ?_ ?_
 ·intro l x bs' K h;exact .rgI<|.alI Fx.zero108 Z λb=>.sWI .head Z Z Fx.size108 (by simp [cTk,Value.oneCell',strV]) Z<|.nlI<|.tN<|λa W f s=>h b a W (f.sub ⟨rfl,rfl,rfl,trivial⟩) s
 ·intro l' pre x z tl b H2 hC hlen u2 m2;obtain ⟨v,k,xs⟩:=z;obtain ⟨hk,hz⟩:=hC;dsimp only at hk hz|-;change At [] _ _ H2 w (.row 108 3 v k xs::.box b12 (v::[.int .i64 0,.slice (some ⟨b10,0,none⟩) 1 1,.slice none 0 0,.bool false,.bool false,.bool false,.int .i64 0,.int .i64 0]) 102::.box b5 [.pointer (some ⟨b12,0,none⟩)] 94::.row 97 11 (.slice (some ⟨b10,0,none⟩) 1 1) 1 [.int .u8 1,.int .i64 0,.bool false,.int .u8 0,.int .u8 0,.string ⟨#[]⟩,.string ⟨#[]⟩,.int .i64 0,.int .i64 0,.slice none 0 0,.slice none 0 0]::.box b2 [.int .u8 0,.string ⟨#[]⟩,.string ⟨#[]⟩,.int .i64 0,.int .i64 0,.slice none 0 0,.slice none 0 0] 35::tl) _;refine At.ra Hm λpv cv ev=>?_;subst ev;refine .bkI<|.flI (trip:=[(_,_,_),(_,_,_),(_,_,_),(_,_,_),(_,_,_),(_,_,_),(_,_,_),(_,_,_)]) 8 [(0,0),(1,0),(2,0),(3,0),(4,0),(5,0),(6,1),(7,3)] (by kernel_rfl) (by kernel_rfl) (by kernel_rfl) Z<|.lD Z Fx.agg94 mem2 Z<|.lD Z Fx.agg94 mem2 Z<|.nC Z<|.fA Z Fx.field102_0<|.lD Z Fx.agg99 mem1 Z<|.yw (.loadMW Z Fx.agg108 m2 Z)<|.blF Z (Fx.bsl99_1 _ _ _) Z λb22 H3 u3 m3=>.apD Fx.row99 Z (λ_ _=>.head) Z (Rep.mk (n:=1) (c:=1) (ds:=[dTk .u8 x.1]) m3 (.single (tk_shut x.2) Z) Z (Al_Nat_le_refl _) (by decide)) (by simp [maxLen];omega) (by omega) Z (λ_ _=>(.d3<|.d2<|.yv (.load Z Fx.agg94 mem2 Z)<|.nl)) λxs26 p26 c26 hz26=>.fn (tl:=[_,_,_]) Z<|.nC Z<|.fA Z Fx.field102_0<|.st upd1 Z Z Fx.size99 Z (nb Z) Z<|.nlQ<|.bN<|?_
  refine At.rE ((.slice p26 (k+1) c26,k+1,xs++xs26):Value × Nat × List Value) (u2.trans u3.up) ?_ rfl;exact ⟨by simp [hk],by rw [Al_List_map_append,Al_List_map_append];exact hz.app (tok_rowF hz26)⟩
 intro D ys z hS hC;obtain ⟨v,k,xs⟩:=z;obtain ⟨hk,hz⟩:=hC;dsimp only at hk hz|-;change At _ _ _ H1 w (.obj D (.deferred (some []))::.row 108 3 v k xs::.box b12 (v::[.int .i64 0,.slice (some ⟨b10,0,none⟩) 1 1,.slice none 0 0,.bool false,.bool false,.bool false,.int .i64 0,.int .i64 0]) 102::.box b5 [.pointer (some ⟨b12,0,none⟩)] 94::.row 97 11 (.slice (some ⟨b10,0,none⟩) 1 1) 1 [.int .u8 1,.int .i64 0,.bool false,.int .u8 0,.int .u8 0,.string ⟨#[]⟩,.string ⟨#[]⟩,.int .i64 0,.int .i64 0,.slice none 0 0,.slice none 0 0]::.box b2 [.int .u8 0,.string ⟨#[]⟩,.string ⟨#[]⟩,.int .i64 0,.int .i64 0,.slice none 0 0,.slice none 0 0] 35::[]) _;refine At.ra mem1 λpv cv ev=>?_;subst ev;have hkl:k<=t.length:=by have:=lexR_len t;rw [<-hS,Al_List_length_map] at this;omega
 refine .bN<|.tN<|.sq<|.fL 10 [(0,0),(1,0),(2,0),(3,0),(4,0),(5,0),(6,0),(7,0),(8,1),(9,3)]<|.lD Z Fx.agg94 mem3 Z<|.lD Z Fx.agg94 mem3 Z<|.nC Z<|.fA Z Fx.field102_0<|.lD Z Fx.agg99 mem2 Z<|.mv Z<|.yw (.lenS Fx.str9 Z)<|.yw (.build Z (Fx.bld108_2 _))<|.blF Z (Fx.bsl99_1 _ _ _) Z λb34 H3 u3 m3=>.apD Fx.row99 Z (λ_ _=>upd1) Z (Rep.mk (n:=1) (c:=1) (ds:=[dTk .u8 (endT t)]) m3 (.single (tk_shut (x:=endT t) (Al_Nat_zero_le _)) Z) Z (Al_Nat_le_refl _) (by decide)) (by simp [maxLen];omega) (by omega) Z (λ_ _=>(.d4<|.d3<|.yv (.load Z Fx.agg94 mem3 Z)<|.nl)) λxs35 p35 c35 hz35=>.fn (tl:=[_,_,_]) Z<|.nC Z<|.fA Z Fx.field102_0<|.st upd2 Z Z Fx.size99 Z (nb Z) Z<|?_
 refine At.pm [1,0,2,3,4,5] [_,_,_,_,_,_] rfl rfl ?_
 have hz2:RepZ H3 3 ((tksF t).map (dTk .u8)) (xs++xs35):=by
  unfold tksF;rw [Al_List_map_append,<-hS];exact (hz.up u3.up).app hz35
 have hlen:((tksF t).map (dTk .u8)).length=k+1:=by rw [Al_List_length_map,tksF_len,<-hS,Al_List_length_map,hk]
 refine freezeSeq hlen hz2 λH4 p4 c4 u4 e4 h4=>?_;injection e4 with e5 _ e6
 subst e5 e6;rw [Al_List_length_map] at hlen;rw [<-hlen]
 have K:Tkf H4 (tksF t) p35 c35:=⟨by rw [hlen];exact h4,tgd_of t,λx hx=>by
  rcases Al_List_mem_append.1 hx with hx | hx
  ·exact Al_Nat_le_trans (lexR_shortF t x hx) hl
  ·rw [Al_List_mem_singleton.1 hx];exact Al_Nat_zero_le _,by rw [tksF_len];have:=lexR_len t;omega,λx hx hk=>by
  rcases Al_List_mem_append.1 hx with hx | hx
  ·exact ⟨lexR_numF t x hx hk,(lexR_good t x hx).2.2⟩
  ·rw [Al_List_mem_singleton.1 hx] at hk;exact (by cases hk)⟩
 obtain ⟨p4,hp4⟩:∃ p,p=p35:=⟨_,rfl⟩;obtain ⟨c4,hc4⟩:∃ c,c=c35:=⟨_,rfl⟩;subst hp4 hc4;have G4:=((G.up u1.up).up u3.up).up u4.up;have GT4:=((Gt.up u1.up).up u3.up).up u4.up;refine Sx.row0 179 13 ?_;refine .nt<|.sq<|.bk<|.pm [2,4,0,1,3,5] [_,_,_,_,_,_] Z Z<|.lp (X:=Hp × Value × Value × List Value × List Value × List Res × Ps) [(2,_),(5,_)] ⟨rfl,rfl,trivial⟩ [_,_,_] (λz=>[]) (λz=>z.1) (λz=>[.box b12 [.slice p4 (tksF t).length c4,iN z.2.2.2.2.2.2.c.i,z.2.1,z.2.2.1,.bool z.2.2.2.2.2.2.rd,.bool z.2.2.2.2.2.2.dn,.bool z.2.2.2.2.2.2.x.2,iN z.2.2.2.2.2.2.c.off,iN z.2.2.2.2.2.2.c.er] 102,.row 97 11 (z.2.1) (z.2.2.2.2.2.2.op.length) (z.2.2.2.1),.row 179 13 (z.2.2.1) (z.2.2.2.2.2.2.x.1.length) (z.2.2.2.2.1)]++z.2.2.2.2.2.1) (λz=>HUp w H4 z.1/\Sq z.1 z.2.2.2.2.2.2 z.2.2.2.1 z.2.2.2.2.1 z.2.2.2.2.2.1/\Fwf (tksF t) z.2.2.2.2.2.2/\Fex z.2.2.2.2.2.2/\Fbd 600000 z.2.2.2.2.2.2/\Rch (tksF t) iniP z.2.2.2.2.2.2/\Dnr z.2.2.2.2.2.2) (λz=>muF (tksF t) z.2.2.2.2.2.2) (H4,.slice (some ⟨b10,0,none⟩) 1 1,.slice none 0 0,[.int .u8 1,.int .i64 0,.bool false,.int .u8 0,.int .u8 0,.string ⟨#[]⟩,.string ⟨#[]⟩,.int .i64 0,.int .i64 0,.slice none 0 0,.slice none 0 0],[],[],iniP) (λ_ s=>s) trivial ⟨.refl,⟨Ops.cons (xo:=[]) (AR:=[]) .nil (by decide) (FmR.zero Z Z (Al_Nat_zero_le _) (Al_Nat_zero_le _)),.nil⟩,wf_ini (by rw [tksF_len];exact Nat.succ_pos _),(λo ho=>by rw [Al_List_mem_singleton.1 ho];exact Al_Nat_zero_le _),fbd_ini,.refl,.inl Z⟩ λz hC=>?_
 obtain ⟨H5,ro,rv,xo,xv,AR,q1⟩:=z;obtain ⟨u5,S,Wq,FE,FB,RC,DR⟩:=hC;dsimp only at u5 S Wq FE FB RC DR|-;have K5:=K.up u5.up;refine Sx.reSt (λW s=>St.mid (a:=[_,_,_]) (d:=AR) (c:=[_,_,_]) (e:=[]) s) ?_;obtain ⟨q,op,x,rd,dn⟩:=q1;dsimp only;refine .sq<|.sr<|.lD Z Fx.agg94 mem4 Z<|.nC Z<|.fA Z Fx.field102_5<|.lD Z Fx.agg4 Hm Z<|.yw (.not Z)<|.mv Z<|.b2 (λh43=>?_) (λh43=>?_)
 ·have hd:dn=false:=by simpa using h43
  refine .gy (.load Z Fx.agg94 mem4 Z)<|.gy (.nilCheck Z)<|.gy (.fieldAddr Z Fx.field102_8)<|.gy (.load Z Fx.agg29 Hm Z)<|.gy (.eql Z Z)<|.yw (.pickT Z Z)<|.nt<|.cd Z (λh49=>?_) (λh49=>?_)
  ·have h0:q.er=0:=by have:=Al_of_decide_eq_true h49;omega
   have hnf:¬ (Ps.fin ⟨q,op,x,rd,dn⟩):=λe=>by
    rcases e with e | e
    ·rw [show dn=true from e] at hd;cases hd
    ·exact e h0
   have ST:=stp_step K.gd.last Wq hnf;have RS:=RC.trans (.one h0 hd rfl);have DS:=dnr_step (l:=tksF t) (q:=⟨q,op,x,rd,dn⟩) hd;have FS:=fbd_step (l:=tksF t) (by decide) FB FE (Al_Nat_lt_of_lt_of_le Wq.i K.few);have FT:=fex_step (l:=tksF t) FE;refine .sk<|.tN<|.bk<|.sr<|.lD Z Fx.agg94 mem4 Z<|.nC Z<|.fA Z Fx.field102_4<|.lD Z Fx.agg4 Hm Z<|.nt<|.cd Z (λh53=>?_) (λh53=>?_)
   ·have hr:rd=true:=h53;subst hr;refine .rg<|.lD Z Fx.agg94 mem4 Z<|.cs (X:=Hp × Value × Value × List Value × List Value × List Res) Fx.call55 Z (λW s=>operator_f K5 Wq S (GT4.up u5.up) h0 FE (St.mid (a:=[_,_,_]) (d:=[_,_,_]) (s.pickT (hd:=[_,_,_,_,_,_]) (tl:=(AR++[])) (hd':=[_,_,_,_,_,_]) [0,1,2,3,4,5] Z Z))) Z λz9 hz9=>?_
    obtain ⟨H6,ro6,rv6,xo6,xv6,AR6⟩:=z9;obtain ⟨u6,S⟩:=hz9;dsimp only at u6 S|-;refine Sx.reSt (λW s=>St.mid (a:=[_,_,_]) (d:=AR6) (c:=[_,_,_]) s) ?_;exact .nl<|.bN<|.tN<|.ag (x:=((H5,ro,rv,xo,xv,AR,(⟨q,op,x,true,dn⟩:Ps)):Hp × Value × Value × List Value × List Value × List Res × Ps)) (H6,ro6,rv6,xo6,xv6,AR6,stepP (tksF t) ⟨q,op,x,true,dn⟩) trivial ⟨rfl,rfl,trivial⟩ (λ_ s=>St.mid (a:=[_,_,_]) (d:=[_,_,_]) (c:=AR6) (e:=[]) s) ⟨u5.trans u6,S,ST.wf,FT,FS,RS,DS⟩ (mu_step hnf ST.go Wq.i)
   have hr:rd=false:=h53;subst hr;refine .rg<|.lD Z Fx.agg94 mem4 Z<|.cs (X:=Hp × Value × Value × List Value × List Value × List Res) Fx.call56 Z (λW s=>operand_f K5 Wq S (St.mid (a:=[_,_,_]) (d:=[_,_,_]) (s.pickT (hd:=[_,_,_,_,_,_]) (tl:=(AR++[])) (hd':=[_,_,_,_,_,_]) [0,1,2,3,4,5] Z Z))) Z λz9 hz9=>?_
   obtain ⟨H6,ro6,rv6,xo6,xv6,AR6⟩:=z9;obtain ⟨u6,S⟩:=hz9;dsimp only at u6 S|-;refine Sx.reSt (λW s=>St.mid (a:=[_,_,_]) (d:=AR6) (c:=[_,_,_]) s) ?_;exact .nl<|.bN<|.tN<|.ag (x:=((H5,ro,rv,xo,xv,AR,(⟨q,op,x,false,dn⟩:Ps)):Hp × Value × Value × List Value × List Value × List Res × Ps)) (H6,ro6,rv6,xo6,xv6,AR6,stepP (tksF t) ⟨q,op,x,false,dn⟩) trivial ⟨rfl,rfl,trivial⟩ (λ_ s=>St.mid (a:=[_,_,_]) (d:=[_,_,_]) (c:=AR6) (e:=[]) s) ⟨u5.trans u6,S,ST.wf,FT,FS,RS,DS⟩ (mu_step hnf ST.go Wq.i)
  have hfin:(Ps.fin ⟨q,op,x,rd,dn⟩):=.inr (λe=>Al_of_decide_eq_false h49 (by rw [show q.er=0 from e];rfl));refine .ex<|.eb<|.sq<|.sq<|?_
  have EP:parF (tksF t)=endP ⟨q,op,x,rd,dn⟩:=by unfold parF;rw [run_unique RC hfin (run_end K.gd.last (tksF t).length iniP (wf_ini (by rw [tksF_len];exact Nat.succ_pos _)) (by show _<=0+_;omega)).1]
  refine .rg<|.lD Z Fx.agg94 mem4 Z<|.nC Z<|.fA Z Fx.field102_8<|.lD Z Fx.agg29 Hm Z<|.yw (.neq Z Z)<|.nt<|.cd Z (λh62=>?_) (λh62=>?_)
  ·have hne:¬ q.er=0:=λe=>Al_of_decide_eq_true h62 (by rw [e];rfl);refine .sq<|.fL 11 [(0,0),(1,0),(2,0),(3,0),(4,0),(5,0),(6,0),(7,0),(8,0),(9,3),(10,0)]<|.yw (.build Z Fx.bld35)<|.lD Z Fx.agg94 mem4 Z<|.nC Z<|.fA Z Fx.field102_7<|.lD Z Fx.agg3 Hm Z<|.lD Z Fx.agg94 mem4 Z<|.nC Z<|.fA Z Fx.field102_8<|.lD Z Fx.agg29 Hm Z<|.sW upd5 Z Z Fx.size35 (by simp [Value.oneCell',strV]) Z ((.yv (.load Z Fx.agg29 Hm Z)<|.yv (.fieldAddr Z Fx.field102_8)<|.yv (.nilCheck Z)<|.yv (.load Z Fx.agg94 mem4 Z)<|.yv (.load Z Fx.agg3 Hm Z)<|.yv (.fieldAddr Z Fx.field102_7)<|.yv (.nilCheck Z)<|.yv (.load Z Fx.agg94 mem4 Z)<|.dn<|.nl))<|.a Z Z<|.fn (tl:=[_]) Z<|.az Z<|.tR<|?_
   refine Sx.retM (.inl rfl) upd3 ?_;refine y7 Z (.cons (.cell rfl Fx.agg35 mem5 rfl) (.cons (.tmp rfl) (.cons (.tmp rfl) .nil))) rfl λW s=>?_;rw [EP,end_er hne];exact ⟨[.int .u8 0,.string ⟨#[]⟩,.string ⟨#[]⟩,.int .i64 0,.int .i64 0,.slice none 0 0,.slice none 0 0],H5,zf_rep _,rfl,(((u1.trans u3).trans u4).trans u5).grow s⟩
  have he0:q.er=0:=by have:=Al_of_decide_eq_false h62;omega
  have hd:dn=true:=by
   rcases hfin with e | e
   ·exact e
   ·exact (e he0).elim
  have hr:rd=true:=by
   rcases DR with e | e
   ·rw [show dn=false from e] at hd;cases hd
   ·exact e
  subst hr;have hv1:1<=x.1.length:=by have:=Wq.vs;dsimp only at this;rw [this];exact Nat.le_add_left _ _
  obtain ⟨hn1,hn2⟩:=wf_len Wq K.few;dsimp only at hn1 hn2;obtain ⟨vs,bd⟩:=x;dsimp only at hv1 hn2;obtain ⟨v,V,rfl⟩:=list1 hv1;dsimp only [List.length_cons] at hn2;obtain ⟨yr,t0,t1,t2,e8,VS1,V1⟩:=VR.inv S.vls;try dsimp only at e8
  subst e8;have l1:=VS1.len;obtain ⟨q1,q2,ef,FR⟩:=fm_lay V1;have FBv:=vbn_fF FB.x;dsimp only;refine .sk<|.tN<|.sr<|.lD Z Fx.agg94 mem4 Z<|.cs (X:=Nat × Nat) Fx.call57 Z (λW s=>formula_f K5 Wq.i V1.one V1.e.nm (by omega) l1 (s.pickT (hd:=[_,_,_,_,_,_]) (tl:=(AR++[])) (hd':=[_,_,_,_,_,_]) [0,2,1,3,4,5] Z Z)) Z λp1 _=>?_
  rw [ef];refine .al Fx.zero35 Z λb7=>.sW .head Z Z Fx.size35 (by intro a ha;exact Rep.one FR.rep a ha) Z<|.nt<|.sq<|.sr<|.lD Z Fx.agg94 mem5 Z<|.nC Z<|.fA Z Fx.field102_6<|.lD Z Fx.agg4 mem1 Z<|.nt<|.cd Z (λh77=>?_) (λh77=>?_)
  ·have hbd:(bd || v.noF)=true:=h77;refine .sr<|.yw (.build Z Fx.bld35)<|.sX upd6 Z Z Fx.size35 Z<|.a Z Z<|.az Z<|.tR<|?_
   refine Sx.retM (.inl rfl) upd4 ?_;refine y7 Z (.cons (.cell rfl Fx.agg35 mem6 rfl) (.cons (.tmp rfl) (.cons (.tmp rfl) .nil))) rfl λW s=>?_;rw [EP,end_bad he0 hbd];exact ⟨[.int .u8 0,.string ⟨#[]⟩,.string ⟨#[]⟩,.int .i64 0,.int .i64 0,.slice none 0 0,.slice none 0 0],H5,zf_rep _,rfl,(((u1.trans u3).trans u4).trans u5).grow s⟩
  have hbd:(bd || v.noF)=false:=h77;refine .sk<|.tN<|.sq<|.sr<|.yw (.loadW Z Fx.agg35 Hm Z)<|.yw (.call Fx.call15 Z (λW s=>fcheck_any H5 (G4.up u5.up) (GT4.up u5.up) v.fm FBv _ W FR.rep s.agr))<|.a Z Z<|.ns<|.mv Z<|.yw (.neq Z Z)<|.nt<|.cd Z (λh82=>?_) (λh82=>?_)
  ·have hck:¬ fcheck v.fm=0:=λe=>Al_of_decide_eq_true h82 (by rw [e];rfl);refine .sr<|.yw (.build Z Fx.bld35)<|.mv Z<|.sX upd6 Z Z Fx.size35 Z<|.a Z Z<|.az Z<|.tR<|?_
   refine Sx.retM (.inl rfl) upd4 ?_;refine y7 Z (.cons (.cell rfl Fx.agg35 mem6 rfl) (.cons (.tmp rfl) (.cons (.tmp rfl) .nil))) rfl λW s=>?_;rw [EP,end_chk he0 hbd hck];exact ⟨[.int .u8 0,.string ⟨#[]⟩,.string ⟨#[]⟩,.int .i64 0,.int .i64 0,.slice none 0 0,.slice none 0 0],H5,zf_rep _,rfl,(((u1.trans u3).trans u4).trans u5).grow s⟩
  have hck:fcheck v.fm=0:=by have:=Al_of_decide_eq_false h82;omega
  refine .sk<|.tN<|.sr<|.yw (.loadW Z Fx.agg35 Hm Z)<|.sW upd6 Z Z Fx.size35 (by intro a ha;exact Rep.one FR.rep a ha) Z<|.a Z Z<|.az Z<|?_
  refine Sx.retM (.inl rfl) upd4 ?_;refine y7 Z (.cons (.cell rfl Fx.agg35 mem6 rfl) (.cons (.tmp rfl) (.cons (.tmp rfl) .nil))) rfl λW s=>?_;rw [EP,end_ok he0 hbd hck];exact ⟨cFm .u8 v.fm.op v.fm.nm v.fm.fd v.fm.a v.fm.b q1 q2,H5,FR.rep,rfl,(((u1.trans u3).trans u4).trans u5).grow s⟩
 have hd:dn=true:=by simpa using h43
 have hfin:(Ps.fin ⟨q,op,x,rd,dn⟩):=.inl hd;refine .gG<|.gG<|.gG<|.gG<|.gG<|.yw (.pickF Z Z)<|.nt<|.cF Z<|.ex<|.eb<|.sq<|.sq<|?_
 have EP:parF (tksF t)=endP ⟨q,op,x,rd,dn⟩:=by unfold parF;rw [run_unique RC hfin (run_end K.gd.last (tksF t).length iniP (wf_ini (by rw [tksF_len];exact Nat.succ_pos _)) (by show _<=0+_;omega)).1]
 refine .rg<|.lD Z Fx.agg94 mem4 Z<|.nC Z<|.fA Z Fx.field102_8<|.lD Z Fx.agg29 Hm Z<|.yw (.neq Z Z)<|.nt<|.cd Z (λh62=>?_) (λh62=>?_)
 ·have hne:¬ q.er=0:=λe=>Al_of_decide_eq_true h62 (by rw [e];rfl);refine .sq<|.fL 11 [(0,0),(1,0),(2,0),(3,0),(4,0),(5,0),(6,0),(7,0),(8,0),(9,3),(10,0)]<|.yw (.build Z Fx.bld35)<|.lD Z Fx.agg94 mem4 Z<|.nC Z<|.fA Z Fx.field102_7<|.lD Z Fx.agg3 Hm Z<|.lD Z Fx.agg94 mem4 Z<|.nC Z<|.fA Z Fx.field102_8<|.lD Z Fx.agg29 Hm Z<|.sW upd5 Z Z Fx.size35 (by simp [Value.oneCell',strV]) Z ((.yv (.load Z Fx.agg29 Hm Z)<|.yv (.fieldAddr Z Fx.field102_8)<|.yv (.nilCheck Z)<|.yv (.load Z Fx.agg94 mem4 Z)<|.yv (.load Z Fx.agg3 Hm Z)<|.yv (.fieldAddr Z Fx.field102_7)<|.yv (.nilCheck Z)<|.yv (.load Z Fx.agg94 mem4 Z)<|.dn<|.nl))<|.a Z Z<|.fn (tl:=[_]) Z<|.az Z<|.tR<|?_
  refine Sx.retM (.inl rfl) upd3 ?_;refine y7 Z (.cons (.cell rfl Fx.agg35 mem5 rfl) (.cons (.tmp rfl) (.cons (.tmp rfl) .nil))) rfl λW s=>?_;rw [EP,end_er hne];exact ⟨[.int .u8 0,.string ⟨#[]⟩,.string ⟨#[]⟩,.int .i64 0,.int .i64 0,.slice none 0 0,.slice none 0 0],H5,zf_rep _,rfl,(((u1.trans u3).trans u4).trans u5).grow s⟩
 have he0:q.er=0:=by have:=Al_of_decide_eq_false h62;omega
 have hd:dn=true:=by
  rcases hfin with e | e
  ·exact e
  ·exact (e he0).elim
 have hr:rd=true:=by
  rcases DR with e | e
  ·rw [show dn=false from e] at hd;cases hd
  ·exact e
 subst hr;have hv1:1<=x.1.length:=by have:=Wq.vs;dsimp only at this;rw [this];exact Nat.le_add_left _ _
 obtain ⟨hn1,hn2⟩:=wf_len Wq K.few;dsimp only at hn1 hn2;obtain ⟨vs,bd⟩:=x;dsimp only at hv1 hn2;obtain ⟨v,V,rfl⟩:=list1 hv1;dsimp only [List.length_cons] at hn2;obtain ⟨yr,t0,t1,t2,e8,VS1,V1⟩:=VR.inv S.vls;try dsimp only at e8
 subst e8;have l1:=VS1.len;obtain ⟨q1,q2,ef,FR⟩:=fm_lay V1;have FBv:=vbn_fF FB.x;dsimp only;refine .sk<|.tN<|.sr<|.lD Z Fx.agg94 mem4 Z<|.cs (X:=Nat × Nat) Fx.call57 Z (λW s=>formula_f K5 Wq.i V1.one V1.e.nm (by omega) l1 (s.pickT (hd:=[_,_,_,_,_,_]) (tl:=(AR++[])) (hd':=[_,_,_,_,_,_]) [0,2,1,3,4,5] Z Z)) Z λp1 _=>?_
 rw [ef];refine .al Fx.zero35 Z λb7=>.sW .head Z Z Fx.size35 (by intro a ha;exact Rep.one FR.rep a ha) Z<|.nt<|.sq<|.sr<|.lD Z Fx.agg94 mem5 Z<|.nC Z<|.fA Z Fx.field102_6<|.lD Z Fx.agg4 mem1 Z<|.nt<|.cd Z (λh77=>?_) (λh77=>?_)
 ·have hbd:(bd || v.noF)=true:=h77;refine .sr<|.yw (.build Z Fx.bld35)<|.sX upd6 Z Z Fx.size35 Z<|.a Z Z<|.az Z<|.tR<|?_
  refine Sx.retM (.inl rfl) upd4 ?_;refine y7 Z (.cons (.cell rfl Fx.agg35 mem6 rfl) (.cons (.tmp rfl) (.cons (.tmp rfl) .nil))) rfl λW s=>?_;rw [EP,end_bad he0 hbd];exact ⟨[.int .u8 0,.string ⟨#[]⟩,.string ⟨#[]⟩,.int .i64 0,.int .i64 0,.slice none 0 0,.slice none 0 0],H5,zf_rep _,rfl,(((u1.trans u3).trans u4).trans u5).grow s⟩
 have hbd:(bd || v.noF)=false:=h77;refine .sk<|.tN<|.sq<|.sr<|.yw (.loadW Z Fx.agg35 Hm Z)<|.yw (.call Fx.call15 Z (λW s=>fcheck_any H5 (G4.up u5.up) (GT4.up u5.up) v.fm FBv _ W FR.rep s.agr))<|.a Z Z<|.ns<|.mv Z<|.yw (.neq Z Z)<|.nt<|.cd Z (λh82=>?_) (λh82=>?_)
 ·have hck:¬ fcheck v.fm=0:=λe=>Al_of_decide_eq_true h82 (by rw [e];rfl);refine .sr<|.yw (.build Z Fx.bld35)<|.mv Z<|.sX upd6 Z Z Fx.size35 Z<|.a Z Z<|.az Z<|.tR<|?_
  refine Sx.retM (.inl rfl) upd4 ?_;refine y7 Z (.cons (.cell rfl Fx.agg35 mem6 rfl) (.cons (.tmp rfl) (.cons (.tmp rfl) .nil))) rfl λW s=>?_;rw [EP,end_chk he0 hbd hck];exact ⟨[.int .u8 0,.string ⟨#[]⟩,.string ⟨#[]⟩,.int .i64 0,.int .i64 0,.slice none 0 0,.slice none 0 0],H5,zf_rep _,rfl,(((u1.trans u3).trans u4).trans u5).grow s⟩
 have hck:fcheck v.fm=0:=by have:=Al_of_decide_eq_false h82;omega
 refine .sk<|.tN<|.sr<|.yw (.loadW Z Fx.agg35 Hm Z)<|.sW upd6 Z Z Fx.size35 (by intro a ha;exact Rep.one FR.rep a ha) Z<|.a Z Z<|.az Z<|?_
 refine Sx.retM (.inl rfl) upd4 ?_;refine y7 Z (.cons (.cell rfl Fx.agg35 mem6 rfl) (.cons (.tmp rfl) (.cons (.tmp rfl) .nil))) rfl λW s=>?_;rw [EP,end_ok he0 hbd hck];exact ⟨cFm .u8 v.fm.op v.fm.nm v.fm.fd v.fm.a v.fm.b q1 q2,H5,FR.rep,rfl,(((u1.trans u3).trans u4).trans u5).grow s⟩
def awk1:Str:=[111,110,99,101,91,48,44,32,53,93,32,40,97,114,114,105,118,101,115,32,102,114,111,110,116,46,103,101,116,40,95,44,32,55,41,32,97,110,100,32,110,111,116,32,102,108,97,103,32,115,108,111,119,41]
def awk2:Str:=[40,97,46,120,32,43,32,49,41,32,42,32,50,32,62,32,110,111,119]
def awf1:Fm:=.mk 13 [] [] 0 5 [] [.mk 9 [] [] 0 0 [] [.mk 7 [102,114,111,110,116] [103,101,116] 0 0 [.mk 0 [] 0 [],.mk 1 [] 7 []] [],.mk 8 [] [] 0 0 [] [.mk 6 [115,108,111,119] [] 0 0 [] []]]]
def awf2:Fm:=.mk 3 [] [] 0 0 [.mk 20 [] 0 [.mk 11 [] 0 [.mk 14 [] 0 [.mk 5 [97,46,120] 0 [],.mk 1 [] 1 []],.mk 1 [] 2 []],.mk 4 [] 0 []]] []
theorem awk1_par:parF (tksF awk1)=(awf1,0,0):=by kernel_rfl
theorem awk2_par:parF (tksF awk2)=(awf2,0,0):=by kernel_rfl
theorem awk1_txt:textF awf1=awk1:=by kernel_rfl
theorem fparse_ok (H:Hp) (GL:Gl H) (G:Gf H) (t:Str) (f:Fm) (hl:t.length<=400000) (hp:parF (tksF t)=(f,0,0)) (w:World) (hA:Agr H w) :
 Calls prg 26 #[strV t] w λe W'=>∃ (cs:List Value) (H':Hp),Rep H' (dFm .u8 f) cs/\e=.returned (.tuple #[.agg cs.toArray,.int .i64 0,.int .i64 0])/\Grow H w H' W':=by
 have h:=fparse_any H GL G t hl w hA;rw [hp] at h;exact h
theorem awk1_text (H:Hp) (GL:Gl H) (G:Gf H) (gq:Gq H) (cs:List Value) (w:World) (h:Rep H (dFm .u8 awf1) cs) (hA:Agr H w):Calls prg 19 #[.agg cs.toArray] w λr w'=>r=.returned (strV awk1)/\Ext w w':=by
 have h1:=fText_any H GL G gq awf1 (by decide +kernel) cs w h hA;rw [awk1_txt] at h1;exact h1
theorem awake_any (H:Hp) (GL:Gl H) (G:Gf H) (gq:Gq H) (w:World) (hA:Agr H w):Calls prg 13 #[] w λr w'=>r=.returned (.bool true)/\Ext w w':=by
 refine Sx.enter (H:=H) func13 rfl ntmps13 rfl hA ?_;refine .sr<|.a Z Z<|.ns<|.ct (X:=List Value) Fx.call26 Z (λW s=>fparse_ok H GL G awk1 awf1 (by decide) awk1_par W s.agr) Z λx1 H1 r1 u1=>?_
 have r1f:Rep H1 (dFm .u8 (Fm.mk 13 [] [] 0 5 [] [.mk 9 [] [] 0 0 [] [.mk 7 [102,114,111,110,116] [103,101,116] 0 0 [.mk 0 [] 0 [],.mk 1 [] 7 []] [],.mk 8 [] [] 0 0 [] [.mk 6 [115,108,111,119] [] 0 0 [] []]]])) x1:=r1;obtain ⟨p1,c1,p2,c2,rfl,hs1,hs2,_,_⟩:=fm_open r1f;obtain ⟨bE,oE,cE,hpE,rE,lE,mE⟩:=hs2.elem (i:=0) (d:=dFm .u8 (Fm.mk 9 [] [] 0 0 [] [.mk 7 [102,114,111,110,116] [103,101,116] 0 0 [.mk 0 [] 0 [],.mk 1 [] 7 []] [],.mk 8 [] [] 0 0 [] [.mk 6 [115,108,111,119] [] 0 0 [] []]])) rfl;cases hpE;obtain ⟨q1,d1,q2,d2,rfl,g1,g2,_,_⟩:=fm_open rE;refine .mv Z<|.yw (.extract Z Z)<|.yw (.extract Z Z)<|.yw (.extract Z Z)<|.al Fx.zero35 Z λb1=>.sW .head Z Z Fx.size35 (Rep.one r1) Z<|.a Z Z<|.aq Z<|.sq<|.sm Z<|.yw (.cast (.neq Z Z) (congrArg Value.bool (Al_decide_eq_false (λh=>h Z))))<|.mv Z<|.gy (.move Z)<|.gy (.cast (.neq Z Z) (congrArg Value.bool (Al_decide_eq_false (λh=>h Z))))<|.yw (.pickF Z Z)<|.mv Z<|.gy (.fieldAddr Z Fx.field35_0)<|.gy (.load Z Fx.agg31 Hm Z)<|.gy (.cast (.neq Z Z) (congrArg Value.bool (Al_decide_eq_false (λh=>h Z))))<|.yw (.pickF Z Z)<|.mv Z<|.gy (.fieldAddr Z Fx.field35_4)<|.gy (.load Z Fx.agg3 Hm Z)<|.gy (.cast (.neq Z Z) (congrArg Value.bool (Al_decide_eq_false (λh=>h Z))))<|.yw (.pickF Z Z)<|.mv Z<|.gy (.fieldAddr Z Fx.field35_6)<|.gy (.load Z Fx.agg33 Hm Z)<|.gy (.lenSl Fx.sl33 Z)<|.gy (.cast (.neq Z Z) (congrArg Value.bool (Al_decide_eq_false (λh=>h Z))))<|.yw (.pickF Z Z)<|.mv Z<|.gy (.fieldAddr Z Fx.field35_6)<|.gy (.load Z Fx.agg33 Hm Z)<|.gy (.indexSl Fx.sl33 Z Z (i:=0) Z (by decide) (q:=oE+0 * 7) Z)<|.gy (.fieldAddr Z Fx.field35_0)<|.gy (.loadM Z Fx.agg31 mE (k:=0) Z Z)<|.gy (.cast (.neq Z Z) (congrArg Value.bool (Al_decide_eq_false (λh=>h Z))))<|.yw (.pickF Z Z)<|.mv Z<|.gy (.loadW Z Fx.agg35 Hm Z)<|.gy (.call (v:=strV awk1) Fx.call19 Z (λW s=>awk1_text H1 (GL.up u1.up) (G.up u1.up) (gq.up u1.up) _ W r1 s.agr))<|.gy (.cast (.neS Z Z) (congrArg Value.bool (Al_decide_eq_false (λh=>h Z))))<|.yw (.pickF Z Z)<|.nt<|.cF Z<|.sk<|.tN<|.sr<|.ct (X:=List Value) Fx.call26 Z (λW s=>fparse_ok H1 (GL.up u1.up) (G.up u1.up) awk2 awf2 (by decide) awk2_par W s.agr) Z λx2 H2 r2 u2=>?_
 have r2f:Rep H2 (dFm .u8 (Fm.mk 3 [] [] 0 0 [(Ex.mk 20 [] 0 [(Ex.mk 11 [] 0 [.mk 14 [] 0 [.mk 5 [97,46,120] 0 [],.mk 1 [] 1 []],.mk 1 [] 2 []]),.mk 4 [] 0 []])] [])) x2:=r2;obtain ⟨p3,c3,p4,c4,rfl,hs3,hs4,_,_⟩:=fm_open r2f;obtain ⟨bF,oF,cF,hpF,rF,lF,mF⟩:=hs3.elem (i:=0) (d:=dEx .u8 (Ex.mk 20 [] 0 [(Ex.mk 11 [] 0 [.mk 14 [] 0 [.mk 5 [97,46,120] 0 [],.mk 1 [] 1 []],.mk 1 [] 2 []]),.mk 4 [] 0 []])) rfl;cases hpF;obtain ⟨p5,c5,rfl,hs5,_⟩:=ex_open rF;obtain ⟨bG,oG,cG,hpG,rG,lG,mG⟩:=hs5.elem (i:=0) (d:=dEx .u8 (Ex.mk 11 [] 0 [.mk 14 [] 0 [.mk 5 [97,46,120] 0 [],.mk 1 [] 1 []],.mk 1 [] 2 []])) rfl;cases hpG;obtain ⟨p6,c6,rfl,hs6,_⟩:=ex_open rG;refine .mv Z<|.yw (.extract Z Z)<|.yw (.extract Z Z)<|.yw (.extract Z Z)<|.al Fx.zero35 Z λb4=>.sW .head Z Z Fx.size35 (Rep.one r2) Z<|.a Z Z<|.a Z Z<|.ns<|.mv Z<|.yw (.cast (.eql Z Z) (congrArg Value.bool (Al_decide_eq_true Z)))<|.mv Z<|.gy (.fieldAddr Z Fx.field35_0)<|.gy (.load Z Fx.agg31 Hm Z)<|.gy (.cast (.eql Z Z) (congrArg Value.bool (Al_decide_eq_true Z)))<|.yw (.pickT Z Z)<|.mv Z<|.gy (.fieldAddr Z Fx.field35_5)<|.gy (.load Z Fx.agg32 Hm Z)<|.gy (.lenSl Fx.sl32 Z)<|.gy (.cast (.eql Z Z) (congrArg Value.bool (Al_decide_eq_true Z)))<|.yw (.pickT Z Z)<|.mv Z<|.gy (.fieldAddr Z Fx.field35_5)<|.gy (.load Z Fx.agg32 Hm Z)<|.gy (.indexSl Fx.sl32 Z Z (i:=0) Z (by decide) (q:=oF+0 * 4) Z)<|.gy (.fieldAddr Z Fx.field76_0)<|.gy (.loadM Z Fx.agg74 mF (k:=0) Z Z)<|.gy (.cast (.eql Z Z) (congrArg Value.bool (Al_decide_eq_true Z)))<|.yw (.pickT Z Z)<|.mv Z<|.gy (.fieldAddr Z Fx.field35_5)<|.gy (.load Z Fx.agg32 Hm Z)<|.gy (.indexSl Fx.sl32 Z Z (i:=0) Z (by decide) (q:=oF+0 * 4) Z)<|.gy (.fieldAddr Z Fx.field76_3)<|.gy (.loadM Z Fx.agg32 mF (k:=3) Z Z)<|.gy (.indexSl Fx.sl32 Z Z (i:=0) Z (by decide) (q:=oG+0 * 4) Z)<|.gy (.fieldAddr Z Fx.field76_0)<|.gy (.loadM Z Fx.agg74 mG (k:=0) Z Z)<|.gy (.cast (.eql Z Z) (congrArg Value.bool (Al_decide_eq_true Z)))<|.yw (.pickT Z Z)<|.az Z<|?_
 exact y9 Z Z λW s=>⟨Z,s.ext⟩
variable {N:Nat}
theorem gd_blE (hN:3<=N) (e:Ex) (h:Ex.all narrow e=true):blE N e=true:=by
 induction e using Ex.ind with | _ op nm n args ih
 rw [all_mk,narrow_mk,Al_Bool_and_eq_true,Al_decide_eq_true_eq,alls_allE,Al_List_all_eq_true] at h;exact blE_mk.2 ⟨by omega,λa ha=>ih a ha (h.2 a ha)⟩
theorem gd_blF (hN:4<=N) (f:Fm) (h:gdF f=true):blF N f=true:=by
 induction f using Fm.ind with | _ op nm fd a b ex args ih
 obtain ⟨⟨_,h1,h2,h3⟩,h4⟩:=gdF_mk.1 h;exact blF_mk.2 ⟨⟨by omega,by omega,λe he=>gd_blE (by omega) e (gdE_nar (h3 e he))⟩,λg hg=>ih g hg (h4 g hg)⟩
theorem Fx.call24:callN prg 24=true:=by kernel_rfl
set_option maxHeartbeats 2000000 in
theorem formulaEquals_any (H:Hp) (GL:Gl H) (G:Gf H) (gq:Gq H) (l m:List Nf) (v u:Value) (h:Rep H (.seq 8 (l.map dNf)) [v]) (k:Rep H (.seq 8 (m.map dNf)) [u]) (w:World) (hA:Agr H w) :
 Calls prg 6 #[v,u] w λr w'=>r=.returned (.bool true)/\Ext w w':=by
 refine Sx.enter (H:=H) func6 rfl ntmps6 rfl hA ?_;refine .sr<|.aq Z<|.sq<|.sr<|.yw (.call Fx.call13 Z (λW s=>awake_any H GL G gq W s.agr))<|.yw (.not Z)<|.nt<|.cF Z<|.sk<|.tN<|.sm Z<|.ct (X:=List Value) Fx.call14 Z (λW s=>buildF34_any H l v h W s.agr) Z λx1 H1 hx1 u1=>?_
 obtain ⟨g1,r1,hg1,hc1⟩:=hx1;have kk1:=k.up u1.up;refine .mv Z<|.ct (X:=List Value) Fx.call14 Z (λW s=>buildF34_any H1 m u kk1 W s.agr) Z λx2 H2 hx2 u2=>?_
 obtain ⟨g2,r2,hg2,hc2⟩:=hx2;replace r1:=r1.up u2.up;refine .al Fx.zero27 Z λb5=>.al Fx.zero27 Z λb6=>.sV upd1 Z Z Fx.size27 (fm_len r1) r1.one Z<|.sV .head Z Z Fx.size27 (fm_len r2) r2.one Z<|.nt<|.sq<|.fL 16 [(0,0),(2,0),(5,0),(6,0),(1,1),(3,1),(4,0),(7,0),(8,0),(9,0),(10,0),(12,0),(11,1),(13,1),(14,0),(15,0)]<|.yw (.loadW Z Fx.agg27 mem1 (fm_len r1))<|.yw (.loadW Z Fx.agg27 Hm (fm_len r2))<|.yw (.loadW Z Fx.agg27 mem1 (fm_len r1))<|.yw (.loadW Z Fx.agg27 Hm (fm_len r2))<|.ct (X:=List Value) Fx.call16 Z (λW s=>form_any g1 hg1 H2 _ W r1 s.agr) Z λx3 H3 hx3 uH3=>?_
 have r2a:=r2.up uH3.up;refine .ct (X:=List Value) Fx.call16 Z (λW s=>form_any g2 hg2 H3 _ W r2a s.agr) Z λx4 H4 hx4 uH4=>?_;have hx3a:=hx3.up uH4.up;have r1b:=(r1.up uH3.up).up uH4.up;have r2b:=r2a.up uH4.up;refine .yw (.call Fx.call24 Z (λW s=>fequal_any H4 g1 g2 4 (gd_blF (by decide) g1 hg1) (by omega) (by decide) _ _ W hx3a hx4 s.agr))<|.yw (.call Fx.call25 Z (λW s=>fsame_any H4 g1 g2 _ _ W r1b r2b s.agr))<|.yw (.cast (.eqlB Fx.bool4 Z Z) (congrArg Value.bool (beq_self_eq_true _)))<|.mv Z<|.yg Z Z (.loadW Z Fx.agg27 mem1 (fm_len r1)) Z<|.yg Z Z (.loadW Z Fx.agg27 mem1 (fm_len r1)) Z<|.gd Z Z<|.ct (X:=List Value) Fx.call16 Z (λW s=>form_any g1 hg1 H4 _ W r1b s.agr) Z λx5 H5 hx5 uH5=>?_
 have r1c:=r1b.up uH5.up;refine .gd Z Z<|.ct (X:=List Value) Fx.call16 Z (λW s=>form_any g1 hg1 H5 _ W r1c s.agr) Z λx6 H6 hx6 uH6=>?_
 have hx5a:=hx5.up uH6.up;refine .yg Z Z (.cast (.call Fx.call24 Z (λW s=>fequal_any H6 g1 g1 4 (gd_blF (by decide) g1 hg1) (by omega) (by decide) _ _ W hx5a hx6 s.agr)) (congrArg Value.bool (eqP_iff.2 Z))) Z<|.yw (.pickT Z Z)<|.fn (tl:=[_]) Z<|.az Z<|?_
 exact y9 Z Z λW s=>⟨Z,(((((u1.trans u2).trans uH3).trans uH4).trans uH5).trans uH6 |>.grow s).ext⟩
variable {H:Type} {enc:TypeId × Value->H}
variable {f:FuncId}
theorem wrap {a:Assume} {C:Checked} {os:Os} {fn:Func} {s:ChangeSpec} {conds:List PathCond} {apart fresh handsOn again:Bool} {X:World->Array Value->Prop} 
 (hX:∀ (w w':World) (args:Array Value),w.heap=w'.heap->X w args->X w' args)
 (own:ownKnob C.prog.godebug=none) (started:os.Started) (noInit:C.prog.inits.idxOf? f=none) (hfn:C.prog.funcs[f]? = some fn)
 (witness:∃ (w:World) (tape:Tape) (i:Input),w.os=os/\(w.forCall tape i).Shaped C.prog/\i.vars=[]/\Input.okWide C.prog (w.forCall tape i) .any w.heap.size f i /\
  ((s.pre enc C.prog fn conds apart (w.forCall tape i).memory i.args/\X (w.forCall tape i).memory i.args)/\sizedMet enc C.prog fn (OpenSpec.ofChange s) apart (w.forCall tape i).memory i.args)/\a.holds C.prog (lone (Frame.enter C.prog f i.args .normal) [] (w.forCall tape i)))
 (contract:∀ (W:World) (base:Nat) (args:Array Value) (ds gs:List (DataW H)) (before:List MemPlace),
  (∀ (j:Nat) t v,fn.params[j]? = some t->args[j]? = some v->Value.okWide C.prog W .any base t v) ->
  DataW.Whole enc C.prog fn.params.toList s.vars apart W args.toList ds gs before ->
  X W args->W.ShapedOpen C.prog ->
  Calls C.prog f args W λe W'=>∃ v,e=.returned v/\s.post enc C.prog fn apart fresh handsOn again W args v W') :
 ReturnsInHanded a C os f .any (λw args=>(s.pre enc C.prog fn conds apart w args/\X w args)/\sizedMet enc C.prog fn (OpenSpec.ofChange s) apart w args) (s.post enc C.prog fn apart fresh handsOn again):=by
 refine returnsInHanded_of_calls own started noInit witness ?_;intro w tape i _ hsh _ hok hpre _;obtain ⟨_,_,_,fn',hfn',_,_,_,_,hval⟩:=hok;have e:fn'=fn:=Al_Option_some_inj (hfn'.symm.trans hfn);subst e;obtain ⟨⟨⟨ds,gs,before,hw,_⟩,hx⟩,_⟩:=hpre;have hw':=DataW.Whole.of_heap (w':=w.forCall tape i) (by rfl) hw;refine (contract (w.forCall tape i) w.heap.size i.args ds gs before hval hw' (hX _ _ _ (by rfl) hx) hsh).mono λe W' ⟨v,he,hp⟩=>?_;subst he;exact ChangeSpec.post_blind hp

theorem own:ownKnob prg.godebug=none:=by kernel_rfl
def laids:List (String × DataW Unit):=[("math/bits.deBruijn32tab",Rows.laid_math_bits_deBruijn32tab),("math/bits.deBruijn64tab",Rows.laid_math_bits_deBruijn64tab),("internal/strconv.uint64pow10",Rows.laid_internal_strconv_uint64pow10),("rootcause/lexer.words",Rows.laid_rootcause_lexer_words),("rootcause/lexer.symbols",Rows.laid_rootcause_lexer_symbols),("rootcause/formula.shapes",Rows.laid_rootcause_formula_shapes),("rootcause/formula.symbols",Rows.laid_rootcause_formula_symbols),("rootcause/formula.words",Rows.laid_rootcause_formula_words)]
theorem gTab:prg.globalNamed "internal/strconv.uint64pow10" = some 6:=by kernel_rfl
theorem gTabT:(prg.globals[6]?).map (·.type)=some 257:=by kernel_rfl
theorem cellsTab:prg.cellsOf 257=20:=by kernel_rfl
theorem cellsTabE:prg.cellsOf 242=1:=by kernel_rfl
theorem tabEq:(Rows.laid_internal_strconv_uint64pow10:DataW Unit)=Lib.tabData .u64 Lib.pow10Tab:=by kernel_rfl
theorem gt_of (h:laidMet prg laids W):Gq (allH W):=by
 intro W' hA;have h1:Lib.TabIs prg W "internal/strconv.uint64pow10" .u64 Lib.pow10Tab:=Lib.tabIs_of_head gTab gTabT Tryz.underlying257 Tryz.underlying242 cellsTabE cellsTab (tabEq ▸ h.tail.tail);unfold Lib.TabIs World.var? at *;rw [gTab] at *;simp only [Al_Option_bind_some] at *
 split at h1
 ·rename_i cs T m hb;rw [hA 6 _ hb];exact h1
 ·cases h1
theorem gl_of (h:laidMet prg laids W):Gl (allH W) :=
 ⟨laid_mem (t:=235) (.arr 39 .strg) _ (by kernel_rfl) (by kernel_rfl) (by kernel_rfl) (by kernel_rfl) (by kernel_rfl) h.tail.tail.tail,
  laid_mem (t:=217) (.arr 25 .strg) _ (by kernel_rfl) (by kernel_rfl) (by kernel_rfl) (by kernel_rfl) (by kernel_rfl) h.tail.tail.tail.tail⟩
theorem gf_of (h:laidMet prg laids W):Gf (allH W) :=
 ⟨laid_mem (t:=163) (.arr 19 .strg) _ (by kernel_rfl) (by kernel_rfl) (by kernel_rfl) (by kernel_rfl) (by kernel_rfl) h.tail.tail.tail.tail.tail.tail.tail,
  laid_mem (t:=165) (.arr 22 .strg) _ (by kernel_rfl) (by kernel_rfl) (by kernel_rfl) (by kernel_rfl) (by kernel_rfl) h.tail.tail.tail.tail.tail.tail,
  laid_mem (t:=200) (.arr 19 (.str [.int .u8,.bool,.bool,.bool,.bool,.int .u8,.int .u8])) _ (by kernel_rfl) (by kernel_rfl) (by kernel_rfl) (by kernel_rfl) (by kernel_rfl) h.tail.tail.tail.tail.tail⟩
theorem laid_met (os:Os) (args:Array Value):laidMet prg laids ((World.laidAll prg os laids).forCall (λ_ _=>0) ⟨#[],args,[]⟩).memory :=
 laidMet_laidAll _ (by kernel_rfl) (by kernel_rfl)
theorem laid_shaped (os:Os) (args:Array Value):((World.laidAll prg os laids).forCall (λ_ _=>0) ⟨#[],args,[]⟩).Shaped prg :=
 World.shaped_of_ZipB (by kernel_rfl) (by kernel_rfl)
variable {W':World}
theorem ext_kept (h:Ext W W'):∀ may,W.keptBut W' may:=λmay=>(Ext.below h).frame may
theorem laidOut:laidOutB prg=true:=by kernel_rfl
end Go.Proofs.YtidclioghdbphaaGreatDoor
/- The walk lifted: for every input, rootcauselaw34.FormulaEquals returns true, and its arguments read as they did (the tied card FormulaEqualsCardSaid). Conditions: the card's own (the listed package variables read as the program's initialisers lay them, tied to the text), and no others. -/
namespace Go.Proofs.YtidclioghdbphaaGreatDoor
open Go.RowKit Go.Par Go.Sx
theorem node_of {x:D} (h:Ty.has (.str [.int .u8,.int .u8,.int .u8,.bool,.int .i64]) x):∃ y:Nd,x=dNd y:=by
 simp only [Ty.has,Ty.hasL] at h;obtain ⟨_,rfl,_,_,rfl,⟨a,rfl,ha⟩,_,_,rfl,⟨b,rfl,hb⟩,_,_,rfl,⟨c,rfl,hc⟩,_,_,rfl,⟨o,rfl⟩,_,_,rfl,⟨n,rfl,hn⟩,rfl⟩:=h;obtain ⟨a,rfl⟩:=has_u8 ha;obtain ⟨b,rfl⟩:=has_u8 hb;obtain ⟨c,rfl⟩:=has_u8 hc;obtain ⟨n,rfl⟩:=has_i64 hn;exact ⟨⟨a,b,c,o,n⟩,Z⟩
theorem u8d_of {x:D} (h:Ty.has (.int .u8) x):∃ y:UInt8,x=.val (.int .u8 y.toNat):=by
 simp only [Ty.has] at h;obtain ⟨n,rfl,hn⟩:=h;obtain ⟨a,rfl⟩:=has_u8 hn;exact ⟨a,Z⟩
theorem i64_of {x:D} (h:Ty.has (.int .i64) x):∃ y:Int64,x=.val (.int .i64 y.toInt):=by
 simp only [Ty.has] at h;obtain ⟨n,rfl,hn⟩:=h;obtain ⟨a,rfl⟩:=has_i64 hn;exact ⟨a,Z⟩
theorem seq_of {α:Type} {f:α->D} {τ:Ty} {x:D} (k:∀ y,Ty.has τ y->∃ z,y=f z) (h:Ty.has (.seq τ) x):∃ l:List α,x=.seq τ.cells (l.map f):=by
 unfold Ty.has at h;obtain ⟨ds,rfl,h1⟩:=h;obtain ⟨l,rfl⟩:=list_of (f:=f) λx hx=>k x (h1 x hx);exact ⟨l,Z⟩
theorem nf_of {x:D} (h:Ty.has (.str [.int .u8,.int .u8,.int .u8,.int .u8,.bool,.int .i64,.int .i64,.seq (.str [.int .u8,.int .u8,.int .u8,.bool,.int .i64])]) x):∃ y:Nf,x=dNf y:=by
 rw [Ty.has] at h;obtain ⟨ds,rfl,h⟩:=h;simp only [Ty.hasL] at h;obtain ⟨_,_,rfl,h1,_,_,rfl,h2,_,_,rfl,h3,_,_,rfl,h4,_,_,rfl,h5,_,_,rfl,h6,_,_,rfl,h7,_,_,rfl,h8,rfl⟩:=h;obtain ⟨a,rfl⟩:=u8d_of h1;obtain ⟨b,rfl⟩:=u8d_of h2;obtain ⟨c,rfl⟩:=u8d_of h3;obtain ⟨d,rfl⟩:=u8d_of h4;simp only [Ty.has] at h5;obtain ⟨o,rfl⟩:=h5;obtain ⟨m,rfl⟩:=i64_of h6;obtain ⟨n,rfl⟩:=i64_of h7;obtain ⟨l,rfl⟩:=seq_of (f:=dNd) (λ_=>node_of) h8;exact ⟨⟨a,b,c,d,o,m,n,l⟩,Z⟩
variable {W:World} {b:Nat} {v:Value}
theorem open_nodes {H:Type} {enc:TypeId × Value->H} {base:Nat} {sp:Nat->Bool} {held:Bool} {d:DataW H} {p:List MemPlace} (hv:Value.okWide prg W .any b 22 v) (h:DataW.Trod enc prg W base sp held 22 v d p) :
 ∃ l:List Nf,Rep (allH W) (.seq 8 (l.map dNf)) [v]:=by
 obtain ⟨a0,n0,c0,rfl⟩:=Go.WideShapes.okWide_slice Tryz.underlying22 hv;obtain ⟨fuel,hf⟩:=h;obtain ⟨d,hd,hr⟩:=Ty.opens W (.seq (.str [.int .u8,.int .u8,.int .u8,.int .u8,.bool,.int .i64,.int .i64,.seq (.str [.int .u8,.int .u8,.int .u8,.bool,.int .i64])])) 22 fuel _ _ (by kernel_rfl) (by kernel_rfl) hf;obtain ⟨l,rfl⟩:=seq_of (f:=dNf) (λ_=>nf_of) hd;exact ⟨l,hr⟩
namespace formulaEquals
open Go.ChangeShapes Go.WideShapes Go.ChangeAt Go.RowKit
open Go.ChangeMaps (open_string shut_string)
theorem lifted (os:Os) (started:os.Started) (H:Type) (enc:TypeId × Value->H) :
 ReturnsInHanded {} Tryz.checked os 6 .any (λw args=>(Rows.formulaEqualsSpec.pre enc prg Tryz.f6 [] false w args/\laidMet prg laids w)/\sizedMet enc prg Tryz.f6 (OpenSpec.ofChange Rows.formulaEqualsSpec) false w args)
  (Rows.formulaEqualsSpec.post enc prg Tryz.f6 false true false false):=by
 refine wrap (C:=Tryz.checked) (X:=λw _=>laidMet prg laids w) (λ_ _ _ hh h=>h.of_heap hh) own started (by kernel_rfl) Tryz.func6
  (ChangeSpec.witness_shaped (enc:=enc) (C:=Tryz.checked) (os:=os) (X:=λw _=>laidMet prg laids w) false (World.laidAll prg os laids) #[.slice none 0 0,.slice none 0 0] 8 (World.laidAll_os _ _ _) (laid_shaped os _) (by kernel_rfl) (by kernel_rfl) (by kernel_rfl) (laid_met os _)) ?_
 intro W base args ds gs before hval0 hW hL hS;have GL:=gl_of hL;have G:=gf_of hL;have gq:=gt_of hL;have hval:∀ (j:Nat) t v,Tryz.f6.params[j]? = some t->args[j]? = some v->Value.okWide prg W .any base t v:=hval0;have hW':=hW;obtain ⟨p,q,hA0,hV,rfl,hfz,hnd⟩:=hW;have hA:DataW.TrodAll enc prg W 0 (λ_=>true) true Tryz.f6.params.toList args.toList ds p:=hA0;rw [Tryz.params6] at hA hval;obtain ⟨v0,v1,d0,d1,p0,p1,rfl,rfl,rfl,h0,h1⟩:=trodAll_two hA;obtain ⟨rfl,rfl⟩:=trodVars_none hV;have k0:=h0;have hlt0:∀ x∈p0,x.block<W.heap.size:=λx hx=>hW'.lt x (by simp [hx]);have k1:=h1;have hlt1:∀ x∈p1,x.block<W.heap.size:=λx hx=>hW'.lt x (by simp [hx]);obtain ⟨l0,hr0⟩:=open_nodes (hval 0 22 v0 rfl rfl) h0;obtain ⟨l1,hr1⟩:=open_nodes (hval 1 22 v1 rfl rfl) h1;clear hA0 hval0;simp only [Al_List_append_nil] at hW';refine (formulaEquals_any (allH W) GL G gq l0 l1 v0 v1 hr0 hr1 W (allH_agr W)).mono λe W' ⟨he,hg⟩=>?_;subst he;refine ⟨_,Z,_,_,_,[],(p0++p1),[],hW',?_,?_,Z,ext_kept hg _,λh=>by cases h⟩
 ·exact trodAll_mk1 (shut_bool Tryz.underlying4 _)
 ·exact trodAll_mk2 (Below.trod laidOut (by kernel_rfl) (Al_of_decide_eq_true (by kernel_rfl)) k0 hg.below hlt0) (Below.trod laidOut (by kernel_rfl) (Al_of_decide_eq_true (by kernel_rfl)) k1 hg.below hlt1)
end formulaEquals
end Go.Proofs.YtidclioghdbphaaGreatDoor
