/- Texts of the proof, one behind the other. -/
import Derived.Test.YtidclioghdbphaaGreatDoorMd
set_option linter.all false
set_option maxRecDepth 100000
namespace Go.Proofs.YtidclioghdbphaaGreatDoor
open Go.RowKit Go.Par Go.Sx Tryz
variable {k:Nat}
theorem all_take {l:List Ex} {p:Ex->Bool} (hk:k<l.length) (h:(l.take k).all p=true) (hp:p l[k]=true):(l.take (k+1)).all p=true:=by
 rw [List.take_succ,List.all_append,h,List.getElem?_eq_getElem hk];simp [hp]
theorem all_at {l:List Ex} {p:Ex->Bool} (hk:k<l.length) (hp:p l[k]=false):l.all p=false:=List.all_eq_false.2 ⟨_,Al_List_getElem_mem hk,by rw [hp];decide⟩
theorem termBs_allF:∀ l,termBs l=l.all termB
 | []=>rfl
 | e::r=>by rw [termBs,Al_List_all_cons,termBs_allF r]
theorem operands_any (H:Hp) (op:UInt8) (nm:Str) (nn:Int64) (args:List Ex) (n:Nat) (cs:List Value) (w:World) (h:Rep H (dEx .u8 (.mk op nm nn args)) cs) (ht:∀ a∈args,(∀ (cs:List Value) (W:World),Rep H (dEx .u8 a) cs->Agr H W->Calls prg 79 #[.agg cs.toArray] W λr W'=>r=.returned (.bool (termB a))/\Ext W W')) (hA:Agr H w) :
 Calls prg 132 #[.agg cs.toArray,iN n] w λr w'=>r=.returned (.bool (args.all termB && decide (args.length=n)))/\Ext w w':=by
 obtain ⟨pp,c,rfl,hs,hnm⟩:=ex_open h;have hcap:=hs.cap;refine Sx.enter (H:=H) func132 rfl ntmps132 rfl hA ?_;refine .sr<|.bx Z Z Z λb2=>.aq Z<|.sq<|.sr<|.fA Z Fx.field76_3<|.lD Z Fx.agg32 Hm Z<|.yw (.lenSl Fx.sl32 Z)<|.mv Z<|.nt<|.bk<|.lp (X:=Nat) [(1,_),(2,_),(8,_),(9,_)] ⟨Z,Z,Z,Z,Jt⟩ [_] (λk=>[(10,iN k)]) (λk=>H) (λk=>[]) (λk=>k<=args.length/\(args.take k).all termB=true) (λk=>args.length - k) 0 (λ_ s=>s) ⟨Z,Jt⟩ ⟨Al_Nat_zero_le _,Z⟩ λk hC=>?_
 obtain ⟨hk0,hal⟩:=hC;refine .sr<|.yw (.lss Z Z)<|.nt<|.sq<|.ce Z (λh11=>?_) (λh11=>?_)
 ·have hk:k<args.length:=by omega
  obtain ⟨bE,oE,cE,hpE,rE,lE,mE⟩:=hs.elem (map_at (f:=dEx .u8) hk);cases hpE;refine .sk<|.tN<|.sq<|.bk<|.sr<|.yw (.indexSl Fx.sl32 Z Z Z (by omega) (q:=oE+k * 4) Z)<|.yw (.loadMW Z Fx.agg76 mE lE)<|.al Fx.zero76 Z λb6=>.sV .head Z Z Fx.size76 lE rE.one Z<|.ns<|.yw (.loadW Z Fx.agg76 Hm lE)<|.yw (.call Fx.call79 Z (λW s=>ht _ (Al_List_getElem_mem hk) cE W rE s.agr))<|.yw (.not Z)<|.nt<|.cd Z (λh16=>?_) (λh16=>?_)
  ·refine .sr<|.az Z<|.bR<|.tR<|.tR<|.bR<|.tR<|?_
   refine y9 Z Z λW s=>⟨?_,s.ext⟩
   first
    | (rw [all_at hk (by simpa using h16)];rfl)
    | (rw [hal,Al_Bool_true_and])
  exact .sk<|.bN<|.tN<|.rg<|.yw (.add Z Z w7)<|.mv Z<|.nt<|.ag (k+1) ⟨Z,Jt⟩ ⟨Z,Z,Z,Z,Jt⟩ (λ_ s=>s.pick [1] [_] Z Z) ⟨by omega,all_take hk hal (by simpa using h16)⟩ (by omega)
 obtain rfl:k=args.length:=by omega
 rw [Al_List_take_length] at hal;refine .ex<|.eb<|.sr<|.fA Z Fx.field76_3<|.lD Z Fx.agg32 Hm Z<|.yw (.lenSl Fx.sl32 Z)<|.mv Z<|.yw (.cast (.eql Z Z) (congrArg Value.bool n0))<|.az Z<|?_
 refine y9 Z Z λW s=>⟨?_,s.ext⟩
 first
  | (rw [all_at hk (by simpa using h16)];rfl)
  | (rw [hal,Al_Bool_true_and])
theorem tb1 {op:UInt8} {nm:Str} {n:Int64} {args:List Ex} (h:op=1):termB (.mk op nm n args)=(decide (nm=[]) && decide (0<=n.toInt) && decide (args.length=0)):=by rw [termB,Al_if_pos h]
theorem tb4 {op:UInt8} {nm:Str} {n:Int64} {args:List Ex} (h:op=4):termB (.mk op nm n args)=(decide (nm=[]) && decide (n=0) && decide (args.length=0)):=by subst h;rw [termB,Al_if_neg (by decide),Al_if_pos rfl]
theorem tb5 {op:UInt8} {nm:Str} {n:Int64} {args:List Ex} (h:op=5\/op=8):termB (.mk op nm n args)=(decide (n=0) && decide (args.length=0)):=by
 rw [termB,Al_if_neg (by rcases h with rfl | rfl <;> decide),Al_if_neg (by rcases h with rfl | rfl <;> decide),Al_if_pos h]
theorem tb6 {op:UInt8} {nm:Str} {n:Int64} {args:List Ex} (h:op=6):termB (.mk op nm n args)=(decide (n=0) && (args.all termB && decide (args.length=1))):=by
 subst h;rw [termB,Al_if_neg (by decide),Al_if_neg (by decide),Al_if_neg (by decide),Al_if_pos rfl,termBs_allF]
theorem tb9 {op:UInt8} {nm:Str} {n:Int64} {args:List Ex} (h:op=9):termB (.mk op nm n args)=(decide (nm=[]) && decide (n=0) && (args.all termB && decide (args.length=1))):=by
 subst h;rw [termB,Al_if_neg (by decide),Al_if_neg (by decide),Al_if_neg (by decide),Al_if_neg (by decide),Al_if_pos rfl,termBs_allF]
theorem tbb {op:UInt8} {nm:Str} {n:Int64} {args:List Ex} (h:op=11\/op=12\/op=13\/op=14\/op=15):termB (.mk op nm n args)=(decide (nm=[]) && decide (n=0) && (args.all termB && decide (args.length=2))):=by
 have e:∀ k:UInt8,k<11->¬ op=k:=by
  intro k hk e;subst e;rcases h with rfl | rfl | rfl | rfl | rfl <;> exact absurd hk (by decide)
 rw [termB,Al_if_neg (e 1 (by decide)),Al_if_neg (e 4 (by decide)),Al_if_neg (by rintro (h | h);exact e 5 (by decide) h;exact e 8 (by decide) h),Al_if_neg (e 6 (by decide)),Al_if_neg (e 9 (by decide)),Al_if_pos h,termBs_allF]
theorem tbn {op:UInt8} {nm:Str} {n:Int64} {args:List Ex} (h1:¬ op=1) (h4:¬ op=4) (h5:¬ op=5) (h8:¬ op=8) (h6:¬ op=6) (h9:¬ op=9) (a:¬ op=11) (b:¬ op=12) (c:¬ op=13) (d:¬ op=14) (e:¬ op=15):termB (.mk op nm n args)=false:=by
 rw [termB,Al_if_neg h1,Al_if_neg h4,Al_if_neg (Al_not_or.2 ⟨h5,h8⟩),Al_if_neg h6,Al_if_neg h9,Al_if_neg (by rintro (h | h | h | h | h);exact a h;exact b h;exact c h;exact d h;exact e h)]
set_option maxHeartbeats 1000000 in
theorem isTerm_any (H:Hp) (e:Ex):(∀ (cs:List Value) (W:World),Rep H (dEx .u8 e) cs->Agr H W->Calls prg 79 #[.agg cs.toArray] W λr W'=>r=.returned (.bool (termB e))/\Ext W W'):=by
 induction e using Ex.ind with | _ op nm nn args ih
 intro cs w h hA;obtain ⟨pp,c,rfl,hs,hnm⟩:=ex_open h;refine Sx.enter (H:=H) func79 rfl ntmps79 rfl hA ?_;refine .sr<|.bx Z Z Z λb1=>.aq Z<|.sq<|.sr<|.fA Z Fx.field76_0<|.lD Z Fx.agg74 Hm Z<|.nt<|.bk<|.sr<|.yw (.eql Z Z)<|.aq Z<|.cd Z (λh5=>?_) (λh5=>?_)
 ·have q1:op=1:=Al_UInt8_toNat_inj.1 (by have:=Al_of_decide_eq_true h5;show op.toNat=1;omega);refine .sr<|.fA Z Fx.field76_1<|.lD Z Fx.agg9 Hm Z<|.yw (.eqS Z Z)<|.mv Z<|.b2 (λh10=>?_) (λh10=>?_)
  ·refine .gy (.fieldAddr Z Fx.field76_2)<|.gy (.load Z Fx.agg2 Hm Z)<|.gy (.geq Z Z)<|.yw (.pickT Z Z)<|.mv Z<|.b2 (λh15=>?_) (λh15=>?_)
   ·refine .gy (.fieldAddr Z Fx.field76_3)<|.gy (.load Z Fx.agg32 Hm Z)<|.gy (.lenSl Fx.sl32 Z)<|.gy (.cast (.eql Z Z) (congrArg Value.bool er0))<|.yw (.pickT Z Z)<|.az Z<|.bR<|.tR<|?_
    refine y9 Z Z λW s=>⟨?_,s.ext⟩
    first
     | (rw [tb1 q1,h10,h15];simp only [Al_Bool_true_and,Al_Bool_false_and,Al_Bool_and_true,Bool.and_false])
     | (rw [tb1 q1,h10,h15];rfl)
     | (rw [tb1 q1,h10];simp only [Al_Bool_true_and,Al_Bool_false_and,Al_Bool_and_true,Bool.and_false])
     | (rw [tb1 q1,h10];rfl)
     | (rw [tb4 q4,h26,h31];simp only [Al_Bool_true_and,Al_Bool_false_and,Al_Bool_and_true,Bool.and_false])
     | (rw [tb4 q4,h26,h31];rfl)
     | (rw [tb4 q4,h26];simp only [Al_Bool_true_and,Al_Bool_false_and,Al_Bool_and_true,Bool.and_false])
     | (rw [tb4 q4,h26];rfl)
     | (rw [tb5 (.inl q58),h43];simp only [Al_Bool_true_and,Al_Bool_false_and,Al_Bool_and_true,Bool.and_false])
     | (rw [tb5 (.inl q58),h43];rfl)
     | (rw [tb5 (.inr q58),h43];simp only [Al_Bool_true_and,Al_Bool_false_and,Al_Bool_and_true,Bool.and_false])
     | (rw [tb5 (.inr q58),h43];rfl)
     | (rw [tb6 q6,h54];simp only [Al_Bool_true_and,Al_Bool_false_and,Al_Bool_and_true,Bool.and_false])
     | (rw [tb6 q6,h54];rfl)
     | (rw [tb9 q9,h63,h68];simp only [Al_Bool_true_and,Al_Bool_false_and,Al_Bool_and_true,Bool.and_false])
     | (rw [tb9 q9,h63,h68];rfl)
     | (rw [tb9 q9,h63];simp only [Al_Bool_true_and,Al_Bool_false_and,Al_Bool_and_true,Bool.and_false])
     | (rw [tb9 q9,h63];rfl)
     | (rw [tbb (.inl qb),h81,h86];simp only [Al_Bool_true_and,Al_Bool_false_and,Al_Bool_and_true,Bool.and_false])
     | (rw [tbb (.inl qb),h81,h86];rfl)
     | (rw [tbb (.inl qb),h81];simp only [Al_Bool_true_and,Al_Bool_false_and,Al_Bool_and_true,Bool.and_false])
     | (rw [tbb (.inl qb),h81];rfl)
     | (rw [tbb (.inr (.inl qb)),h81,h86];simp only [Al_Bool_true_and,Al_Bool_false_and,Al_Bool_and_true,Bool.and_false])
     | (rw [tbb (.inr (.inl qb)),h81,h86];rfl)
     | (rw [tbb (.inr (.inl qb)),h81];simp only [Al_Bool_true_and,Al_Bool_false_and,Al_Bool_and_true,Bool.and_false])
     | (rw [tbb (.inr (.inl qb)),h81];rfl)
     | (rw [tbb (.inr (.inr (.inl qb))),h81,h86];simp only [Al_Bool_true_and,Al_Bool_false_and,Al_Bool_and_true,Bool.and_false])
     | (rw [tbb (.inr (.inr (.inl qb))),h81,h86];rfl)
     | (rw [tbb (.inr (.inr (.inl qb))),h81];simp only [Al_Bool_true_and,Al_Bool_false_and,Al_Bool_and_true,Bool.and_false])
     | (rw [tbb (.inr (.inr (.inl qb))),h81];rfl)
     | (rw [tbb (.inr (.inr (.inr (.inl qb)))),h81,h86];simp only [Al_Bool_true_and,Al_Bool_false_and,Al_Bool_and_true,Bool.and_false])
     | (rw [tbb (.inr (.inr (.inr (.inl qb)))),h81,h86];rfl)
     | (rw [tbb (.inr (.inr (.inr (.inl qb)))),h81];simp only [Al_Bool_true_and,Al_Bool_false_and,Al_Bool_and_true,Bool.and_false])
     | (rw [tbb (.inr (.inr (.inr (.inl qb)))),h81];rfl)
     | (rw [tbb (.inr (.inr (.inr (.inr qb)))),h81,h86];simp only [Al_Bool_true_and,Al_Bool_false_and,Al_Bool_and_true,Bool.and_false])
     | (rw [tbb (.inr (.inr (.inr (.inr qb)))),h81,h86];rfl)
     | (rw [tbb (.inr (.inr (.inr (.inr qb)))),h81];simp only [Al_Bool_true_and,Al_Bool_false_and,Al_Bool_and_true,Bool.and_false])
     | (rw [tbb (.inr (.inr (.inr (.inr qb)))),h81];rfl)
     | (rw [tbn q1 q4 q585 q588 q6 q9 qb11 qb12 qb13 qb14 qb15])
   refine .gG<|.gG<|.gG<|.gG<|.yw (.pickF Z Z)<|.az Z<|.bR<|.tR<|?_
   refine y9 Z Z λW s=>⟨?_,s.ext⟩
   first
    | (rw [tb1 q1,h10,h15];simp only [Al_Bool_true_and,Al_Bool_false_and,Al_Bool_and_true,Bool.and_false])
    | (rw [tb1 q1,h10,h15];rfl)
    | (rw [tb1 q1,h10];simp only [Al_Bool_true_and,Al_Bool_false_and,Al_Bool_and_true,Bool.and_false])
    | (rw [tb1 q1,h10];rfl)
    | (rw [tb4 q4,h26,h31];simp only [Al_Bool_true_and,Al_Bool_false_and,Al_Bool_and_true,Bool.and_false])
    | (rw [tb4 q4,h26,h31];rfl)
    | (rw [tb4 q4,h26];simp only [Al_Bool_true_and,Al_Bool_false_and,Al_Bool_and_true,Bool.and_false])
    | (rw [tb4 q4,h26];rfl)
    | (rw [tb5 (.inl q58),h43];simp only [Al_Bool_true_and,Al_Bool_false_and,Al_Bool_and_true,Bool.and_false])
    | (rw [tb5 (.inl q58),h43];rfl)
    | (rw [tb5 (.inr q58),h43];simp only [Al_Bool_true_and,Al_Bool_false_and,Al_Bool_and_true,Bool.and_false])
    | (rw [tb5 (.inr q58),h43];rfl)
    | (rw [tb6 q6,h54];simp only [Al_Bool_true_and,Al_Bool_false_and,Al_Bool_and_true,Bool.and_false])
    | (rw [tb6 q6,h54];rfl)
    | (rw [tb9 q9,h63,h68];simp only [Al_Bool_true_and,Al_Bool_false_and,Al_Bool_and_true,Bool.and_false])
    | (rw [tb9 q9,h63,h68];rfl)
    | (rw [tb9 q9,h63];simp only [Al_Bool_true_and,Al_Bool_false_and,Al_Bool_and_true,Bool.and_false])
    | (rw [tb9 q9,h63];rfl)
    | (rw [tbb (.inl qb),h81,h86];simp only [Al_Bool_true_and,Al_Bool_false_and,Al_Bool_and_true,Bool.and_false])
    | (rw [tbb (.inl qb),h81,h86];rfl)
    | (rw [tbb (.inl qb),h81];simp only [Al_Bool_true_and,Al_Bool_false_and,Al_Bool_and_true,Bool.and_false])
    | (rw [tbb (.inl qb),h81];rfl)
    | (rw [tbb (.inr (.inl qb)),h81,h86];simp only [Al_Bool_true_and,Al_Bool_false_and,Al_Bool_and_true,Bool.and_false])
    | (rw [tbb (.inr (.inl qb)),h81,h86];rfl)
    | (rw [tbb (.inr (.inl qb)),h81];simp only [Al_Bool_true_and,Al_Bool_false_and,Al_Bool_and_true,Bool.and_false])
    | (rw [tbb (.inr (.inl qb)),h81];rfl)
    | (rw [tbb (.inr (.inr (.inl qb))),h81,h86];simp only [Al_Bool_true_and,Al_Bool_false_and,Al_Bool_and_true,Bool.and_false])
    | (rw [tbb (.inr (.inr (.inl qb))),h81,h86];rfl)
    | (rw [tbb (.inr (.inr (.inl qb))),h81];simp only [Al_Bool_true_and,Al_Bool_false_and,Al_Bool_and_true,Bool.and_false])
    | (rw [tbb (.inr (.inr (.inl qb))),h81];rfl)
    | (rw [tbb (.inr (.inr (.inr (.inl qb)))),h81,h86];simp only [Al_Bool_true_and,Al_Bool_false_and,Al_Bool_and_true,Bool.and_false])
    | (rw [tbb (.inr (.inr (.inr (.inl qb)))),h81,h86];rfl)
    | (rw [tbb (.inr (.inr (.inr (.inl qb)))),h81];simp only [Al_Bool_true_and,Al_Bool_false_and,Al_Bool_and_true,Bool.and_false])
    | (rw [tbb (.inr (.inr (.inr (.inl qb)))),h81];rfl)
    | (rw [tbb (.inr (.inr (.inr (.inr qb)))),h81,h86];simp only [Al_Bool_true_and,Al_Bool_false_and,Al_Bool_and_true,Bool.and_false])
    | (rw [tbb (.inr (.inr (.inr (.inr qb)))),h81,h86];rfl)
    | (rw [tbb (.inr (.inr (.inr (.inr qb)))),h81];simp only [Al_Bool_true_and,Al_Bool_false_and,Al_Bool_and_true,Bool.and_false])
    | (rw [tbb (.inr (.inr (.inr (.inr qb)))),h81];rfl)
    | (rw [tbn q1 q4 q585 q588 q6 q9 qb11 qb12 qb13 qb14 qb15])
  refine .gG<|.gG<|.gG<|.yw (.pickF Z Z)<|.mv Z<|.gG<|.gG<|.gG<|.gG<|.yw (.pickF Z Z)<|.az Z<|.bR<|.tR<|?_
  refine y9 Z Z λW s=>⟨?_,s.ext⟩
  first
   | (rw [tb1 q1,h10,h15];simp only [Al_Bool_true_and,Al_Bool_false_and,Al_Bool_and_true,Bool.and_false])
   | (rw [tb1 q1,h10,h15];rfl)
   | (rw [tb1 q1,h10];simp only [Al_Bool_true_and,Al_Bool_false_and,Al_Bool_and_true,Bool.and_false])
   | (rw [tb1 q1,h10];rfl)
   | (rw [tb4 q4,h26,h31];simp only [Al_Bool_true_and,Al_Bool_false_and,Al_Bool_and_true,Bool.and_false])
   | (rw [tb4 q4,h26,h31];rfl)
   | (rw [tb4 q4,h26];simp only [Al_Bool_true_and,Al_Bool_false_and,Al_Bool_and_true,Bool.and_false])
   | (rw [tb4 q4,h26];rfl)
   | (rw [tb5 (.inl q58),h43];simp only [Al_Bool_true_and,Al_Bool_false_and,Al_Bool_and_true,Bool.and_false])
   | (rw [tb5 (.inl q58),h43];rfl)
   | (rw [tb5 (.inr q58),h43];simp only [Al_Bool_true_and,Al_Bool_false_and,Al_Bool_and_true,Bool.and_false])
   | (rw [tb5 (.inr q58),h43];rfl)
   | (rw [tb6 q6,h54];simp only [Al_Bool_true_and,Al_Bool_false_and,Al_Bool_and_true,Bool.and_false])
   | (rw [tb6 q6,h54];rfl)
   | (rw [tb9 q9,h63,h68];simp only [Al_Bool_true_and,Al_Bool_false_and,Al_Bool_and_true,Bool.and_false])
   | (rw [tb9 q9,h63,h68];rfl)
   | (rw [tb9 q9,h63];simp only [Al_Bool_true_and,Al_Bool_false_and,Al_Bool_and_true,Bool.and_false])
   | (rw [tb9 q9,h63];rfl)
   | (rw [tbb (.inl qb),h81,h86];simp only [Al_Bool_true_and,Al_Bool_false_and,Al_Bool_and_true,Bool.and_false])
   | (rw [tbb (.inl qb),h81,h86];rfl)
   | (rw [tbb (.inl qb),h81];simp only [Al_Bool_true_and,Al_Bool_false_and,Al_Bool_and_true,Bool.and_false])
   | (rw [tbb (.inl qb),h81];rfl)
   | (rw [tbb (.inr (.inl qb)),h81,h86];simp only [Al_Bool_true_and,Al_Bool_false_and,Al_Bool_and_true,Bool.and_false])
   | (rw [tbb (.inr (.inl qb)),h81,h86];rfl)
   | (rw [tbb (.inr (.inl qb)),h81];simp only [Al_Bool_true_and,Al_Bool_false_and,Al_Bool_and_true,Bool.and_false])
   | (rw [tbb (.inr (.inl qb)),h81];rfl)
   | (rw [tbb (.inr (.inr (.inl qb))),h81,h86];simp only [Al_Bool_true_and,Al_Bool_false_and,Al_Bool_and_true,Bool.and_false])
   | (rw [tbb (.inr (.inr (.inl qb))),h81,h86];rfl)
   | (rw [tbb (.inr (.inr (.inl qb))),h81];simp only [Al_Bool_true_and,Al_Bool_false_and,Al_Bool_and_true,Bool.and_false])
   | (rw [tbb (.inr (.inr (.inl qb))),h81];rfl)
   | (rw [tbb (.inr (.inr (.inr (.inl qb)))),h81,h86];simp only [Al_Bool_true_and,Al_Bool_false_and,Al_Bool_and_true,Bool.and_false])
   | (rw [tbb (.inr (.inr (.inr (.inl qb)))),h81,h86];rfl)
   | (rw [tbb (.inr (.inr (.inr (.inl qb)))),h81];simp only [Al_Bool_true_and,Al_Bool_false_and,Al_Bool_and_true,Bool.and_false])
   | (rw [tbb (.inr (.inr (.inr (.inl qb)))),h81];rfl)
   | (rw [tbb (.inr (.inr (.inr (.inr qb)))),h81,h86];simp only [Al_Bool_true_and,Al_Bool_false_and,Al_Bool_and_true,Bool.and_false])
   | (rw [tbb (.inr (.inr (.inr (.inr qb)))),h81,h86];rfl)
   | (rw [tbb (.inr (.inr (.inr (.inr qb)))),h81];simp only [Al_Bool_true_and,Al_Bool_false_and,Al_Bool_and_true,Bool.and_false])
   | (rw [tbb (.inr (.inr (.inr (.inr qb)))),h81];rfl)
   | (rw [tbn q1 q4 q585 q588 q6 q9 qb11 qb12 qb13 qb14 qb15])
 have q1:¬ op=1:=λe=>Al_of_decide_eq_false h5 (by rw [e];rfl);refine .sr<|.yw (.eql Z Z)<|.aq Z<|.cd Z (λh21=>?_) (λh21=>?_)
 ·have q4:op=4:=Al_UInt8_toNat_inj.1 (by have:=Al_of_decide_eq_true h21;show op.toNat=4;omega);refine .sr<|.fA Z Fx.field76_1<|.lD Z Fx.agg9 Hm Z<|.yw (.eqS Z Z)<|.mv Z<|.b2 (λh26=>?_) (λh26=>?_)
  ·refine .gy (.fieldAddr Z Fx.field76_2)<|.gy (.load Z Fx.agg2 Hm Z)<|.gy (.cast (.eql Z Z) (congrArg Value.bool i0))<|.yw (.pickT Z Z)<|.mv Z<|.b2 (λh31=>?_) (λh31=>?_)
   ·refine .gy (.fieldAddr Z Fx.field76_3)<|.gy (.load Z Fx.agg32 Hm Z)<|.gy (.lenSl Fx.sl32 Z)<|.gy (.cast (.eql Z Z) (congrArg Value.bool er0))<|.yw (.pickT Z Z)<|.az Z<|.bR<|.tR<|?_
    refine y9 Z Z λW s=>⟨?_,s.ext⟩
    first
     | (rw [tb1 q1,h10,h15];simp only [Al_Bool_true_and,Al_Bool_false_and,Al_Bool_and_true,Bool.and_false])
     | (rw [tb1 q1,h10,h15];rfl)
     | (rw [tb1 q1,h10];simp only [Al_Bool_true_and,Al_Bool_false_and,Al_Bool_and_true,Bool.and_false])
     | (rw [tb1 q1,h10];rfl)
     | (rw [tb4 q4,h26,h31];simp only [Al_Bool_true_and,Al_Bool_false_and,Al_Bool_and_true,Bool.and_false])
     | (rw [tb4 q4,h26,h31];rfl)
     | (rw [tb4 q4,h26];simp only [Al_Bool_true_and,Al_Bool_false_and,Al_Bool_and_true,Bool.and_false])
     | (rw [tb4 q4,h26];rfl)
     | (rw [tb5 (.inl q58),h43];simp only [Al_Bool_true_and,Al_Bool_false_and,Al_Bool_and_true,Bool.and_false])
     | (rw [tb5 (.inl q58),h43];rfl)
     | (rw [tb5 (.inr q58),h43];simp only [Al_Bool_true_and,Al_Bool_false_and,Al_Bool_and_true,Bool.and_false])
     | (rw [tb5 (.inr q58),h43];rfl)
     | (rw [tb6 q6,h54];simp only [Al_Bool_true_and,Al_Bool_false_and,Al_Bool_and_true,Bool.and_false])
     | (rw [tb6 q6,h54];rfl)
     | (rw [tb9 q9,h63,h68];simp only [Al_Bool_true_and,Al_Bool_false_and,Al_Bool_and_true,Bool.and_false])
     | (rw [tb9 q9,h63,h68];rfl)
     | (rw [tb9 q9,h63];simp only [Al_Bool_true_and,Al_Bool_false_and,Al_Bool_and_true,Bool.and_false])
     | (rw [tb9 q9,h63];rfl)
     | (rw [tbb (.inl qb),h81,h86];simp only [Al_Bool_true_and,Al_Bool_false_and,Al_Bool_and_true,Bool.and_false])
     | (rw [tbb (.inl qb),h81,h86];rfl)
     | (rw [tbb (.inl qb),h81];simp only [Al_Bool_true_and,Al_Bool_false_and,Al_Bool_and_true,Bool.and_false])
     | (rw [tbb (.inl qb),h81];rfl)
     | (rw [tbb (.inr (.inl qb)),h81,h86];simp only [Al_Bool_true_and,Al_Bool_false_and,Al_Bool_and_true,Bool.and_false])
     | (rw [tbb (.inr (.inl qb)),h81,h86];rfl)
     | (rw [tbb (.inr (.inl qb)),h81];simp only [Al_Bool_true_and,Al_Bool_false_and,Al_Bool_and_true,Bool.and_false])
     | (rw [tbb (.inr (.inl qb)),h81];rfl)
     | (rw [tbb (.inr (.inr (.inl qb))),h81,h86];simp only [Al_Bool_true_and,Al_Bool_false_and,Al_Bool_and_true,Bool.and_false])
     | (rw [tbb (.inr (.inr (.inl qb))),h81,h86];rfl)
     | (rw [tbb (.inr (.inr (.inl qb))),h81];simp only [Al_Bool_true_and,Al_Bool_false_and,Al_Bool_and_true,Bool.and_false])
     | (rw [tbb (.inr (.inr (.inl qb))),h81];rfl)
     | (rw [tbb (.inr (.inr (.inr (.inl qb)))),h81,h86];simp only [Al_Bool_true_and,Al_Bool_false_and,Al_Bool_and_true,Bool.and_false])
     | (rw [tbb (.inr (.inr (.inr (.inl qb)))),h81,h86];rfl)
     | (rw [tbb (.inr (.inr (.inr (.inl qb)))),h81];simp only [Al_Bool_true_and,Al_Bool_false_and,Al_Bool_and_true,Bool.and_false])
     | (rw [tbb (.inr (.inr (.inr (.inl qb)))),h81];rfl)
     | (rw [tbb (.inr (.inr (.inr (.inr qb)))),h81,h86];simp only [Al_Bool_true_and,Al_Bool_false_and,Al_Bool_and_true,Bool.and_false])
     | (rw [tbb (.inr (.inr (.inr (.inr qb)))),h81,h86];rfl)
     | (rw [tbb (.inr (.inr (.inr (.inr qb)))),h81];simp only [Al_Bool_true_and,Al_Bool_false_and,Al_Bool_and_true,Bool.and_false])
     | (rw [tbb (.inr (.inr (.inr (.inr qb)))),h81];rfl)
     | (rw [tbn q1 q4 q585 q588 q6 q9 qb11 qb12 qb13 qb14 qb15])
   refine .gG<|.gG<|.gG<|.gG<|.yw (.pickF Z Z)<|.az Z<|.bR<|.tR<|?_
   refine y9 Z Z λW s=>⟨?_,s.ext⟩
   first
    | (rw [tb1 q1,h10,h15];simp only [Al_Bool_true_and,Al_Bool_false_and,Al_Bool_and_true,Bool.and_false])
    | (rw [tb1 q1,h10,h15];rfl)
    | (rw [tb1 q1,h10];simp only [Al_Bool_true_and,Al_Bool_false_and,Al_Bool_and_true,Bool.and_false])
    | (rw [tb1 q1,h10];rfl)
    | (rw [tb4 q4,h26,h31];simp only [Al_Bool_true_and,Al_Bool_false_and,Al_Bool_and_true,Bool.and_false])
    | (rw [tb4 q4,h26,h31];rfl)
    | (rw [tb4 q4,h26];simp only [Al_Bool_true_and,Al_Bool_false_and,Al_Bool_and_true,Bool.and_false])
    | (rw [tb4 q4,h26];rfl)
    | (rw [tb5 (.inl q58),h43];simp only [Al_Bool_true_and,Al_Bool_false_and,Al_Bool_and_true,Bool.and_false])
    | (rw [tb5 (.inl q58),h43];rfl)
    | (rw [tb5 (.inr q58),h43];simp only [Al_Bool_true_and,Al_Bool_false_and,Al_Bool_and_true,Bool.and_false])
    | (rw [tb5 (.inr q58),h43];rfl)
    | (rw [tb6 q6,h54];simp only [Al_Bool_true_and,Al_Bool_false_and,Al_Bool_and_true,Bool.and_false])
    | (rw [tb6 q6,h54];rfl)
    | (rw [tb9 q9,h63,h68];simp only [Al_Bool_true_and,Al_Bool_false_and,Al_Bool_and_true,Bool.and_false])
    | (rw [tb9 q9,h63,h68];rfl)
    | (rw [tb9 q9,h63];simp only [Al_Bool_true_and,Al_Bool_false_and,Al_Bool_and_true,Bool.and_false])
    | (rw [tb9 q9,h63];rfl)
    | (rw [tbb (.inl qb),h81,h86];simp only [Al_Bool_true_and,Al_Bool_false_and,Al_Bool_and_true,Bool.and_false])
    | (rw [tbb (.inl qb),h81,h86];rfl)
    | (rw [tbb (.inl qb),h81];simp only [Al_Bool_true_and,Al_Bool_false_and,Al_Bool_and_true,Bool.and_false])
    | (rw [tbb (.inl qb),h81];rfl)
    | (rw [tbb (.inr (.inl qb)),h81,h86];simp only [Al_Bool_true_and,Al_Bool_false_and,Al_Bool_and_true,Bool.and_false])
    | (rw [tbb (.inr (.inl qb)),h81,h86];rfl)
    | (rw [tbb (.inr (.inl qb)),h81];simp only [Al_Bool_true_and,Al_Bool_false_and,Al_Bool_and_true,Bool.and_false])
    | (rw [tbb (.inr (.inl qb)),h81];rfl)
    | (rw [tbb (.inr (.inr (.inl qb))),h81,h86];simp only [Al_Bool_true_and,Al_Bool_false_and,Al_Bool_and_true,Bool.and_false])
    | (rw [tbb (.inr (.inr (.inl qb))),h81,h86];rfl)
    | (rw [tbb (.inr (.inr (.inl qb))),h81];simp only [Al_Bool_true_and,Al_Bool_false_and,Al_Bool_and_true,Bool.and_false])
    | (rw [tbb (.inr (.inr (.inl qb))),h81];rfl)
    | (rw [tbb (.inr (.inr (.inr (.inl qb)))),h81,h86];simp only [Al_Bool_true_and,Al_Bool_false_and,Al_Bool_and_true,Bool.and_false])
    | (rw [tbb (.inr (.inr (.inr (.inl qb)))),h81,h86];rfl)
    | (rw [tbb (.inr (.inr (.inr (.inl qb)))),h81];simp only [Al_Bool_true_and,Al_Bool_false_and,Al_Bool_and_true,Bool.and_false])
    | (rw [tbb (.inr (.inr (.inr (.inl qb)))),h81];rfl)
    | (rw [tbb (.inr (.inr (.inr (.inr qb)))),h81,h86];simp only [Al_Bool_true_and,Al_Bool_false_and,Al_Bool_and_true,Bool.and_false])
    | (rw [tbb (.inr (.inr (.inr (.inr qb)))),h81,h86];rfl)
    | (rw [tbb (.inr (.inr (.inr (.inr qb)))),h81];simp only [Al_Bool_true_and,Al_Bool_false_and,Al_Bool_and_true,Bool.and_false])
    | (rw [tbb (.inr (.inr (.inr (.inr qb)))),h81];rfl)
    | (rw [tbn q1 q4 q585 q588 q6 q9 qb11 qb12 qb13 qb14 qb15])
  refine .gG<|.gG<|.gG<|.yw (.pickF Z Z)<|.mv Z<|.gG<|.gG<|.gG<|.gG<|.yw (.pickF Z Z)<|.az Z<|.bR<|.tR<|?_
  refine y9 Z Z λW s=>⟨?_,s.ext⟩
  first
   | (rw [tb1 q1,h10,h15];simp only [Al_Bool_true_and,Al_Bool_false_and,Al_Bool_and_true,Bool.and_false])
   | (rw [tb1 q1,h10,h15];rfl)
   | (rw [tb1 q1,h10];simp only [Al_Bool_true_and,Al_Bool_false_and,Al_Bool_and_true,Bool.and_false])
   | (rw [tb1 q1,h10];rfl)
   | (rw [tb4 q4,h26,h31];simp only [Al_Bool_true_and,Al_Bool_false_and,Al_Bool_and_true,Bool.and_false])
   | (rw [tb4 q4,h26,h31];rfl)
   | (rw [tb4 q4,h26];simp only [Al_Bool_true_and,Al_Bool_false_and,Al_Bool_and_true,Bool.and_false])
   | (rw [tb4 q4,h26];rfl)
   | (rw [tb5 (.inl q58),h43];simp only [Al_Bool_true_and,Al_Bool_false_and,Al_Bool_and_true,Bool.and_false])
   | (rw [tb5 (.inl q58),h43];rfl)
   | (rw [tb5 (.inr q58),h43];simp only [Al_Bool_true_and,Al_Bool_false_and,Al_Bool_and_true,Bool.and_false])
   | (rw [tb5 (.inr q58),h43];rfl)
   | (rw [tb6 q6,h54];simp only [Al_Bool_true_and,Al_Bool_false_and,Al_Bool_and_true,Bool.and_false])
   | (rw [tb6 q6,h54];rfl)
   | (rw [tb9 q9,h63,h68];simp only [Al_Bool_true_and,Al_Bool_false_and,Al_Bool_and_true,Bool.and_false])
   | (rw [tb9 q9,h63,h68];rfl)
   | (rw [tb9 q9,h63];simp only [Al_Bool_true_and,Al_Bool_false_and,Al_Bool_and_true,Bool.and_false])
   | (rw [tb9 q9,h63];rfl)
   | (rw [tbb (.inl qb),h81,h86];simp only [Al_Bool_true_and,Al_Bool_false_and,Al_Bool_and_true,Bool.and_false])
   | (rw [tbb (.inl qb),h81,h86];rfl)
   | (rw [tbb (.inl qb),h81];simp only [Al_Bool_true_and,Al_Bool_false_and,Al_Bool_and_true,Bool.and_false])
   | (rw [tbb (.inl qb),h81];rfl)
   | (rw [tbb (.inr (.inl qb)),h81,h86];simp only [Al_Bool_true_and,Al_Bool_false_and,Al_Bool_and_true,Bool.and_false])
   | (rw [tbb (.inr (.inl qb)),h81,h86];rfl)
   | (rw [tbb (.inr (.inl qb)),h81];simp only [Al_Bool_true_and,Al_Bool_false_and,Al_Bool_and_true,Bool.and_false])
   | (rw [tbb (.inr (.inl qb)),h81];rfl)
   | (rw [tbb (.inr (.inr (.inl qb))),h81,h86];simp only [Al_Bool_true_and,Al_Bool_false_and,Al_Bool_and_true,Bool.and_false])
   | (rw [tbb (.inr (.inr (.inl qb))),h81,h86];rfl)
   | (rw [tbb (.inr (.inr (.inl qb))),h81];simp only [Al_Bool_true_and,Al_Bool_false_and,Al_Bool_and_true,Bool.and_false])
   | (rw [tbb (.inr (.inr (.inl qb))),h81];rfl)
   | (rw [tbb (.inr (.inr (.inr (.inl qb)))),h81,h86];simp only [Al_Bool_true_and,Al_Bool_false_and,Al_Bool_and_true,Bool.and_false])
   | (rw [tbb (.inr (.inr (.inr (.inl qb)))),h81,h86];rfl)
   | (rw [tbb (.inr (.inr (.inr (.inl qb)))),h81];simp only [Al_Bool_true_and,Al_Bool_false_and,Al_Bool_and_true,Bool.and_false])
   | (rw [tbb (.inr (.inr (.inr (.inl qb)))),h81];rfl)
   | (rw [tbb (.inr (.inr (.inr (.inr qb)))),h81,h86];simp only [Al_Bool_true_and,Al_Bool_false_and,Al_Bool_and_true,Bool.and_false])
   | (rw [tbb (.inr (.inr (.inr (.inr qb)))),h81,h86];rfl)
   | (rw [tbb (.inr (.inr (.inr (.inr qb)))),h81];simp only [Al_Bool_true_and,Al_Bool_false_and,Al_Bool_and_true,Bool.and_false])
   | (rw [tbb (.inr (.inr (.inr (.inr qb)))),h81];rfl)
   | (rw [tbn q1 q4 q585 q588 q6 q9 qb11 qb12 qb13 qb14 qb15])
 have q4:¬ op=4:=λe=>Al_of_decide_eq_false h21 (by rw [e];rfl);refine .sq<|.sr<|.yw (.eql Z Z)<|.aq Z<|.cr Z (λh37=>?_) (λh37=>?_)
 ·have q58:op=5:=Al_UInt8_toNat_inj.1 (by have:=Al_of_decide_eq_true h37;show op.toNat=5;omega);refine .sk<|.tN<|.cT Z<|.sr<|.fA Z Fx.field76_2<|.lD Z Fx.agg2 Hm Z<|.yw (.cast (.eql Z Z) (congrArg Value.bool i0))<|.mv Z<|.b2 (λh43=>?_) (λh43=>?_)
  ·refine .gy (.fieldAddr Z Fx.field76_3)<|.gy (.load Z Fx.agg32 Hm Z)<|.gy (.lenSl Fx.sl32 Z)<|.gy (.cast (.eql Z Z) (congrArg Value.bool er0))<|.yw (.pickT Z Z)<|.az Z<|.bR<|.tR<|?_
   refine y9 Z Z λW s=>⟨?_,s.ext⟩
   first
    | (rw [tb1 q1,h10,h15];simp only [Al_Bool_true_and,Al_Bool_false_and,Al_Bool_and_true,Bool.and_false])
    | (rw [tb1 q1,h10,h15];rfl)
    | (rw [tb1 q1,h10];simp only [Al_Bool_true_and,Al_Bool_false_and,Al_Bool_and_true,Bool.and_false])
    | (rw [tb1 q1,h10];rfl)
    | (rw [tb4 q4,h26,h31];simp only [Al_Bool_true_and,Al_Bool_false_and,Al_Bool_and_true,Bool.and_false])
    | (rw [tb4 q4,h26,h31];rfl)
    | (rw [tb4 q4,h26];simp only [Al_Bool_true_and,Al_Bool_false_and,Al_Bool_and_true,Bool.and_false])
    | (rw [tb4 q4,h26];rfl)
    | (rw [tb5 (.inl q58),h43];simp only [Al_Bool_true_and,Al_Bool_false_and,Al_Bool_and_true,Bool.and_false])
    | (rw [tb5 (.inl q58),h43];rfl)
    | (rw [tb5 (.inr q58),h43];simp only [Al_Bool_true_and,Al_Bool_false_and,Al_Bool_and_true,Bool.and_false])
    | (rw [tb5 (.inr q58),h43];rfl)
    | (rw [tb6 q6,h54];simp only [Al_Bool_true_and,Al_Bool_false_and,Al_Bool_and_true,Bool.and_false])
    | (rw [tb6 q6,h54];rfl)
    | (rw [tb9 q9,h63,h68];simp only [Al_Bool_true_and,Al_Bool_false_and,Al_Bool_and_true,Bool.and_false])
    | (rw [tb9 q9,h63,h68];rfl)
    | (rw [tb9 q9,h63];simp only [Al_Bool_true_and,Al_Bool_false_and,Al_Bool_and_true,Bool.and_false])
    | (rw [tb9 q9,h63];rfl)
    | (rw [tbb (.inl qb),h81,h86];simp only [Al_Bool_true_and,Al_Bool_false_and,Al_Bool_and_true,Bool.and_false])
    | (rw [tbb (.inl qb),h81,h86];rfl)
    | (rw [tbb (.inl qb),h81];simp only [Al_Bool_true_and,Al_Bool_false_and,Al_Bool_and_true,Bool.and_false])
    | (rw [tbb (.inl qb),h81];rfl)
    | (rw [tbb (.inr (.inl qb)),h81,h86];simp only [Al_Bool_true_and,Al_Bool_false_and,Al_Bool_and_true,Bool.and_false])
    | (rw [tbb (.inr (.inl qb)),h81,h86];rfl)
    | (rw [tbb (.inr (.inl qb)),h81];simp only [Al_Bool_true_and,Al_Bool_false_and,Al_Bool_and_true,Bool.and_false])
    | (rw [tbb (.inr (.inl qb)),h81];rfl)
    | (rw [tbb (.inr (.inr (.inl qb))),h81,h86];simp only [Al_Bool_true_and,Al_Bool_false_and,Al_Bool_and_true,Bool.and_false])
    | (rw [tbb (.inr (.inr (.inl qb))),h81,h86];rfl)
    | (rw [tbb (.inr (.inr (.inl qb))),h81];simp only [Al_Bool_true_and,Al_Bool_false_and,Al_Bool_and_true,Bool.and_false])
    | (rw [tbb (.inr (.inr (.inl qb))),h81];rfl)
    | (rw [tbb (.inr (.inr (.inr (.inl qb)))),h81,h86];simp only [Al_Bool_true_and,Al_Bool_false_and,Al_Bool_and_true,Bool.and_false])
    | (rw [tbb (.inr (.inr (.inr (.inl qb)))),h81,h86];rfl)
    | (rw [tbb (.inr (.inr (.inr (.inl qb)))),h81];simp only [Al_Bool_true_and,Al_Bool_false_and,Al_Bool_and_true,Bool.and_false])
    | (rw [tbb (.inr (.inr (.inr (.inl qb)))),h81];rfl)
    | (rw [tbb (.inr (.inr (.inr (.inr qb)))),h81,h86];simp only [Al_Bool_true_and,Al_Bool_false_and,Al_Bool_and_true,Bool.and_false])
    | (rw [tbb (.inr (.inr (.inr (.inr qb)))),h81,h86];rfl)
    | (rw [tbb (.inr (.inr (.inr (.inr qb)))),h81];simp only [Al_Bool_true_and,Al_Bool_false_and,Al_Bool_and_true,Bool.and_false])
    | (rw [tbb (.inr (.inr (.inr (.inr qb)))),h81];rfl)
    | (rw [tbn q1 q4 q585 q588 q6 q9 qb11 qb12 qb13 qb14 qb15])
  refine .gG<|.gG<|.gG<|.gG<|.yw (.pickF Z Z)<|.az Z<|.bR<|.tR<|?_
  refine y9 Z Z λW s=>⟨?_,s.ext⟩
  first
   | (rw [tb1 q1,h10,h15];simp only [Al_Bool_true_and,Al_Bool_false_and,Al_Bool_and_true,Bool.and_false])
   | (rw [tb1 q1,h10,h15];rfl)
   | (rw [tb1 q1,h10];simp only [Al_Bool_true_and,Al_Bool_false_and,Al_Bool_and_true,Bool.and_false])
   | (rw [tb1 q1,h10];rfl)
   | (rw [tb4 q4,h26,h31];simp only [Al_Bool_true_and,Al_Bool_false_and,Al_Bool_and_true,Bool.and_false])
   | (rw [tb4 q4,h26,h31];rfl)
   | (rw [tb4 q4,h26];simp only [Al_Bool_true_and,Al_Bool_false_and,Al_Bool_and_true,Bool.and_false])
   | (rw [tb4 q4,h26];rfl)
   | (rw [tb5 (.inl q58),h43];simp only [Al_Bool_true_and,Al_Bool_false_and,Al_Bool_and_true,Bool.and_false])
   | (rw [tb5 (.inl q58),h43];rfl)
   | (rw [tb5 (.inr q58),h43];simp only [Al_Bool_true_and,Al_Bool_false_and,Al_Bool_and_true,Bool.and_false])
   | (rw [tb5 (.inr q58),h43];rfl)
   | (rw [tb6 q6,h54];simp only [Al_Bool_true_and,Al_Bool_false_and,Al_Bool_and_true,Bool.and_false])
   | (rw [tb6 q6,h54];rfl)
   | (rw [tb9 q9,h63,h68];simp only [Al_Bool_true_and,Al_Bool_false_and,Al_Bool_and_true,Bool.and_false])
   | (rw [tb9 q9,h63,h68];rfl)
   | (rw [tb9 q9,h63];simp only [Al_Bool_true_and,Al_Bool_false_and,Al_Bool_and_true,Bool.and_false])
   | (rw [tb9 q9,h63];rfl)
   | (rw [tbb (.inl qb),h81,h86];simp only [Al_Bool_true_and,Al_Bool_false_and,Al_Bool_and_true,Bool.and_false])
   | (rw [tbb (.inl qb),h81,h86];rfl)
   | (rw [tbb (.inl qb),h81];simp only [Al_Bool_true_and,Al_Bool_false_and,Al_Bool_and_true,Bool.and_false])
   | (rw [tbb (.inl qb),h81];rfl)
   | (rw [tbb (.inr (.inl qb)),h81,h86];simp only [Al_Bool_true_and,Al_Bool_false_and,Al_Bool_and_true,Bool.and_false])
   | (rw [tbb (.inr (.inl qb)),h81,h86];rfl)
   | (rw [tbb (.inr (.inl qb)),h81];simp only [Al_Bool_true_and,Al_Bool_false_and,Al_Bool_and_true,Bool.and_false])
   | (rw [tbb (.inr (.inl qb)),h81];rfl)
   | (rw [tbb (.inr (.inr (.inl qb))),h81,h86];simp only [Al_Bool_true_and,Al_Bool_false_and,Al_Bool_and_true,Bool.and_false])
   | (rw [tbb (.inr (.inr (.inl qb))),h81,h86];rfl)
   | (rw [tbb (.inr (.inr (.inl qb))),h81];simp only [Al_Bool_true_and,Al_Bool_false_and,Al_Bool_and_true,Bool.and_false])
   | (rw [tbb (.inr (.inr (.inl qb))),h81];rfl)
   | (rw [tbb (.inr (.inr (.inr (.inl qb)))),h81,h86];simp only [Al_Bool_true_and,Al_Bool_false_and,Al_Bool_and_true,Bool.and_false])
   | (rw [tbb (.inr (.inr (.inr (.inl qb)))),h81,h86];rfl)
   | (rw [tbb (.inr (.inr (.inr (.inl qb)))),h81];simp only [Al_Bool_true_and,Al_Bool_false_and,Al_Bool_and_true,Bool.and_false])
   | (rw [tbb (.inr (.inr (.inr (.inl qb)))),h81];rfl)
   | (rw [tbb (.inr (.inr (.inr (.inr qb)))),h81,h86];simp only [Al_Bool_true_and,Al_Bool_false_and,Al_Bool_and_true,Bool.and_false])
   | (rw [tbb (.inr (.inr (.inr (.inr qb)))),h81,h86];rfl)
   | (rw [tbb (.inr (.inr (.inr (.inr qb)))),h81];simp only [Al_Bool_true_and,Al_Bool_false_and,Al_Bool_and_true,Bool.and_false])
   | (rw [tbb (.inr (.inr (.inr (.inr qb)))),h81];rfl)
   | (rw [tbn q1 q4 q585 q588 q6 q9 qb11 qb12 qb13 qb14 qb15])
 have q585:¬ op=5:=λe=>Al_of_decide_eq_false h37 (by rw [e];rfl);refine .rg<|.yw (.eql Z Z)<|.aq Z<|.cr Z (λh37=>?_) (λh37=>?_)
 ·have q58:op=8:=Al_UInt8_toNat_inj.1 (by have:=Al_of_decide_eq_true h37;show op.toNat=8;omega);refine .sr<|.fA Z Fx.field76_2<|.lD Z Fx.agg2 Hm Z<|.yw (.cast (.eql Z Z) (congrArg Value.bool i0))<|.mv Z<|.b2 (λh43=>?_) (λh43=>?_)
  ·refine .gy (.fieldAddr Z Fx.field76_3)<|.gy (.load Z Fx.agg32 Hm Z)<|.gy (.lenSl Fx.sl32 Z)<|.gy (.cast (.eql Z Z) (congrArg Value.bool er0))<|.yw (.pickT Z Z)<|.az Z<|.bR<|.tR<|?_
   refine y9 Z Z λW s=>⟨?_,s.ext⟩
   first
    | (rw [tb1 q1,h10,h15];simp only [Al_Bool_true_and,Al_Bool_false_and,Al_Bool_and_true,Bool.and_false])
    | (rw [tb1 q1,h10,h15];rfl)
    | (rw [tb1 q1,h10];simp only [Al_Bool_true_and,Al_Bool_false_and,Al_Bool_and_true,Bool.and_false])
    | (rw [tb1 q1,h10];rfl)
    | (rw [tb4 q4,h26,h31];simp only [Al_Bool_true_and,Al_Bool_false_and,Al_Bool_and_true,Bool.and_false])
    | (rw [tb4 q4,h26,h31];rfl)
    | (rw [tb4 q4,h26];simp only [Al_Bool_true_and,Al_Bool_false_and,Al_Bool_and_true,Bool.and_false])
    | (rw [tb4 q4,h26];rfl)
    | (rw [tb5 (.inl q58),h43];simp only [Al_Bool_true_and,Al_Bool_false_and,Al_Bool_and_true,Bool.and_false])
    | (rw [tb5 (.inl q58),h43];rfl)
    | (rw [tb5 (.inr q58),h43];simp only [Al_Bool_true_and,Al_Bool_false_and,Al_Bool_and_true,Bool.and_false])
    | (rw [tb5 (.inr q58),h43];rfl)
    | (rw [tb6 q6,h54];simp only [Al_Bool_true_and,Al_Bool_false_and,Al_Bool_and_true,Bool.and_false])
    | (rw [tb6 q6,h54];rfl)
    | (rw [tb9 q9,h63,h68];simp only [Al_Bool_true_and,Al_Bool_false_and,Al_Bool_and_true,Bool.and_false])
    | (rw [tb9 q9,h63,h68];rfl)
    | (rw [tb9 q9,h63];simp only [Al_Bool_true_and,Al_Bool_false_and,Al_Bool_and_true,Bool.and_false])
    | (rw [tb9 q9,h63];rfl)
    | (rw [tbb (.inl qb),h81,h86];simp only [Al_Bool_true_and,Al_Bool_false_and,Al_Bool_and_true,Bool.and_false])
    | (rw [tbb (.inl qb),h81,h86];rfl)
    | (rw [tbb (.inl qb),h81];simp only [Al_Bool_true_and,Al_Bool_false_and,Al_Bool_and_true,Bool.and_false])
    | (rw [tbb (.inl qb),h81];rfl)
    | (rw [tbb (.inr (.inl qb)),h81,h86];simp only [Al_Bool_true_and,Al_Bool_false_and,Al_Bool_and_true,Bool.and_false])
    | (rw [tbb (.inr (.inl qb)),h81,h86];rfl)
    | (rw [tbb (.inr (.inl qb)),h81];simp only [Al_Bool_true_and,Al_Bool_false_and,Al_Bool_and_true,Bool.and_false])
    | (rw [tbb (.inr (.inl qb)),h81];rfl)
    | (rw [tbb (.inr (.inr (.inl qb))),h81,h86];simp only [Al_Bool_true_and,Al_Bool_false_and,Al_Bool_and_true,Bool.and_false])
    | (rw [tbb (.inr (.inr (.inl qb))),h81,h86];rfl)
    | (rw [tbb (.inr (.inr (.inl qb))),h81];simp only [Al_Bool_true_and,Al_Bool_false_and,Al_Bool_and_true,Bool.and_false])
    | (rw [tbb (.inr (.inr (.inl qb))),h81];rfl)
    | (rw [tbb (.inr (.inr (.inr (.inl qb)))),h81,h86];simp only [Al_Bool_true_and,Al_Bool_false_and,Al_Bool_and_true,Bool.and_false])
    | (rw [tbb (.inr (.inr (.inr (.inl qb)))),h81,h86];rfl)
    | (rw [tbb (.inr (.inr (.inr (.inl qb)))),h81];simp only [Al_Bool_true_and,Al_Bool_false_and,Al_Bool_and_true,Bool.and_false])
    | (rw [tbb (.inr (.inr (.inr (.inl qb)))),h81];rfl)
    | (rw [tbb (.inr (.inr (.inr (.inr qb)))),h81,h86];simp only [Al_Bool_true_and,Al_Bool_false_and,Al_Bool_and_true,Bool.and_false])
    | (rw [tbb (.inr (.inr (.inr (.inr qb)))),h81,h86];rfl)
    | (rw [tbb (.inr (.inr (.inr (.inr qb)))),h81];simp only [Al_Bool_true_and,Al_Bool_false_and,Al_Bool_and_true,Bool.and_false])
    | (rw [tbb (.inr (.inr (.inr (.inr qb)))),h81];rfl)
    | (rw [tbn q1 q4 q585 q588 q6 q9 qb11 qb12 qb13 qb14 qb15])
  refine .gG<|.gG<|.gG<|.gG<|.yw (.pickF Z Z)<|.az Z<|.bR<|.tR<|?_
  refine y9 Z Z λW s=>⟨?_,s.ext⟩
  first
   | (rw [tb1 q1,h10,h15];simp only [Al_Bool_true_and,Al_Bool_false_and,Al_Bool_and_true,Bool.and_false])
   | (rw [tb1 q1,h10,h15];rfl)
   | (rw [tb1 q1,h10];simp only [Al_Bool_true_and,Al_Bool_false_and,Al_Bool_and_true,Bool.and_false])
   | (rw [tb1 q1,h10];rfl)
   | (rw [tb4 q4,h26,h31];simp only [Al_Bool_true_and,Al_Bool_false_and,Al_Bool_and_true,Bool.and_false])
   | (rw [tb4 q4,h26,h31];rfl)
   | (rw [tb4 q4,h26];simp only [Al_Bool_true_and,Al_Bool_false_and,Al_Bool_and_true,Bool.and_false])
   | (rw [tb4 q4,h26];rfl)
   | (rw [tb5 (.inl q58),h43];simp only [Al_Bool_true_and,Al_Bool_false_and,Al_Bool_and_true,Bool.and_false])
   | (rw [tb5 (.inl q58),h43];rfl)
   | (rw [tb5 (.inr q58),h43];simp only [Al_Bool_true_and,Al_Bool_false_and,Al_Bool_and_true,Bool.and_false])
   | (rw [tb5 (.inr q58),h43];rfl)
   | (rw [tb6 q6,h54];simp only [Al_Bool_true_and,Al_Bool_false_and,Al_Bool_and_true,Bool.and_false])
   | (rw [tb6 q6,h54];rfl)
   | (rw [tb9 q9,h63,h68];simp only [Al_Bool_true_and,Al_Bool_false_and,Al_Bool_and_true,Bool.and_false])
   | (rw [tb9 q9,h63,h68];rfl)
   | (rw [tb9 q9,h63];simp only [Al_Bool_true_and,Al_Bool_false_and,Al_Bool_and_true,Bool.and_false])
   | (rw [tb9 q9,h63];rfl)
   | (rw [tbb (.inl qb),h81,h86];simp only [Al_Bool_true_and,Al_Bool_false_and,Al_Bool_and_true,Bool.and_false])
   | (rw [tbb (.inl qb),h81,h86];rfl)
   | (rw [tbb (.inl qb),h81];simp only [Al_Bool_true_and,Al_Bool_false_and,Al_Bool_and_true,Bool.and_false])
   | (rw [tbb (.inl qb),h81];rfl)
   | (rw [tbb (.inr (.inl qb)),h81,h86];simp only [Al_Bool_true_and,Al_Bool_false_and,Al_Bool_and_true,Bool.and_false])
   | (rw [tbb (.inr (.inl qb)),h81,h86];rfl)
   | (rw [tbb (.inr (.inl qb)),h81];simp only [Al_Bool_true_and,Al_Bool_false_and,Al_Bool_and_true,Bool.and_false])
   | (rw [tbb (.inr (.inl qb)),h81];rfl)
   | (rw [tbb (.inr (.inr (.inl qb))),h81,h86];simp only [Al_Bool_true_and,Al_Bool_false_and,Al_Bool_and_true,Bool.and_false])
   | (rw [tbb (.inr (.inr (.inl qb))),h81,h86];rfl)
   | (rw [tbb (.inr (.inr (.inl qb))),h81];simp only [Al_Bool_true_and,Al_Bool_false_and,Al_Bool_and_true,Bool.and_false])
   | (rw [tbb (.inr (.inr (.inl qb))),h81];rfl)
   | (rw [tbb (.inr (.inr (.inr (.inl qb)))),h81,h86];simp only [Al_Bool_true_and,Al_Bool_false_and,Al_Bool_and_true,Bool.and_false])
   | (rw [tbb (.inr (.inr (.inr (.inl qb)))),h81,h86];rfl)
   | (rw [tbb (.inr (.inr (.inr (.inl qb)))),h81];simp only [Al_Bool_true_and,Al_Bool_false_and,Al_Bool_and_true,Bool.and_false])
   | (rw [tbb (.inr (.inr (.inr (.inl qb)))),h81];rfl)
   | (rw [tbb (.inr (.inr (.inr (.inr qb)))),h81,h86];simp only [Al_Bool_true_and,Al_Bool_false_and,Al_Bool_and_true,Bool.and_false])
   | (rw [tbb (.inr (.inr (.inr (.inr qb)))),h81,h86];rfl)
   | (rw [tbb (.inr (.inr (.inr (.inr qb)))),h81];simp only [Al_Bool_true_and,Al_Bool_false_and,Al_Bool_and_true,Bool.and_false])
   | (rw [tbb (.inr (.inr (.inr (.inr qb)))),h81];rfl)
   | (rw [tbn q1 q4 q585 q588 q6 q9 qb11 qb12 qb13 qb14 qb15])
 have q588:¬ op=8:=λe=>Al_of_decide_eq_false h37 (by rw [e];rfl);refine .sr<|.yw (.eql Z Z)<|.aq Z<|.cd Z (λh49=>?_) (λh49=>?_)
 ·have q6:op=6:=Al_UInt8_toNat_inj.1 (by have:=Al_of_decide_eq_true h49;show op.toNat=6;omega);refine .sr<|.fA Z Fx.field76_2<|.lD Z Fx.agg2 Hm Z<|.yw (.cast (.eql Z Z) (congrArg Value.bool i0))<|.mv Z<|.b2 (λh54=>?_) (λh54=>?_)
  ·refine .gy (.loadW Z Fx.agg76 Hm Z)<|.gy (.call Fx.call132 Z (λW s=>operands_any H op nm nn args 1 _ W h (λa ha=>ih a ha) s.agr))<|.yw (.pickT Z Z)<|.az Z<|.bR<|.tR<|?_
   refine y9 Z Z λW s=>⟨?_,s.ext⟩
   first
    | (rw [tb1 q1,h10,h15];simp only [Al_Bool_true_and,Al_Bool_false_and,Al_Bool_and_true,Bool.and_false])
    | (rw [tb1 q1,h10,h15];rfl)
    | (rw [tb1 q1,h10];simp only [Al_Bool_true_and,Al_Bool_false_and,Al_Bool_and_true,Bool.and_false])
    | (rw [tb1 q1,h10];rfl)
    | (rw [tb4 q4,h26,h31];simp only [Al_Bool_true_and,Al_Bool_false_and,Al_Bool_and_true,Bool.and_false])
    | (rw [tb4 q4,h26,h31];rfl)
    | (rw [tb4 q4,h26];simp only [Al_Bool_true_and,Al_Bool_false_and,Al_Bool_and_true,Bool.and_false])
    | (rw [tb4 q4,h26];rfl)
    | (rw [tb5 (.inl q58),h43];simp only [Al_Bool_true_and,Al_Bool_false_and,Al_Bool_and_true,Bool.and_false])
    | (rw [tb5 (.inl q58),h43];rfl)
    | (rw [tb5 (.inr q58),h43];simp only [Al_Bool_true_and,Al_Bool_false_and,Al_Bool_and_true,Bool.and_false])
    | (rw [tb5 (.inr q58),h43];rfl)
    | (rw [tb6 q6,h54];simp only [Al_Bool_true_and,Al_Bool_false_and,Al_Bool_and_true,Bool.and_false])
    | (rw [tb6 q6,h54];rfl)
    | (rw [tb9 q9,h63,h68];simp only [Al_Bool_true_and,Al_Bool_false_and,Al_Bool_and_true,Bool.and_false])
    | (rw [tb9 q9,h63,h68];rfl)
    | (rw [tb9 q9,h63];simp only [Al_Bool_true_and,Al_Bool_false_and,Al_Bool_and_true,Bool.and_false])
    | (rw [tb9 q9,h63];rfl)
    | (rw [tbb (.inl qb),h81,h86];simp only [Al_Bool_true_and,Al_Bool_false_and,Al_Bool_and_true,Bool.and_false])
    | (rw [tbb (.inl qb),h81,h86];rfl)
    | (rw [tbb (.inl qb),h81];simp only [Al_Bool_true_and,Al_Bool_false_and,Al_Bool_and_true,Bool.and_false])
    | (rw [tbb (.inl qb),h81];rfl)
    | (rw [tbb (.inr (.inl qb)),h81,h86];simp only [Al_Bool_true_and,Al_Bool_false_and,Al_Bool_and_true,Bool.and_false])
    | (rw [tbb (.inr (.inl qb)),h81,h86];rfl)
    | (rw [tbb (.inr (.inl qb)),h81];simp only [Al_Bool_true_and,Al_Bool_false_and,Al_Bool_and_true,Bool.and_false])
    | (rw [tbb (.inr (.inl qb)),h81];rfl)
    | (rw [tbb (.inr (.inr (.inl qb))),h81,h86];simp only [Al_Bool_true_and,Al_Bool_false_and,Al_Bool_and_true,Bool.and_false])
    | (rw [tbb (.inr (.inr (.inl qb))),h81,h86];rfl)
    | (rw [tbb (.inr (.inr (.inl qb))),h81];simp only [Al_Bool_true_and,Al_Bool_false_and,Al_Bool_and_true,Bool.and_false])
    | (rw [tbb (.inr (.inr (.inl qb))),h81];rfl)
    | (rw [tbb (.inr (.inr (.inr (.inl qb)))),h81,h86];simp only [Al_Bool_true_and,Al_Bool_false_and,Al_Bool_and_true,Bool.and_false])
    | (rw [tbb (.inr (.inr (.inr (.inl qb)))),h81,h86];rfl)
    | (rw [tbb (.inr (.inr (.inr (.inl qb)))),h81];simp only [Al_Bool_true_and,Al_Bool_false_and,Al_Bool_and_true,Bool.and_false])
    | (rw [tbb (.inr (.inr (.inr (.inl qb)))),h81];rfl)
    | (rw [tbb (.inr (.inr (.inr (.inr qb)))),h81,h86];simp only [Al_Bool_true_and,Al_Bool_false_and,Al_Bool_and_true,Bool.and_false])
    | (rw [tbb (.inr (.inr (.inr (.inr qb)))),h81,h86];rfl)
    | (rw [tbb (.inr (.inr (.inr (.inr qb)))),h81];simp only [Al_Bool_true_and,Al_Bool_false_and,Al_Bool_and_true,Bool.and_false])
    | (rw [tbb (.inr (.inr (.inr (.inr qb)))),h81];rfl)
    | (rw [tbn q1 q4 q585 q588 q6 q9 qb11 qb12 qb13 qb14 qb15])
  refine .gG<|.gG<|.yw (.pickF Z Z)<|.az Z<|.bR<|.tR<|?_
  refine y9 Z Z λW s=>⟨?_,s.ext⟩
  first
   | (rw [tb1 q1,h10,h15];simp only [Al_Bool_true_and,Al_Bool_false_and,Al_Bool_and_true,Bool.and_false])
   | (rw [tb1 q1,h10,h15];rfl)
   | (rw [tb1 q1,h10];simp only [Al_Bool_true_and,Al_Bool_false_and,Al_Bool_and_true,Bool.and_false])
   | (rw [tb1 q1,h10];rfl)
   | (rw [tb4 q4,h26,h31];simp only [Al_Bool_true_and,Al_Bool_false_and,Al_Bool_and_true,Bool.and_false])
   | (rw [tb4 q4,h26,h31];rfl)
   | (rw [tb4 q4,h26];simp only [Al_Bool_true_and,Al_Bool_false_and,Al_Bool_and_true,Bool.and_false])
   | (rw [tb4 q4,h26];rfl)
   | (rw [tb5 (.inl q58),h43];simp only [Al_Bool_true_and,Al_Bool_false_and,Al_Bool_and_true,Bool.and_false])
   | (rw [tb5 (.inl q58),h43];rfl)
   | (rw [tb5 (.inr q58),h43];simp only [Al_Bool_true_and,Al_Bool_false_and,Al_Bool_and_true,Bool.and_false])
   | (rw [tb5 (.inr q58),h43];rfl)
   | (rw [tb6 q6,h54];simp only [Al_Bool_true_and,Al_Bool_false_and,Al_Bool_and_true,Bool.and_false])
   | (rw [tb6 q6,h54];rfl)
   | (rw [tb9 q9,h63,h68];simp only [Al_Bool_true_and,Al_Bool_false_and,Al_Bool_and_true,Bool.and_false])
   | (rw [tb9 q9,h63,h68];rfl)
   | (rw [tb9 q9,h63];simp only [Al_Bool_true_and,Al_Bool_false_and,Al_Bool_and_true,Bool.and_false])
   | (rw [tb9 q9,h63];rfl)
   | (rw [tbb (.inl qb),h81,h86];simp only [Al_Bool_true_and,Al_Bool_false_and,Al_Bool_and_true,Bool.and_false])
   | (rw [tbb (.inl qb),h81,h86];rfl)
   | (rw [tbb (.inl qb),h81];simp only [Al_Bool_true_and,Al_Bool_false_and,Al_Bool_and_true,Bool.and_false])
   | (rw [tbb (.inl qb),h81];rfl)
   | (rw [tbb (.inr (.inl qb)),h81,h86];simp only [Al_Bool_true_and,Al_Bool_false_and,Al_Bool_and_true,Bool.and_false])
   | (rw [tbb (.inr (.inl qb)),h81,h86];rfl)
   | (rw [tbb (.inr (.inl qb)),h81];simp only [Al_Bool_true_and,Al_Bool_false_and,Al_Bool_and_true,Bool.and_false])
   | (rw [tbb (.inr (.inl qb)),h81];rfl)
   | (rw [tbb (.inr (.inr (.inl qb))),h81,h86];simp only [Al_Bool_true_and,Al_Bool_false_and,Al_Bool_and_true,Bool.and_false])
   | (rw [tbb (.inr (.inr (.inl qb))),h81,h86];rfl)
   | (rw [tbb (.inr (.inr (.inl qb))),h81];simp only [Al_Bool_true_and,Al_Bool_false_and,Al_Bool_and_true,Bool.and_false])
   | (rw [tbb (.inr (.inr (.inl qb))),h81];rfl)
   | (rw [tbb (.inr (.inr (.inr (.inl qb)))),h81,h86];simp only [Al_Bool_true_and,Al_Bool_false_and,Al_Bool_and_true,Bool.and_false])
   | (rw [tbb (.inr (.inr (.inr (.inl qb)))),h81,h86];rfl)
   | (rw [tbb (.inr (.inr (.inr (.inl qb)))),h81];simp only [Al_Bool_true_and,Al_Bool_false_and,Al_Bool_and_true,Bool.and_false])
   | (rw [tbb (.inr (.inr (.inr (.inl qb)))),h81];rfl)
   | (rw [tbb (.inr (.inr (.inr (.inr qb)))),h81,h86];simp only [Al_Bool_true_and,Al_Bool_false_and,Al_Bool_and_true,Bool.and_false])
   | (rw [tbb (.inr (.inr (.inr (.inr qb)))),h81,h86];rfl)
   | (rw [tbb (.inr (.inr (.inr (.inr qb)))),h81];simp only [Al_Bool_true_and,Al_Bool_false_and,Al_Bool_and_true,Bool.and_false])
   | (rw [tbb (.inr (.inr (.inr (.inr qb)))),h81];rfl)
   | (rw [tbn q1 q4 q585 q588 q6 q9 qb11 qb12 qb13 qb14 qb15])
 have q6:¬ op=6:=λe=>Al_of_decide_eq_false h49 (by rw [e];rfl);refine .sr<|.yw (.eql Z Z)<|.aq Z<|.cd Z (λh58=>?_) (λh58=>?_)
 ·have q9:op=9:=Al_UInt8_toNat_inj.1 (by have:=Al_of_decide_eq_true h58;show op.toNat=9;omega);refine .sr<|.fA Z Fx.field76_1<|.lD Z Fx.agg9 Hm Z<|.yw (.eqS Z Z)<|.mv Z<|.b2 (λh63=>?_) (λh63=>?_)
  ·refine .gy (.fieldAddr Z Fx.field76_2)<|.gy (.load Z Fx.agg2 Hm Z)<|.gy (.cast (.eql Z Z) (congrArg Value.bool i0))<|.yw (.pickT Z Z)<|.mv Z<|.b2 (λh68=>?_) (λh68=>?_)
   ·refine .gy (.loadW Z Fx.agg76 Hm Z)<|.gy (.call Fx.call132 Z (λW s=>operands_any H op nm nn args 1 _ W h (λa ha=>ih a ha) s.agr))<|.yw (.pickT Z Z)<|.az Z<|.bR<|.tR<|?_
    refine y9 Z Z λW s=>⟨?_,s.ext⟩
    first
     | (rw [tb1 q1,h10,h15];simp only [Al_Bool_true_and,Al_Bool_false_and,Al_Bool_and_true,Bool.and_false])
     | (rw [tb1 q1,h10,h15];rfl)
     | (rw [tb1 q1,h10];simp only [Al_Bool_true_and,Al_Bool_false_and,Al_Bool_and_true,Bool.and_false])
     | (rw [tb1 q1,h10];rfl)
     | (rw [tb4 q4,h26,h31];simp only [Al_Bool_true_and,Al_Bool_false_and,Al_Bool_and_true,Bool.and_false])
     | (rw [tb4 q4,h26,h31];rfl)
     | (rw [tb4 q4,h26];simp only [Al_Bool_true_and,Al_Bool_false_and,Al_Bool_and_true,Bool.and_false])
     | (rw [tb4 q4,h26];rfl)
     | (rw [tb5 (.inl q58),h43];simp only [Al_Bool_true_and,Al_Bool_false_and,Al_Bool_and_true,Bool.and_false])
     | (rw [tb5 (.inl q58),h43];rfl)
     | (rw [tb5 (.inr q58),h43];simp only [Al_Bool_true_and,Al_Bool_false_and,Al_Bool_and_true,Bool.and_false])
     | (rw [tb5 (.inr q58),h43];rfl)
     | (rw [tb6 q6,h54];simp only [Al_Bool_true_and,Al_Bool_false_and,Al_Bool_and_true,Bool.and_false])
     | (rw [tb6 q6,h54];rfl)
     | (rw [tb9 q9,h63,h68];simp only [Al_Bool_true_and,Al_Bool_false_and,Al_Bool_and_true,Bool.and_false])
     | (rw [tb9 q9,h63,h68];rfl)
     | (rw [tb9 q9,h63];simp only [Al_Bool_true_and,Al_Bool_false_and,Al_Bool_and_true,Bool.and_false])
     | (rw [tb9 q9,h63];rfl)
     | (rw [tbb (.inl qb),h81,h86];simp only [Al_Bool_true_and,Al_Bool_false_and,Al_Bool_and_true,Bool.and_false])
     | (rw [tbb (.inl qb),h81,h86];rfl)
     | (rw [tbb (.inl qb),h81];simp only [Al_Bool_true_and,Al_Bool_false_and,Al_Bool_and_true,Bool.and_false])
     | (rw [tbb (.inl qb),h81];rfl)
     | (rw [tbb (.inr (.inl qb)),h81,h86];simp only [Al_Bool_true_and,Al_Bool_false_and,Al_Bool_and_true,Bool.and_false])
     | (rw [tbb (.inr (.inl qb)),h81,h86];rfl)
     | (rw [tbb (.inr (.inl qb)),h81];simp only [Al_Bool_true_and,Al_Bool_false_and,Al_Bool_and_true,Bool.and_false])
     | (rw [tbb (.inr (.inl qb)),h81];rfl)
     | (rw [tbb (.inr (.inr (.inl qb))),h81,h86];simp only [Al_Bool_true_and,Al_Bool_false_and,Al_Bool_and_true,Bool.and_false])
     | (rw [tbb (.inr (.inr (.inl qb))),h81,h86];rfl)
     | (rw [tbb (.inr (.inr (.inl qb))),h81];simp only [Al_Bool_true_and,Al_Bool_false_and,Al_Bool_and_true,Bool.and_false])
     | (rw [tbb (.inr (.inr (.inl qb))),h81];rfl)
     | (rw [tbb (.inr (.inr (.inr (.inl qb)))),h81,h86];simp only [Al_Bool_true_and,Al_Bool_false_and,Al_Bool_and_true,Bool.and_false])
     | (rw [tbb (.inr (.inr (.inr (.inl qb)))),h81,h86];rfl)
     | (rw [tbb (.inr (.inr (.inr (.inl qb)))),h81];simp only [Al_Bool_true_and,Al_Bool_false_and,Al_Bool_and_true,Bool.and_false])
     | (rw [tbb (.inr (.inr (.inr (.inl qb)))),h81];rfl)
     | (rw [tbb (.inr (.inr (.inr (.inr qb)))),h81,h86];simp only [Al_Bool_true_and,Al_Bool_false_and,Al_Bool_and_true,Bool.and_false])
     | (rw [tbb (.inr (.inr (.inr (.inr qb)))),h81,h86];rfl)
     | (rw [tbb (.inr (.inr (.inr (.inr qb)))),h81];simp only [Al_Bool_true_and,Al_Bool_false_and,Al_Bool_and_true,Bool.and_false])
     | (rw [tbb (.inr (.inr (.inr (.inr qb)))),h81];rfl)
     | (rw [tbn q1 q4 q585 q588 q6 q9 qb11 qb12 qb13 qb14 qb15])
   refine .gG<|.gG<|.yw (.pickF Z Z)<|.az Z<|.bR<|.tR<|?_
   refine y9 Z Z λW s=>⟨?_,s.ext⟩
   first
    | (rw [tb1 q1,h10,h15];simp only [Al_Bool_true_and,Al_Bool_false_and,Al_Bool_and_true,Bool.and_false])
    | (rw [tb1 q1,h10,h15];rfl)
    | (rw [tb1 q1,h10];simp only [Al_Bool_true_and,Al_Bool_false_and,Al_Bool_and_true,Bool.and_false])
    | (rw [tb1 q1,h10];rfl)
    | (rw [tb4 q4,h26,h31];simp only [Al_Bool_true_and,Al_Bool_false_and,Al_Bool_and_true,Bool.and_false])
    | (rw [tb4 q4,h26,h31];rfl)
    | (rw [tb4 q4,h26];simp only [Al_Bool_true_and,Al_Bool_false_and,Al_Bool_and_true,Bool.and_false])
    | (rw [tb4 q4,h26];rfl)
    | (rw [tb5 (.inl q58),h43];simp only [Al_Bool_true_and,Al_Bool_false_and,Al_Bool_and_true,Bool.and_false])
    | (rw [tb5 (.inl q58),h43];rfl)
    | (rw [tb5 (.inr q58),h43];simp only [Al_Bool_true_and,Al_Bool_false_and,Al_Bool_and_true,Bool.and_false])
    | (rw [tb5 (.inr q58),h43];rfl)
    | (rw [tb6 q6,h54];simp only [Al_Bool_true_and,Al_Bool_false_and,Al_Bool_and_true,Bool.and_false])
    | (rw [tb6 q6,h54];rfl)
    | (rw [tb9 q9,h63,h68];simp only [Al_Bool_true_and,Al_Bool_false_and,Al_Bool_and_true,Bool.and_false])
    | (rw [tb9 q9,h63,h68];rfl)
    | (rw [tb9 q9,h63];simp only [Al_Bool_true_and,Al_Bool_false_and,Al_Bool_and_true,Bool.and_false])
    | (rw [tb9 q9,h63];rfl)
    | (rw [tbb (.inl qb),h81,h86];simp only [Al_Bool_true_and,Al_Bool_false_and,Al_Bool_and_true,Bool.and_false])
    | (rw [tbb (.inl qb),h81,h86];rfl)
    | (rw [tbb (.inl qb),h81];simp only [Al_Bool_true_and,Al_Bool_false_and,Al_Bool_and_true,Bool.and_false])
    | (rw [tbb (.inl qb),h81];rfl)
    | (rw [tbb (.inr (.inl qb)),h81,h86];simp only [Al_Bool_true_and,Al_Bool_false_and,Al_Bool_and_true,Bool.and_false])
    | (rw [tbb (.inr (.inl qb)),h81,h86];rfl)
    | (rw [tbb (.inr (.inl qb)),h81];simp only [Al_Bool_true_and,Al_Bool_false_and,Al_Bool_and_true,Bool.and_false])
    | (rw [tbb (.inr (.inl qb)),h81];rfl)
    | (rw [tbb (.inr (.inr (.inl qb))),h81,h86];simp only [Al_Bool_true_and,Al_Bool_false_and,Al_Bool_and_true,Bool.and_false])
    | (rw [tbb (.inr (.inr (.inl qb))),h81,h86];rfl)
    | (rw [tbb (.inr (.inr (.inl qb))),h81];simp only [Al_Bool_true_and,Al_Bool_false_and,Al_Bool_and_true,Bool.and_false])
    | (rw [tbb (.inr (.inr (.inl qb))),h81];rfl)
    | (rw [tbb (.inr (.inr (.inr (.inl qb)))),h81,h86];simp only [Al_Bool_true_and,Al_Bool_false_and,Al_Bool_and_true,Bool.and_false])
    | (rw [tbb (.inr (.inr (.inr (.inl qb)))),h81,h86];rfl)
    | (rw [tbb (.inr (.inr (.inr (.inl qb)))),h81];simp only [Al_Bool_true_and,Al_Bool_false_and,Al_Bool_and_true,Bool.and_false])
    | (rw [tbb (.inr (.inr (.inr (.inl qb)))),h81];rfl)
    | (rw [tbb (.inr (.inr (.inr (.inr qb)))),h81,h86];simp only [Al_Bool_true_and,Al_Bool_false_and,Al_Bool_and_true,Bool.and_false])
    | (rw [tbb (.inr (.inr (.inr (.inr qb)))),h81,h86];rfl)
    | (rw [tbb (.inr (.inr (.inr (.inr qb)))),h81];simp only [Al_Bool_true_and,Al_Bool_false_and,Al_Bool_and_true,Bool.and_false])
    | (rw [tbb (.inr (.inr (.inr (.inr qb)))),h81];rfl)
    | (rw [tbn q1 q4 q585 q588 q6 q9 qb11 qb12 qb13 qb14 qb15])
  refine .gG<|.gG<|.gG<|.yw (.pickF Z Z)<|.mv Z<|.gG<|.gG<|.yw (.pickF Z Z)<|.az Z<|.bR<|.tR<|?_
  refine y9 Z Z λW s=>⟨?_,s.ext⟩
  first
   | (rw [tb1 q1,h10,h15];simp only [Al_Bool_true_and,Al_Bool_false_and,Al_Bool_and_true,Bool.and_false])
   | (rw [tb1 q1,h10,h15];rfl)
   | (rw [tb1 q1,h10];simp only [Al_Bool_true_and,Al_Bool_false_and,Al_Bool_and_true,Bool.and_false])
   | (rw [tb1 q1,h10];rfl)
   | (rw [tb4 q4,h26,h31];simp only [Al_Bool_true_and,Al_Bool_false_and,Al_Bool_and_true,Bool.and_false])
   | (rw [tb4 q4,h26,h31];rfl)
   | (rw [tb4 q4,h26];simp only [Al_Bool_true_and,Al_Bool_false_and,Al_Bool_and_true,Bool.and_false])
   | (rw [tb4 q4,h26];rfl)
   | (rw [tb5 (.inl q58),h43];simp only [Al_Bool_true_and,Al_Bool_false_and,Al_Bool_and_true,Bool.and_false])
   | (rw [tb5 (.inl q58),h43];rfl)
   | (rw [tb5 (.inr q58),h43];simp only [Al_Bool_true_and,Al_Bool_false_and,Al_Bool_and_true,Bool.and_false])
   | (rw [tb5 (.inr q58),h43];rfl)
   | (rw [tb6 q6,h54];simp only [Al_Bool_true_and,Al_Bool_false_and,Al_Bool_and_true,Bool.and_false])
   | (rw [tb6 q6,h54];rfl)
   | (rw [tb9 q9,h63,h68];simp only [Al_Bool_true_and,Al_Bool_false_and,Al_Bool_and_true,Bool.and_false])
   | (rw [tb9 q9,h63,h68];rfl)
   | (rw [tb9 q9,h63];simp only [Al_Bool_true_and,Al_Bool_false_and,Al_Bool_and_true,Bool.and_false])
   | (rw [tb9 q9,h63];rfl)
   | (rw [tbb (.inl qb),h81,h86];simp only [Al_Bool_true_and,Al_Bool_false_and,Al_Bool_and_true,Bool.and_false])
   | (rw [tbb (.inl qb),h81,h86];rfl)
   | (rw [tbb (.inl qb),h81];simp only [Al_Bool_true_and,Al_Bool_false_and,Al_Bool_and_true,Bool.and_false])
   | (rw [tbb (.inl qb),h81];rfl)
   | (rw [tbb (.inr (.inl qb)),h81,h86];simp only [Al_Bool_true_and,Al_Bool_false_and,Al_Bool_and_true,Bool.and_false])
   | (rw [tbb (.inr (.inl qb)),h81,h86];rfl)
   | (rw [tbb (.inr (.inl qb)),h81];simp only [Al_Bool_true_and,Al_Bool_false_and,Al_Bool_and_true,Bool.and_false])
   | (rw [tbb (.inr (.inl qb)),h81];rfl)
   | (rw [tbb (.inr (.inr (.inl qb))),h81,h86];simp only [Al_Bool_true_and,Al_Bool_false_and,Al_Bool_and_true,Bool.and_false])
   | (rw [tbb (.inr (.inr (.inl qb))),h81,h86];rfl)
   | (rw [tbb (.inr (.inr (.inl qb))),h81];simp only [Al_Bool_true_and,Al_Bool_false_and,Al_Bool_and_true,Bool.and_false])
   | (rw [tbb (.inr (.inr (.inl qb))),h81];rfl)
   | (rw [tbb (.inr (.inr (.inr (.inl qb)))),h81,h86];simp only [Al_Bool_true_and,Al_Bool_false_and,Al_Bool_and_true,Bool.and_false])
   | (rw [tbb (.inr (.inr (.inr (.inl qb)))),h81,h86];rfl)
   | (rw [tbb (.inr (.inr (.inr (.inl qb)))),h81];simp only [Al_Bool_true_and,Al_Bool_false_and,Al_Bool_and_true,Bool.and_false])
   | (rw [tbb (.inr (.inr (.inr (.inl qb)))),h81];rfl)
   | (rw [tbb (.inr (.inr (.inr (.inr qb)))),h81,h86];simp only [Al_Bool_true_and,Al_Bool_false_and,Al_Bool_and_true,Bool.and_false])
   | (rw [tbb (.inr (.inr (.inr (.inr qb)))),h81,h86];rfl)
   | (rw [tbb (.inr (.inr (.inr (.inr qb)))),h81];simp only [Al_Bool_true_and,Al_Bool_false_and,Al_Bool_and_true,Bool.and_false])
   | (rw [tbb (.inr (.inr (.inr (.inr qb)))),h81];rfl)
   | (rw [tbn q1 q4 q585 q588 q6 q9 qb11 qb12 qb13 qb14 qb15])
 have q9:¬ op=9:=λe=>Al_of_decide_eq_false h58 (by rw [e];rfl);refine .sq<|.sr<|.yw (.eql Z Z)<|.aq Z<|.cr Z (λh72=>?_) (λh72=>?_)
 ·have qb:op=11:=Al_UInt8_toNat_inj.1 (by have:=Al_of_decide_eq_true h72;show op.toNat=11;omega);refine .sk<|.tN<|.cT Z<|.sr<|.fA Z Fx.field76_1<|.lD Z Fx.agg9 Hm Z<|.yw (.eqS Z Z)<|.mv Z<|.b2 (λh81=>?_) (λh81=>?_)
  ·refine .gy (.fieldAddr Z Fx.field76_2)<|.gy (.load Z Fx.agg2 Hm Z)<|.gy (.cast (.eql Z Z) (congrArg Value.bool i0))<|.yw (.pickT Z Z)<|.mv Z<|.b2 (λh86=>?_) (λh86=>?_)
   ·refine .gy (.loadW Z Fx.agg76 Hm Z)<|.gy (.call Fx.call132 Z (λW s=>operands_any H op nm nn args 2 _ W h (λa ha=>ih a ha) s.agr))<|.yw (.pickT Z Z)<|.az Z<|.bR<|.tR<|?_
    refine y9 Z Z λW s=>⟨?_,s.ext⟩
    first
     | (rw [tb1 q1,h10,h15];simp only [Al_Bool_true_and,Al_Bool_false_and,Al_Bool_and_true,Bool.and_false])
     | (rw [tb1 q1,h10,h15];rfl)
     | (rw [tb1 q1,h10];simp only [Al_Bool_true_and,Al_Bool_false_and,Al_Bool_and_true,Bool.and_false])
     | (rw [tb1 q1,h10];rfl)
     | (rw [tb4 q4,h26,h31];simp only [Al_Bool_true_and,Al_Bool_false_and,Al_Bool_and_true,Bool.and_false])
     | (rw [tb4 q4,h26,h31];rfl)
     | (rw [tb4 q4,h26];simp only [Al_Bool_true_and,Al_Bool_false_and,Al_Bool_and_true,Bool.and_false])
     | (rw [tb4 q4,h26];rfl)
     | (rw [tb5 (.inl q58),h43];simp only [Al_Bool_true_and,Al_Bool_false_and,Al_Bool_and_true,Bool.and_false])
     | (rw [tb5 (.inl q58),h43];rfl)
     | (rw [tb5 (.inr q58),h43];simp only [Al_Bool_true_and,Al_Bool_false_and,Al_Bool_and_true,Bool.and_false])
     | (rw [tb5 (.inr q58),h43];rfl)
     | (rw [tb6 q6,h54];simp only [Al_Bool_true_and,Al_Bool_false_and,Al_Bool_and_true,Bool.and_false])
     | (rw [tb6 q6,h54];rfl)
     | (rw [tb9 q9,h63,h68];simp only [Al_Bool_true_and,Al_Bool_false_and,Al_Bool_and_true,Bool.and_false])
     | (rw [tb9 q9,h63,h68];rfl)
     | (rw [tb9 q9,h63];simp only [Al_Bool_true_and,Al_Bool_false_and,Al_Bool_and_true,Bool.and_false])
     | (rw [tb9 q9,h63];rfl)
     | (rw [tbb (.inl qb),h81,h86];simp only [Al_Bool_true_and,Al_Bool_false_and,Al_Bool_and_true,Bool.and_false])
     | (rw [tbb (.inl qb),h81,h86];rfl)
     | (rw [tbb (.inl qb),h81];simp only [Al_Bool_true_and,Al_Bool_false_and,Al_Bool_and_true,Bool.and_false])
     | (rw [tbb (.inl qb),h81];rfl)
     | (rw [tbb (.inr (.inl qb)),h81,h86];simp only [Al_Bool_true_and,Al_Bool_false_and,Al_Bool_and_true,Bool.and_false])
     | (rw [tbb (.inr (.inl qb)),h81,h86];rfl)
     | (rw [tbb (.inr (.inl qb)),h81];simp only [Al_Bool_true_and,Al_Bool_false_and,Al_Bool_and_true,Bool.and_false])
     | (rw [tbb (.inr (.inl qb)),h81];rfl)
     | (rw [tbb (.inr (.inr (.inl qb))),h81,h86];simp only [Al_Bool_true_and,Al_Bool_false_and,Al_Bool_and_true,Bool.and_false])
     | (rw [tbb (.inr (.inr (.inl qb))),h81,h86];rfl)
     | (rw [tbb (.inr (.inr (.inl qb))),h81];simp only [Al_Bool_true_and,Al_Bool_false_and,Al_Bool_and_true,Bool.and_false])
     | (rw [tbb (.inr (.inr (.inl qb))),h81];rfl)
     | (rw [tbb (.inr (.inr (.inr (.inl qb)))),h81,h86];simp only [Al_Bool_true_and,Al_Bool_false_and,Al_Bool_and_true,Bool.and_false])
     | (rw [tbb (.inr (.inr (.inr (.inl qb)))),h81,h86];rfl)
     | (rw [tbb (.inr (.inr (.inr (.inl qb)))),h81];simp only [Al_Bool_true_and,Al_Bool_false_and,Al_Bool_and_true,Bool.and_false])
     | (rw [tbb (.inr (.inr (.inr (.inl qb)))),h81];rfl)
     | (rw [tbb (.inr (.inr (.inr (.inr qb)))),h81,h86];simp only [Al_Bool_true_and,Al_Bool_false_and,Al_Bool_and_true,Bool.and_false])
     | (rw [tbb (.inr (.inr (.inr (.inr qb)))),h81,h86];rfl)
     | (rw [tbb (.inr (.inr (.inr (.inr qb)))),h81];simp only [Al_Bool_true_and,Al_Bool_false_and,Al_Bool_and_true,Bool.and_false])
     | (rw [tbb (.inr (.inr (.inr (.inr qb)))),h81];rfl)
     | (rw [tbn q1 q4 q585 q588 q6 q9 qb11 qb12 qb13 qb14 qb15])
   refine .gG<|.gG<|.yw (.pickF Z Z)<|.az Z<|.bR<|.tR<|?_
   refine y9 Z Z λW s=>⟨?_,s.ext⟩
   first
    | (rw [tb1 q1,h10,h15];simp only [Al_Bool_true_and,Al_Bool_false_and,Al_Bool_and_true,Bool.and_false])
    | (rw [tb1 q1,h10,h15];rfl)
    | (rw [tb1 q1,h10];simp only [Al_Bool_true_and,Al_Bool_false_and,Al_Bool_and_true,Bool.and_false])
    | (rw [tb1 q1,h10];rfl)
    | (rw [tb4 q4,h26,h31];simp only [Al_Bool_true_and,Al_Bool_false_and,Al_Bool_and_true,Bool.and_false])
    | (rw [tb4 q4,h26,h31];rfl)
    | (rw [tb4 q4,h26];simp only [Al_Bool_true_and,Al_Bool_false_and,Al_Bool_and_true,Bool.and_false])
    | (rw [tb4 q4,h26];rfl)
    | (rw [tb5 (.inl q58),h43];simp only [Al_Bool_true_and,Al_Bool_false_and,Al_Bool_and_true,Bool.and_false])
    | (rw [tb5 (.inl q58),h43];rfl)
    | (rw [tb5 (.inr q58),h43];simp only [Al_Bool_true_and,Al_Bool_false_and,Al_Bool_and_true,Bool.and_false])
    | (rw [tb5 (.inr q58),h43];rfl)
    | (rw [tb6 q6,h54];simp only [Al_Bool_true_and,Al_Bool_false_and,Al_Bool_and_true,Bool.and_false])
    | (rw [tb6 q6,h54];rfl)
    | (rw [tb9 q9,h63,h68];simp only [Al_Bool_true_and,Al_Bool_false_and,Al_Bool_and_true,Bool.and_false])
    | (rw [tb9 q9,h63,h68];rfl)
    | (rw [tb9 q9,h63];simp only [Al_Bool_true_and,Al_Bool_false_and,Al_Bool_and_true,Bool.and_false])
    | (rw [tb9 q9,h63];rfl)
    | (rw [tbb (.inl qb),h81,h86];simp only [Al_Bool_true_and,Al_Bool_false_and,Al_Bool_and_true,Bool.and_false])
    | (rw [tbb (.inl qb),h81,h86];rfl)
    | (rw [tbb (.inl qb),h81];simp only [Al_Bool_true_and,Al_Bool_false_and,Al_Bool_and_true,Bool.and_false])
    | (rw [tbb (.inl qb),h81];rfl)
    | (rw [tbb (.inr (.inl qb)),h81,h86];simp only [Al_Bool_true_and,Al_Bool_false_and,Al_Bool_and_true,Bool.and_false])
    | (rw [tbb (.inr (.inl qb)),h81,h86];rfl)
    | (rw [tbb (.inr (.inl qb)),h81];simp only [Al_Bool_true_and,Al_Bool_false_and,Al_Bool_and_true,Bool.and_false])
    | (rw [tbb (.inr (.inl qb)),h81];rfl)
    | (rw [tbb (.inr (.inr (.inl qb))),h81,h86];simp only [Al_Bool_true_and,Al_Bool_false_and,Al_Bool_and_true,Bool.and_false])
    | (rw [tbb (.inr (.inr (.inl qb))),h81,h86];rfl)
    | (rw [tbb (.inr (.inr (.inl qb))),h81];simp only [Al_Bool_true_and,Al_Bool_false_and,Al_Bool_and_true,Bool.and_false])
    | (rw [tbb (.inr (.inr (.inl qb))),h81];rfl)
    | (rw [tbb (.inr (.inr (.inr (.inl qb)))),h81,h86];simp only [Al_Bool_true_and,Al_Bool_false_and,Al_Bool_and_true,Bool.and_false])
    | (rw [tbb (.inr (.inr (.inr (.inl qb)))),h81,h86];rfl)
    | (rw [tbb (.inr (.inr (.inr (.inl qb)))),h81];simp only [Al_Bool_true_and,Al_Bool_false_and,Al_Bool_and_true,Bool.and_false])
    | (rw [tbb (.inr (.inr (.inr (.inl qb)))),h81];rfl)
    | (rw [tbb (.inr (.inr (.inr (.inr qb)))),h81,h86];simp only [Al_Bool_true_and,Al_Bool_false_and,Al_Bool_and_true,Bool.and_false])
    | (rw [tbb (.inr (.inr (.inr (.inr qb)))),h81,h86];rfl)
    | (rw [tbb (.inr (.inr (.inr (.inr qb)))),h81];simp only [Al_Bool_true_and,Al_Bool_false_and,Al_Bool_and_true,Bool.and_false])
    | (rw [tbb (.inr (.inr (.inr (.inr qb)))),h81];rfl)
    | (rw [tbn q1 q4 q585 q588 q6 q9 qb11 qb12 qb13 qb14 qb15])
  refine .gG<|.gG<|.gG<|.yw (.pickF Z Z)<|.mv Z<|.gG<|.gG<|.yw (.pickF Z Z)<|.az Z<|.bR<|.tR<|?_
  refine y9 Z Z λW s=>⟨?_,s.ext⟩
  first
   | (rw [tb1 q1,h10,h15];simp only [Al_Bool_true_and,Al_Bool_false_and,Al_Bool_and_true,Bool.and_false])
   | (rw [tb1 q1,h10,h15];rfl)
   | (rw [tb1 q1,h10];simp only [Al_Bool_true_and,Al_Bool_false_and,Al_Bool_and_true,Bool.and_false])
   | (rw [tb1 q1,h10];rfl)
   | (rw [tb4 q4,h26,h31];simp only [Al_Bool_true_and,Al_Bool_false_and,Al_Bool_and_true,Bool.and_false])
   | (rw [tb4 q4,h26,h31];rfl)
   | (rw [tb4 q4,h26];simp only [Al_Bool_true_and,Al_Bool_false_and,Al_Bool_and_true,Bool.and_false])
   | (rw [tb4 q4,h26];rfl)
   | (rw [tb5 (.inl q58),h43];simp only [Al_Bool_true_and,Al_Bool_false_and,Al_Bool_and_true,Bool.and_false])
   | (rw [tb5 (.inl q58),h43];rfl)
   | (rw [tb5 (.inr q58),h43];simp only [Al_Bool_true_and,Al_Bool_false_and,Al_Bool_and_true,Bool.and_false])
   | (rw [tb5 (.inr q58),h43];rfl)
   | (rw [tb6 q6,h54];simp only [Al_Bool_true_and,Al_Bool_false_and,Al_Bool_and_true,Bool.and_false])
   | (rw [tb6 q6,h54];rfl)
   | (rw [tb9 q9,h63,h68];simp only [Al_Bool_true_and,Al_Bool_false_and,Al_Bool_and_true,Bool.and_false])
   | (rw [tb9 q9,h63,h68];rfl)
   | (rw [tb9 q9,h63];simp only [Al_Bool_true_and,Al_Bool_false_and,Al_Bool_and_true,Bool.and_false])
   | (rw [tb9 q9,h63];rfl)
   | (rw [tbb (.inl qb),h81,h86];simp only [Al_Bool_true_and,Al_Bool_false_and,Al_Bool_and_true,Bool.and_false])
   | (rw [tbb (.inl qb),h81,h86];rfl)
   | (rw [tbb (.inl qb),h81];simp only [Al_Bool_true_and,Al_Bool_false_and,Al_Bool_and_true,Bool.and_false])
   | (rw [tbb (.inl qb),h81];rfl)
   | (rw [tbb (.inr (.inl qb)),h81,h86];simp only [Al_Bool_true_and,Al_Bool_false_and,Al_Bool_and_true,Bool.and_false])
   | (rw [tbb (.inr (.inl qb)),h81,h86];rfl)
   | (rw [tbb (.inr (.inl qb)),h81];simp only [Al_Bool_true_and,Al_Bool_false_and,Al_Bool_and_true,Bool.and_false])
   | (rw [tbb (.inr (.inl qb)),h81];rfl)
   | (rw [tbb (.inr (.inr (.inl qb))),h81,h86];simp only [Al_Bool_true_and,Al_Bool_false_and,Al_Bool_and_true,Bool.and_false])
   | (rw [tbb (.inr (.inr (.inl qb))),h81,h86];rfl)
   | (rw [tbb (.inr (.inr (.inl qb))),h81];simp only [Al_Bool_true_and,Al_Bool_false_and,Al_Bool_and_true,Bool.and_false])
   | (rw [tbb (.inr (.inr (.inl qb))),h81];rfl)
   | (rw [tbb (.inr (.inr (.inr (.inl qb)))),h81,h86];simp only [Al_Bool_true_and,Al_Bool_false_and,Al_Bool_and_true,Bool.and_false])
   | (rw [tbb (.inr (.inr (.inr (.inl qb)))),h81,h86];rfl)
   | (rw [tbb (.inr (.inr (.inr (.inl qb)))),h81];simp only [Al_Bool_true_and,Al_Bool_false_and,Al_Bool_and_true,Bool.and_false])
   | (rw [tbb (.inr (.inr (.inr (.inl qb)))),h81];rfl)
   | (rw [tbb (.inr (.inr (.inr (.inr qb)))),h81,h86];simp only [Al_Bool_true_and,Al_Bool_false_and,Al_Bool_and_true,Bool.and_false])
   | (rw [tbb (.inr (.inr (.inr (.inr qb)))),h81,h86];rfl)
   | (rw [tbb (.inr (.inr (.inr (.inr qb)))),h81];simp only [Al_Bool_true_and,Al_Bool_false_and,Al_Bool_and_true,Bool.and_false])
   | (rw [tbb (.inr (.inr (.inr (.inr qb)))),h81];rfl)
   | (rw [tbn q1 q4 q585 q588 q6 q9 qb11 qb12 qb13 qb14 qb15])
 have qb11:¬ op=11:=λe=>Al_of_decide_eq_false h72 (by rw [e];rfl);refine .sr<|.yw (.eql Z Z)<|.aq Z<|.cr Z (λh72=>?_) (λh72=>?_)
 ·have qb:op=12:=Al_UInt8_toNat_inj.1 (by have:=Al_of_decide_eq_true h72;show op.toNat=12;omega);refine .sk<|.tN<|.cT Z<|.sr<|.fA Z Fx.field76_1<|.lD Z Fx.agg9 Hm Z<|.yw (.eqS Z Z)<|.mv Z<|.b2 (λh81=>?_) (λh81=>?_)
  ·refine .gy (.fieldAddr Z Fx.field76_2)<|.gy (.load Z Fx.agg2 Hm Z)<|.gy (.cast (.eql Z Z) (congrArg Value.bool i0))<|.yw (.pickT Z Z)<|.mv Z<|.b2 (λh86=>?_) (λh86=>?_)
   ·refine .gy (.loadW Z Fx.agg76 Hm Z)<|.gy (.call Fx.call132 Z (λW s=>operands_any H op nm nn args 2 _ W h (λa ha=>ih a ha) s.agr))<|.yw (.pickT Z Z)<|.az Z<|.bR<|.tR<|?_
    refine y9 Z Z λW s=>⟨?_,s.ext⟩
    first
     | (rw [tb1 q1,h10,h15];simp only [Al_Bool_true_and,Al_Bool_false_and,Al_Bool_and_true,Bool.and_false])
     | (rw [tb1 q1,h10,h15];rfl)
     | (rw [tb1 q1,h10];simp only [Al_Bool_true_and,Al_Bool_false_and,Al_Bool_and_true,Bool.and_false])
     | (rw [tb1 q1,h10];rfl)
     | (rw [tb4 q4,h26,h31];simp only [Al_Bool_true_and,Al_Bool_false_and,Al_Bool_and_true,Bool.and_false])
     | (rw [tb4 q4,h26,h31];rfl)
     | (rw [tb4 q4,h26];simp only [Al_Bool_true_and,Al_Bool_false_and,Al_Bool_and_true,Bool.and_false])
     | (rw [tb4 q4,h26];rfl)
     | (rw [tb5 (.inl q58),h43];simp only [Al_Bool_true_and,Al_Bool_false_and,Al_Bool_and_true,Bool.and_false])
     | (rw [tb5 (.inl q58),h43];rfl)
     | (rw [tb5 (.inr q58),h43];simp only [Al_Bool_true_and,Al_Bool_false_and,Al_Bool_and_true,Bool.and_false])
     | (rw [tb5 (.inr q58),h43];rfl)
     | (rw [tb6 q6,h54];simp only [Al_Bool_true_and,Al_Bool_false_and,Al_Bool_and_true,Bool.and_false])
     | (rw [tb6 q6,h54];rfl)
     | (rw [tb9 q9,h63,h68];simp only [Al_Bool_true_and,Al_Bool_false_and,Al_Bool_and_true,Bool.and_false])
     | (rw [tb9 q9,h63,h68];rfl)
     | (rw [tb9 q9,h63];simp only [Al_Bool_true_and,Al_Bool_false_and,Al_Bool_and_true,Bool.and_false])
     | (rw [tb9 q9,h63];rfl)
     | (rw [tbb (.inl qb),h81,h86];simp only [Al_Bool_true_and,Al_Bool_false_and,Al_Bool_and_true,Bool.and_false])
     | (rw [tbb (.inl qb),h81,h86];rfl)
     | (rw [tbb (.inl qb),h81];simp only [Al_Bool_true_and,Al_Bool_false_and,Al_Bool_and_true,Bool.and_false])
     | (rw [tbb (.inl qb),h81];rfl)
     | (rw [tbb (.inr (.inl qb)),h81,h86];simp only [Al_Bool_true_and,Al_Bool_false_and,Al_Bool_and_true,Bool.and_false])
     | (rw [tbb (.inr (.inl qb)),h81,h86];rfl)
     | (rw [tbb (.inr (.inl qb)),h81];simp only [Al_Bool_true_and,Al_Bool_false_and,Al_Bool_and_true,Bool.and_false])
     | (rw [tbb (.inr (.inl qb)),h81];rfl)
     | (rw [tbb (.inr (.inr (.inl qb))),h81,h86];simp only [Al_Bool_true_and,Al_Bool_false_and,Al_Bool_and_true,Bool.and_false])
     | (rw [tbb (.inr (.inr (.inl qb))),h81,h86];rfl)
     | (rw [tbb (.inr (.inr (.inl qb))),h81];simp only [Al_Bool_true_and,Al_Bool_false_and,Al_Bool_and_true,Bool.and_false])
     | (rw [tbb (.inr (.inr (.inl qb))),h81];rfl)
     | (rw [tbb (.inr (.inr (.inr (.inl qb)))),h81,h86];simp only [Al_Bool_true_and,Al_Bool_false_and,Al_Bool_and_true,Bool.and_false])
     | (rw [tbb (.inr (.inr (.inr (.inl qb)))),h81,h86];rfl)
     | (rw [tbb (.inr (.inr (.inr (.inl qb)))),h81];simp only [Al_Bool_true_and,Al_Bool_false_and,Al_Bool_and_true,Bool.and_false])
     | (rw [tbb (.inr (.inr (.inr (.inl qb)))),h81];rfl)
     | (rw [tbb (.inr (.inr (.inr (.inr qb)))),h81,h86];simp only [Al_Bool_true_and,Al_Bool_false_and,Al_Bool_and_true,Bool.and_false])
     | (rw [tbb (.inr (.inr (.inr (.inr qb)))),h81,h86];rfl)
     | (rw [tbb (.inr (.inr (.inr (.inr qb)))),h81];simp only [Al_Bool_true_and,Al_Bool_false_and,Al_Bool_and_true,Bool.and_false])
     | (rw [tbb (.inr (.inr (.inr (.inr qb)))),h81];rfl)
     | (rw [tbn q1 q4 q585 q588 q6 q9 qb11 qb12 qb13 qb14 qb15])
   refine .gG<|.gG<|.yw (.pickF Z Z)<|.az Z<|.bR<|.tR<|?_
   refine y9 Z Z λW s=>⟨?_,s.ext⟩
   first
    | (rw [tb1 q1,h10,h15];simp only [Al_Bool_true_and,Al_Bool_false_and,Al_Bool_and_true,Bool.and_false])
    | (rw [tb1 q1,h10,h15];rfl)
    | (rw [tb1 q1,h10];simp only [Al_Bool_true_and,Al_Bool_false_and,Al_Bool_and_true,Bool.and_false])
    | (rw [tb1 q1,h10];rfl)
    | (rw [tb4 q4,h26,h31];simp only [Al_Bool_true_and,Al_Bool_false_and,Al_Bool_and_true,Bool.and_false])
    | (rw [tb4 q4,h26,h31];rfl)
    | (rw [tb4 q4,h26];simp only [Al_Bool_true_and,Al_Bool_false_and,Al_Bool_and_true,Bool.and_false])
    | (rw [tb4 q4,h26];rfl)
    | (rw [tb5 (.inl q58),h43];simp only [Al_Bool_true_and,Al_Bool_false_and,Al_Bool_and_true,Bool.and_false])
    | (rw [tb5 (.inl q58),h43];rfl)
    | (rw [tb5 (.inr q58),h43];simp only [Al_Bool_true_and,Al_Bool_false_and,Al_Bool_and_true,Bool.and_false])
    | (rw [tb5 (.inr q58),h43];rfl)
    | (rw [tb6 q6,h54];simp only [Al_Bool_true_and,Al_Bool_false_and,Al_Bool_and_true,Bool.and_false])
    | (rw [tb6 q6,h54];rfl)
    | (rw [tb9 q9,h63,h68];simp only [Al_Bool_true_and,Al_Bool_false_and,Al_Bool_and_true,Bool.and_false])
    | (rw [tb9 q9,h63,h68];rfl)
    | (rw [tb9 q9,h63];simp only [Al_Bool_true_and,Al_Bool_false_and,Al_Bool_and_true,Bool.and_false])
    | (rw [tb9 q9,h63];rfl)
    | (rw [tbb (.inl qb),h81,h86];simp only [Al_Bool_true_and,Al_Bool_false_and,Al_Bool_and_true,Bool.and_false])
    | (rw [tbb (.inl qb),h81,h86];rfl)
    | (rw [tbb (.inl qb),h81];simp only [Al_Bool_true_and,Al_Bool_false_and,Al_Bool_and_true,Bool.and_false])
    | (rw [tbb (.inl qb),h81];rfl)
    | (rw [tbb (.inr (.inl qb)),h81,h86];simp only [Al_Bool_true_and,Al_Bool_false_and,Al_Bool_and_true,Bool.and_false])
    | (rw [tbb (.inr (.inl qb)),h81,h86];rfl)
    | (rw [tbb (.inr (.inl qb)),h81];simp only [Al_Bool_true_and,Al_Bool_false_and,Al_Bool_and_true,Bool.and_false])
    | (rw [tbb (.inr (.inl qb)),h81];rfl)
    | (rw [tbb (.inr (.inr (.inl qb))),h81,h86];simp only [Al_Bool_true_and,Al_Bool_false_and,Al_Bool_and_true,Bool.and_false])
    | (rw [tbb (.inr (.inr (.inl qb))),h81,h86];rfl)
    | (rw [tbb (.inr (.inr (.inl qb))),h81];simp only [Al_Bool_true_and,Al_Bool_false_and,Al_Bool_and_true,Bool.and_false])
    | (rw [tbb (.inr (.inr (.inl qb))),h81];rfl)
    | (rw [tbb (.inr (.inr (.inr (.inl qb)))),h81,h86];simp only [Al_Bool_true_and,Al_Bool_false_and,Al_Bool_and_true,Bool.and_false])
    | (rw [tbb (.inr (.inr (.inr (.inl qb)))),h81,h86];rfl)
    | (rw [tbb (.inr (.inr (.inr (.inl qb)))),h81];simp only [Al_Bool_true_and,Al_Bool_false_and,Al_Bool_and_true,Bool.and_false])
    | (rw [tbb (.inr (.inr (.inr (.inl qb)))),h81];rfl)
    | (rw [tbb (.inr (.inr (.inr (.inr qb)))),h81,h86];simp only [Al_Bool_true_and,Al_Bool_false_and,Al_Bool_and_true,Bool.and_false])
    | (rw [tbb (.inr (.inr (.inr (.inr qb)))),h81,h86];rfl)
    | (rw [tbb (.inr (.inr (.inr (.inr qb)))),h81];simp only [Al_Bool_true_and,Al_Bool_false_and,Al_Bool_and_true,Bool.and_false])
    | (rw [tbb (.inr (.inr (.inr (.inr qb)))),h81];rfl)
    | (rw [tbn q1 q4 q585 q588 q6 q9 qb11 qb12 qb13 qb14 qb15])
  refine .gG<|.gG<|.gG<|.yw (.pickF Z Z)<|.mv Z<|.gG<|.gG<|.yw (.pickF Z Z)<|.az Z<|.bR<|.tR<|?_
  refine y9 Z Z λW s=>⟨?_,s.ext⟩
  first
   | (rw [tb1 q1,h10,h15];simp only [Al_Bool_true_and,Al_Bool_false_and,Al_Bool_and_true,Bool.and_false])
   | (rw [tb1 q1,h10,h15];rfl)
   | (rw [tb1 q1,h10];simp only [Al_Bool_true_and,Al_Bool_false_and,Al_Bool_and_true,Bool.and_false])
   | (rw [tb1 q1,h10];rfl)
   | (rw [tb4 q4,h26,h31];simp only [Al_Bool_true_and,Al_Bool_false_and,Al_Bool_and_true,Bool.and_false])
   | (rw [tb4 q4,h26,h31];rfl)
   | (rw [tb4 q4,h26];simp only [Al_Bool_true_and,Al_Bool_false_and,Al_Bool_and_true,Bool.and_false])
   | (rw [tb4 q4,h26];rfl)
   | (rw [tb5 (.inl q58),h43];simp only [Al_Bool_true_and,Al_Bool_false_and,Al_Bool_and_true,Bool.and_false])
   | (rw [tb5 (.inl q58),h43];rfl)
   | (rw [tb5 (.inr q58),h43];simp only [Al_Bool_true_and,Al_Bool_false_and,Al_Bool_and_true,Bool.and_false])
   | (rw [tb5 (.inr q58),h43];rfl)
   | (rw [tb6 q6,h54];simp only [Al_Bool_true_and,Al_Bool_false_and,Al_Bool_and_true,Bool.and_false])
   | (rw [tb6 q6,h54];rfl)
   | (rw [tb9 q9,h63,h68];simp only [Al_Bool_true_and,Al_Bool_false_and,Al_Bool_and_true,Bool.and_false])
   | (rw [tb9 q9,h63,h68];rfl)
   | (rw [tb9 q9,h63];simp only [Al_Bool_true_and,Al_Bool_false_and,Al_Bool_and_true,Bool.and_false])
   | (rw [tb9 q9,h63];rfl)
   | (rw [tbb (.inl qb),h81,h86];simp only [Al_Bool_true_and,Al_Bool_false_and,Al_Bool_and_true,Bool.and_false])
   | (rw [tbb (.inl qb),h81,h86];rfl)
   | (rw [tbb (.inl qb),h81];simp only [Al_Bool_true_and,Al_Bool_false_and,Al_Bool_and_true,Bool.and_false])
   | (rw [tbb (.inl qb),h81];rfl)
   | (rw [tbb (.inr (.inl qb)),h81,h86];simp only [Al_Bool_true_and,Al_Bool_false_and,Al_Bool_and_true,Bool.and_false])
   | (rw [tbb (.inr (.inl qb)),h81,h86];rfl)
   | (rw [tbb (.inr (.inl qb)),h81];simp only [Al_Bool_true_and,Al_Bool_false_and,Al_Bool_and_true,Bool.and_false])
   | (rw [tbb (.inr (.inl qb)),h81];rfl)
   | (rw [tbb (.inr (.inr (.inl qb))),h81,h86];simp only [Al_Bool_true_and,Al_Bool_false_and,Al_Bool_and_true,Bool.and_false])
   | (rw [tbb (.inr (.inr (.inl qb))),h81,h86];rfl)
   | (rw [tbb (.inr (.inr (.inl qb))),h81];simp only [Al_Bool_true_and,Al_Bool_false_and,Al_Bool_and_true,Bool.and_false])
   | (rw [tbb (.inr (.inr (.inl qb))),h81];rfl)
   | (rw [tbb (.inr (.inr (.inr (.inl qb)))),h81,h86];simp only [Al_Bool_true_and,Al_Bool_false_and,Al_Bool_and_true,Bool.and_false])
   | (rw [tbb (.inr (.inr (.inr (.inl qb)))),h81,h86];rfl)
   | (rw [tbb (.inr (.inr (.inr (.inl qb)))),h81];simp only [Al_Bool_true_and,Al_Bool_false_and,Al_Bool_and_true,Bool.and_false])
   | (rw [tbb (.inr (.inr (.inr (.inl qb)))),h81];rfl)
   | (rw [tbb (.inr (.inr (.inr (.inr qb)))),h81,h86];simp only [Al_Bool_true_and,Al_Bool_false_and,Al_Bool_and_true,Bool.and_false])
   | (rw [tbb (.inr (.inr (.inr (.inr qb)))),h81,h86];rfl)
   | (rw [tbb (.inr (.inr (.inr (.inr qb)))),h81];simp only [Al_Bool_true_and,Al_Bool_false_and,Al_Bool_and_true,Bool.and_false])
   | (rw [tbb (.inr (.inr (.inr (.inr qb)))),h81];rfl)
   | (rw [tbn q1 q4 q585 q588 q6 q9 qb11 qb12 qb13 qb14 qb15])
 have qb12:¬ op=12:=λe=>Al_of_decide_eq_false h72 (by rw [e];rfl);refine .sr<|.yw (.eql Z Z)<|.aq Z<|.cr Z (λh72=>?_) (λh72=>?_)
 ·have qb:op=13:=Al_UInt8_toNat_inj.1 (by have:=Al_of_decide_eq_true h72;show op.toNat=13;omega);refine .sk<|.tN<|.cT Z<|.sr<|.fA Z Fx.field76_1<|.lD Z Fx.agg9 Hm Z<|.yw (.eqS Z Z)<|.mv Z<|.b2 (λh81=>?_) (λh81=>?_)
  ·refine .gy (.fieldAddr Z Fx.field76_2)<|.gy (.load Z Fx.agg2 Hm Z)<|.gy (.cast (.eql Z Z) (congrArg Value.bool i0))<|.yw (.pickT Z Z)<|.mv Z<|.b2 (λh86=>?_) (λh86=>?_)
   ·refine .gy (.loadW Z Fx.agg76 Hm Z)<|.gy (.call Fx.call132 Z (λW s=>operands_any H op nm nn args 2 _ W h (λa ha=>ih a ha) s.agr))<|.yw (.pickT Z Z)<|.az Z<|.bR<|.tR<|?_
    refine y9 Z Z λW s=>⟨?_,s.ext⟩
    first
     | (rw [tb1 q1,h10,h15];simp only [Al_Bool_true_and,Al_Bool_false_and,Al_Bool_and_true,Bool.and_false])
     | (rw [tb1 q1,h10,h15];rfl)
     | (rw [tb1 q1,h10];simp only [Al_Bool_true_and,Al_Bool_false_and,Al_Bool_and_true,Bool.and_false])
     | (rw [tb1 q1,h10];rfl)
     | (rw [tb4 q4,h26,h31];simp only [Al_Bool_true_and,Al_Bool_false_and,Al_Bool_and_true,Bool.and_false])
     | (rw [tb4 q4,h26,h31];rfl)
     | (rw [tb4 q4,h26];simp only [Al_Bool_true_and,Al_Bool_false_and,Al_Bool_and_true,Bool.and_false])
     | (rw [tb4 q4,h26];rfl)
     | (rw [tb5 (.inl q58),h43];simp only [Al_Bool_true_and,Al_Bool_false_and,Al_Bool_and_true,Bool.and_false])
     | (rw [tb5 (.inl q58),h43];rfl)
     | (rw [tb5 (.inr q58),h43];simp only [Al_Bool_true_and,Al_Bool_false_and,Al_Bool_and_true,Bool.and_false])
     | (rw [tb5 (.inr q58),h43];rfl)
     | (rw [tb6 q6,h54];simp only [Al_Bool_true_and,Al_Bool_false_and,Al_Bool_and_true,Bool.and_false])
     | (rw [tb6 q6,h54];rfl)
     | (rw [tb9 q9,h63,h68];simp only [Al_Bool_true_and,Al_Bool_false_and,Al_Bool_and_true,Bool.and_false])
     | (rw [tb9 q9,h63,h68];rfl)
     | (rw [tb9 q9,h63];simp only [Al_Bool_true_and,Al_Bool_false_and,Al_Bool_and_true,Bool.and_false])
     | (rw [tb9 q9,h63];rfl)
     | (rw [tbb (.inl qb),h81,h86];simp only [Al_Bool_true_and,Al_Bool_false_and,Al_Bool_and_true,Bool.and_false])
     | (rw [tbb (.inl qb),h81,h86];rfl)
     | (rw [tbb (.inl qb),h81];simp only [Al_Bool_true_and,Al_Bool_false_and,Al_Bool_and_true,Bool.and_false])
     | (rw [tbb (.inl qb),h81];rfl)
     | (rw [tbb (.inr (.inl qb)),h81,h86];simp only [Al_Bool_true_and,Al_Bool_false_and,Al_Bool_and_true,Bool.and_false])
     | (rw [tbb (.inr (.inl qb)),h81,h86];rfl)
     | (rw [tbb (.inr (.inl qb)),h81];simp only [Al_Bool_true_and,Al_Bool_false_and,Al_Bool_and_true,Bool.and_false])
     | (rw [tbb (.inr (.inl qb)),h81];rfl)
     | (rw [tbb (.inr (.inr (.inl qb))),h81,h86];simp only [Al_Bool_true_and,Al_Bool_false_and,Al_Bool_and_true,Bool.and_false])
     | (rw [tbb (.inr (.inr (.inl qb))),h81,h86];rfl)
     | (rw [tbb (.inr (.inr (.inl qb))),h81];simp only [Al_Bool_true_and,Al_Bool_false_and,Al_Bool_and_true,Bool.and_false])
     | (rw [tbb (.inr (.inr (.inl qb))),h81];rfl)
     | (rw [tbb (.inr (.inr (.inr (.inl qb)))),h81,h86];simp only [Al_Bool_true_and,Al_Bool_false_and,Al_Bool_and_true,Bool.and_false])
     | (rw [tbb (.inr (.inr (.inr (.inl qb)))),h81,h86];rfl)
     | (rw [tbb (.inr (.inr (.inr (.inl qb)))),h81];simp only [Al_Bool_true_and,Al_Bool_false_and,Al_Bool_and_true,Bool.and_false])
     | (rw [tbb (.inr (.inr (.inr (.inl qb)))),h81];rfl)
     | (rw [tbb (.inr (.inr (.inr (.inr qb)))),h81,h86];simp only [Al_Bool_true_and,Al_Bool_false_and,Al_Bool_and_true,Bool.and_false])
     | (rw [tbb (.inr (.inr (.inr (.inr qb)))),h81,h86];rfl)
     | (rw [tbb (.inr (.inr (.inr (.inr qb)))),h81];simp only [Al_Bool_true_and,Al_Bool_false_and,Al_Bool_and_true,Bool.and_false])
     | (rw [tbb (.inr (.inr (.inr (.inr qb)))),h81];rfl)
     | (rw [tbn q1 q4 q585 q588 q6 q9 qb11 qb12 qb13 qb14 qb15])
   refine .gG<|.gG<|.yw (.pickF Z Z)<|.az Z<|.bR<|.tR<|?_
   refine y9 Z Z λW s=>⟨?_,s.ext⟩
   first
    | (rw [tb1 q1,h10,h15];simp only [Al_Bool_true_and,Al_Bool_false_and,Al_Bool_and_true,Bool.and_false])
    | (rw [tb1 q1,h10,h15];rfl)
    | (rw [tb1 q1,h10];simp only [Al_Bool_true_and,Al_Bool_false_and,Al_Bool_and_true,Bool.and_false])
    | (rw [tb1 q1,h10];rfl)
    | (rw [tb4 q4,h26,h31];simp only [Al_Bool_true_and,Al_Bool_false_and,Al_Bool_and_true,Bool.and_false])
    | (rw [tb4 q4,h26,h31];rfl)
    | (rw [tb4 q4,h26];simp only [Al_Bool_true_and,Al_Bool_false_and,Al_Bool_and_true,Bool.and_false])
    | (rw [tb4 q4,h26];rfl)
    | (rw [tb5 (.inl q58),h43];simp only [Al_Bool_true_and,Al_Bool_false_and,Al_Bool_and_true,Bool.and_false])
    | (rw [tb5 (.inl q58),h43];rfl)
    | (rw [tb5 (.inr q58),h43];simp only [Al_Bool_true_and,Al_Bool_false_and,Al_Bool_and_true,Bool.and_false])
    | (rw [tb5 (.inr q58),h43];rfl)
    | (rw [tb6 q6,h54];simp only [Al_Bool_true_and,Al_Bool_false_and,Al_Bool_and_true,Bool.and_false])
    | (rw [tb6 q6,h54];rfl)
    | (rw [tb9 q9,h63,h68];simp only [Al_Bool_true_and,Al_Bool_false_and,Al_Bool_and_true,Bool.and_false])
    | (rw [tb9 q9,h63,h68];rfl)
    | (rw [tb9 q9,h63];simp only [Al_Bool_true_and,Al_Bool_false_and,Al_Bool_and_true,Bool.and_false])
    | (rw [tb9 q9,h63];rfl)
    | (rw [tbb (.inl qb),h81,h86];simp only [Al_Bool_true_and,Al_Bool_false_and,Al_Bool_and_true,Bool.and_false])
    | (rw [tbb (.inl qb),h81,h86];rfl)
    | (rw [tbb (.inl qb),h81];simp only [Al_Bool_true_and,Al_Bool_false_and,Al_Bool_and_true,Bool.and_false])
    | (rw [tbb (.inl qb),h81];rfl)
    | (rw [tbb (.inr (.inl qb)),h81,h86];simp only [Al_Bool_true_and,Al_Bool_false_and,Al_Bool_and_true,Bool.and_false])
    | (rw [tbb (.inr (.inl qb)),h81,h86];rfl)
    | (rw [tbb (.inr (.inl qb)),h81];simp only [Al_Bool_true_and,Al_Bool_false_and,Al_Bool_and_true,Bool.and_false])
    | (rw [tbb (.inr (.inl qb)),h81];rfl)
    | (rw [tbb (.inr (.inr (.inl qb))),h81,h86];simp only [Al_Bool_true_and,Al_Bool_false_and,Al_Bool_and_true,Bool.and_false])
    | (rw [tbb (.inr (.inr (.inl qb))),h81,h86];rfl)
    | (rw [tbb (.inr (.inr (.inl qb))),h81];simp only [Al_Bool_true_and,Al_Bool_false_and,Al_Bool_and_true,Bool.and_false])
    | (rw [tbb (.inr (.inr (.inl qb))),h81];rfl)
    | (rw [tbb (.inr (.inr (.inr (.inl qb)))),h81,h86];simp only [Al_Bool_true_and,Al_Bool_false_and,Al_Bool_and_true,Bool.and_false])
    | (rw [tbb (.inr (.inr (.inr (.inl qb)))),h81,h86];rfl)
    | (rw [tbb (.inr (.inr (.inr (.inl qb)))),h81];simp only [Al_Bool_true_and,Al_Bool_false_and,Al_Bool_and_true,Bool.and_false])
    | (rw [tbb (.inr (.inr (.inr (.inl qb)))),h81];rfl)
    | (rw [tbb (.inr (.inr (.inr (.inr qb)))),h81,h86];simp only [Al_Bool_true_and,Al_Bool_false_and,Al_Bool_and_true,Bool.and_false])
    | (rw [tbb (.inr (.inr (.inr (.inr qb)))),h81,h86];rfl)
    | (rw [tbb (.inr (.inr (.inr (.inr qb)))),h81];simp only [Al_Bool_true_and,Al_Bool_false_and,Al_Bool_and_true,Bool.and_false])
    | (rw [tbb (.inr (.inr (.inr (.inr qb)))),h81];rfl)
    | (rw [tbn q1 q4 q585 q588 q6 q9 qb11 qb12 qb13 qb14 qb15])
  refine .gG<|.gG<|.gG<|.yw (.pickF Z Z)<|.mv Z<|.gG<|.gG<|.yw (.pickF Z Z)<|.az Z<|.bR<|.tR<|?_
  refine y9 Z Z λW s=>⟨?_,s.ext⟩
  first
   | (rw [tb1 q1,h10,h15];simp only [Al_Bool_true_and,Al_Bool_false_and,Al_Bool_and_true,Bool.and_false])
   | (rw [tb1 q1,h10,h15];rfl)
   | (rw [tb1 q1,h10];simp only [Al_Bool_true_and,Al_Bool_false_and,Al_Bool_and_true,Bool.and_false])
   | (rw [tb1 q1,h10];rfl)
   | (rw [tb4 q4,h26,h31];simp only [Al_Bool_true_and,Al_Bool_false_and,Al_Bool_and_true,Bool.and_false])
   | (rw [tb4 q4,h26,h31];rfl)
   | (rw [tb4 q4,h26];simp only [Al_Bool_true_and,Al_Bool_false_and,Al_Bool_and_true,Bool.and_false])
   | (rw [tb4 q4,h26];rfl)
   | (rw [tb5 (.inl q58),h43];simp only [Al_Bool_true_and,Al_Bool_false_and,Al_Bool_and_true,Bool.and_false])
   | (rw [tb5 (.inl q58),h43];rfl)
   | (rw [tb5 (.inr q58),h43];simp only [Al_Bool_true_and,Al_Bool_false_and,Al_Bool_and_true,Bool.and_false])
   | (rw [tb5 (.inr q58),h43];rfl)
   | (rw [tb6 q6,h54];simp only [Al_Bool_true_and,Al_Bool_false_and,Al_Bool_and_true,Bool.and_false])
   | (rw [tb6 q6,h54];rfl)
   | (rw [tb9 q9,h63,h68];simp only [Al_Bool_true_and,Al_Bool_false_and,Al_Bool_and_true,Bool.and_false])
   | (rw [tb9 q9,h63,h68];rfl)
   | (rw [tb9 q9,h63];simp only [Al_Bool_true_and,Al_Bool_false_and,Al_Bool_and_true,Bool.and_false])
   | (rw [tb9 q9,h63];rfl)
   | (rw [tbb (.inl qb),h81,h86];simp only [Al_Bool_true_and,Al_Bool_false_and,Al_Bool_and_true,Bool.and_false])
   | (rw [tbb (.inl qb),h81,h86];rfl)
   | (rw [tbb (.inl qb),h81];simp only [Al_Bool_true_and,Al_Bool_false_and,Al_Bool_and_true,Bool.and_false])
   | (rw [tbb (.inl qb),h81];rfl)
   | (rw [tbb (.inr (.inl qb)),h81,h86];simp only [Al_Bool_true_and,Al_Bool_false_and,Al_Bool_and_true,Bool.and_false])
   | (rw [tbb (.inr (.inl qb)),h81,h86];rfl)
   | (rw [tbb (.inr (.inl qb)),h81];simp only [Al_Bool_true_and,Al_Bool_false_and,Al_Bool_and_true,Bool.and_false])
   | (rw [tbb (.inr (.inl qb)),h81];rfl)
   | (rw [tbb (.inr (.inr (.inl qb))),h81,h86];simp only [Al_Bool_true_and,Al_Bool_false_and,Al_Bool_and_true,Bool.and_false])
   | (rw [tbb (.inr (.inr (.inl qb))),h81,h86];rfl)
   | (rw [tbb (.inr (.inr (.inl qb))),h81];simp only [Al_Bool_true_and,Al_Bool_false_and,Al_Bool_and_true,Bool.and_false])
   | (rw [tbb (.inr (.inr (.inl qb))),h81];rfl)
   | (rw [tbb (.inr (.inr (.inr (.inl qb)))),h81,h86];simp only [Al_Bool_true_and,Al_Bool_false_and,Al_Bool_and_true,Bool.and_false])
   | (rw [tbb (.inr (.inr (.inr (.inl qb)))),h81,h86];rfl)
   | (rw [tbb (.inr (.inr (.inr (.inl qb)))),h81];simp only [Al_Bool_true_and,Al_Bool_false_and,Al_Bool_and_true,Bool.and_false])
   | (rw [tbb (.inr (.inr (.inr (.inl qb)))),h81];rfl)
   | (rw [tbb (.inr (.inr (.inr (.inr qb)))),h81,h86];simp only [Al_Bool_true_and,Al_Bool_false_and,Al_Bool_and_true,Bool.and_false])
   | (rw [tbb (.inr (.inr (.inr (.inr qb)))),h81,h86];rfl)
   | (rw [tbb (.inr (.inr (.inr (.inr qb)))),h81];simp only [Al_Bool_true_and,Al_Bool_false_and,Al_Bool_and_true,Bool.and_false])
   | (rw [tbb (.inr (.inr (.inr (.inr qb)))),h81];rfl)
   | (rw [tbn q1 q4 q585 q588 q6 q9 qb11 qb12 qb13 qb14 qb15])
 have qb13:¬ op=13:=λe=>Al_of_decide_eq_false h72 (by rw [e];rfl);refine .sr<|.yw (.eql Z Z)<|.aq Z<|.cr Z (λh72=>?_) (λh72=>?_)
 ·have qb:op=14:=Al_UInt8_toNat_inj.1 (by have:=Al_of_decide_eq_true h72;show op.toNat=14;omega);refine .sk<|.tN<|.cT Z<|.sr<|.fA Z Fx.field76_1<|.lD Z Fx.agg9 Hm Z<|.yw (.eqS Z Z)<|.mv Z<|.b2 (λh81=>?_) (λh81=>?_)
  ·refine .gy (.fieldAddr Z Fx.field76_2)<|.gy (.load Z Fx.agg2 Hm Z)<|.gy (.cast (.eql Z Z) (congrArg Value.bool i0))<|.yw (.pickT Z Z)<|.mv Z<|.b2 (λh86=>?_) (λh86=>?_)
   ·refine .gy (.loadW Z Fx.agg76 Hm Z)<|.gy (.call Fx.call132 Z (λW s=>operands_any H op nm nn args 2 _ W h (λa ha=>ih a ha) s.agr))<|.yw (.pickT Z Z)<|.az Z<|.bR<|.tR<|?_
    refine y9 Z Z λW s=>⟨?_,s.ext⟩
    first
     | (rw [tb1 q1,h10,h15];simp only [Al_Bool_true_and,Al_Bool_false_and,Al_Bool_and_true,Bool.and_false])
     | (rw [tb1 q1,h10,h15];rfl)
     | (rw [tb1 q1,h10];simp only [Al_Bool_true_and,Al_Bool_false_and,Al_Bool_and_true,Bool.and_false])
     | (rw [tb1 q1,h10];rfl)
     | (rw [tb4 q4,h26,h31];simp only [Al_Bool_true_and,Al_Bool_false_and,Al_Bool_and_true,Bool.and_false])
     | (rw [tb4 q4,h26,h31];rfl)
     | (rw [tb4 q4,h26];simp only [Al_Bool_true_and,Al_Bool_false_and,Al_Bool_and_true,Bool.and_false])
     | (rw [tb4 q4,h26];rfl)
     | (rw [tb5 (.inl q58),h43];simp only [Al_Bool_true_and,Al_Bool_false_and,Al_Bool_and_true,Bool.and_false])
     | (rw [tb5 (.inl q58),h43];rfl)
     | (rw [tb5 (.inr q58),h43];simp only [Al_Bool_true_and,Al_Bool_false_and,Al_Bool_and_true,Bool.and_false])
     | (rw [tb5 (.inr q58),h43];rfl)
     | (rw [tb6 q6,h54];simp only [Al_Bool_true_and,Al_Bool_false_and,Al_Bool_and_true,Bool.and_false])
     | (rw [tb6 q6,h54];rfl)
     | (rw [tb9 q9,h63,h68];simp only [Al_Bool_true_and,Al_Bool_false_and,Al_Bool_and_true,Bool.and_false])
     | (rw [tb9 q9,h63,h68];rfl)
     | (rw [tb9 q9,h63];simp only [Al_Bool_true_and,Al_Bool_false_and,Al_Bool_and_true,Bool.and_false])
     | (rw [tb9 q9,h63];rfl)
     | (rw [tbb (.inl qb),h81,h86];simp only [Al_Bool_true_and,Al_Bool_false_and,Al_Bool_and_true,Bool.and_false])
     | (rw [tbb (.inl qb),h81,h86];rfl)
     | (rw [tbb (.inl qb),h81];simp only [Al_Bool_true_and,Al_Bool_false_and,Al_Bool_and_true,Bool.and_false])
     | (rw [tbb (.inl qb),h81];rfl)
     | (rw [tbb (.inr (.inl qb)),h81,h86];simp only [Al_Bool_true_and,Al_Bool_false_and,Al_Bool_and_true,Bool.and_false])
     | (rw [tbb (.inr (.inl qb)),h81,h86];rfl)
     | (rw [tbb (.inr (.inl qb)),h81];simp only [Al_Bool_true_and,Al_Bool_false_and,Al_Bool_and_true,Bool.and_false])
     | (rw [tbb (.inr (.inl qb)),h81];rfl)
     | (rw [tbb (.inr (.inr (.inl qb))),h81,h86];simp only [Al_Bool_true_and,Al_Bool_false_and,Al_Bool_and_true,Bool.and_false])
     | (rw [tbb (.inr (.inr (.inl qb))),h81,h86];rfl)
     | (rw [tbb (.inr (.inr (.inl qb))),h81];simp only [Al_Bool_true_and,Al_Bool_false_and,Al_Bool_and_true,Bool.and_false])
     | (rw [tbb (.inr (.inr (.inl qb))),h81];rfl)
     | (rw [tbb (.inr (.inr (.inr (.inl qb)))),h81,h86];simp only [Al_Bool_true_and,Al_Bool_false_and,Al_Bool_and_true,Bool.and_false])
     | (rw [tbb (.inr (.inr (.inr (.inl qb)))),h81,h86];rfl)
     | (rw [tbb (.inr (.inr (.inr (.inl qb)))),h81];simp only [Al_Bool_true_and,Al_Bool_false_and,Al_Bool_and_true,Bool.and_false])
     | (rw [tbb (.inr (.inr (.inr (.inl qb)))),h81];rfl)
     | (rw [tbb (.inr (.inr (.inr (.inr qb)))),h81,h86];simp only [Al_Bool_true_and,Al_Bool_false_and,Al_Bool_and_true,Bool.and_false])
     | (rw [tbb (.inr (.inr (.inr (.inr qb)))),h81,h86];rfl)
     | (rw [tbb (.inr (.inr (.inr (.inr qb)))),h81];simp only [Al_Bool_true_and,Al_Bool_false_and,Al_Bool_and_true,Bool.and_false])
     | (rw [tbb (.inr (.inr (.inr (.inr qb)))),h81];rfl)
     | (rw [tbn q1 q4 q585 q588 q6 q9 qb11 qb12 qb13 qb14 qb15])
   refine .gG<|.gG<|.yw (.pickF Z Z)<|.az Z<|.bR<|.tR<|?_
   refine y9 Z Z λW s=>⟨?_,s.ext⟩
   first
    | (rw [tb1 q1,h10,h15];simp only [Al_Bool_true_and,Al_Bool_false_and,Al_Bool_and_true,Bool.and_false])
    | (rw [tb1 q1,h10,h15];rfl)
    | (rw [tb1 q1,h10];simp only [Al_Bool_true_and,Al_Bool_false_and,Al_Bool_and_true,Bool.and_false])
    | (rw [tb1 q1,h10];rfl)
    | (rw [tb4 q4,h26,h31];simp only [Al_Bool_true_and,Al_Bool_false_and,Al_Bool_and_true,Bool.and_false])
    | (rw [tb4 q4,h26,h31];rfl)
    | (rw [tb4 q4,h26];simp only [Al_Bool_true_and,Al_Bool_false_and,Al_Bool_and_true,Bool.and_false])
    | (rw [tb4 q4,h26];rfl)
    | (rw [tb5 (.inl q58),h43];simp only [Al_Bool_true_and,Al_Bool_false_and,Al_Bool_and_true,Bool.and_false])
    | (rw [tb5 (.inl q58),h43];rfl)
    | (rw [tb5 (.inr q58),h43];simp only [Al_Bool_true_and,Al_Bool_false_and,Al_Bool_and_true,Bool.and_false])
    | (rw [tb5 (.inr q58),h43];rfl)
    | (rw [tb6 q6,h54];simp only [Al_Bool_true_and,Al_Bool_false_and,Al_Bool_and_true,Bool.and_false])
    | (rw [tb6 q6,h54];rfl)
    | (rw [tb9 q9,h63,h68];simp only [Al_Bool_true_and,Al_Bool_false_and,Al_Bool_and_true,Bool.and_false])
    | (rw [tb9 q9,h63,h68];rfl)
    | (rw [tb9 q9,h63];simp only [Al_Bool_true_and,Al_Bool_false_and,Al_Bool_and_true,Bool.and_false])
    | (rw [tb9 q9,h63];rfl)
    | (rw [tbb (.inl qb),h81,h86];simp only [Al_Bool_true_and,Al_Bool_false_and,Al_Bool_and_true,Bool.and_false])
    | (rw [tbb (.inl qb),h81,h86];rfl)
    | (rw [tbb (.inl qb),h81];simp only [Al_Bool_true_and,Al_Bool_false_and,Al_Bool_and_true,Bool.and_false])
    | (rw [tbb (.inl qb),h81];rfl)
    | (rw [tbb (.inr (.inl qb)),h81,h86];simp only [Al_Bool_true_and,Al_Bool_false_and,Al_Bool_and_true,Bool.and_false])
    | (rw [tbb (.inr (.inl qb)),h81,h86];rfl)
    | (rw [tbb (.inr (.inl qb)),h81];simp only [Al_Bool_true_and,Al_Bool_false_and,Al_Bool_and_true,Bool.and_false])
    | (rw [tbb (.inr (.inl qb)),h81];rfl)
    | (rw [tbb (.inr (.inr (.inl qb))),h81,h86];simp only [Al_Bool_true_and,Al_Bool_false_and,Al_Bool_and_true,Bool.and_false])
    | (rw [tbb (.inr (.inr (.inl qb))),h81,h86];rfl)
    | (rw [tbb (.inr (.inr (.inl qb))),h81];simp only [Al_Bool_true_and,Al_Bool_false_and,Al_Bool_and_true,Bool.and_false])
    | (rw [tbb (.inr (.inr (.inl qb))),h81];rfl)
    | (rw [tbb (.inr (.inr (.inr (.inl qb)))),h81,h86];simp only [Al_Bool_true_and,Al_Bool_false_and,Al_Bool_and_true,Bool.and_false])
    | (rw [tbb (.inr (.inr (.inr (.inl qb)))),h81,h86];rfl)
    | (rw [tbb (.inr (.inr (.inr (.inl qb)))),h81];simp only [Al_Bool_true_and,Al_Bool_false_and,Al_Bool_and_true,Bool.and_false])
    | (rw [tbb (.inr (.inr (.inr (.inl qb)))),h81];rfl)
    | (rw [tbb (.inr (.inr (.inr (.inr qb)))),h81,h86];simp only [Al_Bool_true_and,Al_Bool_false_and,Al_Bool_and_true,Bool.and_false])
    | (rw [tbb (.inr (.inr (.inr (.inr qb)))),h81,h86];rfl)
    | (rw [tbb (.inr (.inr (.inr (.inr qb)))),h81];simp only [Al_Bool_true_and,Al_Bool_false_and,Al_Bool_and_true,Bool.and_false])
    | (rw [tbb (.inr (.inr (.inr (.inr qb)))),h81];rfl)
    | (rw [tbn q1 q4 q585 q588 q6 q9 qb11 qb12 qb13 qb14 qb15])
  refine .gG<|.gG<|.gG<|.yw (.pickF Z Z)<|.mv Z<|.gG<|.gG<|.yw (.pickF Z Z)<|.az Z<|.bR<|.tR<|?_
  refine y9 Z Z λW s=>⟨?_,s.ext⟩
  first
   | (rw [tb1 q1,h10,h15];simp only [Al_Bool_true_and,Al_Bool_false_and,Al_Bool_and_true,Bool.and_false])
   | (rw [tb1 q1,h10,h15];rfl)
   | (rw [tb1 q1,h10];simp only [Al_Bool_true_and,Al_Bool_false_and,Al_Bool_and_true,Bool.and_false])
   | (rw [tb1 q1,h10];rfl)
   | (rw [tb4 q4,h26,h31];simp only [Al_Bool_true_and,Al_Bool_false_and,Al_Bool_and_true,Bool.and_false])
   | (rw [tb4 q4,h26,h31];rfl)
   | (rw [tb4 q4,h26];simp only [Al_Bool_true_and,Al_Bool_false_and,Al_Bool_and_true,Bool.and_false])
   | (rw [tb4 q4,h26];rfl)
   | (rw [tb5 (.inl q58),h43];simp only [Al_Bool_true_and,Al_Bool_false_and,Al_Bool_and_true,Bool.and_false])
   | (rw [tb5 (.inl q58),h43];rfl)
   | (rw [tb5 (.inr q58),h43];simp only [Al_Bool_true_and,Al_Bool_false_and,Al_Bool_and_true,Bool.and_false])
   | (rw [tb5 (.inr q58),h43];rfl)
   | (rw [tb6 q6,h54];simp only [Al_Bool_true_and,Al_Bool_false_and,Al_Bool_and_true,Bool.and_false])
   | (rw [tb6 q6,h54];rfl)
   | (rw [tb9 q9,h63,h68];simp only [Al_Bool_true_and,Al_Bool_false_and,Al_Bool_and_true,Bool.and_false])
   | (rw [tb9 q9,h63,h68];rfl)
   | (rw [tb9 q9,h63];simp only [Al_Bool_true_and,Al_Bool_false_and,Al_Bool_and_true,Bool.and_false])
   | (rw [tb9 q9,h63];rfl)
   | (rw [tbb (.inl qb),h81,h86];simp only [Al_Bool_true_and,Al_Bool_false_and,Al_Bool_and_true,Bool.and_false])
   | (rw [tbb (.inl qb),h81,h86];rfl)
   | (rw [tbb (.inl qb),h81];simp only [Al_Bool_true_and,Al_Bool_false_and,Al_Bool_and_true,Bool.and_false])
   | (rw [tbb (.inl qb),h81];rfl)
   | (rw [tbb (.inr (.inl qb)),h81,h86];simp only [Al_Bool_true_and,Al_Bool_false_and,Al_Bool_and_true,Bool.and_false])
   | (rw [tbb (.inr (.inl qb)),h81,h86];rfl)
   | (rw [tbb (.inr (.inl qb)),h81];simp only [Al_Bool_true_and,Al_Bool_false_and,Al_Bool_and_true,Bool.and_false])
   | (rw [tbb (.inr (.inl qb)),h81];rfl)
   | (rw [tbb (.inr (.inr (.inl qb))),h81,h86];simp only [Al_Bool_true_and,Al_Bool_false_and,Al_Bool_and_true,Bool.and_false])
   | (rw [tbb (.inr (.inr (.inl qb))),h81,h86];rfl)
   | (rw [tbb (.inr (.inr (.inl qb))),h81];simp only [Al_Bool_true_and,Al_Bool_false_and,Al_Bool_and_true,Bool.and_false])
   | (rw [tbb (.inr (.inr (.inl qb))),h81];rfl)
   | (rw [tbb (.inr (.inr (.inr (.inl qb)))),h81,h86];simp only [Al_Bool_true_and,Al_Bool_false_and,Al_Bool_and_true,Bool.and_false])
   | (rw [tbb (.inr (.inr (.inr (.inl qb)))),h81,h86];rfl)
   | (rw [tbb (.inr (.inr (.inr (.inl qb)))),h81];simp only [Al_Bool_true_and,Al_Bool_false_and,Al_Bool_and_true,Bool.and_false])
   | (rw [tbb (.inr (.inr (.inr (.inl qb)))),h81];rfl)
   | (rw [tbb (.inr (.inr (.inr (.inr qb)))),h81,h86];simp only [Al_Bool_true_and,Al_Bool_false_and,Al_Bool_and_true,Bool.and_false])
   | (rw [tbb (.inr (.inr (.inr (.inr qb)))),h81,h86];rfl)
   | (rw [tbb (.inr (.inr (.inr (.inr qb)))),h81];simp only [Al_Bool_true_and,Al_Bool_false_and,Al_Bool_and_true,Bool.and_false])
   | (rw [tbb (.inr (.inr (.inr (.inr qb)))),h81];rfl)
   | (rw [tbn q1 q4 q585 q588 q6 q9 qb11 qb12 qb13 qb14 qb15])
 have qb14:¬ op=14:=λe=>Al_of_decide_eq_false h72 (by rw [e];rfl);refine .rg<|.yw (.eql Z Z)<|.aq Z<|.cr Z (λh72=>?_) (λh72=>?_)
 ·have qb:op=15:=Al_UInt8_toNat_inj.1 (by have:=Al_of_decide_eq_true h72;show op.toNat=15;omega);refine .sr<|.fA Z Fx.field76_1<|.lD Z Fx.agg9 Hm Z<|.yw (.eqS Z Z)<|.mv Z<|.b2 (λh81=>?_) (λh81=>?_)
  ·refine .gy (.fieldAddr Z Fx.field76_2)<|.gy (.load Z Fx.agg2 Hm Z)<|.gy (.cast (.eql Z Z) (congrArg Value.bool i0))<|.yw (.pickT Z Z)<|.mv Z<|.b2 (λh86=>?_) (λh86=>?_)
   ·refine .gy (.loadW Z Fx.agg76 Hm Z)<|.gy (.call Fx.call132 Z (λW s=>operands_any H op nm nn args 2 _ W h (λa ha=>ih a ha) s.agr))<|.yw (.pickT Z Z)<|.az Z<|.bR<|.tR<|?_
    refine y9 Z Z λW s=>⟨?_,s.ext⟩
    first
     | (rw [tb1 q1,h10,h15];simp only [Al_Bool_true_and,Al_Bool_false_and,Al_Bool_and_true,Bool.and_false])
     | (rw [tb1 q1,h10,h15];rfl)
     | (rw [tb1 q1,h10];simp only [Al_Bool_true_and,Al_Bool_false_and,Al_Bool_and_true,Bool.and_false])
     | (rw [tb1 q1,h10];rfl)
     | (rw [tb4 q4,h26,h31];simp only [Al_Bool_true_and,Al_Bool_false_and,Al_Bool_and_true,Bool.and_false])
     | (rw [tb4 q4,h26,h31];rfl)
     | (rw [tb4 q4,h26];simp only [Al_Bool_true_and,Al_Bool_false_and,Al_Bool_and_true,Bool.and_false])
     | (rw [tb4 q4,h26];rfl)
     | (rw [tb5 (.inl q58),h43];simp only [Al_Bool_true_and,Al_Bool_false_and,Al_Bool_and_true,Bool.and_false])
     | (rw [tb5 (.inl q58),h43];rfl)
     | (rw [tb5 (.inr q58),h43];simp only [Al_Bool_true_and,Al_Bool_false_and,Al_Bool_and_true,Bool.and_false])
     | (rw [tb5 (.inr q58),h43];rfl)
     | (rw [tb6 q6,h54];simp only [Al_Bool_true_and,Al_Bool_false_and,Al_Bool_and_true,Bool.and_false])
     | (rw [tb6 q6,h54];rfl)
     | (rw [tb9 q9,h63,h68];simp only [Al_Bool_true_and,Al_Bool_false_and,Al_Bool_and_true,Bool.and_false])
     | (rw [tb9 q9,h63,h68];rfl)
     | (rw [tb9 q9,h63];simp only [Al_Bool_true_and,Al_Bool_false_and,Al_Bool_and_true,Bool.and_false])
     | (rw [tb9 q9,h63];rfl)
     | (rw [tbb (.inl qb),h81,h86];simp only [Al_Bool_true_and,Al_Bool_false_and,Al_Bool_and_true,Bool.and_false])
     | (rw [tbb (.inl qb),h81,h86];rfl)
     | (rw [tbb (.inl qb),h81];simp only [Al_Bool_true_and,Al_Bool_false_and,Al_Bool_and_true,Bool.and_false])
     | (rw [tbb (.inl qb),h81];rfl)
     | (rw [tbb (.inr (.inl qb)),h81,h86];simp only [Al_Bool_true_and,Al_Bool_false_and,Al_Bool_and_true,Bool.and_false])
     | (rw [tbb (.inr (.inl qb)),h81,h86];rfl)
     | (rw [tbb (.inr (.inl qb)),h81];simp only [Al_Bool_true_and,Al_Bool_false_and,Al_Bool_and_true,Bool.and_false])
     | (rw [tbb (.inr (.inl qb)),h81];rfl)
     | (rw [tbb (.inr (.inr (.inl qb))),h81,h86];simp only [Al_Bool_true_and,Al_Bool_false_and,Al_Bool_and_true,Bool.and_false])
     | (rw [tbb (.inr (.inr (.inl qb))),h81,h86];rfl)
     | (rw [tbb (.inr (.inr (.inl qb))),h81];simp only [Al_Bool_true_and,Al_Bool_false_and,Al_Bool_and_true,Bool.and_false])
     | (rw [tbb (.inr (.inr (.inl qb))),h81];rfl)
     | (rw [tbb (.inr (.inr (.inr (.inl qb)))),h81,h86];simp only [Al_Bool_true_and,Al_Bool_false_and,Al_Bool_and_true,Bool.and_false])
     | (rw [tbb (.inr (.inr (.inr (.inl qb)))),h81,h86];rfl)
     | (rw [tbb (.inr (.inr (.inr (.inl qb)))),h81];simp only [Al_Bool_true_and,Al_Bool_false_and,Al_Bool_and_true,Bool.and_false])
     | (rw [tbb (.inr (.inr (.inr (.inl qb)))),h81];rfl)
     | (rw [tbb (.inr (.inr (.inr (.inr qb)))),h81,h86];simp only [Al_Bool_true_and,Al_Bool_false_and,Al_Bool_and_true,Bool.and_false])
     | (rw [tbb (.inr (.inr (.inr (.inr qb)))),h81,h86];rfl)
     | (rw [tbb (.inr (.inr (.inr (.inr qb)))),h81];simp only [Al_Bool_true_and,Al_Bool_false_and,Al_Bool_and_true,Bool.and_false])
     | (rw [tbb (.inr (.inr (.inr (.inr qb)))),h81];rfl)
     | (rw [tbn q1 q4 q585 q588 q6 q9 qb11 qb12 qb13 qb14 qb15])
   refine .gG<|.gG<|.yw (.pickF Z Z)<|.az Z<|.bR<|.tR<|?_
   refine y9 Z Z λW s=>⟨?_,s.ext⟩
   first
    | (rw [tb1 q1,h10,h15];simp only [Al_Bool_true_and,Al_Bool_false_and,Al_Bool_and_true,Bool.and_false])
    | (rw [tb1 q1,h10,h15];rfl)
    | (rw [tb1 q1,h10];simp only [Al_Bool_true_and,Al_Bool_false_and,Al_Bool_and_true,Bool.and_false])
    | (rw [tb1 q1,h10];rfl)
    | (rw [tb4 q4,h26,h31];simp only [Al_Bool_true_and,Al_Bool_false_and,Al_Bool_and_true,Bool.and_false])
    | (rw [tb4 q4,h26,h31];rfl)
    | (rw [tb4 q4,h26];simp only [Al_Bool_true_and,Al_Bool_false_and,Al_Bool_and_true,Bool.and_false])
    | (rw [tb4 q4,h26];rfl)
    | (rw [tb5 (.inl q58),h43];simp only [Al_Bool_true_and,Al_Bool_false_and,Al_Bool_and_true,Bool.and_false])
    | (rw [tb5 (.inl q58),h43];rfl)
    | (rw [tb5 (.inr q58),h43];simp only [Al_Bool_true_and,Al_Bool_false_and,Al_Bool_and_true,Bool.and_false])
    | (rw [tb5 (.inr q58),h43];rfl)
    | (rw [tb6 q6,h54];simp only [Al_Bool_true_and,Al_Bool_false_and,Al_Bool_and_true,Bool.and_false])
    | (rw [tb6 q6,h54];rfl)
    | (rw [tb9 q9,h63,h68];simp only [Al_Bool_true_and,Al_Bool_false_and,Al_Bool_and_true,Bool.and_false])
    | (rw [tb9 q9,h63,h68];rfl)
    | (rw [tb9 q9,h63];simp only [Al_Bool_true_and,Al_Bool_false_and,Al_Bool_and_true,Bool.and_false])
    | (rw [tb9 q9,h63];rfl)
    | (rw [tbb (.inl qb),h81,h86];simp only [Al_Bool_true_and,Al_Bool_false_and,Al_Bool_and_true,Bool.and_false])
    | (rw [tbb (.inl qb),h81,h86];rfl)
    | (rw [tbb (.inl qb),h81];simp only [Al_Bool_true_and,Al_Bool_false_and,Al_Bool_and_true,Bool.and_false])
    | (rw [tbb (.inl qb),h81];rfl)
    | (rw [tbb (.inr (.inl qb)),h81,h86];simp only [Al_Bool_true_and,Al_Bool_false_and,Al_Bool_and_true,Bool.and_false])
    | (rw [tbb (.inr (.inl qb)),h81,h86];rfl)
    | (rw [tbb (.inr (.inl qb)),h81];simp only [Al_Bool_true_and,Al_Bool_false_and,Al_Bool_and_true,Bool.and_false])
    | (rw [tbb (.inr (.inl qb)),h81];rfl)
    | (rw [tbb (.inr (.inr (.inl qb))),h81,h86];simp only [Al_Bool_true_and,Al_Bool_false_and,Al_Bool_and_true,Bool.and_false])
    | (rw [tbb (.inr (.inr (.inl qb))),h81,h86];rfl)
    | (rw [tbb (.inr (.inr (.inl qb))),h81];simp only [Al_Bool_true_and,Al_Bool_false_and,Al_Bool_and_true,Bool.and_false])
    | (rw [tbb (.inr (.inr (.inl qb))),h81];rfl)
    | (rw [tbb (.inr (.inr (.inr (.inl qb)))),h81,h86];simp only [Al_Bool_true_and,Al_Bool_false_and,Al_Bool_and_true,Bool.and_false])
    | (rw [tbb (.inr (.inr (.inr (.inl qb)))),h81,h86];rfl)
    | (rw [tbb (.inr (.inr (.inr (.inl qb)))),h81];simp only [Al_Bool_true_and,Al_Bool_false_and,Al_Bool_and_true,Bool.and_false])
    | (rw [tbb (.inr (.inr (.inr (.inl qb)))),h81];rfl)
    | (rw [tbb (.inr (.inr (.inr (.inr qb)))),h81,h86];simp only [Al_Bool_true_and,Al_Bool_false_and,Al_Bool_and_true,Bool.and_false])
    | (rw [tbb (.inr (.inr (.inr (.inr qb)))),h81,h86];rfl)
    | (rw [tbb (.inr (.inr (.inr (.inr qb)))),h81];simp only [Al_Bool_true_and,Al_Bool_false_and,Al_Bool_and_true,Bool.and_false])
    | (rw [tbb (.inr (.inr (.inr (.inr qb)))),h81];rfl)
    | (rw [tbn q1 q4 q585 q588 q6 q9 qb11 qb12 qb13 qb14 qb15])
  refine .gG<|.gG<|.gG<|.yw (.pickF Z Z)<|.mv Z<|.gG<|.gG<|.yw (.pickF Z Z)<|.az Z<|.bR<|.tR<|?_
  refine y9 Z Z λW s=>⟨?_,s.ext⟩
  first
   | (rw [tb1 q1,h10,h15];simp only [Al_Bool_true_and,Al_Bool_false_and,Al_Bool_and_true,Bool.and_false])
   | (rw [tb1 q1,h10,h15];rfl)
   | (rw [tb1 q1,h10];simp only [Al_Bool_true_and,Al_Bool_false_and,Al_Bool_and_true,Bool.and_false])
   | (rw [tb1 q1,h10];rfl)
   | (rw [tb4 q4,h26,h31];simp only [Al_Bool_true_and,Al_Bool_false_and,Al_Bool_and_true,Bool.and_false])
   | (rw [tb4 q4,h26,h31];rfl)
   | (rw [tb4 q4,h26];simp only [Al_Bool_true_and,Al_Bool_false_and,Al_Bool_and_true,Bool.and_false])
   | (rw [tb4 q4,h26];rfl)
   | (rw [tb5 (.inl q58),h43];simp only [Al_Bool_true_and,Al_Bool_false_and,Al_Bool_and_true,Bool.and_false])
   | (rw [tb5 (.inl q58),h43];rfl)
   | (rw [tb5 (.inr q58),h43];simp only [Al_Bool_true_and,Al_Bool_false_and,Al_Bool_and_true,Bool.and_false])
   | (rw [tb5 (.inr q58),h43];rfl)
   | (rw [tb6 q6,h54];simp only [Al_Bool_true_and,Al_Bool_false_and,Al_Bool_and_true,Bool.and_false])
   | (rw [tb6 q6,h54];rfl)
   | (rw [tb9 q9,h63,h68];simp only [Al_Bool_true_and,Al_Bool_false_and,Al_Bool_and_true,Bool.and_false])
   | (rw [tb9 q9,h63,h68];rfl)
   | (rw [tb9 q9,h63];simp only [Al_Bool_true_and,Al_Bool_false_and,Al_Bool_and_true,Bool.and_false])
   | (rw [tb9 q9,h63];rfl)
   | (rw [tbb (.inl qb),h81,h86];simp only [Al_Bool_true_and,Al_Bool_false_and,Al_Bool_and_true,Bool.and_false])
   | (rw [tbb (.inl qb),h81,h86];rfl)
   | (rw [tbb (.inl qb),h81];simp only [Al_Bool_true_and,Al_Bool_false_and,Al_Bool_and_true,Bool.and_false])
   | (rw [tbb (.inl qb),h81];rfl)
   | (rw [tbb (.inr (.inl qb)),h81,h86];simp only [Al_Bool_true_and,Al_Bool_false_and,Al_Bool_and_true,Bool.and_false])
   | (rw [tbb (.inr (.inl qb)),h81,h86];rfl)
   | (rw [tbb (.inr (.inl qb)),h81];simp only [Al_Bool_true_and,Al_Bool_false_and,Al_Bool_and_true,Bool.and_false])
   | (rw [tbb (.inr (.inl qb)),h81];rfl)
   | (rw [tbb (.inr (.inr (.inl qb))),h81,h86];simp only [Al_Bool_true_and,Al_Bool_false_and,Al_Bool_and_true,Bool.and_false])
   | (rw [tbb (.inr (.inr (.inl qb))),h81,h86];rfl)
   | (rw [tbb (.inr (.inr (.inl qb))),h81];simp only [Al_Bool_true_and,Al_Bool_false_and,Al_Bool_and_true,Bool.and_false])
   | (rw [tbb (.inr (.inr (.inl qb))),h81];rfl)
   | (rw [tbb (.inr (.inr (.inr (.inl qb)))),h81,h86];simp only [Al_Bool_true_and,Al_Bool_false_and,Al_Bool_and_true,Bool.and_false])
   | (rw [tbb (.inr (.inr (.inr (.inl qb)))),h81,h86];rfl)
   | (rw [tbb (.inr (.inr (.inr (.inl qb)))),h81];simp only [Al_Bool_true_and,Al_Bool_false_and,Al_Bool_and_true,Bool.and_false])
   | (rw [tbb (.inr (.inr (.inr (.inl qb)))),h81];rfl)
   | (rw [tbb (.inr (.inr (.inr (.inr qb)))),h81,h86];simp only [Al_Bool_true_and,Al_Bool_false_and,Al_Bool_and_true,Bool.and_false])
   | (rw [tbb (.inr (.inr (.inr (.inr qb)))),h81,h86];rfl)
   | (rw [tbb (.inr (.inr (.inr (.inr qb)))),h81];simp only [Al_Bool_true_and,Al_Bool_false_and,Al_Bool_and_true,Bool.and_false])
   | (rw [tbb (.inr (.inr (.inr (.inr qb)))),h81];rfl)
   | (rw [tbn q1 q4 q585 q588 q6 q9 qb11 qb12 qb13 qb14 qb15])
 have qb15:¬ op=15:=λe=>Al_of_decide_eq_false h72 (by rw [e];rfl);refine .sk<|.bN<|.tN<|.sr<|.az Z<|?_
 refine y9 Z Z λW s=>⟨?_,s.ext⟩
 first
  | (rw [tb1 q1,h10,h15];simp only [Al_Bool_true_and,Al_Bool_false_and,Al_Bool_and_true,Bool.and_false])
  | (rw [tb1 q1,h10,h15];rfl)
  | (rw [tb1 q1,h10];simp only [Al_Bool_true_and,Al_Bool_false_and,Al_Bool_and_true,Bool.and_false])
  | (rw [tb1 q1,h10];rfl)
  | (rw [tb4 q4,h26,h31];simp only [Al_Bool_true_and,Al_Bool_false_and,Al_Bool_and_true,Bool.and_false])
  | (rw [tb4 q4,h26,h31];rfl)
  | (rw [tb4 q4,h26];simp only [Al_Bool_true_and,Al_Bool_false_and,Al_Bool_and_true,Bool.and_false])
  | (rw [tb4 q4,h26];rfl)
  | (rw [tb5 (.inl q58),h43];simp only [Al_Bool_true_and,Al_Bool_false_and,Al_Bool_and_true,Bool.and_false])
  | (rw [tb5 (.inl q58),h43];rfl)
  | (rw [tb5 (.inr q58),h43];simp only [Al_Bool_true_and,Al_Bool_false_and,Al_Bool_and_true,Bool.and_false])
  | (rw [tb5 (.inr q58),h43];rfl)
  | (rw [tb6 q6,h54];simp only [Al_Bool_true_and,Al_Bool_false_and,Al_Bool_and_true,Bool.and_false])
  | (rw [tb6 q6,h54];rfl)
  | (rw [tb9 q9,h63,h68];simp only [Al_Bool_true_and,Al_Bool_false_and,Al_Bool_and_true,Bool.and_false])
  | (rw [tb9 q9,h63,h68];rfl)
  | (rw [tb9 q9,h63];simp only [Al_Bool_true_and,Al_Bool_false_and,Al_Bool_and_true,Bool.and_false])
  | (rw [tb9 q9,h63];rfl)
  | (rw [tbb (.inl qb),h81,h86];simp only [Al_Bool_true_and,Al_Bool_false_and,Al_Bool_and_true,Bool.and_false])
  | (rw [tbb (.inl qb),h81,h86];rfl)
  | (rw [tbb (.inl qb),h81];simp only [Al_Bool_true_and,Al_Bool_false_and,Al_Bool_and_true,Bool.and_false])
  | (rw [tbb (.inl qb),h81];rfl)
  | (rw [tbb (.inr (.inl qb)),h81,h86];simp only [Al_Bool_true_and,Al_Bool_false_and,Al_Bool_and_true,Bool.and_false])
  | (rw [tbb (.inr (.inl qb)),h81,h86];rfl)
  | (rw [tbb (.inr (.inl qb)),h81];simp only [Al_Bool_true_and,Al_Bool_false_and,Al_Bool_and_true,Bool.and_false])
  | (rw [tbb (.inr (.inl qb)),h81];rfl)
  | (rw [tbb (.inr (.inr (.inl qb))),h81,h86];simp only [Al_Bool_true_and,Al_Bool_false_and,Al_Bool_and_true,Bool.and_false])
  | (rw [tbb (.inr (.inr (.inl qb))),h81,h86];rfl)
  | (rw [tbb (.inr (.inr (.inl qb))),h81];simp only [Al_Bool_true_and,Al_Bool_false_and,Al_Bool_and_true,Bool.and_false])
  | (rw [tbb (.inr (.inr (.inl qb))),h81];rfl)
  | (rw [tbb (.inr (.inr (.inr (.inl qb)))),h81,h86];simp only [Al_Bool_true_and,Al_Bool_false_and,Al_Bool_and_true,Bool.and_false])
  | (rw [tbb (.inr (.inr (.inr (.inl qb)))),h81,h86];rfl)
  | (rw [tbb (.inr (.inr (.inr (.inl qb)))),h81];simp only [Al_Bool_true_and,Al_Bool_false_and,Al_Bool_and_true,Bool.and_false])
  | (rw [tbb (.inr (.inr (.inr (.inl qb)))),h81];rfl)
  | (rw [tbb (.inr (.inr (.inr (.inr qb)))),h81,h86];simp only [Al_Bool_true_and,Al_Bool_false_and,Al_Bool_and_true,Bool.and_false])
  | (rw [tbb (.inr (.inr (.inr (.inr qb)))),h81,h86];rfl)
  | (rw [tbb (.inr (.inr (.inr (.inr qb)))),h81];simp only [Al_Bool_true_and,Al_Bool_false_and,Al_Bool_and_true,Bool.and_false])
  | (rw [tbb (.inr (.inr (.inr (.inr qb)))),h81];rfl)
  | (rw [tbn q1 q4 q585 q588 q6 q9 qb11 qb12 qb13 qb14 qb15])
theorem ge16 {op:UInt8} :decide ((16:Int)<=((op.toNat:Nat):Int))=decide (16<=op.toNat):=by rw [Al_Bool_eq_iff_iff,Al_decide_eq_true_eq,Al_decide_eq_true_eq];omega
theorem le21 {op:UInt8} :decide (((op.toNat:Nat):Int)<=21)=decide (op.toNat<=21):=by rw [Al_Bool_eq_iff_iff,Al_decide_eq_true_eq,Al_decide_eq_true_eq];omega
theorem cmp_mk {op:UInt8} {nm:Str} {n:Int64} {args:List Ex} :cmpB (.mk op nm n args)=(decide (16<=op.toNat) && decide (op.toNat<=21) && decide (nm=[]) && decide (n=0) && (args.all termB && decide (args.length=2))):=by rw [<-termBs_allF];rfl
theorem isCmp_any (H:Hp) (e:Ex) (cs:List Value) (w:World) (h:Rep H (dEx .u8 e) cs) (hA:Agr H w):Calls prg 80 #[.agg cs.toArray] w λr w'=>r=.returned (.bool (cmpB e))/\Ext w w':=by
 obtain ⟨op,nm,nn,args⟩:=e;obtain ⟨pp,c,rfl,hs,hnm⟩:=ex_open h;refine Sx.enter (H:=H) func80 rfl ntmps80 rfl hA ?_;refine .sr<|.bx Z Z Z λb1=>.a Z Z<|.ns<|.fA Z Fx.field76_0<|.lD Z Fx.agg74 Hm Z<|.yw (.cast (.geq Z Z) (congrArg Value.bool (ge16)))<|.mv Z<|.b2 (λh6=>?_) (λh6=>?_)
 ·refine .gy (.fieldAddr Z Fx.field76_0)<|.gy (.load Z Fx.agg74 Hm Z)<|.gy (.cast (.leq Z Z) (congrArg Value.bool (le21)))<|.yw (.pickT Z Z)<|.mv Z<|.b2 (λh11=>?_) (λh11=>?_)
  ·refine .gy (.fieldAddr Z Fx.field76_1)<|.gy (.load Z Fx.agg9 Hm Z)<|.gy (.eqS Z Z)<|.yw (.pickT Z Z)<|.mv Z<|.b2 (λh16=>?_) (λh16=>?_)
   ·refine .gy (.fieldAddr Z Fx.field76_2)<|.gy (.load Z Fx.agg2 Hm Z)<|.gy (.cast (.eql Z Z) (congrArg Value.bool i0))<|.yw (.pickT Z Z)<|.mv Z<|.b2 (λh21=>?_) (λh21=>?_)
    ·refine .gy (.loadW Z Fx.agg76 Hm Z)<|.gy (.call Fx.call132 Z (λW s=>operands_any H op nm nn args 2 _ W h (λa _=>isTerm_any H a) s.agr))<|.yw (.pickT Z Z)<|.az Z<|?_
     refine y9 Z Z λW s=>⟨?_,s.ext⟩
     first
      | (rw [cmp_mk,h6,h11,h16,h21];simp only [Al_Bool_true_and,Al_Bool_false_and,Al_Bool_and_true,Bool.and_false])
      | (rw [cmp_mk,h6,h11,h16,h21];rfl)
      | (rw [cmp_mk,h6,h11,h16];simp only [Al_Bool_true_and,Al_Bool_false_and,Al_Bool_and_true,Bool.and_false])
      | (rw [cmp_mk,h6,h11,h16];rfl)
      | (rw [cmp_mk,h6,h11];simp only [Al_Bool_true_and,Al_Bool_false_and,Al_Bool_and_true,Bool.and_false])
      | (rw [cmp_mk,h6,h11];rfl)
      | (rw [cmp_mk,h6];simp only [Al_Bool_true_and,Al_Bool_false_and,Al_Bool_and_true,Bool.and_false])
      | (rw [cmp_mk,h6];rfl)
    refine .gG<|.gG<|.yw (.pickF Z Z)<|.az Z<|?_
    refine y9 Z Z λW s=>⟨?_,s.ext⟩
    first
     | (rw [cmp_mk,h6,h11,h16,h21];simp only [Al_Bool_true_and,Al_Bool_false_and,Al_Bool_and_true,Bool.and_false])
     | (rw [cmp_mk,h6,h11,h16,h21];rfl)
     | (rw [cmp_mk,h6,h11,h16];simp only [Al_Bool_true_and,Al_Bool_false_and,Al_Bool_and_true,Bool.and_false])
     | (rw [cmp_mk,h6,h11,h16];rfl)
     | (rw [cmp_mk,h6,h11];simp only [Al_Bool_true_and,Al_Bool_false_and,Al_Bool_and_true,Bool.and_false])
     | (rw [cmp_mk,h6,h11];rfl)
     | (rw [cmp_mk,h6];simp only [Al_Bool_true_and,Al_Bool_false_and,Al_Bool_and_true,Bool.and_false])
     | (rw [cmp_mk,h6];rfl)
   refine .gG<|.gG<|.gG<|.yw (.pickF Z Z)<|.mv Z<|.gG<|.gG<|.yw (.pickF Z Z)<|.az Z<|?_
   refine y9 Z Z λW s=>⟨?_,s.ext⟩
   first
    | (rw [cmp_mk,h6,h11,h16,h21];simp only [Al_Bool_true_and,Al_Bool_false_and,Al_Bool_and_true,Bool.and_false])
    | (rw [cmp_mk,h6,h11,h16,h21];rfl)
    | (rw [cmp_mk,h6,h11,h16];simp only [Al_Bool_true_and,Al_Bool_false_and,Al_Bool_and_true,Bool.and_false])
    | (rw [cmp_mk,h6,h11,h16];rfl)
    | (rw [cmp_mk,h6,h11];simp only [Al_Bool_true_and,Al_Bool_false_and,Al_Bool_and_true,Bool.and_false])
    | (rw [cmp_mk,h6,h11];rfl)
    | (rw [cmp_mk,h6];simp only [Al_Bool_true_and,Al_Bool_false_and,Al_Bool_and_true,Bool.and_false])
    | (rw [cmp_mk,h6];rfl)
  refine .gG<|.gG<|.gG<|.yw (.pickF Z Z)<|.mv Z<|.gG<|.gG<|.gG<|.yw (.pickF Z Z)<|.mv Z<|.gG<|.gG<|.yw (.pickF Z Z)<|.az Z<|?_
  refine y9 Z Z λW s=>⟨?_,s.ext⟩
  first
   | (rw [cmp_mk,h6,h11,h16,h21];simp only [Al_Bool_true_and,Al_Bool_false_and,Al_Bool_and_true,Bool.and_false])
   | (rw [cmp_mk,h6,h11,h16,h21];rfl)
   | (rw [cmp_mk,h6,h11,h16];simp only [Al_Bool_true_and,Al_Bool_false_and,Al_Bool_and_true,Bool.and_false])
   | (rw [cmp_mk,h6,h11,h16];rfl)
   | (rw [cmp_mk,h6,h11];simp only [Al_Bool_true_and,Al_Bool_false_and,Al_Bool_and_true,Bool.and_false])
   | (rw [cmp_mk,h6,h11];rfl)
   | (rw [cmp_mk,h6];simp only [Al_Bool_true_and,Al_Bool_false_and,Al_Bool_and_true,Bool.and_false])
   | (rw [cmp_mk,h6];rfl)
 refine .gG<|.gG<|.gG<|.yw (.pickF Z Z)<|.mv Z<|.gG<|.gG<|.gG<|.yw (.pickF Z Z)<|.mv Z<|.gG<|.gG<|.gG<|.yw (.pickF Z Z)<|.mv Z<|.gG<|.gG<|.yw (.pickF Z Z)<|.az Z<|?_
 refine y9 Z Z λW s=>⟨?_,s.ext⟩
 first
  | (rw [cmp_mk,h6,h11,h16,h21];simp only [Al_Bool_true_and,Al_Bool_false_and,Al_Bool_and_true,Bool.and_false])
  | (rw [cmp_mk,h6,h11,h16,h21];rfl)
  | (rw [cmp_mk,h6,h11,h16];simp only [Al_Bool_true_and,Al_Bool_false_and,Al_Bool_and_true,Bool.and_false])
  | (rw [cmp_mk,h6,h11,h16];rfl)
  | (rw [cmp_mk,h6,h11];simp only [Al_Bool_true_and,Al_Bool_false_and,Al_Bool_and_true,Bool.and_false])
  | (rw [cmp_mk,h6,h11];rfl)
  | (rw [cmp_mk,h6];simp only [Al_Bool_true_and,Al_Bool_false_and,Al_Bool_and_true,Bool.and_false])
  | (rw [cmp_mk,h6];rfl)
def frm1B (e:Ex):Bool:=!anyB e && !termB e
theorem frm1 {e:Ex} :frm1B e=(!anyB e && !termB e):=rfl
theorem formed1_any (H:Hp) (e:Ex):EFn H 77 [] frm1B e:=by
 intro cs w h hA;obtain ⟨op,nm,nn,args⟩:=e;obtain ⟨pp,c,rfl,hs,hnm⟩:=ex_open h;refine Sx.enter (H:=H) func77 rfl ntmps77 rfl hA ?_;refine .sr<|.bx Z Z Z λb1=>.a Z Z<|.ns<|.yw (.loadW Z Fx.agg76 Hm Z)<|.yw (.call Fx.call78 Z (λW s=>isAny_any H _ _ W h s.agr))<|.yw (.not Z)<|.mv Z<|.b2 (λh6=>?_) (λh6=>?_)
 ·refine .gy (.loadW Z Fx.agg76 Hm Z)<|.gy (.call Fx.call79 Z (λW s=>isTerm_any H _ _ W h s.agr))<|.gy (.not Z)<|.yw (.pickT Z Z)<|.az Z<|?_
  refine y9 Z Z λW s=>⟨?_,s.ext⟩
  first
   | (rw [frm1,h6,Al_Bool_true_and])
   | (rw [frm1,h6];rfl)
 refine .gG<|.gG<|.gG<|.yw (.pickF Z Z)<|.az Z<|?_
 refine y9 Z Z λW s=>⟨?_,s.ext⟩
 first
  | (rw [frm1,h6,Al_Bool_true_and])
  | (rw [frm1,h6];rfl)
variable {n:Nat}
theorem gtn:decide (((k:Nat):Int)<((n:Nat):Int))=decide (k<n):=by rw [Al_Bool_eq_iff_iff,Al_decide_eq_true_eq,Al_decide_eq_true_eq];omega
theorem shallow1_any (H:Hp) (e:Ex) (n b:Nat) (hd:e.depth<=1000000) (hm:MemAt H b 0 [iN n]):EFn H 72 [.pointer (some ⟨b,0,none⟩)] (λe=>decide (n<e.depth)) e:=by
 intro cs w h hA;obtain ⟨op,nm,nn,args⟩:=e;obtain ⟨pp,c,rfl,hs,hnm⟩:=ex_open h;refine Sx.enter (H:=H) func72 rfl ntmps72 rfl hA ?_;refine .sr<|.bx Z Z Z λb2=>.aq Z<|.sq<|.fL 4 [(0,0),(1,0),(2,0),(3,0)]<|.yw (.loadW Z Fx.agg76 Hm Z)<|.yw (.call Fx.call73 Z (λW s=>exprDepth_any _ H _ W h hd s.agr))<|.yw (.loadM Z Fx.agg3 hm (k:=0) Z Z)<|.yw (.cast (.gtr Z Z) (congrArg Value.bool gtn))<|.fn (tl:=[_]) Z<|.az Z<|?_
 exact y9 Z Z λW s=>⟨Z,s.ext⟩
theorem Fx.agg33:aggN prg 33=some none:=by kernel_rfl
theorem Fx.call35:callN prg 35=true:=by kernel_rfl
theorem Fx.call71:callN prg 71=true:=by kernel_rfl
theorem Fx.call72:callN prg 72=true:=by kernel_rfl
theorem Fx.call75:callN prg 75=true:=by kernel_rfl
theorem Fx.call76:callN prg 76=true:=by kernel_rfl
theorem Fx.field157_1:fieldN prg 157 1=some 1:=by kernel_rfl
theorem Fx.field157_2:fieldN prg 157 2=some 2:=by kernel_rfl
theorem Fx.sl33:slN prg 33=some 7:=by kernel_rfl
theorem Fx.zero3:zeroN prg 3=some [Go.Value.int Go.IntKind.i64 (Int.ofNat 0)]:=by kernel_rfl
theorem both_t {n:Str} (h:(splitF n).isSome=true):bothB n=(nameB (spA n) && nameB (spB n)):=by
 unfold bothB spA spB;cases hs:splitF n with
 | some x=>rfl
 | none=>rw [hs] at h;cases h
theorem both_f {n:Str} (h:(splitF n).isSome=false):bothB n=false:=by
 unfold bothB;cases hs:splitF n with
 | none=>rfl
 | some x=>rw [hs] at h;cases h
theorem spA_len (n:Str):(spA n).length<=n.length:=by
 unfold spA;rcases split_ix n with ⟨i,_,hi,e⟩ | ⟨_,e⟩
 ·rw [e];show (n.take i).length<=_;rw [Al_List_length_take];omega
 ·rw [e];exact Al_Nat_zero_le _
theorem spB_len (n:Str):(spB n).length<=n.length:=by
 unfold spB;rcases split_ix n with ⟨i,_,hi,e⟩ | ⟨_,e⟩
 ·rw [e];show (n.drop (i+1)).length<=_;rw [Al_List_length_drop];omega
 ·rw [e];exact Al_Nat_zero_le _
theorem misBs_anyF:∀ l,misBs l=l.any misB
 | []=>rfl
 | e::r=>by rw [misBs,List.any_cons,misBs_anyF r]
theorem mis5 {op:UInt8} {nm:Str} {n:Int64} {args:List Ex} (h:op=5):misB (.mk op nm n args)=((!bothB nm && !nameB nm) || args.any misB):=by subst h;rw [misB,misBs_anyF];simp
theorem mis6 {op:UInt8} {nm:Str} {n:Int64} {args:List Ex} (h:op=6\/op=8):misB (.mk op nm n args)=(!bothB nm || args.any misB):=by rcases h with rfl | rfl <;> (rw [misB,misBs_anyF];simp)
theorem misN {op:UInt8} {nm:Str} {n:Int64} {args:List Ex} (h:¬ op=5) (h6:¬ op=6) (h8:¬ op=8):misB (.mk op nm n args)=args.any misB:=by rw [misB,misBs_anyF,Al_decide_eq_false h,Al_decide_eq_false h6,Al_decide_eq_false h8];rfl
theorem misnamed_any (H:Hp) (G:Gl H) (e:Ex):EFn H 76 [] misB e:=by
 induction e using Ex.ind with | _ op nm nn args ih
 intro cs w h hA;obtain ⟨pp,c,rfl,hs,hnm⟩:=ex_open h;have hA':Agr H w:=hA;refine Sx.enter (H:=H) func76 rfl ntmps76 rfl hA ?_;refine .sr<|.bx Z Z Z λb1=>.a Z Z<|.ns<|.fA Z Fx.field76_1<|.lD Z Fx.agg9 Hm Z<|.yw (.call Fx.call20 Z (λW s=>split_any nm (by omega) W))<|.mv Z<|.yw (.extract Z Z)<|.yw (.extract Z Z)<|.yw (.extract Z Z)<|.a Z Z<|.a Z Z<|.aq Z<|.cu (X:=Bool) [(1,_)] ⟨Z,Jt⟩ (λz=>[(6,.bool z)]) (λz=>H) (λz=>[.box b1 [.int .u8 op.toNat,strV nm,.int .i64 nn.toInt,.slice pp args.length c] 76]) (λz=>z=bothB nm) ?_ λz hC=>?_
 ·
  refine .rg<|.mv Z<|.mv Z<|.b2 (λh15=>?_) (λh15=>?_)
  ·refine .gy (.move Z)<|.gy (.call Fx.call75 Z (λW s=>isName_any H G (spA nm) (by have:=spA_len nm;have:=spB_len nm;omega) W s.agr))<|.yw (.pickT Z Z)<|.mv Z<|.b2 (λh19=>?_) (λh19=>?_)
   ·exact .gy (.move Z)<|.gy (.call Fx.call75 Z (λW s=>isName_any H G (spB nm) (by have:=spA_len nm;have:=spB_len nm;omega) W s.agr))<|.yw (.pickT Z Z)<|.aq Z<|.me _ ⟨Z,Jt⟩ ⟨Z,Jt⟩ (λ_ s=>s) (by first | (rw [both_t h15,h19,Al_Bool_true_and]) | (rw [both_t h15,h19];rfl) | (rw [both_f h15]))
   exact .gG<|.gG<|.yw (.pickF Z Z)<|.aq Z<|.me _ ⟨Z,Jt⟩ ⟨Z,Jt⟩ (λ_ s=>s) (by first | (rw [both_t h15,h19,Al_Bool_true_and]) | (rw [both_t h15,h19];rfl) | (rw [both_f h15]))
  exact .gG<|.gG<|.yw (.pickF Z Z)<|.mv Z<|.gG<|.gG<|.yw (.pickF Z Z)<|.aq Z<|.me _ ⟨Z,Jt⟩ ⟨Z,Jt⟩ (λ_ s=>s) (by first | (rw [both_t h15,h19,Al_Bool_true_and]) | (rw [both_t h15,h19];rfl) | (rw [both_f h15]))
 have eb:=hC;refine .sq<|.sr<|.fA Z Fx.field76_0<|.lD Z Fx.agg74 Hm Z<|.nt<|.bk<|.sr<|.yw (.eql Z Z)<|.aq Z<|.cd Z (λh25=>?_) (λh25=>?_)
 ·have q5:op=5:=Al_UInt8_toNat_inj.1 (by have:=Al_of_decide_eq_true h25;show op.toNat=5;omega);refine .sm Z<|.yw (.not Z)<|.mv Z<|.b2 (λh29=>?_) (λh29=>?_)
  ·refine .gy (.fieldAddr Z Fx.field76_1)<|.gy (.load Z Fx.agg9 Hm Z)<|.gy (.call Fx.call75 Z (λW s=>isName_any H G nm (by have:=spA_len nm;have:=spB_len nm;omega) W s.agr))<|.gy (.not Z)<|.yw (.pickT Z Z)<|.nt<|.cd Z (λh34=>?_) (λh34=>?_)
   ·refine .sr<|.az Z<|.bR<|.tR<|?_
    refine y9 Z Z λW s=>⟨?_,s.ext⟩
    first
     | (rw [mis5 q5,<-eb,h29,h34];rfl)
     | (rw [mis5 q5,<-eb,h29,h34,Al_Bool_false_or])
     | (rw [mis5 q5,<-eb,h29];rfl)
     | (rw [mis5 q5,<-eb,h29,Al_Bool_false_and,Al_Bool_false_or])
     | (rw [mis6 (.inl q68),<-eb,h39];rfl)
     | (rw [mis6 (.inl q68),<-eb,h39,Al_Bool_false_or])
     | (rw [mis6 (.inr q68),<-eb,h39];rfl)
     | (rw [mis6 (.inr q68),<-eb,h39,Al_Bool_false_or])
     | (rw [misN q5 q686 q688])
   refine .sk<|.bN<|.tN<|.sr<|.fA Z Fx.field76_3<|.lD Z Fx.agg32 Hm Z<|.yw (.call Fx.call71 Z (λW s=>contains_any H 76 [] misB args hs Fx.call76 (λa ha=>ih a ha) W s.agr))<|.az Z<|?_
   refine y9 Z Z λW s=>⟨?_,s.ext⟩
   first
    | (rw [mis5 q5,<-eb,h29,h34];rfl)
    | (rw [mis5 q5,<-eb,h29,h34,Al_Bool_false_or])
    | (rw [mis5 q5,<-eb,h29];rfl)
    | (rw [mis5 q5,<-eb,h29,Al_Bool_false_and,Al_Bool_false_or])
    | (rw [mis6 (.inl q68),<-eb,h39];rfl)
    | (rw [mis6 (.inl q68),<-eb,h39,Al_Bool_false_or])
    | (rw [mis6 (.inr q68),<-eb,h39];rfl)
    | (rw [mis6 (.inr q68),<-eb,h39,Al_Bool_false_or])
    | (rw [misN q5 q686 q688])
  refine .gG<|.gG<|.gG<|.gG<|.yw (.pickF Z Z)<|.nt<|.cF Z<|.sk<|.bN<|.tN<|.sr<|.fA Z Fx.field76_3<|.lD Z Fx.agg32 Hm Z<|.yw (.call Fx.call71 Z (λW s=>contains_any H 76 [] misB args hs Fx.call76 (λa ha=>ih a ha) W s.agr))<|.az Z<|?_
  refine y9 Z Z λW s=>⟨?_,s.ext⟩
  first
   | (rw [mis5 q5,<-eb,h29,h34];rfl)
   | (rw [mis5 q5,<-eb,h29,h34,Al_Bool_false_or])
   | (rw [mis5 q5,<-eb,h29];rfl)
   | (rw [mis5 q5,<-eb,h29,Al_Bool_false_and,Al_Bool_false_or])
   | (rw [mis6 (.inl q68),<-eb,h39];rfl)
   | (rw [mis6 (.inl q68),<-eb,h39,Al_Bool_false_or])
   | (rw [mis6 (.inr q68),<-eb,h39];rfl)
   | (rw [mis6 (.inr q68),<-eb,h39,Al_Bool_false_or])
   | (rw [misN q5 q686 q688])
 have q5:¬ op=5:=λe=>Al_of_decide_eq_false h25 (by rw [e];rfl);refine .sq<|.sr<|.yw (.eql Z Z)<|.aq Z<|.cr Z (λh35=>?_) (λh35=>?_)
 ·have q68:op=6:=Al_UInt8_toNat_inj.1 (by have:=Al_of_decide_eq_true h35;show op.toNat=6;omega);refine .sk<|.tN<|.cT Z<|.sm Z<|.yw (.not Z)<|.nt<|.cd Z (λh39=>?_) (λh39=>?_)
  ·refine .sr<|.az Z<|.bR<|.tR<|?_
   refine y9 Z Z λW s=>⟨?_,s.ext⟩
   first
    | (rw [mis5 q5,<-eb,h29,h34];rfl)
    | (rw [mis5 q5,<-eb,h29,h34,Al_Bool_false_or])
    | (rw [mis5 q5,<-eb,h29];rfl)
    | (rw [mis5 q5,<-eb,h29,Al_Bool_false_and,Al_Bool_false_or])
    | (rw [mis6 (.inl q68),<-eb,h39];rfl)
    | (rw [mis6 (.inl q68),<-eb,h39,Al_Bool_false_or])
    | (rw [mis6 (.inr q68),<-eb,h39];rfl)
    | (rw [mis6 (.inr q68),<-eb,h39,Al_Bool_false_or])
    | (rw [misN q5 q686 q688])
  refine .sk<|.bN<|.tN<|.sr<|.fA Z Fx.field76_3<|.lD Z Fx.agg32 Hm Z<|.yw (.call Fx.call71 Z (λW s=>contains_any H 76 [] misB args hs Fx.call76 (λa ha=>ih a ha) W s.agr))<|.az Z<|?_
  refine y9 Z Z λW s=>⟨?_,s.ext⟩
  first
   | (rw [mis5 q5,<-eb,h29,h34];rfl)
   | (rw [mis5 q5,<-eb,h29,h34,Al_Bool_false_or])
   | (rw [mis5 q5,<-eb,h29];rfl)
   | (rw [mis5 q5,<-eb,h29,Al_Bool_false_and,Al_Bool_false_or])
   | (rw [mis6 (.inl q68),<-eb,h39];rfl)
   | (rw [mis6 (.inl q68),<-eb,h39,Al_Bool_false_or])
   | (rw [mis6 (.inr q68),<-eb,h39];rfl)
   | (rw [mis6 (.inr q68),<-eb,h39,Al_Bool_false_or])
   | (rw [misN q5 q686 q688])
 have q686:¬ op=6:=λe=>Al_of_decide_eq_false h35 (by rw [e];rfl);refine .rg<|.yw (.eql Z Z)<|.aq Z<|.cr Z (λh35=>?_) (λh35=>?_)
 ·have q68:op=8:=Al_UInt8_toNat_inj.1 (by have:=Al_of_decide_eq_true h35;show op.toNat=8;omega);refine .sm Z<|.yw (.not Z)<|.nt<|.cd Z (λh39=>?_) (λh39=>?_)
  ·refine .sr<|.az Z<|.bR<|.tR<|?_
   refine y9 Z Z λW s=>⟨?_,s.ext⟩
   first
    | (rw [mis5 q5,<-eb,h29,h34];rfl)
    | (rw [mis5 q5,<-eb,h29,h34,Al_Bool_false_or])
    | (rw [mis5 q5,<-eb,h29];rfl)
    | (rw [mis5 q5,<-eb,h29,Al_Bool_false_and,Al_Bool_false_or])
    | (rw [mis6 (.inl q68),<-eb,h39];rfl)
    | (rw [mis6 (.inl q68),<-eb,h39,Al_Bool_false_or])
    | (rw [mis6 (.inr q68),<-eb,h39];rfl)
    | (rw [mis6 (.inr q68),<-eb,h39,Al_Bool_false_or])
    | (rw [misN q5 q686 q688])
  refine .sk<|.bN<|.tN<|.sr<|.fA Z Fx.field76_3<|.lD Z Fx.agg32 Hm Z<|.yw (.call Fx.call71 Z (λW s=>contains_any H 76 [] misB args hs Fx.call76 (λa ha=>ih a ha) W s.agr))<|.az Z<|?_
  refine y9 Z Z λW s=>⟨?_,s.ext⟩
  first
   | (rw [mis5 q5,<-eb,h29,h34];rfl)
   | (rw [mis5 q5,<-eb,h29,h34,Al_Bool_false_or])
   | (rw [mis5 q5,<-eb,h29];rfl)
   | (rw [mis5 q5,<-eb,h29,Al_Bool_false_and,Al_Bool_false_or])
   | (rw [mis6 (.inl q68),<-eb,h39];rfl)
   | (rw [mis6 (.inl q68),<-eb,h39,Al_Bool_false_or])
   | (rw [mis6 (.inr q68),<-eb,h39];rfl)
   | (rw [mis6 (.inr q68),<-eb,h39,Al_Bool_false_or])
   | (rw [misN q5 q686 q688])
 have q688:¬ op=8:=λe=>Al_of_decide_eq_false h35 (by rw [e];rfl);refine .sk<|.bN<|.tN<|.sr<|.fA Z Fx.field76_3<|.lD Z Fx.agg32 Hm Z<|.yw (.call Fx.call71 Z (λW s=>contains_any H 76 [] misB args hs Fx.call76 (λa ha=>ih a ha) W s.agr))<|.az Z<|?_
 refine y9 Z Z λW s=>⟨?_,s.ext⟩
 first
  | (rw [mis5 q5,<-eb,h29,h34];rfl)
  | (rw [mis5 q5,<-eb,h29,h34,Al_Bool_false_or])
  | (rw [mis5 q5,<-eb,h29];rfl)
  | (rw [mis5 q5,<-eb,h29,Al_Bool_false_and,Al_Bool_false_or])
  | (rw [mis6 (.inl q68),<-eb,h39];rfl)
  | (rw [mis6 (.inl q68),<-eb,h39,Al_Bool_false_or])
  | (rw [mis6 (.inr q68),<-eb,h39];rfl)
  | (rw [mis6 (.inr q68),<-eb,h39,Al_Bool_false_or])
  | (rw [misN q5 q686 q688])
def FFn (H:Hp) (gf:FuncId) (q:Fm->Bool) (f:Fm):Prop:=∀ (cs:List Value) (W:World),Rep H (dFm .u8 f) cs->Agr H W->Calls prg gf #[.agg cs.toArray] W λr W'=>r=.returned (.bool (q f))/\Ext W W'
theorem fm_alls (q:Fm->Bool):∀ l,Fm.alls q l=l.all (Fm.all q)
 | []=>rfl
 | f::r=>by rw [Fm.alls,Al_List_all_cons,fm_alls q r]
theorem fm_all (q:Fm->Bool) (op:UInt8) (nm fd:Str) (a b:Int64) (ex:List Ex) (args:List Fm):Fm.all q (.mk op nm fd a b ex args)=(q (.mk op nm fd a b ex args) && args.all (Fm.all q)):=by rw [Fm.all,fm_alls]
theorem allF_take {l:List Fm} {p:Fm->Bool} (hk:k<l.length) (h:(l.take k).all p=true) (hp:p l[k]=true):(l.take (k+1)).all p=true:=by
 rw [List.take_succ,List.all_append,h,List.getElem?_eq_getElem hk];simp [hp]
theorem allF_at {l:List Fm} {p:Fm->Bool} (hk:k<l.length) (hp:p l[k]=false):l.all p=false:=List.all_eq_false.2 ⟨_,Al_List_getElem_mem hk,by rw [hp];decide⟩
theorem every_any (H:Hp) (gf:FuncId) (q p:Fm->Bool) (hf:callN prg gf=true) (hg:∀ f,p f=true->FFn H gf q f) (f:Fm):f.all p=true->∀ (cs:List Value) (w:World),Rep H (dFm .u8 f) cs->Agr H w ->
 Calls prg 35 #[.agg cs.toArray,.func (.func gf) #[] #[]] w λr w'=>r=.returned (.bool (f.all q))/\Ext w w':=by
 induction f using Fm.ind with | _ op nm fd a b ex args ih
 intro hp cs w h hA;rw [fm_all,Al_Bool_and_eq_true] at hp;obtain ⟨p1,c1,p2,c2,rfl,hs1,hs2,hnm,hfd⟩:=fm_open h;have hcap:=hs2.cap;refine Sx.enter (H:=H) func35 rfl ntmps35 rfl hA ?_;refine .sr<|.bx Z Z Z λb2=>.aq Z<|.sq<|.sm Z<|.yw (.loadW Z Fx.agg35 Hm Z)<|.yw (.callV (fi:=[]) (ca:=[]) Z hf Z (λW s=>hg _ hp.1 _ W h s.agr))<|.yw (.not Z)<|.nt<|.cd Z (λh10=>?_) (λh10=>?_)
 ·refine .sr<|.az Z<|.tR<|?_
  refine y9 Z Z λW s=>⟨?_,s.ext⟩
  first
   | (rw [fm_all,show q (.mk op nm fd a b ex args)=false by simpa using h10];rfl)
   | (rw [fm_all,allF_at hk (by simpa using h21)];simp)
   | (rw [fm_all,hal,show q (.mk op nm fd a b ex args)=true by simpa using h10];rfl)
 refine .sk<|.tN<|.sq<|.sr<|.fA Z Fx.field35_6<|.lD Z Fx.agg33 Hm Z<|.yw (.lenSl Fx.sl33 Z)<|.mv Z<|.nt<|.bk<|.lp (X:=Nat) [(1,_),(12,_),(13,_)] ⟨Z,Z,Z,Jt⟩ [_] (λk=>[(14,iN k)]) (λk=>H) (λk=>[]) (λk=>k<=args.length/\(args.take k).all (Fm.all q)=true) (λk=>args.length - k) 0 (λ_ s=>s) ⟨Z,Jt⟩ ⟨Al_Nat_zero_le _,Z⟩ λk hC=>?_
 obtain ⟨hk0,hal⟩:=hC;refine .sr<|.yw (.lss Z Z)<|.nt<|.sq<|.ce Z (λh15=>?_) (λh15=>?_)
 ·have hk:k<args.length:=by omega
  obtain ⟨bE,oE,cE,hpE,rE,lE,mE⟩:=hs2.elem (map_at (f:=dFm .u8) hk);cases hpE;have hpk:=Al_List_all_eq_true.1 hp.2 _ (Al_List_getElem_mem hk);refine .sk<|.tN<|.sq<|.bk<|.sr<|.yw (.indexSl Fx.sl33 Z Z Z (by omega) (q:=oE+k * 7) Z)<|.yw (.loadMW Z Fx.agg35 mE lE)<|.al Fx.zero35 Z λb6=>.sV .head Z Z Fx.size35 lE rE.one Z<|.ns<|.yw (.loadW Z Fx.agg35 Hm lE)<|.mv Z<|.yw (.call Fx.call35 Z (λW s=>ih _ (Al_List_getElem_mem hk) hpk cE W rE s.agr))<|.yw (.not Z)<|.nt<|.cd Z (λh21=>?_) (λh21=>?_)
  ·refine .sr<|.az Z<|.bR<|.tR<|.tR<|.bR<|.tR<|?_
   refine y9 Z Z λW s=>⟨?_,s.ext⟩
   first
    | (rw [fm_all,show q (.mk op nm fd a b ex args)=false by simpa using h10];rfl)
    | (rw [fm_all,allF_at hk (by simpa using h21)];simp)
    | (rw [fm_all,hal,show q (.mk op nm fd a b ex args)=true by simpa using h10];rfl)
  exact .sk<|.bN<|.tN<|.rg<|.yw (.add Z Z w7)<|.mv Z<|.nt<|.ag (k+1) ⟨Z,Jt⟩ ⟨Z,Z,Z,Jt⟩ (λ_ s=>s.pick [1] [_] Z Z) ⟨by omega,allF_take hk hal (by simpa using h21)⟩ (by omega)
 obtain rfl:k=args.length:=by omega
 rw [Al_List_take_length] at hal;refine .ex<|.eb<|.sr<|.az Z<|?_
 refine y9 Z Z λW s=>⟨?_,s.ext⟩
 first
  | (rw [fm_all,show q (.mk op nm fd a b ex args)=false by simpa using h10];rfl)
  | (rw [fm_all,allF_at hk (by simpa using h21)];simp)
  | (rw [fm_all,hal,show q (.mk op nm fd a b ex args)=true by simpa using h10];rfl)
theorem shallow_any (H:Hp) (f:Fm) (hd:(λf:Fm=>f.ex.all λe=>decide (e.depth<=1000000)) f=true):FFn H 36 shalB f:=by
 intro cs w h hA;obtain ⟨op,nm,fd,a,b,ex,args⟩:=f;obtain ⟨p1,c1,p2,c2,rfl,hs1,hs2,hnm,hfd⟩:=fm_open h;refine Sx.enter (H:=H) func36 rfl ntmps36 rfl hA ?_;refine .sr<|.bx Z Z Z λb1=>.a Z Z<|.ns<|.al Fx.zero3 Z λb3=>.st .head Z Z Fx.size3 Z (nb Z) Z<|.nt<|.sq<|.sr<|.fA Z Fx.field35_0<|.lD Z Fx.agg31 mem1 Z<|.yw (.eql Z Z)<|.nt<|.cd Z (λh6=>?_) (λh6=>?_)
 ·have q3:op=3:=Al_UInt8_toNat_inj.1 (by have:=Al_of_decide_eq_true h6;show op.toNat=3;omega);refine .rg<|.lD Z Fx.agg3 Hm Z<|.yw (.add Z Z (c:=((9:Nat):Int)) (by decide))<|.st .head Z Z Fx.size3 Z (nb Z) Z<|.nt<|.sq<|?_
  refine freezeBox λH1 u1 m1=>?_;refine .rg<|.fA Z Fx.field35_5<|.lD Z Fx.agg32 Hm Z<|.yw (.mkF Z Z)<|.yw (.call Fx.call71 Z (λW s=>contains_any H1 72 [.pointer (some ⟨b3,0,none⟩)] (λe=>decide (9<e.depth)) ex (hs1.up u1.up) Fx.call72 (λa ha=>shallow1_any H1 a 9 b3 (by have:=Al_List_all_eq_true.1 hd a ha;exact Al_of_decide_eq_true this) m1) W s.agr))<|.yw (.not Z)<|.az Z<|?_
  refine y9 Z Z λW s=>⟨?_,s.ext⟩
  first
   | (unfold shalB;rw [show (Fm.mk op nm fd a b ex args).op=3 from q3];rfl)
   | (unfold shalB;simp only [show ¬ (Fm.mk op nm fd a b ex args).op=3 from q3,Al_if_false];rfl)
 have q3:¬ op=3:=λe=>Al_of_decide_eq_false h6 (by rw [e];rfl);refine .sk<|.tN<|.sq<|?_
 refine freezeBox λH1 u1 m1=>?_;refine .rg<|.fA Z Fx.field35_5<|.lD Z Fx.agg32 Hm Z<|.yw (.mkF Z Z)<|.yw (.call Fx.call71 Z (λW s=>contains_any H1 72 [.pointer (some ⟨b3,0,none⟩)] (λe=>decide (8<e.depth)) ex (hs1.up u1.up) Fx.call72 (λa ha=>shallow1_any H1 a 8 b3 (by have:=Al_List_all_eq_true.1 hd a ha;exact Al_of_decide_eq_true this) m1) W s.agr))<|.yw (.not Z)<|.az Z<|?_
 refine y9 Z Z λW s=>⟨?_,s.ext⟩
 first
  | (unfold shalB;rw [show (Fm.mk op nm fd a b ex args).op=3 from q3];rfl)
  | (unfold shalB;simp only [show ¬ (Fm.mk op nm fd a b ex args).op=3 from q3,Al_if_false];rfl)
theorem nam_mk {op:UInt8} {nm fd:Str} {a b:Int64} {ex:List Ex} {args:List Fm} :namdB (.mk op nm fd a b ex args)=(!((fsOf op).nm && !nameB nm || (fsOf op).fd && !nameB fd) && !ex.any misB):=by rw [<-misBs_anyF];rfl
theorem named_any (H:Hp) (G:Gl H) (Gt:Gf H) (f:Fm):FFn H 37 namdB f:=by
 intro cs w h hA;obtain ⟨op,nm,fd,a,b,ex,args⟩:=f;obtain ⟨p1,c1,p2,c2,rfl,hs1,hs2,hnm,hfd⟩:=fm_open h;refine Sx.enter (H:=H) func37 rfl ntmps37 rfl hA ?_;refine .sr<|.bx Z Z Z λb1=>.a Z Z<|.ns<|.fA Z Fx.field35_0<|.lD Z Fx.agg31 Hm Z<|.yw (.call (v:=.agg (fsC (fsOf op)).toArray) Fx.call74 Z (λW s=>fshape_any H Gt op W s.agr))<|.al Fx.zero157 Z λb3=>.sW .head Z Z Fx.size157 (by simp [fsC,Value.oneCell',strV]) Z<|.nt<|.sq<|.cu (X:=Bool) [(1,_)] ⟨Z,Jt⟩ (λz=>[(24,.bool z)]) (λz=>H) (λz=>[.box b3 (fsC (fsOf op)) 157,.box b1 [.int .u8 op.toNat,strV nm,strV fd,.int .i64 a.toInt,.int .i64 b.toInt,.slice p1 ex.length c1,.slice p2 args.length c2] 35]) (λz=>z=((fsOf op).nm && !nameB nm || (fsOf op).fd && !nameB fd)) ?_ λz hC=>?_
 ·
  refine .rg<|.fA Z Fx.field157_1<|.lD Z Fx.agg4 Hm Z<|.mv Z<|.b2 (λh9=>?_) (λh9=>?_)
  ·refine .gy (.fieldAddr Z Fx.field35_1)<|.gy (.load Z Fx.agg9 mem1 Z)<|.gy (.call Fx.call75 Z (λW s=>isName_any H G nm (by omega) W s.agr))<|.gy (.not Z)<|.yw (.pickT Z Z)<|.mv Z<|.b2 (λh15=>?_) (λh15=>?_)
   ·exact .gG<|.gG<|.gG<|.gV<|.gV<|.gV<|.gV<|.gG<|.yw (.pickT Z Z)<|.nt<|.me _ ⟨Z,Jt⟩ ⟨Z,Jt⟩ (λ_ s=>s) (by first | simp only [h9,h15,h18,Al_Bool_true_and,Al_Bool_false_and,Bool.true_or,Al_Bool_false_or] | simp only [h9,h15,Al_Bool_true_and,Al_Bool_false_and,Bool.true_or,Al_Bool_false_or] | simp only [h9,h18,Al_Bool_true_and,Al_Bool_false_and,Bool.true_or,Al_Bool_false_or])
   refine .gy (.fieldAddr Z Fx.field157_2)<|.gy (.load Z Fx.agg4 Hm Z)<|.gy (.move Z)<|.b2 (λh18=>?_) (λh18=>?_)
   ·exact .gy (.fieldAddr Z Fx.field35_2)<|.gy (.load Z Fx.agg9 mem1 Z)<|.gy (.call Fx.call75 Z (λW s=>isName_any H G fd (by omega) W s.agr))<|.gy (.not Z)<|.gy (.pickT Z Z)<|.yw (.pickF Z Z)<|.nt<|.me _ ⟨Z,Jt⟩ ⟨Z,Jt⟩ (λ_ s=>s) (by first | simp only [h9,h15,h18,Al_Bool_true_and,Al_Bool_false_and,Bool.true_or,Al_Bool_false_or] | simp only [h9,h15,Al_Bool_true_and,Al_Bool_false_and,Bool.true_or,Al_Bool_false_or] | simp only [h9,h18,Al_Bool_true_and,Al_Bool_false_and,Bool.true_or,Al_Bool_false_or])
   exact .gG<|.gG<|.gG<|.gG<|.gy (.pickF Z Z)<|.yw (.pickF Z Z)<|.nt<|.me _ ⟨Z,Jt⟩ ⟨Z,Jt⟩ (λ_ s=>s) (by first | simp only [h9,h15,h18,Al_Bool_true_and,Al_Bool_false_and,Bool.true_or,Al_Bool_false_or] | simp only [h9,h15,Al_Bool_true_and,Al_Bool_false_and,Bool.true_or,Al_Bool_false_or] | simp only [h9,h18,Al_Bool_true_and,Al_Bool_false_and,Bool.true_or,Al_Bool_false_or])
  refine .gG<|.gG<|.gG<|.gG<|.yw (.pickF Z Z)<|.mv Z<|.gy (.fieldAddr Z Fx.field157_2)<|.gy (.load Z Fx.agg4 Hm Z)<|.gy (.move Z)<|.b2 (λh18=>?_) (λh18=>?_)
  ·exact .gy (.fieldAddr Z Fx.field35_2)<|.gy (.load Z Fx.agg9 mem1 Z)<|.gy (.call Fx.call75 Z (λW s=>isName_any H G fd (by omega) W s.agr))<|.gy (.not Z)<|.gy (.pickT Z Z)<|.yw (.pickF Z Z)<|.nt<|.me _ ⟨Z,Jt⟩ ⟨Z,Jt⟩ (λ_ s=>s) (by first | simp only [h9,h15,h18,Al_Bool_true_and,Al_Bool_false_and,Bool.true_or,Al_Bool_false_or] | simp only [h9,h15,Al_Bool_true_and,Al_Bool_false_and,Bool.true_or,Al_Bool_false_or] | simp only [h9,h18,Al_Bool_true_and,Al_Bool_false_and,Bool.true_or,Al_Bool_false_or])
  exact .gG<|.gG<|.gG<|.gG<|.gy (.pickF Z Z)<|.yw (.pickF Z Z)<|.nt<|.me _ ⟨Z,Jt⟩ ⟨Z,Jt⟩ (λ_ s=>s) (by first | simp only [h9,h15,h18,Al_Bool_true_and,Al_Bool_false_and,Bool.true_or,Al_Bool_false_or] | simp only [h9,h15,Al_Bool_true_and,Al_Bool_false_and,Bool.true_or,Al_Bool_false_or] | simp only [h9,h18,Al_Bool_true_and,Al_Bool_false_and,Bool.true_or,Al_Bool_false_or])
 have en:=hC;refine .cd Z (λh24=>?_) (λh24=>?_)
 ·refine .sr<|.az Z<|.tR<|?_
  refine y9 Z Z λW s=>⟨?_,s.ext⟩
  first
   | (rw [nam_mk,<-en,h24];rfl)
   | (rw [nam_mk,<-en,h24,Bool.not_false,Al_Bool_true_and])
 refine .sk<|.tN<|.sr<|.fA Z Fx.field35_5<|.lD Z Fx.agg32 mem1 Z<|.yw (.call Fx.call71 Z (λW s=>contains_any H 76 [] misB ex hs1 Fx.call76 (λa _=>misnamed_any H G a) W s.agr))<|.yw (.not Z)<|.az Z<|?_
 refine y9 Z Z λW s=>⟨?_,s.ext⟩
 first
  | (rw [nam_mk,<-en,h24];rfl)
  | (rw [nam_mk,<-en,h24,Bool.not_false,Al_Bool_true_and])
theorem misBs_any:∀ l,misBs l=l.any misB
 | []=>rfl
 | e::r=>by rw [misBs,List.any_cons,misBs_any r]
theorem termBs_all:∀ l,termBs l=l.all termB
 | []=>rfl
 | e::r=>by rw [termBs,Al_List_all_cons,termBs_all r]
theorem misB_mk (op:UInt8) (nm:Str) (n:Int64) (args:List Ex):misB (.mk op nm n args)=((decide (op=5) && !bothB nm && !nameB nm) || ((decide (op=6) || decide (op=8)) && !bothB nm) || args.any misB):=by rw [misB,misBs_any]
def tnB (op:UInt8) (nm:Str):Bool :=
 if op=5\/op=6\/op=8 then (match splitF nm with | some (a,b)=>nameB a && nameB b | none=>decide (op=5) && nameB nm) else true
theorem nins46:∀ {l:Str},l.all insB=true->splitF l=none
 | [],_=>rfl
 | c::r,h=>by
  rw [Al_List_all_cons,Al_Bool_and_eq_true] at h
  have hc:¬ c=46:=by
   rintro rfl;exact absurd h.1 (by decide)
  rw [splitF,Al_if_neg hc,nins46 h.2];rfl
theorem name_split {n:Str} (h:nameB n=true):splitF n=none:=nins46 (nameB_facts h).2.2.1
theorem tn_mis (op:UInt8) (nm:Str):((decide (op=5) && !bothB nm && !nameB nm) || ((decide (op=6) || decide (op=8)) && !bothB nm))=!tnB op nm:=by
 unfold tnB bothB
 by_cases h5:op=5
 ·subst h5;rw [Al_if_pos (.inl Z)];cases hs:splitF nm with
  | none=>simp
  | some x =>
   have hn:nameB nm=false:=by
    cases h:nameB nm with
    | false=>rfl
    | true=>rw [name_split h] at hs;cases hs
   rw [hn];simp
 ·by_cases h6:op=6\/op=8
  ·rw [Al_if_pos (.inr h6)];have e:(decide (op=6) || decide (op=8))=true:=by rcases h6 with rfl | rfl <;> decide
   rw [e,Al_decide_eq_false h5];cases hs:splitF nm with
   | none=>simp
   | some x=>simp
  ·have e:(decide (op=6) || decide (op=8))=false:=by
    simp only [Al_not_or] at h6;rw [Al_decide_eq_false h6.1,Al_decide_eq_false h6.2];rfl
   rw [Al_if_neg (by rintro (h | h | h);exact h5 h;exact h6 (.inl h);exact h6 (.inr h)),e,Al_decide_eq_false h5];rfl
theorem op_cases {q:UInt8->Prop} [DecidablePred q] (h:∀ i∈List.range 256,q (UInt8.ofNat i)) (op:UInt8):q op:=by
 have:=h op.toNat (Al_List_mem_range.2 op.toNat_lt)
 rwa [Al_UInt8_ofNat_toNat] at this
def trmB (op:UInt8) (nm:Str) (n:Int64) (k:Nat):Bool :=
 (decide (op=1) || decide (op=4) || decide (op=5) || decide (op=6) || decide (op=8) || decide (op=9) || (decide (11<=op.toNat) && decide (op.toNat<=15))) && decide (arR op.toNat=(k:Nat)) && (decide (op=1) || decide (n=0)) && decide (0<=n.toInt) && (decide (nm=[]) || decide (op=5) || decide (op=6) || decide (op=8))
theorem decLn {m:Int} (h:m=(k:Nat)):decide (m=(n:Nat))=decide (n=k):=by
 rw [h,Al_Bool_eq_iff_iff,Al_decide_eq_true_eq,Al_decide_eq_true_eq];omega
theorem term_rec (op:UInt8) (nm:Str) (n:Int64) (args:List Ex):termB (.mk op nm n args)=(trmB op nm n args.length && args.all termB):=by
 rw [termB,termBs_all];unfold trmB
 have r1:decide (n=0)=true->decide (0<=n.toInt)=true:=by
  intro h;rw [Al_decide_eq_true_eq] at h;subst h
  decide
 have r2:decide (args.length=0)=true->args.all termB=true:=by
  intro h;rw [Al_decide_eq_true_eq] at h;rw [Al_List_eq_nil_of_length_eq_zero h];rfl
 generalize args.all termB=z at r2|-;generalize decide (0<=n.toInt)=c at r1|-;generalize decide (n=0)=b at r1|-;generalize decide (nm=[])=a
 by_cases h1:op=1
 ·subst h1;rw [decLn (k:=0) (by decide)];generalize decide (args.length=0)=d at r2|-;simp only [Al_if_true]
  revert a b c d z;decide
 by_cases h4:op=4
 ·subst h4;rw [decLn (k:=0) (by decide)];generalize decide (args.length=0)=d at r2|-;simp only [Al_if_neg (show ¬ (4:UInt8)=1 by decide),Al_if_true]
  revert a b c d z;decide
 by_cases h5:op=5\/op=8
 ·rw [Al_if_neg h1,Al_if_neg h4,Al_if_pos h5];have e:arR op.toNat=0:=by rcases h5 with rfl | rfl <;> decide
  rw [decLn (k:=0) (by rw [e];rfl)];generalize decide (args.length=0)=d at r2|-;rcases h5 with rfl | rfl <;> (revert a b c d z;decide)
 by_cases h6:op=6
 ·subst h6;rw [decLn (k:=1) (by decide)];generalize decide (args.length=1)=d;clear r2;simp only [Al_if_neg (show ¬ (6:UInt8)=1 by decide),Al_if_neg (show ¬ (6:UInt8)=4 by decide),Al_if_neg (show ¬ ((6:UInt8)=5\/(6:UInt8)=8) by decide),Al_if_true]
  revert a b c d z;decide
 by_cases h9:op=9
 ·subst h9;rw [decLn (k:=1) (by decide)];generalize decide (args.length=1)=d;clear r2;simp only [Al_if_neg (show ¬ (9:UInt8)=1 by decide),Al_if_neg (show ¬ (9:UInt8)=4 by decide),Al_if_neg (show ¬ ((9:UInt8)=5\/(9:UInt8)=8) by decide),Al_if_neg (show ¬ (9:UInt8)=6 by decide),Al_if_true]
  revert a b c d z;decide
 rw [Al_if_neg h1,Al_if_neg h4,Al_if_neg h5,Al_if_neg h6,Al_if_neg h9];clear r2
 by_cases hb:op=11\/op=12\/op=13\/op=14\/op=15
 ·rw [Al_if_pos hb];have e:arR op.toNat=2:=by rcases hb with rfl | rfl | rfl | rfl | rfl <;> decide
  rw [decLn (k:=2) (by rw [e];rfl)];generalize decide (args.length=2)=d;rcases hb with rfl | rfl | rfl | rfl | rfl <;> (revert a b c d z;decide)
 ·rw [Al_if_neg hb]
  have e:(decide (op=1) || decide (op=4) || decide (op=5) || decide (op=6) || decide (op=8) || decide (op=9) || (decide (11<=op.toNat) && decide (op.toNat<=15)))=false:=by
   have:=op_cases (q:=λop=>op=1\/op=4\/(op=5\/op=8)\/op=6\/op=9\/(op=11\/op=12\/op=13\/op=14\/op=15)\/(decide (op=1) || decide (op=4) || decide (op=5) || decide (op=6) || decide (op=8) || decide (op=9) || (decide (11<=op.toNat) && decide (op.toNat<=15)))=false) (by decide +kernel) op;rcases this with h | h | h | h | h | h | h
   ·exact absurd h h1
   ·exact absurd h h4
   ·exact absurd h h5
   ·exact absurd h h6
   ·exact absurd h h9
   ·exact absurd h hb
   ·exact h
  rw [e];rfl
theorem Fx.call77:callN prg 77=true:=by kernel_rfl
theorem Fx.call80:callN prg 80=true:=by kernel_rfl
theorem Fx.field157_0:fieldN prg 157 0=some 0:=by kernel_rfl
theorem Fx.field157_3:fieldN prg 157 3=some 3:=by kernel_rfl
theorem Fx.field157_4:fieldN prg 157 4=some 4:=by kernel_rfl
theorem Fx.field157_5:fieldN prg 157 5=some 5:=by kernel_rfl
theorem Fx.field157_6:fieldN prg 157 6=some 6:=by kernel_rfl
theorem fs_small (op:UInt8):(fsOf op).ar<=2/\(fsOf op).ex<=1:=op_cases (q:=λop=>(fsOf op).ar<=2/\(fsOf op).ex<=1) (by decide +kernel) op
theorem nn0:decide (¬ ((n:Nat):Int)=((k:Nat):Int))=!decide (n=k):=by rw [<-n0,decide_not]
theorem le4:decide (((n:Nat):Int)<=4)=decide (n<=4):=by rw [Al_Bool_eq_iff_iff,Al_decide_eq_true_eq,Al_decide_eq_true_eq];omega
theorem form_mk {op:UInt8} {nm fd:Str} {a b:Int64} {ex:List Ex} {args:List Fm} :formB (.mk op nm fd a b ex args)=(decide (¬ (fsOf op).lv=0) && ((fsOf op).nm || decide (nm=[])) && ((fsOf op).fd || decide (fd=[])) && decide (args.length=(fsOf op).ar) && bndB (.mk op nm fd a b ex args) && exsB (.mk op nm fd a b ex args)):=rfl
theorem form_bad {op:UInt8} {nm fd:Str} {a b:Int64} {ex:List Ex} {args:List Fm} (h:(decide ((fsOf op).lv=0) || (!(fsOf op).nm && !decide (nm=[])) || (!(fsOf op).fd && !decide (fd=[])) || !decide (args.length=(fsOf op).ar))=true):formB (.mk op nm fd a b ex args)=false:=by
 rw [form_mk,decide_not];generalize decide ((fsOf op).lv=0)=x1 at *;generalize (fsOf op).nm=x2 at *;generalize decide (nm=[])=x3 at *;generalize (fsOf op).fd=x4 at *;generalize decide (fd=[])=x5 at *;generalize decide (args.length=(fsOf op).ar)=x6 at *;generalize bndB (.mk op nm fd a b ex args)=x7;generalize exsB (.mk op nm fd a b ex args)=x8
 revert h
 cases x1 <;> cases x2 <;> cases x3 <;> cases x4 <;> cases x5 <;> cases x6 <;> simp
theorem form_bnd {op:UInt8} {nm fd:Str} {a b:Int64} {ex:List Ex} {args:List Fm} (h:bndB (.mk op nm fd a b ex args)=false):formB (.mk op nm fd a b ex args)=false:=by rw [form_mk,h,Bool.and_false,Al_Bool_false_and]
theorem form_ok {op:UInt8} {nm fd:Str} {a b:Int64} {ex:List Ex} {args:List Fm} (h:(decide ((fsOf op).lv=0) || (!(fsOf op).nm && !decide (nm=[])) || (!(fsOf op).fd && !decide (fd=[])) || !decide (args.length=(fsOf op).ar))=false) (hb:bndB (.mk op nm fd a b ex args)=true):formB (.mk op nm fd a b ex args)=exsB (.mk op nm fd a b ex args):=by
 rw [form_mk,decide_not,hb];generalize decide ((fsOf op).lv=0)=x1 at *;generalize (fsOf op).nm=x2 at *;generalize decide (nm=[])=x3 at *;generalize (fsOf op).fd=x4 at *;generalize decide (fd=[])=x5 at *;generalize decide (args.length=(fsOf op).ar)=x6 at *
 revert h
 cases x1 <;> cases x2 <;> cases x3 <;> cases x4 <;> cases x5 <;> cases x6 <;> simp
theorem dec0 {n:Int64} :(n=0)=(n.toInt=0):=by have:=@i0 n;rw [Al_Bool_eq_iff_iff,Al_decide_eq_true_eq,Al_decide_eq_true_eq] at this;exact propext this.symm
theorem bnd_w {op:UInt8} {nm fd:Str} {a b:Int64} {ex:List Ex} {args:List Fm} (h:(fsOf op).wn=true):bndB (.mk op nm fd a b ex args)=decide ((a.toInt=0/\b.toInt=-1)\/(0<=a.toInt/\a.toInt<=b.toInt/\b.toInt<=200)):=by
 unfold bndB;rw [Al_if_pos (show (fsOf (Fm.mk op nm fd a b ex args).op).wn=true from h),Al_Bool_eq_iff_iff];show ((decide (a=0) && decide (b.toInt=-1)) || (decide (0<=a.toInt) && decide (a.toInt<=b.toInt) && decide (b.toInt<=200)))=true↔_;rw [Al_Bool_or_eq_true,Al_Bool_and_eq_true,Al_Bool_and_eq_true,Al_Bool_and_eq_true,Al_decide_eq_true_eq,Al_decide_eq_true_eq,Al_decide_eq_true_eq,Al_decide_eq_true_eq,Al_decide_eq_true_eq,Al_decide_eq_true_eq,dec0];omega
theorem bnd_a {op:UInt8} {nm fd:Str} {a b:Int64} {ex:List Ex} {args:List Fm} (h:(fsOf op).wn=false) (h2:(fsOf op).am=true):bndB (.mk op nm fd a b ex args)=decide (-1000000<=a.toInt/\a.toInt<=b.toInt/\b.toInt<=1000000/\b.toInt - a.toInt<32):=by
 unfold bndB;rw [Al_if_neg (show ¬ (fsOf (Fm.mk op nm fd a b ex args).op).wn=true by show ¬ (fsOf op).wn=true;rw [h];decide),Al_if_pos (show (fsOf (Fm.mk op nm fd a b ex args).op).am=true from h2),Al_Bool_eq_iff_iff];show (decide (-1000000<=a.toInt) && decide (a.toInt<=b.toInt) && decide (b.toInt<=1000000) && decide (b.toInt - a.toInt<32))=true↔_;rw [Al_Bool_and_eq_true,Al_Bool_and_eq_true,Al_Bool_and_eq_true,Al_decide_eq_true_eq,Al_decide_eq_true_eq,Al_decide_eq_true_eq,Al_decide_eq_true_eq,Al_decide_eq_true_eq];omega
theorem bnd_n {op:UInt8} {nm fd:Str} {a b:Int64} {ex:List Ex} {args:List Fm} (h:(fsOf op).wn=false) (h2:(fsOf op).am=false):bndB (.mk op nm fd a b ex args)=decide (a.toInt=0/\b.toInt=0):=by
 unfold bndB;rw [Al_if_neg (show ¬ (fsOf (Fm.mk op nm fd a b ex args).op).wn=true by show ¬ (fsOf op).wn=true;rw [h];decide),Al_if_neg (show ¬ (fsOf (Fm.mk op nm fd a b ex args).op).am=true by show ¬ (fsOf op).am=true;rw [h2];decide),Al_Bool_eq_iff_iff];show (decide (a=0) && decide (b=0))=true↔_;rw [Al_Bool_and_eq_true,Al_decide_eq_true_eq,Al_decide_eq_true_eq,Al_decide_eq_true_eq,dec0,dec0]
theorem all_frm {l:List Ex} :(!l.any frm1B)=l.all λe=>anyB e || termB e:=by
 induction l with
 | nil=>rfl
 | cons e r ih=>rw [List.any_cons,Al_List_all_cons,<-ih,frm1];cases anyB e <;> cases termB e <;> simp
theorem exs7 {op:UInt8} {nm fd:Str} {a b:Int64} {ex:List Ex} {args:List Fm} (h:op=7):exsB (.mk op nm fd a b ex args)=(decide (ex.length<=4) && ex.all λe=>anyB e || termB e):=by unfold exsB;rw [Al_if_pos (show (Fm.mk op nm fd a b ex args).op=7 from h)];rfl
theorem exsQ {op:UInt8} {nm fd:Str} {a b:Int64} {ex:List Ex} {args:List Fm} (h:¬ op=7):exsB (.mk op nm fd a b ex args)=(decide (ex.length=(fsOf op).ex) && (if op=3 then cmpB (ex.headD (.mk 0 [] 0 [])) else if op=5 then termB (ex.headD (.mk 0 [] 0 [])) else if op=18 then decide ((ex.headD (.mk 0 [] 0 [])).op=1) && termB (ex.headD (.mk 0 [] 0 [])) && decide ((ex.headD (.mk 0 [] 0 [])).n.toInt<=32) else true)):=by unfold exsB;rw [Al_if_neg (show ¬ (Fm.mk op nm fd a b ex args).op=7 from h)];rfl
theorem exsL {op:UInt8} {nm fd:Str} {a b:Int64} {ex:List Ex} {args:List Fm} (h:¬ op=7) (h2:¬ ex.length=(fsOf op).ex):exsB (.mk op nm fd a b ex args)=false:=by rw [exsQ h,Al_decide_eq_false h2];rfl
theorem exsN {op:UInt8} {nm fd:Str} {a b:Int64} {ex:List Ex} {args:List Fm} (h:¬ op=7) (h2:ex.length=(fsOf op).ex) (h3:¬ op=3) (h5:¬ op=5) (h18:¬ op=18):exsB (.mk op nm fd a b ex args)=true:=by rw [exsQ h,Al_decide_eq_true h2,Al_if_neg h3,Al_if_neg h5,Al_if_neg h18];rfl
theorem exs3 {op:UInt8} {nm fd:Str} {a b:Int64} {args:List Fm} {e0:Ex} (h:op=3):exsB (.mk op nm fd a b [e0] args)=cmpB e0:=by subst h;rw [exsQ (by decide),Al_if_pos rfl];rfl
theorem exs5 {op:UInt8} {nm fd:Str} {a b:Int64} {args:List Fm} {e0:Ex} (h:op=5):exsB (.mk op nm fd a b [e0] args)=termB e0:=by subst h;rw [exsQ (by decide),Al_if_neg (by decide),Al_if_pos rfl];rfl
theorem exs18 {op:UInt8} {nm fd:Str} {a b:Int64} {args:List Fm} {op0:UInt8} {nm0:Str} {m0:Int64} {args0:List Ex} (h:op=18):exsB (.mk op nm fd a b [.mk op0 nm0 m0 args0] args)=(decide (((op0.toNat:Nat):Int)=1) && termB (.mk op0 nm0 m0 args0) && decide (m0.toInt<=32)):=by subst h;rw [exsQ (by decide),Al_if_neg (by decide),Al_if_neg (by decide),Al_if_pos rfl,k81];rfl
set_option maxHeartbeats 2000000 in
theorem formed_any (H:Hp) (Gt:Gf H) (f:Fm):FFn H 38 formB f:=by
 intro cs w h hA;obtain ⟨op,nm,fd,a,b,ex,args⟩:=f;obtain ⟨p1,c1,p2,c2,rfl,hs1,hs2,hnm,hfd⟩:=fm_open h;have hcap:=hs1.cap;have hcap2:=hs2.cap;refine Sx.enter (H:=H) func38 rfl ntmps38 rfl hA ?_;refine .sr<|.bx Z Z Z λb1=>.a Z Z<|.ns<|.fA Z Fx.field35_0<|.lD Z Fx.agg31 Hm Z<|.yw (.call (v:=.agg (fsC (fsOf op)).toArray) Fx.call74 Z (λW s=>fshape_any H Gt op W s.agr))<|.al Fx.zero157 Z λb3=>.sW .head Z Z Fx.size157 (by simp [fsC,Value.oneCell',strV]) Z<|.nt<|.sq<|.cu (X:=Bool) [(1,_),(3,_)] ⟨Z,Z,Jt⟩ (λz=>[(38,.bool z)]) (λz=>H) (λz=>[.box b3 (fsC (fsOf op)) 157,.box b1 [.int .u8 op.toNat,strV nm,strV fd,.int .i64 a.toInt,.int .i64 b.toInt,.slice p1 ex.length c1,.slice p2 args.length c2] 35]) (λz=>z=(decide ((fsOf op).lv=0) || (!(fsOf op).nm && !decide (nm=[])) || (!(fsOf op).fd && !decide (fd=[])) || !decide (args.length=(fsOf op).ar))) ?_ λz hC=>?_
 ·
  refine .rg<|.fA Z Fx.field157_0<|.lD Z Fx.agg5 Hm Z<|.yw (.cast (.eql Z Z) (congrArg Value.bool er0))<|.mv Z<|.b2 (λh10=>?_) (λh10=>?_)
  ·exact .gG<|.gG<|.gG<|.gG<|.gV<|.gV<|.gV<|.gG<|.yw (.pickT Z Z)<|.mv Z<|.gG<|.gG<|.gG<|.gG<|.gV<|.gV<|.gV<|.gG<|.yw (.pickT Z Z)<|.mv Z<|.gG<|.gG<|.gG<|.gG<|.gG<|.gG<|.gG<|.yw (.pickT Z Z)<|.nt<|.me _ ⟨Z,Jt⟩ ⟨Z,Z,Jt⟩ (λ_ s=>s) (by first | (simp only [h10,h14,h20,h24,h30,Al_Bool_true_and,Al_Bool_false_and,Bool.true_or,Al_Bool_false_or,Bool.or_false,Bool.or_true];done) | (simp only [h10,h14,h20,h24,Al_Bool_true_and,Al_Bool_false_and,Bool.true_or,Al_Bool_false_or,Bool.or_false,Bool.or_true];done) | (simp only [h10,h14,h24,h30,Al_Bool_true_and,Al_Bool_false_and,Bool.true_or,Al_Bool_false_or,Bool.or_false,Bool.or_true];done) | (simp only [h10,h14,h24,Al_Bool_true_and,Al_Bool_false_and,Bool.true_or,Al_Bool_false_or,Bool.or_false,Bool.or_true];done) | (simp only [h10,h14,h20,Al_Bool_true_and,Al_Bool_false_and,Bool.true_or,Al_Bool_false_or,Bool.or_false,Bool.or_true];done) | (simp only [h10,Al_Bool_true_and,Al_Bool_false_and,Bool.true_or,Al_Bool_false_or,Bool.or_false,Bool.or_true];done) )
  refine .gy (.fieldAddr Z Fx.field157_1)<|.gy (.load Z Fx.agg4 Hm Z)<|.gy (.not Z)<|.gy (.move Z)<|.b2 (λh14=>?_) (λh14=>?_)
  ·refine .gy (.fieldAddr Z Fx.field35_1)<|.gy (.load Z Fx.agg9 mem1 Z)<|.gy (.cast (.neS Z Z) (congrArg Value.bool decide_not))<|.gy (.pickT Z Z)<|.yw (.pickF Z Z)<|.mv Z<|.b2 (λh20=>?_) (λh20=>?_)
   ·exact .gG<|.gG<|.gG<|.gG<|.gV<|.gV<|.gV<|.gG<|.yw (.pickT Z Z)<|.mv Z<|.gG<|.gG<|.gG<|.gG<|.gG<|.gG<|.gG<|.yw (.pickT Z Z)<|.nt<|.me _ ⟨Z,Jt⟩ ⟨Z,Z,Jt⟩ (λ_ s=>s) (by first | (simp only [h10,h14,h20,h24,h30,Al_Bool_true_and,Al_Bool_false_and,Bool.true_or,Al_Bool_false_or,Bool.or_false,Bool.or_true];done) | (simp only [h10,h14,h20,h24,Al_Bool_true_and,Al_Bool_false_and,Bool.true_or,Al_Bool_false_or,Bool.or_false,Bool.or_true];done) | (simp only [h10,h14,h24,h30,Al_Bool_true_and,Al_Bool_false_and,Bool.true_or,Al_Bool_false_or,Bool.or_false,Bool.or_true];done) | (simp only [h10,h14,h24,Al_Bool_true_and,Al_Bool_false_and,Bool.true_or,Al_Bool_false_or,Bool.or_false,Bool.or_true];done) | (simp only [h10,h14,h20,Al_Bool_true_and,Al_Bool_false_and,Bool.true_or,Al_Bool_false_or,Bool.or_false,Bool.or_true];done) | (simp only [h10,Al_Bool_true_and,Al_Bool_false_and,Bool.true_or,Al_Bool_false_or,Bool.or_false,Bool.or_true];done) )
   refine .gy (.fieldAddr Z Fx.field157_2)<|.gy (.load Z Fx.agg4 Hm Z)<|.gy (.not Z)<|.gy (.move Z)<|.b2 (λh24=>?_) (λh24=>?_)
   ·refine .gy (.fieldAddr Z Fx.field35_2)<|.gy (.load Z Fx.agg9 mem1 Z)<|.gy (.cast (.neS Z Z) (congrArg Value.bool decide_not))<|.gy (.pickT Z Z)<|.yw (.pickF Z Z)<|.mv Z<|.b2 (λh30=>?_) (λh30=>?_)
    ·exact .gG<|.gG<|.gG<|.gG<|.gG<|.gG<|.gG<|.yw (.pickT Z Z)<|.nt<|.me _ ⟨Z,Jt⟩ ⟨Z,Z,Jt⟩ (λ_ s=>s) (by first | (simp only [h10,h14,h20,h24,h30,Al_Bool_true_and,Al_Bool_false_and,Bool.true_or,Al_Bool_false_or,Bool.or_false,Bool.or_true];done) | (simp only [h10,h14,h20,h24,Al_Bool_true_and,Al_Bool_false_and,Bool.true_or,Al_Bool_false_or,Bool.or_false,Bool.or_true];done) | (simp only [h10,h14,h24,h30,Al_Bool_true_and,Al_Bool_false_and,Bool.true_or,Al_Bool_false_or,Bool.or_false,Bool.or_true];done) | (simp only [h10,h14,h24,Al_Bool_true_and,Al_Bool_false_and,Bool.true_or,Al_Bool_false_or,Bool.or_false,Bool.or_true];done) | (simp only [h10,h14,h20,Al_Bool_true_and,Al_Bool_false_and,Bool.true_or,Al_Bool_false_or,Bool.or_false,Bool.or_true];done) | (simp only [h10,Al_Bool_true_and,Al_Bool_false_and,Bool.true_or,Al_Bool_false_or,Bool.or_false,Bool.or_true];done) )
    exact .gy (.fieldAddr Z Fx.field35_6)<|.gy (.load Z Fx.agg33 mem1 Z)<|.gy (.lenSl Fx.sl33 Z)<|.gy (.fieldAddr Z Fx.field157_6)<|.gy (.load Z Fx.agg5 Hm Z)<|.gy (.conv Z Fx.int5 Fx.int3 (c:=(((fsOf op).ar:Nat):Int)) (w64 (by omega) (by have:=fs_small op;omega)))<|.gy (.cast (.neq Z Z) (congrArg Value.bool nn0))<|.yw (.pickF Z Z)<|.nt<|.me _ ⟨Z,Jt⟩ ⟨Z,Z,Jt⟩ (λ_ s=>s) (by first | (simp only [h10,h14,h20,h24,h30,Al_Bool_true_and,Al_Bool_false_and,Bool.true_or,Al_Bool_false_or,Bool.or_false,Bool.or_true];done) | (simp only [h10,h14,h20,h24,Al_Bool_true_and,Al_Bool_false_and,Bool.true_or,Al_Bool_false_or,Bool.or_false,Bool.or_true];done) | (simp only [h10,h14,h24,h30,Al_Bool_true_and,Al_Bool_false_and,Bool.true_or,Al_Bool_false_or,Bool.or_false,Bool.or_true];done) | (simp only [h10,h14,h24,Al_Bool_true_and,Al_Bool_false_and,Bool.true_or,Al_Bool_false_or,Bool.or_false,Bool.or_true];done) | (simp only [h10,h14,h20,Al_Bool_true_and,Al_Bool_false_and,Bool.true_or,Al_Bool_false_or,Bool.or_false,Bool.or_true];done) | (simp only [h10,Al_Bool_true_and,Al_Bool_false_and,Bool.true_or,Al_Bool_false_or,Bool.or_false,Bool.or_true];done) )
   exact .gG<|.gG<|.gG<|.gy (.pickF Z Z)<|.yw (.pickF Z Z)<|.mv Z<|.gy (.fieldAddr Z Fx.field35_6)<|.gy (.load Z Fx.agg33 mem1 Z)<|.gy (.lenSl Fx.sl33 Z)<|.gy (.fieldAddr Z Fx.field157_6)<|.gy (.load Z Fx.agg5 Hm Z)<|.gy (.conv Z Fx.int5 Fx.int3 (c:=(((fsOf op).ar:Nat):Int)) (w64 (by omega) (by have:=fs_small op;omega)))<|.gy (.cast (.neq Z Z) (congrArg Value.bool nn0))<|.yw (.pickF Z Z)<|.nt<|.me _ ⟨Z,Jt⟩ ⟨Z,Z,Jt⟩ (λ_ s=>s) (by first | (simp only [h10,h14,h20,h24,h30,Al_Bool_true_and,Al_Bool_false_and,Bool.true_or,Al_Bool_false_or,Bool.or_false,Bool.or_true];done) | (simp only [h10,h14,h20,h24,Al_Bool_true_and,Al_Bool_false_and,Bool.true_or,Al_Bool_false_or,Bool.or_false,Bool.or_true];done) | (simp only [h10,h14,h24,h30,Al_Bool_true_and,Al_Bool_false_and,Bool.true_or,Al_Bool_false_or,Bool.or_false,Bool.or_true];done) | (simp only [h10,h14,h24,Al_Bool_true_and,Al_Bool_false_and,Bool.true_or,Al_Bool_false_or,Bool.or_false,Bool.or_true];done) | (simp only [h10,h14,h20,Al_Bool_true_and,Al_Bool_false_and,Bool.true_or,Al_Bool_false_or,Bool.or_false,Bool.or_true];done) | (simp only [h10,Al_Bool_true_and,Al_Bool_false_and,Bool.true_or,Al_Bool_false_or,Bool.or_false,Bool.or_true];done) )
  refine .gG<|.gG<|.gG<|.gy (.pickF Z Z)<|.yw (.pickF Z Z)<|.mv Z<|.gy (.fieldAddr Z Fx.field157_2)<|.gy (.load Z Fx.agg4 Hm Z)<|.gy (.not Z)<|.gy (.move Z)<|.b2 (λh24=>?_) (λh24=>?_)
  ·refine .gy (.fieldAddr Z Fx.field35_2)<|.gy (.load Z Fx.agg9 mem1 Z)<|.gy (.cast (.neS Z Z) (congrArg Value.bool decide_not))<|.gy (.pickT Z Z)<|.yw (.pickF Z Z)<|.mv Z<|.b2 (λh30=>?_) (λh30=>?_)
   ·exact .gG<|.gG<|.gG<|.gG<|.gG<|.gG<|.gG<|.yw (.pickT Z Z)<|.nt<|.me _ ⟨Z,Jt⟩ ⟨Z,Z,Jt⟩ (λ_ s=>s) (by first | (simp only [h10,h14,h20,h24,h30,Al_Bool_true_and,Al_Bool_false_and,Bool.true_or,Al_Bool_false_or,Bool.or_false,Bool.or_true];done) | (simp only [h10,h14,h20,h24,Al_Bool_true_and,Al_Bool_false_and,Bool.true_or,Al_Bool_false_or,Bool.or_false,Bool.or_true];done) | (simp only [h10,h14,h24,h30,Al_Bool_true_and,Al_Bool_false_and,Bool.true_or,Al_Bool_false_or,Bool.or_false,Bool.or_true];done) | (simp only [h10,h14,h24,Al_Bool_true_and,Al_Bool_false_and,Bool.true_or,Al_Bool_false_or,Bool.or_false,Bool.or_true];done) | (simp only [h10,h14,h20,Al_Bool_true_and,Al_Bool_false_and,Bool.true_or,Al_Bool_false_or,Bool.or_false,Bool.or_true];done) | (simp only [h10,Al_Bool_true_and,Al_Bool_false_and,Bool.true_or,Al_Bool_false_or,Bool.or_false,Bool.or_true];done) )
   exact .gy (.fieldAddr Z Fx.field35_6)<|.gy (.load Z Fx.agg33 mem1 Z)<|.gy (.lenSl Fx.sl33 Z)<|.gy (.fieldAddr Z Fx.field157_6)<|.gy (.load Z Fx.agg5 Hm Z)<|.gy (.conv Z Fx.int5 Fx.int3 (c:=(((fsOf op).ar:Nat):Int)) (w64 (by omega) (by have:=fs_small op;omega)))<|.gy (.cast (.neq Z Z) (congrArg Value.bool nn0))<|.yw (.pickF Z Z)<|.nt<|.me _ ⟨Z,Jt⟩ ⟨Z,Z,Jt⟩ (λ_ s=>s) (by first | (simp only [h10,h14,h20,h24,h30,Al_Bool_true_and,Al_Bool_false_and,Bool.true_or,Al_Bool_false_or,Bool.or_false,Bool.or_true];done) | (simp only [h10,h14,h20,h24,Al_Bool_true_and,Al_Bool_false_and,Bool.true_or,Al_Bool_false_or,Bool.or_false,Bool.or_true];done) | (simp only [h10,h14,h24,h30,Al_Bool_true_and,Al_Bool_false_and,Bool.true_or,Al_Bool_false_or,Bool.or_false,Bool.or_true];done) | (simp only [h10,h14,h24,Al_Bool_true_and,Al_Bool_false_and,Bool.true_or,Al_Bool_false_or,Bool.or_false,Bool.or_true];done) | (simp only [h10,h14,h20,Al_Bool_true_and,Al_Bool_false_and,Bool.true_or,Al_Bool_false_or,Bool.or_false,Bool.or_true];done) | (simp only [h10,Al_Bool_true_and,Al_Bool_false_and,Bool.true_or,Al_Bool_false_or,Bool.or_false,Bool.or_true];done) )
  exact .gG<|.gG<|.gG<|.gy (.pickF Z Z)<|.yw (.pickF Z Z)<|.mv Z<|.gy (.fieldAddr Z Fx.field35_6)<|.gy (.load Z Fx.agg33 mem1 Z)<|.gy (.lenSl Fx.sl33 Z)<|.gy (.fieldAddr Z Fx.field157_6)<|.gy (.load Z Fx.agg5 Hm Z)<|.gy (.conv Z Fx.int5 Fx.int3 (c:=(((fsOf op).ar:Nat):Int)) (w64 (by omega) (by have:=fs_small op;omega)))<|.gy (.cast (.neq Z Z) (congrArg Value.bool nn0))<|.yw (.pickF Z Z)<|.nt<|.me _ ⟨Z,Jt⟩ ⟨Z,Z,Jt⟩ (λ_ s=>s) (by first | (simp only [h10,h14,h20,h24,h30,Al_Bool_true_and,Al_Bool_false_and,Bool.true_or,Al_Bool_false_or,Bool.or_false,Bool.or_true];done) | (simp only [h10,h14,h20,h24,Al_Bool_true_and,Al_Bool_false_and,Bool.true_or,Al_Bool_false_or,Bool.or_false,Bool.or_true];done) | (simp only [h10,h14,h24,h30,Al_Bool_true_and,Al_Bool_false_and,Bool.true_or,Al_Bool_false_or,Bool.or_false,Bool.or_true];done) | (simp only [h10,h14,h24,Al_Bool_true_and,Al_Bool_false_and,Bool.true_or,Al_Bool_false_or,Bool.or_false,Bool.or_true];done) | (simp only [h10,h14,h20,Al_Bool_true_and,Al_Bool_false_and,Bool.true_or,Al_Bool_false_or,Bool.or_false,Bool.or_true];done) | (simp only [h10,Al_Bool_true_and,Al_Bool_false_and,Bool.true_or,Al_Bool_false_or,Bool.or_false,Bool.or_true];done) )
 have ez:=hC;refine .cd Z (λh38=>?_) (λh38=>?_)
 ·refine .sr<|.az Z<|.tR<|?_
  refine y9 Z Z λW s=>⟨?_,s.ext⟩
  first
   | (rw [form_bad (ez.symm.trans h38)])
   | (rw [form_bnd (by rw [bnd_w h39,Al_decide_eq_false (Al_of_decide_eq_true (by rw [h66] at ew;exact ew.symm))])])
   | (rw [form_bnd (by rw [bnd_a h39 h67,Al_decide_eq_false (Al_of_decide_eq_true (by rw [h92] at ea;exact ea.symm))])])
   | (rw [form_bnd (by rw [bnd_n h39 h67,Al_decide_eq_false (Al_of_decide_eq_true (by rw [h93] at en;exact en.symm))])])
   | (rw [form_ok (ez.symm.trans h38) hb,exs7 q7,h109,Al_Bool_true_and,all_frm])
   | (rw [form_ok (ez.symm.trans h38) hb,exs7 q7,h109];rfl)
   | (rw [form_ok (ez.symm.trans h38) hb,exsL q7 hlx])
   | (rw [form_ok (ez.symm.trans h38) hb,exs3 q3])
   | (rw [form_ok (ez.symm.trans h38) hb,exs5 q5])
   | (rw [form_ok (ez.symm.trans h38) hb,exs18 q18,h146,h153,Al_Bool_true_and,Al_Bool_true_and])
   | (rw [form_ok (ez.symm.trans h38) hb,exs18 q18,h146,h153];rfl)
   | (rw [form_ok (ez.symm.trans h38) hb,exs18 q18,h146];rfl)
   | (rw [form_ok (ez.symm.trans h38) hb,exsN q7 hlx q3 q5 q18])
 refine .sk<|.tN<|.cu (X:=Unit) [(1,_),(3,_)] ⟨Z,Z,Jt⟩ (λz=>[]) (λz=>H) (λz=>[.box b3 (fsC (fsOf op)) 157,.box b1 [.int .u8 op.toNat,strV nm,strV fd,.int .i64 a.toInt,.int .i64 b.toInt,.slice p1 ex.length c1,.slice p2 args.length c2] 35]) (λz=>bndB (.mk op nm fd a b ex args)=true) ?_ λz hC=>?_
 ·
  refine .bk<|.sr<|.fA Z Fx.field157_3<|.lD Z Fx.agg4 Hm Z<|.aq Z<|.cd Z (λh39=>?_) (λh39=>?_)
  ·refine .cu (X:=Bool) [(1,_),(3,_)] ⟨Z,Z,Jt⟩ (λz=>[(66,.bool z)]) (λz=>H) (λz=>[.box b3 (fsC (fsOf op)) 157,.box b1 [.int .u8 op.toNat,strV nm,strV fd,.int .i64 a.toInt,.int .i64 b.toInt,.slice p1 ex.length c1,.slice p2 args.length c2] 35]) (λz=>z=decide (¬ ((a.toInt=0/\b.toInt=-1)\/(0<=a.toInt/\a.toInt<=b.toInt/\b.toInt<=200)))) ?_ λz hC=>?_
   ·
    refine .rg<|.fA Z Fx.field35_3<|.lD Z Fx.agg3 mem1 Z<|.yw (.neq Z Z)<|.mv Z<|.e2 (λh45=>?_) (λh45=>?_)
    ·refine .gG<|.gG<|.gG<|.yw (.pickT Z Z)<|.mv Z<|.gy (.fieldAddr Z Fx.field35_3)<|.gy (.load Z Fx.agg3 mem1 Z)<|.gy (.lss Z Z)<|.gy (.move Z)<|.b2 (λh54=>?_) (λh54=>?_)
     ·try simp only [dt] at h54
      exact .gG<|.gG<|.gG<|.gG<|.gG<|.gy (.pickT Z Z)<|.gy (.move Z)<|.gG<|.gG<|.gG<|.gy (.pickT Z Z)<|.yw (.pickT Z Z)<|.nt<|.me _ ⟨Z,Jt⟩ ⟨Z,Z,Jt⟩ (λ_ s=>s) (by rw [Al_Bool_eq_iff_iff,Al_decide_eq_true_eq];first | (rw [Al_decide_eq_true_eq];omega) | exact ⟨λ_=>by omega,λ_=>rfl⟩ | exact ⟨λh=>(by cases h),λh=>by omega⟩)
     try simp only [df] at h54
     refine .gy (.fieldAddr Z Fx.field35_3)<|.gy (.load Z Fx.agg3 mem1 Z)<|.gy (.fieldAddr Z Fx.field35_4)<|.gy (.load Z Fx.agg3 mem1 Z)<|.gy (.gtr Z Z)<|.gy (.pickF Z Z)<|.gy (.move Z)<|.b2 (λh61=>?_) (λh61=>?_)
     ·try simp only [dt] at h61
      exact .gG<|.gG<|.gG<|.gy (.pickT Z Z)<|.yw (.pickT Z Z)<|.nt<|.me _ ⟨Z,Jt⟩ ⟨Z,Z,Jt⟩ (λ_ s=>s) (by rw [Al_Bool_eq_iff_iff,Al_decide_eq_true_eq];first | (rw [Al_decide_eq_true_eq];omega) | exact ⟨λ_=>by omega,λ_=>rfl⟩ | exact ⟨λh=>(by cases h),λh=>by omega⟩)
     try simp only [df] at h61
     exact .gy (.fieldAddr Z Fx.field35_4)<|.gy (.load Z Fx.agg3 mem1 Z)<|.gy (.gtr Z Z)<|.gy (.pickF Z Z)<|.yw (.pickT Z Z)<|.nt<|.me _ ⟨Z,Jt⟩ ⟨Z,Z,Jt⟩ (λ_ s=>s) (by rw [Al_Bool_eq_iff_iff,Al_decide_eq_true_eq];first | (rw [Al_decide_eq_true_eq];omega) | exact ⟨λ_=>by omega,λ_=>rfl⟩ | exact ⟨λh=>(by cases h),λh=>by omega⟩)
    refine .gy (.fieldAddr Z Fx.field35_4)<|.gy (.load Z Fx.agg3 mem1 Z)<|.gy (.neq Z Z)<|.yw (.pickF Z Z)<|.mv Z<|.e2 (λh50=>?_) (λh50=>?_)
    ·refine .gy (.fieldAddr Z Fx.field35_3)<|.gy (.load Z Fx.agg3 mem1 Z)<|.gy (.lss Z Z)<|.gy (.move Z)<|.b2 (λh54=>?_) (λh54=>?_)
     ·try simp only [dt] at h54
      exact .gG<|.gG<|.gG<|.gG<|.gG<|.gy (.pickT Z Z)<|.gy (.move Z)<|.gG<|.gG<|.gG<|.gy (.pickT Z Z)<|.yw (.pickT Z Z)<|.nt<|.me _ ⟨Z,Jt⟩ ⟨Z,Z,Jt⟩ (λ_ s=>s) (by rw [Al_Bool_eq_iff_iff,Al_decide_eq_true_eq];first | (rw [Al_decide_eq_true_eq];omega) | exact ⟨λ_=>by omega,λ_=>rfl⟩ | exact ⟨λh=>(by cases h),λh=>by omega⟩)
     try simp only [df] at h54
     refine .gy (.fieldAddr Z Fx.field35_3)<|.gy (.load Z Fx.agg3 mem1 Z)<|.gy (.fieldAddr Z Fx.field35_4)<|.gy (.load Z Fx.agg3 mem1 Z)<|.gy (.gtr Z Z)<|.gy (.pickF Z Z)<|.gy (.move Z)<|.b2 (λh61=>?_) (λh61=>?_)
     ·try simp only [dt] at h61
      exact .gG<|.gG<|.gG<|.gy (.pickT Z Z)<|.yw (.pickT Z Z)<|.nt<|.me _ ⟨Z,Jt⟩ ⟨Z,Z,Jt⟩ (λ_ s=>s) (by rw [Al_Bool_eq_iff_iff,Al_decide_eq_true_eq];first | (rw [Al_decide_eq_true_eq];omega) | exact ⟨λ_=>by omega,λ_=>rfl⟩ | exact ⟨λh=>(by cases h),λh=>by omega⟩)
     try simp only [df] at h61
     exact .gy (.fieldAddr Z Fx.field35_4)<|.gy (.load Z Fx.agg3 mem1 Z)<|.gy (.gtr Z Z)<|.gy (.pickF Z Z)<|.yw (.pickT Z Z)<|.nt<|.me _ ⟨Z,Jt⟩ ⟨Z,Z,Jt⟩ (λ_ s=>s) (by rw [Al_Bool_eq_iff_iff,Al_decide_eq_true_eq];first | (rw [Al_decide_eq_true_eq];omega) | exact ⟨λ_=>by omega,λ_=>rfl⟩ | exact ⟨λh=>(by cases h),λh=>by omega⟩)
    exact .gG<|.gG<|.gG<|.gG<|.gV<|.gV<|.gV<|.gV<|.gV<|.gG<|.gG<|.gV<|.gV<|.gV<|.gG<|.yw (.pickF Z Z)<|.nt<|.me _ ⟨Z,Jt⟩ ⟨Z,Z,Jt⟩ (λ_ s=>s) (by rw [Al_Bool_eq_iff_iff,Al_decide_eq_true_eq];first | (rw [Al_decide_eq_true_eq];omega) | exact ⟨λ_=>by omega,λ_=>rfl⟩ | exact ⟨λh=>(by cases h),λh=>by omega⟩)
   have ew:=hC;refine .cd Z (λh66=>?_) (λh66=>?_)
   ·refine .sr<|.az Z<|.bR<|.tR<|?_
    refine y9 Z Z λW s=>⟨?_,s.ext⟩
    first
     | (rw [form_bad (ez.symm.trans h38)])
     | (rw [form_bnd (by rw [bnd_w h39,Al_decide_eq_false (Al_of_decide_eq_true (by rw [h66] at ew;exact ew.symm))])])
     | (rw [form_bnd (by rw [bnd_a h39 h67,Al_decide_eq_false (Al_of_decide_eq_true (by rw [h92] at ea;exact ea.symm))])])
     | (rw [form_bnd (by rw [bnd_n h39 h67,Al_decide_eq_false (Al_of_decide_eq_true (by rw [h93] at en;exact en.symm))])])
     | (rw [form_ok (ez.symm.trans h38) hb,exs7 q7,h109,Al_Bool_true_and,all_frm])
     | (rw [form_ok (ez.symm.trans h38) hb,exs7 q7,h109];rfl)
     | (rw [form_ok (ez.symm.trans h38) hb,exsL q7 hlx])
     | (rw [form_ok (ez.symm.trans h38) hb,exs3 q3])
     | (rw [form_ok (ez.symm.trans h38) hb,exs5 q5])
     | (rw [form_ok (ez.symm.trans h38) hb,exs18 q18,h146,h153,Al_Bool_true_and,Al_Bool_true_and])
     | (rw [form_ok (ez.symm.trans h38) hb,exs18 q18,h146,h153];rfl)
     | (rw [form_ok (ez.symm.trans h38) hb,exs18 q18,h146];rfl)
     | (rw [form_ok (ez.symm.trans h38) hb,exsN q7 hlx q3 q5 q18])
   exact .sk<|.bN<|.tN<|.me () trivial ⟨Z,Z,Jt⟩ (λ_ s=>s) (by first | (rw [bnd_w h39,Al_decide_eq_true (Classical.byContradiction λe=>by rw [h66] at ew;rw [Al_decide_eq_true e] at ew;cases ew)]) | (rw [bnd_a h39 h67,Al_decide_eq_true (Classical.byContradiction λe=>by rw [h92] at ea;rw [Al_decide_eq_true e] at ea;cases ea)]) | (rw [bnd_n h39 h67,Al_decide_eq_true (Classical.byContradiction λe=>by rw [h93] at en;rw [Al_decide_eq_true e] at en;cases en)]))
  refine .sr<|.fA Z Fx.field157_4<|.lD Z Fx.agg4 Hm Z<|.aq Z<|.cd Z (λh67=>?_) (λh67=>?_)
  ·refine .cu (X:=Bool) [(1,_),(3,_)] ⟨Z,Z,Jt⟩ (λz=>[(92,.bool z)]) (λz=>H) (λz=>[.box b3 (fsC (fsOf op)) 157,.box b1 [.int .u8 op.toNat,strV nm,strV fd,.int .i64 a.toInt,.int .i64 b.toInt,.slice p1 ex.length c1,.slice p2 args.length c2] 35]) (λz=>z=decide (¬ (-1000000<=a.toInt/\a.toInt<=b.toInt/\b.toInt<=1000000/\b.toInt - a.toInt<32))) ?_ λz hC=>?_
   ·
    refine .rg<|.fA Z Fx.field35_3<|.lD Z Fx.agg3 mem1 Z<|.yw (.lss Z Z)<|.mv Z<|.e2 (λh73=>?_) (λh73=>?_)
    ·exact .gG<|.gG<|.gG<|.gG<|.gG<|.yw (.pickT Z Z)<|.mv Z<|.gG<|.gG<|.gG<|.yw (.pickT Z Z)<|.mv Z<|.gG<|.gG<|.gG<|.gG<|.gG<|.gG<|.yw (.pickT Z Z)<|.nt<|.me _ ⟨Z,Jt⟩ ⟨Z,Z,Jt⟩ (λ_ s=>s) (by rw [Al_Bool_eq_iff_iff,Al_decide_eq_true_eq];first | (rw [Al_decide_eq_true_eq];omega) | exact ⟨λ_=>by omega,λ_=>rfl⟩ | exact ⟨λh=>(by cases h),λh=>by omega⟩)
    refine .gy (.fieldAddr Z Fx.field35_3)<|.gy (.load Z Fx.agg3 mem1 Z)<|.gy (.fieldAddr Z Fx.field35_4)<|.gy (.load Z Fx.agg3 mem1 Z)<|.gy (.gtr Z Z)<|.yw (.pickF Z Z)<|.mv Z<|.e2 (λh80=>?_) (λh80=>?_)
    ·exact .gG<|.gG<|.gG<|.yw (.pickT Z Z)<|.mv Z<|.gG<|.gG<|.gG<|.gG<|.gG<|.gG<|.yw (.pickT Z Z)<|.nt<|.me _ ⟨Z,Jt⟩ ⟨Z,Z,Jt⟩ (λ_ s=>s) (by rw [Al_Bool_eq_iff_iff,Al_decide_eq_true_eq];first | (rw [Al_decide_eq_true_eq];omega) | exact ⟨λ_=>by omega,λ_=>rfl⟩ | exact ⟨λh=>(by cases h),λh=>by omega⟩)
    refine .gy (.fieldAddr Z Fx.field35_4)<|.gy (.load Z Fx.agg3 mem1 Z)<|.gy (.gtr Z Z)<|.yw (.pickF Z Z)<|.mv Z<|.e2 (λh85=>?_) (λh85=>?_)
    ·exact .gG<|.gG<|.gG<|.gG<|.gG<|.gG<|.yw (.pickT Z Z)<|.nt<|.me _ ⟨Z,Jt⟩ ⟨Z,Z,Jt⟩ (λ_ s=>s) (by rw [Al_Bool_eq_iff_iff,Al_decide_eq_true_eq];first | (rw [Al_decide_eq_true_eq];omega) | exact ⟨λ_=>by omega,λ_=>rfl⟩ | exact ⟨λh=>(by cases h),λh=>by omega⟩)
    exact .gy (.fieldAddr Z Fx.field35_4)<|.gy (.load Z Fx.agg3 mem1 Z)<|.gy (.fieldAddr Z Fx.field35_3)<|.gy (.load Z Fx.agg3 mem1 Z)<|.gy (.sub Z Z (w6 (by omega)))<|.gy (.geq Z Z)<|.yw (.pickF Z Z)<|.nt<|.me _ ⟨Z,Jt⟩ ⟨Z,Z,Jt⟩ (λ_ s=>s) (by rw [Al_Bool_eq_iff_iff,Al_decide_eq_true_eq];first | (rw [Al_decide_eq_true_eq];omega) | exact ⟨λ_=>by omega,λ_=>rfl⟩ | exact ⟨λh=>(by cases h),λh=>by omega⟩)
   have ea:=hC;refine .cd Z (λh92=>?_) (λh92=>?_)
   ·refine .sr<|.az Z<|.bR<|.tR<|?_
    refine y9 Z Z λW s=>⟨?_,s.ext⟩
    first
     | (rw [form_bad (ez.symm.trans h38)])
     | (rw [form_bnd (by rw [bnd_w h39,Al_decide_eq_false (Al_of_decide_eq_true (by rw [h66] at ew;exact ew.symm))])])
     | (rw [form_bnd (by rw [bnd_a h39 h67,Al_decide_eq_false (Al_of_decide_eq_true (by rw [h92] at ea;exact ea.symm))])])
     | (rw [form_bnd (by rw [bnd_n h39 h67,Al_decide_eq_false (Al_of_decide_eq_true (by rw [h93] at en;exact en.symm))])])
     | (rw [form_ok (ez.symm.trans h38) hb,exs7 q7,h109,Al_Bool_true_and,all_frm])
     | (rw [form_ok (ez.symm.trans h38) hb,exs7 q7,h109];rfl)
     | (rw [form_ok (ez.symm.trans h38) hb,exsL q7 hlx])
     | (rw [form_ok (ez.symm.trans h38) hb,exs3 q3])
     | (rw [form_ok (ez.symm.trans h38) hb,exs5 q5])
     | (rw [form_ok (ez.symm.trans h38) hb,exs18 q18,h146,h153,Al_Bool_true_and,Al_Bool_true_and])
     | (rw [form_ok (ez.symm.trans h38) hb,exs18 q18,h146,h153];rfl)
     | (rw [form_ok (ez.symm.trans h38) hb,exs18 q18,h146];rfl)
     | (rw [form_ok (ez.symm.trans h38) hb,exsN q7 hlx q3 q5 q18])
   exact .sk<|.bN<|.tN<|.me () trivial ⟨Z,Z,Jt⟩ (λ_ s=>s) (by first | (rw [bnd_w h39,Al_decide_eq_true (Classical.byContradiction λe=>by rw [h66] at ew;rw [Al_decide_eq_true e] at ew;cases ew)]) | (rw [bnd_a h39 h67,Al_decide_eq_true (Classical.byContradiction λe=>by rw [h92] at ea;rw [Al_decide_eq_true e] at ea;cases ea)]) | (rw [bnd_n h39 h67,Al_decide_eq_true (Classical.byContradiction λe=>by rw [h93] at en;rw [Al_decide_eq_true e] at en;cases en)]))
  refine .cu (X:=Bool) [(1,_),(3,_)] ⟨Z,Z,Jt⟩ (λz=>[(93,.bool z)]) (λz=>H) (λz=>[.box b3 (fsC (fsOf op)) 157,.box b1 [.int .u8 op.toNat,strV nm,strV fd,.int .i64 a.toInt,.int .i64 b.toInt,.slice p1 ex.length c1,.slice p2 args.length c2] 35]) (λz=>z=decide (¬ (a.toInt=0/\b.toInt=0))) ?_ λz hC=>?_
  ·
   refine .rg<|.fA Z Fx.field35_3<|.lD Z Fx.agg3 mem1 Z<|.yw (.neq Z Z)<|.mv Z<|.e2 (λh97=>?_) (λh97=>?_)
   ·exact .gG<|.gG<|.gG<|.yw (.pickT Z Z)<|.aq Z<|.me _ ⟨Z,Jt⟩ ⟨Z,Z,Jt⟩ (λ_ s=>s) (by rw [Al_Bool_eq_iff_iff,Al_decide_eq_true_eq];first | (rw [Al_decide_eq_true_eq];omega) | exact ⟨λ_=>by omega,λ_=>rfl⟩ | exact ⟨λh=>(by cases h),λh=>by omega⟩)
   exact .gy (.fieldAddr Z Fx.field35_4)<|.gy (.load Z Fx.agg3 mem1 Z)<|.gy (.neq Z Z)<|.yw (.pickF Z Z)<|.aq Z<|.me _ ⟨Z,Jt⟩ ⟨Z,Z,Jt⟩ (λ_ s=>s) (by rw [Al_Bool_eq_iff_iff,Al_decide_eq_true_eq];first | (rw [Al_decide_eq_true_eq];omega) | exact ⟨λ_=>by omega,λ_=>rfl⟩ | exact ⟨λh=>(by cases h),λh=>by omega⟩)
  have en:=hC;refine .cd Z (λh93=>?_) (λh93=>?_)
  ·refine .sr<|.az Z<|.bR<|.tR<|?_
   refine y9 Z Z λW s=>⟨?_,s.ext⟩
   first
    | (rw [form_bad (ez.symm.trans h38)])
    | (rw [form_bnd (by rw [bnd_w h39,Al_decide_eq_false (Al_of_decide_eq_true (by rw [h66] at ew;exact ew.symm))])])
    | (rw [form_bnd (by rw [bnd_a h39 h67,Al_decide_eq_false (Al_of_decide_eq_true (by rw [h92] at ea;exact ea.symm))])])
    | (rw [form_bnd (by rw [bnd_n h39 h67,Al_decide_eq_false (Al_of_decide_eq_true (by rw [h93] at en;exact en.symm))])])
    | (rw [form_ok (ez.symm.trans h38) hb,exs7 q7,h109,Al_Bool_true_and,all_frm])
    | (rw [form_ok (ez.symm.trans h38) hb,exs7 q7,h109];rfl)
    | (rw [form_ok (ez.symm.trans h38) hb,exsL q7 hlx])
    | (rw [form_ok (ez.symm.trans h38) hb,exs3 q3])
    | (rw [form_ok (ez.symm.trans h38) hb,exs5 q5])
    | (rw [form_ok (ez.symm.trans h38) hb,exs18 q18,h146,h153,Al_Bool_true_and,Al_Bool_true_and])
    | (rw [form_ok (ez.symm.trans h38) hb,exs18 q18,h146,h153];rfl)
    | (rw [form_ok (ez.symm.trans h38) hb,exs18 q18,h146];rfl)
    | (rw [form_ok (ez.symm.trans h38) hb,exsN q7 hlx q3 q5 q18])
  exact .sk<|.bN<|.tN<|.me () trivial ⟨Z,Z,Jt⟩ (λ_ s=>s) (by first | (rw [bnd_w h39,Al_decide_eq_true (Classical.byContradiction λe=>by rw [h66] at ew;rw [Al_decide_eq_true e] at ew;cases ew)]) | (rw [bnd_a h39 h67,Al_decide_eq_true (Classical.byContradiction λe=>by rw [h92] at ea;rw [Al_decide_eq_true e] at ea;cases ea)]) | (rw [bnd_n h39 h67,Al_decide_eq_true (Classical.byContradiction λe=>by rw [h93] at en;rw [Al_decide_eq_true e] at en;cases en)]))
 have hb:=hC;refine .sq<|.sr<|.fA Z Fx.field35_0<|.lD Z Fx.agg31 mem1 Z<|.yw (.eql Z Z)<|.nt<|.cd Z (λh104=>?_) (λh104=>?_)
 ·have q7:op=7:=Al_UInt8_toNat_inj.1 (by have:=Al_of_decide_eq_true h104;show op.toNat=7;omega);refine .sr<|.fA Z Fx.field35_5<|.lD Z Fx.agg32 mem1 Z<|.yw (.lenSl Fx.sl32 Z)<|.yw (.cast (.leq Z Z) (congrArg Value.bool le4))<|.mv Z<|.b2 (λh109=>?_) (λh109=>?_)
  ·refine .gy (.fieldAddr Z Fx.field35_5)<|.gy (.load Z Fx.agg32 mem1 Z)<|.gy (.call Fx.call71 Z (λW s=>contains_any H 77 [] frm1B ex hs1 Fx.call77 (λa _=>formed1_any H a) W s.agr))<|.gy (.not Z)<|.yw (.pickT Z Z)<|.az Z<|.tR<|?_
   refine y9 Z Z λW s=>⟨?_,s.ext⟩
   first
    | (rw [form_bad (ez.symm.trans h38)])
    | (rw [form_bnd (by rw [bnd_w h39,Al_decide_eq_false (Al_of_decide_eq_true (by rw [h66] at ew;exact ew.symm))])])
    | (rw [form_bnd (by rw [bnd_a h39 h67,Al_decide_eq_false (Al_of_decide_eq_true (by rw [h92] at ea;exact ea.symm))])])
    | (rw [form_bnd (by rw [bnd_n h39 h67,Al_decide_eq_false (Al_of_decide_eq_true (by rw [h93] at en;exact en.symm))])])
    | (rw [form_ok (ez.symm.trans h38) hb,exs7 q7,h109,Al_Bool_true_and,all_frm])
    | (rw [form_ok (ez.symm.trans h38) hb,exs7 q7,h109];rfl)
    | (rw [form_ok (ez.symm.trans h38) hb,exsL q7 hlx])
    | (rw [form_ok (ez.symm.trans h38) hb,exs3 q3])
    | (rw [form_ok (ez.symm.trans h38) hb,exs5 q5])
    | (rw [form_ok (ez.symm.trans h38) hb,exs18 q18,h146,h153,Al_Bool_true_and,Al_Bool_true_and])
    | (rw [form_ok (ez.symm.trans h38) hb,exs18 q18,h146,h153];rfl)
    | (rw [form_ok (ez.symm.trans h38) hb,exs18 q18,h146];rfl)
    | (rw [form_ok (ez.symm.trans h38) hb,exsN q7 hlx q3 q5 q18])
  refine .gG<|.gG<|.gG<|.gG<|.yw (.pickF Z Z)<|.az Z<|.tR<|?_
  refine y9 Z Z λW s=>⟨?_,s.ext⟩
  first
   | (rw [form_bad (ez.symm.trans h38)])
   | (rw [form_bnd (by rw [bnd_w h39,Al_decide_eq_false (Al_of_decide_eq_true (by rw [h66] at ew;exact ew.symm))])])
   | (rw [form_bnd (by rw [bnd_a h39 h67,Al_decide_eq_false (Al_of_decide_eq_true (by rw [h92] at ea;exact ea.symm))])])
   | (rw [form_bnd (by rw [bnd_n h39 h67,Al_decide_eq_false (Al_of_decide_eq_true (by rw [h93] at en;exact en.symm))])])
   | (rw [form_ok (ez.symm.trans h38) hb,exs7 q7,h109,Al_Bool_true_and,all_frm])
   | (rw [form_ok (ez.symm.trans h38) hb,exs7 q7,h109];rfl)
   | (rw [form_ok (ez.symm.trans h38) hb,exsL q7 hlx])
   | (rw [form_ok (ez.symm.trans h38) hb,exs3 q3])
   | (rw [form_ok (ez.symm.trans h38) hb,exs5 q5])
   | (rw [form_ok (ez.symm.trans h38) hb,exs18 q18,h146,h153,Al_Bool_true_and,Al_Bool_true_and])
   | (rw [form_ok (ez.symm.trans h38) hb,exs18 q18,h146,h153];rfl)
   | (rw [form_ok (ez.symm.trans h38) hb,exs18 q18,h146];rfl)
   | (rw [form_ok (ez.symm.trans h38) hb,exsN q7 hlx q3 q5 q18])
 have q7:¬ op=7:=λe=>Al_of_decide_eq_false h104 (by rw [e];rfl);refine .sk<|.tN<|.sq<|.sr<|.fA Z Fx.field35_5<|.lD Z Fx.agg32 mem1 Z<|.yw (.lenSl Fx.sl32 Z)<|.fA Z Fx.field157_5<|.lD Z Fx.agg5 Hm Z<|.yw (.conv Z Fx.int5 Fx.int3 (c:=(((fsOf op).ex:Nat):Int)) (w64 (by omega) (by have:=fs_small op;omega)))<|.yw (.cast (.neq Z Z) (congrArg Value.bool nn0))<|.nt<|.cd Z (λh121=>?_) (λh121=>?_)
 ·have hlx:¬ ex.length=(fsOf op).ex:=λe=>by rw [Al_decide_eq_true e] at h121;cases h121
  refine .sr<|.az Z<|.tR<|?_
  refine y9 Z Z λW s=>⟨?_,s.ext⟩
  first
   | (rw [form_bad (ez.symm.trans h38)])
   | (rw [form_bnd (by rw [bnd_w h39,Al_decide_eq_false (Al_of_decide_eq_true (by rw [h66] at ew;exact ew.symm))])])
   | (rw [form_bnd (by rw [bnd_a h39 h67,Al_decide_eq_false (Al_of_decide_eq_true (by rw [h92] at ea;exact ea.symm))])])
   | (rw [form_bnd (by rw [bnd_n h39 h67,Al_decide_eq_false (Al_of_decide_eq_true (by rw [h93] at en;exact en.symm))])])
   | (rw [form_ok (ez.symm.trans h38) hb,exs7 q7,h109,Al_Bool_true_and,all_frm])
   | (rw [form_ok (ez.symm.trans h38) hb,exs7 q7,h109];rfl)
   | (rw [form_ok (ez.symm.trans h38) hb,exsL q7 hlx])
   | (rw [form_ok (ez.symm.trans h38) hb,exs3 q3])
   | (rw [form_ok (ez.symm.trans h38) hb,exs5 q5])
   | (rw [form_ok (ez.symm.trans h38) hb,exs18 q18,h146,h153,Al_Bool_true_and,Al_Bool_true_and])
   | (rw [form_ok (ez.symm.trans h38) hb,exs18 q18,h146,h153];rfl)
   | (rw [form_ok (ez.symm.trans h38) hb,exs18 q18,h146];rfl)
   | (rw [form_ok (ez.symm.trans h38) hb,exsN q7 hlx q3 q5 q18])
 have hlx:ex.length=(fsOf op).ex:=Classical.byContradiction λe=>by rw [Al_decide_eq_false e] at h121;cases h121
 refine .sk<|.tN<|.sq<|.sr<|.fA Z Fx.field35_0<|.lD Z Fx.agg31 mem1 Z<|.nt<|.bk<|.sr<|.yw (.eql Z Z)<|.aq Z<|.cd Z (λh124=>?_) (λh124=>?_)
 ·have q3:op=3:=Al_UInt8_toNat_inj.1 (by have:=Al_of_decide_eq_true h124;show op.toNat=3;omega);obtain ⟨e0,rfl⟩:∃ e0,ex=[e0]:=List.length_eq_one_iff.1 (by rw [hlx,q3];rfl);obtain ⟨bE,oE,cE,hpE,rE,lE,mE⟩:=hs1.elem (i:=0) (d:=dEx .u8 e0) rfl;cases hpE;refine .sr<|.fA Z Fx.field35_5<|.lD Z Fx.agg32 mem1 Z<|.yw (.indexSl Fx.sl32 Z Z (i:=0) Z (Nat.succ_pos _) (q:=oE+0 * 4) Z)<|.yw (.loadMW Z Fx.agg76 mE lE)<|.yw (.call Fx.call80 Z (λW s=>isCmp_any H e0 cE W rE s.agr))<|.az Z<|.bR<|.tR<|?_
  refine y9 Z Z λW s=>⟨?_,s.ext⟩
  first
   | (rw [form_bad (ez.symm.trans h38)])
   | (rw [form_bnd (by rw [bnd_w h39,Al_decide_eq_false (Al_of_decide_eq_true (by rw [h66] at ew;exact ew.symm))])])
   | (rw [form_bnd (by rw [bnd_a h39 h67,Al_decide_eq_false (Al_of_decide_eq_true (by rw [h92] at ea;exact ea.symm))])])
   | (rw [form_bnd (by rw [bnd_n h39 h67,Al_decide_eq_false (Al_of_decide_eq_true (by rw [h93] at en;exact en.symm))])])
   | (rw [form_ok (ez.symm.trans h38) hb,exs7 q7,h109,Al_Bool_true_and,all_frm])
   | (rw [form_ok (ez.symm.trans h38) hb,exs7 q7,h109];rfl)
   | (rw [form_ok (ez.symm.trans h38) hb,exsL q7 hlx])
   | (rw [form_ok (ez.symm.trans h38) hb,exs3 q3])
   | (rw [form_ok (ez.symm.trans h38) hb,exs5 q5])
   | (rw [form_ok (ez.symm.trans h38) hb,exs18 q18,h146,h153,Al_Bool_true_and,Al_Bool_true_and])
   | (rw [form_ok (ez.symm.trans h38) hb,exs18 q18,h146,h153];rfl)
   | (rw [form_ok (ez.symm.trans h38) hb,exs18 q18,h146];rfl)
   | (rw [form_ok (ez.symm.trans h38) hb,exsN q7 hlx q3 q5 q18])
 have q3:¬ op=3:=λe=>Al_of_decide_eq_false h124 (by rw [e];rfl);refine .sr<|.yw (.eql Z Z)<|.aq Z<|.cd Z (λh131=>?_) (λh131=>?_)
 ·have q5:op=5:=Al_UInt8_toNat_inj.1 (by have:=Al_of_decide_eq_true h131;show op.toNat=5;omega);obtain ⟨e0,rfl⟩:∃ e0,ex=[e0]:=List.length_eq_one_iff.1 (by rw [hlx,q5];rfl);obtain ⟨bE,oE,cE,hpE,rE,lE,mE⟩:=hs1.elem (i:=0) (d:=dEx .u8 e0) rfl;cases hpE;refine .sr<|.fA Z Fx.field35_5<|.lD Z Fx.agg32 mem1 Z<|.yw (.indexSl Fx.sl32 Z Z (i:=0) Z (Nat.succ_pos _) (q:=oE+0 * 4) Z)<|.yw (.loadMW Z Fx.agg76 mE lE)<|.yw (.call Fx.call79 Z (λW s=>isTerm_any H e0 cE W rE s.agr))<|.az Z<|.bR<|.tR<|?_
  refine y9 Z Z λW s=>⟨?_,s.ext⟩
  first
   | (rw [form_bad (ez.symm.trans h38)])
   | (rw [form_bnd (by rw [bnd_w h39,Al_decide_eq_false (Al_of_decide_eq_true (by rw [h66] at ew;exact ew.symm))])])
   | (rw [form_bnd (by rw [bnd_a h39 h67,Al_decide_eq_false (Al_of_decide_eq_true (by rw [h92] at ea;exact ea.symm))])])
   | (rw [form_bnd (by rw [bnd_n h39 h67,Al_decide_eq_false (Al_of_decide_eq_true (by rw [h93] at en;exact en.symm))])])
   | (rw [form_ok (ez.symm.trans h38) hb,exs7 q7,h109,Al_Bool_true_and,all_frm])
   | (rw [form_ok (ez.symm.trans h38) hb,exs7 q7,h109];rfl)
   | (rw [form_ok (ez.symm.trans h38) hb,exsL q7 hlx])
   | (rw [form_ok (ez.symm.trans h38) hb,exs3 q3])
   | (rw [form_ok (ez.symm.trans h38) hb,exs5 q5])
   | (rw [form_ok (ez.symm.trans h38) hb,exs18 q18,h146,h153,Al_Bool_true_and,Al_Bool_true_and])
   | (rw [form_ok (ez.symm.trans h38) hb,exs18 q18,h146,h153];rfl)
   | (rw [form_ok (ez.symm.trans h38) hb,exs18 q18,h146];rfl)
   | (rw [form_ok (ez.symm.trans h38) hb,exsN q7 hlx q3 q5 q18])
 have q5:¬ op=5:=λe=>Al_of_decide_eq_false h131 (by rw [e];rfl);refine .sr<|.yw (.eql Z Z)<|.aq Z<|.cd Z (λh138=>?_) (λh138=>?_)
 ·have q18:op=18:=Al_UInt8_toNat_inj.1 (by have:=Al_of_decide_eq_true h138;show op.toNat=18;omega);obtain ⟨e0,rfl⟩:∃ e0,ex=[e0]:=List.length_eq_one_iff.1 (by rw [hlx,q18];rfl);obtain ⟨bE,oE,cE,hpE,rE,lE,mE⟩:=hs1.elem (i:=0) (d:=dEx .u8 e0) rfl;cases hpE;obtain ⟨op0,nm0,m0,args0⟩:=e0;obtain ⟨p9,c9,rfl,hs9,hn9⟩:=ex_open rE;refine .sr<|.fA Z Fx.field35_5<|.lD Z Fx.agg32 mem1 Z<|.yw (.indexSl Fx.sl32 Z Z (i:=0) Z (Nat.succ_pos _) (q:=oE+0 * 4) Z)<|.fA Z Fx.field76_0<|.yw (.loadM Z Fx.agg74 mE (k:=0) Z Z)<|.yw (.eql Z Z)<|.mv Z<|.b2 (λh146=>?_) (λh146=>?_)
  ·refine .gy (.fieldAddr Z Fx.field35_5)<|.gy (.load Z Fx.agg32 mem1 Z)<|.gy (.indexSl Fx.sl32 Z Z (i:=0) Z (Nat.succ_pos _) (q:=oE+0 * 4) Z)<|.gy (.loadMW Z Fx.agg76 mE lE)<|.gy (.call Fx.call79 Z (λW s=>isTerm_any H _ _ W rE s.agr))<|.yw (.pickT Z Z)<|.mv Z<|.b2 (λh153=>?_) (λh153=>?_)
   ·refine .gy (.fieldAddr Z Fx.field35_5)<|.gy (.load Z Fx.agg32 mem1 Z)<|.gy (.indexSl Fx.sl32 Z Z (i:=0) Z (Nat.succ_pos _) (q:=oE+0 * 4) Z)<|.gy (.fieldAddr Z Fx.field76_2)<|.gy (.loadM Z Fx.agg2 mE (k:=2) Z Z)<|.gy (.leq Z Z)<|.yw (.pickT Z Z)<|.az Z<|.bR<|.tR<|?_
    refine y9 Z Z λW s=>⟨?_,s.ext⟩
    first
     | (rw [form_bad (ez.symm.trans h38)])
     | (rw [form_bnd (by rw [bnd_w h39,Al_decide_eq_false (Al_of_decide_eq_true (by rw [h66] at ew;exact ew.symm))])])
     | (rw [form_bnd (by rw [bnd_a h39 h67,Al_decide_eq_false (Al_of_decide_eq_true (by rw [h92] at ea;exact ea.symm))])])
     | (rw [form_bnd (by rw [bnd_n h39 h67,Al_decide_eq_false (Al_of_decide_eq_true (by rw [h93] at en;exact en.symm))])])
     | (rw [form_ok (ez.symm.trans h38) hb,exs7 q7,h109,Al_Bool_true_and,all_frm])
     | (rw [form_ok (ez.symm.trans h38) hb,exs7 q7,h109];rfl)
     | (rw [form_ok (ez.symm.trans h38) hb,exsL q7 hlx])
     | (rw [form_ok (ez.symm.trans h38) hb,exs3 q3])
     | (rw [form_ok (ez.symm.trans h38) hb,exs5 q5])
     | (rw [form_ok (ez.symm.trans h38) hb,exs18 q18,h146,h153,Al_Bool_true_and,Al_Bool_true_and])
     | (rw [form_ok (ez.symm.trans h38) hb,exs18 q18,h146,h153];rfl)
     | (rw [form_ok (ez.symm.trans h38) hb,exs18 q18,h146];rfl)
     | (rw [form_ok (ez.symm.trans h38) hb,exsN q7 hlx q3 q5 q18])
   refine .gG<|.gG<|.gG<|.gG<|.gG<|.gG<|.yw (.pickF Z Z)<|.az Z<|.bR<|.tR<|?_
   refine y9 Z Z λW s=>⟨?_,s.ext⟩
   first
    | (rw [form_bad (ez.symm.trans h38)])
    | (rw [form_bnd (by rw [bnd_w h39,Al_decide_eq_false (Al_of_decide_eq_true (by rw [h66] at ew;exact ew.symm))])])
    | (rw [form_bnd (by rw [bnd_a h39 h67,Al_decide_eq_false (Al_of_decide_eq_true (by rw [h92] at ea;exact ea.symm))])])
    | (rw [form_bnd (by rw [bnd_n h39 h67,Al_decide_eq_false (Al_of_decide_eq_true (by rw [h93] at en;exact en.symm))])])
    | (rw [form_ok (ez.symm.trans h38) hb,exs7 q7,h109,Al_Bool_true_and,all_frm])
    | (rw [form_ok (ez.symm.trans h38) hb,exs7 q7,h109];rfl)
    | (rw [form_ok (ez.symm.trans h38) hb,exsL q7 hlx])
    | (rw [form_ok (ez.symm.trans h38) hb,exs3 q3])
    | (rw [form_ok (ez.symm.trans h38) hb,exs5 q5])
    | (rw [form_ok (ez.symm.trans h38) hb,exs18 q18,h146,h153,Al_Bool_true_and,Al_Bool_true_and])
    | (rw [form_ok (ez.symm.trans h38) hb,exs18 q18,h146,h153];rfl)
    | (rw [form_ok (ez.symm.trans h38) hb,exs18 q18,h146];rfl)
    | (rw [form_ok (ez.symm.trans h38) hb,exsN q7 hlx q3 q5 q18])
  refine .gG<|.gG<|.gG<|.gG<|.gG<|.yw (.pickF Z Z)<|.mv Z<|.gG<|.gG<|.gG<|.gG<|.gG<|.gG<|.yw (.pickF Z Z)<|.az Z<|.bR<|.tR<|?_
  refine y9 Z Z λW s=>⟨?_,s.ext⟩
  first
   | (rw [form_bad (ez.symm.trans h38)])
   | (rw [form_bnd (by rw [bnd_w h39,Al_decide_eq_false (Al_of_decide_eq_true (by rw [h66] at ew;exact ew.symm))])])
   | (rw [form_bnd (by rw [bnd_a h39 h67,Al_decide_eq_false (Al_of_decide_eq_true (by rw [h92] at ea;exact ea.symm))])])
   | (rw [form_bnd (by rw [bnd_n h39 h67,Al_decide_eq_false (Al_of_decide_eq_true (by rw [h93] at en;exact en.symm))])])
   | (rw [form_ok (ez.symm.trans h38) hb,exs7 q7,h109,Al_Bool_true_and,all_frm])
   | (rw [form_ok (ez.symm.trans h38) hb,exs7 q7,h109];rfl)
   | (rw [form_ok (ez.symm.trans h38) hb,exsL q7 hlx])
   | (rw [form_ok (ez.symm.trans h38) hb,exs3 q3])
   | (rw [form_ok (ez.symm.trans h38) hb,exs5 q5])
   | (rw [form_ok (ez.symm.trans h38) hb,exs18 q18,h146,h153,Al_Bool_true_and,Al_Bool_true_and])
   | (rw [form_ok (ez.symm.trans h38) hb,exs18 q18,h146,h153];rfl)
   | (rw [form_ok (ez.symm.trans h38) hb,exs18 q18,h146];rfl)
   | (rw [form_ok (ez.symm.trans h38) hb,exsN q7 hlx q3 q5 q18])
 have q18:¬ op=18:=λe=>Al_of_decide_eq_false h138 (by rw [e];rfl);refine .sk<|.bN<|.tN<|.sr<|.az Z<|?_
 refine y9 Z Z λW s=>⟨?_,s.ext⟩
 first
  | (rw [form_bad (ez.symm.trans h38)])
  | (rw [form_bnd (by rw [bnd_w h39,Al_decide_eq_false (Al_of_decide_eq_true (by rw [h66] at ew;exact ew.symm))])])
  | (rw [form_bnd (by rw [bnd_a h39 h67,Al_decide_eq_false (Al_of_decide_eq_true (by rw [h92] at ea;exact ea.symm))])])
  | (rw [form_bnd (by rw [bnd_n h39 h67,Al_decide_eq_false (Al_of_decide_eq_true (by rw [h93] at en;exact en.symm))])])
  | (rw [form_ok (ez.symm.trans h38) hb,exs7 q7,h109,Al_Bool_true_and,all_frm])
  | (rw [form_ok (ez.symm.trans h38) hb,exs7 q7,h109];rfl)
  | (rw [form_ok (ez.symm.trans h38) hb,exsL q7 hlx])
  | (rw [form_ok (ez.symm.trans h38) hb,exs3 q3])
  | (rw [form_ok (ez.symm.trans h38) hb,exs5 q5])
  | (rw [form_ok (ez.symm.trans h38) hb,exs18 q18,h146,h153,Al_Bool_true_and,Al_Bool_true_and])
  | (rw [form_ok (ez.symm.trans h38) hb,exs18 q18,h146,h153];rfl)
  | (rw [form_ok (ez.symm.trans h38) hb,exs18 q18,h146];rfl)
  | (rw [form_ok (ez.symm.trans h38) hb,exsN q7 hlx q3 q5 q18])
theorem ex_count (op:UInt8) (nm:Str) (n:Int64) (args:List Ex):Ex.count (.mk op nm n args)=Ex.counts args+1:=by rw [Ex.count]
theorem fm_count (op:UInt8) (nm fd:Str) (a b:Int64) (ex:List Ex) (args:List Fm):Fm.count (.mk op nm fd a b ex args)=Ex.counts ex+Fm.counts args+1:=by rw [Fm.count]
theorem ex_counts_app:∀ (l m:List Ex),Ex.counts (l++m)=Ex.counts l+Ex.counts m
 | [],m=>by rw [Al_List_nil_append,Ex.counts,Al_Nat_zero_add]
 | e::l,m=>by rw [Al_List_cons_append,Ex.counts,Ex.counts,ex_counts_app l m,Al_Nat_add_assoc]
theorem fm_counts_app:∀ (l m:List Fm),Fm.counts (l++m)=Fm.counts l+Fm.counts m
 | [],m=>by rw [Al_List_nil_append,Fm.counts,Al_Nat_zero_add]
 | e::l,m=>by rw [Al_List_cons_append,Fm.counts,Fm.counts,fm_counts_app l m,Al_Nat_add_assoc]
theorem ex_pos (e:Ex):1<=e.count:=by obtain ⟨op,nm,n,args⟩:=e;rw [ex_count];omega
theorem fm_pos (f:Fm):1<=f.count:=by obtain ⟨op,nm,fd,a,b,ex,args⟩:=f;rw [fm_count];omega
theorem ex_len:∀ l:List Ex,l.length<=Ex.counts l
 | []=>Al_Nat_zero_le _
 | e::l=>by rw [Ex.counts,Al_List_length_cons];have:=ex_len l;have:=ex_pos e;omega
theorem fm_len':∀ l:List Fm,l.length<=Fm.counts l
 | []=>Al_Nat_zero_le _
 | e::l=>by rw [Fm.counts,Al_List_length_cons];have:=fm_len' l;have:=fm_pos e;omega
theorem ex_depth_le (e:Ex):e.depth<=e.count:=by
 induction e using Ex.ind with | _ op nm n args ih
 rw [depth_mk,ex_count]
 have:Ex.deeps args<=Ex.counts args:=by
  clear n nm op;induction args with
  | nil=>rw [Ex.deeps];exact Al_Nat_zero_le _
  | cons a r ih2 =>
   rw [Ex.deeps,Ex.counts];have h1:=ih a (Al_List_mem_cons_self ..);have h2:=ih2 λx hx=>ih x (Al_List_mem_cons_of_mem _ hx);omega
 omega
theorem ex_mem_count:∀ {l:List Ex} {e:Ex},e∈l->e.count<=Ex.counts l
 | a::r,e,h=>by
  rw [Ex.counts];rcases Al_List_mem_cons.1 h with rfl | h
  ·omega
  ·have:=ex_mem_count h;omega
theorem fm_mem_count:∀ {l:List Fm} {e:Fm},e∈l->e.count<=Fm.counts l
 | a::r,e,h=>by
  rw [Fm.counts];rcases Al_List_mem_cons.1 h with rfl | h
  ·omega
  ·have:=fm_mem_count h;omega
theorem fm_allsL (q:Fm->Bool):∀ l,Fm.alls q l=l.all (Fm.all q)
 | []=>rfl
 | f::r=>by rw [Fm.alls,Al_List_all_cons,fm_allsL q r]
theorem fm_allL (q:Fm->Bool) (op:UInt8) (nm fd:Str) (a b:Int64) (ex:List Ex) (args:List Fm):Fm.all q (.mk op nm fd a b ex args)=(q (.mk op nm fd a b ex args) && args.all (Fm.all q)):=by rw [Fm.all,fm_allsL]
theorem fm_all_true (f:Fm):Fm.all (λ_=>true) f=true:=by
 induction f using Fm.ind with | _ op nm fd a b ex args ih
 rw [fm_allL,Al_Bool_true_and];exact Al_List_all_eq_true.2 ih
def depB (f:Fm):Bool:=f.ex.all λe=>decide (e.depth<=1000000)
theorem fm_all_dep (f:Fm) (h:f.count<=1000000):Fm.all depB f=true:=by
 induction f using Fm.ind with | _ op nm fd a b ex args ih
 rw [fm_count] at h;rw [fm_allL,Al_Bool_and_eq_true];refine ⟨Al_List_all_eq_true.2 λe he=>Al_decide_eq_true ?_,Al_List_all_eq_true.2 λx hx=>ih x hx ?_⟩
 ·have h1:=ex_mem_count (l:=ex) he;have h2:=ex_depth_le e;omega
 ·have h1:=fm_mem_count hx;omega
def blE (N:Nat) (e:Ex):Bool:=Ex.all (λe=>decide (e.args.length<=N)) e
def blF (N:Nat) (f:Fm):Bool:=Fm.all (λf=>decide (f.ex.length<=N) && decide (f.args.length<=N) && f.ex.all (blE N)) f
theorem alls_allE (q:Ex->Bool):∀ l,Ex.alls q l=l.all (Ex.all q)
 | []=>rfl
 | e::r=>by rw [Ex.alls,Al_List_all_cons,alls_allE q r]
variable {N:Nat}
theorem blE_mk {op:UInt8} {nm:Str} {n:Int64} {args:List Ex} :blE N (.mk op nm n args)=true↔args.length<=N/\∀ a∈args,blE N a=true:=by
 unfold blE;rw [all_mk,alls_allE,Al_Bool_and_eq_true,Al_decide_eq_true_eq,Al_List_all_eq_true];rfl
theorem blF_mk {op:UInt8} {nm fd:Str} {a b:Int64} {ex:List Ex} {args:List Fm} :blF N (.mk op nm fd a b ex args)=true↔(ex.length<=N/\args.length<=N/\∀ e∈ex,blE N e=true)/\∀ g∈args,blF N g=true:=by
 unfold blF;rw [fm_allL,Al_Bool_and_eq_true,Al_Bool_and_eq_true,Al_Bool_and_eq_true,Al_decide_eq_true_eq,Al_decide_eq_true_eq,Al_List_all_eq_true,Al_List_all_eq_true];exact ⟨λh=>⟨⟨h.1.1.1,h.1.1.2,h.1.2⟩,h.2⟩,λh=>⟨⟨⟨h.1.1,h.1.2.1⟩,h.1.2.2⟩,h.2⟩⟩
theorem Fx.row33:rowN prg 33=some (35,7,104):=by kernel_rfl
end Go.Proofs.YtidclioghdbphaaGreatDoor
