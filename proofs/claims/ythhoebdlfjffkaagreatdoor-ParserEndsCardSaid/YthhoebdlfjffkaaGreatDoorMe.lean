/- Texts of the proof, one behind the other. -/
import Derived.Test.YthhoebdlfjffkaaGreatDoorMd
import Derived.OrdersIn
set_option linter.all false
set_option maxRecDepth 100000
namespace Go.Proofs.YthhoebdlfjffkaaGreatDoor
open Go.RowKit Go.Par Go.Sx
theorem u8w {c:UInt8} (h:48≤c.toNat):IntKind.u8.wrap ((c.toNat:Int) - 48)=((c.toNat - 48:Nat):Int):=by
 have key:∀ i∈List.range 256,IntKind.u8.wrap (i:Int)=(i:Int):=by decide +kernel
 rw [show (c.toNat:Int) - 48=((c.toNat - 48:Nat):Int) by omega];exact key _ (List.mem_range.2 (by have:=c.toNat_lt;omega))
theorem RV {c:UInt8} (h:dU c=true):48≤c.toNat∧c.toNat≤57:=by
 have key:∀ i∈List.range 256,dU (UInt8.ofNat i)=true→48≤i∧i≤57:=by decide +kernel
 exact key c.toNat (List.mem_range.2 c.toNat_lt) (by rw [UInt8.ofNat_toNat];exact h)
def nD (t:Tk):Nat:=if t.k=3 then (if fG t.t≤9223372036854775807 then 0 else 2) else 1
def DZ (t:Tk):Nat:=if t.k=3∧fG t.t≤9223372036854775807 then fG t.t else 0
theorem LD {t:Tk} (h:t.k=3) (hn:fG t.t≤9223372036854775807):nD t=0∧DZ t=fG t.t:=⟨by unfold nD;rw [if_pos h,if_pos hn],by unfold DZ;rw [if_pos ⟨h,hn⟩]⟩
theorem PV {t:Tk} (h:t.k=3) (hn:¬ fG t.t≤9223372036854775807):nD t=2∧DZ t=0:=⟨by unfold nD;rw [if_pos h,if_neg hn],by unfold DZ;rw [if_neg (fun k=>hn k.2)]⟩
theorem TH {t:Tk} (h:¬ t.k=3):nD t=1∧DZ t=0:=⟨by unfold nD;rw [if_neg h],by unfold DZ;rw [if_neg (fun k=>h k.1)]⟩
theorem II (t:Tk) (hd:t.k=3→pre dU t.t=t.t.length∧¬ t.t=[]) (hl:t.t.length≤1000000) (w:World) :
 Calls Tryz.prog 146 #[.agg (cTk .u8 t).toArray] w fun r w'=>r=.returned (.tuple #[.int .i64 (DZ t:Nat),.int .i64 (nD t:Nat)])∧Ext w w':=by
 refine Sx.enter (H:=(fun _=>none)) Tryz.func146 rfl Tryz.ntmps146 rfl (fun _ _ e=>by cases e) ?_;refine .sr<|.bx Z Z Z fun b1=>.a Z Z<|.a Z Z<|.nt<|.sq<|.sq<|.fL 16 [(0,0),(1,0),(2,0),(3,0),(4,0),(5,0),(6,0),(7,0),(8,0),(9,0),(10,0),(11,0),(12,0),(13,0),(14,0),(15,0)]<|.yw (.fieldAddr Z Fx.field96_0)<|.yw (.load Z Fx.agg94 (.head _) Z)<|.yw (.neq Z Z)<|.mv Z<|.b2 (fun h10=>?_) (fun h10=>?_)
 ·have hk:¬ t.k=3:=fun e=>of_decide_eq_true h10 (by rw [e];rfl);obtain ⟨hv1,hv2⟩:=TH hk;refine .gG<|.gG<|.gG<|.yw (.pickT Z Z)<|.mv Z<|.gG<|.gG<|.gG<|.gG<|.gG<|.gG<|.gG<|.fn (tl:=[_]) Z<|.yw (.pickT Z Z)<|.nt<|.cT Z<|.sr<|.a Z Z<|.a Z Z<|.nt<|.rt<|.tR<|?_
  refine Sx.retN (.inl rfl) rfl (.cons (.tmp rfl) (.cons (.tmp rfl) .nil)) rfl fun W s=>⟨?_,s.ext⟩
  first
   | (rw [hv1,hv2];rfl)
   | (rw [hv1,hv2,List.take_length];rfl)
   | (rw [hv1,hv2,List.take_length])
 have hk:t.k=3:=UInt8.toNat_inj.1 (by have:=Classical.not_not.1 (of_decide_eq_false h10);exact Int.ofNat.inj this);obtain ⟨hd1,hd2⟩:=hd hk;have hall:=List.all_eq_true.1 (zI hd1);refine .yg Z Z (.fieldAddr Z Fx.field96_1) Z<|.yg Z Z (.load Z Fx.agg9 (.head _) Z) Z<|.yg Z Z (.cast (.eqS Z Z) (congrArg Value.bool (decide_eq_false hd2))) Z<|.yw (.pickF Z Z)<|.mv Z<|.yg Z Z (.fieldAddr Z Fx.field96_1) Z<|.yg Z Z (.load Z Fx.agg9 (.head _) Z) Z<|.yg Z Z (.call Fx.call110 Z (fun W s=>kO 117 dU Fx.call117 oY t.t (by omega) W)) Z<|.yg Z Z (.fieldAddr Z Fx.field96_1) Z<|.yg Z Z (.load Z Fx.agg9 (.head _) Z) Z<|.yg Z Z (.lenS Fx.str9 Z) Z<|.yg Z Z (.cast (.neq Z Z) (congrArg Value.bool (decide_eq_false (by rw [hd1];simp)))) Z<|.fn (tl:=[_]) Z<|.yw (.pickF Z Z)<|.nt<|.cF Z<|.sk<|.tN<|.sr<|.a Z Z<|.nt<|.sq<|.sr<|.yw (.fieldAddr Z Fx.field96_1)<|.yw (.load Z Fx.agg9 (.head _) Z)<|.yw (.lenS Fx.str9 Z)<|.mv Z<|.nt<|.bk<|.lp (X:=Nat) [(1,_),(26,_)] ⟨rfl,rfl,trivial⟩ [_] (fun k=>[(27,.int .i64 (k:Nat)),(4,.int .i64 (fG (t.t.take k):Nat))]) (fun k=>(fun _=>none)) (fun k=>[]) (fun k=>k≤t.t.length∧fG (t.t.take k)≤9223372036854775807) (fun k=>t.t.length - k) 0 (fun _ s=>s) ⟨rfl,rfl,trivial⟩ ⟨Nat.zero_le _,by simp [JS]⟩ fun k hC=>?_
 obtain ⟨hk0,hv0⟩:=hC;refine .sr<|.yw (.lss Z Z)<|.nt<|.sq<|.cd Z (fun h28=>?_) (fun h28=>?_)
 ·try simp only [dt] at h28
  have hlt:k<t.t.length:=by omega
  obtain ⟨c,hc⟩:∃ c,c=t.t[k]:=⟨_,rfl⟩;obtain ⟨hc1,hc2⟩:=RV (hall c (by rw [hc];exact List.getElem_mem hlt));have hst:fG (t.t.take (k+1))=10 * fG (t.t.take k)+(c.toNat - 48):=JU (by rw [hc];exact List.getElem?_eq_getElem hlt);have hle:=JT t.t (k+1);rw [hst] at hle;refine .sk<|.tN<|.sq<|.bk<|.sr<|.mv Z<|.a Z Z<|.ns<|.yw (.fieldAddr Z Fx.field96_1)<|.yw (.load Z Fx.agg9 (.head _) Z)<|.mv Z<|.yw (.idxS Fx.str9 Z Z Z (b:=c) (j:=k) (by rw [hc];exact List.getElem?_eq_getElem hlt))<|.yw (.sub Z Z (u8w hc1))<|.yw (.conv Z Fx.int5 Fx.int2 (c:=((c.toNat - 48:Nat):Int)) (w6 (by omega)))<|.a Z Z<|.nt<|.sq<|.sr<|.mv Z<|.mv Z<|.yw (.sub Z Z (c:=((9223372036854775807 - (c.toNat - 48):Nat):Int)) ((w6 (by omega)).trans (by omega)))<|.yw (.quo Z Z (by decide) (c:=(((9223372036854775807 - (c.toNat - 48)) / 10:Nat):Int)) (by rw [Int.tdiv_eq_ediv_of_nonneg (by omega)];exact (w6 (by omega)).trans (by omega)))<|.yw (.gtr Z Z)<|.nt<|.cd Z (fun h40=>?_) (fun h40=>?_)
  ·try simp only [dt] at h40
   obtain ⟨hv1,hv2⟩:=PV hk (show ¬ fG t.t≤9223372036854775807 by omega);refine .sr<|.a Z Z<|.a Z Z<|.nt<|.rt<|.tR<|.bR<|.tR<|.tR<|.bR<|.tR<|?_
   refine Sx.retN (.inl rfl) rfl (.cons (.tmp rfl) (.cons (.tmp rfl) .nil)) rfl fun W s=>⟨?_,s.ext⟩
   first
    | (rw [hv1,hv2];rfl)
    | (rw [hv1,hv2,List.take_length];rfl)
    | (rw [hv1,hv2,List.take_length])
  try simp only [df] at h40
  have hb:10 * fG (t.t.take k)+(c.toNat - 48)≤9223372036854775807:=by omega
  exact .sk<|.tN<|.rg<|.mv Z<|.yw (.mul Z Z (c:=((10 * fG (t.t.take k):Nat):Int)) ((w6 (by omega)).trans (by omega)))<|.mv Z<|.yw (.add Z Z (c:=((10 * fG (t.t.take k)+(c.toNat - 48):Nat):Int)) ((w6 (by omega)).trans (by omega)))<|.a Z Z<|.nl<|.bN<|.tN<|.rg<|.yw (.add Z Z (w6 (by omega)))<|.mv Z<|.nt<|.ag (k+1) ⟨rfl,by rw [hst];rfl,trivial⟩ ⟨rfl,rfl,trivial⟩ (fun _ s=>s) ⟨by omega,by rw [hst];omega⟩ (by omega)
 try simp only [df] at h28
 obtain rfl:k=t.t.length:=by omega
 rw [List.take_length] at hv0;obtain ⟨hv1,hv2⟩:=LD hk hv0;refine .ex<|.tE<|.tE<|.bE<|.tN<|.sr<|.mv Z<|.a Z Z<|.a Z Z<|.nt<|.rt<|?_
 refine Sx.retN (.inl rfl) rfl (.cons (.tmp rfl) (.cons (.tmp rfl) .nil)) rfl fun W s=>⟨?_,s.ext⟩
 first
  | (rw [hv1,hv2];rfl)
  | (rw [hv1,hv2,List.take_length];rfl)
  | (rw [hv1,hv2,List.take_length])
theorem WA {n:Nat} {q:Sg} (h0:q.e=0) (hk:(tkH n q.r).k=3) (hn:fG (tkH n q.r).t≤9223372036854775807):up n gNu q=q.tl∧vl gNu q (Int64.ofNat (fG (tkH n q.r).t)):=by
 cases hr:q.r with
 | nil=>rw [hr] at hk;cases hk
 | cons t l =>
  rw [hr] at hk hn
  have e:gNu q.r=.ok (Int64.ofNat (fG t.t)) l:=by
   unfold gNu;rw [hr];simp only [show t.k=3 from hk,if_true,show fG t.t≤9223372036854775807 from hn]
  refine ⟨?_,fun _ a r e2=>?_⟩
  ·unfold up Sg.tl;rw [if_pos h0,e,hr]
   rfl
  ·rw [e] at e2;injection e2
theorem UM {n:Nat} {q:Sg} (hk:(tkH n q.r).k=3) (hn:¬ fG (tkH n q.r).t≤9223372036854775807):up n gNu q=q.fail n 2∧∀ x,vl gNu q x:=by
 cases hr:q.r with
 | nil=>rw [hr] at hk;cases hk
 | cons t l =>
  rw [hr] at hk hn
  have e:gNu q.r=.er q.r 2:=by
   unfold gNu;rw [hr];simp only [show t.k=3 from hk,if_true,show ¬ fG t.t≤9223372036854775807 from hn,if_false]
  refine ⟨?_,fun x _ a r e2=>?_⟩
  ·unfold up Sg.fail
   split
   ·rw [e]
   ·rfl
  ·rw [e] at e2;cases e2
theorem WB {n:Nat} {q:Sg} (hk:¬ (tkH n q.r).k=3):up n gNu q=q.fail n 8∧∀ x,vl gNu q x:=by
 have e:gNu q.r=.er q.r 8:=by
  unfold gNu;cases hr:q.r with
  | nil=>rfl
  | cons t l =>
   rw [hr] at hk;simp only [show ¬ t.k=3 from hk,if_false]
 refine ⟨?_,fun x _ a r e2=>?_⟩
 ·unfold up Sg.fail
  split
  ·rw [e]
  ·rfl
 ·rw [e] at e2;cases e2
theorem OH {n c:Nat} {q:Sg} (hc:c≠0):(q.fail n c).e≠0:=by
 unfold Sg.fail
 split
 ·exact hc
 ·assumption
theorem XH {n:Nat} (h:n≤9223372036854775807):(Int64.ofNat n).toInt=(n:Int):=Int64.toInt_ofNat_of_lt (by omega)
theorem TK {t:Tk} (h:nD t=0):t.k=3∧fG t.t≤9223372036854775807:=by
 unfold nD at h
 split at h
 ·split at h
  ·exact ⟨by assumption,by assumption⟩
  ·cases h
 ·cases h
theorem TI {t:Tk} (h:nD t=2):t.k=3∧¬ fG t.t≤9223372036854775807:=by
 unfold nD at h
 split at h
 ·split at h
  ·cases h
  ·exact ⟨by assumption,by assumption⟩
 ·cases h
theorem TJ {t:Tk} (h:¬ nD t=0) (h2:¬ nD t=2):¬ t.k=3:=by
 intro k;unfold nD at h h2;rw [if_pos k] at h h2
 split at h
 ·exact h rfl
 ·rename_i e;rw [if_neg e] at h2;exact h2 rfl
theorem TO {H:Hp} {q:Sg} {ts:List Tk} {tp:Option Addr} {tc n:Nat} (K:Tkm H ts tp tc) (h:q.r<:+ts):(tkH n q.r).k=3→pre dU (tkH n q.r).t=(tkH n q.r).t.length∧¬ (tkH n q.r).t=[]:=by
 intro hk;rcases GE (n:=n) h with e | e
 ·rw [e] at hk;cases hk
 ·exact ⟨K.num _ e hk,(K.good _ e).2.2⟩
theorem rV {H:Hp} {w0 W:World} {bs:List Res} {b n:Nat} {ts:List Tk} {tp:Option Addr} {tc:Nat} {t0 t1 t2 t3:Value} {q:Sg} (K:Tkm H ts tp tc) (hq:q.r<:+ts) (s:St H w0 (.box b [.slice tp ts.length tc,.int .i64 (bT ts q:Nat),.int .i64 (n:Nat),t0,t1,t2,t3,.int .i64 (q.o:Nat),.int .i64 (q.e:Nat)] 99::bs) W) :
 Calls Tryz.prog 120 #[.pointer (some ⟨b,0,none⟩)] W fun e W'=>∃ x:Int64,(vl gNu q x)∧e=.returned (.int .i64 x.toInt)∧St H w0 (.box b [.slice tp ts.length tc,.int .i64 (bT ts (up n gNu q):Nat),.int .i64 (n:Nat),t0,t1,t2,t3,.int .i64 ((up n gNu q).o:Nat),.int .i64 ((up n gNu q).e:Nat)] 99::bs) W':=by
 have hcap:=K.rep.cap;refine Sx.enterS Tryz.func120 rfl Tryz.ntmps120 rfl s ?_;refine .sr<|.a Z Z<|.ns<|.mv Z<|.cs (X:=Unit) Fx.call91 Z (fun W s=>nJ K hq  (s.p1_1 [0] Z)) Z fun _ _=>.yw (.call Fx.call146 Z (fun W s=>II (tkH n q.r) (TO K hq) (K.tk hq) W))<|.mv Z<|.yw (.extract Z Z)<|.yw (.extract Z Z)<|.a Z Z<|.a Z Z<|.nt<|.sq<|.sr<|.mv Z<|.nt<|.bk<|.sr<|.yw (.eql Z Z)<|.a Z Z<|.nt<|.cd Z (fun h14=>?_) (fun h14=>?_)
 ·try simp only [dt] at h14
  have he:nD (tkH n q.r)=0:=by omega
  obtain ⟨hk,hn⟩:=TK he;have hv2:=(LD hk hn).2;refine .sk<|.bN<|.tN<|.sq<|.sr<|.mv Z<|.yw (.nilCheck Z)<|.yw (.fieldAddr Z Fx.field99_5)<|.yw (.load Z Fx.agg28 (.head _) Z)<|.yw (.neq Z Z)<|.nt<|.cd Z (fun h24=>?_) (fun h24=>?_)
  ·try simp only [dt] at h24
   have h0:¬ q.e=0:=by omega
   rw [show up n gNu q=q from kA h0];refine .sr<|.a Z Z<|.nt<|.rt<|.tR<|?_
   refine Sx.ret1 (.inl rfl) rfl (.tmp rfl) fun W s=>?_;exact ⟨0,(LB h0),rfl,s.p1_1 [0] rfl⟩
  try simp only [df] at h24
  have h0:q.e=0:=by omega
  obtain ⟨e1,hv⟩:=WA h0 hk hn;rw [e1];obtain ⟨hp,hi⟩:=zJ hq (LP (n:=n) (by rw [hk];decide));refine .sk<|.tN<|.sr<|.mv Z<|.yw (.nilCheck Z)<|.yw (.fieldAddr Z Fx.field99_1)<|.yw (.load Z Fx.agg3 (.head _) Z)<|.yw (.add Z Z (c:=((bT ts q.tl:Nat):Int)) ((w6 (by omega)).trans (by omega)))<|.yw (.nilCheck Z)<|.yw (.fieldAddr Z Fx.field99_1)<|.st .head Z Z Fx.size3 Z (nb Z) Z<|.ns<|.mv Z<|.a Z Z<|.nt<|.rt<|?_
  refine Sx.ret1 (.inl rfl) rfl (.tmp rfl) fun W s=>?_;exact ⟨Int64.ofNat (fG (tkH n q.r).t),hv,(by rw [hv2,XH hn]),s.p1_1 [0] rfl⟩
 try simp only [df] at h14
 have he:¬ nD (tkH n q.r)=0:=by omega
 refine .sr<|.yw (.eql Z Z)<|.a Z Z<|.nt<|.cd Z (fun h16=>?_) (fun h16=>?_)
 ·try simp only [dt] at h16
  have he2:nD (tkH n q.r)=2:=by omega
  obtain ⟨hk,hn⟩:=TI he2;obtain ⟨e1,hv⟩:=UM (n:=n) hk hn;rw [e1];refine .rg<|.mv Z<|.cs (X:=Unit) Fx.call50 Z (fun W s=>rH K hq 2 (s.p1_1 [0] Z)) Z fun _ _=>.nl<|.bN<|.tN<|.sq<|.sr<|.mv Z<|.yw (.nilCheck Z)<|.yw (.fieldAddr Z Fx.field99_5)<|.yw (.load Z Fx.agg28 (.head _) Z)<|.yw (.neq Z Z)<|.nt<|.cd Z (fun h24=>?_) (fun h24=>?_)
  ·skip
   refine .sr<|.a Z Z<|.nt<|.rt<|.tR<|?_
   refine Sx.ret1 (.inl rfl) rfl (.tmp rfl) fun W s=>?_;exact ⟨0,(hv 0),rfl,s.p1_1 [0] rfl⟩
  exact absurd (show (q.fail n 2).e=0 by have:=Classical.not_not.1 (of_decide_eq_false h24);omega) (OH (by decide))
 try simp only [df] at h16
 have he2:¬ nD (tkH n q.r)=2:=by omega
 have hk:=TJ he he2;obtain ⟨e1,hv⟩:=WB (n:=n) hk;rw [e1];refine .rg<|.mv Z<|.cs (X:=Unit) Fx.call50 Z (fun W s=>rH K hq 8 (s.p1_1 [0] Z)) Z fun _ _=>.nl<|.bN<|.tN<|.sq<|.sr<|.mv Z<|.yw (.nilCheck Z)<|.yw (.fieldAddr Z Fx.field99_5)<|.yw (.load Z Fx.agg28 (.head _) Z)<|.yw (.neq Z Z)<|.nt<|.cd Z (fun h24=>?_) (fun h24=>?_)
 ·skip
  refine .sr<|.a Z Z<|.nt<|.rt<|.tR<|?_
  refine Sx.ret1 (.inl rfl) rfl (.tmp rfl) fun W s=>?_;exact ⟨0,(hv 0),rfl,s.p1_1 [0] rfl⟩
 exact absurd (show (q.fail n 8).e=0 by have:=Classical.not_not.1 (of_decide_eq_false h24);omega) (OH (by decide))
def dSy (x:Str × UInt8):D:=.str [.val (aB x.1),.val (.int .u8 x.2.toNat)]
theorem QD {H:Hp} {x:Str × UInt8} {cs:List Value} (h:Rep H (dSy x) cs):cs=[aB x.1,.int .u8 x.2.toNat]:=by
 rw [dSy,jW] at h;obtain ⟨_,rfl,_,_,h⟩:=aQ.1 h;obtain ⟨_,rfl,_,_,h⟩:=aQ.1 h;rw [dE] at h;subst h
 rfl
theorem fZ {H:Hp} {x:Str × UInt8} (h:x.1.length≤1000000):Rep H (dSy x) [aB x.1,.int .u8 x.2.toNat]:=by
 rw [dSy,jW];exact aQ.2 ⟨_,rfl,rfl,okS.2 h,aQ.2 ⟨_,rfl,rfl,trivial,dE.2 rfl⟩⟩
def opF (L:List (Str × UInt8)) (q:Sg):Option UInt8:=(L.find? fun x=>ac x.1 q).map (·.2)
def opZ (L:List (Str × UInt8)) (q:Sg):Sg:=if (opF L q).isSome then q.tl else q
theorem MS {L:List (Str × UInt8)} {q:Sg} (h:∀ i,i<L.length→∀ x,L[i]? = some x→ac x.1 q=false):opF L q=none:=by
 unfold opF;rw [Option.map_eq_none_iff,List.find?_eq_none];intro x hx;obtain ⟨i,hi,rfl⟩:=List.getElem_of_mem hx;rw [h i hi _ (List.getElem?_eq_getElem hi)]
 decide
theorem MT:∀ {L:List (Str × UInt8)} {q:Sg} {k:Nat} (hk:k<L.length),(∀ i,i<k→∀ x,L[i]? = some x→ac x.1 q=false)→ac L[k].1 q=true→opF L q=some L[k].2
 | [],q,k,hk,_,_=>by cases hk
 | x::L,q,0,hk,_,h=>by
  unfold opF;rw [List.find?_cons_of_pos (by exact h)]
  rfl
 | x::L,q,k+1,hk,hn,h=>by
  have h0:=hn 0 (by omega) x rfl;have:=MT (L:=L) (q:=q) (k:=k) (by simpa using hk) (fun i hi y hy=>hn (i+1) (by omega) y (by simpa using hy)) (by simpa using h);unfold opF at this ⊢;rw [List.find?_cons_of_neg (by rw [h0];decide)];simpa using this
theorem tK (lv:Nat) (q:Sg):opF (nF lv) q=opS lv q:=by
 unfold opF opS opAt ac
 by_cases h0:q.e=0
 ·simp only [h0,decide_true,Bool.true_and,if_true]
 ·simp only [h0,decide_false,Bool.false_and,if_false];rw [List.find?_eq_none.2 (by simp)]
  rfl
theorem zN {L:List (Str × UInt8)} {q:Sg} {op:UInt8} (h:opF L q=some op):q.tl.mu<q.mu:=by
 unfold opF at h;obtain ⟨x,hx,_⟩:=Option.map_eq_some_iff.1 h;exact kP (w:=x.1) (List.find?_some (p:=fun x:Str × UInt8=>ac x.1 q) hx)
theorem nP {H:Hp} {w0 W:World} {bs:List Res} {b n:Nat} {ts:List Tk} {tp:Option Addr} {tc:Nat} {t0 t1 t2 t3:Value} {q:Sg} (K:Tkm H ts tp tc) (hq:q.r<:+ts) (L:List (Str × UInt8)) (hL:∀ x∈L,x.1∈words∨x.1∈symbols) (lp:Option Addr) (lc:Nat) (hs:Rep H (.seq 2 (L.map dSy)) [.slice lp L.length lc]) (s:St H w0 (.box b [.slice tp ts.length tc,.int .i64 (bT ts q:Nat),.int .i64 (n:Nat),t0,t1,t2,t3,.int .i64 (q.o:Nat),.int .i64 (q.e:Nat)] 99::bs) W) :
 Calls Tryz.prog 89 #[.pointer (some ⟨b,0,none⟩),.slice lp L.length lc] W fun e W'=>∃ _:Unit,(True)∧e=.returned (.tuple #[.int .u8 ((opF L q).getD 0).toNat,.bool (opF L q).isSome])∧St H w0 (.box b [.slice tp ts.length tc,.int .i64 (bT ts (opZ L q):Nat),.int .i64 (n:Nat),t0,t1,t2,t3,.int .i64 ((opZ L q).o:Nat),.int .i64 ((opZ L q).e:Nat)] 99::bs) W':=by
 have hcap:=hs.cap;refine Sx.enterS Tryz.func89 rfl Tryz.ntmps89 rfl s ?_;refine .sr<|.a Z Z<|.a Z Z<|.nt<|.sq<|.sr<|.mv Z<|.yw (.lenSl Fx.sl195 Z)<|.mv Z<|.nt<|.bk<|.lp (X:=Nat) [(0,_),(8,_),(9,_)] ⟨rfl,rfl,rfl,trivial⟩ (_::bs) (fun k=>[(10,.int .i64 (k:Nat))]) (fun k=>H) (fun k=>[]) (fun k=>k≤L.length∧∀ i,i<k→∀ x,L[i]? = some x→ac x.1 q=false) (fun k=>L.length - k) 0 (fun _ s=>s) ⟨rfl,trivial⟩ ⟨Nat.zero_le _,fun i hi=>by omega⟩ fun k hC=>?_
 obtain ⟨hk0,hno⟩:=hC;refine .sr<|.yw (.lss Z Z)<|.nt<|.sq<|.cd Z (fun h11=>?_) (fun h11=>?_)
 ·try simp only [dt] at h11
  have hk:k<L.length:=by omega
  obtain ⟨bE,oE,cE,hpE,rE,lE,mE⟩:=hs.elem (bB (f:=dSy) hk);cases hpE;have hw:=hL L[k] (List.getElem_mem hk);obtain rfl:=QD rE;refine .sk<|.tN<|.sq<|.bk<|.sr<|.yw (.indexSl Fx.sl195 Z Z Z (by omega) (q:=oE+k * 2) Z)<|.yw (.loadMW Z Fx.agg125 mE Z)<|.al Fx.zero125 Z fun b7=>.sW .head Z Z Fx.size125 (by simp [Value.oneCell',aB]) Z<|.ns<|.mv Z<|.yw (.fieldAddr Z Fx.field125_0)<|.yw (.load Z Fx.agg9 (.head _) Z)<|.cs (X:=Unit) Fx.call72 Z (fun W s=>bM K hq L[k].1 hw (s.p2_2 [1,0] Z)) Z fun _ _=>.nt<|.cd Z (fun h17=>?_) (fun h17=>?_)
  ·rw [fJ h17];have hf:=MT hk hno h17;rw [show opZ L q=q.tl by unfold opZ;rw [hf];rfl];refine .sr<|.yw (.fieldAddr Z Fx.field125_1)<|.yw (.load Z Fx.agg24 aW Z)<|.a Z Z<|.a Z Z<|.nt<|.rt<|.bR<|.tR<|.tR<|.bR<|.tR<|?_
   refine Sx.retN (.inl rfl) rfl (.cons (.tmp rfl) (.cons (.tmp rfl) .nil)) rfl fun W s=>⟨(),trivial,(by rw [hf];rfl),?_⟩;exact s.p2_1 [0] rfl
  rw [fK h17]
  exact .sk<|.bN<|.tN<|.rg<|.yw (.add Z Z (w6 (by omega)))<|.mv Z<|.nt<|.ag (k+1) ⟨rfl,trivial⟩ ⟨rfl,rfl,rfl,trivial⟩ (fun _ s=>(s.p2_1 [0] Z)) ⟨by omega,fun i hi x hx=>by
   by_cases hik:i=k
   ·subst hik;rw [List.getElem?_eq_getElem hk] at hx;cases hx;exact h17
   ·exact hno i (by omega) x hx⟩ (by omega)
 try simp only [df] at h11
 obtain rfl:k=L.length:=by omega
 have hn:=MS hno;rw [show opZ L q=q by unfold opZ;rw [hn];rfl];refine .ex<|.tE<|.tE<|.bE<|.tN<|.sr<|.a Z Z<|.a Z Z<|.nt<|.rt<|?_
 refine Sx.retN (.inl rfl) rfl (.cons (.tmp rfl) (.cons (.tmp rfl) .nil)) rfl fun W s=>⟨(),trivial,(by rw [hn];rfl),?_⟩;exact s.p1_1 [0] rfl
theorem zQ (v:Value) (W:World):(callFunc 150 [v].toArray).run Tryz.prog W=.ok (.value v) W:=by
 rw [run_callFunc_extern Tryz.func150 (by kernel_rfl) (by kernel_rfl) (by kernel_rfl) (e:=Extern.AbiNoEscape.same) (by kernel_rfl)];rw [show ([v].toArray:Array Value)=#[v] from rfl,Lib.run_noEscape]
 rfl
theorem rJ {H:Hp} {w0 W:World} {bs:List Res} {b:Nat} {a:Option Addr} {r i:Value} (s:St H w0 (.box b [.pointer a,r,i] 117::bs) W) (ha:a=none∨a=some ⟨b,0,none⟩) :
 Calls Tryz.prog 126 #[.pointer (some ⟨b,0,none⟩)] W fun e W'=>∃ _:Unit,True∧e=.returned (.tuple #[])∧St H w0 (.box b [.pointer (some ⟨b,0,none⟩),r,i] 117::bs) W':=by
 rcases ha with rfl | rfl
 ·refine Sx.enterS Tryz.func126 rfl Tryz.ntmps126 rfl s ?_;refine .sr<|.mv Z<|.yw (.nilCheck Z)<|.yw (.fieldAddr Z Fx.field115_0)<|.yw (.load Z Fx.agg113 (.head _) Z)<|.yw (.eqPn Fx.ptr113 Z Z)<|.nt<|.cT Z<|.rg<|.mv Z<|.mv Z<|.yw (.toU (m:=1) Fx.pts113 Fx.uns247 (.head _) (nb Z) Z)<|.yw (.ext Z (fun W=>zQ _ W))<|.yw (.fromU Fx.uns247 Fx.pts113 (.head _) (by kernel_rfl) Z)<|.yw (.nilCheck Z)<|.yw (.fieldAddr Z Fx.field115_0)<|.st .head Z Z Fx.size113 Z (nb Z) Z<|.nl<|?_
  exact Sx.retN (.inr rfl) rfl .nil rfl fun W s=>⟨(),trivial,rfl,s⟩
 ·refine Sx.enterS Tryz.func126 rfl Tryz.ntmps126 rfl s ?_;refine .sr<|.mv Z<|.yw (.nilCheck Z)<|.yw (.fieldAddr Z Fx.field115_0)<|.yw (.load Z Fx.agg113 (.head _) Z)<|.yw (.eqPn Fx.ptr113 Z Z)<|.nt<|.cF Z<|.sr<|.mv Z<|.yw (.nilCheck Z)<|.yw (.fieldAddr Z Fx.field115_0)<|.yw (.load Z Fx.agg113 (.head _) Z)<|.mv Z<|.yw (.neqP Fx.ptr113 Z Z)<|.nt<|.cF Z<|.sk<|?_
  exact Sx.retN (.inr rfl) rfl .nil rfl fun W s=>⟨(),trivial,rfl,s⟩
theorem nH {H:Hp} {w0 W:World} {bs:List Res} {b:Nat} {a:Option Addr} {r i:Value} {l:Str} (t:Str) (s:St H w0 (.box b [.pointer a,r,i] 117::.row 5 1 r l.length (l.map dI)::bs) W) (ha:a=none∨a=some ⟨b,0,none⟩) (hl:l.length+t.length≤140737488355328) :
 Calls Tryz.prog 83 #[.pointer (some ⟨b,0,none⟩),aB t] W fun e W'=>∃ r',True∧e=.returned (.tuple #[.int .i64 (t.length:Nat),.nilIface])∧St H w0 (.box b [.pointer (some ⟨b,0,none⟩),r',i] 117::.row 5 1 r' (l++t).length ((l++t).map dI)::bs) W':=by
 refine Sx.enterS Tryz.func83 rfl Tryz.ntmps83 rfl s ?_;refine .sr<|.a Z Z<|.a Z Z<|.ns<|.mv Z<|.cs (X:=Unit) Fx.call126 Z (fun W s=>rJ s ha) Z fun _ _=>.ns<|.mv Z<|.mv Z<|.yw (.nilCheck Z)<|.yw (.fieldAddr Z Fx.field115_1)<|.yw (.load Z Fx.agg40 (.head _) Z)<|.mv Z<|.as (s0:=t) Fx.byt40 Fx.str9 Z (fun _=>.tail .head) Z (by omega) Z fun r2=>?_
 refine .ra (.tail _ (.head _)) fun p2 c2 e2=>?_;subst e2;refine .yw (.nilCheck Z)<|.yw (.fieldAddr Z Fx.field115_1)<|.st .head Z Z Fx.size40 Z (nb Z) Z<|.ns<|.mv Z<|.yw (.lenS Fx.str9 Z)<|.a Z Z<|.a Z Z<|.nt<|.rt<|?_
 exact Sx.retN (.inl rfl) rfl (.cons (.tmp rfl) (.cons (.tmp rfl) .nil)) rfl fun W s=>⟨_,trivial,rfl,by simpa using s⟩
theorem yS {H:Hp} {w0 W:World} {bs:List Res} {b:Nat} {a:Option Addr} {r i:Value} {l:Str} (c:UInt8) (s:St H w0 (.box b [.pointer a,r,i] 117::.row 5 1 r l.length (l.map dI)::bs) W) (ha:a=none∨a=some ⟨b,0,none⟩) (hl:l.length+1≤140737488355328) :
 Calls Tryz.prog 84 #[.pointer (some ⟨b,0,none⟩),dI c] W fun e W'=>∃ r',True∧e=.returned .nilIface∧St H w0 (.box b [.pointer (some ⟨b,0,none⟩),r',i] 117::.row 5 1 r' (l++[c]).length ((l++[c]).map dI)::bs) W':=by
 refine Sx.enterS Tryz.func84 rfl Tryz.ntmps84 rfl s ?_;refine .sr<|.a Z Z<|.ns<|.mv Z<|.cs (X:=Unit) Fx.call126 Z (fun W s=>rJ s ha) Z fun _ _=>.ns<|.mv Z<|.mv Z<|.yw (.nilCheck Z)<|.yw (.fieldAddr Z Fx.field115_1)<|.yw (.load Z Fx.agg40 (.head _) Z)<|.mv Z<|.bl Z (Fx.bsl40_1 _) Z fun b13=>.ap (news:=[dI c]) Fx.row40 Z (fun _=>.tail (.tail .head)) Z (.box (.head _) z0) Z (by simp [dI,Value.oneCell']) (by simp [maxLen];omega) (by omega) Z fun r2 _=>?_
 refine .ra (.tail _ (.tail _ (.head _))) fun p2 c2 e2=>?_;subst e2;refine .yw (.nilCheck Z)<|.yw (.fieldAddr Z Fx.field115_1)<|.st bQ Z Z Fx.size40 Z (nb Z) Z<|.ns<|.a Z Z<|.nt<|.rt<|?_
 exact Sx.ret1 (.inl rfl) rfl (.tmp rfl) fun W s=>⟨_,trivial,rfl,by simpa using s.drop⟩
theorem IU {H:Hp} {w0 W:World} {bs:List Res} {b g c:Nat} {a:Option Addr} {i:Value} {l:Str} (s:St H w0 (.box b [.pointer a,.slice (some ⟨g,0,none⟩) l.length c,i] 117::.row 5 1 (.slice (some ⟨g,0,none⟩) l.length c) l.length (l.map dI)::bs) W) (h0:l≠[]) (hc:l.length≤c) (hl:l.length≤140737488355328) :
 Calls Tryz.prog 47 #[.pointer (some ⟨b,0,none⟩)] W fun e W'=>∃ _:Unit,True∧e=.returned (aB l)∧St H w0 [] W':=by
 have hl0:0<l.length:=List.length_pos_iff.2 h0;refine Sx.enterS Tryz.func47 rfl Tryz.ntmps47 rfl s ?_;refine .sr<|.a Z Z<|.nt<|.sq<|.fL 10 [(0,0),(1,0),(2,0),(3,0),(4,0),(5,0),(6,0),(7,0),(8,0),(9,0)]<|.mv Z<|.yw (.nilCheck Z)<|.yw (.fieldAddr Z Fx.field115_1)<|.yw (.load Z Fx.agg40 (.head _) Z)<|.yw (.sliceData (by omega) Z)<|.mv Z<|.yw (.nilCheck Z)<|.yw (.fieldAddr Z Fx.field115_1)<|.yw (.load Z Fx.agg40 (.head _) Z)<|.yw (.lenSl Fx.sl40 Z)<|.fn (tl:=[_,_]) Z<|.us Fx.pts194 (by kernel_rfl) (.tail _ (.head _)) h0 (by omega) Z Z Z Z<|.a Z Z<|.nt<|.rt<|?_
 exact Sx.ret1 (.inl rfl) rfl (.tmp rfl) fun W s=>⟨(),trivial,rfl,s⟩
theorem RF {H:Hp} {w0 W:World} {bs:List Res} {b bp:Nat} {a:Option Addr} {r:Value} {ind:Nat} {l:Str} {parts:List Str} (s:St H w0 (.box b [.pointer a,r,.int .i64 (ind:Nat)] 117::.row 5 1 r l.length (l.map dI)::.box bp (parts.map aB) 9::bs) W) (ha:a=none∨a=some ⟨b,0,none⟩) (hp:parts.length≤1000) (hl:l.length+2 * ind+parts.flatten.length+1≤100000000000000) :
 Calls Tryz.prog 43 #[.pointer (some ⟨b,0,none⟩),.slice (some ⟨bp,0,none⟩) parts.length parts.length] W fun e W'=>∃ r',True∧e=.returned (.tuple #[])∧St H w0 (.box b [.pointer (some ⟨b,0,none⟩),r',.int .i64 (ind:Nat)] 117::.row 5 1 r' (l++cY ind parts).length ((l++cY ind parts).map dI)::.box bp (parts.map aB) 9::bs) W':=by
 refine Sx.enterS Tryz.func43 rfl Tryz.ntmps43 rfl s ?_;refine .sq<|.sr<|.mv Z<|.yw (.nilCheck Z)<|.yw (.fieldAddr Z Fx.field117_1)<|.yw (.load Z Fx.agg3 (.head _) Z)<|.mv Z<|.nt<|.bk<|.lp (X:=Nat × Option Addr × Value) [(0,_),(1,_),(9,_)] ⟨rfl,rfl,rfl,trivial⟩ (.box bp (parts.map aB) 9::bs) (fun z=>[(10,.int .i64 (z.1:Nat))]) (fun z=>H) (fun z=>[.box b [.pointer z.2.1,z.2.2,.int .i64 (ind:Nat)] 117,.row 5 1 z.2.2 (l++spT z.1).length ((l++spT z.1).map dI)]) (fun z=>z.1≤ind∧(z.2.1=none∨z.2.1=some ⟨b,0,none⟩)) (fun z=>ind - z.1) (0,a,r) (fun _ s=>by simpa [spT] using s) ⟨rfl,trivial⟩ ⟨by simp,ha⟩ fun z hC=>?_
 obtain ⟨k,a,r⟩:=z;dsimp only at hC ⊢;obtain ⟨hk,ha⟩:=hC;have hsk:=zC k;have hsi:=zC ind;refine .sr<|.yw (.lss Z Z)<|.nt<|.sq<|.cd Z (fun h11=>?_) (fun h11=>?_)
 ·try simp only [dt] at h11
  exact .sk<|.tN<|.sq<|.bk<|.rg<|.mv Z<|.yw (.nilCheck Z)<|.yw (.fieldAddr Z Fx.field117_0)<|.cs (X:=Value) Fx.call83 Z (fun W s=>nH [32,32] s ha (by simp only [List.length_append,List.length_cons,List.length_nil];omega)) Z fun r2 _=>.nl<|.bN<|.tN<|.rg<|.yw (.add Z Z (w6 (by omega)))<|.mv Z<|.nt<|.ag (x:=(k,a,r)) (k+1,some ⟨b,0,none⟩,r2) ⟨rfl,trivial⟩ ⟨rfl,rfl,rfl,trivial⟩ (fun _ s=>by simpa [spT] using s) ⟨by dsimp only;omega,.inr Z⟩ (by dsimp only;omega)
 try simp only [df] at h11
 obtain rfl:k=ind:=by omega
 refine .ex<|.tE<|.tE<|.bE<|.tN<|.sq<|.sr<|.mv Z<|.yw (.lenSl Fx.sl52 Z)<|.mv Z<|.nt<|.bk<|.lp (X:=Nat × Option Addr × Value) [(0,_),(17,_),(18,_)] ⟨rfl,rfl,rfl,trivial⟩ (.box bp (parts.map aB) 9::bs) (fun z=>[(19,.int .i64 (z.1:Nat))]) (fun z=>H) (fun z=>[.box b [.pointer z.2.1,z.2.2,.int .i64 (k:Nat)] 117,.row 5 1 z.2.2 (l++spT k++(parts.take z.1).flatten).length ((l++spT k++(parts.take z.1).flatten).map dI)]) (fun z=>z.1≤parts.length∧(z.2.1=none∨z.2.1=some ⟨b,0,none⟩)) (fun z=>parts.length - z.1) (0,a,r) (fun _ s=>by simpa using s) ⟨rfl,trivial⟩ ⟨by simp,ha⟩ fun z hC=>?_
 obtain ⟨j,a,r⟩:=z;dsimp only at hC ⊢;obtain ⟨hj,ha⟩:=hC;have hfl:=lR parts j;refine .sr<|.yw (.lss Z Z)<|.nt<|.sq<|.cd Z (fun h20=>?_) (fun h20=>?_)
 ·try simp only [dt] at h20
  have hjl:j<parts.length:=by omega
  have hf2:=lR parts (j+1);rw [yA hjl,List.length_append] at hf2;exact .sk<|.tN<|.sq<|.bk<|.sr<|.yw (.indexSl Fx.sl52 Z Z Z (by omega) (q:=j) (by omega))<|.yw (.load (v:=aB parts[j]) Z Fx.agg9 cC (by rw [List.getElem?_map,List.getElem?_eq_getElem hjl];rfl))<|.a Z Z<|.nt<|.rg<|.mv Z<|.yw (.nilCheck Z)<|.yw (.fieldAddr Z Fx.field117_0)<|.mv Z<|.cs (X:=Value) Fx.call83 Z (fun W s=>nH parts[j] s ha (by simp only [List.length_append,List.length_cons,List.length_nil];omega)) Z fun r3 _=>.nl<|.bN<|.tN<|.rg<|.yw (.add Z Z (w6 (by omega)))<|.mv Z<|.nt<|.ag (x:=(j,a,r)) (j+1,some ⟨b,0,none⟩,r3) ⟨rfl,trivial⟩ ⟨rfl,rfl,rfl,trivial⟩ (fun _ s=>by dsimp only;rw [yA hjl];simpa using s) ⟨by dsimp only;omega,.inr Z⟩ (by dsimp only;omega)
 try simp only [df] at h20
 obtain rfl:j=parts.length:=by omega
 rw [List.take_length];refine .ex<|.tE<|.tE<|.bE<|.tN<|.rg<|.mv Z<|.yw (.nilCheck Z)<|.yw (.fieldAddr Z Fx.field117_0)<|.cs (X:=Value) Fx.call84 Z (fun W s=>yS 10 s ha (by simp only [List.length_append,List.length_cons,List.length_nil];omega)) Z fun r4 _=>.nl<|?_
 exact Sx.retN (.inr rfl) rfl .nil rfl fun W s=>⟨_,trivial,rfl,by simpa [cY] using s⟩
theorem dR (n:Nat) (l:List Str):(cY n l).length=2 * n+l.flatten.length+1:=by simp only [cY,List.length_append,zC,List.length_cons,List.length_nil]
theorem eC {H:Hp} {w0 W:World} {bs:List Res} {b:Nat} {a:Option Addr} {r:Value} {ind:Nat} {t:Str} {bp:Nat} {parts:List Str} (ha:(a=none∨a=some ⟨b,0,none⟩)) (hp:parts.length≤1000) (hl:t.length+(cY ind parts).length≤100000000000000) (s:St H w0 (.box b [.pointer a,r,.int .i64 (ind:Nat)] 117::.row 5 1 r (t).length ((t).map dI)::.box bp (parts.map aB) 9::bs) W) :
 Calls Tryz.prog 43 #[.pointer (some ⟨b,0,none⟩),.slice (some ⟨bp,0,none⟩) parts.length parts.length] W fun e W'=>∃ r',True∧e=.returned (.tuple #[])∧St H w0 (.box b [.pointer (some ⟨b,0,none⟩),r',.int .i64 (ind:Nat)] 117::.row 5 1 r' (t++cY ind parts).length ((t++cY ind parts).map dI)::.box bp (parts.map aB) 9::bs) W' :=
 RF s ha hp (by rw [dR] at hl;omega)
theorem EX (W:World) (b o c:Nat) (xs:List Str) (h:∀ (j:Nat) x,xs[j]? = some x→W.cell? ⟨b,o+j,none⟩=some (aB x)) (hb:b<W.heap.size) (hN:xs.length≤140737488355328) (hc:xs.length≤c) (hl:(iK xs).length≤140737488355328) :
 Calls Tryz.prog 128 #[.slice (some ⟨b,o,none⟩) xs.length c,aB [44,32]] W fun e w'=>e=.returned (aB (iK xs))∧Ext W w':=by
 have e1:((xs.map fun l=>(⟨l.toArray⟩:ByteArray)).map (·.data.toList))=xs:=by simp [Function.comp_def]
 have h2:=Tryz.strings_Join b o c (xs.map fun l=>(⟨l.toArray⟩:ByteArray)) ⟨#[44,32]⟩ W (fun j x e=>by
  rw [List.getElem?_map] at e;cases e2:xs[j]? with
  | none=>rw [e2] at e;cases e
  | some y=>rw [e2] at e;cases e;exact h j y e2) hb (by simpa using hN) (by simpa using hc) (by rw [e1];exact hl)
 rw [e1,List.length_map] at h2;exact h2.mono fun e w' ⟨a,k⟩=>⟨a,Ext.of_below k⟩
theorem NT {H:Hp} {w0 W:World} {bs:List Res} {b:Nat} {T:TypeId} (xs:List Str) {n:Nat} (hn:xs.length=n) (s:St H w0 bs W) (hm:Res.box b (xs.map aB) T∈bs) (hN:xs.length≤1000) (hl:(iK xs).length≤140737488355328) :
 Calls Tryz.prog 128 #[.slice (some ⟨b,0,none⟩) n n,aB [44,32]] W fun e w'=>e=.returned (aB (iK xs))∧Ext W w':=by
 subst hn;exact EX W b 0 xs.length xs (fun j x e=>(s.cell hm (by rw [Nat.zero_add,List.getElem?_map,e];rfl)).1) ((s.own _ hm).1.lt rfl).2 (by omega) (Nat.le_refl _) hl
theorem KD {H:Hp} {w0 W:World} {bs:List Res} {b:Nat} {T:TypeId} (xs:List Str) {n:Nat} (hn:xs.length=n) (s:St H w0 bs W) (hm:Res.box b (xs.map aB) T∈bs) (hN:xs.length≤1000) (hl:(iK (xs.drop 1)).length≤140737488355328) :
 Calls Tryz.prog 128 #[.slice (some (if n=1 then ⟨b,0,none⟩ else ⟨b,0+1 * 1,none⟩)) (n - 1) (n - 1),aB [44,32]] W fun e w'=>e=.returned (aB (iK (xs.drop 1)))∧Ext W w':=by
 subst hn;have e:(some (if xs.length=1 then (⟨b,0,none⟩:Addr) else ⟨b,0+1 * 1,none⟩))=some ⟨b,if xs.length=1 then 0 else 1,none⟩:=by split <;> rfl
 have h:=EX W b (if xs.length=1 then 0 else 1) (xs.length - 1) (xs.drop 1) (fun j x e=>(s.cell hm (by
  rw [List.getElem?_drop] at e;have h1:1+j<xs.length:=(List.getElem?_eq_some_iff.1 e).1;rw [if_neg (by omega),List.getElem?_map,e];rfl)).1) ((s.own _ hm).1.lt rfl).2 (by simp;omega) (by simp) hl
 rw [List.length_drop] at h;rw [e];exact h
theorem jM {es:List Str} {i:Nat} (h:i<es.length):(es.map aB)[i]? = some (aB (es.getD i [])):=by simp [h]
def AZ (H:Hp) (x:List Sm):Prop:=∀ (p:Option Addr) (n c:Nat) (w0 W:World) (bs:List Res) (b:Nat) (a:Option Addr) (r:Value) (ind:Nat) (t:Str),Rep H (.seq 6 (x.map (dSm .u8))) [.slice p n c]→Sm.alls IL x=true→(a=none∨a=some ⟨b,0,none⟩)→t.length+(Sm.texts (ind+1) x).length≤10000000000000→ind≤10000000000000→St H w0 (.box b [.pointer a,r,.int .i64 (ind:Nat)] 117::.row 5 1 r (t).length ((t).map dI)::bs) W →
 Calls Tryz.prog 129 #[.pointer (some ⟨b,0,none⟩),.slice p n c] W fun e W'=>∃ z:Option Addr × Value,(z.1=none∨z.1=some ⟨b,0,none⟩)∧e=.returned (.tuple #[])∧St H w0 (.box b [.pointer z.1,z.2,.int .i64 (ind:Nat)] 117::.row 5 1 z.2 (t++Sm.texts (ind+1) x).length ((t++Sm.texts (ind+1) x).map dI)::bs) W'
def WZ (H:Hp) (x:Sm):Prop:=∀ (cs:List Value) (w0 W:World) (bs:List Res) (b:Nat) (a:Option Addr) (r:Value) (ind:Nat) (t:Str),Rep H (dSm .u8 x) cs→Sm.all IL x=true→(a=none∨a=some ⟨b,0,none⟩)→t.length+(Sm.text ind x).length≤10000000000000→ind≤10000000000001→St H w0 (.box b [.pointer a,r,.int .i64 (ind:Nat)] 117::.row 5 1 r (t).length ((t).map dI)::bs) W →
 Calls Tryz.prog 156 #[.pointer (some ⟨b,0,none⟩),.agg cs.toArray] W fun e W'=>∃ z:Option Addr × Value,(z.1=none∨z.1=some ⟨b,0,none⟩)∧e=.returned (.tuple #[])∧St H w0 (.box b [.pointer z.1,z.2,.int .i64 (ind:Nat)] 117::.row 5 1 z.2 (t++Sm.text ind x).length ((t++Sm.text ind x).map dI)::bs) W'
theorem DN (H:Hp) (el:List Sm) (hel:AZ H el) (first:Str) (p:Option Addr) (c:Nat) (w0 W:World) (bs:List Res) (b:Nat) (a:Option Addr) (r:Value) (ind:Nat) (t:Str) (hs:Rep H (.seq 6 (el.map (dSm .u8))) [.slice p el.length c]) (hf:Sm.alls IL el=true) (ha:(a=none∨a=some ⟨b,0,none⟩)) (hl:t.length+(jR ind first (decide (el.length=0)) (Sm.texts (ind+1) el)).length≤10000000000000) (hi:ind≤10000000000000) (s:St H w0 (.box b [.pointer a,r,.int .i64 (ind:Nat)] 117::.row 5 1 r (t).length ((t).map dI)::bs) W) :
 Calls Tryz.prog 171 #[.pointer (some ⟨b,0,none⟩),aB first,.slice p el.length c] W fun e W'=>∃ z:Option Addr × Value,(z.1=none∨z.1=some ⟨b,0,none⟩)∧e=.returned (.tuple #[])∧St H w0 (.box b [.pointer z.1,z.2,.int .i64 (ind:Nat)] 117::.row 5 1 z.2 (t++jR ind first (decide (el.length=0)) (Sm.texts (ind+1) el)).length ((t++jR ind first (decide (el.length=0)) (Sm.texts (ind+1) el)).map dI)::bs) W':=by
 have hcap:=hs.cap;refine Sx.enterS Tryz.func171 rfl Tryz.ntmps171 rfl s ?_;refine .sq<|.sr<|.mv Z<|.yw (.lenSl Fx.sl159 Z)<|.yw (.eql Z Z)<|.nt<|.cd Z (fun h8=>?_) (fun h8=>?_)
 ·try simp only [dt] at h8
  have q:el.length=0:=by omega
  rw [jR,if_pos (by simpa using q)] at hl;refine .sr<|.mv Z<|.mv Z<|.bl Z (Fx.bsl52_2 _ _) Z fun b11=>.cs (X:=Value) Fx.call43 Z (fun W s=>eC (parts:=[first,[59]]) ha (nb Z) (by (try simp only [List.length_append]);omega) (s.p3_3 [1,2,0] Z)) Z fun r12 _=>.nt<|.rt<|.tR<|?_
  exact Sx.retN (.inl rfl) rfl .nil rfl fun W s=>⟨(_,_),(.inr rfl),rfl,by have s2:=(s.p3_2 [0,1] rfl);(first | rw [jR,if_pos (by simpa using q)] | rw [jR,if_neg (by simpa using q)]);(try simp only [List.append_assoc] at s2 ⊢);(try simp only [List.cons_append] at s2 ⊢);(try simp only [List.nil_append] at s2 ⊢);(try simp only [List.append_nil] at s2 ⊢);exact s2⟩
 try simp only [df] at h8
 have q:¬ el.length=0:=by omega
 rw [jR,if_neg (by simpa using q)] at hl;simp only [List.length_append] at hl;have hq:=dR ind [[125]];refine .sk<|.tN<|.sr<|.mv Z<|.mv Z<|.bl Z (Fx.bsl52_2 _ _) Z fun b15=>.cs (X:=Value) Fx.call43 Z (fun W s=>eC (parts:=[first,[32,101,108,115,101,32,123]]) ha (nb Z) (by (try simp only [List.length_append]);omega) (s.p3_3 [1,2,0] Z)) Z fun r16 _=>.ns<|.mv Z<|.mv Z<|.cs (X:=Option Addr × Value) Fx.call129 Z (fun W s=>hel _ _ _ _ _ _ _ _ _ _ _ hs hf (.inr Z) (by (try simp only [List.length_append]);omega) (by omega) (s.p3_2 [0,1] Z)) Z fun z19 hz19=>.nt<|.rg<|.mv Z<|.bl Z (Fx.bsl52_1 _) Z fun b21=>.cs (X:=Value) Fx.call43 Z (fun W s=>eC (parts:=[[125]]) hz19 (nb Z) (by (try simp only [List.length_append]);omega) (s.p3_3 [1,2,0] Z)) Z fun r22 _=>.nl<|?_
 exact Sx.retN (.inr rfl) rfl .nil rfl fun W s=>⟨(_,_),(.inr rfl),rfl,by have s2:=(s.p3_2 [0,1] rfl);(first | rw [jR,if_pos (by simpa using q)] | rw [jR,if_neg (by simpa using q)]);(try simp only [List.append_assoc] at s2 ⊢);(try simp only [List.cons_append] at s2 ⊢);(try simp only [List.nil_append] at s2 ⊢);(try simp only [List.append_nil] at s2 ⊢);exact s2⟩
theorem MD {A:List Str} {n k:Nat} (hn:A.length=n) (hk:k<n) (v:Value) (hv:v=aB A[k]):((A.take k).map aB++List.replicate (n - k) (aB [])).set k v=(A.take (k+1)).map aB++List.replicate (n - (k+1)) (aB []):=by
 have e1:((A.take k).map aB).length=k:=by rw [List.length_map,List.length_take];omega
 rw [List.set_append_right _ _ (by rw [e1];exact Nat.le_refl _),e1,Nat.sub_self];obtain ⟨m,hm⟩:∃ m,n - k=m+1:=⟨n - k - 1,by omega⟩;rw [hm,List.replicate_succ,List.set_cons_zero,bK (by omega),List.map_append,show n - (k+1)=m by omega,hv];simp
theorem OE (A:List Str) (n:Nat) (hn:A.length=n):(A.take n).map aB++List.replicate (n - n) (aB [])=A.map aB:=by
 rw [← hn,List.take_length,Nat.sub_self,List.replicate_zero,List.append_nil]
theorem yD (n:Nat) (first:Str) (q:Bool) (E:Str):first.length≤(jR n first q E).length∧2 * n≤(jR n first q E).length:=by
 unfold jR;have h1:=dR n [first,[59]];have h2:=dR n [first,[32,101,108,115,101,32,123]];simp only [List.flatten_cons,List.length_append] at h1 h2
 split <;> (try simp only [List.length_append]) <;> omega
theorem AH {kd:UInt8} {nm hd:Str} {ex:List Ex} {th el:List Sm} (h:jY (.mk kd nm hd ex th el)=true):gT kd=true∧(aT kd).lo≤ex.length∧ex.length≤(aT kd).hi∧Ex.alls dO ex=true:=by
 simp only [jY,Bool.and_eq_true,decide_eq_true_eq] at h;exact ⟨h.1.1.1.1.1.1.1,h.1.1.1.1.1.1.2,h.1.1.1.1.1.2,h.2⟩
theorem HR (kd:UInt8):(aT kd).hi≤5:=by
 unfold aT
 split
 ·rename_i h;simp only [gT,Bool.and_eq_true,decide_eq_true_eq] at h;have key:∀ i∈List.range 11,(forms.getD i ⟨false,false,0,0,false,false⟩).hi≤5:=by decide
  exact key _ (List.mem_range.2 (by omega))
 ·simp
theorem wR (H:Hp) (G:Gl H) (g:Gt H) (x:Sm) (hth:AZ H x.th) (hel:AZ H x.el):WZ H x:=by
 obtain ⟨kd,nm,hd,ex,th,el⟩:=x;intro cs w0 W bs b a r ind t h hf ha hl hi s;simp only [Sm.th,Sm.el] at hth hel;obtain ⟨p,c,p1,c1,p2,c2,rfl,hs,hs1,hs2,hn1,hn2⟩:=jA h;rw [eU,Bool.and_eq_true,Bool.and_eq_true] at hf;obtain ⟨⟨hf1,hf2⟩,hf3⟩:=hf;rw [IL,Bool.and_eq_true] at hf1;obtain ⟨hfr0,hok2⟩:=hf1;have hfr:=AH hfr0;have hhi:=HR kd;obtain ⟨hokd,_,_,hfx⟩:=id hfr;have hx5:ex.length≤5:=by omega
 have hcap:=hs.cap;have hcap1:=hs1.cap;have hcap2:=hs2.cap;rw [aD] at hl;refine Sx.enterS Tryz.func156 rfl Tryz.ntmps156 rfl s ?_;refine .sr<|.bx Z Z Z fun b3=>.ns<|.yw (.fieldAddr Z Fx.field208_3)<|.yw (.load Z Fx.agg25 (.head _) Z)<|.yw (.lenSl Fx.sl25 Z)<|.mk Fx.row52 Fx.zero9 Z Z Z Z (by omega) (by omega) Z fun b10=>.a Z Z<|.nt<|.sq<|.sr<|.yw (.fieldAddr Z Fx.field208_3)<|.yw (.load Z Fx.agg25 aW Z)<|.yw (.lenSl Fx.sl25 Z)<|.mv Z<|.nt<|.bk<|.lp (X:=Nat) [(0,_),(3,_),(4,_),(12,_),(13,_)] ⟨rfl,rfl,rfl,rfl,rfl,trivial⟩ (_::_::_::bs) (fun k=>[(14,.int .i64 (k:Nat))]) (fun k=>H) (fun k=>[.box b10 (((ex.map Ex.text).take k).map aB++List.replicate (ex.length - k) (aB [])) 9]) (fun k=>k≤ex.length) (fun k=>ex.length - k) 0 (fun _ s=>s) ⟨rfl,trivial⟩ (by omega) fun k hC=>?_
 refine .sr<|.yw (.lss Z Z)<|.nt<|.sq<|.cd Z (fun h15=>?_) (fun h15=>?_)
 ·try simp only [dt] at h15
  have hk:k<ex.length:=by omega
  obtain ⟨bE,oE,cE,hpE,rE,lE,mE⟩:=hs.elem (bB hk);cases hpE;have hd1:=lH hk hok2;simp only [decide_eq_true_eq] at hd1;have hf1:=mM hk hfx;exact .sk<|.tN<|.sq<|.bk<|.sr<|.mv Z<|.yw (.indexSl Fx.sl25 Z Z Z (by omega) (q:=oE+k * 4) Z)<|.yw (.loadMW Z Fx.agg27 mE lE)<|.al Fx.zero27 Z fun b6=>.a Z Z<|.sV .head Z Z Fx.size27 lE rE.one Z<|.nt<|.rg<|.mv Z<|.mv Z<|.yw (.loadW Z Fx.agg27 (.head _) lE)<|.yw (.call Fx.call170 Z (fun W s=>LR H G g _ cE W rE hf1 hd1 s.agr))<|.yw (.indexSl Fx.sl52 Z Z Z (by omega) (q:=k) (by omega))<|.st bQ Z Z Fx.size9 Z (by simp;omega) (MD (by simp) hk _ (by simp))<|.nl<|.bN<|.tN<|.rg<|.yw (.add Z Z (w6 (by omega)))<|.mv Z<|.nt<|.ag (k+1) ⟨rfl,trivial⟩ ⟨rfl,rfl,rfl,rfl,rfl,trivial⟩ (fun _ s=>s.drop) (by omega) (by omega)
 try simp only [df] at h15
 obtain rfl:k=ex.length:=by omega
 rw [OE (ex.map Ex.text) ex.length (by simp)];refine .ex<|.tE<|.tE<|.bE<|.tN<|.sr<|.yw (.fieldAddr Z Fx.field208_0)<|.yw (.load Z Fx.agg206 aW Z)<|.nt<|.bk<|.sr<|.yw (.eql Z Z)<|.a Z Z<|.nt<|.cd Z (fun h27=>?_) (fun h27=>?_)
 ·try simp only [dt] at h27
  have e1:kd=1:=UInt8.toNat_inj.1 (by show kd.toNat=1;omega);have hlo:1≤ex.length:=by have h5:=hfr.2.1;rw [e1] at h5;exact Nat.le_trans (by decide) h5
  rw [stT,if_pos e1] at hl;try simp only [List.length_append] at hl
  refine .fL 7 [(0,0),(1,0),(2,0),(3,0),(4,0),(5,0),(6,1)]<|.mv Z<|.yw (.fieldAddr Z Fx.field208_1)<|.yw (.load Z Fx.agg9 aW Z)<|.mv Z<|.yw (.indexSl Fx.sl52 Z Z (i:=0) Z (by omega) (q:=0) Z)<|.yw (.load (v:=aB ((ex.map Ex.text).getD 0 [])) Z Fx.agg9 (.head _) (jM (by rw [List.length_map];omega)))<|.bl Z (Fx.bsl52_4 _ _ _ _) Z fun b35=>.fn (tl:=[_]) Z<|.cs (X:=Value) Fx.call43 Z (fun W s=>eC (parts:=[nm,[32,61,32],(ex.map Ex.text).getD 0 [],[59]]) ha (nb Z) (by (try simp only [List.length_append]);omega) (s.p5_5 [3,4,0,1,2] Z)) Z fun r36 _=>.nl<|.bN<|?_
  exact Sx.retN (.inr rfl) rfl .nil rfl fun W s=>⟨(_,_),(.inr rfl),rfl,by have s2:=(s.p5_2 [0,1] rfl);(first | rw [aD,stT,if_pos e1] | rw [aD,stT,if_neg n1,if_pos e2] | rw [aD,stT,if_neg n1,if_neg n2,if_pos e3] | rw [aD,stT,if_neg n1,if_neg n2,if_neg n3,if_pos e4,if_neg (by simpa using q)] | rw [aD,stT,if_neg n1,if_neg n2,if_neg n3,if_pos e4,if_pos (by simpa using q)] | rw [aD,stT,if_neg n1,if_neg n2,if_neg n3,if_neg n4,if_pos e5] | rw [aD,stT,if_neg n1,if_neg n2,if_neg n3,if_neg n4,if_neg n5,if_pos e6] | rw [aD,stT,if_neg n1,if_neg n2,if_neg n3,if_neg n4,if_neg n5,if_neg n6,if_pos e7] | rw [aD,stT,if_neg n1,if_neg n2,if_neg n3,if_neg n4,if_neg n5,if_neg n6,if_neg n7,if_pos e8] | rw [aD,stT,if_neg n1,if_neg n2,if_neg n3,if_neg n4,if_neg n5,if_neg n6,if_neg n7,if_neg n8,if_pos e9] | rw [aD,stT,if_neg n1,if_neg n2,if_neg n3,if_neg n4,if_neg n5,if_neg n6,if_neg n7,if_neg n8,if_neg n9,if_pos e10]);(try simp only [List.append_assoc] at s2 ⊢);(try simp only [List.cons_append] at s2 ⊢);(try simp only [List.nil_append] at s2 ⊢);(try simp only [List.append_nil] at s2 ⊢);exact s2⟩
 try simp only [df] at h27
 have n1:¬ kd=1:=fun e=>h27 (by rw [e];rfl);refine .sr<|.yw (.eql Z Z)<|.a Z Z<|.nt<|.cd Z (fun h37=>?_) (fun h37=>?_)
 ·try simp only [dt] at h37
  have e2:kd=2:=UInt8.toNat_inj.1 (by show kd.toNat=2;omega);have hlo:2≤ex.length:=by have h5:=hfr.2.1;rw [e2] at h5;exact Nat.le_trans (by decide) h5
  rw [stT,if_neg n1,if_pos e2] at hl;try simp only [List.length_append] at hl
  refine .fL 10 [(0,0),(1,0),(2,0),(3,0),(4,0),(5,0),(6,0),(7,0),(8,0),(9,1)]<|.mv Z<|.yw (.fieldAddr Z Fx.field208_1)<|.yw (.load Z Fx.agg9 aW Z)<|.mv Z<|.yw (.indexSl Fx.sl52 Z Z (i:=0) Z (by omega) (q:=0) Z)<|.yw (.load (v:=aB ((ex.map Ex.text).getD 0 [])) Z Fx.agg9 (.head _) (jM (by rw [List.length_map];omega)))<|.mv Z<|.yw (.indexSl Fx.sl52 Z Z (i:=1) Z (by omega) (q:=1) Z)<|.yw (.load (v:=aB ((ex.map Ex.text).getD 1 [])) Z Fx.agg9 (.head _) (jM (by rw [List.length_map];omega)))<|.bl Z (Fx.bsl52_6 _ _ _ _ _ _) Z fun b48=>.fn (tl:=[_]) Z<|.cs (X:=Value) Fx.call43 Z (fun W s=>eC (parts:=[nm,[91],(ex.map Ex.text).getD 0 [],[93,32,61,32],(ex.map Ex.text).getD 1 [],[59]]) ha (nb Z) (by (try simp only [List.length_append]);omega) (s.p5_5 [3,4,0,1,2] Z)) Z fun r49 _=>.nl<|.bN<|?_
  exact Sx.retN (.inr rfl) rfl .nil rfl fun W s=>⟨(_,_),(.inr rfl),rfl,by have s2:=(s.p5_2 [0,1] rfl);(first | rw [aD,stT,if_pos e1] | rw [aD,stT,if_neg n1,if_pos e2] | rw [aD,stT,if_neg n1,if_neg n2,if_pos e3] | rw [aD,stT,if_neg n1,if_neg n2,if_neg n3,if_pos e4,if_neg (by simpa using q)] | rw [aD,stT,if_neg n1,if_neg n2,if_neg n3,if_pos e4,if_pos (by simpa using q)] | rw [aD,stT,if_neg n1,if_neg n2,if_neg n3,if_neg n4,if_pos e5] | rw [aD,stT,if_neg n1,if_neg n2,if_neg n3,if_neg n4,if_neg n5,if_pos e6] | rw [aD,stT,if_neg n1,if_neg n2,if_neg n3,if_neg n4,if_neg n5,if_neg n6,if_pos e7] | rw [aD,stT,if_neg n1,if_neg n2,if_neg n3,if_neg n4,if_neg n5,if_neg n6,if_neg n7,if_pos e8] | rw [aD,stT,if_neg n1,if_neg n2,if_neg n3,if_neg n4,if_neg n5,if_neg n6,if_neg n7,if_neg n8,if_pos e9] | rw [aD,stT,if_neg n1,if_neg n2,if_neg n3,if_neg n4,if_neg n5,if_neg n6,if_neg n7,if_neg n8,if_neg n9,if_pos e10]);(try simp only [List.append_assoc] at s2 ⊢);(try simp only [List.cons_append] at s2 ⊢);(try simp only [List.nil_append] at s2 ⊢);(try simp only [List.append_nil] at s2 ⊢);exact s2⟩
 try simp only [df] at h37
 have n2:¬ kd=2:=fun e=>h37 (by rw [e];rfl);refine .sr<|.yw (.eql Z Z)<|.a Z Z<|.nt<|.cd Z (fun h50=>?_) (fun h50=>?_)
 ·try simp only [dt] at h50
  have e3:kd=3:=UInt8.toNat_inj.1 (by show kd.toNat=3;omega);have hlo:1≤ex.length:=by have h5:=hfr.2.1;rw [e3] at h5;exact Nat.le_trans (by decide) h5
  rw [stT,if_neg n1,if_neg n2,if_pos e3] at hl;try simp only [List.length_append] at hl
  refine .fL 7 [(0,0),(1,0),(2,0),(3,0),(4,0),(5,0),(6,1)]<|.mv Z<|.yw (.fieldAddr Z Fx.field208_1)<|.yw (.load Z Fx.agg9 aW Z)<|.mv Z<|.yw (.indexSl Fx.sl52 Z Z (i:=0) Z (by omega) (q:=0) Z)<|.yw (.load (v:=aB ((ex.map Ex.text).getD 0 [])) Z Fx.agg9 (.head _) (jM (by rw [List.length_map];omega)))<|.bl Z (Fx.bsl52_5 _ _ _ _ _) Z fun b58=>.fn (tl:=[_]) Z<|.cs (X:=Value) Fx.call43 Z (fun W s=>eC (parts:=[[100,101,108,101,116,101,32],nm,[91],(ex.map Ex.text).getD 0 [],[93,59]]) ha (nb Z) (by (try simp only [List.length_append]);omega) (s.p5_5 [3,4,0,1,2] Z)) Z fun r59 _=>.nl<|.bN<|?_
  exact Sx.retN (.inr rfl) rfl .nil rfl fun W s=>⟨(_,_),(.inr rfl),rfl,by have s2:=(s.p5_2 [0,1] rfl);(first | rw [aD,stT,if_pos e1] | rw [aD,stT,if_neg n1,if_pos e2] | rw [aD,stT,if_neg n1,if_neg n2,if_pos e3] | rw [aD,stT,if_neg n1,if_neg n2,if_neg n3,if_pos e4,if_neg (by simpa using q)] | rw [aD,stT,if_neg n1,if_neg n2,if_neg n3,if_pos e4,if_pos (by simpa using q)] | rw [aD,stT,if_neg n1,if_neg n2,if_neg n3,if_neg n4,if_pos e5] | rw [aD,stT,if_neg n1,if_neg n2,if_neg n3,if_neg n4,if_neg n5,if_pos e6] | rw [aD,stT,if_neg n1,if_neg n2,if_neg n3,if_neg n4,if_neg n5,if_neg n6,if_pos e7] | rw [aD,stT,if_neg n1,if_neg n2,if_neg n3,if_neg n4,if_neg n5,if_neg n6,if_neg n7,if_pos e8] | rw [aD,stT,if_neg n1,if_neg n2,if_neg n3,if_neg n4,if_neg n5,if_neg n6,if_neg n7,if_neg n8,if_pos e9] | rw [aD,stT,if_neg n1,if_neg n2,if_neg n3,if_neg n4,if_neg n5,if_neg n6,if_neg n7,if_neg n8,if_neg n9,if_pos e10]);(try simp only [List.append_assoc] at s2 ⊢);(try simp only [List.cons_append] at s2 ⊢);(try simp only [List.nil_append] at s2 ⊢);(try simp only [List.append_nil] at s2 ⊢);exact s2⟩
 try simp only [df] at h50
 have n3:¬ kd=3:=fun e=>h50 (by rw [e];rfl);refine .sr<|.yw (.eql Z Z)<|.a Z Z<|.nt<|.cd Z (fun h60=>?_) (fun h60=>?_)
 ·try simp only [dt] at h60
  have e4:kd=4:=UInt8.toNat_inj.1 (by show kd.toNat=4;omega);have hlo:1≤ex.length:=by have h5:=hfr.2.1;rw [e4] at h5;exact Nat.le_trans (by decide) h5
  rw [stT,if_neg n1,if_neg n2,if_neg n3,if_pos e4] at hl;try simp only [List.length_append] at hl
  have hq:=dR ind [[125]];refine .sr<|.mv Z<|.mv Z<|.yw (.indexSl Fx.sl52 Z Z (i:=0) Z (by omega) (q:=0) Z)<|.yw (.load (v:=aB ((ex.map Ex.text).getD 0 [])) Z Fx.agg9 (.head _) (jM (by rw [List.length_map];omega)))<|.bl Z (Fx.bsl52_3 _ _ _) Z fun b66=>.cs (X:=Value) Fx.call43 Z (fun W s=>eC (parts:=[[105,102,32],(ex.map Ex.text).getD 0 [],[32,123]]) ha (nb Z) (by (try simp only [List.length_append]);omega) (s.p5_5 [3,4,0,1,2] Z)) Z fun r67 _=>.ns<|.mv Z<|.yw (.fieldAddr Z Fx.field208_4)<|.yw (.load Z Fx.agg159 tC Z)<|.cs (X:=Option Addr × Value) Fx.call129 Z (fun W s=>hth _ _ _ _ _ _ _ _ _ _ _ hs1 hf2 (.inr Z) (by (try simp only [List.length_append]);omega) (by omega) (s.p5_4 [0,1,3,4] Z)) Z fun z71 hz71=>.nt<|.sq<|.sr<|.yw (.fieldAddr Z Fx.field208_5)<|.yw (.load Z Fx.agg159 gN Z)<|.yw (.lenSl Fx.sl159 Z)<|.yw (.gtr Z Z)<|.nt<|.cd Z (fun h75=>?_) (fun h75=>?_)
  ·try simp only [dt] at h75
   have q:¬ el.length=0:=by omega
   rw [if_neg (by simpa using q)] at hl;simp only [List.length_append] at hl;refine .sr<|.mv Z<|.bl Z (Fx.bsl52_1 _) Z fun b77=>.cs (X:=Value) Fx.call43 Z (fun W s=>eC (parts:=[[125,32,101,108,115,101,32,123]]) hz71 (nb Z) (by (try simp only [List.length_append]);omega) (s.p5_5 [1,2,0,3,4] Z)) Z fun r78 _=>.nt<|.rg<|.mv Z<|.yw (.fieldAddr Z Fx.field208_5)<|.yw (.load Z Fx.agg159 tC Z)<|.cs (X:=Option Addr × Value) Fx.call129 Z (fun W s=>hel _ _ _ _ _ _ _ _ _ _ _ hs2 hf3 (.inr Z) (by (try simp only [List.length_append]);omega) (by omega) (s.p5_4 [0,1,3,4] Z)) Z fun z82 hz82=>.nt<|.rg<|.mv Z<|.bl Z (Fx.bsl52_1 _) Z fun b84=>.cs (X:=Value) Fx.call43 Z (fun W s=>eC (parts:=[[125]]) hz82 (nb Z) (by (try simp only [List.length_append]);omega) (s.p5_5 [1,2,0,3,4] Z)) Z fun r85 _=>.nl<|.bN<|?_
   exact Sx.retN (.inr rfl) rfl .nil rfl fun W s=>⟨(_,_),(.inr rfl),rfl,by have s2:=(s.p5_2 [0,1] rfl);(first | rw [aD,stT,if_pos e1] | rw [aD,stT,if_neg n1,if_pos e2] | rw [aD,stT,if_neg n1,if_neg n2,if_pos e3] | rw [aD,stT,if_neg n1,if_neg n2,if_neg n3,if_pos e4,if_neg (by simpa using q)] | rw [aD,stT,if_neg n1,if_neg n2,if_neg n3,if_pos e4,if_pos (by simpa using q)] | rw [aD,stT,if_neg n1,if_neg n2,if_neg n3,if_neg n4,if_pos e5] | rw [aD,stT,if_neg n1,if_neg n2,if_neg n3,if_neg n4,if_neg n5,if_pos e6] | rw [aD,stT,if_neg n1,if_neg n2,if_neg n3,if_neg n4,if_neg n5,if_neg n6,if_pos e7] | rw [aD,stT,if_neg n1,if_neg n2,if_neg n3,if_neg n4,if_neg n5,if_neg n6,if_neg n7,if_pos e8] | rw [aD,stT,if_neg n1,if_neg n2,if_neg n3,if_neg n4,if_neg n5,if_neg n6,if_neg n7,if_neg n8,if_pos e9] | rw [aD,stT,if_neg n1,if_neg n2,if_neg n3,if_neg n4,if_neg n5,if_neg n6,if_neg n7,if_neg n8,if_neg n9,if_pos e10]);(try simp only [List.append_assoc] at s2 ⊢);(try simp only [List.cons_append] at s2 ⊢);(try simp only [List.nil_append] at s2 ⊢);(try simp only [List.append_nil] at s2 ⊢);exact s2⟩
  try simp only [df] at h75
  have q:el.length=0:=by omega
  rw [if_pos (by simpa using q)] at hl;refine .sk<|.tN<|.rg<|.mv Z<|.bl Z (Fx.bsl52_1 _) Z fun b84=>.cs (X:=Value) Fx.call43 Z (fun W s=>eC (parts:=[[125]]) hz71 (nb Z) (by (try simp only [List.length_append]);omega) (s.p5_5 [1,2,0,3,4] Z)) Z fun r85 _=>.nl<|.bN<|?_
  exact Sx.retN (.inr rfl) rfl .nil rfl fun W s=>⟨(_,_),(.inr rfl),rfl,by have s2:=(s.p5_2 [0,1] rfl);(first | rw [aD,stT,if_pos e1] | rw [aD,stT,if_neg n1,if_pos e2] | rw [aD,stT,if_neg n1,if_neg n2,if_pos e3] | rw [aD,stT,if_neg n1,if_neg n2,if_neg n3,if_pos e4,if_neg (by simpa using q)] | rw [aD,stT,if_neg n1,if_neg n2,if_neg n3,if_pos e4,if_pos (by simpa using q)] | rw [aD,stT,if_neg n1,if_neg n2,if_neg n3,if_neg n4,if_pos e5] | rw [aD,stT,if_neg n1,if_neg n2,if_neg n3,if_neg n4,if_neg n5,if_pos e6] | rw [aD,stT,if_neg n1,if_neg n2,if_neg n3,if_neg n4,if_neg n5,if_neg n6,if_pos e7] | rw [aD,stT,if_neg n1,if_neg n2,if_neg n3,if_neg n4,if_neg n5,if_neg n6,if_neg n7,if_pos e8] | rw [aD,stT,if_neg n1,if_neg n2,if_neg n3,if_neg n4,if_neg n5,if_neg n6,if_neg n7,if_neg n8,if_pos e9] | rw [aD,stT,if_neg n1,if_neg n2,if_neg n3,if_neg n4,if_neg n5,if_neg n6,if_neg n7,if_neg n8,if_neg n9,if_pos e10]);(try simp only [List.append_assoc] at s2 ⊢);(try simp only [List.cons_append] at s2 ⊢);(try simp only [List.nil_append] at s2 ⊢);(try simp only [List.append_nil] at s2 ⊢);exact s2⟩
 try simp only [df] at h60
 have n4:¬ kd=4:=fun e=>h60 (by rw [e];rfl);refine .sr<|.yw (.eql Z Z)<|.a Z Z<|.nt<|.cd Z (fun h86=>?_) (fun h86=>?_)
 ·try simp only [dt] at h86
  have e5:kd=5:=UInt8.toNat_inj.1 (by show kd.toNat=5;omega);have hlo:1≤ex.length:=by have h5:=hfr.2.1;rw [e5] at h5;exact Nat.le_trans (by decide) h5
  rw [stT,if_neg n1,if_neg n2,if_neg n3,if_neg n4,if_pos e5] at hl;try simp only [List.length_append] at hl
  have hq:=dR ind [[125]];refine .sr<|.mv Z<|.mv Z<|.yw (.indexSl Fx.sl52 Z Z (i:=0) Z (by omega) (q:=0) Z)<|.yw (.load (v:=aB ((ex.map Ex.text).getD 0 [])) Z Fx.agg9 (.head _) (jM (by rw [List.length_map];omega)))<|.bl Z (Fx.bsl52_3 _ _ _) Z fun b92=>.cs (X:=Value) Fx.call43 Z (fun W s=>eC (parts:=[[119,104,105,108,101,32],(ex.map Ex.text).getD 0 [],[32,123]]) ha (nb Z) (by (try simp only [List.length_append]);omega) (s.p5_5 [3,4,0,1,2] Z)) Z fun r93 _=>.ns<|.mv Z<|.yw (.fieldAddr Z Fx.field208_4)<|.yw (.load Z Fx.agg159 tC Z)<|.cs (X:=Option Addr × Value) Fx.call129 Z (fun W s=>hth _ _ _ _ _ _ _ _ _ _ _ hs1 hf2 (.inr Z) (by (try simp only [List.length_append]);omega) (by omega) (s.p5_4 [0,1,3,4] Z)) Z fun z97 hz97=>.nt<|.rg<|.mv Z<|.bl Z (Fx.bsl52_1 _) Z fun b99=>.cs (X:=Value) Fx.call43 Z (fun W s=>eC (parts:=[[125]]) hz97 (nb Z) (by (try simp only [List.length_append]);omega) (s.p5_5 [1,2,0,3,4] Z)) Z fun r100 _=>.nl<|.bN<|?_
  exact Sx.retN (.inr rfl) rfl .nil rfl fun W s=>⟨(_,_),(.inr rfl),rfl,by have s2:=(s.p5_2 [0,1] rfl);(first | rw [aD,stT,if_pos e1] | rw [aD,stT,if_neg n1,if_pos e2] | rw [aD,stT,if_neg n1,if_neg n2,if_pos e3] | rw [aD,stT,if_neg n1,if_neg n2,if_neg n3,if_pos e4,if_neg (by simpa using q)] | rw [aD,stT,if_neg n1,if_neg n2,if_neg n3,if_pos e4,if_pos (by simpa using q)] | rw [aD,stT,if_neg n1,if_neg n2,if_neg n3,if_neg n4,if_pos e5] | rw [aD,stT,if_neg n1,if_neg n2,if_neg n3,if_neg n4,if_neg n5,if_pos e6] | rw [aD,stT,if_neg n1,if_neg n2,if_neg n3,if_neg n4,if_neg n5,if_neg n6,if_pos e7] | rw [aD,stT,if_neg n1,if_neg n2,if_neg n3,if_neg n4,if_neg n5,if_neg n6,if_neg n7,if_pos e8] | rw [aD,stT,if_neg n1,if_neg n2,if_neg n3,if_neg n4,if_neg n5,if_neg n6,if_neg n7,if_neg n8,if_pos e9] | rw [aD,stT,if_neg n1,if_neg n2,if_neg n3,if_neg n4,if_neg n5,if_neg n6,if_neg n7,if_neg n8,if_neg n9,if_pos e10]);(try simp only [List.append_assoc] at s2 ⊢);(try simp only [List.cons_append] at s2 ⊢);(try simp only [List.nil_append] at s2 ⊢);(try simp only [List.append_nil] at s2 ⊢);exact s2⟩
 try simp only [df] at h86
 have n5:¬ kd=5:=fun e=>h86 (by rw [e];rfl);refine .sr<|.yw (.eql Z Z)<|.a Z Z<|.nt<|.cd Z (fun h101=>?_) (fun h101=>?_)
 ·try simp only [dt] at h101
  have e6:kd=6:=UInt8.toNat_inj.1 (by show kd.toNat=6;omega);have hlo:0≤ex.length:=by have h5:=hfr.2.1;rw [e6] at h5;exact Nat.le_trans (by decide) h5
  rw [stT,if_neg n1,if_neg n2,if_neg n3,if_neg n4,if_neg n5,if_pos e6] at hl;try simp only [List.length_append] at hl
  have hq:=dR ind [[115,101,110,100,32],nm,[46],hd,[40],iK (ex.map Ex.text),[41,59]];simp only [List.flatten_cons,List.length_append] at hq;refine .fL 8 [(0,0),(1,0),(2,0),(3,0),(4,0),(5,0),(6,0),(7,1)]<|.mv Z<|.yw (.fieldAddr Z Fx.field208_1)<|.yw (.load Z Fx.agg9 aW Z)<|.yw (.fieldAddr Z Fx.field208_2)<|.yw (.load Z Fx.agg9 aW Z)<|.mv Z<|.yw (.call Fx.call128 Z (fun W s=>NT (ex.map Ex.text) (by simp) s (.head _) (by simp;omega) (by omega)))<|.bl Z (Fx.bsl52_7 _ _ _ _ _ _ _) Z fun b110=>.fn (tl:=[_]) Z<|.cs (X:=Value) Fx.call43 Z (fun W s=>eC (parts:=[[115,101,110,100,32],nm,[46],hd,[40],iK (ex.map Ex.text),[41,59]]) ha (nb Z) (by (try simp only [List.length_append]);omega) (s.p5_5 [3,4,0,1,2] Z)) Z fun r111 _=>.nl<|.bN<|?_
  exact Sx.retN (.inr rfl) rfl .nil rfl fun W s=>⟨(_,_),(.inr rfl),rfl,by have s2:=(s.p5_2 [0,1] rfl);(first | rw [aD,stT,if_pos e1] | rw [aD,stT,if_neg n1,if_pos e2] | rw [aD,stT,if_neg n1,if_neg n2,if_pos e3] | rw [aD,stT,if_neg n1,if_neg n2,if_neg n3,if_pos e4,if_neg (by simpa using q)] | rw [aD,stT,if_neg n1,if_neg n2,if_neg n3,if_pos e4,if_pos (by simpa using q)] | rw [aD,stT,if_neg n1,if_neg n2,if_neg n3,if_neg n4,if_pos e5] | rw [aD,stT,if_neg n1,if_neg n2,if_neg n3,if_neg n4,if_neg n5,if_pos e6] | rw [aD,stT,if_neg n1,if_neg n2,if_neg n3,if_neg n4,if_neg n5,if_neg n6,if_pos e7] | rw [aD,stT,if_neg n1,if_neg n2,if_neg n3,if_neg n4,if_neg n5,if_neg n6,if_neg n7,if_pos e8] | rw [aD,stT,if_neg n1,if_neg n2,if_neg n3,if_neg n4,if_neg n5,if_neg n6,if_neg n7,if_neg n8,if_pos e9] | rw [aD,stT,if_neg n1,if_neg n2,if_neg n3,if_neg n4,if_neg n5,if_neg n6,if_neg n7,if_neg n8,if_neg n9,if_pos e10]);(try simp only [List.append_assoc] at s2 ⊢);(try simp only [List.cons_append] at s2 ⊢);(try simp only [List.nil_append] at s2 ⊢);(try simp only [List.append_nil] at s2 ⊢);exact s2⟩
 try simp only [df] at h101
 have n6:¬ kd=6:=fun e=>h101 (by rw [e];rfl);refine .sr<|.yw (.eql Z Z)<|.a Z Z<|.nt<|.cd Z (fun h112=>?_) (fun h112=>?_)
 ·try simp only [dt] at h112
  have e7:kd=7:=UInt8.toNat_inj.1 (by show kd.toNat=7;omega);have hlo:1≤ex.length:=by have h5:=hfr.2.1;rw [e7] at h5;exact Nat.le_trans (by decide) h5
  rw [stT,if_neg n1,if_neg n2,if_neg n3,if_neg n4,if_neg n5,if_neg n6,if_pos e7] at hl;try simp only [List.length_append] at hl
  have hq:=dR ind [[97,102,116,101,114,32],(ex.map Ex.text).getD 0 [],[32,100,111,32],hd,[40],iK ((ex.map Ex.text).drop 1),[41,59]];simp only [List.flatten_cons,List.length_append] at hq;refine .fL 10 [(0,0),(1,0),(2,0),(3,0),(4,0),(5,0),(6,0),(7,0),(8,0),(9,1)]<|.mv Z<|.mv Z<|.yw (.indexSl Fx.sl52 Z Z (i:=0) Z (by omega) (q:=0) Z)<|.yw (.load (v:=aB ((ex.map Ex.text).getD 0 [])) Z Fx.agg9 (.head _) (jM (by rw [List.length_map];omega)))<|.yw (.fieldAddr Z Fx.field208_2)<|.yw (.load Z Fx.agg9 aW Z)<|.mv Z<|.yw (.cutLo Fx.sl52 Z Z (lo:=1) Z (by omega) (Nat.le_refl _))<|.yw (.call Fx.call128 Z (fun W s=>KD (ex.map Ex.text) (by simp) s (.head _) (by simp;omega) (by omega)))<|.bl Z (Fx.bsl52_7 _ _ _ _ _ _ _) Z fun b123=>.fn (tl:=[_]) Z<|.cs (X:=Value) Fx.call43 Z (fun W s=>eC (parts:=[[97,102,116,101,114,32],(ex.map Ex.text).getD 0 [],[32,100,111,32],hd,[40],iK ((ex.map Ex.text).drop 1),[41,59]]) ha (nb Z) (by (try simp only [List.length_append]);omega) (s.p5_5 [3,4,0,1,2] Z)) Z fun r124 _=>.nl<|.bN<|?_
  exact Sx.retN (.inr rfl) rfl .nil rfl fun W s=>⟨(_,_),(.inr rfl),rfl,by have s2:=(s.p5_2 [0,1] rfl);(first | rw [aD,stT,if_pos e1] | rw [aD,stT,if_neg n1,if_pos e2] | rw [aD,stT,if_neg n1,if_neg n2,if_pos e3] | rw [aD,stT,if_neg n1,if_neg n2,if_neg n3,if_pos e4,if_neg (by simpa using q)] | rw [aD,stT,if_neg n1,if_neg n2,if_neg n3,if_pos e4,if_pos (by simpa using q)] | rw [aD,stT,if_neg n1,if_neg n2,if_neg n3,if_neg n4,if_pos e5] | rw [aD,stT,if_neg n1,if_neg n2,if_neg n3,if_neg n4,if_neg n5,if_pos e6] | rw [aD,stT,if_neg n1,if_neg n2,if_neg n3,if_neg n4,if_neg n5,if_neg n6,if_pos e7] | rw [aD,stT,if_neg n1,if_neg n2,if_neg n3,if_neg n4,if_neg n5,if_neg n6,if_neg n7,if_pos e8] | rw [aD,stT,if_neg n1,if_neg n2,if_neg n3,if_neg n4,if_neg n5,if_neg n6,if_neg n7,if_neg n8,if_pos e9] | rw [aD,stT,if_neg n1,if_neg n2,if_neg n3,if_neg n4,if_neg n5,if_neg n6,if_neg n7,if_neg n8,if_neg n9,if_pos e10]);(try simp only [List.append_assoc] at s2 ⊢);(try simp only [List.cons_append] at s2 ⊢);(try simp only [List.nil_append] at s2 ⊢);(try simp only [List.append_nil] at s2 ⊢);exact s2⟩
 try simp only [df] at h112
 have n7:¬ kd=7:=fun e=>h112 (by rw [e];rfl);refine .sr<|.yw (.eql Z Z)<|.a Z Z<|.nt<|.cd Z (fun h125=>?_) (fun h125=>?_)
 ·try simp only [dt] at h125
  have e8:kd=8:=UInt8.toNat_inj.1 (by show kd.toNat=8;omega);have hlo:2≤ex.length:=by have h5:=hfr.2.1;rw [e8] at h5;exact Nat.le_trans (by decide) h5
  rw [stT,if_neg n1,if_neg n2,if_neg n3,if_neg n4,if_neg n5,if_neg n6,if_neg n7,if_pos e8] at hl;try simp only [List.length_append] at hl
  have hq:=yD ind ([115,116,111,114,101,32]++(ex.map Ex.text).getD 0 []++[32,61,32]++(ex.map Ex.text).getD 1 []) (decide (el.length=0)) (Sm.texts (ind+1) el);simp only [List.length_append] at hq;refine .fL 12 [(0,0),(1,0),(2,0),(3,0),(4,0),(5,0),(6,0),(7,0),(8,0),(9,0),(10,0),(11,0)]<|.mv Z<|.mv Z<|.yw (.indexSl Fx.sl52 Z Z (i:=0) Z (by omega) (q:=0) Z)<|.yw (.load (v:=aB ((ex.map Ex.text).getD 0 [])) Z Fx.agg9 (.head _) (jM (by rw [List.length_map];omega)))<|.yw (.app Z Z (by (try simp only [List.length_append]);(try simp only [List.length_cons,List.length_nil]);(try simp only [List.length_cons,List.length_nil] at hq);omega))<|.yw (.app Z Z (by (try simp only [List.length_append]);(try simp only [List.length_cons,List.length_nil]);(try simp only [List.length_cons,List.length_nil] at hq);omega))<|.mv Z<|.yw (.indexSl Fx.sl52 Z Z (i:=1) Z (by omega) (q:=1) Z)<|.yw (.load (v:=aB ((ex.map Ex.text).getD 1 [])) Z Fx.agg9 (.head _) (jM (by rw [List.length_map];omega)))<|.yw (.app Z Z (by (try simp only [List.length_append]);(try simp only [List.length_cons,List.length_nil]);(try simp only [List.length_cons,List.length_nil] at hq);omega))<|.yw (.fieldAddr Z Fx.field208_5)<|.yw (.load Z Fx.agg159 aW Z)<|.fn (tl:=[_]) Z<|.cs (X:=Option Addr × Value) Fx.call171 Z (fun W s=>DN H el hel _ _ _ _ _ _ _ _ _ _ _ hs2 hf3 ha (by (try simp only [List.length_append]);omega) (by omega) (s.p4_4 [2,3,0,1] Z)) Z fun z139 hz139=>.nl<|.bN<|?_
  exact Sx.retN (.inr rfl) rfl .nil rfl fun W s=>⟨(_,_),hz139,rfl,by have s2:=(s.p4_2 [0,1] rfl);(first | rw [aD,stT,if_pos e1] | rw [aD,stT,if_neg n1,if_pos e2] | rw [aD,stT,if_neg n1,if_neg n2,if_pos e3] | rw [aD,stT,if_neg n1,if_neg n2,if_neg n3,if_pos e4,if_neg (by simpa using q)] | rw [aD,stT,if_neg n1,if_neg n2,if_neg n3,if_pos e4,if_pos (by simpa using q)] | rw [aD,stT,if_neg n1,if_neg n2,if_neg n3,if_neg n4,if_pos e5] | rw [aD,stT,if_neg n1,if_neg n2,if_neg n3,if_neg n4,if_neg n5,if_pos e6] | rw [aD,stT,if_neg n1,if_neg n2,if_neg n3,if_neg n4,if_neg n5,if_neg n6,if_pos e7] | rw [aD,stT,if_neg n1,if_neg n2,if_neg n3,if_neg n4,if_neg n5,if_neg n6,if_neg n7,if_pos e8] | rw [aD,stT,if_neg n1,if_neg n2,if_neg n3,if_neg n4,if_neg n5,if_neg n6,if_neg n7,if_neg n8,if_pos e9] | rw [aD,stT,if_neg n1,if_neg n2,if_neg n3,if_neg n4,if_neg n5,if_neg n6,if_neg n7,if_neg n8,if_neg n9,if_pos e10]);(try simp only [List.append_assoc] at s2 ⊢);(try simp only [List.cons_append] at s2 ⊢);(try simp only [List.nil_append] at s2 ⊢);(try simp only [List.append_nil] at s2 ⊢);exact s2⟩
 try simp only [df] at h125
 have n8:¬ kd=8:=fun e=>h125 (by rw [e];rfl);refine .sr<|.yw (.eql Z Z)<|.a Z Z<|.nt<|.cd Z (fun h140=>?_) (fun h140=>?_)
 ·try simp only [dt] at h140
  have e9:kd=9:=UInt8.toNat_inj.1 (by show kd.toNat=9;omega);have hlo:1≤ex.length:=by have h5:=hfr.2.1;rw [e9] at h5;exact Nat.le_trans (by decide) h5
  rw [stT,if_neg n1,if_neg n2,if_neg n3,if_neg n4,if_neg n5,if_neg n6,if_neg n7,if_neg n8,if_pos e9] at hl;try simp only [List.length_append] at hl
  have hq:=yD ind ([102,101,116,99,104,32]++nm++[32,61,32]++(ex.map Ex.text).getD 0 []) (decide (el.length=0)) (Sm.texts (ind+1) el);simp only [List.length_append] at hq;refine .fL 11 [(0,0),(1,0),(2,0),(3,0),(4,0),(5,0),(6,0),(7,0),(8,0),(9,0),(10,0)]<|.mv Z<|.yw (.fieldAddr Z Fx.field208_1)<|.yw (.load Z Fx.agg9 aW Z)<|.yw (.app Z Z (by (try simp only [List.length_append]);(try simp only [List.length_cons,List.length_nil]);(try simp only [List.length_cons,List.length_nil] at hq);omega))<|.yw (.app Z Z (by (try simp only [List.length_append]);(try simp only [List.length_cons,List.length_nil]);(try simp only [List.length_cons,List.length_nil] at hq);omega))<|.mv Z<|.yw (.indexSl Fx.sl52 Z Z (i:=0) Z (by omega) (q:=0) Z)<|.yw (.load (v:=aB ((ex.map Ex.text).getD 0 [])) Z Fx.agg9 (.head _) (jM (by rw [List.length_map];omega)))<|.yw (.app Z Z (by (try simp only [List.length_append]);(try simp only [List.length_cons,List.length_nil]);(try simp only [List.length_cons,List.length_nil] at hq);omega))<|.yw (.fieldAddr Z Fx.field208_5)<|.yw (.load Z Fx.agg159 aW Z)<|.fn (tl:=[_]) Z<|.cs (X:=Option Addr × Value) Fx.call171 Z (fun W s=>DN H el hel _ _ _ _ _ _ _ _ _ _ _ hs2 hf3 ha (by (try simp only [List.length_append]);omega) (by omega) (s.p4_4 [2,3,0,1] Z)) Z fun z153 hz153=>.nl<|.bN<|?_
  exact Sx.retN (.inr rfl) rfl .nil rfl fun W s=>⟨(_,_),hz153,rfl,by have s2:=(s.p4_2 [0,1] rfl);(first | rw [aD,stT,if_pos e1] | rw [aD,stT,if_neg n1,if_pos e2] | rw [aD,stT,if_neg n1,if_neg n2,if_pos e3] | rw [aD,stT,if_neg n1,if_neg n2,if_neg n3,if_pos e4,if_neg (by simpa using q)] | rw [aD,stT,if_neg n1,if_neg n2,if_neg n3,if_pos e4,if_pos (by simpa using q)] | rw [aD,stT,if_neg n1,if_neg n2,if_neg n3,if_neg n4,if_pos e5] | rw [aD,stT,if_neg n1,if_neg n2,if_neg n3,if_neg n4,if_neg n5,if_pos e6] | rw [aD,stT,if_neg n1,if_neg n2,if_neg n3,if_neg n4,if_neg n5,if_neg n6,if_pos e7] | rw [aD,stT,if_neg n1,if_neg n2,if_neg n3,if_neg n4,if_neg n5,if_neg n6,if_neg n7,if_pos e8] | rw [aD,stT,if_neg n1,if_neg n2,if_neg n3,if_neg n4,if_neg n5,if_neg n6,if_neg n7,if_neg n8,if_pos e9] | rw [aD,stT,if_neg n1,if_neg n2,if_neg n3,if_neg n4,if_neg n5,if_neg n6,if_neg n7,if_neg n8,if_neg n9,if_pos e10]);(try simp only [List.append_assoc] at s2 ⊢);(try simp only [List.cons_append] at s2 ⊢);(try simp only [List.nil_append] at s2 ⊢);(try simp only [List.append_nil] at s2 ⊢);exact s2⟩
 try simp only [df] at h140
 have n9:¬ kd=9:=fun e=>h140 (by rw [e];rfl);refine .sr<|.yw (.eql Z Z)<|.a Z Z<|.nt<|.cd Z (fun h154=>?_) (fun h154=>?_)
 ·try simp only [dt] at h154
  have e10:kd=10:=UInt8.toNat_inj.1 (by show kd.toNat=10;omega);have hlo:0≤ex.length:=by have h5:=hfr.2.1;rw [e10] at h5;exact Nat.le_trans (by decide) h5
  rw [stT,if_neg n1,if_neg n2,if_neg n3,if_neg n4,if_neg n5,if_neg n6,if_neg n7,if_neg n8,if_neg n9,if_pos e10] at hl;try simp only [List.length_append] at hl
  refine .rg<|.mv Z<|.bl Z (Fx.bsl52_1 _) Z fun b157=>.cs (X:=Value) Fx.call43 Z (fun W s=>eC (parts:=[[115,116,111,112,59]]) ha (nb Z) (by (try simp only [List.length_append]);omega) (s.p5_5 [3,4,0,1,2] Z)) Z fun r158 _=>.nl<|.bN<|?_
  exact Sx.retN (.inr rfl) rfl .nil rfl fun W s=>⟨(_,_),(.inr rfl),rfl,by have s2:=(s.p5_2 [0,1] rfl);(first | rw [aD,stT,if_pos e1] | rw [aD,stT,if_neg n1,if_pos e2] | rw [aD,stT,if_neg n1,if_neg n2,if_pos e3] | rw [aD,stT,if_neg n1,if_neg n2,if_neg n3,if_pos e4,if_neg (by simpa using q)] | rw [aD,stT,if_neg n1,if_neg n2,if_neg n3,if_pos e4,if_pos (by simpa using q)] | rw [aD,stT,if_neg n1,if_neg n2,if_neg n3,if_neg n4,if_pos e5] | rw [aD,stT,if_neg n1,if_neg n2,if_neg n3,if_neg n4,if_neg n5,if_pos e6] | rw [aD,stT,if_neg n1,if_neg n2,if_neg n3,if_neg n4,if_neg n5,if_neg n6,if_pos e7] | rw [aD,stT,if_neg n1,if_neg n2,if_neg n3,if_neg n4,if_neg n5,if_neg n6,if_neg n7,if_pos e8] | rw [aD,stT,if_neg n1,if_neg n2,if_neg n3,if_neg n4,if_neg n5,if_neg n6,if_neg n7,if_neg n8,if_pos e9] | rw [aD,stT,if_neg n1,if_neg n2,if_neg n3,if_neg n4,if_neg n5,if_neg n6,if_neg n7,if_neg n8,if_neg n9,if_pos e10]);(try simp only [List.append_assoc] at s2 ⊢);(try simp only [List.cons_append] at s2 ⊢);(try simp only [List.nil_append] at s2 ⊢);(try simp only [List.append_nil] at s2 ⊢);exact s2⟩
 try simp only [df] at h154
 simp only [gT,Bool.and_eq_true,decide_eq_true_eq] at hokd;exact absurd (by omega:False) id
theorem PA (H:Hp) (G:Gl H) (g:Gt H):∀ x:List Sm,AZ H x:=by
 refine Sm.lists fun l ih=>?_;intro p n c w0 W bs b a r ind t hs hf ha hl hi s;obtain rfl:n=l.length:=by have:=hs.len.1;simpa using this
 have hcap:=hs.cap;refine Sx.enterS Tryz.func129 rfl Tryz.ntmps129 rfl s ?_;refine .sr<|.mv Z<|.yw (.nilCheck Z)<|.yw (.fieldAddr Z Fx.field117_1)<|.yw (.load Z Fx.agg3 (.head _) Z)<|.yw (.add Z Z (c:=((ind+1:Nat):Int)) ((w6 (by omega)).trans (by omega)))<|.yw (.nilCheck Z)<|.yw (.fieldAddr Z Fx.field117_1)<|.st .head Z Z Fx.size3 Z (nb Z) Z<|.nt<|.sq<|.sr<|.mv Z<|.yw (.lenSl Fx.sl159 Z)<|.mv Z<|.nt<|.bk<|.lp (X:=Nat × Option Addr × Value) [(0,_),(13,_),(14,_)] ⟨rfl,rfl,rfl,trivial⟩ (bs) (fun z=>[(15,.int .i64 (z.1:Nat))]) (fun z=>H) (fun z=>[.box b [.pointer z.2.1,z.2.2,.int .i64 (ind+1:Nat)] 117,.row 5 1 z.2.2 (t++Sm.texts (ind+1) (l.take z.1)).length ((t++Sm.texts (ind+1) (l.take z.1)).map dI)]) (fun z=>z.1≤l.length∧(z.2.1=none∨z.2.1=some ⟨b,0,none⟩)) (fun z=>l.length - z.1) (0,a,r) (fun _ s=>by simpa [Sm.texts] using s) ⟨rfl,trivial⟩ ⟨by simp,ha⟩ fun z hC=>?_
 obtain ⟨k,a,r⟩:=z;dsimp only at hC ⊢;obtain ⟨hk0,ha⟩:=hC;refine .sr<|.yw (.lss Z Z)<|.nt<|.sq<|.cd Z (fun h16=>?_) (fun h16=>?_)
 ·try simp only [dt] at h16
  have hk:k<l.length:=by omega
  obtain ⟨bE,oE,cE,hpE,rE,lE,mE⟩:=hs.elem (bB hk);cases hpE;have hf1:=BT hk hf;have hle:=BM (ind+1) l (k+1);rw [sL hk,List.length_append] at hle;have hi2:=ih _ (List.getElem_mem hk);exact .sk<|.tN<|.sq<|.bk<|.sr<|.yw (.indexSl Fx.sl159 Z Z Z (by omega) (q:=oE+k * 6) Z)<|.yw (.loadMW Z Fx.agg208 mE lE)<|.al Fx.zero208 Z fun b5=>.sV .head Z Z Fx.size208 lE rE.one Z<|.nt<|.rg<|.mv Z<|.yw (.loadW Z Fx.agg208 (.head _) lE)<|.cs (X:=Option Addr × Value) Fx.call156 Z (fun W s=>wR H G g _ hi2.1 hi2.2 _ _ _ _ _ _ _ _ _ rE hf1 ha (by (try simp only [List.length_append]);omega) (by omega) (s.p3_2 [1,2] Z)) Z fun z21 hz21=>.nl<|.bN<|.tN<|.rg<|.yw (.add Z Z (w6 (by omega)))<|.mv Z<|.nt<|.ag (x:=(k,a,r)) (k+1,z21.1,z21.2) ⟨rfl,trivial⟩ ⟨rfl,rfl,rfl,trivial⟩ (fun _ s=>by have s2:=s;dsimp only;rw [sL hk];(try simp only [List.append_assoc] at s2 ⊢);(try simp only [List.cons_append] at s2 ⊢);(try simp only [List.nil_append] at s2 ⊢);(try simp only [List.append_nil] at s2 ⊢);exact s2) ⟨by dsimp only;omega,hz21⟩ (by dsimp only;omega)
 try simp only [df] at h16
 obtain rfl:k=l.length:=by omega
 rw [List.take_length];refine .ex<|.tE<|.tE<|.bE<|.tN<|.rg<|.mv Z<|.yw (.nilCheck Z)<|.yw (.fieldAddr Z Fx.field117_1)<|.yw (.load Z Fx.agg3 (.head _) Z)<|.yw (.sub Z Z (c:=((ind:Nat):Int)) ((w6 (by omega)).trans (by omega)))<|.yw (.nilCheck Z)<|.yw (.fieldAddr Z Fx.field117_1)<|.st .head Z Z Fx.size3 Z (nb Z) Z<|.nl<|?_
 exact Sx.retN (.inr rfl) rfl .nil rfl fun W s=>⟨(_,_),ha,rfl,by have s2:=(s.p2_2 [0,1] rfl);(skip);(try simp only [List.append_assoc] at s2 ⊢);(try simp only [List.cons_append] at s2 ⊢);(try simp only [List.nil_append] at s2 ⊢);(try simp only [List.append_nil] at s2 ⊢);exact s2⟩
theorem SK {q r:Sm→Bool} (h:∀ s,q s=true→r s=true):∀ l,Sm.alls q l=true→Sm.alls r l=true:=by
 refine Sm.lists fun l ih=>?_;induction l with
 | nil=>intro _;rfl
 | cons s t iht =>
  intro hl;obtain ⟨kd,nm,hd,ex,th,el⟩:=s;have h0:=ih _ (.head _);simp only [Sm.th,Sm.el] at h0;simp only [Sm.alls,eU,Bool.and_eq_true] at hl ⊢;exact ⟨⟨⟨h _ hl.1.1.1,h0.1 hl.1.1.2⟩,h0.2 hl.1.2⟩,iht (fun x hx=>ih x (.tail _ hx)) hl.2⟩
theorem oO {q r:Sm→Bool}:∀ l,Sm.alls q l=true→Sm.alls r l=true→Sm.alls (fun s=>q s && r s) l=true:=by
 refine Sm.lists fun l ih=>?_;induction l with
 | nil=>intro _ _;rfl
 | cons s t iht =>
  intro hl hr;obtain ⟨kd,nm,hd,ex,th,el⟩:=s;have h0:=ih _ (.head _);simp only [Sm.th,Sm.el] at h0;simp only [Sm.alls,eU,Bool.and_eq_true] at hl hr ⊢;exact ⟨⟨⟨⟨hl.1.1.1,hr.1.1.1⟩,h0.1 hl.1.1.2 hr.1.1.2⟩,h0.2 hl.1.2 hr.1.2⟩,iht (fun x hx=>ih x (.tail _ hx)) hl.2 hr.2⟩
def IM (h:Hd):Bool:=decide (h.ps.length≤1000) && Sm.alls IL h.body
theorem LO {h:Hd} (h1:kX h=true) (h2:kH h=true) (h3:kY h=true):IM h=true:=by
 simp only [kX,Bool.and_eq_true,Bool.not_eq_true',Bool.or_eq_false_iff,decide_eq_false_iff_not] at h1;simp only [kH,Bool.and_eq_true] at h2;simp only [IM,Bool.and_eq_true,decide_eq_true_eq];refine ⟨by omega,SK (q:=fun s=>(nE s && iA s) && jY s) ?_ _ (oO _ (oO _ h1.2 h2.2) h3)⟩;rintro ⟨kd,nm,hd,ex,th,el⟩ hs;simp only [Bool.and_eq_true] at hs;obtain ⟨⟨k1,k2⟩,k3⟩:=hs;rw [IL,k3,Bool.true_and,List.all_eq_true];intro x hx;have k4:=(AH k3).2.2.2;simp only [nE,List.all_eq_true,decide_eq_true_eq] at k1;simp only [iA,Bool.and_eq_true] at k2;have:=IR (k1 x hx) (bW hx k2.2) (bW hx k4);simp only [decide_eq_true_eq];omega
theorem OZ (b:Bool):Lib.formatBool b=sZ b:=by cases b <;> decide
theorem nX (b:Bool) (w:World):Calls Tryz.prog 44 #[.bool b] w fun r w'=>r=.returned (aB (sZ b))∧Ext w w' :=
 (Tryz.strconv_FormatBool b w).mono fun _ _ ⟨he,hw⟩=>⟨by rw [he,OZ];rfl,hw ▸ Ext.refl w⟩
theorem CY (H:Hp) (g:Gt H) (n:Int) (h0:-9223372036854775808≤n) (h1:n≤9223372036854775807) (w:World) (hA:Agr H w):Calls Tryz.prog 45 #[.int .i64 n] w fun r w'=>r=.returned (aB (Lib.itoa n))∧Ext w w' :=
 (Tryz.strconv_Itoa n h0 h1 w (g w hA)).mono fun _ _ ⟨he,k,os,hw⟩=>⟨he,hw ▸ ((Ext.refl w).drewN k).trans (DL os)⟩
theorem NU {H:Hp} {W:World} (hA:Agr H W) (ps:List Str) {p:Option Addr} {c:Nat} (h:Rep H (.seq 1 (ps.map iM)) [.slice p ps.length c]) (hN:ps.length≤1000) (hl:(iK ps).length≤140737488355328) :
 Calls Tryz.prog 128 #[.slice p ps.length c,aB [44,32]] W fun e w'=>e=.returned (aB (iK ps))∧Ext W w':=by
 by_cases h0:ps.length=0
 ·obtain rfl:=List.eq_nil_of_length_eq_zero h0;exact (Tryz.strings_Join_none p c ⟨#[44,32]⟩ W).mono fun e w' ⟨he,hw⟩=>⟨he,hw ▸ Ext.refl W⟩
 ·obtain ⟨b,o,cs,rfl,r0,l0,⟨arr,T,m,m1,m2⟩⟩:=h.elem (bB (f:=iM) (show 0<ps.length by omega));refine EX W b o c ps (fun j x e=>?_) (fX (hA _ _ m1)) (by omega) h.len.2.1 hl;obtain ⟨b',o',cs',e1,r1,l1,m1'⟩:=h.elem (i:=j) (d:=iM x) (by rw [List.getElem?_map,e];rfl);cases e1;obtain ⟨rfl,_⟩:=nK r1;have:=m1'.cell (j:=0) hA rfl;simpa using this
theorem xT {n:Nat} {l:List Hd} {k:Nat} (h:k<l.length):qE n (l.take (k+1))=qE n (l.take k)++hdT n l[k]:=eQ h
theorem KE (n:Nat) (l:List Hd) (k:Nat):(qE n (l.take k)).length≤(qE n l).length:=kQ l k
theorem qW (H:Hp) (G:Gl H) (g:Gt H) (l:List Hd) (cs:List Value) (w0 W:World) (bs:List Res) (b:Nat) (a:Option Addr) (r:Value) (ind:Nat) (t:Str) (h:Rep H (dVs .u8 l) cs) (hf:l.all IM=true) (ha:(a=none∨a=some ⟨b,0,none⟩)) (hl:t.length+(qE ind l).length≤10000000000000) (hi:ind≤10000000000000) (s:St H w0 (.box b [.pointer a,r,.int .i64 (ind:Nat)] 117::.row 5 1 r (t).length ((t).map dI)::bs) W) :
 Calls Tryz.prog 88 #[.pointer (some ⟨b,0,none⟩),.agg cs.toArray] W fun e W'=>∃ z:Option Addr × Value,(z.1=none∨z.1=some ⟨b,0,none⟩)∧e=.returned (.tuple #[])∧St H w0 (.box b [.pointer z.1,z.2,.int .i64 (ind:Nat)] 117::.row 5 1 z.2 (t++qE ind l).length ((t++qE ind l).map dI)::bs) W':=by
 obtain ⟨p,c,rfl,hs⟩:=tH h;have hcap:=hs.cap;refine Sx.enterS Tryz.func88 rfl Tryz.ntmps88 rfl s ?_;refine .sr<|.bx Z Z Z fun b3=>.ns<|.yw (.fieldAddr Z Fx.field155_0)<|.yw (.load Z Fx.agg153 (.head _) Z)<|.yw (.lenSl Fx.sl153 Z)<|.mv Z<|.nt<|.bk<|.lp (X:=Nat × Option Addr × Value) [(0,_),(7,_),(8,_)] ⟨rfl,rfl,rfl,trivial⟩ (_::bs) (fun z=>[(9,.int .i64 (z.1:Nat))]) (fun z=>H) (fun z=>[.box b [.pointer z.2.1,z.2.2,.int .i64 (ind:Nat)] 117,.row 5 1 z.2.2 (t++qE ind (l.take z.1)).length ((t++qE ind (l.take z.1)).map dI)]) (fun z=>z.1≤l.length∧(z.2.1=none∨z.2.1=some ⟨b,0,none⟩)) (fun z=>l.length - z.1) (0,a,r) (fun _ s=>by have s2:=(s.p3_3 [1,2,0] Z);simpa [qE] using s2) ⟨rfl,trivial⟩ ⟨by simp,ha⟩ fun z hC=>?_
 obtain ⟨k,a,r⟩:=z;dsimp only at hC ⊢;obtain ⟨hk0,ha⟩:=hC;refine .sr<|.yw (.lss Z Z)<|.nt<|.sq<|.cd Z (fun h10=>?_) (fun h10=>?_)
 ·try simp only [dt] at h10
  have hk:k<l.length:=by omega
  obtain ⟨bE,oE,cE,hpE,rE,lE,mE⟩:=hs.elem (bB hk);cases hpE;have hf1:=lH hk hf;have hle:=KE ind l (k+1);rw [xT hk,List.length_append] at hle;generalize hx:l[k]=x at rE hf1 hle;obtain ⟨p1,c1,p2,c2,rfl,hn1,hs1,hs2⟩:=oW rE;simp only [IM,Bool.and_eq_true,decide_eq_true_eq] at hf1;obtain ⟨hf1,hf2⟩:=hf1;have hq:=dR ind [[125]];have hq2:=dR ind [[111,110,32],x.nm,[40],iK x.ps,[41,32,123]];simp only [List.flatten_cons,List.length_append] at hq2;simp only [hdT,List.length_append] at hle;exact .sk<|.tN<|.sq<|.bk<|.sr<|.yw (.indexSl Fx.sl153 Z Z Z (by omega) (q:=oE+k * 3) Z)<|.yw (.loadMW Z Fx.agg162 mE Z)<|.al Fx.zero162 Z fun b5=>.sW .head Z Z Fx.size162 (by simp [Value.oneCell',aB]) Z<|.nt<|.sq<|.fL 7 [(0,0),(1,0),(2,0),(3,0),(4,0),(5,0),(6,1)]<|.mv Z<|.yw (.fieldAddr Z Fx.field162_0)<|.yw (.load Z Fx.agg9 (.head _) Z)<|.yw (.fieldAddr Z Fx.field162_1)<|.yw (.load Z Fx.agg52 (.head _) Z)<|.yw (.call Fx.call128 Z (fun W s=>NU s.agr x.ps hs1 hf1 (by omega)))<|.bl Z (Fx.bsl52_5 _ _ _ _ _) Z fun b19=>.fn (tl:=[_]) Z<|.cs (X:=Value) Fx.call43 Z (fun W s=>eC (parts:=[[111,110,32],x.nm,[40],iK x.ps,[41,32,123]]) ha (nb Z) (by (try simp only [List.length_append]);omega) (s.p5_5 [2,3,0,1,4] Z)) Z fun r20 _=>.ns<|.mv Z<|.yw (.fieldAddr Z Fx.field162_2)<|.yw (.load Z Fx.agg159 gN Z)<|.cs (X:=Option Addr × Value) Fx.call129 Z (fun W s=>PA H G g _ _ _ _ _ _ _ _ _ _ _ _ hs2 hf2 (.inr Z) (by (try simp only [List.length_append]);omega) (by omega) (s.p5_4 [0,1,3,4] Z)) Z fun z24 hz24=>.nt<|.rg<|.mv Z<|.bl Z (Fx.bsl52_1 _) Z fun b26=>.cs (X:=Value) Fx.call43 Z (fun W s=>eC (parts:=[[125]]) hz24 (nb Z) (by (try simp only [List.length_append]);omega) (s.p5_5 [1,2,0,3,4] Z)) Z fun r27 _=>.nl<|.bN<|.tN<|.rg<|.yw (.add Z Z (w6 (by omega)))<|.mv Z<|.nt<|.ag (x:=(k,a,r)) (k+1,some ⟨b,0,none⟩,r27) ⟨rfl,trivial⟩ ⟨rfl,rfl,rfl,trivial⟩ (fun _ s=>by have s2:=(s.p5_3 [0,1,4] Z);dsimp only;rw [xT hk,hx,hdT];(try simp only [List.append_assoc] at s2 ⊢);(try simp only [List.cons_append] at s2 ⊢);(try simp only [List.nil_append] at s2 ⊢);(try simp only [List.append_nil] at s2 ⊢);exact s2) ⟨by dsimp only;omega,(.inr Z)⟩ (by dsimp only;omega)
 try simp only [df] at h10
 obtain rfl:k=l.length:=by omega
 rw [List.take_length];refine .ex<|.tE<|.tE<|.bE<|?_
 exact Sx.retN (.inr rfl) rfl .nil rfl fun W s=>⟨(_,_),ha,rfl,by have s2:=(s.p3_2 [0,1] rfl);(skip);(try simp only [List.append_assoc] at s2 ⊢);(try simp only [List.cons_append] at s2 ⊢);(try simp only [List.nil_append] at s2 ⊢);(try simp only [List.append_nil] at s2 ⊢);exact s2⟩
theorem wZ (H:Hp) (G:Gl H) (g:Gt H) (x:Cp) (cs:List Value) (w0 W:World) (bs:List Res) (b:Nat) (a:Option Addr) (r:Value) (t:Str) (h:Rep H (dCp .u8 x) cs) (hf:lM IM x=true) (ha:(a=none∨a=some ⟨b,0,none⟩)) (hl:t.length+(cpT x).length≤10000000000000) (s:St H w0 (.box b [.pointer a,r,.int .i64 (1:Nat)] 117::.row 5 1 r (t).length ((t).map dI)::bs) W) :
 Calls Tryz.prog 46 #[.pointer (some ⟨b,0,none⟩),.agg cs.toArray] W fun e W'=>∃ z:Option Addr × Value,(z.1=none∨z.1=some ⟨b,0,none⟩)∧e=.returned (.tuple #[])∧St H w0 (.box b [.pointer z.1,z.2,.int .i64 (1:Nat)] 117::.row 5 1 z.2 (t++cpT x).length ((t++cpT x).map dI)::bs) W':=by
 obtain ⟨p1,c1,p2,c2,rfl,hn1,hs1,hs2⟩:=oZ h;have hcap1:=hs1.cap;have hcap2:=hs2.cap;simp only [lM] at hf;rw [cpT] at hl;simp only [List.length_append] at hl;refine Sx.enterS Tryz.func46 rfl Tryz.ntmps46 rfl s ?_;refine .sr<|.bx Z Z Z fun b3=>.ns<|.mv Z<|.yw (.fieldAddr Z Fx.field110_0)<|.yw (.load Z Fx.agg9 (.head _) Z)<|.bl Z (Fx.bsl52_3 _ _ _) Z fun b11=>.cs (X:=Value) Fx.call43 Z (fun W s=>eC (parts:=[[99,111,109,112,111,110,101,110,116,32],x.nm,[32,123]]) ha (nb Z) (by (try simp only [List.length_append]);omega) (s.p4_4 [2,3,0,1] Z)) Z fun r12 _=>.ns<|.mv Z<|.yw (.nilCheck Z)<|.yw (.fieldAddr Z Fx.field117_1)<|.yw (.load Z Fx.agg3 (.head _) Z)<|.yw (.add Z Z (c:=((2:Nat):Int)) (by decide))<|.yw (.nilCheck Z)<|.yw (.fieldAddr Z Fx.field117_1)<|.st .head Z Z Fx.size3 Z (nb Z) Z<|.nt<|.sq<|.sr<|.yw (.fieldAddr Z Fx.field110_1)<|.yw (.load Z Fx.agg107 gN Z)<|.yw (.lenSl Fx.sl107 Z)<|.mv Z<|.nt<|.bk<|.lp (X:=Nat × Option Addr × Value) [(0,_),(3,_),(21,_),(22,_)] ⟨rfl,rfl,rfl,rfl,trivial⟩ (_::bs) (fun z=>[(23,.int .i64 (z.1:Nat))]) (fun z=>H) (fun z=>[.box b [.pointer z.2.1,z.2.2,.int .i64 (2:Nat)] 117,.row 5 1 z.2.2 (t++cY 1 [[99,111,109,112,111,110,101,110,116,32],x.nm,[32,123]]++((x.vars.take z.1).map (vrT 2)).flatten).length ((t++cY 1 [[99,111,109,112,111,110,101,110,116,32],x.nm,[32,123]]++((x.vars.take z.1).map (vrT 2)).flatten).map dI)]) (fun z=>z.1≤x.vars.length∧(z.2.1=none∨z.2.1=some ⟨b,0,none⟩)) (fun z=>x.vars.length - z.1) (0,some ⟨b,0,none⟩,r12) (fun _ s=>by have s2:=(s.p4_3 [0,1,3] Z);simpa using s2) ⟨rfl,trivial⟩ ⟨by simp,.inr Z⟩ fun z hC=>?_
 obtain ⟨k,a,r⟩:=z;dsimp only at hC ⊢;obtain ⟨hk0,ha⟩:=hC;refine .sr<|.yw (.lss Z Z)<|.nt<|.sq<|.cd Z (fun h24=>?_) (fun h24=>?_)
 ·try simp only [dt] at h24
  have hk:k<x.vars.length:=by omega
  obtain ⟨bE,oE,cE,hpE,rE,lE,mE⟩:=hs1.elem (bB hk);cases hpE;have hle:=kQ (g:=vrT 2) x.vars (k+1);rw [eQ hk,List.length_append] at hle;generalize hx:x.vars[k]=v at rE hle;obtain ⟨rfl,hn2⟩:=qJ rE;refine .sk<|.tN<|.sq<|.bk<|.sr<|.yw (.indexSl Fx.sl107 Z Z Z (by omega) (q:=oE+k * 3) Z)<|.yw (.loadMW Z Fx.agg151 mE Z)<|.al Fx.zero151 Z fun b5=>.sW .head Z Z Fx.size151 (by simp [Value.oneCell',aB]) Z<|.ns<|.yw (.fieldAddr Z Fx.field151_1)<|.yw (.load Z Fx.agg149 (.head _) Z)<|.nt<|.bk<|.sr<|.yw (.eql Z Z)<|.a Z Z<|.nt<|.cd Z (fun h29=>?_) (fun h29=>?_)
  ·try simp only [dt] at h29
   have e1:v.ty=1:=UInt8.toNat_inj.1 (by show v.ty.toNat=1;omega);rw [vrT,if_pos e1] at hle;exact .fL 7 [(0,0),(1,0),(2,0),(3,0),(4,0),(5,0),(6,1)]<|.mv Z<|.yw (.fieldAddr Z Fx.field151_0)<|.yw (.load Z Fx.agg9 (.head _) Z)<|.yw (.fieldAddr Z Fx.field151_2)<|.yw (.load Z Fx.agg2 (.head _) Z)<|.yw (.call Fx.call87 Z (fun W s=>pT H g v.init W s.agr))<|.bl Z (Fx.bsl52_5 _ _ _ _ _) Z fun b37=>.fn (tl:=[_]) Z<|.cs (X:=Value) Fx.call43 Z (fun W s=>eC (parts:=[[118,97,114,32],v.nm,[58,32,105,110,116,32,61,32],Lib.itoa v.init.toInt,[59]]) ha (nb Z) (by (try simp only [List.length_append]);omega) (s.p5_5 [2,3,0,1,4] Z)) Z fun r38 _=>.nl<|.bN<|.bN<|.tN<|.rg<|.yw (.add Z Z (w6 (by omega)))<|.mv Z<|.nt<|.ag (x:=(k,a,r)) (k+1,some ⟨b,0,none⟩,r38) ⟨rfl,trivial⟩ ⟨rfl,rfl,rfl,rfl,trivial⟩ (fun _ s=>by have s2:=(s.p5_3 [0,1,4] Z);dsimp only;rw [eQ hk,hx];(first | rw [vrT,if_pos e1] | rw [vrT,if_neg n1,if_pos e2] | rw [vrT,if_neg n1,if_neg n2,if_pos e3] | rw [vrT,if_neg n1,if_neg n2,if_neg n3]);(try simp only [List.append_assoc] at s2 ⊢);(try simp only [List.cons_append] at s2 ⊢);(try simp only [List.nil_append] at s2 ⊢);(try simp only [List.append_nil] at s2 ⊢);exact s2) ⟨by dsimp only;omega,(.inr Z)⟩ (by dsimp only;omega)
  try simp only [df] at h29
  have n1:¬ v.ty=1:=fun e=>h29 (by rw [e];rfl);refine .sr<|.yw (.eql Z Z)<|.a Z Z<|.nt<|.cd Z (fun h39=>?_) (fun h39=>?_)
  ·try simp only [dt] at h39
   have e2:v.ty=2:=UInt8.toNat_inj.1 (by show v.ty.toNat=2;omega);rw [vrT,if_neg n1,if_pos e2] at hle;exact .fL 8 [(0,0),(1,0),(2,0),(3,0),(4,0),(5,0),(6,0),(7,1)]<|.mv Z<|.yw (.fieldAddr Z Fx.field151_0)<|.yw (.load Z Fx.agg9 (.head _) Z)<|.yw (.fieldAddr Z Fx.field151_2)<|.yw (.load Z Fx.agg2 (.head _) Z)<|.yw (.eql Z Z)<|.yw (.call Fx.call44 Z (fun W s=>nX _ W))<|.bl Z (Fx.bsl52_5 _ _ _ _ _) Z fun b48=>.fn (tl:=[_]) Z<|.cs (X:=Value) Fx.call43 Z (fun W s=>eC (parts:=[[118,97,114,32],v.nm,[58,32,98,111,111,108,32,61,32],sZ (decide (v.init.toInt=1)),[59]]) ha (nb Z) (by (try simp only [List.length_append]);omega) (s.p5_5 [2,3,0,1,4] Z)) Z fun r49 _=>.nl<|.bN<|.bN<|.tN<|.rg<|.yw (.add Z Z (w6 (by omega)))<|.mv Z<|.nt<|.ag (x:=(k,a,r)) (k+1,some ⟨b,0,none⟩,r49) ⟨rfl,trivial⟩ ⟨rfl,rfl,rfl,rfl,trivial⟩ (fun _ s=>by have s2:=(s.p5_3 [0,1,4] Z);dsimp only;rw [eQ hk,hx];(first | rw [vrT,if_pos e1] | rw [vrT,if_neg n1,if_pos e2] | rw [vrT,if_neg n1,if_neg n2,if_pos e3] | rw [vrT,if_neg n1,if_neg n2,if_neg n3]);(try simp only [List.append_assoc] at s2 ⊢);(try simp only [List.cons_append] at s2 ⊢);(try simp only [List.nil_append] at s2 ⊢);(try simp only [List.append_nil] at s2 ⊢);exact s2) ⟨by dsimp only;omega,(.inr Z)⟩ (by dsimp only;omega)
  try simp only [df] at h39
  have n2:¬ v.ty=2:=fun e=>h39 (by rw [e];rfl);refine .sr<|.yw (.eql Z Z)<|.a Z Z<|.nt<|.cd Z (fun h50=>?_) (fun h50=>?_)
  ·try simp only [dt] at h50
   have e3:v.ty=3:=UInt8.toNat_inj.1 (by show v.ty.toNat=3;omega);rw [vrT,if_neg n1,if_neg n2,if_pos e3] at hle;exact .rg<|.mv Z<|.yw (.fieldAddr Z Fx.field151_0)<|.yw (.load Z Fx.agg9 (.head _) Z)<|.bl Z (Fx.bsl52_3 _ _ _) Z fun b55=>.cs (X:=Value) Fx.call43 Z (fun W s=>eC (parts:=[[118,97,114,32],v.nm,[58,32,116,97,98,108,101,59]]) ha (nb Z) (by (try simp only [List.length_append]);omega) (s.p5_5 [2,3,0,1,4] Z)) Z fun r56 _=>.nl<|.bN<|.bN<|.tN<|.rg<|.yw (.add Z Z (w6 (by omega)))<|.mv Z<|.nt<|.ag (x:=(k,a,r)) (k+1,some ⟨b,0,none⟩,r56) ⟨rfl,trivial⟩ ⟨rfl,rfl,rfl,rfl,trivial⟩ (fun _ s=>by have s2:=(s.p5_3 [0,1,4] Z);dsimp only;rw [eQ hk,hx];(first | rw [vrT,if_pos e1] | rw [vrT,if_neg n1,if_pos e2] | rw [vrT,if_neg n1,if_neg n2,if_pos e3] | rw [vrT,if_neg n1,if_neg n2,if_neg n3]);(try simp only [List.append_assoc] at s2 ⊢);(try simp only [List.cons_append] at s2 ⊢);(try simp only [List.nil_append] at s2 ⊢);(try simp only [List.append_nil] at s2 ⊢);exact s2) ⟨by dsimp only;omega,(.inr Z)⟩ (by dsimp only;omega)
  try simp only [df] at h50
  have n3:¬ v.ty=3:=fun e=>h50 (by rw [e];rfl);exact .sk<|.bN<|.bN<|.tN<|.rg<|.yw (.add Z Z (w6 (by omega)))<|.mv Z<|.nt<|.ag (x:=(k,a,r)) (k+1,a,r) ⟨rfl,trivial⟩ ⟨rfl,rfl,rfl,rfl,trivial⟩ (fun _ s=>by have s2:=s.drop;dsimp only;rw [eQ hk,hx];(first | rw [vrT,if_pos e1] | rw [vrT,if_neg n1,if_pos e2] | rw [vrT,if_neg n1,if_neg n2,if_pos e3] | rw [vrT,if_neg n1,if_neg n2,if_neg n3]);(try simp only [List.append_assoc] at s2 ⊢);(try simp only [List.cons_append] at s2 ⊢);(try simp only [List.nil_append] at s2 ⊢);(try simp only [List.append_nil] at s2 ⊢);exact s2) ⟨by dsimp only;omega,ha⟩ (by dsimp only;omega)
 try simp only [df] at h24
 obtain rfl:k=x.vars.length:=by omega
 rw [List.take_length];refine .ex<|.tE<|.tE<|.bE<|.tN<|.sq<|.sr<|.yw (.fieldAddr Z Fx.field110_2)<|.yw (.load Z Fx.agg108 cC Z)<|.yw (.lenSl Fx.sl108 Z)<|.mv Z<|.nt<|.bk<|.lp (X:=Nat × Option Addr × Value) [(0,_),(59,_),(60,_)] ⟨rfl,rfl,rfl,trivial⟩ (_::bs) (fun z=>[(61,.int .i64 (z.1:Nat))]) (fun z=>H) (fun z=>[.box b [.pointer z.2.1,z.2.2,.int .i64 (2:Nat)] 117,.row 5 1 z.2.2 (t++cY 1 [[99,111,109,112,111,110,101,110,116,32],x.nm,[32,123]]++(x.vars.map (vrT 2)).flatten++kW 2 0 (x.vers.take z.1)).length ((t++cY 1 [[99,111,109,112,111,110,101,110,116,32],x.nm,[32,123]]++(x.vars.map (vrT 2)).flatten++kW 2 0 (x.vers.take z.1)).map dI)]) (fun z=>z.1≤x.vers.length∧(z.2.1=none∨z.2.1=some ⟨b,0,none⟩)) (fun z=>x.vers.length - z.1) (0,a,r) (fun _ s=>by have s2:=s;simpa [kW] using s2) ⟨rfl,trivial⟩ ⟨by simp,ha⟩ fun z hC=>?_
 obtain ⟨k,a,r⟩:=z;dsimp only at hC ⊢;obtain ⟨hk0,ha⟩:=hC;refine .sr<|.yw (.lss Z Z)<|.nt<|.sq<|.cd Z (fun h62=>?_) (fun h62=>?_)
 ·try simp only [dt] at h62
  have hk:k<x.vers.length:=by omega
  obtain ⟨bE,oE,cE,hpE,rE,lE,mE⟩:=hs2.elem (bB hk);cases hpE;have hf1:=lH hk hf;have hle:=IE 2 x.vers (k+1);rw [rM hk,List.length_append] at hle;generalize hx:x.vers[k]=v at rE hf1 hle;refine .sk<|.tN<|.sq<|.bk<|.sr<|.mv Z<|.yw (.indexSl Fx.sl108 Z Z Z (by omega) (q:=oE+k * 1) Z)<|.yw (.loadMW Z Fx.agg155 mE lE)<|.al Fx.zero155 Z fun b7=>.a Z Z<|.sV .head Z Z Fx.size155 lE rE.one Z<|.nt<|.sq<|.sr<|.mv Z<|.yw (.eql Z Z)<|.nt<|.cd Z (fun h67=>?_) (fun h67=>?_)
  ·try simp only [dt] at h67
   have q:k=0:=by omega
   rw [vsT,if_pos q] at hle;exact .sr<|.mv Z<|.yw (.loadW Z Fx.agg155 (.head _) lE)<|.cs (X:=Option Addr × Value) Fx.call88 Z (fun W s=>qW H G g _ _ _ _ _ _ _ _ _ _ rE hf1 ha (by (try simp only [List.length_append]);omega) (by omega) (s.p4_4 [1,2,0,3] Z)) Z fun z70 hz70=>.nt<|.ex<|.tE<|.bE<|.tN<|.rg<|.yw (.add Z Z (w6 (by omega)))<|.mv Z<|.nt<|.ag (x:=(k,a,r)) (k+1,z70.1,z70.2) ⟨rfl,trivial⟩ ⟨rfl,rfl,rfl,trivial⟩ (fun _ s=>by have s2:=(s.p4_3 [0,1,3] Z);dsimp only;rw [rM hk,hx];(first | rw [vsT,if_pos q] | rw [vsT,if_neg q]);(try simp only [List.append_assoc] at s2 ⊢);(try simp only [List.cons_append] at s2 ⊢);(try simp only [List.nil_append] at s2 ⊢);(try simp only [List.append_nil] at s2 ⊢);exact s2) ⟨by dsimp only;omega,hz70⟩ (by dsimp only;omega)
  try simp only [df] at h67
  have q:¬ k=0:=by omega
  rw [vsT,if_neg q,show (2:Nat)+1=3 from rfl] at hle;simp only [List.length_append] at hle;exact .sk<|.tN<|.sr<|.mv Z<|.mv Z<|.yw (.add Z Z (c:=((k+1:Nat):Int)) ((w6 (by omega)).trans (by omega)))<|.yw (.call Fx.call45 Z (fun W s=>CY H g _ (by omega) (by omega) W s.agr))<|.bl Z (Fx.bsl52_3 _ _ _) Z fun b75=>.cs (X:=Value) Fx.call43 Z (fun W s=>eC (parts:=[[118,101,114,115,105,111,110,32],Lib.itoa ((k+1:Nat):Int),[32,123]]) ha (nb Z) (by (try simp only [List.length_append]);omega) (s.p5_5 [2,3,0,1,4] Z)) Z fun r76 _=>.ns<|.mv Z<|.yw (.nilCheck Z)<|.yw (.fieldAddr Z Fx.field117_1)<|.yw (.load Z Fx.agg3 (.head _) Z)<|.yw (.add Z Z (c:=((3:Nat):Int)) (by decide))<|.yw (.nilCheck Z)<|.yw (.fieldAddr Z Fx.field117_1)<|.st .head Z Z Fx.size3 Z (nb Z) Z<|.ns<|.mv Z<|.yw (.loadW Z Fx.agg155 gN lE)<|.cs (X:=Option Addr × Value) Fx.call88 Z (fun W s=>qW H G g _ _ _ _ _ _ _ _ _ _ rE hf1 (.inr Z) (by (try simp only [List.length_append]);omega) (by omega) (s.p5_4 [0,1,3,4] Z)) Z fun z86 hz86=>.ns<|.mv Z<|.yw (.nilCheck Z)<|.yw (.fieldAddr Z Fx.field117_1)<|.yw (.load Z Fx.agg3 (.head _) Z)<|.yw (.sub Z Z (c:=((2:Nat):Int)) (by decide))<|.yw (.nilCheck Z)<|.yw (.fieldAddr Z Fx.field117_1)<|.st .head Z Z Fx.size3 Z (nb Z) Z<|.nt<|.rg<|.mv Z<|.bl Z (Fx.bsl52_1 _) Z fun b95=>.cs (X:=Value) Fx.call43 Z (fun W s=>eC (parts:=[[125]]) hz86 (nb Z) (by (try simp only [List.length_append]);omega) (s.p5_5 [1,2,0,3,4] Z)) Z fun r96 _=>.nl<|.bN<|.tN<|.rg<|.yw (.add Z Z (w6 (by omega)))<|.mv Z<|.nt<|.ag (x:=(k,a,r)) (k+1,some ⟨b,0,none⟩,r96) ⟨rfl,trivial⟩ ⟨rfl,rfl,rfl,trivial⟩ (fun _ s=>by have s2:=(s.p5_3 [0,1,4] Z);dsimp only;rw [rM hk,hx];(first | rw [vsT,if_pos q] | rw [vsT,if_neg q]);(try simp only [List.append_assoc] at s2 ⊢);(try simp only [List.cons_append] at s2 ⊢);(try simp only [List.nil_append] at s2 ⊢);(try simp only [List.append_nil] at s2 ⊢);exact s2) ⟨by dsimp only;omega,(.inr Z)⟩ (by dsimp only;omega)
 try simp only [df] at h62
 obtain rfl:k=x.vers.length:=by omega
 rw [List.take_length];refine .ex<|.tE<|.tE<|.bE<|.tN<|.sr<|.mv Z<|.yw (.nilCheck Z)<|.yw (.fieldAddr Z Fx.field117_1)<|.yw (.load Z Fx.agg3 (.head _) Z)<|.yw (.sub Z Z (c:=((1:Nat):Int)) (by decide))<|.yw (.nilCheck Z)<|.yw (.fieldAddr Z Fx.field117_1)<|.st .head Z Z Fx.size3 Z (nb Z) Z<|.nt<|.rg<|.mv Z<|.bl Z (Fx.bsl52_1 _) Z fun b106=>.cs (X:=Value) Fx.call43 Z (fun W s=>eC (parts:=[[125]]) ha (nb Z) (by (try simp only [List.length_append]);omega) (s.p4_4 [1,2,0,3] Z)) Z fun r107 _=>.nl<|?_
 exact Sx.retN (.inr rfl) rfl .nil rfl fun W s=>⟨(_,_),(.inr rfl),rfl,by have s2:=(s.p4_2 [0,1] rfl);(rw [cpT]);(try simp only [List.append_assoc] at s2 ⊢);(try simp only [List.cons_append] at s2 ⊢);(try simp only [List.nil_append] at s2 ⊢);(try simp only [List.append_nil] at s2 ⊢);exact s2⟩
theorem LU {H:Hp} {w0 W:World} {bs:List Res} {b:Nat} {a:Option Addr} {r i:Value} {l:Str} (s:St H w0 (.box b [.pointer a,r,i] 117::.row 5 1 r l.length (l.map dI)::bs) W) (h0:l≠[]) (hl:l.length≤140737488355328) :
 Calls Tryz.prog 47 #[.pointer (some ⟨b,0,none⟩)] W fun e W'=>∃ _:Unit,True∧e=.returned (aB l)∧St H w0 [] W':=by
 have ho:=(s.own _ (.tail _ (.head _))).1;rcases ho.2 with ⟨_,h⟩ | ⟨g,cap,cur,rfl,_,_,h1,_⟩
 ·exact absurd (List.eq_nil_of_length_eq_zero h) h0
 ·exact IU s h0 h1 hl
theorem IP {x:Ft} (h:bU x=0):x.comps.all (lM IM)=true:=by
 unfold bU at h
 split at h
 ·cases h
 split at h
 ·cases h
 split at h
 ·cases h
 rename_i h1 h2 h3;simp only [Bool.not_eq_false,gY,tB,lQ,Bool.and_eq_true] at h1 h2 h3;have k1:=h1.2.2;have k2:=h2.2;have k3:=h3.2;rw [nB] at k1 k2 k3;simp only [lM,List.all_eq_true] at k1 k2 k3 ⊢;exact fun c hc v hv d hd=>LO (k1 c hc v hv d hd) (k2 c hc v hv d hd) (k3 c hc v hv d hd)
theorem JK (H:Hp) (G:Gl H) (g:Gt H) (x:Ft) (cs:List Value) (h:Rep H (dFt .u8 x) cs) (hok:evH okH x=true) (hl0:bU x=0→(ftT x).length≤10000000000000) (w:World) (hA:Agr H w) :
 Calls Tryz.prog 21 #[.agg cs.toArray] w fun r w'=>r=.returned (aB (if bU x=0 then ftT x else []))∧Ext w w':=by
 obtain ⟨p1,c1,p2,c2,p3,c3,rfl,hn1,hs1,hs2,hs3⟩:=lK h;have hcap1:=hs1.cap;have hcap2:=hs2.cap;have hcap3:=hs3.cap;refine Sx.enter (H:=H) Tryz.func21 rfl Tryz.ntmps21 rfl hA ?_;refine .sr<|.bx Z Z Z fun b1=>.a Z Z<|.nt<|.sq<|.sr<|.yw (.loadW Z Fx.agg49 (.head _) Z)<|.yw (.call Fx.call35 Z (fun W s=>yI H G x _ h hok W s.agr))<|.yw (.neq Z Z)<|.nt<|.cd Z (fun h12=>?_) (fun h12=>?_)
 ·try simp only [dt] at h12
  refine .sr<|.a Z Z<|.nt<|.rt<|.tR<|?_
  exact Sx.ret1 (.inl rfl) rfl (.tmp rfl) fun W s=>⟨by rw [if_neg (by omega)];rfl,s.ext⟩
 try simp only [df] at h12
 have hck:bU x=0:=by simp at h12;omega
 have hl:=hl0 hck;rw [ftT] at hl;simp only [List.length_append] at hl;have h00:([]:Str).length=0:=rfl;have hf:=IP hck;refine .sk<|.tN<|.sr<|.yw (.build Z Fx.bld117)<|.bx Z Z Z fun b=>?_
 refine Sx.row0 5 1 ?_;refine .a Z Z<|.ns<|.mv Z<|.yw (.fieldAddr Z Fx.field49_0)<|.yw (.load Z Fx.agg9 cC Z)<|.bl Z (Fx.bsl52_3 _ _ _) Z fun b18=>.cs (X:=Value) Fx.call43 Z (fun W s=>eC (t:=[]) (parts:=[[102,108,101,101,116,32],x.nm,[32,123]]) (.inl Z) (nb Z) (by (try simp only [List.length_append]);omega) (s.p4_4 [2,1,0,3] Z)) Z fun r19 _=>.ns<|.mv Z<|.yw (.nilCheck Z)<|.yw (.fieldAddr Z Fx.field117_1)<|.yw (.load Z Fx.agg3 (.head _) Z)<|.yw (.add Z Z (c:=((1:Nat):Int)) (by decide))<|.yw (.nilCheck Z)<|.yw (.fieldAddr Z Fx.field117_1)<|.st .head Z Z Fx.size3 Z (nb Z) Z<|.nt<|.sq<|.sr<|.yw (.fieldAddr Z Fx.field49_1)<|.yw (.load Z Fx.agg45 gN Z)<|.yw (.lenSl Fx.sl45 Z)<|.mv Z<|.nt<|.bk<|.lp (X:=Nat × Option Addr × Value) [(1,_),(3,_),(28,_),(29,_)] ⟨rfl,rfl,rfl,rfl,trivial⟩ (_::[]) (fun z=>[(30,.int .i64 (z.1:Nat))]) (fun z=>H) (fun z=>[.box b [.pointer z.2.1,z.2.2,.int .i64 (1:Nat)] 117,.row 5 1 z.2.2 ([]++cY 0 [[102,108,101,101,116,32],x.nm,[32,123]]++((x.flags.take z.1).map fgT).flatten).length (([]++cY 0 [[102,108,101,101,116,32],x.nm,[32,123]]++((x.flags.take z.1).map fgT).flatten).map dI)]) (fun z=>z.1≤x.flags.length∧(z.2.1=none∨z.2.1=some ⟨b,0,none⟩)) (fun z=>x.flags.length - z.1) (0,some ⟨b,0,none⟩,r19) (fun _ s=>by have s2:=(s.p4_3 [0,1,3] Z);simpa using s2) ⟨rfl,trivial⟩ ⟨by simp,.inr Z⟩ fun z hC=>?_
 obtain ⟨k,a,r⟩:=z;dsimp only at hC ⊢;obtain ⟨hk0,ha⟩:=hC;refine .sr<|.yw (.lss Z Z)<|.nt<|.sq<|.cd Z (fun h31=>?_) (fun h31=>?_)
 ·try simp only [dt] at h31
  have hk:k<x.flags.length:=by omega
  obtain ⟨bE,oE,cE,hpE,rE,lE,mE⟩:=hs1.elem (bB hk);cases hpE;have hle:=kQ (g:=fgT) x.flags (k+1);rw [eQ hk,List.length_append] at hle;generalize hx:x.flags[k]=v at rE hle;obtain ⟨rfl,hn2⟩:=AK rE;rw [fgT] at hle;exact .sk<|.tN<|.sq<|.bk<|.sr<|.yw (.indexSl Fx.sl45 Z Z Z (by omega) (q:=oE+k * 2) Z)<|.yw (.loadMW Z Fx.agg102 mE Z)<|.al Fx.zero102 Z fun b5=>.sW .head Z Z Fx.size102 (by simp [Value.oneCell',aB]) Z<|.nt<|.fL 7 [(0,0),(1,0),(2,0),(3,0),(4,0),(5,0),(6,1)]<|.mv Z<|.yw (.fieldAddr Z Fx.field102_0)<|.yw (.load Z Fx.agg9 (.head _) Z)<|.yw (.fieldAddr Z Fx.field102_1)<|.yw (.load Z Fx.agg4 (.head _) Z)<|.yw (.call Fx.call44 Z (fun W s=>nX _ W))<|.bl Z (Fx.bsl52_5 _ _ _ _ _) Z fun b40=>.fn (tl:=[_]) Z<|.cs (X:=Value) Fx.call43 Z (fun W s=>eC (parts:=[[102,108,97,103,32],v.nm,[32,61,32],sZ v.init,[59]]) ha (nb Z) (by (try simp only [List.length_append]);omega) (s.p5_5 [2,3,0,1,4] Z)) Z fun r41 _=>.nl<|.bN<|.tN<|.rg<|.yw (.add Z Z (w6 (by omega)))<|.mv Z<|.nt<|.ag (x:=(k,a,r)) (k+1,some ⟨b,0,none⟩,r41) ⟨rfl,trivial⟩ ⟨rfl,rfl,rfl,rfl,trivial⟩ (fun _ s=>by have s2:=(s.p5_3 [0,1,4] Z);dsimp only;rw [eQ hk,hx,fgT];(try simp only [List.append_assoc] at s2 ⊢);(try simp only [List.cons_append] at s2 ⊢);(try simp only [List.nil_append] at s2 ⊢);(try simp only [List.append_nil] at s2 ⊢);exact s2) ⟨by dsimp only;omega,(.inr Z)⟩ (by dsimp only;omega)
 try simp only [df] at h31
 obtain rfl:k=x.flags.length:=by omega
 rw [List.take_length];refine .ex<|.tE<|.tE<|.bE<|.tN<|.sq<|.sr<|.yw (.fieldAddr Z Fx.field49_2)<|.yw (.load Z Fx.agg46 cC Z)<|.yw (.lenSl Fx.sl46 Z)<|.mv Z<|.nt<|.bk<|.lp (X:=Nat × Option Addr × Value) [(1,_),(3,_),(44,_),(45,_)] ⟨rfl,rfl,rfl,rfl,trivial⟩ (_::[]) (fun z=>[(46,.int .i64 (z.1:Nat))]) (fun z=>H) (fun z=>[.box b [.pointer z.2.1,z.2.2,.int .i64 (1:Nat)] 117,.row 5 1 z.2.2 ([]++cY 0 [[102,108,101,101,116,32],x.nm,[32,123]]++(x.flags.map fgT).flatten++((x.links.take z.1).map lkT).flatten).length (([]++cY 0 [[102,108,101,101,116,32],x.nm,[32,123]]++(x.flags.map fgT).flatten++((x.links.take z.1).map lkT).flatten).map dI)]) (fun z=>z.1≤x.links.length∧(z.2.1=none∨z.2.1=some ⟨b,0,none⟩)) (fun z=>x.links.length - z.1) (0,a,r) (fun _ s=>by have s2:=s;simpa using s2) ⟨rfl,trivial⟩ ⟨by simp,ha⟩ fun z hC=>?_
 obtain ⟨k,a,r⟩:=z;dsimp only at hC ⊢;obtain ⟨hk0,ha⟩:=hC;refine .sr<|.yw (.lss Z Z)<|.nt<|.sq<|.cd Z (fun h47=>?_) (fun h47=>?_)
 ·try simp only [dt] at h47
  have hk:k<x.links.length:=by omega
  obtain ⟨bE,oE,cE,hpE,rE,lE,mE⟩:=hs2.elem (bB hk);cases hpE;have hle:=kQ (g:=lkT) x.links (k+1);rw [eQ hk,List.length_append] at hle;generalize hx:x.links[k]=v at rE hle;obtain ⟨rfl,hn2,hn3⟩:=tS rE;rw [lkT] at hle;exact .sk<|.tN<|.sq<|.bk<|.sr<|.yw (.indexSl Fx.sl46 Z Z Z (by omega) (q:=oE+k * 3) Z)<|.yw (.loadMW Z Fx.agg105 mE Z)<|.al Fx.zero105 Z fun b7=>.sW .head Z Z Fx.size105 (by simp [Value.oneCell',aB]) Z<|.nt<|.fL 9 [(0,0),(1,0),(2,0),(3,0),(4,0),(5,0),(6,0),(7,0),(8,1)]<|.mv Z<|.yw (.fieldAddr Z Fx.field105_0)<|.yw (.load Z Fx.agg9 (.head _) Z)<|.yw (.fieldAddr Z Fx.field105_1)<|.yw (.load Z Fx.agg9 (.head _) Z)<|.yw (.fieldAddr Z Fx.field105_2)<|.yw (.load Z Fx.agg3 (.head _) Z)<|.yw (.call Fx.call45 Z (fun W s=>CY H g _ (by have:=v.lat.le_toInt;omega) (by have:=v.lat.toInt_lt;omega) W s.agr))<|.bl Z (Fx.bsl52_7 _ _ _ _ _ _ _) Z fun b58=>.fn (tl:=[_]) Z<|.cs (X:=Value) Fx.call43 Z (fun W s=>eC (parts:=[[108,105,110,107,32],v.fr,[32,45,62,32],v.to,[32,108,97,116,101,110,99,121,32],Lib.itoa v.lat.toInt,[59]]) ha (nb Z) (by (try simp only [List.length_append]);omega) (s.p5_5 [2,3,0,1,4] Z)) Z fun r59 _=>.nl<|.bN<|.tN<|.rg<|.yw (.add Z Z (w6 (by omega)))<|.mv Z<|.nt<|.ag (x:=(k,a,r)) (k+1,some ⟨b,0,none⟩,r59) ⟨rfl,trivial⟩ ⟨rfl,rfl,rfl,rfl,trivial⟩ (fun _ s=>by have s2:=(s.p5_3 [0,1,4] Z);dsimp only;rw [eQ hk,hx,lkT];(try simp only [List.append_assoc] at s2 ⊢);(try simp only [List.cons_append] at s2 ⊢);(try simp only [List.nil_append] at s2 ⊢);(try simp only [List.append_nil] at s2 ⊢);exact s2) ⟨by dsimp only;omega,(.inr Z)⟩ (by dsimp only;omega)
 try simp only [df] at h47
 obtain rfl:k=x.links.length:=by omega
 rw [List.take_length];refine .ex<|.tE<|.tE<|.bE<|.tN<|.sq<|.sr<|.yw (.fieldAddr Z Fx.field49_3)<|.yw (.load Z Fx.agg47 cC Z)<|.yw (.lenSl Fx.sl47 Z)<|.mv Z<|.nt<|.bk<|.lp (X:=Nat × Option Addr × Value) [(3,_),(62,_),(63,_)] ⟨rfl,rfl,rfl,trivial⟩ (_::[]) (fun z=>[(64,.int .i64 (z.1:Nat))]) (fun z=>H) (fun z=>[.box b [.pointer z.2.1,z.2.2,.int .i64 (1:Nat)] 117,.row 5 1 z.2.2 ([]++cY 0 [[102,108,101,101,116,32],x.nm,[32,123]]++(x.flags.map fgT).flatten++(x.links.map lkT).flatten++((x.comps.take z.1).map cpT).flatten).length (([]++cY 0 [[102,108,101,101,116,32],x.nm,[32,123]]++(x.flags.map fgT).flatten++(x.links.map lkT).flatten++((x.comps.take z.1).map cpT).flatten).map dI)]) (fun z=>z.1≤x.comps.length∧(z.2.1=none∨z.2.1=some ⟨b,0,none⟩)) (fun z=>x.comps.length - z.1) (0,a,r) (fun _ s=>by have s2:=s;simpa using s2) ⟨rfl,trivial⟩ ⟨by simp,ha⟩ fun z hC=>?_
 obtain ⟨k,a,r⟩:=z;dsimp only at hC ⊢;obtain ⟨hk0,ha⟩:=hC;refine .sr<|.yw (.lss Z Z)<|.nt<|.sq<|.cd Z (fun h65=>?_) (fun h65=>?_)
 ·try simp only [dt] at h65
  have hk:k<x.comps.length:=by omega
  obtain ⟨bE,oE,cE,hpE,rE,lE,mE⟩:=hs3.elem (bB hk);cases hpE;have hle:=kQ (g:=cpT) x.comps (k+1);rw [eQ hk,List.length_append] at hle;have hf1:=lH hk hf;generalize hx:x.comps[k]=v at rE hle hf1;exact .sk<|.tN<|.sq<|.bk<|.sr<|.yw (.indexSl Fx.sl47 Z Z Z (by omega) (q:=oE+k * 3) Z)<|.yw (.loadMW Z Fx.agg110 mE lE)<|.al Fx.zero110 Z fun b9=>.sV .head Z Z Fx.size110 lE rE.one Z<|.nt<|.rg<|.mv Z<|.yw (.loadW Z Fx.agg110 (.head _) lE)<|.cs (X:=Option Addr × Value) Fx.call46 Z (fun W s=>wZ H G g _ _ _ _ _ _ _ _ _ rE hf1 ha (by (try simp only [List.length_append]);omega) (s.p4_4 [1,2,0,3] Z)) Z fun z70 hz70=>.nl<|.bN<|.tN<|.rg<|.yw (.add Z Z (w6 (by omega)))<|.mv Z<|.nt<|.ag (x:=(k,a,r)) (k+1,z70.1,z70.2) ⟨rfl,trivial⟩ ⟨rfl,rfl,rfl,trivial⟩ (fun _ s=>by have s2:=(s.p4_3 [0,1,3] Z);dsimp only;rw [eQ hk,hx];(try simp only [List.append_assoc] at s2 ⊢);(try simp only [List.cons_append] at s2 ⊢);(try simp only [List.nil_append] at s2 ⊢);(try simp only [List.append_nil] at s2 ⊢);exact s2) ⟨by dsimp only;omega,hz70⟩ (by dsimp only;omega)
 try simp only [df] at h65
 obtain rfl:k=x.comps.length:=by omega
 rw [List.take_length];refine .ex<|.tE<|.tE<|.bE<|.tN<|.sr<|.mv Z<|.yw (.nilCheck Z)<|.yw (.fieldAddr Z Fx.field117_1)<|.yw (.load Z Fx.agg3 (.head _) Z)<|.yw (.sub Z Z (c:=((0:Nat):Int)) (by decide))<|.yw (.nilCheck Z)<|.yw (.fieldAddr Z Fx.field117_1)<|.st .head Z Z Fx.size3 Z (nb Z) Z<|.ns<|.mv Z<|.bl Z (Fx.bsl52_1 _) Z fun b80=>.cs (X:=Value) Fx.call43 Z (fun W s=>eC (parts:=[[125]]) ha (nb Z) (by (try simp only [List.length_append]);omega) (s.p4_4 [1,2,0,3] Z)) Z fun r81 _=>.ns<|.mv Z<|.yw (.nilCheck Z)<|.yw (.fieldAddr Z Fx.field117_0)<|.cs (X:=Unit) Fx.call47 Z (fun W s=>LU (s.p4_2 [0,1] Z) (by simp [cY]) (by (try simp only [List.length_append]);omega)) Z fun _ _=>.a Z Z<|.nt<|.rt<|?_
 exact Sx.ret1 (.inl rfl) rfl (.tmp rfl) fun W s=>⟨by rw [if_pos hck,ftT];simp,s.ext⟩
theorem eJ {H:Hp} {k:IntKind} {e:Ex} {cs:List Value} (h:Rep H (dEx k e) cs):cs.length=4:=by
 obtain ⟨op,nm,n,args⟩:=e;obtain ⟨p,c,rfl,_⟩:=bZ h
 rfl
def ExC (f:FuncId) (g:Pz Ex) (M:Nat):Prop:=∀ {H:Hp} {w0 W:World} {bs:List Res} {b n:Nat} {ts:List Tk} {tp:Option Addr} {tc:Nat} {t0 t1 t2 t3:Value} {q:Sg},(_ :  Tkm H ts tp tc)→(_:q.r<:+ts)→q.mu<M→St H w0 (.box b [.slice tp ts.length tc,.int .i64 (bT ts q:Nat),.int .i64 (n:Nat),t0,t1,t2,t3,.int .i64 (q.o:Nat),.int .i64 (q.e:Nat)] 99::bs) W →
 Calls Tryz.prog f #[.pointer (some ⟨b,0,none⟩)] W fun e W'=>∃ z:Ex × List Value × Hp,(vl g q z.1∧HUp w0 H z.2.2∧Rep z.2.2 (dEx .u8 z.1) z.2.1)∧e=.returned (.agg z.2.1.toArray)∧St z.2.2 w0 (.box b [.slice tp ts.length tc,.int .i64 (bT ts (up n g q):Nat),.int .i64 (n:Nat),t0,t1,t2,t3,.int .i64 ((up n g q).o:Nat),.int .i64 ((up n g q).e:Nat)] 99::bs) W'
theorem ExC.zero (f:FuncId) (g:Pz Ex):ExC f g 0:=fun _ _ h _=>absurd h (Nat.not_lt_zero _)
theorem jJ {l:List Value} (h:l.length=4):∃ a b c d,l=[a,b,c,d]:=by match l,h with | [a,b,c,d],_=>exact ⟨a,b,c,d,rfl⟩
structure LfI (n lv:Nat) (q:Sg) (a:Ex) (q1:Sg):Prop where
 eq:up n (gL lv a) q1=up n (gX lv) q
 val:∀ y,vl (gL lv a) q1 y→vl (gX lv) q y
 mu:q1.mu≤q.mu
theorem LfI.start {n lv:Nat} {q:Sg} {a:Ex} (hl:lv<5) (hv:vl (gX (lv+1)) q a):LfI n lv q a (up n (gX (lv+1)) q):=by
 refine ⟨?_,fun y hy=>?_,eN (Shs.gx _).le (Cz.ex _)⟩
 ·rw [rX hl,aA (Cz.ex _) hv]
 ·rw [rX hl];exact aC hv hy
theorem LfI.step {n lv:Nat} {q q1:Sg} {a b:Ex} {op:UInt8} (hl:lv≤4) (hne:lv≠2) (h:LfI n lv q a q1) (hop:opF (nF lv) q1=some op) (hb:vl (gX (lv+1)) q1.tl b) :
 LfI n lv q (opE op [a,b]) (up n (gX (lv+1)) q1.tl)∧(up n (gX (lv+1)) q1.tl).mu<q1.mu:=by
 have h1:=eN (n:=n) (s:=q1.tl) (Shs.gx (lv+1)).le (Cz.ex (lv+1));have h2:=zN hop;rw [tK] at hop;have e:gK lv op a b=gL lv (opE op [a,b]):=by unfold gK;rw [if_neg hne]
 refine ⟨⟨?_,fun y hy=>h.val y (LA hl hop (aC (n:=n) hb (by rw [e];exact hy))),by have:=h.mu;omega⟩,by omega⟩;rw [← h.eq,LE hl hop,aA (Cz.ex _) hb,e]
theorem LfI.stop {n lv:Nat} {q q1:Sg} {a:Ex} (h:LfI n lv q a q1) (hop:opF (nF lv) q1=none):up n (gX lv) q=q1∧vl (gX lv) q a:=by
 rw [tK] at hop;obtain ⟨e1,e2⟩:=LF (n:=n) (a:=a) hop;exact ⟨by rw [← h.eq,e1],h.val a e2⟩
theorem MQ {L:List (Str × UInt8)} {q:Sg} {op:UInt8} (h:opF L q=some op):opZ L q=q.tl:=by unfold opZ;rw [h];rfl
theorem MR {L:List (Str × UInt8)} {q:Sg} (h:opF L q=none):opZ L q=q:=by unfold opZ;rw [h];rfl
theorem tU {H:Hp} {w0 W:World} {bs:List Res} {b n:Nat} {ts:List Tk} {tp:Option Addr} {tc:Nat} {t0 t1 t2 t3:Value} {q:Sg} (K:Tkm H ts tp tc) (hq:q.r<:+ts) (lv:Nat) (hl:lv≤4) (hne:lv≠2) (M:Nat) (f:FuncId) (hcall:aM Tryz.prog f=true) (hop:ExC f (gX (lv+1)) M) (hmu:q.mu<M) (hL:∀ x∈nF lv,x.1∈words∨x.1∈symbols) (lp:Option Addr) (lc:Nat) (hs:Rep H (.seq 2 ((nF lv).map dSy)) [.slice lp (nF lv).length lc]) (s:St H w0 (.box b [.slice tp ts.length tc,.int .i64 (bT ts q:Nat),.int .i64 (n:Nat),t0,t1,t2,t3,.int .i64 (q.o:Nat),.int .i64 (q.e:Nat)] 99::bs) W) :
 Calls Tryz.prog 48 #[.pointer (some ⟨b,0,none⟩),.func (.func f) #[.pointer (some ⟨b,0,none⟩)] #[],.slice lp (nF lv).length lc] W fun e W'=>∃ z:Ex × List Value × Hp,(vl (gX lv) q z.1∧HUp w0 H z.2.2∧Rep z.2.2 (dEx .u8 z.1) z.2.1)∧e=.returned (.agg z.2.1.toArray)∧St z.2.2 w0 (.box b [.slice tp ts.length tc,.int .i64 (bT ts (up n (gX lv) q):Nat),.int .i64 (n:Nat),t0,t1,t2,t3,.int .i64 ((up n (gX lv) q).o:Nat),.int .i64 ((up n (gX lv) q).e:Nat)] 99::bs) W':=by
 refine Sx.enterS Tryz.func48 rfl Tryz.ntmps48 rfl s ?_;refine .sr<|.al Fx.zero27 Z fun b6=>.ns<|.mv Z<|.sv (X:=Ex × List Value × Hp) (fi:=[.pointer (some ⟨b,0,none⟩)]) (ca:=[]) Z hcall Z (fun W s=>hop K hq hmu (s.p2_2 [1,0] Z)) Z fun z1 hz1=>?_
 obtain ⟨a1,c1,H1⟩:=z1;obtain ⟨hv1,u1,r1⟩:=hz1;dsimp only at hv1 u1 r1 ⊢;obtain ⟨x1,x2,x3,x4,rfl⟩:=jJ (eJ r1);have K1:=K.up u1.up;refine .al Fx.zero27 Z fun b7=>.sW .head Z Z Fx.size27 (Rep.one r1) Z<|.nt<|.bk<|.lp (X:=(Ex × Value × Value × Value × Value) × Hp × Sg) [(0,_),(1,_),(2,_),(6,_),(7,_)] ⟨rfl,rfl,rfl,rfl,rfl,trivial⟩ (_::bs) (fun z=>[]) (fun z=>z.2.1) (fun z=>[.box b7 [z.1.2.1,z.1.2.2.1,z.1.2.2.2.1,z.1.2.2.2.2] 27,.box b [.slice tp ts.length tc,.int .i64 (bT ts z.2.2:Nat),.int .i64 (n:Nat),t0,t1,t2,t3,.int .i64 (z.2.2.o:Nat),.int .i64 (z.2.2.e:Nat)] 99]) (fun z=>LfI n lv q z.1.1 z.2.2∧HUp w0 H z.2.1∧Rep z.2.1 (dEx .u8 z.1.1) [z.1.2.1,z.1.2.2.1,z.1.2.2.2.1,z.1.2.2.2.2]∧z.2.2.r<:+ts) (fun z=>z.2.2.mu) ((a1,x1,x2,x3,x4),H1,up n (gX (lv+1)) q) (fun _ s=>s) trivial ⟨LfI.start (by omega) hv1,u1,r1,(Suf.ex _).up hq⟩ fun z hC=>?_
 obtain ⟨⟨a,y1,y2,y3,y4⟩,H1,q1⟩:=z;obtain ⟨hI,u1,r1,hq1⟩:=hC;dsimp only at hI u1 r1 hq1 ⊢;have K1:=K.up u1.up;refine .bk<|.sr<|.mv Z<|.mv Z<|.cs (X:=Unit) Fx.call89 Z (fun W s=>nP K1 hq1 (nF lv) hL lp lc (hs.up u1.up) (s.p3_3 [1,0,2] Z)) Z fun _ _=>.mv Z<|.yw (.extract Z Z)<|.yw (.extract Z Z)<|.a Z Z<|.a Z Z<|.nt<|.sq<|.sr<|.mv Z<|.yw (.not Z)<|.nt<|.cd Z (fun h19=>?_) (fun h19=>?_)
 ·have hN:opF (nF lv) q1=none:=by simpa using h19
  rw [MR hN];obtain ⟨e1,hv⟩:=hI.stop hN;rw [e1];refine .sr<|.yw (.loadW Z Fx.agg27 aW Z)<|.sW cJ Z Z Fx.size27 (Rep.one r1) Z<|.nt<|.rt<|.tR<|.bR<|.tR<|.bR<|?_
  refine Sx.ret1 (.inl rfl) rfl (.cell rfl Fx.agg27 cC rfl) fun W s=>?_;exact ⟨(a,[y1,y2,y3,y4],H1),⟨hv,u1,r1⟩,rfl,s.p3_1 [0] rfl⟩
 obtain ⟨op,hS⟩:∃ op,opF (nF lv) q1=some op:=Option.isSome_iff_exists.1 (by simpa using h19);rw [MQ hS,hS];have hmu1:q1.tl.mu<M:=by have:=zN hS;have:=hI.mu;omega
 refine .sk<|.tN<|.fL 6 [(0,0),(1,0),(2,0),(3,3),(4,1),(5,0)]<|.mv Z<|.yw (.loadW Z Fx.agg27 aW Z)<|.mv Z<|.v3 (X:=Ex × List Value × Hp) (fi:=[.pointer (some ⟨b,0,none⟩)]) (ca:=[]) Z hcall Z (fun W s=>hop K1 (Suf.tl hq1) hmu1 (s.p3_3 [0,1,2] Z)) Z (fun _ _=>(.dn<|.yv (.loadW Z Fx.agg27 aW Z)<|.yv (.move Z)<|.nl)) fun z2 hz2=>?_
 obtain ⟨a2,c2,H2⟩:=z2;obtain ⟨hv2,u2,r2⟩:=hz2;dsimp only at hv2 u2 r2 ⊢;obtain ⟨w1,w2,w3,w4,rfl⟩:=jJ (eJ r2);exact .blF Z (Fx.bsl25_2 _ _ _ _ _ _ _ _) Z fun b25 H3 u3 m3=>.yw (.build Z (Fx.bld27_0_3 _ _ _ _))<|.fn (tl:=[_]) Z<|.sW bQ Z Z Fx.size27 (by simp [Value.oneCell']) Z<|.nl<|.bN<|.tN<|.ag (x:=((a,y1,y2,y3,y4),H1,q1)) ((opE op [a,a2],.int .u8 op.toNat,.string ⟨#[]⟩,.int .i64 0,.slice (some ⟨b25,0,none⟩) 2 2),H3,up n (gX (lv+1)) q1.tl) trivial ⟨rfl,rfl,rfl,rfl,rfl,trivial⟩ (fun _ s=>(s.p3_3 [1,0,2] Z)) ⟨(hI.step hl hne hS hv2).1,u1.trans (u2.trans u3),dM (op:=op) (nm:=[]) (n:=0) (args:=[a,a2]) (by decide) (Rep.mk (n:=2) (c:=2) m3 (aL.app (aL.single (r1.up (u2.trans u3).up) Z) (aL.single (r2.up u3.up) Z)) Z (Nat.le_refl _) (by decide)),(Suf.ex _).up (Suf.tl hq1)⟩ (hI.step hl hne hS hv2).2
theorem RT (M:Nat) (hop:ExC 49 (gX 1) M):ExC 23 (gX 0) M:=by
 intro H w0 W bs b n ts tp tc t0 t1 t2 t3 q K hq hmu s;refine Sx.enterS Tryz.func23 rfl Tryz.ntmps23 rfl s ?_;refine .sr<|.al Fx.zero27 Z fun b2=>.ns<|.mv Z<|.mv Z<|.yw (.mkF Z Z)<|.yw (.build Z (Fx.bld125_0_1 _ _))<|.bl Z (Fx.bsl195_1 _ _) Z fun b7=>?_
 refine Sx.freezeBox fun H1 u1 m1=>?_
 have hs1:Rep H1 (.seq 2 (([([111,114],23)]:List (Str × UInt8)).map dSy)) [.slice (some ⟨b7,0,none⟩) 1 1]:=by
  simp only [List.map_cons,List.map_nil];exact Rep.mk (n:=1) (c:=1) m1 (ds:=[dSy ([111,114],23)]) (.single (fZ (x:=([111,114],23)) (by decide)) rfl) rfl (Nat.le_refl _) (by decide)
 have K1:=K.up u1.up;refine .cs (X:=Ex × List Value × Hp) Fx.call48 Z (fun W s=>tU K1 hq 0 (by decide) (by decide) M 49 Fx.call49 hop hmu (by decide +kernel) _ _ hs1 (s.p2_2 [1,0] Z)) Z fun z1 hz1=>?_;obtain ⟨a1,c1,H2⟩:=z1;obtain ⟨hv1,u2,r1⟩:=hz1;dsimp only at hv1 u2 r1 ⊢;obtain ⟨x1,x2,x3,x4,rfl⟩:=jJ (eJ r1);refine .sW bQ Z Z Fx.size27 (Rep.one r1) Z<|.nt<|.rt<|?_
 refine Sx.ret1 (.inl rfl) rfl (.cell rfl Fx.agg27 aW rfl) fun W s=>?_;exact ⟨(a1,[x1,x2,x3,x4],H2),⟨hv1,u1.trans u2,r1⟩,rfl,s.p2_1 [0] rfl⟩
theorem SA (M:Nat) (hop:ExC 90 (gX 2) M):ExC 49 (gX 1) M:=by
 intro H w0 W bs b n ts tp tc t0 t1 t2 t3 q K hq hmu s;refine Sx.enterS Tryz.func49 rfl Tryz.ntmps49 rfl s ?_;refine .sr<|.al Fx.zero27 Z fun b2=>.ns<|.mv Z<|.mv Z<|.yw (.mkF Z Z)<|.yw (.build Z (Fx.bld125_0_1 _ _))<|.bl Z (Fx.bsl195_1 _ _) Z fun b7=>?_
 refine Sx.freezeBox fun H1 u1 m1=>?_
 have hs1:Rep H1 (.seq 2 (([([97,110,100],22)]:List (Str × UInt8)).map dSy)) [.slice (some ⟨b7,0,none⟩) 1 1]:=by
  simp only [List.map_cons,List.map_nil];exact Rep.mk (n:=1) (c:=1) m1 (ds:=[dSy ([97,110,100],22)]) (.single (fZ (x:=([97,110,100],22)) (by decide)) rfl) rfl (Nat.le_refl _) (by decide)
 have K1:=K.up u1.up;refine .cs (X:=Ex × List Value × Hp) Fx.call48 Z (fun W s=>tU K1 hq 1 (by decide) (by decide) M 90 Fx.call90 hop hmu (by decide +kernel) _ _ hs1 (s.p2_2 [1,0] Z)) Z fun z1 hz1=>?_;obtain ⟨a1,c1,H2⟩:=z1;obtain ⟨hv1,u2,r1⟩:=hz1;dsimp only at hv1 u2 r1 ⊢;obtain ⟨x1,x2,x3,x4,rfl⟩:=jJ (eJ r1);refine .sW bQ Z Z Fx.size27 (Rep.one r1) Z<|.nt<|.rt<|?_
 refine Sx.ret1 (.inl rfl) rfl (.cell rfl Fx.agg27 aW rfl) fun W s=>?_;exact ⟨(a1,[x1,x2,x3,x4],H2),⟨hv1,u1.trans u2,r1⟩,rfl,s.p2_1 [0] rfl⟩
theorem TS (M:Nat) (hop:ExC 157 (gX 4) M):ExC 130 (gX 3) M:=by
 intro H w0 W bs b n ts tp tc t0 t1 t2 t3 q K hq hmu s;refine Sx.enterS Tryz.func130 rfl Tryz.ntmps130 rfl s ?_;refine .sr<|.al Fx.zero27 Z fun b2=>.ns<|.mv Z<|.mv Z<|.yw (.mkF Z Z)<|.yw (.build Z (Fx.bld125_0_1 _ _))<|.yw (.build Z (Fx.bld125_0_1 _ _))<|.bl Z (Fx.bsl195_2 _ _ _ _) Z fun b8=>?_
 refine Sx.freezeBox fun H1 u1 m1=>?_
 have hs1:Rep H1 (.seq 2 (([([43],14),([45],15)]:List (Str × UInt8)).map dSy)) [.slice (some ⟨b8,0,none⟩) 2 2]:=by
  simp only [List.map_cons,List.map_nil];exact Rep.mk (n:=2) (c:=2) m1 (ds:=[dSy ([43],14),dSy ([45],15)]) (aL.snoc (.single (fZ (x:=([43],14)) (by decide)) rfl) (fZ (x:=([45],15)) (by decide)) rfl) rfl (Nat.le_refl _) (by decide)
 have K1:=K.up u1.up;refine .cs (X:=Ex × List Value × Hp) Fx.call48 Z (fun W s=>tU K1 hq 3 (by decide) (by decide) M 157 Fx.call157 hop hmu (by decide +kernel) _ _ hs1 (s.p2_2 [1,0] Z)) Z fun z1 hz1=>?_;obtain ⟨a1,c1,H2⟩:=z1;obtain ⟨hv1,u2,r1⟩:=hz1;dsimp only at hv1 u2 r1 ⊢;obtain ⟨x1,x2,x3,x4,rfl⟩:=jJ (eJ r1);refine .sW bQ Z Z Fx.size27 (Rep.one r1) Z<|.nt<|.rt<|?_
 refine Sx.ret1 (.inl rfl) rfl (.cell rfl Fx.agg27 aW rfl) fun W s=>?_;exact ⟨(a1,[x1,x2,x3,x4],H2),⟨hv1,u1.trans u2,r1⟩,rfl,s.p2_1 [0] rfl⟩
theorem EP (M:Nat) (hop:ExC 172 (gX 5) M):ExC 157 (gX 4) M:=by
 intro H w0 W bs b n ts tp tc t0 t1 t2 t3 q K hq hmu s;refine Sx.enterS Tryz.func157 rfl Tryz.ntmps157 rfl s ?_;refine .sr<|.al Fx.zero27 Z fun b2=>.ns<|.mv Z<|.mv Z<|.yw (.mkF Z Z)<|.yw (.build Z (Fx.bld125_0_1 _ _))<|.yw (.build Z (Fx.bld125_0_1 _ _))<|.yw (.build Z (Fx.bld125_0_1 _ _))<|.bl Z (Fx.bsl195_3 _ _ _ _ _ _) Z fun b9=>?_
 refine Sx.freezeBox fun H1 u1 m1=>?_
 have hs1:Rep H1 (.seq 2 (([([42],11),([47],12),([37],13)]:List (Str × UInt8)).map dSy)) [.slice (some ⟨b9,0,none⟩) 3 3]:=by
  simp only [List.map_cons,List.map_nil];exact Rep.mk (n:=3) (c:=3) m1 (ds:=[dSy ([42],11),dSy ([47],12),dSy ([37],13)]) (aL.snoc (aL.snoc (.single (fZ (x:=([42],11)) (by decide)) rfl) (fZ (x:=([47],12)) (by decide)) rfl) (fZ (x:=([37],13)) (by decide)) rfl) rfl (Nat.le_refl _) (by decide)
 have K1:=K.up u1.up;refine .cs (X:=Ex × List Value × Hp) Fx.call48 Z (fun W s=>tU K1 hq 4 (by decide) (by decide) M 172 Fx.call172 hop hmu (by decide +kernel) _ _ hs1 (s.p2_2 [1,0] Z)) Z fun z1 hz1=>?_;obtain ⟨a1,c1,H2⟩:=z1;obtain ⟨hv1,u2,r1⟩:=hz1;dsimp only at hv1 u2 r1 ⊢;obtain ⟨x1,x2,x3,x4,rfl⟩:=jJ (eJ r1);refine .sW bQ Z Z Fx.size27 (Rep.one r1) Z<|.nt<|.rt<|?_
 refine Sx.ret1 (.inl rfl) rfl (.cell rfl Fx.agg27 aW rfl) fun W s=>?_;exact ⟨(a1,[x1,x2,x3,x4],H2),⟨hv1,u1.trans u2,r1⟩,rfl,s.p2_1 [0] rfl⟩
theorem SD {n:Nat} {q:Sg} {a b:Ex} {op:UInt8} (hv1:vl (gX 3) q a) (hS:opF (nF 2) (up n (gX 3) q)=some op) (hv2:vl (gX 3) (up n (gX 3) q).tl b):up n (gX 3) (up n (gX 3) q).tl=up n (gX 2) q∧vl (gX 2) q (opE op [a,b]):=by
 rw [tK] at hS;have e:gK 2 op a b=aO (opE op [a,b]):=by unfold gK;rw [if_pos rfl]
 rw [rX (lv:=2) (by decide)];refine ⟨?_,aC hv1 (LA (by decide) hS (aC (n:=n) hv2 (by rw [e];exact aX)))⟩;rw [aA (Cz.ex _) hv1,LE (by decide) hS,aA (Cz.ex _) hv2,e,aZ]
theorem SC {n:Nat} {q:Sg} {a:Ex} (hv1:vl (gX 3) q a) (hN:opF (nF 2) (up n (gX 3) q)=none):up n (gX 3) q=up n (gX 2) q∧vl (gX 2) q a:=by
 rw [tK] at hN;obtain ⟨e1,e2⟩:=LF (n:=n) (a:=a) hN;rw [rX (lv:=2) (by decide)];exact ⟨by rw [aA (Cz.ex _) hv1,e1],aC hv1 e2⟩
theorem SB (M:Nat) (hop:ExC 130 (gX 3) M):ExC 90 (gX 2) M:=by
 intro H w0 W bs b n ts tp tc t0 t1 t2 t3 q K hq hmu s;refine Sx.enterS Tryz.func90 rfl Tryz.ntmps90 rfl s ?_;refine .sr<|.al Fx.zero27 Z fun b2=>.ns<|.mv Z<|.cs (X:=Ex × List Value × Hp) Fx.call130 Z (fun W s=>hop K hq hmu (s.p2_2 [1,0] Z)) Z fun z1 hz1=>?_
 obtain ⟨a1,c1,H1⟩:=z1;obtain ⟨hv1,u1,r1⟩:=hz1;dsimp only at hv1 u1 r1 ⊢;obtain ⟨x1,x2,x3,x4,rfl⟩:=jJ (eJ r1);have hq1:=(Suf.ex 3).up (n:=n) hq;refine .al Fx.zero27 Z fun b3=>.sW .head Z Z Fx.size27 (Rep.one r1) Z<|.ns<|.mv Z<|.yw (.build Z (Fx.bld125_0_1 _ _))<|.yw (.build Z (Fx.bld125_0_1 _ _))<|.yw (.build Z (Fx.bld125_0_1 _ _))<|.yw (.build Z (Fx.bld125_0_1 _ _))<|.yw (.build Z (Fx.bld125_0_1 _ _))<|.yw (.build Z (Fx.bld125_0_1 _ _))<|.bl Z (Fx.bsl195_6 _ _ _ _ _ _ _ _ _ _ _ _) Z fun b16=>?_
 refine Sx.freezeBox fun H2 u2 m2=>?_
 have hs1:Rep H2 (.seq 2 (([([61,61],16),([33,61],17),([60],18),([60,61],19),([62],20),([62,61],21)]:List (Str × UInt8)).map dSy)) [.slice (some ⟨b16,0,none⟩) 6 6]:=by
  simp only [List.map_cons,List.map_nil];exact Rep.mk (n:=6) (c:=6) m2 (ds:=[dSy ([61,61],16),dSy ([33,61],17),dSy ([60],18),dSy ([60,61],19),dSy ([62],20),dSy ([62,61],21)]) (aL.snoc (aL.snoc (aL.snoc (aL.snoc (aL.snoc (.single (fZ (x:=([61,61],16)) (by decide)) rfl) (fZ (x:=([33,61],17)) (by decide)) rfl) (fZ (x:=([60],18)) (by decide)) rfl) (fZ (x:=([60,61],19)) (by decide)) rfl) (fZ (x:=([62],20)) (by decide)) rfl) (fZ (x:=([62,61],21)) (by decide)) rfl) rfl (Nat.le_refl _) (by decide)
 have K2:=K.up (u1.trans u2).up;refine .cs (X:=Unit) Fx.call89 Z (fun W s=>nP K2 hq1 (nF 2) (by decide +kernel) _ _ hs1 (s.p3_3 [1,0,2] Z)) Z fun _ _=>.mv Z<|.yw (.extract Z Z)<|.yw (.extract Z Z)<|.a Z Z<|.a Z Z<|.nt<|.cu (X:=(Ex × Value × Value × Value × Value) × Hp × Sg) [(2,_),(3,_)] ⟨rfl,rfl,trivial⟩ (fun z=>[]) (fun z=>z.2.1) (fun z=>(.box b3 [z.1.2.1,z.1.2.2.1,z.1.2.2.2.1,z.1.2.2.2.2] 27::.box b [.slice tp ts.length tc,.int .i64 (bT ts z.2.2:Nat),.int .i64 (n:Nat),t0,t1,t2,t3,.int .i64 (z.2.2.o:Nat),.int .i64 (z.2.2.e:Nat)] 99::.box b2 [.int .u8 0,.string ⟨#[]⟩,.int .i64 0,.slice none 0 0] 27::bs)) (fun z=>(z.2.2=up n (gX 2) q∧vl (gX 2) q z.1.1)∧HUp w0 H z.2.1∧Rep z.2.1 (dEx .u8 z.1.1) [z.1.2.1,z.1.2.2.1,z.1.2.2.2.1,z.1.2.2.2.2]) ?_ fun z hC=>?_
 ·
  refine .sr<|.mv Z<|.nt<|.cd Z (fun h20=>?_) (fun h20=>?_)
  ·obtain ⟨op,hS⟩:∃ op,opF (nF 2) (up n (gX 3) q)=some op:=Option.isSome_iff_exists.1 h20;rw [MQ hS,hS];have hmu1:(up n (gX 3) q).tl.mu<M:=by have:=zN hS;have:=eN (n:=n) (s:=q) (Shs.gx 3).le (Cz.ex 3);omega
   refine .fL 6 [(0,0),(1,0),(2,0),(3,3),(4,1),(5,0)]<|.mv Z<|.yw (.loadW Z Fx.agg27 aW Z)<|.mv Z<|.c3 (X:=Ex × List Value × Hp) Fx.call130 Z (fun W s=>hop K2 (Suf.tl hq1) hmu1 (s.p3_3 [0,1,2] Z)) Z (fun _ _=>(.dn<|.yv (.loadW Z Fx.agg27 aW Z)<|.yv (.move Z)<|.nl)) fun z2 hz2=>?_
   obtain ⟨a2,c2,H3⟩:=z2;obtain ⟨hv2,u3,r2⟩:=hz2;dsimp only at hv2 u3 r2 ⊢;obtain ⟨w1,w2,w3,w4,rfl⟩:=jJ (eJ r2);exact .blF Z (Fx.bsl25_2 _ _ _ _ _ _ _ _) Z fun b25 H4 u4 m4=>.yw (.build Z (Fx.bld27_0_3 _ _ _ _))<|.fn (tl:=[_]) Z<|.sW bQ Z Z Fx.size27 (by simp [Value.oneCell']) Z<|.nt<|.me ((opE op [a1,a2],.int .u8 op.toNat,.string ⟨#[]⟩,.int .i64 0,.slice (some ⟨b25,0,none⟩) 2 2),H4,up n (gX 3) (up n (gX 3) q).tl) trivial ⟨rfl,rfl,trivial⟩ (fun _ s=>(s.p3_3 [1,0,2] Z)) ⟨SD hv1 hS hv2,u1.trans (u2.trans (u3.trans u4)),dM (op:=op) (nm:=[]) (n:=0) (args:=[a1,a2]) (by decide) (Rep.mk (n:=2) (c:=2) m4 (aL.app (aL.single (r1.up (u2.trans (u3.trans u4)).up) Z) (aL.single (r2.up u4.up) Z)) Z (Nat.le_refl _) (by decide))⟩
  have hN:opF (nF 2) (up n (gX 3) q)=none:=by simpa using h20
  rw [MR hN];exact .sk<|.tN<|.me ((a1,x1,x2,x3,x4),H2,up n (gX 3) q) trivial ⟨rfl,rfl,trivial⟩ (fun _ s=>(s.p3_3 [1,0,2] Z)) ⟨SC hv1 hN,u1.trans u2,r1.up u2.up⟩
 obtain ⟨⟨a5,y1,y2,y3,y4⟩,H5,q5⟩:=z;obtain ⟨⟨e5,hv5⟩,u5,r5⟩:=hC;dsimp only at e5 hv5 u5 r5 ⊢;subst e5;refine .sr<|.yw (.loadW Z Fx.agg27 (.head _) Z)<|.sW cJ Z Z Fx.size27 (Rep.one r5) Z<|.nt<|.rt<|?_
 refine Sx.ret1 (.inl rfl) rfl (.cell rfl Fx.agg27 cC rfl) fun W s=>?_;exact ⟨(a5,[y1,y2,y3,y4],H5),⟨hv5,u5,r5⟩,rfl,s.p3_1 [1] rfl⟩
theorem SU {n:Nat} {q:Sg} {a:Ex} (hN:opF [([45],9),([110,111,116],10)] q=none) (hv:vl dX q a):up n (gX 5) q=up n dX q∧vl (gX 5) q a:=by
 have h:=(Option.map_eq_none_iff.1 hN);rw [List.find?_eq_none] at h;have h1:ac [45] q=false:=by have:=h ([45],9) (by simp);simpa using this
 have h2:ac [110,111,116] q=false:=by have:=h ([110,111,116],10) (by simp);simpa using this
 rw [wC,zH];exact ⟨by rw [aK h1,aK h2],aJ h1 (aJ h2 hv)⟩
theorem ST {n:Nat} {q:Sg} {a:Ex} {op:UInt8} (hS:opF [([45],9),([110,111,116],10)] q=some op) (hv:vl (gX 5) q.tl a):up n (gX 5) q=up n (gX 5) q.tl∧vl (gX 5) q (opE op [a]):=by
 obtain ⟨x,hx,e⟩:=Option.map_eq_some_iff.1 hS;have hp:=List.find?_some (p:=fun x:Str × UInt8=>ac x.1 q) hx;rcases List.mem_cons.1 (List.mem_of_find?_eq_some hx) with rfl | hm
 ·have h1:ac [45] q=true:=hp;obtain rfl:9=op:=e;rw [show up n (gX 5) q=up n (gX 5) q.tl by conv=>lhs;rw [wC,cQ h1,nI]];exact ⟨rfl,by rw [wC];exact bY h1 (mT (f:=fun x=>opE 9 [x]) hv)⟩
 ·obtain rfl:=List.mem_singleton.1 hm;have h1:ac [45] q=false:=WX (w:=[110,111,116]) hp (by decide);have h2:ac [110,111,116] q=true:=hp;obtain rfl:10=op:=e;rw [show up n (gX 5) q=up n (gX 5) q.tl by conv=>lhs;rw [wC,aK h1,cQ h2,nI]];exact ⟨rfl,by rw [wC];exact aJ h1 (bY h2 (mT (f:=fun x=>opE 10 [x]) hv))⟩
theorem LI (M:Nat) (hun:ExC 172 (gX 5) M) (hprim:ExC 182 dX (M+1)):ExC 172 (gX 5) (M+1):=by
 intro H w0 W bs b n ts tp tc t0 t1 t2 t3 q K hq hmu s;refine Sx.enterS Tryz.func172 rfl Tryz.ntmps172 rfl s ?_;refine .sr<|.al Fx.zero27 Z fun b2=>.ns<|.mv Z<|.yw (.build Z (Fx.bld125_0_1 _ _))<|.yw (.build Z (Fx.bld125_0_1 _ _))<|.bl Z (Fx.bsl195_2 _ _ _ _) Z fun b9=>?_
 refine Sx.freezeBox fun H1 u1 m1=>?_
 have hs1:Rep H1 (.seq 2 (([([45],9),([110,111,116],10)]:List (Str × UInt8)).map dSy)) [.slice (some ⟨b9,0,none⟩) 2 2]:=by
  simp only [List.map_cons,List.map_nil];exact Rep.mk (n:=2) (c:=2) m1 (ds:=[dSy ([45],9),dSy ([110,111,116],10)]) (aL.snoc (.single (fZ (x:=([45],9)) (by decide)) rfl) (fZ (x:=([110,111,116],10)) (by decide)) rfl) rfl (Nat.le_refl _) (by decide)
 have K1:=K.up u1.up;refine .cs (X:=Unit) Fx.call89 Z (fun W s=>nP K1 hq [([45],9),([110,111,116],10)] (by decide +kernel) _ _ hs1 (s.p2_2 [1,0] Z)) Z fun _ _=>.mv Z<|.yw (.extract Z Z)<|.yw (.extract Z Z)<|.a Z Z<|.a Z Z<|.nt<|.sq<|.sr<|.mv Z<|.yw (.not Z)<|.nt<|.cd Z (fun h14=>?_) (fun h14=>?_)
 ·have hN:opF [([45],9),([110,111,116],10)] q=none:=by simpa using h14
  rw [MR hN];refine .sr<|.mv Z<|.cs (X:=Ex × List Value × Hp) Fx.call182 Z (fun W s=>hprim K1 hq hmu (s.p2_2 [0,1] Z)) Z fun z1 hz1=>?_
  obtain ⟨a1,c1,H2⟩:=z1;obtain ⟨hv1,u2,r1⟩:=hz1;dsimp only at hv1 u2 r1 ⊢;obtain ⟨x1,x2,x3,x4,rfl⟩:=jJ (eJ r1);refine .sW bQ Z Z Fx.size27 (Rep.one r1) Z<|.nt<|.rt<|.tR<|?_
  refine Sx.ret1 (.inl rfl) rfl (.cell rfl Fx.agg27 aW rfl) fun W s=>?_;rw [(SU (n:=n) hN hv1).1];exact ⟨(a1,[x1,x2,x3,x4],H2),⟨(SU (n:=n) hN hv1).2,u1.trans u2,r1⟩,rfl,s.p2_1 [0] rfl⟩
 obtain ⟨op,hS⟩:∃ op,opF [([45],9),([110,111,116],10)] q=some op:=Option.isSome_iff_exists.1 (by simpa using h14);rw [MQ hS,hS];have hmu1:q.tl.mu<M:=by have:=zN hS;omega
 refine .sk<|.tN<|.sr<|.mv Z<|.mv Z<|.cs (X:=Ex × List Value × Hp) Fx.call172 Z (fun W s=>hun K1 (Suf.tl hq) hmu1 (s.p2_2 [0,1] Z)) Z fun z1 hz1=>?_
 obtain ⟨a1,c1,H2⟩:=z1;obtain ⟨hv1,u2,r1⟩:=hz1;dsimp only at hv1 u2 r1 ⊢;obtain ⟨x1,x2,x3,x4,rfl⟩:=jJ (eJ r1);refine .bl Z (Fx.bsl25_1 _ _ _ _) Z fun b20=>?_;refine Sx.freezeBox fun H3 u3 m3=>?_;refine .yw (.build Z (Fx.bld27_0_3 _ _ _ _))<|.sW bQ Z Z Fx.size27 (by simp [Value.oneCell']) Z<|.nt<|.rt<|?_
 refine Sx.ret1 (.inl rfl) rfl (.cell rfl Fx.agg27 aW rfl) fun W s=>?_;rw [(ST (n:=n) hS hv1).1];exact ⟨(opE op [a1],[.int .u8 op.toNat,.string ⟨#[]⟩,.int .i64 0,.slice (some ⟨b20,0,none⟩) 1 1],H3),⟨(ST (n:=n) hS hv1).2,u1.trans (u2.trans u3),dM (op:=op) (nm:=[]) (n:=0) (args:=[a1]) (by decide) (Rep.mk (n:=1) (c:=1) m3 (.single (r1.up u3.up) rfl) rfl (Nat.le_refl _) (by decide))⟩,rfl,s.p2_1 [0] rfl⟩
def gKy (op:UInt8) (nm:Str):Pz Ex:=aF (gNd [91]) fun _=>DF op nm
theorem NS {n:Nat} {q:Sg} {a:Ex} (op:UInt8) (nm:Str) (hv:vl (gX 0) (up n (gNd [91]) q) a):up n (gKy op nm) q=up n (gNd [93]) (up n (gX 0) (up n (gNd [91]) q))∧vl (gKy op nm) q (.mk op nm 0 [a]):=by
 unfold gKy DF;refine ⟨?_,aC (n:=n) (x:=()) aG (aC (n:=n) hv (aC (n:=n) (x:=()) aG aX))⟩;rw [aA (x:=()) (Cz.nd _) aG,aA (Cz.ex _) hv,aA (x:=()) (Cz.nd _) aG,aZ]
theorem NR (M:Nat) (hex:ExC 23 (gX 0) M) {H:Hp} {w0 W:World} {bs:List Res} {b n:Nat} {ts:List Tk} {tp:Option Addr} {tc:Nat} {t0 t1 t2 t3:Value} {q:Sg} (K:Tkm H ts tp tc) (hq:q.r<:+ts) (op:UInt8) (nm:Str) (hn:nm.length≤1000000) (hm:(up n (gNd [91]) q).mu<M) (s:St H w0 (.box b [.slice tp ts.length tc,.int .i64 (bT ts q:Nat),.int .i64 (n:Nat),t0,t1,t2,t3,.int .i64 (q.o:Nat),.int .i64 (q.e:Nat)] 99::bs) W) :
 Calls Tryz.prog 185 #[.pointer (some ⟨b,0,none⟩),.int .u8 op.toNat,aB nm] W fun e W'=>∃ z:Ex × List Value × Hp,(vl (gKy op nm) q z.1∧HUp w0 H z.2.2∧Rep z.2.2 (dEx .u8 z.1) z.2.1)∧e=.returned (.agg z.2.1.toArray)∧St z.2.2 w0 (.box b [.slice tp ts.length tc,.int .i64 (bT ts (up n (gKy op nm) q):Nat),.int .i64 (n:Nat),t0,t1,t2,t3,.int .i64 ((up n (gKy op nm) q).o:Nat),.int .i64 ((up n (gKy op nm) q).e:Nat)] 99::bs) W':=by
 refine Sx.enterS Tryz.func185 rfl Tryz.ntmps185 rfl s ?_;refine .sr<|.al Fx.zero27 Z fun b6=>.ns<|.mv Z<|.cs (X:=Unit) Fx.call73 Z (fun W s=>aP K hq [91] (by decide +kernel) (s.p2_2 [1,0] Z)) Z fun _ _=>.ns<|.mv Z<|.cs (X:=Ex × List Value × Hp) Fx.call23 Z (fun W s=>hex K ((Suf.nd _).up hq) hm (s.p2_2 [0,1] Z)) Z fun z1 hz1=>?_
 obtain ⟨a1,c1,H1⟩:=z1;obtain ⟨hv1,u1,r1⟩:=hz1;dsimp only at hv1 u1 r1 ⊢;obtain ⟨x1,x2,x3,x4,rfl⟩:=jJ (eJ r1);have K1:=K.up u1.up;refine .al Fx.zero27 Z fun b7=>.sW .head Z Z Fx.size27 (Rep.one r1) Z<|.ns<|.mv Z<|.cs (X:=Unit) Fx.call73 Z (fun W s=>aP K1 ((Suf.ex 0).up ((Suf.nd _).up hq)) [93] (by decide +kernel) (s.p3_3 [1,0,2] Z)) Z fun _ _=>.ns<|.mv Z<|.mv Z<|.yw (.loadW Z Fx.agg27 aW Z)<|.bl Z (Fx.bsl25_1 _ _ _ _) Z fun b17=>?_
 refine Sx.freezeBox fun H2 u2 m2=>?_;refine .yw (.build Z (Fx.bld27_0_1_3 _ _ _ _ _))<|.sW cJ Z Z Fx.size27 (by simp [Value.oneCell',aB]) Z<|.nt<|.rt<|?_
 refine Sx.ret1 (.inl rfl) rfl (.cell rfl Fx.agg27 cC rfl) fun W s=>?_;rw [(NS (n:=n) op nm hv1).1];exact ⟨(.mk op nm 0 [a1],[.int .u8 op.toNat,aB nm,.int .i64 0,.slice (some ⟨b17,0,none⟩) 1 1],H2),⟨(NS (n:=n) op nm hv1).2,u1.trans u2,dM (op:=op) (nm:=nm) (n:=0) (args:=[a1]) hn (Rep.mk (n:=1) (c:=1) m2 (.single (r1.up u2.up) rfl) rfl (Nat.le_refl _) (by decide))⟩,rfl,s.p3_1 [0] rfl⟩
theorem HJ {n:Nat} {r:List Tk}:DA r=decide ((((tkH n r).k.toNat:Nat):Int)=3):=by
 cases r with
 | nil=>rfl
 | cons t l =>
  show decide (t.k=3)=decide (((t.k.toNat:Nat):Int)=3);rw [Bool.eq_iff_iff,decide_eq_true_eq,decide_eq_true_eq];exact ⟨fun h=>by rw [h];rfl,fun h=>UInt8.toNat_inj.1 (by show t.k.toNat=3;omega)⟩
theorem HI {n:Nat} {q:Sg} (h:decide ((((tkH n q.r).k.toNat:Nat):Int)=3)=true):kB q.r=OA q.r:=by
 unfold kB;rw [HJ (n:=n),if_pos h]
theorem vW {n:Nat} {q:Sg} (h:decide ((((tkH n q.r).k.toNat:Nat):Int)=3)=false):kB q.r=wW q.r:=by
 unfold kB;rw [HJ (n:=n),if_neg (by rw [h];decide)]
theorem LG {α:Type} {n:Nat} {g g':Pz α} {q:Sg} (h:g q.r=g' q.r):up n g q=up n g' q:=by unfold up;rw [h]
theorem SS {α:Type} {g g':Pz α} {q:Sg} {x:α} (h:g q.r=g' q.r) (k:vl g' q x):vl g q x:=fun h0 a r e=>k h0 a r (by rw [← h];exact e)
theorem NM {n:Nat} {q:Sg} {v:Int64} (h:decide ((((tkH n q.r).k.toNat:Nat):Int)=3)=true) (hv:vl gNu q v):vl kB q (.mk 1 [] v []):=SS (HI h) (mT (f:=fun v=>Ex.mk 1 [] v []) hv)
theorem KB {n:Nat} {q:Sg} (h:decide ((((tkH n q.r).k.toNat:Nat):Int)=3)=true):up n kB q=up n gNu q:=by rw [LG (HI h)];exact nI
theorem CT {n:Nat} {q:Sg} {x:Ex} (h:decide ((((tkH n q.r).k.toNat:Nat):Int)=3)=false) (hx:vl wW q x):vl kB q x:=SS (vW h) hx
theorem UV {q:Sg} {nm:Str} {a:Ex} (h:ac [91] q=true) (hv:vl (gKy 6 nm) q a):vl (DF 6 nm) q.tl a:=by
 obtain ⟨h0,h1⟩:=AX h;intro _ x r e;refine hv h0 x r ?_;unfold gKy aF gNd;rw [if_pos h1];exact e
theorem NO {n:Nat} {q:Sg} {nm:Str} (h:decide ((((tkH n q.r).k.toNat:Nat):Int)=3)=false) (hv:vl gNm q nm) (h1:ac [91] (up n gNm q)=true):up n kB q=up n (gKy 6 nm) (up n gNm q):=by
 rw [LG (vW h)];unfold wW gKy;rw [aA Cz.nm hv,cQ h1,aA (x:=()) (Cz.nd _) aG,yX h1]
theorem KC {n:Nat} {q:Sg} {nm:Str} (h:decide ((((tkH n q.r).k.toNat:Nat):Int)=3)=false) (hv:vl gNm q nm) (h1:ac [91] (up n gNm q)=false):up n kB q=up n gNm q:=by
 rw [LG (vW h)];unfold wW;rw [aA Cz.nm hv,aK h1,aZ]
theorem EQ (M:Nat) (hex:ExC 23 (gX 0) M):ExC 182 dX (M+1):=by
 intro H w0 W bs b n ts tp tc t0 t1 t2 t3 q K hq hmu s;refine Sx.enterS Tryz.func182 rfl Tryz.ntmps182 rfl s ?_;refine .sr<|.al Fx.zero27 Z fun b2=>.nt<|.sq<|.bk<|.sr<|.mv Z<|.cs (X:=Unit) Fx.call72 Z (fun W s=>bM K hq [116,114,117,101] (by decide +kernel) (s.p2_2 [1,0] Z)) Z fun _ _=>.a Z Z<|.nt<|.cd Z (fun h5=>?_) (fun h5=>?_)
 ·rw [fJ h5];refine .sr<|.yw (.build Z (Fx.bld27_0 _))<|.sW bQ Z Z Fx.size27 (by simp [Value.oneCell',aB]) Z<|.nt<|.rt<|.bR<|.tR<|?_
  refine Sx.ret1 (.inl rfl) rfl (.cell rfl Fx.agg27 aW rfl) fun W s=>?_;rw [show up n dX q=q.tl by unfold dX;rw [cQ h5,aZ]];exact ⟨(opE 2 [],[.int .u8 2,.string ⟨#[]⟩,.int .i64 0,.slice none 0 0],H),⟨(by unfold dX;exact bY h5 (aX)),.refl,dM (op:=2) (nm:=[]) (n:=0) (args:=[]) (by decide) (Rep.empty (p:=none) (c:=0) (by decide))⟩,rfl,s.p2_1 [0] rfl⟩
 rw [fK h5];refine .sr<|.mv Z<|.cs (X:=Unit) Fx.call72 Z (fun W s=>bM K hq [102,97,108,115,101] (by decide +kernel) (s.p2_2 [0,1] Z)) Z fun _ _=>.a Z Z<|.nt<|.cd Z (fun h9=>?_) (fun h9=>?_)
 ·rw [fJ h9];refine .sr<|.yw (.build Z (Fx.bld27_0 _))<|.sW bQ Z Z Fx.size27 (by simp [Value.oneCell',aB]) Z<|.nt<|.rt<|.bR<|.tR<|?_
  refine Sx.ret1 (.inl rfl) rfl (.cell rfl Fx.agg27 aW rfl) fun W s=>?_;rw [show up n dX q=q.tl by unfold dX;rw [aK h5,cQ h9,aZ]];exact ⟨(opE 3 [],[.int .u8 3,.string ⟨#[]⟩,.int .i64 0,.slice none 0 0],H),⟨(by unfold dX;exact aJ h5 (bY h9 (aX))),.refl,dM (op:=3) (nm:=[]) (n:=0) (args:=[]) (by decide) (Rep.empty (p:=none) (c:=0) (by decide))⟩,rfl,s.p2_1 [0] rfl⟩
 rw [fK h9];refine .sr<|.mv Z<|.cs (X:=Unit) Fx.call72 Z (fun W s=>bM K hq [110,111,119] (by decide +kernel) (s.p2_2 [0,1] Z)) Z fun _ _=>.a Z Z<|.nt<|.cd Z (fun h13=>?_) (fun h13=>?_)
 ·rw [fJ h13];refine .sr<|.yw (.build Z (Fx.bld27_0 _))<|.sW bQ Z Z Fx.size27 (by simp [Value.oneCell',aB]) Z<|.nt<|.rt<|.bR<|.tR<|?_
  refine Sx.ret1 (.inl rfl) rfl (.cell rfl Fx.agg27 aW rfl) fun W s=>?_;rw [show up n dX q=q.tl by unfold dX;rw [aK h5,aK h9,cQ h13,aZ]];exact ⟨(opE 4 [],[.int .u8 4,.string ⟨#[]⟩,.int .i64 0,.slice none 0 0],H),⟨(by unfold dX;exact aJ h5 (aJ h9 (bY h13 (aX)))),.refl,dM (op:=4) (nm:=[]) (n:=0) (args:=[]) (by decide) (Rep.empty (p:=none) (c:=0) (by decide))⟩,rfl,s.p2_1 [0] rfl⟩
 rw [fK h13];refine .sr<|.mv Z<|.cs (X:=Unit) Fx.call72 Z (fun W s=>bM K hq [115,105,122,101] (by decide +kernel) (s.p2_2 [0,1] Z)) Z fun _ _=>.a Z Z<|.nt<|.cd Z (fun h17=>?_) (fun h17=>?_)
 ·rw [fJ h17];refine .sr<|.mv Z<|.cs (X:=Str) Fx.call74 Z (fun W s=>fO K (Suf.tl hq)  (s.p2_2 [0,1] Z)) Z fun nm hnm=>.yw (.build Z (Fx.bld27_0_1 _ _))<|.sW bQ Z Z Fx.size27 (by simp [Value.oneCell',aB]) Z<|.nt<|.rt<|.bR<|.tR<|?_
  refine Sx.ret1 (.inl rfl) rfl (.cell rfl Fx.agg27 aW rfl) fun W s=>?_;rw [show up n dX q=up n gNm q.tl by unfold dX;rw [aK h5,aK h9,aK h13,cQ h17,nI]];exact ⟨(.mk 8 nm 0 [],[.int .u8 8,aB nm,.int .i64 0,.slice none 0 0],H),⟨(by unfold dX;exact aJ h5 (aJ h9 (aJ h13 (bY h17 (mT (f:=fun s=>Ex.mk 8 s 0 []) hnm.1))))),.refl,dM (op:=8) (nm:=nm) (n:=0) (args:=[]) hnm.2 (Rep.empty (p:=none) (c:=0) (by decide))⟩,rfl,s.p2_1 [0] rfl⟩
 rw [fK h17];refine .sr<|.mv Z<|.cs (X:=Unit) Fx.call72 Z (fun W s=>bM K hq [104,97,115] (by decide +kernel) (s.p2_2 [0,1] Z)) Z fun _ _=>.a Z Z<|.nt<|.cd Z (fun h23=>?_) (fun h23=>?_)
 ·rw [fJ h23];have hlt:=kP h23;refine .sr<|.mv Z<|.mv Z<|.cs (X:=Str) Fx.call74 Z (fun W s=>fO K (Suf.tl hq)  (s.p2_2 [0,1] Z)) Z fun nm hnm=>.cs (X:=Ex × List Value × Hp) Fx.call185 Z (fun W s=>NR M hex K (Suf.nm.up (Suf.tl hq)) 7 nm hnm.2 (by have h1:=eN (n:=n) (s:=q.tl) Shs.nm.le Cz.nm;have h2:=eN (n:=n) (s:=up n gNm q.tl) (Shs.nd [91]).le (Cz.nd [91]);omega) (s.p2_2 [0,1] Z)) Z fun z1 hz1=>?_
  obtain ⟨a1,c1,H1⟩:=z1;obtain ⟨hv1,u1,r1⟩:=hz1;dsimp only at hv1 u1 r1 ⊢;obtain ⟨x1,x2,x3,x4,rfl⟩:=jJ (eJ r1);have K1:=K.up u1.up;refine .sW bQ Z Z Fx.size27 (Rep.one r1) Z<|.nt<|.rt<|.bR<|.tR<|?_
  refine Sx.ret1 (.inl rfl) rfl (.cell rfl Fx.agg27 aW rfl) fun W s=>?_;rw [show up n dX q=up n (gKy 7 nm) (up n gNm q.tl) by unfold dX;rw [aK h5,aK h9,aK h13,aK h17,cQ h23,aA Cz.nm hnm.1];rfl];exact ⟨(a1,[x1,x2,x3,x4],H1),⟨(by unfold dX;exact aJ h5 (aJ h9 (aJ h13 (aJ h17 (bY h23 (aC (n:=n) hnm.1 hv1)))))),u1,r1⟩,rfl,s.p2_1 [0] rfl⟩
 rw [fK h23];refine .sr<|.mv Z<|.cs (X:=Unit) Fx.call72 Z (fun W s=>bM K hq [40] (by decide +kernel) (s.p2_2 [0,1] Z)) Z fun _ _=>.a Z Z<|.nt<|.cd Z (fun h30=>?_) (fun h30=>?_)
 ·rw [fJ h30];have hlt:=kP h30;refine .sr<|.mv Z<|.cs (X:=Ex × List Value × Hp) Fx.call23 Z (fun W s=>hex K (Suf.tl hq) (by omega) (s.p2_2 [0,1] Z)) Z fun z1 hz1=>?_
  obtain ⟨a1,c1,H1⟩:=z1;obtain ⟨hv1,u1,r1⟩:=hz1;dsimp only at hv1 u1 r1 ⊢;obtain ⟨x1,x2,x3,x4,rfl⟩:=jJ (eJ r1);have K1:=K.up u1.up;refine .al Fx.zero27 Z fun b3=>.sW .head Z Z Fx.size27 (Rep.one r1) Z<|.ns<|.mv Z<|.cs (X:=Unit) Fx.call73 Z (fun W s=>aP K1 ((Suf.ex 0).up (Suf.tl hq)) [41] (by decide +kernel) (s.p3_3 [1,0,2] Z)) Z fun _ _=>.ns<|.yw (.loadW Z Fx.agg27 aW Z)<|.sW cJ Z Z Fx.size27 (Rep.one r1) Z<|.nt<|.rt<|.bR<|.tR<|?_
  refine Sx.ret1 (.inl rfl) rfl (.cell rfl Fx.agg27 cC rfl) fun W s=>?_;rw [show up n dX q=up n (gNd [41]) (up n (gX 0) q.tl) by unfold dX;rw [aK h5,aK h9,aK h13,aK h17,aK h23,cQ h30,aA (Cz.ex _) hv1,aA (x:=()) (Cz.nd _) aG,aZ]];exact ⟨(a1,[x1,x2,x3,x4],H1),⟨(by unfold dX;exact aJ h5 (aJ h9 (aJ h13 (aJ h17 (aJ h23 (bY h30 (aC (n:=n) hv1 (aC (n:=n) (x:=()) aG aX)))))))),u1,r1⟩,rfl,s.p3_1 [0] rfl⟩
 rw [fK h30];refine .sr<|.mv Z<|.cs (X:=Unit) Fx.call91 Z (fun W s=>nJ K hq  (s.p2_2 [0,1] Z)) Z fun _ _=>.yw (.fld Z (RR _ _ _))<|.yw (.eql Z Z)<|.a Z Z<|.nt<|.cd Z (fun h38=>?_) (fun h38=>?_)
 ·skip
  refine .sr<|.mv Z<|.cs (X:=Int64) Fx.call120 Z (fun W s=>rV K hq  (s.p2_2 [0,1] Z)) Z fun nu hnu=>.yw (.build Z (Fx.bld27_0_2 _ _))<|.sW bQ Z Z Fx.size27 (by simp [Value.oneCell',aB]) Z<|.nt<|.rt<|.bR<|.tR<|?_
  refine Sx.ret1 (.inl rfl) rfl (.cell rfl Fx.agg27 aW rfl) fun W s=>?_;rw [show up n dX q=up n gNu q by unfold dX;rw [aK h5,aK h9,aK h13,aK h17,aK h23,aK h30];exact KB h38];exact ⟨(.mk 1 [] nu [],[.int .u8 1,.string ⟨#[]⟩,.int .i64 nu.toInt,.slice none 0 0],H),⟨(by unfold dX;exact aJ h5 (aJ h9 (aJ h13 (aJ h17 (aJ h23 (aJ h30 (NM h38 hnu))))))),.refl,dM (op:=1) (nm:=[]) (n:=nu) (args:=[]) (by decide) (Rep.empty (p:=none) (c:=0) (by decide))⟩,rfl,s.p2_1 [0] rfl⟩
 skip
 refine .sk<|.bN<|.tN<|.sr<|.mv Z<|.cs (X:=Str) Fx.call74 Z (fun W s=>fO K hq  (s.p2_2 [0,1] Z)) Z fun nm hnm=>.a Z Z<|.nt<|.sq<|.sr<|.mv Z<|.cs (X:=Unit) Fx.call118 Z (fun W s=>NV K (Suf.nm.up hq) [91] (by decide +kernel) (s.p2_2 [0,1] Z)) Z fun _ _=>.nt<|.cd Z (fun h49=>?_) (fun h49=>?_)
 ·have hlt:=kP h49;have hle:=eN (n:=n) (s:=q) Shs.nm.le Cz.nm;refine .sr<|.mv Z<|.mv Z<|.cs (X:=Ex × List Value × Hp) Fx.call185 Z (fun W s=>NR M hex K (Suf.nm.up hq) 6 nm hnm.2 (by rw [yX h49];omega) (s.p2_2 [0,1] Z)) Z fun z1 hz1=>?_
  obtain ⟨a1,c1,H1⟩:=z1;obtain ⟨hv1,u1,r1⟩:=hz1;dsimp only at hv1 u1 r1 ⊢;obtain ⟨x1,x2,x3,x4,rfl⟩:=jJ (eJ r1);have K1:=K.up u1.up;have hk1:vl (DF 6 nm) (up n gNm q).tl a1:=UV h49 hv1;refine .sW bQ Z Z Fx.size27 (Rep.one r1) Z<|.nt<|.rt<|.tR<|?_
  refine Sx.ret1 (.inl rfl) rfl (.cell rfl Fx.agg27 aW rfl) fun W s=>?_;rw [show up n dX q=up n (gKy 6 nm) (up n gNm q) by unfold dX;rw [aK h5,aK h9,aK h13,aK h17,aK h23,aK h30];exact NO h38 hnm.1 h49];exact ⟨(a1,[x1,x2,x3,x4],H1),⟨(by unfold dX;exact aJ h5 (aJ h9 (aJ h13 (aJ h17 (aJ h23 (aJ h30 (CT h38 (aC (n:=n) hnm.1 (bY h49 hk1))))))))),u1,r1⟩,rfl,s.p2_1 [0] rfl⟩
 skip
 refine .sk<|.tN<|.sr<|.mv Z<|.yw (.build Z (Fx.bld27_0_1 _ _))<|.sW bQ Z Z Fx.size27 (by simp [Value.oneCell',aB]) Z<|.nt<|.rt<|?_
 refine Sx.ret1 (.inl rfl) rfl (.cell rfl Fx.agg27 aW rfl) fun W s=>?_;rw [show up n dX q=up n gNm q by unfold dX;rw [aK h5,aK h9,aK h13,aK h17,aK h23,aK h30];exact KC h38 hnm.1 h49];exact ⟨(.mk 5 nm 0 [],[.int .u8 5,aB nm,.int .i64 0,.slice none 0 0],H),⟨(by unfold dX;exact aJ h5 (aJ h9 (aJ h13 (aJ h17 (aJ h23 (aJ h30 (CT h38 (aC (n:=n) hnm.1 (aJ h49 aX))))))))),.refl,dM (op:=5) (nm:=nm) (n:=0) (args:=[]) hnm.2 (Rep.empty (p:=none) (c:=0) (by decide))⟩,rfl,s.p2_1 [0] rfl⟩
theorem xS:∀ M,ExC 23 (gX 0) M∧ExC 172 (gX 5) M
 | 0=>⟨ExC.zero _ _,ExC.zero _ _⟩
 | M+1=>by
  obtain ⟨h1,h2⟩:=xS M;have hp:ExC 182 dX (M+1):=EQ M h1;have hu:ExC 172 (gX 5) (M+1):=LI M h2 hp;exact ⟨RT _ (SA _ (SB _ (TS _ (EP _ hu)))),hu⟩
theorem fV {H:Hp} {w0 W:World} {bs:List Res} {b n:Nat} {ts:List Tk} {tp:Option Addr} {tc:Nat} {t0 t1 t2 t3:Value} {q:Sg} (K:Tkm H ts tp tc) (hq:q.r<:+ts) (s:St H w0 (.box b [.slice tp ts.length tc,.int .i64 (bT ts q:Nat),.int .i64 (n:Nat),t0,t1,t2,t3,.int .i64 (q.o:Nat),.int .i64 (q.e:Nat)] 99::bs) W):Calls Tryz.prog 23 #[.pointer (some ⟨b,0,none⟩)] W fun e W'=>∃ z:Ex × List Value × Hp,(vl (gX 0) q z.1∧HUp w0 H z.2.2∧Rep z.2.2 (dEx .u8 z.1) z.2.1)∧e=.returned (.agg z.2.1.toArray)∧St z.2.2 w0 (.box b [.slice tp ts.length tc,.int .i64 (bT ts (up n (gX 0) q):Nat),.int .i64 (n:Nat),t0,t1,t2,t3,.int .i64 ((up n (gX 0) q).o:Nat),.int .i64 ((up n (gX 0) q).e:Nat)] 99::bs) W':=(xS (q.mu+1)).1 K hq (Nat.lt_succ_self _) s
end Go.Proofs.YthhoebdlfjffkaaGreatDoor
namespace Go.Sx
open Go.RowKit Go.Par
def Qn (Q:Exit→Act→World→Prop):Exit→Act→World→Prop
 | .normal=>Q .normal
 | _=>fun _ _=>False
def SY (l:List Oper):Bool:=l.all fun o=>match o.op with | .defer _=>false | _=>true
section
variable {dfs:List Deferred} {P:Program} {n m:Nat} {L:Sl} {H:Hp} {w0:World} {bs:List Res} {Q:Exit→Act→World→Prop} {ops:Array Oper} {F:Fence}
theorem BD [hF:FW F] {o:Oper} {a:Act} {w:World} {K:Act→World→Prop} (hd:∀ c,o.op≠.defer c) (h:o.wp P a w K (Qn Q)):o.wpIn F m P a w K Q:=by
 unfold Oper.wpIn;refine ⟨fun f _=>hF.fn f,?_⟩;rw [Oper.semAt_plain F _ _ hd];unfold Oper.wp at h;generalize (execOp a.eval o).run P w=r at *;cases r with
 | ok z w' =>
  cases z <;> simp only [Oper.upon] at h <;> simp only [Oper.uponIn]
  case value u=>exact h
  case skip=>exact h
  case defer d=>exact h
  case enter f args =>
   refine ⟨fun e=>(by rw [hF.depth] at e;cases e),hF.calls (h.mono ?_)⟩;intro e w'' q;cases e with
   | returned v=>exact q
   | panicked c=>exact q.elim
   | outgrown=>obtain ⟨_,_,q⟩:=q;exact q.elim
  case row rw args=>exact ⟨fun e=>(by rw [hF.depth] at e;cases e),hF.rows h⟩
 | halt z w' =>
  cases z <;> simp only [Oper.upon] at h <;> exact h.elim
theorem IB [hF:FW F] (hd:∀ (i:Nat) o,ops[i]? = some o→∀ c,o.op≠.defer c):∀ (fuel:Nat) (listed:Array Bool) (a:Act) (w:World),wpAny P .any ops (Qn Q) fuel listed a w→wpAnyIn F m P .any ops Q fuel listed a w
 | 0,_,_,_,h=>h
 | fuel+1,listed,a,w,h=>by
  refine ⟨h.1,fun i hi=>?_⟩;have h1:=h.2 i hi;unfold wpOp at h1;unfold wpOpIn;cases ho:ops[i]? with
  | none =>
   rw [ho] at h1;exact IB hd fuel _ _ _ h1
  | some o =>
   rw [ho] at h1;dsimp only at h1 ⊢;cases hw:Region.wanted o (yielded ops a.tmps) with
   | true =>
    rw [hw] at h1;simp only [if_true] at h1 ⊢;rcases h1 with h1 | ⟨_,_,_,h1⟩
    ·exact Oper.wpIn_mono (fun a w k=>IB hd fuel _ a w k) (BD (hd i o ho) h1)
    ·exact h1.elim
   | false =>
    rw [hw] at h1;simp only [Bool.false_eq_true,if_false] at h1 ⊢;exact ⟨fun f _=>hF.fn f,IB hd fuel _ _ _ h1⟩
theorem MZ {l:List Oper} (h:SY l=true):∀ (i:Nat) o,l.toArray[i]? = some o→∀ c,o.op≠.defer c:=by
 intro i o ho c e;have hm:o∈l:=List.mem_of_getElem? (by simpa using ho);have:=List.all_eq_true.1 h o hm;rw [e] at this;cases this
theorem At.flI [FW F] {id:Nat} {l:List Oper} {trip:List (Nat × Nat × Oper)} (nn:Nat) (ord:List (Nat × Nat)) (hm:P.follows .mixedOrders=true) (hB:xZ l.toArray nn ord=true) (hd:SY l=true) (ht:ord.map (fun x=>(x.1,x.2,l[x.1]!))=trip)
 (h:bJ dfs P l.toArray nn w0 n (fun L H bs=>At dfs n L H w0 bs (wpList P l.toArray (Qn Q) (l.drop nn))) trip [] L H bs):At dfs n L H w0 bs ((Code.region id l.toArray true).wpIn F m P Q) :=
 fun a W f s=>wpIn_region_any hm (IB (MZ hd) _ _ _ _ (HT nn ord hB ht h a W f s))
theorem At.nlQ (h:At dfs n L H w0 bs (Q .normal)):At dfs n L H w0 bs (wpList P ops (Qn Q) []):=h
theorem At.bkI {id:Nat} {c:Code} (h:At dfs n L H w0 bs (c.wpIn F m P (Exit.inBlock id Q))):At dfs n L H w0 bs ((Code.block id c).wpIn F m P Q):=fun a W f s=>wpIn_block (h a W f s)
end
structure Apx (H:Hp) (p:Nat) (fx:List Res) (TX:TypeId) (cs:List Value) (b:Nat) (W:World):Prop where
 blk:W.heap[b]? = some (.cells cs.toArray TX (0,0))
 new:H b=none
 head:∃ u l t m,W.heap[p]? = some (.cells (u::l).toArray t m)∧u.ownBlock≠some b
 ne:b≠p
 fix:∀ x∈fx,x.blk≠some b
theorem Apx.grow {H:Hp} {p b:Nat} {fx:List Res} {TX:TypeId} {cs:List Value} {A B:World} {row:Option Nat} (h:Apx H p fx TX cs b A) (g:A.grownBy B row) (hr:∀ r,row=some r→∃ o:Obj,A.heap[r]? = some o∧o.isCells=false):Apx H p fx TX cs b B:=by
 have key:∀ {k:Nat} {arr:Array Value} {t:TypeId} {m:Nat × Nat},A.heap[k]? = some (Obj.cells arr t m)→B.heap[k]? = some (Obj.cells arr t m):=fun {k arr t m} hk=>by
  rw [← hk];refine g.block k (fX hk) fun e=>?_;obtain ⟨o,h1,h2⟩:=hr k e.symm;rw [hk] at h1;cases h1;cases h2
 obtain ⟨u,l,t,m,h1,h2⟩:=h.head;exact ⟨key h.blk,h.new,⟨u,l,t,m,key h1,h2⟩,h.ne,h.fix⟩
section
variable {H:Hp} {w0:World}
def rsB (e:TypeId) (size p:Nat) (T:TypeId) (fx:List Res) (v:Value) (k:Nat) (xs l:List Value):List Res:=.row e size v k xs::.box p (v::l) T::fx
theorem Apx.of {p b size k:Nat} {e T TX:TypeId} {fx tl:List Res} {v:Value} {xs l cs:List Value} {W:World} (s:St H w0 (.box b cs TX::(rsB e size p T fx v k xs l++tl)) W):Apx H p fx TX cs b W:=by
 have hb:=s.own _ (List.mem_cons_self ..);have ha:=(List.pairwise_cons.1 s.apart).1;refine ⟨hb.1.2,hb.2 b rfl,⟨v,l,T,_,(s.own (.box p (v::l) T) (by simp [rsB])).1.2,fun e=>ha (.row _ _ v _ _) (by simp [rsB];exact .inl ⟨rfl,rfl,rfl,rfl⟩) b rfl e⟩,fun e=>ha (.box p (v::l) T) (by simp [rsB]) b rfl (by rw [e];rfl),fun x hx e=>ha x (by simp [rsB,hx]) b rfl e⟩
theorem Apx.st {p b size k:Nat} {e T TX:TypeId} {fx:List Res} {v:Value} {xs l cs:List Value} {W:World} (h:Apx H p fx TX cs b W) (s:St H w0 (rsB e size p T fx v k xs l) W):St (fun c=>if c=b then some (.cells cs.toArray TX (0,0)) else H c) w0 (rsB e size p T fx v k xs l) W:=by
 refine ⟨s.ext,fun c o hc=>?_,fun x hx=>⟨(s.own x hx).1,fun c hc=>?_⟩,s.apart⟩
 ·split at hc
  ·rename_i e;subst e;rw [← hc];exact h.blk
  ·exact s.agr c o hc
 ·rw [if_neg,(s.own x hx).2 c hc];intro e;subst e;unfold rsB at hx;rcases List.mem_cons.1 hx with rfl | hx
  ·obtain ⟨u,l2,t,m,h1,h2⟩:=h.head;have h3:=(s.own (.box p (v::l) T) (by simp [rsB])).1.2;rw [h1] at h3;have h4:(u::l2).toArray=(v::l).toArray:=by injection h3 with h3;injection h3
   have h5:=congrArg Array.toList h4;simp only [List.cons.injEq] at h5;rw [h5.1] at h2;exact h2 hc
  ·rcases List.mem_cons.1 hx with rfl | hx
   ·exact h.ne (Option.some.inj hc).symm
   ·exact h.fix x hx hc
theorem TL {b:Nat} {o:Obj} (h:H b=none):Up H (fun c=>if c=b then some o else H c):=fun c x hc=>by
 dsimp only;rw [if_neg]
 ·exact hc
 ·intro e;subst e;rw [h] at hc;cases hc
theorem At.rfB {α Z:Type} {bs:List Res} {dfs:List Deferred} {P:Program} {n:Nat} {L:Sl} {Q:Exit→Act→World→Prop} {g:Operand} {pt:Tmp} {assign body:Code} {gf:Nat} {lb:Array Value} {enc:α→Value} {S:List α→Prop} {N:Nat} {e T TX:TypeId} {size p:Nat} {fx:List Res}
 (C:List α→Z→Prop) (v:Z→Value) (k:Z→Nat) (xs l:Z→List Value) (z0:Z) (L2:α→Nat→Sl) (cx:α→List Value)
 (hg:ev L g=some (.func (.func gf) #[] lb)) (eg:∀ args w,(callFunc gf args).run P w=.ok (.enter gf args) w) (ht:Nat.blt pt n=true)
 (hseq:∀ w,Agr H w→SeqStopsK Fence.wide 8 P gf lb (fun x=>#[enc x]) (KpH H) S (fun _=>True) N w)
 (h0:C [] z0) (hb:bs=rsB e size p T fx (v z0) (k z0) (xs z0) (l z0)) (hn:CM fx=true)
 (hass:∀ l x bs' K,(∀ b,At [] n (L2 x b) H w0 (.box b (cx x) TX::bs') K)→At [] n ((pt,enc x)::L) H w0 bs' (assign.wpIn (Fence.wide.inRound l) 7 P (Exit.then K (fun _ _ _=>False))))
 (hbody:∀ l' pre x z tl b H2,C pre z→pre.length<N→Up H H2→dS H2 b 0 (cx x)→At [] n (L2 x b) H2 w0 (rsB e size p T fx (v z) (k z) (xs z) (l z)++tl) (body.wpIn (Fence.wide.inRound l') 7 P (Sx.rE C (fun z=>rsB e size p T fx (v z) (k z) (xs z) (l z)) H w0 tl (pre++[x]))))
 (hdone:∀ D ys z,S ys→C ys z→At ({ target:=.collected D,args:=#[] }::dfs) n L H w0 (.obj D (.deferred (some []))::rsB e size p T fx (v z) (k z) (xs z) (l z)) (Q .normal)) :
 At dfs n L H w0 bs ((Code.rangeFunc g #[pt] assign body).wp P Q):=by
 intro a W f s;subst hb;have hnz:∀ z,CM (rsB e size p T fx (v z) (k z) (xs z) (l z))=true:=fun z=>hn;have hB:w0.heap.size≤W.heap.size:=s.ext.size;have hH:∀ r,W.heap.size≤r→H r=none:=fun r hr=>s.agr.lt hr
 refine (wpIn_wide (n:=9)).1 (wpIn_rangeFunc_ownH (n:=9) (ps:=#[pt]) (α:=α) (N:=N) (S:=S) (Sp:=fun _=>True) (encs:=fun x=>#[enc x]) (Kp:=KpH H) (w0:=W) rfl (by decide) (f.ev hg) trivial eg (hseq W s.agr) (fun h k q=>k (h q)) ?_ (Below.refl _ _) (fun _=>rfl)
  (fun pre W=>∃ z,C pre z∧St H w0 (rsB e size p T fx (v z) (k z) (xs z) (l z)) W) (fun _ _ _=>False) (VX hB hH fun _ z _=>hnz z) (fun _ _ _ _ _ h _ _=>h.elim) ⟨z0,h0,s⟩ (fun x a' W=>∃ b,Fr [] n (L2 x b) a'∧Apx H p fx TX (cx x) b W)
  (fun x a' _ A B row h hg hr=>by obtain ⟨b,h1,h2⟩:=h;exact ⟨b,h1,h2.grow hg fun r e=>(hr r e).2⟩) ?_ ?_ ?_ (fun _ _ _ _ _ _ h=>h.elim))
 ·intro W1 l o o' hl ho _ _ q b ob e;have hne:b≠l:=fun h=>by subst h;rw [hH b hl] at e;cases e
  exact (World.putObj_heap_other hne).trans (q b ob e)
 ·rintro l' pre x W1 K ⟨z,hz,s1⟩ hK
  have f1:Fr [] n ((pt,enc x)::L) { tmps:=(#[pt].zip #[enc x]).foldl (fun t (p,v)=>t.setIfInBounds p v) a.tmps,defers:=[] }:=by
   have f2:Fr [] n L { a with defers:=[] }:=⟨f.size,rfl,f.slot⟩;have e:(#[pt].zip #[enc x]).foldl (fun t (x:Tmp × Value)=>match x with | (p,v)=>t.setIfInBounds p v) a.tmps=a.tmps.setIfInBounds pt (enc x):=by simp
   rw [e];exact f2.put ht (enc x)
  refine hass l' x _ K ?_ _ W1 f1 (s1.tailOf (hnz z) hB hH);intro b a' W2 f' s2;have s3:=s2.drop;exact hK a' W2 s3.keepsFrom (fun _=>s3.agr) ⟨z,hz,s3.front⟩ ⟨b,f',Apx.of s2⟩
 ·rintro l' pre x a' W1 hl _ ⟨z,hz,s1⟩ ⟨b,f',hx⟩ hlen;have s2:=hx.st s1;have hH2:∀ r,W1.heap.size≤r→(if r=b then some (Obj.cells (cx x).toArray TX (0,0)) else H r)=none:=fun r hr=>s2.agr.lt hr;have ht:=s1.tailOf (B:=W.heap.size) (hnz z) hB hH
  have s4:St (fun c=>if c=b then some (.cells (cx x).toArray TX (0,0)) else H c) w0 (rsB e size p T fx (v z) (k z) (xs z) (l z)++Sx.tailOf W.heap.size W1) W1:=by
   refine ⟨ht.ext,s2.agr,fun y hy=>?_,ht.apart⟩;rcases List.mem_append.1 hy with h | h
   ·exact s2.own y h
   ·refine ⟨(ht.own y hy).1,fun c hc=>?_⟩;rw [if_neg,(ht.own y hy).2 c hc];rintro rfl;rcases qB h with rfl | ⟨d,o,rfl,ho,hc2,_⟩
    ·cases hc
    ·obtain rfl:d=c:=Option.some.inj hc;rw [hx.blk] at ho;cases ho;cases hc2
  refine wpIn_mono (hbody l' pre x z _ b _ hz hlen (TL hx.new) ⟨_,_,_,if_pos rfl,fun j u e=>by simpa using e⟩ a' W1 f' s4) ?_;intro e a2 W2 h;cases e with
  | normal =>
   obtain ⟨z',hz',s2⟩:=h;exact ⟨s2.keepsFrom,fun _=>s2.agr,z',hz',s2.front⟩
  | _=>exact h.elim
 ·rintro D ys W1 hD hS ⟨z,hz,s1⟩ hd;refine hdone D ys z hS hz _ W1 ⟨f.size,by show _::_=_;rw [f.defers],f.slot⟩ ⟨s1.ext,s1.agr,?_,.cons ?_ s1.apart⟩
  ·intro x hx;rcases List.mem_cons.1 hx with rfl | hx
   ·exact ⟨⟨Nat.le_trans hB hD,hd⟩,fun b e=>by obtain rfl:D=b:=Option.some.inj e;exact hH D hD⟩
   ·exact s1.own x hx
  ·intro y hy b e e';obtain rfl:D=b:=Option.some.inj e;exact zP s1 (hnz z) hd rfl y hy e'
end
end Go.Sx
namespace Go.Proofs.YthhoebdlfjffkaaGreatDoor
open Go.RowKit Go.Par Go.Sx
theorem u8d (c k:UInt8):decide (((c.toNat:Nat):Int)=(k.toNat:Nat))=decide (c=k):=by
 rw [Bool.eq_iff_iff,decide_eq_true_eq,decide_eq_true_eq];exact ⟨fun h=>UInt8.toNat_inj.1 (by omega),fun h=>by rw [h]⟩
theorem KR (c:UInt8) (w:World):Calls Tryz.prog 111 #[dI c] w fun r w'=>r=.returned (.bool (eL c))∧Ext w w':=by
 refine Sx.enter (H:=(fun _=>none)) Tryz.func111 rfl Tryz.ntmps111 rfl (fun _ _ e=>by cases e) ?_;refine .sr<|.a Z Z<|.ns<|.mv Z<|.yw (.cast (.eql Z Z) (congrArg Value.bool (u8d c 32)))<|.mv Z<|.b2 (fun h5=>?_) (fun h5=>?_)
 ·skip
  refine .gG<|.gG<|.yw (.pickT Z Z)<|.mv Z<|.gG<|.gG<|.yw (.pickT Z Z)<|.mv Z<|.gG<|.gG<|.yw (.pickT Z Z)<|.a Z Z<|.nt<|.rt<|?_
  refine Sx.ret1 (.inl rfl) rfl (.tmp rfl) fun W s=>⟨?_,s.ext⟩
  first
   | (unfold eL;rw [h5];rfl)
   | (unfold eL;rw [h5,h9];rfl)
   | (unfold eL;rw [h5,h9,h13];rfl)
 skip
 refine .gd Z Z<|.yw (.move Z)<|.gd Z Z<|.yw (.cast (.eql Z Z) (congrArg Value.bool (u8d c 9)))<|.yw (.pickF Z Z)<|.mv Z<|.b2 (fun h9=>?_) (fun h9=>?_)
 ·skip
  refine .gG<|.gG<|.yw (.pickT Z Z)<|.mv Z<|.gG<|.gG<|.yw (.pickT Z Z)<|.a Z Z<|.nt<|.rt<|?_
  refine Sx.ret1 (.inl rfl) rfl (.tmp rfl) fun W s=>⟨?_,s.ext⟩
  first
   | (unfold eL;rw [h5];rfl)
   | (unfold eL;rw [h5,h9];rfl)
   | (unfold eL;rw [h5,h9,h13];rfl)
 skip
 refine .gd Z Z<|.yw (.move Z)<|.gd Z Z<|.yw (.cast (.eql Z Z) (congrArg Value.bool (u8d c 10)))<|.yw (.pickF Z Z)<|.mv Z<|.b2 (fun h13=>?_) (fun h13=>?_)
 ·skip
  refine .gG<|.gG<|.yw (.pickT Z Z)<|.a Z Z<|.nt<|.rt<|?_
  refine Sx.ret1 (.inl rfl) rfl (.tmp rfl) fun W s=>⟨?_,s.ext⟩
  first
   | (unfold eL;rw [h5];rfl)
   | (unfold eL;rw [h5,h9];rfl)
   | (unfold eL;rw [h5,h9,h13];rfl)
 skip
 refine .gd Z Z<|.yw (.move Z)<|.gd Z Z<|.yw (.cast (.eql Z Z) (congrArg Value.bool (u8d c 13)))<|.yw (.pickF Z Z)<|.a Z Z<|.nt<|.rt<|?_
 refine Sx.ret1 (.inl rfl) rfl (.tmp rfl) fun W s=>⟨?_,s.ext⟩
 first
  | (unfold eL;rw [h5];rfl)
  | (unfold eL;rw [h5,h9];rfl)
  | (unfold eL;rw [h5,h9,h13];rfl)
def nR (c:UInt8):Bool:=!decide (c=10)
theorem u8n (c k:UInt8):decide (¬ ((c.toNat:Nat):Int)=(k.toNat:Nat))=!decide (c=k):=by rw [← u8d,decide_not]
theorem JF (c:UInt8) (w:World):Calls Tryz.prog 113 #[dI c] w fun r w'=>r=.returned (.bool (nR c))∧Ext w w':=by
 refine Sx.enter (H:=(fun _=>none)) Tryz.func113 rfl Tryz.ntmps113 rfl (fun _ _ e=>by cases e) ?_;refine .sr<|.a Z Z<|.ns<|.mv Z<|.yw (.cast (.neq Z Z) (congrArg Value.bool (u8n c 10)))<|.a Z Z<|.nt<|.rt<|?_
 exact Sx.ret1 (.inl rfl) rfl (.tmp rfl) fun W s=>⟨rfl,s.ext⟩
theorem mC (q:UInt8→Bool) (c:UInt8) (r:Str):pre q (c::r)=if q c then pre q r+1 else 0:=by
 unfold pre;rw [List.takeWhile_cons]
 split <;> simp
theorem EI:∀ (m:Str),cD false (m.drop (pre eL m))=cD false m
 | []=>rfl
 | c::r=>by
  rw [mC]
  split
  ·rename_i h;rw [List.drop_succ_cons,EI r,lV h]
  ·rfl
theorem LX:∀ (m:Str),cD false (m.drop (pre nR m))=cD true m
 | []=>by rw [List.drop_nil,lU,lU]
 | c::r=>by
  rw [mC]
  split
  ·rename_i h;unfold nR at h;rw [List.drop_succ_cons,LX r,JD (by simpa using h)]
  ·rename_i h;have e:c=10:=by unfold nR at h;simpa using h
   subst e;rw [List.drop_zero,JC]
theorem MN (q:UInt8→Bool):∀ (m:Str) (c:UInt8) (r:Str),m.drop (pre q m)=c::r→q c=false
 | [],c,r,h=>by cases h
 | x::m,c,r,h=>by
  rw [mC] at h
  split at h
  ·exact MN q m c r (by simpa using h)
  ·rename_i hx;rw [List.drop_zero] at h;injection h with h1 _
   subst h1;simpa using hx
theorem LW {m:Str} (h:nG m [47,47]=true):cD false (m.drop (pre nR m))=cD false m∧1≤pre nR m:=by
 rw [nV] at h;obtain ⟨r,rfl⟩:=List.isPrefixOf_iff_prefix.1 h;refine ⟨?_,?_⟩
 ·rw [LX];exact (JB r).symm
 ·show 1≤pre nR (47::47::r);rw [mC,if_pos (by decide)];omega
theorem JA {m:Str} (h:nG (m.drop (pre eL m)) [47,47]=false):cD false m=m.drop (pre eL m):=by
 rw [← EI];cases e:m.drop (pre eL m) with
 | nil=>rw [lU]
 | cons c r =>
  refine gA (MN _ _ _ _ e) ?_;rintro ⟨rfl,h2⟩;rw [e] at h;cases r with
  | nil=>cases h2
  | cons d r =>
   obtain rfl:d=47:=Option.some.inj h2;rw [nV] at h;rw [show ([47,47]:Str).isPrefixOf (47::47::r)=true by simp [List.isPrefixOf]] at h;cases h
theorem LY {t:Str} {o:Nat} (ho:o≤t.length) (h:cD false t=t.drop o):gI t=o:=by
 unfold gI;rw [h,List.length_drop];omega
theorem xQ (t:Str) (hl:t.length≤9223372036854775807) (w:World):Calls Tryz.prog 69 #[aB t] w fun r w'=>r=.returned (.int .i64 (gI t:Nat))∧Ext w w':=by
 refine Sx.enter (H:=(fun _=>none)) Tryz.func69 rfl Tryz.ntmps69 rfl (fun _ _ e=>by cases e) ?_;refine .sr<|.a Z Z<|.ns<|.a Z Z<|.nt<|.bk<|.lp (X:=Nat) [(0,_)] ⟨rfl,trivial⟩ [] (fun o=>[(3,.int .i64 (o:Nat))]) (fun o=>(fun _=>none)) (fun o=>[]) (fun o=>o≤t.length∧cD false (t.drop o)=cD false t) (fun o=>t.length - o) 0 (fun _ s=>s) ⟨rfl,trivial⟩ ⟨Nat.zero_le _,rfl⟩ fun o hC=>?_
 obtain ⟨ho,hs⟩:=hC;have hp1:=nN eL (t.drop o);rw [List.length_drop] at hp1;replace hp1:(o+(pre eL (t.drop o)))≤t.length:=by omega
 refine .bk<|.sr<|.mv Z<|.mv Z<|.mv Z<|.yw (.dropS Fx.str9 Z Z (lo:=o) Z ho)<|.yw (.call Fx.call110 Z (fun W s=>kO 111 eL Fx.call111 KR _ (by rw [List.length_drop];omega) W))<|.yw (.add Z Z (c:=(((o+(pre eL (t.drop o))):Nat):Int)) ((w6 (by omega)).trans (by omega)))<|.a Z Z<|.nt<|.sq<|.sr<|.mv Z<|.mv Z<|.yw (.dropS Fx.str9 Z Z (lo:=(o+(pre eL (t.drop o)))) Z hp1)<|.yw (.call Fx.call112 Z (fun W s=>pQ _ [47,47] W))<|.yw (.not Z)<|.nt<|.cd Z (fun h14=>?_) (fun h14=>?_)
 ·have hh:nG (t.drop (o+(pre eL (t.drop o)))) [47,47]=false:=by simpa using h14
  refine .sr<|.mv Z<|.a Z Z<|.nt<|.rt<|.tR<|.bR<|.tR<|.bR<|?_
  exact Sx.ret1 (.inl rfl) rfl (.tmp rfl) fun W s=>⟨by rw [LY hp1 (by rw [← hs,← List.drop_drop];exact JA (by rw [List.drop_drop];exact hh))],s.ext⟩
 have hh:nG (t.drop (o+(pre eL (t.drop o)))) [47,47]=true:=by simpa using h14
 obtain ⟨hs2,hg2⟩:=LW hh;have hp2:=nN nR (t.drop (o+(pre eL (t.drop o))));rw [List.length_drop] at hp2;exact .sk<|.tN<|.rg<|.mv Z<|.mv Z<|.mv Z<|.yw (.dropS Fx.str9 Z Z (lo:=(o+(pre eL (t.drop o)))) Z hp1)<|.yw (.call Fx.call110 Z (fun W s=>kO 113 nR Fx.call113 JF _ (by rw [List.length_drop];omega) W))<|.yw (.add Z Z (c:=(((o+(pre eL (t.drop o)))+(pre nR (t.drop (o+(pre eL (t.drop o))))):Nat):Int)) ((w6 (by omega)).trans (by omega)))<|.a Z Z<|.nl<|.bN<|.tN<|.ag ((o+(pre eL (t.drop o)))+(pre nR (t.drop (o+(pre eL (t.drop o)))))) ⟨rfl,trivial⟩ ⟨rfl,trivial⟩ (fun _ s=>s) ⟨by omega,by rw [← List.drop_drop,hs2,← List.drop_drop,EI,hs]⟩ (by omega)
theorem HG (H:Hp) (t:Str) (w:World) (hA:Agr H w):Calls Tryz.prog 37 #[aB t] w fun r w'=>∃ (b:Nat) (H':Hp),dS H' b 0 [aB t]∧r=.returned (.func (.func 68) #[] #[.pointer (some ⟨b,0,none⟩)])∧mS H w H' w':=by
 refine Sx.enter (H:=H) Tryz.func37 rfl Tryz.ntmps37 rfl hA ?_;refine .sr<|.bx Z Z Z fun b1=>.a Z Z<|.ns<|.yw (.mkF Z Z)<|.a Z Z<|.nt<|.rt<|?_
 refine Sx.freezeBox fun H1 u1 m1=>?_;exact Sx.ret1 (.inl rfl) rfl (.tmp rfl) fun W s=>⟨b1,H1,m1,rfl,u1.grow s⟩
abbrev TkS:={x:Tk // x.t.length≤1000000}
theorem HD (H:Hp) (G:Gl H) (t:Str) (hl:t.length≤1000000000000000000) (hs:∀ x∈fH t,x.t.length≤1000000) (b:Nat) (hm:dS H b 0 [aB t]) (w:World) (hA:Agr H w) :
 SeqStopsK Fence.wide 8 Tryz.prog 68 #[.pointer (some ⟨b,0,none⟩)] (fun x:TkS=>#[.agg (cTk .u8 x.1).toArray]) (KpH H) (fun xs=>xs.map (·.1)=fH t) (fun _=>True) (t.length+1) w:=by
 refine Sx.seqStops (lb:=[.pointer (some ⟨b,0,none⟩)]) Tryz.func68 rfl Tryz.ntmps68 rfl (fun W hW=>hA.ext hW) ?_;intro l Jg Jx W hJs hJxs hY hJ0;refine .sr<|.yw (.loadM Z Fx.agg9 hm (k:=0) Z Z)<|.yw (.call Fx.call69 Z (fun W s=>xQ t (by omega) W))<|.a Z Z<|.nt<|.bk<|.lj (X:=Nat × List TkS) (fun z=>[(0,.func (.yield l) #[] #[]),(1,.pointer (some ⟨b,0,none⟩)),(3,.int .i64 (z.1:Nat))]) (fun z=>Jg z.2) (fun z=>z.1≤t.length∧z.2.length≤z.1∧z.2.map (·.1)++toks z.1 (t.drop z.1)=fH t) (fun z=>t.length - z.1) (gI t,[]) ⟨BQ t,Nat.zero_le _,(xR t).symm⟩ ⟨rfl,rfl,rfl,trivial⟩ hJ0 fun z w1 hC hJ1=>?_
 obtain ⟨o,pre1⟩:=z;obtain ⟨ho,hpl,htk⟩:=hC;dsimp only at ho hpl htk hJ1 ⊢;refine .sq<|.sr<|.mv Z<|.yw (.loadM Z Fx.agg9 hm (k:=0) Z Z)<|.yw (.lenS Fx.str9 Z)<|.yw (.lss Z Z)<|.nt<|.cd Z (fun h11=>?_) (fun h11=>?_)
 ·try simp only [dt] at h11
  have hlt:o<t.length:=by omega
  have hm0:t.drop o≠[]:=by intro e;have:=congrArg List.length e;rw [List.length_drop] at this;simp at this;omega
  have hrk:=kL hm0;rw [List.length_drop] at hrk;have hx5:((t.drop o).take (aI (t.drop o)).2).length≤1000000:=hs ⟨(aI (t.drop o)).1,(t.drop o).take (aI (t.drop o)).2,o⟩ (by rw [← htk,oD hm0];simp);refine .sk<|.tN<|.sq<|.bk<|.sr<|.yw (.loadM Z Fx.agg9 hm (k:=0) Z Z)<|.mv Z<|.yw (.dropS Fx.str9 Z Z (lo:=o) Z (by omega))<|.yw (.call Fx.call70 Z (fun W s=>BV H G (t.drop o) (by rw [List.length_drop];omega) hm0 W s.agr))<|.mv Z<|.yw (.extract Z Z)<|.yw (.extract Z Z)<|.a Z Z<|.a Z Z<|.nt<|.sq<|.sq<|.rgW 8<|.mI Z Z<|.mI Z Z<|.yvI (.loadM Z Fx.agg9 hm (k:=0) Z Z) Z<|.mI Z Z<|.mI Z Z<|.mI Z Z<|.yvI (.add Z Z (c:=((o+(aI (t.drop o)).2:Nat):Int)) ((w6 (by omega)).trans (by omega))) Z<|.yvI (.cast (.midS Fx.str9 Z Z Z (lo:=o) (hi:=o+(aI (t.drop o)).2) Z Z (by omega) (by omega)) (by rw [List.drop_take,Nat.add_sub_cancel_left])) Z<|.mI Z Z<|.yvI (.build Z (Fx.bld96_0_1_2 _ _ _)) Z<|.yd Z Z Z (fun W s=>hY pre1 ⟨⟨(aI (t.drop o)).1,(t.drop o).take (aI (t.drop o)).2,o⟩,hx5⟩ W (hJs _ _ _ hJ1 s.ext) (by omega)) (fun w2 hj2=>?_) (fun w2 hj2=>?_)
  ·have hsd:=BQ ((t.drop o).drop (aI (t.drop o)).2);rw [List.length_drop,List.length_drop] at hsd;exact .yvI (.not Z) Z<|.nlI<|.tN<|.cF Z<|.sk<|.tN<|.rg<|.mv Z<|.mv Z<|.yw (.add Z Z (c:=((o+(aI (t.drop o)).2:Nat):Int)) ((w6 (by omega)).trans (by omega)))<|.a Z Z<|.nl<|.bN<|.tN<|.rg<|.mv Z<|.yw (.loadM Z Fx.agg9 hm (k:=0) Z Z)<|.mv Z<|.yw (.cast (.dropS Fx.str9 Z Z (lo:=o+(aI (t.drop o)).2) Z (by omega)) (by rw [← List.drop_drop];rfl))<|.yw (.call Fx.call69 Z (fun W s=>xQ ((t.drop o).drop (aI (t.drop o)).2) (by rw [List.length_drop,List.length_drop];omega) W))<|.yw (.add Z Z (c:=((o+(aI (t.drop o)).2+gI ((t.drop o).drop (aI (t.drop o)).2):Nat):Int)) ((w6 (by omega)).trans (by omega)))<|.a Z Z<|.nt<|.aj (x:=(o,pre1)) (o+(aI (t.drop o)).2+gI ((t.drop o).drop (aI (t.drop o)).2),pre1++[⟨⟨(aI (t.drop o)).1,(t.drop o).take (aI (t.drop o)).2,o⟩,hx5⟩]) ⟨by dsimp only;omega,by dsimp only;rw [List.length_append];simp;omega,by dsimp only;rw [← htk,List.map_append,List.append_assoc];congr 1;rw [oD hm0,show (t.drop o).drop ((aI (t.drop o)).2+gI ((t.drop o).drop (aI (t.drop o)).2))=t.drop (o+(aI (t.drop o)).2+gI ((t.drop o).drop (aI (t.drop o)).2)) by rw [Nat.add_assoc];exact List.drop_drop];rfl⟩ (by dsimp only;omega) hj2 ⟨rfl,rfl,rfl,trivial⟩
  refine .yvI (.not Z) Z<|.nlI<|.tN<|.cT Z<|.rt<|.tR<|.bR<|.tR<|.tR<|.bR<|?_
  refine Sx.retN (.inl rfl) rfl .nil rfl fun W s=>⟨⟨_,rfl⟩,.inr ⟨_,trivial,hJxs _ _ _ hj2 s.ext⟩⟩
 try simp only [df] at h11
 have hoe:o=t.length:=by omega
 refine .ex<|.tE<|.tE<|.bE<|?_
 refine Sx.retN (.inr rfl) rfl .nil rfl fun W s=>⟨⟨_,rfl⟩,.inl ⟨pre1,?_,hJs _ _ _ hJ1 s.ext⟩⟩;rw [← htk,hoe,List.drop_length,BH,List.append_nil]
theorem BU {H:Hp} {z:Nat} {d:D} {l:List Value} (h:aL H z [d] l):Rep H d l:=by
 unfold aL at h;obtain ⟨x,y,rfl,_,h1,h2⟩:=h;unfold aL at h2;subst h2;rw [List.append_nil];exact h1
theorem PY {H H':Hp} {x:TkS} {l:List Value} (h:aL H 3 [dTk .u8 x.1] l):aL H' 3 (List.map (dTk .u8) (List.map (·.1) [x])) l:=by
 obtain ⟨rfl,_⟩:=GD (BU h);exact .single (GC x.2) Z
theorem CA (q:UInt8→Bool):∀ (m:Str),pre q (m.take (pre q m))=pre q m
 | []=>rfl
 | c::r=>by
  rw [mC];cases h:q c with
  | false=>rw [if_neg (by decide)];rfl
  | true=>rw [if_pos rfl,List.take_succ_cons,mC,h,if_pos rfl,CA q r]
theorem JJ {m:Str} (h:m≠[]) (hk:(aI m).1=3):pre dU (m.take (aI m).2)=(m.take (aI m).2).length:=by
 have key:(aI m).2=pre dU m:=by
  match m,h with
  | c::r,_ =>
   cases h1:iE c with
   | true =>
    exfalso
    revert hk
    cases h4:words.contains ((c::r).take (pre eE (c::r))) with
    | true=>simp only [aI,List.headD_cons,h1,h4,if_true];decide
    | false =>
     by_cases h5:pre eE (c::r)≤12
     ·simp only [aI,List.headD_cons,h1,h4,h5,if_true,Bool.false_eq_true,if_false];decide
     ·simp only [aI,List.headD_cons,h1,h4,h5,if_true,Bool.false_eq_true,if_false];decide
   | false =>
    cases h4:dU c with
    | true =>
     by_cases h5:pre dU (c::r)=1∨c≠48
     ·simp only [aI,List.headD_cons,h1,h4,h5,if_true,Bool.false_eq_true,if_false]
     ·exfalso;revert hk;simp only [aI,List.headD_cons,h1,h4,h5,if_true,Bool.false_eq_true,if_false];decide
    | false =>
     exfalso
     revert hk
     cases hx:symbols.find? (fun x=>x.isPrefixOf (c::r)) <;> simp only [aI,List.headD_cons,h1,h4,hx,Bool.false_eq_true,if_false] <;> decide
 rw [key,CA,List.length_take,Nat.min_eq_left (nN dU m)]
theorem BI:∀ (f o:Nat) (m:Str),∀ t∈pI f o m,t.k=3→pre dU t.t=t.t.length
 | 0,_,_,t,h=>by cases h
 | f+1,o,m,t,h=>by
  by_cases h0:m=[]
  ·rw [h0,jO] at h;cases h
  ·rw [iR h0] at h;rcases List.mem_cons.1 h with rfl | h
   ·exact fun hk=>JJ h0 hk
   ·exact BI f _ _ t h
theorem NK (s:Str):∀ t∈fH s,t.k=3→pre dU t.t=t.t.length:=BI _ _ _
theorem uR:∀ (f o:Nat) (m:Str),∀ t∈pI f o m,t.t.length≤m.length
 | 0,_,_,t,h=>by cases h
 | f+1,o,m,t,h=>by
  by_cases h0:m=[]
  ·rw [h0,jO] at h;cases h
  ·rw [iR h0] at h;rcases List.mem_cons.1 h with rfl | h
   ·show (m.take _).length≤_;rw [List.length_take];omega
   ·have h1:=uR f _ _ t h;have h2:=fE false (m.drop (aI m).2);rw [List.length_drop] at h2;omega
theorem vT (s:Str):∀ t∈fH s,t.t.length≤s.length:=fun t h=>Nat.le_trans (uR _ _ _ t h) (fE false s)
theorem IX (H:Hp) (G:Gl H) (t:Str) (ht:t.length≤9223372036854775807) (w:World) (hA:Agr H w) :
 Calls Tryz.prog 22 #[aB t] w fun e W'=>∃ z:Nat × Hp × Option Addr × Nat,(Tkm z.2.1 (sg0 t).r z.2.2.1 z.2.2.2∧HUp w H z.2.1)∧e=.returned (.pointer (some ⟨z.1,0,none⟩))∧St z.2.1 w [.box z.1 [.slice z.2.2.1 ((sg0 t).r).length z.2.2.2,.int .i64 (bT ((sg0 t).r) (sg0 t):Nat),.int .i64 (t.length:Nat),.string ⟨#[]⟩,.slice none 0 0,.slice none 0 0,.slice none 0 0,.int .i64 ((sg0 t).o:Nat),.int .i64 ((sg0 t).e:Nat)] 99] W':=by
 refine Sx.enterM (H:=H) Tryz.func22 rfl Tryz.ntmps22 rfl hA ?_;refine .sr<|.a Z Z<|.ns<|.mv Z<|.yw (.lenS Fx.str9 Z)<|.yw (.build Z (Fx.bld99_2 _))<|.bx Z Z Z fun b8=>.al Fx.zero65 Z fun b3=>.st .head Z Z Fx.size65 Z (nb Z) Z<|.nt<|.sq<|.sr<|.mv Z<|.yw (.lenS Fx.str9 Z)<|.yw (.gtr Z Z)<|.nt<|.cd Z (fun h11=>?_) (fun h11=>?_)
 ·try simp only [dt] at h11
  have hbig:20000<t.length:=by omega
  have e0:sg0 t=⟨[],3,0⟩:=by unfold sg0;rw [if_pos hbig]
  refine .sr<|.yw (.load Z Fx.agg65 (.head _) Z)<|.yw (.nilCheck Z)<|.yw (.fieldAddr Z Fx.field99_5)<|.st bQ Z Z Fx.size28 Z (nb Z) Z<|.ns<|.yw (.load Z Fx.agg65 (.head _) Z)<|.a Z Z<|.nt<|.rt<|.tR<|?_
  refine Sx.ret0M (.inl rfl) ?_;refine Sx.ret1 (.inl rfl) rfl (.tmp rfl) fun W s=>⟨(b8,H,none,0),⟨by rw [e0];exact ⟨Rep.empty (Nat.zero_le _),fun _ h=>(by cases h),fun _ h=>(by cases h),fun _ h=>(by cases h)⟩,.refl⟩,rfl,?_⟩;rw [e0];exact s.pick [1] [_] rfl rfl
 try simp only [df] at h11
 have hl:t.length≤20000:=by omega
 have e0:sg0 t=⟨fH t,0,0⟩:=by unfold sg0;rw [if_neg (by omega)]
 refine .sk<|.tN<|.sq<|.sr<|.mv Z<|.ct (X:=Nat) Fx.call37 Z (fun W s=>HG H t W s.agr) Z fun b1 H1 m1 u1=>.nt<|.bk<|?_
 refine Sx.row0 96 3 ?_;refine At.pm [0,2,1] [_,_,_] rfl rfl ?_
 refine At.rfB (α:=TkS) (Z:=Value × Nat × List Value) (N:=t.length+1) (e:=96) (T:=99) (TX:=96) (size:=3) (p:=b8) (fx:=[.box b3 [.pointer (some ⟨b8,0,none⟩)] 65]) (enc:=fun x:TkS=>.agg (cTk .u8 x.1).toArray) (S:=fun xs=>xs.map (·.1)=fH t)
  (fun pre z=>z.2.1=pre.length∧aL H1 3 ((pre.map (·.1)).map (dTk .u8)) z.2.2) (fun z=>z.1) (fun z=>z.2.1) (fun z=>z.2.2) (fun _=>[.int .i64 0,.int .i64 (t.length:Nat),.string ⟨#[]⟩,.slice none 0 0,.slice none 0 0,.slice none 0 0,.int .i64 0,.int .i64 0]) (.slice none 0 0,0,[])
  (fun _ b=>[(3,.pointer (some ⟨b3,0,none⟩)),(4,.pointer (some ⟨b,0,none⟩))]) (fun x=>cTk .u8 x.1) rfl (fun _ _=>kF Fx.call68) rfl (fun w hA=>HD H1 (G.up u1.up) t (by omega) (fun x hx=>Nat.le_trans (vT t x hx) (by omega)) b1 m1 w hA) ⟨rfl,aL.nil⟩ rfl rfl ?_ ?_ ?_
 ·intro l x bs' K h;exact .rgI<|.alI Fx.zero96 Z fun b=>.sWI .head Z Z Fx.size96 (by simp [cTk,Value.oneCell',aB]) Z<|.nlI<|.tN<|fun a W f s=>h b a W (f.sub ⟨rfl,rfl,trivial⟩) s
 ·intro l' pre x z tl b H2 hC hlen u2 m2;obtain ⟨v,k,xs⟩:=z;obtain ⟨hk,hz⟩:=hC;dsimp only at hk hz ⊢;change At [] _ _ H2 w (.row 96 3 v k xs::.box b8 (v::[.int .i64 0,.int .i64 (t.length:Nat),.string ⟨#[]⟩,.slice none 0 0,.slice none 0 0,.slice none 0 0,.int .i64 0,.int .i64 0]) 99::.box b3 [.pointer (some ⟨b8,0,none⟩)] 65::tl) _;refine At.ra (.head _) fun pv cv ev=>?_;subst ev;refine .bkI<|.flI (trip:=[(_,_,_),(_,_,_),(_,_,_),(_,_,_),(_,_,_),(_,_,_),(_,_,_),(_,_,_)]) 8 [(0,0),(1,0),(2,0),(3,0),(4,0),(5,0),(6,1),(7,3)] (by kernel_rfl) (by kernel_rfl) (by kernel_rfl) Z<|.yw (.load Z Fx.agg65 cC Z)<|.yw (.load Z Fx.agg65 cC Z)<|.yw (.nilCheck Z)<|.yw (.fieldAddr Z Fx.field99_0)<|.yw (.load Z Fx.agg97 aW Z)<|.yw (.loadMW Z Fx.agg96 m2 Z)<|.blF Z (Fx.bsl97_1 _ _ _) Z fun b25 H3 u3 m3=>.apD Fx.row97 Z (fun _ _=>.head) Z (Rep.mk (n:=1) (c:=1) (ds:=[dTk .u8 x.1]) m3 (.single (GC x.2) Z) Z (Nat.le_refl _) (by decide)) (by simp [maxLen];omega) (by omega) Z (fun _ _=>(.dn<|.dn<|.dn<|.dn<|.dn<|.yv (.load Z Fx.agg65 cC Z)<|.nl)) fun xs26 p26 c26 hz26=>.fn (tl:=[_,_,_]) Z<|.yw (.nilCheck Z)<|.yw (.fieldAddr Z Fx.field99_0)<|.st bQ Z Z Fx.size97 Z (nb Z) Z<|.nlQ<|.bN<|?_
  refine At.rE ((.slice p26 (k+1) c26,k+1,xs++xs26):Value × Nat × List Value) (u2.trans u3.up) ?_ rfl;exact ⟨by simp [hk],by rw [List.map_append,List.map_append];exact hz.app (PY hz26)⟩
 intro D ys z hS hC;obtain ⟨v,k,xs⟩:=z;obtain ⟨hk,hz⟩:=hC;dsimp only at hk hz ⊢;change At _ _ _ H1 w (.obj D (.deferred (some []))::.row 96 3 v k xs::.box b8 (v::[.int .i64 0,.int .i64 (t.length:Nat),.string ⟨#[]⟩,.slice none 0 0,.slice none 0 0,.slice none 0 0,.int .i64 0,.int .i64 0]) 99::.box b3 [.pointer (some ⟨b8,0,none⟩)] 65::[]) _;refine .bN<|.tN<|.sr<|.yw (.load Z Fx.agg65 gN Z)<|.a Z Z<|.nt<|.rt<|?_
 refine At.pm [1,0,2,3] [_,_,_,_] rfl rfl ?_;have hz2:aL H1 3 ((fH t).map (dTk .u8)) xs:=by rw [← hS];exact hz
 have hlen:((fH t).map (dTk .u8)).length=k:=by rw [List.length_map,← hS,List.length_map,hk]
 refine Sx.freezeSeq hlen hz2 fun H3 p3 c3 u3 e3 h3=>?_;subst e3;refine Sx.retM (.inl rfl) .head ?_;refine Sx.ret1 (.inl rfl) rfl (.tmp rfl) fun W s=>⟨(b8,H3,p3,c3),⟨by rw [e0];rw [List.length_map] at hlen;subst hlen;exact ⟨h3,JZ t,NK t,fun x hx=>Nat.le_trans (vT t x hx) (by omega)⟩,u1.trans u3⟩,rfl,?_⟩;rw [List.length_map] at hlen;subst hlen;rw [e0];have s2:=s.pick [1] [_] rfl rfl;rw [show bT (fH t) ⟨fH t,0,0⟩=0 from Nat.sub_self _];exact s2
end Go.Proofs.YthhoebdlfjffkaaGreatDoor
namespace Go.Proofs.YthhoebdlfjffkaaGreatDoor
open Go.RowKit Go.Par Go.Sx
open Go.RowKit Go.Par Go.Sx
open Go.RowKit Go.Par Go.Sx
open Go.RowKit Go.Par Go.Sx
open Go.RowKit Go.Par Go.Sx
open Go.RowKit Go.Par Go.Sx
end Go.Proofs.YthhoebdlfjffkaaGreatDoor
namespace Go.Proofs.YthhoebdlfjffkaaGreatDoor
open Go.RowKit Go.Par Go.Sx
theorem NX {H H':Hp} {w0 W:World} {bs:List Res} (u:HUp W H H') (s:St H w0 bs W):HUp w0 H H':=⟨u.up,fun b e hb=>u.new b e (Nat.lt_of_lt_of_le hb s.ext.size)⟩
theorem GJ {H:Hp} (G:Gl H) {w0 W:World} {bs:List Res} (t:Str) (ht:t.length≤9223372036854775807) (s:St H w0 bs W) :
 Calls Tryz.prog 22 #[aB t] W fun e W'=>∃ z:Nat × Hp × Option Addr × Nat,(Tkm z.2.1 (sg0 t).r z.2.2.1 z.2.2.2∧HUp w0 H z.2.1)∧e=.returned (.pointer (some ⟨z.1,0,none⟩))∧St z.2.1 w0 (.box z.1 [.slice z.2.2.1 ((sg0 t).r).length z.2.2.2,.int .i64 (bT ((sg0 t).r) (sg0 t):Nat),.int .i64 (t.length:Nat),.string ⟨#[]⟩,.slice none 0 0,.slice none 0 0,.slice none 0 0,.int .i64 ((sg0 t).o:Nat),.int .i64 ((sg0 t).e:Nat)] 99::bs) W' :=
 (IX H G t ht W s.agr).mono fun e W' ⟨z,⟨h1,h2⟩,h3,h4⟩=>⟨z,⟨h1,NX h2 s⟩,h3,s.join h2 h4⟩
def exE (t:Str) (x:Ex):Nat:=if (sgZ (gX 0) t).e=0 then eY x else (sgZ (gX 0) t).e
def exO (t:Str) (x:Ex):Nat:=if (sgZ (gX 0) t).e=0∧eY x=0 then 0 else (sgZ (gX 0) t).o
def exR (t:Str) (x:Ex) (cs:List Value):List Value:=if (sgZ (gX 0) t).e=0∧eY x=0 then cs else [.int .u8 0,.string ⟨#[]⟩,.int .i64 0,.slice none 0 0]
theorem DM {H:Hp} (G:Gl H) {w0 W:World} {bs:List Res} (t:Str) (ht:t.length≤9223372036854775807) (s:St H w0 bs W) :
 Calls Tryz.prog 11 #[aB t] W fun e W'=>∃ z:Ex × List Value × Hp,(vl (gX 0) (sg0 t) z.1∧HUp w0 H z.2.2∧Rep z.2.2 (dEx .u8 z.1) z.2.1)∧e=.returned (.tuple #[.agg (exR t z.1 z.2.1).toArray,.int .i64 (exO t z.1:Nat),.int .i64 (exE t z.1:Nat)])∧St z.2.2 w0 bs W':=by
 refine Sx.enterS Tryz.func11 rfl Tryz.ntmps11 rfl s ?_;refine .sr<|.al Fx.zero27 Z fun b2=>.a Z Z<|.a Z Z<|.ns<|.mv Z<|.cs (X:=Nat × Hp × Option Addr × Nat) Fx.call22 Z (fun W s=>GJ G t ht s) Z fun z0 hz0=>?_
 obtain ⟨b,H0,tp,tc⟩:=z0;obtain ⟨K0,u0⟩:=hz0;dsimp only at K0 u0 ⊢;refine .a Z Z<|.ns<|.mv Z<|.cs (X:=Ex × List Value × Hp) Fx.call23 Z (fun W s=>fV K0 (List.suffix_refl _) (s.p2_2 [0,1] Z)) Z fun z1 hz1=>?_
 obtain ⟨a1,c1,H1⟩:=z1;obtain ⟨hv1,u1,r1⟩:=hz1;dsimp only at hv1 u1 r1 ⊢;obtain ⟨x1,x2,x3,x4,rfl⟩:=jJ (eJ r1);have K1:=K0.up u1.up;have u2:=u0.trans u1;refine .al Fx.zero27 Z fun b6=>.sW .head Z Z Fx.size27 (Rep.one r1) Z<|.ns<|.mv Z<|.cs (X:=Unit) Fx.call24 Z (fun W s=>DQ K1 ((Suf.ex 0).up (List.suffix_refl _))  (s.p3_3 [1,0,2] Z)) Z fun _ _=>.mv Z<|.yw (.extract Z Z)<|.yw (.extract Z Z)<|.a Z Z<|.a Z Z<|.nt<|.sq<|.sr<|.mv Z<|.yw (.eql Z Z)<|.nt<|.cd Z (fun h19=>?_) (fun h19=>?_)
 ·try simp only [dt] at h19
  have hZ:(sgZ (gX 0) t).e=0:=by unfold sgZ;omega
  refine .rg<|.yw (.loadW Z Fx.agg27 aW Z)<|.yw (.call Fx.call15 Z (fun W s=>xA H1 (G.up u2.up) a1 _ r1 (Nat.le_trans (LC hv1 hZ) (by decide)) W s.agr))<|.a Z Z<|.nt<|.sq<|.sr<|.mv Z<|.yw (.neq Z Z)<|.nt<|.cd Z (fun h23=>?_) (fun h23=>?_)
  ·try simp only [dt] at h23
   have hck:¬ eY a1=0:=by omega
   refine .sr<|.yw (.build Z Fx.bld27)<|.mv Z<|.mv Z<|.sW cJ Z Z Fx.size27 (by simp [Value.oneCell']) Z<|.a Z Z<|.a Z Z<|.nt<|.rt<|.tR<|?_
   refine Sx.retN (.inl rfl) rfl (.cons (.cell rfl Fx.agg27 cC rfl) (.cons (.tmp rfl) (.cons (.tmp rfl) .nil))) rfl fun W s=>⟨(a1,[x1,x2,x3,x4],H1),⟨hv1,u2,r1⟩,?_,s.p3_0 [] rfl⟩;unfold exR exO exE;simp only [hZ,hck,if_true,if_false]
   rfl
  try simp only [df] at h23
  have hck:eY a1=0:=by omega
  refine .sk<|.tN<|.sr<|.yw (.loadW Z Fx.agg27 aW Z)<|.sW cJ Z Z Fx.size27 (Rep.one r1) Z<|.a Z Z<|.a Z Z<|.nt<|.rt<|?_
  refine Sx.retN (.inl rfl) rfl (.cons (.cell rfl Fx.agg27 cC rfl) (.cons (.tmp rfl) (.cons (.tmp rfl) .nil))) rfl fun W s=>⟨(a1,[x1,x2,x3,x4],H1),⟨hv1,u2,r1⟩,?_,s.p3_0 [] rfl⟩;unfold exR exO exE;simp only [hZ,hck,if_true]
  rfl
 try simp only [df] at h19
 have hZ:¬ (sgZ (gX 0) t).e=0:=by unfold sgZ;omega
 refine .sk<|.tN<|.sq<|.sr<|.mv Z<|.yw (.neq Z Z)<|.nt<|.cd Z (fun h23=>?_) (fun h23=>?_)
 ·skip
  refine .sr<|.yw (.build Z Fx.bld27)<|.mv Z<|.mv Z<|.sW cJ Z Z Fx.size27 (by simp [Value.oneCell']) Z<|.a Z Z<|.a Z Z<|.nt<|.rt<|.tR<|?_
  refine Sx.retN (.inl rfl) rfl (.cons (.cell rfl Fx.agg27 cC rfl) (.cons (.tmp rfl) (.cons (.tmp rfl) .nil))) rfl fun W s=>⟨(a1,[x1,x2,x3,x4],H1),⟨hv1,u2,r1⟩,?_,s.p3_0 [] rfl⟩;unfold exR exO exE;simp only [hZ,if_false]
  rfl
 exact absurd (show (sgZ (gX 0) t).e=0 by unfold sgZ;have:=Classical.not_not.1 (of_decide_eq_false h23);omega) hZ
theorem OL {H:Hp} (G:Gl H) {w0 W:World} {bs:List Res} {t:Str} {x:Ex} (ht:t.length≤20000) (hx:gX 0 (fH t)=.ok x []) (hc:eY x=0) (s:St H w0 bs W) :
 Calls Tryz.prog 11 #[aB t] W fun e W'=>∃ z:List Value × Hp,(HUp w0 H z.2∧Rep z.2 (dEx .u8 x) z.1)∧e=.returned (.tuple #[.agg z.1.toArray,.int .i64 0,.int .i64 0])∧St z.2 w0 bs W':=by
 refine (DM G t (by omega) s).mono ?_;rintro e W' ⟨z,⟨h1,h2,h3⟩,h4,h5⟩;have h0:sg0 t=⟨fH t,0,0⟩:=by unfold sg0;rw [if_neg (by omega)]
 have hz:(sgZ (gX 0) t).e=0:=by
  have hu:up t.length (gX 0) (sg0 t)=⟨[],0,0⟩:=by
   rw [h0];unfold up;rw [if_pos rfl,hx]
  unfold sgZ;rw [hu]
  rfl
 have e1:z.1=x:=h1 (by rw [h0]) x [] (by rw [h0];exact hx);refine ⟨(z.2.1,z.2.2),⟨h2,e1 ▸ h3⟩,?_,h5⟩;rw [h4,e1];unfold exR exO exE;simp only [hz,hc,if_true]
 rfl
theorem yB {H:Hp} (G:Gl H) {w0 W:World} {bs:List Res} {t:Str} {c o:Nat} (ht:t.length≤9223372036854775807) (hc:(sgZ (gX 0) t).e=c) (ho:(sgZ (gX 0) t).o=o) (h0:c≠0) (s:St H w0 bs W) :
 Calls Tryz.prog 11 #[aB t] W fun e W'=>∃ z:Hp,HUp w0 H z∧e=.returned (.tuple #[.agg ([.int .u8 0,.string ⟨#[]⟩,.int .i64 0,.slice none 0 0]:List Value).toArray,.int .i64 (o:Nat),.int .i64 (c:Nat)])∧St z w0 bs W':=by
 subst hc ho;refine (DM G t ht s).mono ?_;rintro e W' ⟨z,⟨h1,h2,h3⟩,h4,h5⟩;refine ⟨z.2.2,h2,?_,h5⟩;rw [h4];unfold exR exO exE;simp only [h0,if_false,false_and]
end Go.Proofs.YthhoebdlfjffkaaGreatDoor
namespace Go.Proofs.YthhoebdlfjffkaaGreatDoor
theorem Suf.gex:Suf gEx:=Suf.ex 0
theorem Suf.blk {b:Pz (List Sm)} (h:Suf b):Suf (iF b):=.bind (.nd _) fun _=>.bind h fun _=>.bind (.nd _) fun _=>.pure _
theorem Suf.els {b:Pz (List Sm)} (h:Suf b):Suf (qY b):=.alt (.blk h) (.pure _)
theorem Suf.oth {b:Pz (List Sm)} (h:Suf b):Suf (jX b):=.alt (.blk h) (.bind (.nd _) fun _=>.pure _)
theorem Suf.list {α:Type} {p:Pz α} (h:Suf p):Suf (dY p):=.bind (.nd _) fun _=>.alt (.pure _) (.bind h fun _=>.bind (.many h) fun _=>.bind (.nd _) fun _=>.pure _)
theorem Suf.st {b:Pz (List Sm)} (h:Suf b):Suf (gSt b) :=
 .alt (.bind .gex fun _=>.bind (.blk h) fun _=>.bind (.els h) fun _=>.pure _)<|.alt (.bind .gex fun _=>.bind (.blk h) fun _=>.pure _)<|.alt (.bind .gex fun _=>.bind (.nd _) fun _=>.bind .gex fun _=>.bind (.oth h) fun _=>.pure _)<|.alt (.bind .nm fun _=>.bind (.nd _) fun _=>.bind .gex fun _=>.bind (.oth h) fun _=>.pure _)<|.alt (.bind .nm fun _=>.bind (.nd _) fun _=>.bind .nm fun _=>.bind (.list .gex) fun _=>.bind (.nd _) fun _=>.pure _)<|.alt (.bind .gex fun _=>.bind (.nd _) fun _=>.bind .nm fun _=>.bind (.list .gex) fun _=>.bind (.nd _) fun _=>.pure _)<|.alt (.bind (.nd _) fun _=>.pure _)<|.alt (.bind .nm fun _=>.bind (.nd _) fun _=>.bind .gex fun _=>.bind (.nd _) fun _=>.bind (.nd _) fun _=>.pure _)<|.bind .nm fun _=>.alt (.bind .gex fun _=>.bind (.nd _) fun _=>.bind (.nd _) fun _=>.bind .gex fun _=>.bind (.nd _) fun _=>.pure _)
  (.bind (.nd _) fun _=>.bind .gex fun _=>.bind (.nd _) fun _=>.pure _)
theorem Suf.bF:∀ f,Suf (gBF f)
 | 0=>fun r=>⟨fun a r' e=>(by unfold gBF at e;cases e),fun r' c e=>(by unfold gBF at e;injection e with e _;subst e;exact List.suffix_refl _)⟩
 | f+1=>fun r=>by
  have h1:=Suf.st (Suf.bF f);have h2:=Suf.bF f;refine ⟨fun a r' e=>?_,fun r' c e=>?_⟩
  ·unfold gBF at e
   split at e
   ·injection e with _ e;subst e;exact List.suffix_refl _
   ·obtain ⟨s,q,k1,k2⟩:=Rs.bind_ok e;obtain ⟨l,q2,k3,k4⟩:=Rs.bind_ok k2;injection k4 with _ k4;subst k4
    exact ((h2 _).1 _ _ k3).trans ((h1 _).1 _ _ k1)
  ·unfold gBF at e
   split at e
   ·cases e
   ·rcases Rs.bind_er e with e | ⟨s,q,k1,e⟩
    ·exact (h1 _).2 _ _ e
    ·rcases Rs.bind_er e with e | ⟨l,q2,k3,e⟩
     ·exact ((h2 _).2 _ _ e).trans ((h1 _).1 _ _ k1)
     ·cases e
theorem Suf.b:Suf gB:=fun r=>Suf.bF _ r
theorem Suf.tr:Suf gTr:=.alt (.pure _) (.bind (.nd _) fun _=>.pure _)
theorem Suf.fg:Suf gFg:=.bind .nm fun _=>.bind (.nd _) fun _=>.bind .tr fun _=>.bind (.nd _) fun _=>.pure _
theorem Suf.lk:Suf gLk:=.bind .nm fun _=>.bind (.nd _) fun _=>.bind .nm fun _=>.bind (.nd _) fun _=>.bind .nu fun _=>.bind (.nd _) fun _=>.pure _
theorem Suf.int:Suf qX:=.alt (.bind .nu fun _=>.pure _) .nu
theorem Suf.vr:Suf gVr:=.bind .nm fun _=>.bind (.nd _) fun _=>.alt (.bind (.nd _) fun _=>.bind .int fun _=>.bind (.nd _) fun _=>.pure _)<|.alt (.bind (.nd _) fun _=>.bind .tr fun _=>.bind (.nd _) fun _=>.pure _)<|.bind (.nd _) fun _=>.bind (.nd _) fun _=>.pure _
theorem Suf.hd:Suf gHd:=.bind .nm fun _=>.bind (.list .nm) fun _=>.bind (.blk .b) fun _=>.pure _
theorem Suf.vs:Suf gVs:=.many .hd
theorem Suf.vn (w:Str):Suf (gVn w):=.bind (.nn _) fun _=>.bind (.nd _) fun _=>.bind .vs fun _=>.bind (.nd _) fun _=>.pure _
theorem Suf.vm:Suf gVm:=.alt (.bind (.vn _) fun _=>.alt (.bind (.vn _) fun _=>.pure _) (.pure _)) (.pure _)
theorem Suf.cp:Suf gCp:=.bind .nm fun _=>.bind (.nd _) fun _=>.bind (.many .vr) fun _=>.bind .vs fun _=>.bind .vm fun _=>.bind (.nd _) fun _=>.pure _
theorem Suf.ft:Suf gFt:=.bind (.nd _) fun _=>.bind .nm fun _=>.bind (.nd _) fun _=>.bind (.many .fg) fun _=>.bind (.many .lk) fun _=>.bind (.many .cp) fun _=>.bind (.nd _) fun _=>.pure _
end Go.Proofs.YthhoebdlfjffkaaGreatDoor
namespace Go.Proofs.YthhoebdlfjffkaaGreatDoor
open Go.RowKit Go.Par Go.Sx
theorem Fx.call119:aM Tryz.prog 119=Bool.true:=by kernel_rfl
theorem Fx.field99_3:aN Tryz.prog 99 3=some 3:=by kernel_rfl
theorem Fx.size4:bL Tryz.prog 4=some 1:=by kernel_rfl
def yR (f:FuncId) {α:Type} (g:Pz α) (d:α→D) (T:TypeId) (size:Nat) (c0 c1 c2 c3:Value→Value) (b n:Nat) (ts:List Tk) (tp:Option Addr) (tc:Nat):Prop :=
 ∀ {H:Hp} {w0 W:World} {bs:List Res} {q:Sg} {v:Value} {k:Nat} {xs:List Value},Tkm H ts tp tc→q.r<:+ts→k≤1000000→St H w0 (.row T size v k xs::.box b [.slice tp ts.length tc,.int .i64 (bT ts q:Nat),.int .i64 (n:Nat),c0 v,c1 v,c2 v,c3 v,.int .i64 (q.o:Nat),.int .i64 (q.e:Nat)] 99::bs) W →
  Calls Tryz.prog f #[.pointer (some ⟨b,0,none⟩)] W fun e W'=>∃ z:α × Value × List Value × Hp,(vl g q z.1∧HUp w0 H z.2.2.2∧aL z.2.2.2 size [d z.1] z.2.2.1)∧e=.returned (.tuple #[])∧St z.2.2.2 w0 (.row T size z.2.1 (k+1) (xs++z.2.2.1)::.box b [.slice tp ts.length tc,.int .i64 (bT ts (up n g q):Nat),.int .i64 (n:Nat),c0 z.2.1,c1 z.2.1,c2 z.2.1,c3 z.2.1,.int .i64 ((up n g q).o:Nat),.int .i64 ((up n g q).e:Nat)] 99::bs) W'
theorem RS {b n:Nat} {ts:List Tk} {tp:Option Addr} {tc:Nat} {t0 t2 t3:Value}:yR 75 gFg dFg 102 2 (fun _=>t0) (fun v=>v) (fun _=>t2) (fun _=>t3) b n ts tp tc:=by
 intro H w0 W bs q v k xs K hq hk s;refine Sx.enterS Tryz.func75 rfl Tryz.ntmps75 rfl s ?_;refine .sr<|.al Fx.zero102 Z fun b2=>.ns<|.mv Z<|.cs (X:=Str) Fx.call74 Z (fun W s=>fO K hq  (s.p3_3 [2,0,1] Z)) Z fun nm hnm=>.yw (.fieldAddr Z Fx.field102_0)<|.st bQ Z Z Fx.size9 Z (nb Z) Z<|.ns<|.mv Z<|.cs (X:=Unit) Fx.call73 Z (fun W s=>aP K (Suf.nm.up hq) [61] (by decide +kernel) (s.p3_3 [0,1,2] Z)) Z fun _ _=>.ns<|.mv Z<|.cs (X:=Bool) Fx.call119 Z (fun W s=>BG K ((Suf.nd _).up (Suf.nm.up hq))  (s.p3_3 [0,1,2] Z)) Z fun tb htb=>.yw (.fieldAddr Z Fx.field102_1)<|.st bQ Z Z Fx.size4 Z (nb Z) Z<|.ns<|.mv Z<|.cs (X:=Unit) Fx.call73 Z (fun W s=>aP K (Suf.tr.up ((Suf.nd _).up (Suf.nm.up hq))) [59] (by decide +kernel) (s.p3_3 [0,1,2] Z)) Z fun _ _=>.nt<|.fL 9 [(0,0),(1,0),(2,0),(3,0),(4,0),(5,0),(6,0),(7,1),(8,3)]<|.mv Z<|.mv Z<|.yw (.nilCheck Z)<|.yw (.fieldAddr Z Fx.field99_3)<|.yw (.fieldAddr Z Fx.field49_1)<|.yw (.load Z Fx.agg45 (.head _) Z)<|.yw (.loadW Z Fx.agg102 aW Z)<|.blF Z (Fx.bsl45_1 _ _) Z fun b25 H2 u2 m2=>.apD Fx.row45 Z (fun _ _=>cJ) Z (Rep.mk (n:=1) (c:=1) (ds:=[dFg ⟨nm,tb⟩]) m2 (.single (AJ (x:=⟨nm,tb⟩) hnm.2) Z) Z (Nat.le_refl _) (by decide)) (by simp [maxLen];omega) (by omega) Z (fun _ _=>(.dn<|.dn<|.dn<|.dn<|.dn<|.dn<|.yv (.move Z)<|.nl)) fun xs26 p26 c26 hz26=>.fn (tl:=[_,_,_,_]) Z<|.yw (.nilCheck Z)<|.yw (.fieldAddr Z Fx.field99_3)<|.yw (.fieldAddr Z Fx.field49_1)<|.st .head Z Z Fx.size45 Z (nb Z) Z<|.nl<|?_
 refine Sx.retN (.inr rfl) rfl .nil rfl fun W s=>⟨(⟨nm,tb⟩,.slice p26 (k+1) c26,xs26,H2),⟨aC (n:=n) hnm.1 (aC (n:=n) (x:=()) aG (aC (n:=n) htb (aC (n:=n) (x:=()) aG aX))),u2,hz26⟩,rfl,?_⟩;rw [show up n gFg q=(up n (gNd [59]) (up n gTr (up n (gNd [61]) (up n gNm q)))) by unfold gFg;rw [aA Cz.nm hnm.1,aA (x:=()) (Cz.nd _) aG,aA Cz.tr htb,aA (x:=()) (Cz.nd _) aG,aZ]];exact s.p3_2 [2,0] rfl
theorem RE {b n:Nat} {ts:List Tk} {tp:Option Addr} {tc:Nat} {t0 t1 t3:Value}:yR 76 gLk dLk 105 3 (fun _=>t0) (fun _=>t1) (fun v=>v) (fun _=>t3) b n ts tp tc:=by
 intro H w0 W bs q v k xs K hq hk s;refine Sx.enterS Tryz.func76 rfl Tryz.ntmps76 rfl s ?_;refine .sr<|.al Fx.zero105 Z fun b2=>.ns<|.mv Z<|.cs (X:=Str) Fx.call74 Z (fun W s=>fO K hq  (s.p3_3 [2,0,1] Z)) Z fun mx hmx=>.yw (.fieldAddr Z Fx.field105_0)<|.st bQ Z Z Fx.size9 Z (nb Z) Z<|.ns<|.mv Z<|.cs (X:=Unit) Fx.call73 Z (fun W s=>aP K (Suf.nm.up hq) [45,62] (by decide +kernel) (s.p3_3 [0,1,2] Z)) Z fun _ _=>.ns<|.mv Z<|.cs (X:=Str) Fx.call74 Z (fun W s=>fO K ((Suf.nd _).up (Suf.nm.up hq))  (s.p3_3 [0,1,2] Z)) Z fun my hmy=>.yw (.fieldAddr Z Fx.field105_1)<|.st bQ Z Z Fx.size9 Z (nb Z) Z<|.ns<|.mv Z<|.cs (X:=Unit) Fx.call73 Z (fun W s=>aP K (Suf.nm.up ((Suf.nd _).up (Suf.nm.up hq))) [108,97,116,101,110,99,121] (by decide +kernel) (s.p3_3 [0,1,2] Z)) Z fun _ _=>.ns<|.mv Z<|.cs (X:=Int64) Fx.call120 Z (fun W s=>rV K ((Suf.nd _).up (Suf.nm.up ((Suf.nd _).up (Suf.nm.up hq))))  (s.p3_3 [0,1,2] Z)) Z fun nu hnu=>.yw (.fieldAddr Z Fx.field105_2)<|.st bQ Z Z Fx.size3 Z (nb Z) Z<|.ns<|.mv Z<|.cs (X:=Unit) Fx.call73 Z (fun W s=>aP K (Suf.nu.up ((Suf.nd _).up (Suf.nm.up ((Suf.nd _).up (Suf.nm.up hq))))) [59] (by decide +kernel) (s.p3_3 [0,1,2] Z)) Z fun _ _=>.nt<|.fL 9 [(0,0),(1,0),(2,0),(3,0),(4,0),(5,0),(6,0),(7,1),(8,3)]<|.mv Z<|.mv Z<|.yw (.nilCheck Z)<|.yw (.fieldAddr Z Fx.field99_3)<|.yw (.fieldAddr Z Fx.field49_2)<|.yw (.load Z Fx.agg46 (.head _) Z)<|.yw (.loadW Z Fx.agg105 aW Z)<|.blF Z (Fx.bsl46_1 _ _ _) Z fun b25 H2 u2 m2=>.apD Fx.row46 Z (fun _ _=>cJ) Z (Rep.mk (n:=1) (c:=1) (ds:=[dLk ⟨mx,my,nu⟩]) m2 (.single (zX (x:=⟨mx,my,nu⟩) hmx.2 hmy.2) Z) Z (Nat.le_refl _) (by decide)) (by simp [maxLen];omega) (by omega) Z (fun _ _=>(.dn<|.dn<|.dn<|.dn<|.dn<|.dn<|.yv (.move Z)<|.nl)) fun xs26 p26 c26 hz26=>.fn (tl:=[_,_,_,_]) Z<|.yw (.nilCheck Z)<|.yw (.fieldAddr Z Fx.field99_3)<|.yw (.fieldAddr Z Fx.field49_2)<|.st .head Z Z Fx.size46 Z (nb Z) Z<|.nl<|?_
 refine Sx.retN (.inr rfl) rfl .nil rfl fun W s=>⟨(⟨mx,my,nu⟩,.slice p26 (k+1) c26,xs26,H2),⟨aC (n:=n) hmx.1 (aC (n:=n) (x:=()) aG (aC (n:=n) hmy.1 (aC (n:=n) (x:=()) aG (aC (n:=n) hnu (aC (n:=n) (x:=()) aG aX))))),u2,hz26⟩,rfl,?_⟩;rw [show up n gLk q=(up n (gNd [59]) (up n gNu (up n (gNd [108,97,116,101,110,99,121]) (up n gNm (up n (gNd [45,62]) (up n gNm q)))))) by unfold gLk;rw [aA Cz.nm hmx.1,aA (x:=()) (Cz.nd _) aG,aA Cz.nm hmy.1,aA (x:=()) (Cz.nd _) aG,aA Cz.nu hnu,aA (x:=()) (Cz.nd _) aG,aZ]];exact s.p3_2 [2,0] rfl
structure MnI {α:Type} (n:Nat) (w:Str) (g:Pz α) (q:Sg) (l:List α) (q1:Sg):Prop where
 eq:up n (dC w g) q1=up n (dC w g) q
 val:∀ l',vl (dC w g) q1 l'→vl (dC w g) q (l++l')
 len:l.length+q1.mu≤q.mu
 er:q1.e=0→q.e=0
theorem MnI.start {α:Type} {n:Nat} {w:Str} {g:Pz α} {q:Sg}:MnI n w g q [] q:=⟨rfl,fun _ h=>h,by simp,id⟩
theorem MnI.step {α:Type} {n:Nat} {w:Str} {g:Pz α} {q q1:Sg} {l:List α} {a:α} (h:MnI n w g q l q1) (hs:Shr g) (hz:Cz g) (hac:ac w q1=true) (hv:vl g q1.tl a):MnI n w g q (l++[a]) (up n g q1.tl)∧(up n g q1.tl).mu<q1.mu:=by
 have h1:=eN (n:=n) (s:=q1.tl) hs hz;have h2:=kP hac;refine ⟨⟨?_,fun l' hl'=>?_,by have:=h.len;simp;omega,fun _=>h.er (AX hac).1⟩,by omega⟩
 ·rw [← h.eq,UP (n:=n) hs hz hac hv]
 ·rw [List.append_assoc];exact h.val _ (QZ (n:=n) hs hac hv hl')
theorem MnI.stop {α:Type} {n:Nat} {w:Str} {g:Pz α} {q q1:Sg} {l:List α} (h:MnI n w g q l q1) (hs:Shr g) (hac:ac w q1=false):up n (dC w g) q=q1∧vl (dC w g) q l:=by
 refine ⟨by rw [← h.eq,UQ hs hac],?_⟩;have:=h.val [] (RA hs hac)
 rwa [List.append_nil] at this
theorem zT {α:Type} {H:Hp} {w0 W:World} {bs:List Res} {b n:Nat} {ts:List Tk} {tp:Option Addr} {tc:Nat} {q:Sg} {c0 c1 c2 c3:Value→Value} (K:Tkm H ts tp tc) (hq:q.r<:+ts) (hmu:q.mu≤1000000)
 (f:FuncId) (hcall:aM Tryz.prog f=true) (w:Str) (hw:w∈words∨w∈symbols) (g:Pz α) (d:α→D) (T:TypeId) (size:Nat) (hsh:Shr g) (hcz:Cz g) (hsu:Suf g) (hit:q.e=0→yR f g d T size c0 c1 c2 c3 b n ts tp tc) (bm:Nat) (hm:dS H bm 0 [.pointer (some ⟨b,0,none⟩)]) (v:Value)
 (s:St H w0 (.row T size v 0 []::.box b [.slice tp ts.length tc,.int .i64 (bT ts q:Nat),.int .i64 (n:Nat),c0 v,c1 v,c2 v,c3 v,.int .i64 (q.o:Nat),.int .i64 (q.e:Nat)] 99::bs) W) :
 Calls Tryz.prog 71 #[aB w,.func (.func f) #[.pointer (some ⟨b,0,none⟩)] #[],.pointer (some ⟨bm,0,none⟩)] W fun e W'=>∃ z:List α × Value × List Value × Hp,(vl (dC w g) q z.1∧HUp w0 H z.2.2.2∧aL z.2.2.2 size (z.1.map d) z.2.2.1∧z.1.length≤q.mu)∧e=.returned (.tuple #[])∧St z.2.2.2 w0 (.row T size z.2.1 z.1.length z.2.2.1::.box b [.slice tp ts.length tc,.int .i64 (bT ts (up n (dC w g) q):Nat),.int .i64 (n:Nat),c0 z.2.1,c1 z.2.1,c2 z.2.1,c3 z.2.1,.int .i64 ((up n (dC w g) q).o:Nat),.int .i64 ((up n (dC w g) q).e:Nat)] 99::bs) W':=by
 refine Sx.enterS Tryz.func71 rfl Tryz.ntmps71 rfl s ?_;refine .bk<|.lp (X:=List α × Value × List Value × Hp × Sg) [(0,_),(1,_),(2,_)] ⟨rfl,rfl,rfl,trivial⟩ (bs) (fun z=>[]) (fun z=>z.2.2.2.1) (fun z=>[.row T size z.2.1 z.1.length z.2.2.1,.box b [.slice tp ts.length tc,.int .i64 (bT ts z.2.2.2.2:Nat),.int .i64 (n:Nat),c0 z.2.1,c1 z.2.1,c2 z.2.1,c3 z.2.1,.int .i64 (z.2.2.2.2.o:Nat),.int .i64 (z.2.2.2.2.e:Nat)] 99]) (fun z=>MnI n w g q z.1 z.2.2.2.2∧HUp w0 H z.2.2.2.1∧aL z.2.2.2.1 size (z.1.map d) z.2.2.1∧z.2.2.2.2.r<:+ts) (fun z=>z.2.2.2.2.mu) ([],v,[],H,q) (fun _ s=>s) trivial ⟨MnI.start,.refl,aL.nil,hq⟩ fun z hC=>?_
 obtain ⟨l,v1,xs1,H1,q1⟩:=z;obtain ⟨hI,u1,hz1,hq1⟩:=hC;dsimp only at hI u1 hz1 hq1 ⊢;have K1:=K.up u1.up;have hk1:l.length≤1000000:=by have:=hI.len;omega
 refine .sq<|.sr<|.yw (.loadM Z Fx.agg65 (hm.up u1.up) (k:=0) Z Z)<|.mv Z<|.cs (X:=Unit) Fx.call72 Z (fun W s=>bM K1 hq1 w hw (s.p2_2 [1,0] Z)) Z fun _ _=>.nt<|.cd Z (fun h7=>?_) (fun h7=>?_)
 ·rw [fJ h7];refine .sk<|.tN<|.bk<|.rg<|.mv Z<|.sv (X:=α × Value × List Value × Hp) (fi:=[.pointer (some ⟨b,0,none⟩)]) (ca:=[]) Z hcall Z (fun W s=>hit (hI.er (AX h7).1) K1 (Suf.tl hq1) hk1 (s.p2_2 [1,0] Z)) Z fun z2 hz2=>?_
  obtain ⟨a2,v2,xs2,H2⟩:=z2;obtain ⟨hv2,u2,hz2⟩:=hz2;dsimp only at hv2 u2 hz2 ⊢;exact .nl<|.bN<|.tN<|.ag (x:=(l,v1,xs1,H1,q1)) (l++[a2],v2,xs1++xs2,H2,up n g q1.tl) trivial ⟨rfl,rfl,rfl,trivial⟩ (fun _ s=>by have s2:=s;simpa using s2) ⟨(hI.step hsh hcz h7 hv2).1,u1.trans u2,by dsimp only;rw [List.map_append];exact (hz1.up u2.up).app hz2,hsu.up (Suf.tl hq1)⟩ (hI.step hsh hcz h7 hv2).2
 rw [fK h7];obtain ⟨e1,hv⟩:=hI.stop hsh h7;rw [e1];refine .ex<|.tE<|.tE<|.bE<|?_
 refine Sx.retN (.inr rfl) rfl .nil rfl fun W s=>⟨(l,v1,xs1,H1),⟨hv,u1,hz1,Nat.le_trans (Nat.le_add_right _ _) hI.len⟩,rfl,?_⟩;exact s.p2_2 [1,0] rfl
end Go.Proofs.YthhoebdlfjffkaaGreatDoor
namespace Go.Proofs.YthhoebdlfjffkaaGreatDoor
open Go.RowKit Go.Par Go.Sx
end Go.Proofs.YthhoebdlfjffkaaGreatDoor
