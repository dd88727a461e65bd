/- Texts of the proof, one behind the other. -/
import Derived.Test.YtidclioghdbphaaGreatDoorMc
import Derived.Shelf.Strings.Builder1
import Derived.Shelf.Strings.Builder2
import Derived.Shelf.Strings.OnBuilder
import Derived.Shelf.Strings.BuilderF
import Derived.Shelf.Strings.BuilderK
import Derived.Shelf.Strings.Builder2Cap
import Derived.Shelf.Strconv.Itoa0
import Derived.Shelf.Strconv.Itoa1
import Derived.Shelf.LaysM
import Derived.Shelf.Strconv.Itoa2
import Derived.Shelf.Strconv.Itoa3
import Derived.Shelf.Strconv.Itoa4
import Derived.Shelf.Strings.Search1
import Derived.Shelf.Strings.Search2
import Derived.Shelf.Strings.Cut
import Derived.Shelf.Strings.Shaped
import Derived.Shelf.Strings.Prefix
import Derived.Shelf.Strings.BuilderCap
import Derived.Test.YtidclioghdbphaaGreatDoorProg
set_option linter.all false
set_option maxRecDepth 100000
namespace Go.Proofs.YtidclioghdbphaaGreatDoor
open Go.RowKit Go.Par Go.Sx
theorem gdE_nar {e:Ex} (h:gdE e=true):Ex.all narrow e=true:=by
 unfold gdE at h;rw [Al_Bool_and_eq_true] at h;exact h.2
variable {k:Nat}
theorem takeF_snoc {l:List Fm} (h:k<l.length):l.take (k+1)=l.take k++[l[k]]:=by rw [List.take_succ,List.getElem?_eq_getElem h];rfl
theorem fm_is (f:Fm):∃ o n d a b e r,f=.mk o n d a b e r:=by
 obtain ⟨o,n,d,a,b,e,r⟩:=f;exact ⟨o,n,d,a,b,e,r,Z⟩
def FormOf (g:Fm):Prop:=gdF g=true->∀ (H:Hp) (cs:List Value) (w:World),Rep H (dFm .i64 g) cs->Agr H w ->
 Calls prg 16 #[.agg cs.toArray] w λr w'=>∃ x H',Rep H' (dFm .u8 g) x/\r=.returned (.agg x.toArray)/\Grow H w H' w'
set_option maxHeartbeats 1000000 in
theorem form_any (g:Fm):FormOf g:=by
 induction g using Fm.ind with | _ op nm fd a b ex args ih
 intro hgd H cs w h hA;obtain ⟨⟨hop,hexl,hal,hge⟩,hga⟩:=gdF_mk.1 hgd;obtain ⟨p1,c1,p2,c2,rfl,hs1,hs2,hnm,hfd⟩:=fm_open h;have hcap1:=hs1.cap;have hcap2:=hs2.cap;refine Sx.enter (H:=H) Tryz.func16 rfl Tryz.ntmps16 rfl hA ?_;refine .sr<|.bx Z Z Z λb1=>.al Fx.zero35 Z λb2=>.ns<|.fA Z Fx.field27_0<|.lD Z Fx.agg3 mem1 Z<|.yw (.conv Z Fx.int3 Fx.int74 (c:=(op.toNat:Nat)) (by have:=op.toNat_lt;simp only [IntKind.wrap,IntKind.signed,IntKind.bits];simp;omega))<|.fA Z Fx.field27_1<|.lD Z Fx.agg9 mem1 Z<|.fA Z Fx.field27_2<|.lD Z Fx.agg9 mem1 Z<|.fA Z Fx.field27_3<|.lD Z Fx.agg3 mem1 Z<|.fA Z Fx.field27_4<|.lD Z Fx.agg3 mem1 Z<|.yw (.build Z (Fx.bld35_0_1_2_3_4 _ _ _ _ _))<|.al Fx.zero35 Z λb3=>.sX .head Z Z Fx.size35 Z<|.nt<|.sq<|.sq<|?_
 refine Sx.row0 76 4 ?_;refine .rg<|.fA Z Fx.field27_5<|.lD Z Fx.agg24 mem3 Z<|.yw (.lenSl Fx.sl24 Z)<|.mv Z<|.nt<|.bk<|.pm [1,0,2,3] [_,_,_,_] Z Z<|.lp (X:=Nat × Hp × Value × List Value) [(1,_),(2,_),(3,_),(21,_),(22,_)] ⟨Z,Z,Z,Z,Z,Jt⟩ [_,_] (λz=>[(23,iN z.1)]) (λz=>z.2.1) (λz=>[.box b3 [.int .u8 op.toNat,strV nm,strV fd,.int .i64 a.toInt,.int .i64 b.toInt,z.2.2.1,.slice none 0 0] 35,.row 76 4 z.2.2.1 z.1 z.2.2.2]) (λz=>z.1<=ex.length/\HUp w H z.2.1/\RepZ z.2.1 4 ((ex.take z.1).map (dEx .u8)) z.2.2.2) (λz=>ex.length - z.1) (0,H,.slice none 0 0,[]) (λ_ s=>s) ⟨Z,Jt⟩ ⟨by simp,.refl,RepZ.nil⟩ λz hC=>?_
 obtain ⟨k,H1,r,xs⟩:=z;dsimp only at hC|-;obtain ⟨hk0,u1,hz⟩:=hC;refine .sr<|.yw (.lss Z Z)<|.nt<|.sq<|.ce Z (λh24=>?_) (λh24=>?_)
 ·have hk:k<ex.length:=by omega
  obtain ⟨bE,oE,cE,hpE,rE,lE,mE⟩:=(hs1.up u1.up).elem (map_at (f:=dEx .i64) hk);cases hpE;have hnr:=gdE_nar (hge _ (Al_List_getElem_mem hk));refine .sk<|.tN<|.sq<|.bk<|.sr<|.yw (.indexSl Fx.sl24 Z Z Z (by omega) (q:=oE+k * 4) Z)<|.yw (.loadMW Z Fx.agg83 mE lE)<|.al Fx.zero83 Z λb5=>.sV .head Z Z Fx.size83 lE rE.one Z<|.nt<|.fL 5 [(0,0),(1,0),(2,0),(3,1),(4,1)]<|.fA Z Fx.field35_5<|.lD Z Fx.agg32 mem1 Z<|.yw (.loadW Z Fx.agg83 Hm lE)<|.ct (X:=List Value) Fx.call39 Z (λW s=>expr_any _ hnr H1 cE W rE s.agr) Z λx2 H2 hc2 u2=>?_
  obtain ⟨op2,nm2,n2,args2,hx⟩:=ex_is (ex[k]);rw [hx] at hc2;obtain ⟨p2,c2,rfl,hs2,hnm2⟩:=ex_open hc2;refine .bl Z (Fx.bsl32_1 _ _ _ _) Z λb31=>.fn (tl:=[_,_,_]) Z<|.ap (news:=[.int .u8 op2.toNat,strV nm2,.int .i64 n2.toInt,.slice p2 args2.length c2]) Fx.row32 Z (λ_=>upd3) Z (.box Hm z0) Z (by simp [Value.oneCell',strV]) (by simp [maxLen];omega) (by omega) Z λr32 _=>?_
  refine At.ra mem3 λp32 c32 e32=>?_;exact .fA Z Fx.field35_5<|.st upd2 Z Z Fx.size32 (by rw [e32];rfl) (nb Z) Z<|.nl<|.bN<|.tN<|.rg<|.yw (.add Z Z w7)<|.mv Z<|.nt<|.ag (x:=(k,H1,r,xs)) (k+1,H2,r32,xs++[.int .u8 op2.toNat,strV nm2,.int .i64 n2.toInt,.slice p2 args2.length c2]) ⟨Z,Jt⟩ ⟨Z,Z,Z,Z,Z,Jt⟩ (λ_ s=>(s.pick [2,3,4,5] _ Z Z)) ⟨by dsimp only;omega,u1.trans u2,by dsimp only;rw [take_snoc hk,Al_List_map_append,hx];exact (hz.up u2.up).snoc hc2 Z⟩ (by dsimp only;omega)
 obtain rfl:k=ex.length:=by omega
 rw [Al_List_take_length] at hz;refine At.ra (.tail _ Hm) λp32 c32 e32=>?_;subst e32;obtain ⟨HX,hHX⟩:∃ h,h=H1:=⟨_,Z⟩;rw [<-hHX] at u1 hz|-;have uX:=u1;have hzX:=hz;clear u1 hz hHX;refine .ex<|.eb<|.sq<|.sq<|?_
 refine Sx.row0 35 7 ?_;refine .rg<|.fA Z Fx.field27_6<|.lD Z Fx.agg25 mem4 Z<|.yw (.lenSl Fx.sl25 Z)<|.mv Z<|.nt<|.bk<|.pm [1,0,2,3,4] [_,_,_,_,_] Z Z<|.lp (X:=Nat × Hp × Value × List Value) [(2,_),(3,_),(36,_),(37,_)] ⟨Z,Z,Z,Z,Jt⟩ [_,_,_] (λz=>[(38,iN z.1)]) (λz=>z.2.1) (λz=>[.box b3 [.int .u8 op.toNat,strV nm,strV fd,.int .i64 a.toInt,.int .i64 b.toInt,.slice p32 ex.length c32,z.2.2.1] 35,.row 35 7 z.2.2.1 z.1 z.2.2.2]) (λz=>z.1<=args.length/\HUp w HX z.2.1/\RepZ z.2.1 7 ((args.take z.1).map (dFm .u8)) z.2.2.2) (λz=>args.length - z.1) (0,HX,.slice none 0 0,[]) (λ_ s=>s) ⟨Z,Jt⟩ ⟨by simp,.refl,RepZ.nil⟩ λz hC=>?_
 obtain ⟨k,H1,r,xs2⟩:=z;dsimp only at hC|-;obtain ⟨hk0,u1,hz⟩:=hC;refine .sr<|.yw (.lss Z Z)<|.nt<|.sq<|.ce Z (λh39=>?_) (λh39=>?_)
 ·have hk:k<args.length:=by omega
  obtain ⟨bE,oE,cE,hpE,rE,lE,mE⟩:=((hs2.up uX.up).up u1.up).elem (map_at (f:=dFm .i64) hk);cases hpE;refine .sk<|.tN<|.sq<|.bk<|.sr<|.yw (.indexSl Fx.sl25 Z Z Z (by omega) (q:=oE+k * 7) Z)<|.yw (.loadMW Z Fx.agg27 mE lE)<|.al Fx.zero27 Z λb7=>.sV .head Z Z Fx.size27 lE rE.one Z<|.nt<|.fL 5 [(0,0),(1,0),(2,0),(3,1),(4,1)]<|.fA Z Fx.field35_6<|.lD Z Fx.agg33 mem1 Z<|.yw (.loadW Z Fx.agg27 Hm lE)<|.ct (X:=List Value) Fx.call16 Z (λW s=>ih _ (Al_List_getElem_mem hk) (hga _ (Al_List_getElem_mem hk)) H1 cE W rE s.agr) Z λx2 H2 hc2 u2=>?_
  obtain ⟨op2,nm2,fd2,a2,b2x,ex2,as2,hx⟩:=fm_is (args[k]);rw [hx] at hc2;obtain ⟨p2,c2,q2,d2,rfl,_,_,_,_⟩:=fm_open hc2;refine .bl Z (Fx.bsl33_1 _ _ _ _ _ _ _) Z λb46=>.fn (tl:=[_,_,_]) Z<|.ap (news:=[.int .u8 op2.toNat,strV nm2,strV fd2,.int .i64 a2.toInt,.int .i64 b2x.toInt,.slice p2 ex2.length c2,.slice q2 as2.length d2]) Fx.row33 Z (λ_=>upd3) Z (.box Hm z0) Z (by simp [Value.oneCell',strV]) (by simp [maxLen];omega) (by omega) Z λr47 _=>?_
  refine At.ra mem3 λp47 c47 e47=>?_;exact .fA Z Fx.field35_6<|.st upd2 Z Z Fx.size33 (by rw [e47];rfl) (nb Z) Z<|.nl<|.bN<|.tN<|.rg<|.yw (.add Z Z w7)<|.mv Z<|.nt<|.ag (x:=(k,H1,r,xs2)) (k+1,H2,r47,xs2++[.int .u8 op2.toNat,strV nm2,strV fd2,.int .i64 a2.toInt,.int .i64 b2x.toInt,.slice p2 ex2.length c2,.slice q2 as2.length d2]) ⟨Z,Jt⟩ ⟨Z,Z,Z,Z,Jt⟩ (λ_ s=>(s.pick [2,3,4,5,6] _ Z Z)) ⟨by dsimp only;omega,u1.trans u2,by dsimp only;rw [takeF_snoc hk,Al_List_map_append,hx];exact (hz.up u2.up).snoc hc2 Z⟩ (by dsimp only;omega)
 obtain rfl:k=args.length:=by omega
 rw [Al_List_take_length] at hz;refine At.ra (.tail _ Hm) λp47 c47 e47=>?_;subst e47;refine .ex<|.eb<|.sr<|.yw (.loadW Z Fx.agg35 Hm Z)<|.sX upd3 Z Z Fx.size35 Z<|.nt<|.rt<|?_
 refine At.pm [2,1,3] [_,_,_] rfl rfl ?_;refine freezeSeq (ds:=ex.map (dEx .u8)) (Al_List_length_map ..) (hzX.up u1.up) λH3 p3 c3 u3 hr3 hs3=>?_;refine freezeSeq (ds:=args.map (dFm .u8)) (Al_List_length_map ..) (hz.up u3.up) λH4 p4 c4 u4 hr4 hs4=>?_;refine y8 Z (.cell Z Fx.agg35 Hm rfl) λW s=>⟨_,H4,fm_shut hnm hfd (hs3.up u4.up) hs4,Z,(((uX.trans u1).trans u3).trans u4).grow s⟩
def zE:Ex:=.mk 0 [] 0 []
def zF:Fm:=.mk 0 [] [] 0 0 [] []
structure Ov where
 kd:UInt8
 lv:Nat
 tm:Bool
 op:UInt8
 f:Fm
structure Vl where
 tm:Bool
 wh:Bool
 e:Ex
 f:Fm
structure Rq where
 i:Nat
 off:Nat
 er:Nat
abbrev Vb:=List Vl × Bool
structure Ps where
 c:Rq
 op:List Ov
 x:Vb
 rd:Bool
 dn:Bool
abbrev Tks:=List Tk
def zV:Vl:=⟨false,false,zE,zF⟩
def bO:Ov:=⟨1,0,false,0,zF⟩
section
variable (l:Tks)
def tkf (i:Nat):Tk:=l.getD i ⟨0,[],0⟩
def Rq.fail (c:Nat) (q:Rq):Rq:=if q.er=0 then ⟨q.i,(tkf l q.i).o,c⟩ else q
def Rq.is (w:Str) (q:Rq):Bool:=(decide ((tkf l q.i).k=2) || decide ((tkf l q.i).k=4)) && decide ((tkf l q.i).t=w)
def Rq.ac (w:Str) (q:Rq):Bool:=decide (q.er=0) && q.is l w
def Rq.nx (q:Rq):Rq:=⟨q.i+1,q.off,q.er⟩
def Rq.acS (w:Str) (q:Rq):Rq:=if q.ac l w then q.nx else q
def Rq.exS (w:Str) (q:Rq):Rq:=if q.ac l w then q.nx else q.fail l 8
def Rq.nmK (q:Rq):Bool:=decide (q.er=0) && decide ((tkf l q.i).k=1)
def Rq.nmV (q:Rq):Str:=if q.nmK l then (tkf l q.i).t else []
def Rq.nmS (q:Rq):Rq:=if q.nmK l then q.nx else q.fail l 8
def Rq.nbB (q:Rq):Bool:=decide (q.er=0) && decide ((tkf l q.i).k=3)
def Rq.fit (q:Rq):Bool:=decide (numV (tkf l q.i).t<=9223372036854775807)
def Rq.nbV (q:Rq):Int64:=if q.nbB l && q.fit l then Int64.ofNat (numV (tkf l q.i).t) else 0
def Rq.nbS (q:Rq):Rq:=if q.nbB l then (if q.fit l then q.nx else q.fail l 2) else q.fail l 8
def Rq.paS (q:Rq):Rq:=((q.nmS l).exS l [46]).nmS l
def Rq.paN (q:Rq):Str:=q.nmV l
def Rq.paF (q:Rq):Str:=((q.nmS l).exS l [46]).nmV l
def Rq.paV (op:UInt8) (q:Rq):Fm:=.mk op (q.paN l) (q.paF l) 0 0 [] []
def Rq.wiA (q:Rq):Int64:=if q.ac l [91] then q.nx.nbV l else 0
def Rq.wiB (q:Rq):Int64:=if q.ac l [91] then ((q.nx.nbS l).exS l [44]).nbV l else -1
def Rq.wiS (q:Rq):Rq:=if q.ac l [91] then (((q.nx.nbS l).exS l [44]).nbS l).exS l [93] else q
def Rq.wiV (op:UInt8) (q:Rq):Fm:=.mk op [] [] (q.wiA l) (q.wiB l) [] []
def Rq.boV (q:Rq):Int64:=if q.ac l [45] then -(q.nx.nbV l) else q.nbV l
def Rq.boS (q:Rq):Rq:=if q.ac l [45] then q.nx.nbS l else q.nbS l
def Rq.ama (q:Rq):Rq:=(q.nmS l).exS l [105,110]
def Rq.amb (q:Rq):Rq:=((q.ama l).boS l).exS l [46,46]
def Rq.amV (op:UInt8) (q:Rq):Fm:=.mk op (q.nmV l) [] ((q.ama l).boV l) ((q.amb l).boV l) [] []
def Rq.amS (q:Rq):Rq:=(q.amb l).boS l
end
def topO (q:Ps):Ov:=q.op.headD bO
def topV (x:Vb):Vl:=x.1.headD zV
def Ps.at (c:Rq) (q:Ps):Ps:=⟨c,q.op,q.x,q.rd,q.dn⟩
def Ov.inh (o:Ov) (b:Bool):Ov:=if 0<o.lv then ⟨o.kd,o.lv,b,o.op,o.f⟩ else o
def pushS (o:Ov) (q:Ps):Ps:=⟨q.c,o.inh (topO q).tm::q.op,q.x,false,q.dn⟩
def giveS (v:Vl) (q:Ps):Ps:=⟨q.c,q.op,(v::q.x.1,q.x.2),true,q.dn⟩
def tE (x:Vb):Ex:=(topV x).e
def tS (x:Vb):Vb:=(x.1.tail,x.2 || !(topV x).tm)
def Vl.noF (v:Vl):Bool:=v.tm && (!decide (v.e.op=5) || (splitF v.e.nm).isNone)
def spA (n:Str):Str:=match splitF n with | some (a,_)=>a | none=>[]
def spB (n:Str):Str:=match splitF n with | some (_,b)=>b | none=>[]
def Vl.fm (v:Vl):Fm:=if v.tm then .mk 4 (spA v.e.nm) (spB v.e.nm) 0 0 [] [] else v.f
def fF (x:Vb):Fm:=(topV x).fm
def fS (x:Vb):Vb:=(x.1.tail,x.2 || (topV x).noF)
def tmv (e:Ex):Vl:=⟨true,false,e,zF⟩
def fmv (f:Fm):Vl:=⟨false,false,zE,f⟩
def Fm.wEx (f:Fm) (ex:List Ex):Fm:=.mk f.op f.nm f.fd f.a f.b ex f.args
def Fm.wAr (f:Fm) (args:List Fm):Fm:=.mk f.op f.nm f.fd f.a f.b f.ex args
def Vb.put (v:Vl) (x:Vb):Vb:=(v::x.1,x.2)
def comb (o:Ov) (x:Vb):Vb :=
 if o.kd=10 then (tS x).put (tmv (.mk 9 [] 0 [tE x]))
 else if o.kd=9 then (tS (tS x)).put (tmv (.mk o.op [] 0 [tE (tS x),tE x]))
 else if o.kd=8 then (tS (tS x)).put (fmv (.mk 3 [] [] 0 0 [.mk o.op [] 0 [tE (tS x),tE x]] []))
 else if o.kd=7 then (fS x).put (fmv (o.f.wAr [fF x]))
 else if o.kd=6 then (fS (fS x)).put (fmv (o.f.wAr [fF (fS x),fF x]))
 else x
def redL (lv:Nat):List Ov->Vb->List Ov × Vb
 | [],x=>([],x)
 | o::r,x=>if lv<=o.lv then redL lv r (comb o x) else (o::r,x)
def redP (lv:Nat) (q:Ps):Ps:=⟨q.c,(redL lv q.op q.x).1,(redL lv q.op q.x).2,q.rd,q.dn⟩
section
variable (l:Tks)
def prefS (q:Ps):Option Ps :=
 if q.c.ac l [110,111,116] then some (pushS ⟨7,5,false,0,.mk 8 [] [] 0 0 [] []⟩ (q.at q.c.nx))
 else if q.c.ac l [112,114,101,118,105,111,117,115] then some (pushS ⟨7,5,false,0,.mk 12 [] [] 0 0 [] []⟩ (q.at q.c.nx))
 else if q.c.ac l [111,110,99,101] then some (pushS ⟨7,5,false,0,q.c.nx.wiV l 13⟩ (q.at (q.c.nx.wiS l)))
 else if q.c.ac l [97,108,119,97,121,115] then some (pushS ⟨7,5,false,0,q.c.nx.wiV l 14⟩ (q.at (q.c.nx.wiS l)))
 else if q.c.ac l [102,111,114,97,108,108] then some (pushS ⟨7,5,false,0,q.c.nx.amV l 16⟩ (q.at (q.c.nx.amS l)))
 else if q.c.ac l [101,120,105,115,116,115] then some (pushS ⟨7,5,false,0,q.c.nx.amV l 17⟩ (q.at (q.c.nx.amS l)))
 else if q.c.ac l [99,111,117,110,116] then some (pushS ⟨3,0,false,0,q.c.nx.amV l 18⟩ (q.at ((q.c.nx.amS l).exS l [40])))
 else none
def Rq.ful (q:Rq):Str:=q.nmV l++[46]++(q.nmS l).nx.nmV l
def varP (q:Ps):Ps :=
 if (q.c.nmS l).ac l [46] then
  if ((q.c.nmS l).nx.nmS l).ac l [91] then pushS ⟨4,0,true,6,.mk 0 (q.c.ful l) [] 0 0 [] []⟩ (q.at ((q.c.nmS l).nx.nmS l).nx)
  else giveS (tmv (.mk 5 (q.c.ful l) 0 [])) (q.at ((q.c.nmS l).nx.nmS l))
 else giveS (tmv (.mk 5 (q.c.nmV l) 0 [])) (q.at (q.c.nmS l))
def arrP (q:Ps):Ps :=
 if ((q.c.paS l).exS l [40]).ac l [41] then giveS (fmv (q.c.paV l 7)) (q.at ((q.c.paS l).exS l [40]).nx)
 else pushS ⟨5,0,true,0,q.c.paV l 7⟩ (q.at ((q.c.paS l).exS l [40]))
def fmsB (q:Ps):Bool:=!(topO q).tm && decide ((topO q).lv<=5)
def re2P (q:Ps):Ps :=
 if q.c.ac l [45] then pushS ⟨10,9,false,0,zF⟩ (q.at q.c.nx)
 else if q.c.ac l [40] then pushS ⟨2,0,false,0,zF⟩ (q.at q.c.nx)
 else if (tkf l q.c.i).k=3 then giveS (tmv (.mk 1 [] (q.c.nbV l) [])) (q.at (q.c.nbS l))
 else if (tkf l q.c.i).k=1 then varP l q
 else if q.c.ac l [110,111,119] then giveS (tmv (.mk 4 [] 0 [])) (q.at q.c.nx)
 else if q.c.ac l [115,105,122,101] then giveS (tmv (.mk 8 (q.c.nx.paN l++[46]++q.c.nx.paF l) 0 [])) (q.at (q.c.nx.paS l))
 else if q.c.ac l [116,114,117,101] then giveS (fmv (.mk 1 [] [] 0 0 [] [])) (q.at q.c.nx)
 else if q.c.ac l [102,97,108,115,101] then giveS (fmv (.mk 2 [] [] 0 0 [] [])) (q.at q.c.nx)
 else if q.c.ac l [102,108,97,103] then giveS (fmv (.mk 6 (q.c.nx.nmV l) [] 0 0 [] [])) (q.at (q.c.nx.nmS l))
 else if q.c.ac l [104,97,115] then pushS ⟨4,0,true,0,q.c.nx.paV l 5⟩ (q.at ((q.c.nx.paS l).exS l [91]))
 else if q.c.ac l [97,114,114,105,118,101,115] then arrP l (q.at q.c.nx)
 else q.at (q.c.fail l 8)
def restP (q:Ps):Ps:=if (topO q).kd=5/\q.c.ac l [95]=true then giveS ⟨true,true,zE,zF⟩ (q.at q.c.nx) else re2P l q
def operandP (q:Ps):Ps:=match (if fmsB q then prefS l q else none) with | some q'=>q' | none=>restP l q
def fsyms:List Str:=[[],[],[],[],[],[],[],[],[],[],[],[42],[47],[37],[43],[45],[61,61],[33,61],[60],[60,61],[62],[62,61]]
def betP (op:UInt8) (q:Ps):Ps :=
 if 16<=op then
  (if (topV q.x).wh || (topO (redP 7 q)).tm || decide ((topO (redP 7 q)).kd=8) then (redP 7 q).at (q.c.fail l 8) else pushS ⟨8,6,false,op,zF⟩ ((redP 7 q).at q.c.nx))
 else if op<=13 then
  (if (topV q.x).wh then (redP 8 q).at (q.c.fail l 8) else pushS ⟨9,8,false,op,zF⟩ ((redP 8 q).at q.c.nx))
 else (if (topV q.x).wh then (redP 7 q).at (q.c.fail l 8) else pushS ⟨9,7,false,op,zF⟩ ((redP 7 q).at q.c.nx))
def Rq.joV (q:Rq):Fm:=if q.ac l [115,105,110,99,101] then q.nx.wiV l 15 else if q.ac l [97,110,100] then .mk 9 [] [] 0 0 [] [] else if q.ac l [111,114] then .mk 10 [] [] 0 0 [] [] else if q.ac l [105,109,112,108,105,101,115] then .mk 11 [] [] 0 0 [] [] else zF
def Rq.joS (q:Rq):Rq:=if q.ac l [115,105,110,99,101] then q.nx.wiS l else if q.ac l [97,110,100] then q.nx else if q.ac l [111,114] then q.nx else if q.ac l [105,109,112,108,105,101,115] then q.nx else q
def joiP (q:Ps):Ps:=if (topO q).tm then q.at (q.c.fail l 8) else pushS ⟨6,(fsOf (q.c.joV l).op).lv,false,0,q.c.joV l⟩ (redP (fsOf (q.c.joV l).op).lv (q.at (q.c.joS l)))
def cloS (c:Rq) (v:Vl) (x:Vb) (q:Ps):Ps:=⟨c,q.op.tail,x.put v,true,q.dn⟩
def clgP (q:Ps):Ps :=
 if (topO q).kd=1/\(tkf l q.c.i).k=0 then ⟨q.c,q.op,q.x,q.rd,true⟩
 else if (topO q).kd=2/\q.c.ac l [41]=true then cloS q.c.nx ⟨(topV q.x).tm,false,(topV q.x).e,(topV q.x).f⟩ (q.x.1.tail,q.x.2) q
 else if (topO q).kd=3/\q.c.ac l [41]=true then
  cloS ((q.c.nx.exS l [62,61]).nbS l) ⟨false,true,zE,((topO q).f.wEx [.mk 1 [] ((q.c.nx.exS l [62,61]).nbV l) []]).wAr [fF q.x]⟩ (fS q.x) q
 else if (topO q).kd=4/\q.c.ac l [93]=true then
  (if (topO q).op=6 then cloS q.c.nx (tmv (.mk 6 (topO q).f.nm 0 [tE q.x])) (tS q.x) q
  else cloS q.c.nx (fmv ((topO q).f.wEx [tE q.x])) (tS q.x) q)
 else if (topO q).kd=5/\q.c.ac l [44]=true then
  ⟨q.c.nx,⟨(topO q).kd,(topO q).lv,(topO q).tm,(topO q).op,(topO q).f.wEx ((topO q).f.ex++[tE q.x])⟩::q.op.tail,tS q.x,false,q.dn⟩
 else if (topO q).kd=5/\q.c.ac l [41]=true then cloS q.c.nx (fmv ((topO q).f.wEx ((topO q).f.ex++[tE q.x]))) (tS q.x) q
 else q.at (q.c.fail l 8)
def symF (t:Str):Option Nat:=(List.range 22).find? λi=>decide (fsyms.getD i []=t) && decide (¬ i=0)
def Rq.endB (q:Rq):Bool:=q.is l [41] || q.is l [93] || q.is l [44] || decide ((tkf l q.i).k=0)
def Rq.wrd (q:Rq):Bool:=q.is l [115,105,110,99,101] || q.is l [97,110,100] || q.is l [111,114] || q.is l [105,109,112,108,105,101,115]
def othP (q:Ps):Ps:=if q.c.wrd l then joiP l q else if q.c.endB l then clgP l (redP 1 q) else q.at (q.c.fail l 8)
def Rq.sym (q:Rq):Option Nat:=if (tkf l q.i).k=2\/(tkf l q.i).k=4 then symF (tkf l q.i).t else none
def operatorP (q:Ps):Ps:=match q.c.sym l with | some i=>betP l (UInt8.ofNat i) q | none=>othP l q
def stepP (q:Ps):Ps:=if q.rd then operatorP l q else operandP l q
def Ps.fin (q:Ps):Prop:=q.dn=true\/¬ q.c.er=0
instance (q:Ps):Decidable q.fin:=by unfold Ps.fin;infer_instance
def runP:Nat->Ps->Ps
 | 0,q=>q
 | n+1,q=>if q.fin then q else runP n (stepP l q)
def iniP:Ps:=⟨⟨0,0,0⟩,[bO],([],false),false,false⟩
def endP (q:Ps):Fm × Nat × Nat :=
 if ¬ q.c.er=0 then (zF,q.c.off,q.c.er)
 else if (fS q.x).2 then (zF,0,6)
 else if ¬ fcheck (fF q.x)=0 then (zF,0,fcheck (fF q.x))
 else (fF q.x,0,0)
def parF:Fm × Nat × Nat:=endP (runP l l.length iniP)
end
def Tlast (l:Tks):Prop:=∀ i,i<l.length->(tkf l i).k≠0->i+1<l.length
section
variable {l:Tks} {q:Rq} {w:Str} {c:Nat}
theorem fail_i:(q.fail l c).i=q.i:=by unfold Rq.fail;split <;> rfl
theorem is_k (h:q.is l w=true):(tkf l q.i).k≠0:=by
 unfold Rq.is at h;rw [Al_Bool_and_eq_true,Al_Bool_or_eq_true,Al_decide_eq_true_eq,Al_decide_eq_true_eq] at h;rcases h.1 with e | e <;> rw [e] <;> decide
theorem acF_is (h:q.ac l w=true):q.is l w=true:=by unfold Rq.ac at h;rw [Al_Bool_and_eq_true] at h;exact h.2
theorem acF_er (h:q.ac l w=true):q.er=0:=by unfold Rq.ac at h;rw [Al_Bool_and_eq_true,Al_decide_eq_true_eq] at h;exact h.1
theorem acF_t (h:q.ac l w=true):(tkf l q.i).t=w:=by
 have:=acF_is h;unfold Rq.is at this;rw [Al_Bool_and_eq_true,Al_decide_eq_true_eq] at this;exact this.2
theorem acF_k (h:q.ac l w=true):(tkf l q.i).k=2\/(tkf l q.i).k=4:=by
 have:=acF_is h;unfold Rq.is at this;rw [Al_Bool_and_eq_true,Al_Bool_or_eq_true,Al_decide_eq_true_eq,Al_decide_eq_true_eq] at this;exact this.1
structure Mq (q q':Rq):Prop where
 i:q.i<=q'.i
 er:q.er≠0->q'=q
theorem Mq.refl (q:Rq):Mq q q:=⟨Al_Nat_le_refl _,λ_=>rfl⟩
theorem Mq.trans {a b c:Rq} (h:Mq a b) (k:Mq b c):Mq a c:=⟨Al_Nat_le_trans h.i k.i,λe=>by have:=h.er e;subst this;exact k.er e⟩
theorem Mq.nx (h:q.er=0):Mq q q.nx:=⟨Nat.le_succ _,λe=>absurd h e⟩
theorem Mq.fail:Mq q (q.fail l c):=⟨by rw [fail_i];exact Al_Nat_le_refl _,λe=>by unfold Rq.fail;rw [Al_if_neg e]⟩
theorem Mq.exS:Mq q (q.exS l w):=by
 unfold Rq.exS
 split
 ·rename_i h;exact .nx (acF_er h)
 ·exact .fail
theorem nmK_er (h:q.nmK l=true):q.er=0/\(tkf l q.i).k=1:=by
 unfold Rq.nmK at h;rw [Al_Bool_and_eq_true,Al_decide_eq_true_eq,Al_decide_eq_true_eq] at h;exact h
theorem nbB_er (h:q.nbB l=true):q.er=0/\(tkf l q.i).k=3:=by
 unfold Rq.nbB at h;rw [Al_Bool_and_eq_true,Al_decide_eq_true_eq,Al_decide_eq_true_eq] at h;exact h
theorem Mq.nmS:Mq q (q.nmS l):=by
 unfold Rq.nmS
 split
 ·rename_i h;exact .nx (nmK_er h).1
 ·exact .fail
theorem Mq.nbS:Mq q (q.nbS l):=by
 unfold Rq.nbS
 split
 ·rename_i h
  split
  ·exact .nx (nbB_er h).1
  ·exact .fail
 ·exact .fail
theorem Mq.paS:Mq q (q.paS l):=(Mq.nmS.trans .exS).trans .nmS
theorem Mq.wiS:Mq q (q.wiS l):=by
 unfold Rq.wiS
 split
 ·rename_i h;exact (((Mq.nx (acF_er h)).trans .nbS).trans .exS).trans (.trans .nbS .exS)
 ·exact .refl q
theorem Mq.boS:Mq q (q.boS l):=by
 unfold Rq.boS
 split
 ·rename_i h;exact (Mq.nx (acF_er h)).trans .nbS
 ·exact .nbS
theorem Mq.ama:Mq q (q.ama l):=Mq.nmS.trans .exS
theorem Mq.amb:Mq q (q.amb l):=(Mq.ama.trans .boS).trans .exS
theorem Mq.amS:Mq q (q.amS l):=Mq.amb.trans .boS
theorem Mq.joS:Mq q (q.joS l):=by
 unfold Rq.joS
 split
 ·rename_i h;exact (Mq.nx (acF_er h)).trans .wiS
 split
 ·rename_i h;exact .nx (acF_er h)
 split
 ·rename_i h;exact .nx (acF_er h)
 split
 ·rename_i h;exact .nx (acF_er h)
 exact .refl q
variable (T:Tlast l) (hq:q.i<l.length)
include T hq
theorem wi_ac (h:q.ac l w=true):q.nx.i<l.length:=T _ hq (is_k (acF_is h))
theorem wi_ex:(q.exS l w).i<l.length:=by
 unfold Rq.exS
 split
 ·rename_i h;exact wi_ac T hq h
 ·rw [fail_i];exact hq
theorem wi_nmK (h:q.nmK l=true):q.nx.i<l.length:=T _ hq (by rw [(nmK_er h).2];decide)
theorem wi_nm:(q.nmS l).i<l.length:=by
 unfold Rq.nmS
 split
 ·rename_i h;exact wi_nmK T hq h
 ·rw [fail_i];exact hq
theorem wi_nb:(q.nbS l).i<l.length:=by
 unfold Rq.nbS
 split
 ·rename_i h
  split
  ·exact T _ hq (by rw [(nbB_er h).2];decide)
  ·rw [fail_i];exact hq
 ·rw [fail_i];exact hq
theorem wi_pa:(q.paS l).i<l.length:=wi_nm T (wi_ex T (wi_nm T hq))
theorem wi_wi:(q.wiS l).i<l.length:=by
 unfold Rq.wiS
 split
 ·rename_i h;exact wi_ex T (wi_nb T (wi_ex T (wi_nb T (wi_ac T hq h))))
 ·exact hq
theorem wi_bo:(q.boS l).i<l.length:=by
 unfold Rq.boS
 split
 ·rename_i h;exact wi_nb T (wi_ac T hq h)
 ·exact wi_nb T hq
theorem wi_ama:(q.ama l).i<l.length:=wi_ex T (wi_nm T hq)
theorem wi_amb:(q.amb l).i<l.length:=wi_ex T (wi_bo T (wi_ama T hq))
theorem wi_am:(q.amS l).i<l.length:=wi_bo T (wi_amb T hq)
theorem wi_jo:(q.joS l).i<l.length:=by
 unfold Rq.joS
 split
 ·rename_i h;exact wi_wi T (wi_ac T hq h)
 split
 ·rename_i h;exact wi_ac T hq h
 split
 ·rename_i h;exact wi_ac T hq h
 split
 ·rename_i h;exact wi_ac T hq h
 exact hq
end
def cnO (o:Ov):Bool:=decide (o.kd=6) || decide (o.kd=8) || decide (o.kd=9)
def cntB (l:List Ov):Nat:=(l.filter cnO).length
def okO (o:Ov):Bool:=decide (2<=o.kd.toNat) && decide (o.kd.toNat<=10) && (decide (5<o.kd.toNat) == decide (0<o.lv))
structure Fwf (l:Tks) (q:Ps):Prop where
 i:q.c.i<l.length
 op:∃ r,q.op=r++[bO]/\∀ o∈r,okO o=true
 vs:q.x.1.length=cntB q.op+(if q.rd then 1 else 0)
 so:q.op.length<=q.c.i+1
section
variable {l:Tks} {q:Ps} {w:Str} {c:Nat} {o:Ov} {b:Bool}
theorem cnt_cons (o:Ov) (r:List Ov):cntB (o::r)=(if cnO o then 1 else 0)+cntB r:=by unfold cntB;rw [List.filter_cons];split <;> simp [Nat.add_comm]
theorem inh_kd:(o.inh b).kd=o.kd:=by unfold Ov.inh;split <;> rfl
theorem inh_lv:(o.inh b).lv=o.lv:=by unfold Ov.inh;split <;> rfl
theorem inh_f:(o.inh b).f=o.f:=by unfold Ov.inh;split <;> rfl
theorem inh_ok:okO (o.inh b)=okO o:=by unfold okO;rw [inh_kd,inh_lv]
theorem inh_cn:cnO (o.inh b)=cnO o:=by unfold cnO;rw [inh_kd]
theorem wf_push {c:Rq} (h:Fwf l q) (hc:c.i<l.length) (hi:q.c.i<c.i) (ho:okO o=true) (hr:cnO o=q.rd):Fwf l (pushS o (q.at c)):=by
 obtain ⟨r,e,hr2⟩:=h.op;refine ⟨hc,⟨o.inh (topO q).tm::r,?_,?_⟩,?_,?_⟩
 ·show _::q.op=_;rw [e];rfl
 ·intro x hx;rcases Al_List_mem_cons.1 hx with rfl | hx
  ·rw [inh_ok];exact ho
  ·exact hr2 x hx
 ·show q.x.1.length=cntB (_::q.op)+0;rw [cnt_cons,inh_cn,hr,h.vs];cases q.rd <;> simp [Nat.add_comm]
 ·show q.op.length+1<=c.i+1;have:=h.so;omega
theorem wf_give {v:Vl} {c:Rq} (h:Fwf l q) (hc:c.i<l.length) (hi:q.c.i<=c.i) (hr:q.rd=false):Fwf l (giveS v (q.at c)):=by
 refine ⟨hc,h.op,?_,?_⟩
 ·show (v::q.x.1).length=cntB q.op+1;rw [Al_List_length_cons,h.vs,hr];simp
 ·show q.op.length<=c.i+1;have:=h.so;omega
theorem wf_at {c:Rq} (h:Fwf l q) (hc:c.i<l.length) (hi:q.c.i<=c.i):Fwf l (q.at c):=⟨hc,h.op,h.vs,by show q.op.length<=c.i+1;have:=h.so;omega⟩
theorem Fwf.top (h:Fwf l q):(q.op=[bO]/\topO q=bO)\/∃ r,q.op=topO q::(r++[bO])/\okO (topO q)=true/\∀ o∈r,okO o=true:=by
 obtain ⟨r,e,hr⟩:=h.op;unfold topO;rw [e];cases r with
 | nil=>exact .inl ⟨Z,Z⟩
 | cons o r=>exact .inr ⟨r,Z,hr _ (Al_List_mem_cons_self ..),λx hx=>hr x (Al_List_mem_cons_of_mem _ hx)⟩
theorem Fwf.ne (h:Fwf l q):q.op≠[]:=by
 obtain ⟨r,e,_⟩:=h.op;rw [e];simp
theorem put_len (v:Vl) (x:Vb):(x.put v).1.length=x.1.length+1:=rfl
theorem tS_len (x:Vb):(tS x).1.length=x.1.length - 1:=List.length_tail
theorem fS_len (x:Vb):(fS x).1.length=x.1.length - 1:=List.length_tail
theorem okO_kd (h:okO o=true):o.kd=2\/o.kd=3\/o.kd=4\/o.kd=5\/o.kd=6\/o.kd=7\/o.kd=8\/o.kd=9\/o.kd=10:=by
 unfold okO at h;rw [Al_Bool_and_eq_true,Al_Bool_and_eq_true,Al_decide_eq_true_eq,Al_decide_eq_true_eq] at h;have h1:=h.1.1;have h2:=h.1.2;have hk:∀ n:Nat,n<256->o.kd.toNat=n->o.kd=UInt8.ofNat n:=λn hn e=>Al_UInt8_toNat_inj.1 (by rw [Al_UInt8_toNat_ofNat_of_lt' hn];exact e);have:o.kd.toNat=2\/o.kd.toNat=3\/o.kd.toNat=4\/o.kd.toNat=5\/o.kd.toNat=6\/o.kd.toNat=7\/o.kd.toNat=8\/o.kd.toNat=9\/o.kd.toNat=10:=by omega
 rcases this with e | e | e | e | e | e | e | e | e <;> have:=hk _ (by decide) e <;> rw [this] <;> decide
theorem okO_lv (h:okO o=true):(o.kd=6\/o.kd=7\/o.kd=8\/o.kd=9\/o.kd=10)↔0<o.lv:=by
 have hk:=okO_kd h;unfold okO at h;rw [Al_Bool_and_eq_true,Al_beq_iff_eq] at h;have h2:=h.2;rcases hk with e | e | e | e | e | e | e | e | e <;> rw [e] at h2 <;> rw [e] <;> by_cases h0:0<o.lv <;> simp [h0] at h2|-
theorem comb_len (ho:okO o=true) (h0:0<o.lv) {x:Vb} (h:(if cnO o then 2 else 1)<=x.1.length):(comb o x).1.length=x.1.length - (if cnO o then 1 else 0):=by
 have hk:=(okO_lv ho).2 h0;unfold comb cnO at *;rcases hk with e | e | e | e | e <;> simp [e,put_len,tS_len,fS_len] at h|- <;> omega
theorem redL_wf {lv:Nat} (hl:1<=lv):∀ (r:List Ov) (x:Vb),(∀ o∈r,okO o=true)->x.1.length=cntB (r++[bO])+1->∃ r' y,redL lv (r++[bO]) x=(r'++[bO],y)/\r'<:+r/\y.1.length=cntB (r'++[bO])+1/\(∀ o,r'.head? = some o->o.lv<lv)
 | [],x,_,h=>⟨[],x,by rw [Al_List_nil_append,redL,Al_if_neg (by show ¬ lv<=0;omega)],Al_List_suffix_refl _,h,λo e=>by cases e⟩
 | o::r,x,ho,h=>by
  rw [Al_List_cons_append,redL];rw [Al_List_cons_append,cnt_cons] at h;have hok:=ho o (Al_List_mem_cons_self ..)
  split
  ·rename_i h1;have h2:=comb_len hok (by omega) (x:=x) (by rw [h];split <;> omega);obtain ⟨r',y,e,hs,hy,ht⟩:=redL_wf hl r (comb o x) (λz hz=>ho z (Al_List_mem_cons_of_mem _ hz)) (by rw [h2,h];split <;> omega);exact ⟨r',y,e,hs.trans (Al_List_suffix_cons o r),hy,ht⟩
  ·rename_i h1;exact ⟨o::r,x,Z,Al_List_suffix_refl _,by rw [Al_List_cons_append,cnt_cons];exact h,λz e=>by injection e with e;subst e;omega⟩
theorem wf_red {lv:Nat} (hl:1<=lv) (h:Fwf l q) (hr:q.rd=true):Fwf l (redP lv q):=by
 obtain ⟨r,e,ho⟩:=h.op;have hv:=h.vs;rw [e,hr] at hv;obtain ⟨r',y,e2,hs,hy,_⟩:=redL_wf hl r q.x ho hv;have h1:(redP lv q).op=r'++[bO]:=by unfold redP;rw [e,e2]
 have h2:(redP lv q).x=y:=by unfold redP;rw [e,e2]
 refine ⟨h.i,⟨r',h1,λo hz=>ho o (hs.subset hz)⟩,?_,?_⟩
 ·rw [h1,h2];show _=_+(if q.rd then 1 else 0);rw [hr];exact hy
 ·rw [h1];have:=hs.length_le;have h3:=h.so;rw [e] at h3;show _<=q.c.i+1;rw [Al_List_length_append] at h3|-;omega
end
section
variable {l:Tks} {q:Ps}
structure Fsp (l:Tks) (q q':Ps):Prop where
 wf:Fwf l q'
 go:q'.fin\/q.c.i<q'.c.i
theorem fail_er {l:Tks} {q:Rq} {c:Nat} (hc:c≠0):(q.fail l c).er≠0:=by
 unfold Rq.fail
 split
 ·exact hc
 ·assumption
theorem stp_if {c:Prop} [Decidable c] {a b:Ps} (h1:c->Fsp l q a) (h2:¬ c->Fsp l q b):Fsp l q (if c then a else b):=by
 by_cases hc:c
 ·rw [Al_if_pos hc];exact h1 hc
 ·rw [Al_if_neg hc];exact h2 hc
theorem Fsp.red {lv:Nat} {q':Ps} (h:Fsp l (redP lv q) q'):Fsp l q q':=⟨h.wf,h.go⟩
theorem stp_fail {c:Nat} (h:Fwf l q) (hc:c≠0):Fsp l q (q.at (q.c.fail l c)):=⟨wf_at h (by rw [fail_i];exact h.i) (by rw [fail_i];exact Al_Nat_le_refl _),.inl (.inr (fail_er hc))⟩
theorem stp_push {o:Ov} {c:Rq} (h:Fwf l q) (hc:c.i<l.length) (hi:q.c.i<c.i) (ho:okO o=true) (hr:cnO o=q.rd):Fsp l q (pushS o (q.at c)):=⟨wf_push h hc hi ho hr,.inr hi⟩
theorem stp_give {v:Vl} {c:Rq} (h:Fwf l q) (hc:c.i<l.length) (hi:q.c.i<c.i) (hr:q.rd=false):Fsp l q (giveS v (q.at c)):=⟨wf_give h hc (Al_Nat_le_of_lt hi) hr,.inr hi⟩
variable (T:Tlast l)
include T
theorem stp_pref {q':Ps} (h:Fwf l q) (hr:q.rd=false) (e:prefS l q=some q'):Fsp l q q':=by
 have n {w:Str} (a:q.c.ac l w=true):q.c.nx.i<l.length:=wi_ac T h.i a;have m {c:Rq} (k:Mq q.c.nx c):q.c.i<c.i:=Al_Nat_lt_of_lt_of_le (Al_Nat_lt_succ_self _) k.i;unfold prefS at e
 split at e
 ·rename_i a;injection e with e;subst e;exact stp_push h (n a) (m (.refl _)) rfl (by rw [hr];rfl)
 split at e
 ·rename_i a;injection e with e;subst e;exact stp_push h (n a) (m (.refl _)) rfl (by rw [hr];rfl)
 split at e
 ·rename_i a;injection e with e;subst e;exact stp_push h (wi_wi T (n a)) (m .wiS) rfl (by rw [hr];rfl)
 split at e
 ·rename_i a;injection e with e;subst e;exact stp_push h (wi_wi T (n a)) (m .wiS) rfl (by rw [hr];rfl)
 split at e
 ·rename_i a;injection e with e;subst e;exact stp_push h (wi_am T (n a)) (m .amS) rfl (by rw [hr];rfl)
 split at e
 ·rename_i a;injection e with e;subst e;exact stp_push h (wi_am T (n a)) (m .amS) rfl (by rw [hr];rfl)
 split at e
 ·rename_i a;injection e with e;subst e;exact stp_push h (wi_ex T (wi_am T (n a))) (m (.trans .amS .exS)) rfl (by rw [hr];rfl)
 ·cases e
theorem stp_var (h:Fwf l q) (h0:q.c.er=0) (hr:q.rd=false) (hk:(tkf l q.c.i).k=1):Fsp l q (varP l q):=by
 have k1:q.c.nmK l=true:=by unfold Rq.nmK;rw [Al_decide_eq_true h0,Al_decide_eq_true hk];rfl
 have e1:q.c.nmS l=q.c.nx:=by unfold Rq.nmS;rw [Al_if_pos k1]
 have n1:q.c.nx.i<l.length:=wi_nmK T h.i k1;have lt {c:Rq} (k:Mq q.c.nx c):q.c.i<c.i:=Al_Nat_lt_of_lt_of_le (Al_Nat_lt_succ_self _) k.i;unfold varP;rw [e1]
 split
 ·rename_i a;have n2:=wi_nm T (wi_ac T n1 a);have m2:Mq q.c.nx (q.c.nx.nx.nmS l):=(Mq.nx (acF_er a)).trans .nmS
  split
  ·rename_i b;exact stp_push h (wi_ac T n2 b) (lt (m2.trans (.nx (acF_er b)))) rfl (by rw [hr];rfl)
  ·exact stp_give h n2 (lt m2) hr
 ·exact stp_give h n1 (lt (.refl _)) hr
theorem stp_arr {w:Str} (h:Fwf l q) (hr:q.rd=false) (a:q.c.ac l w=true):Fsp l q (arrP l (q.at q.c.nx)):=by
 have n1:q.c.nx.i<l.length:=wi_ac T h.i a;have n2:=wi_ex T (w:=[40]) (wi_pa T n1);have m2:Mq q.c.nx ((q.c.nx.paS l).exS l [40]):=Mq.paS.trans .exS;have lt {c:Rq} (k:Mq q.c.nx c):q.c.i<c.i:=Al_Nat_lt_of_lt_of_le (Al_Nat_lt_succ_self _) k.i;unfold arrP
 split
 ·rename_i b;exact stp_give (c:=((q.c.nx.paS l).exS l [40]).nx) h (wi_ac T n2 b) (lt (m2.trans (.nx (acF_er b)))) hr
 ·exact stp_push (c:=(q.c.nx.paS l).exS l [40]) h n2 (lt m2) rfl (by rw [hr];rfl)
theorem stp_re2 (h:Fwf l q) (h0:q.c.er=0) (hr:q.rd=false):Fsp l q (re2P l q):=by
 have n {w:Str} (a:q.c.ac l w=true):q.c.nx.i<l.length:=wi_ac T h.i a;have m {c:Rq} (k:Mq q.c.nx c):q.c.i<c.i:=Al_Nat_lt_of_lt_of_le (Al_Nat_lt_succ_self _) k.i
 have num:(tkf l q.c.i).k=3->Fsp l q (giveS (tmv (.mk 1 [] (q.c.nbV l) [])) (q.at (q.c.nbS l))):=λhk=>by
  have k1:q.c.nbB l=true:=by unfold Rq.nbB;rw [Al_decide_eq_true h0,Al_decide_eq_true hk];rfl
  refine ⟨wf_give h (wi_nb T h.i) Mq.nbS.i hr,?_⟩
  by_cases hf:q.c.fit l=true
  ·refine .inr ?_;show q.c.i<(q.c.nbS l).i;unfold Rq.nbS;rw [Al_if_pos k1,Al_if_pos hf];exact Al_Nat_lt_succ_self _
  ·refine .inl (.inr ?_);show (q.c.nbS l).er≠0;unfold Rq.nbS;rw [Al_if_pos k1,Al_if_neg hf];exact fail_er (by decide)
 unfold re2P
 exact stp_if (λa=>stp_push h (n a) (m (.refl _)) rfl (by rw [hr];rfl)) λ_ =>
  stp_if (λa=>stp_push h (n a) (m (.refl _)) rfl (by rw [hr];rfl)) λ_ =>
  stp_if num λ_=>stp_if (λhk=>stp_var T h h0 hr hk) λ_ =>
  stp_if (λa=>stp_give h (n a) (m (.refl _)) hr) λ_ =>
  stp_if (λa=>stp_give h (wi_pa T (n a)) (m .paS) hr) λ_ =>
  stp_if (λa=>stp_give h (n a) (m (.refl _)) hr) λ_ =>
  stp_if (λa=>stp_give h (n a) (m (.refl _)) hr) λ_ =>
  stp_if (λa=>stp_give h (wi_nm T (n a)) (m .nmS) hr) λ_ =>
  stp_if (λa=>stp_push h (wi_ex T (wi_pa T (n a))) (m (.trans .paS .exS)) rfl (by rw [hr];rfl)) λ_ =>
  stp_if (λa=>stp_arr T h hr a) λ_=>stp_fail h (by decide)
theorem stp_operand (h:Fwf l q) (h0:q.c.er=0) (hr:q.rd=false):Fsp l q (operandP l q):=by
 unfold operandP;cases e:(if fmsB q then prefS l q else none) with
 | some q' =>
  split at e
  ·exact stp_pref T h hr e
  ·cases e
 | none =>
  show Fsp l q (restP l q);unfold restP
  split
  ·rename_i a;exact stp_give h (wi_ac T h.i a.2) (Al_Nat_lt_succ_self _) hr
  ·exact stp_re2 T h h0 hr
theorem stp_bet {op:UInt8} {w:Str} (h:Fwf l q) (hr:q.rd=true) (a:q.c.ac l w=true):Fsp l q (betP l op q):=by
 have n:=wi_ac T h.i a;have w7:=wf_red (lv:=7) (by decide) h hr;have w8:=wf_red (lv:=8) (by decide) h hr;unfold betP
 exact stp_if (λ_=>stp_if (λ_=>(stp_fail (c:=8) w7 (by decide)).red) λ_=>(stp_push (o:=⟨8,6,false,op,zF⟩) (c:=q.c.nx) w7 n (Al_Nat_lt_succ_self _) rfl hr.symm).red) λ_ =>
  stp_if (λ_=>stp_if (λ_=>(stp_fail (c:=8) w8 (by decide)).red) λ_=>(stp_push (o:=⟨9,8,false,op,zF⟩) (c:=q.c.nx) w8 n (Al_Nat_lt_succ_self _) rfl hr.symm).red) λ_ =>
  stp_if (λ_=>(stp_fail (c:=8) w7 (by decide)).red) λ_=>(stp_push (o:=⟨9,7,false,op,zF⟩) (c:=q.c.nx) w7 n (Al_Nat_lt_succ_self _) rfl hr.symm).red
theorem jo_lv {c:Rq} (h0:c.er=0) (hw:c.wrd l=true):(1<=(fsOf (c.joV l).op).lv/\(fsOf (c.joV l).op).lv<=4)/\c.i<(c.joS l).i:=by
 have ac {w:Str} (e:c.is l w=true):c.ac l w=true:=by unfold Rq.ac;rw [e,Al_decide_eq_true h0];rfl
 have lt {c':Rq} (k:Mq c.nx c'):c.i<c'.i:=Al_Nat_lt_of_lt_of_le (Al_Nat_lt_succ_self _) k.i;unfold Rq.joV Rq.joS
 by_cases a1:c.ac l [115,105,110,99,101]=true
 ·rw [Al_if_pos a1,Al_if_pos a1];exact ⟨by show 1<=(fsOf 15).lv/\(fsOf 15).lv<=4;decide,lt .wiS⟩
 by_cases a2:c.ac l [97,110,100]=true
 ·rw [Al_if_neg a1,Al_if_neg a1,Al_if_pos a2,Al_if_pos a2];exact ⟨by show 1<=(fsOf 9).lv/\(fsOf 9).lv<=4;decide,lt (.refl _)⟩
 by_cases a3:c.ac l [111,114]=true
 ·rw [Al_if_neg a1,Al_if_neg a1,Al_if_neg a2,Al_if_neg a2,Al_if_pos a3,Al_if_pos a3];exact ⟨by show 1<=(fsOf 10).lv/\(fsOf 10).lv<=4;decide,lt (.refl _)⟩
 by_cases a4:c.ac l [105,109,112,108,105,101,115]=true
 ·rw [Al_if_neg a1,Al_if_neg a1,Al_if_neg a2,Al_if_neg a2,Al_if_neg a3,Al_if_neg a3,Al_if_pos a4,Al_if_pos a4];exact ⟨by show 1<=(fsOf 11).lv/\(fsOf 11).lv<=4;decide,lt (.refl _)⟩
 unfold Rq.wrd at hw;rw [Al_Bool_or_eq_true,Al_Bool_or_eq_true,Al_Bool_or_eq_true] at hw;rcases hw with ((e | e) | e) | e
 ·exact absurd (ac e) a1
 ·exact absurd (ac e) a2
 ·exact absurd (ac e) a3
 ·exact absurd (ac e) a4
theorem okJ {f:Fm} {lv:Nat} (h:1<=lv):okO ⟨6,lv,false,0,f⟩=true:=by
 unfold okO;rw [Al_decide_eq_true (show 0<lv by omega)];rfl
theorem stp_joi (h:Fwf l q) (h0:q.c.er=0) (hr:q.rd=true) (hw:q.c.wrd l=true):Fsp l q (joiP l q):=by
 obtain ⟨⟨h1,_⟩,hi⟩:=jo_lv T h0 hw;unfold joiP
 split
 ·exact stp_fail h (by decide)
 ·exact (stp_push (o:=⟨6,_,false,0,q.c.joV l⟩) (c:=q.c.joS l) (wf_red h1 h hr) (wi_jo T h.i) hi (okJ T h1) hr.symm).red
theorem stp_clo {c:Rq} {v:Vl} {x:Vb} (h:Fwf l q) (hr:q.rd=true) (ho:okO (topO q)=true) (hk:cnO (topO q)=false) (hc:c.i<l.length) (hi:q.c.i<c.i) (hx:x.1.length=q.x.1.length - 1):Fsp l q (cloS c v x q):=by
 obtain ⟨r,e,hro⟩:=h.op;have hv:=h.vs
 have ht:topO q=bO\/∃ o r',r=o::r'/\topO q=o:=by
  unfold topO;rw [e];cases r with
  | nil=>exact .inl rfl
  | cons o r'=>exact .inr ⟨o,r',Z,Z⟩
 rcases ht with ht | ⟨o,r',rfl,ht⟩
 ·rw [ht] at ho;exact absurd ho (by decide)
 ·rw [ht] at hk;rw [e,Al_List_cons_append,cnt_cons,hk,hr] at hv;simp only [Al_Bool_false_eq_true,Al_if_false,Al_if_true] at hv;refine ⟨⟨hc,⟨r',by show q.op.tail=_;rw [e];rfl,λo ho=>hro o (Al_List_mem_cons_of_mem _ ho)⟩,?_,?_⟩,.inr hi⟩
  ·show x.1.length+1=cntB q.op.tail+1;rw [e];show _=cntB (r'++[bO])+1;omega
  ·show q.op.tail.length<=c.i+1;have:=h.so;rw [List.length_tail];omega
theorem top_ok (h:Fwf l q) {k:UInt8} (hk:(topO q).kd=k) (h1:¬ k=1):okO (topO q)=true:=by
 rcases h.top with ⟨_,e⟩ | ⟨r,_,ho,_⟩
 ·rw [e] at hk;exact absurd hk.symm h1
 ·exact ho
theorem stp_clg (h:Fwf l q) (hr:q.rd=true):Fsp l q (clgP l q):=by
 unfold clgP
 split
 ·exact ⟨⟨h.i,h.op,h.vs,h.so⟩,.inl (.inl Z)⟩
 split
 ·rename_i a;exact stp_clo T h hr (top_ok T h a.1 (by decide)) (by unfold cnO;rw [a.1];decide) (wi_ac T h.i a.2) (Al_Nat_lt_succ_self _) List.length_tail
 split
 ·rename_i a;exact stp_clo T h hr (top_ok T h a.1 (by decide)) (by unfold cnO;rw [a.1];decide) (wi_nb T (wi_ex T (wi_ac T h.i a.2))) (Al_Nat_lt_of_lt_of_le (Al_Nat_lt_succ_self _) (Mq.trans (a:=q.c.nx) .exS .nbS).i) (fS_len _)
 split
 ·rename_i a
  split
  ·exact stp_clo T h hr (top_ok T h a.1 (by decide)) (by unfold cnO;rw [a.1];decide) (wi_ac T h.i a.2) (Al_Nat_lt_succ_self _) (tS_len _)
  ·exact stp_clo T h hr (top_ok T h a.1 (by decide)) (by unfold cnO;rw [a.1];decide) (wi_ac T h.i a.2) (Al_Nat_lt_succ_self _) (tS_len _)
 split
 ·rename_i a;have ho:=top_ok T h a.1 (by decide);obtain ⟨r,e,hro⟩:=h.op;have hv:=h.vs;rcases h.top with ⟨_,e1⟩ | ⟨r,e1,_,hr1⟩
  ·rw [e1] at ho;exact absurd ho (by decide)
  ·have hc:cnO (topO q)=false:=by unfold cnO;rw [a.1];decide
   rw [e1,cnt_cons,hc,hr] at hv;simp only [Al_Bool_false_eq_true,Al_if_false,Al_if_true] at hv;refine ⟨⟨wi_ac T h.i a.2,⟨_::r,by rw [e1];rfl,?_⟩,?_,?_⟩,.inr (Al_Nat_lt_succ_self _)⟩
   ·intro o hz;rcases Al_List_mem_cons.1 hz with rfl | hz
    ·exact ho
    ·exact hr1 o hz
   ·show (tS q.x).1.length=cntB (_::q.op.tail)+0;rw [tS_len,e1,cnt_cons];show _=(if cnO (topO q) then 1 else 0)+cntB (r++[bO])+0;rw [hc];simp only [Al_Bool_false_eq_true,Al_if_false];omega
   ·show q.op.tail.length+1<=q.c.i+1+1;have:=h.so;rw [List.length_tail];omega
 split
 ·rename_i a;exact stp_clo T h hr (top_ok T h a.1 (by decide)) (by unfold cnO;rw [a.1];decide) (wi_ac T h.i a.2) (Al_Nat_lt_succ_self _) (tS_len _)
 ·exact stp_fail h (by decide)
theorem stp_oth (h:Fwf l q) (h0:q.c.er=0) (hr:q.rd=true):Fsp l q (othP l q):=by
 unfold othP
 split
 ·rename_i hw;exact stp_joi T h h0 hr hw
 split
 ·have:=stp_clg T (wf_red (lv:=1) (by decide) h hr) hr;exact ⟨this.wf,this.go⟩
 ·exact stp_fail h (by decide)
theorem sym_ac {c:Rq} {i:Nat} (h0:c.er=0) (e:c.sym l=some i):c.ac l (fsyms.getD i [])=true/\i<22/\i≠0:=by
 unfold Rq.sym at e
 split at e
 ·rename_i hk;unfold symF at e;have h1:=List.find?_some e;have h2:=Al_List_mem_range.1 (List.mem_of_find?_eq_some e);rw [Al_Bool_and_eq_true,Al_decide_eq_true_eq,Al_decide_eq_true_eq] at h1;refine ⟨?_,h2,h1.2⟩;unfold Rq.ac Rq.is;rw [h1.1,Al_decide_eq_true h0,Al_decide_eq_true (show (tkf l c.i).t=(tkf l c.i).t from rfl)];rcases hk with e | e <;> rw [e] <;> decide
 ·cases e
theorem stp_operator (h:Fwf l q) (h0:q.c.er=0) (hr:q.rd=true):Fsp l q (operatorP l q):=by
 unfold operatorP;cases e:q.c.sym l with
 | some i=>exact stp_bet T h hr (sym_ac T h0 e).1
 | none=>exact stp_oth T h h0 hr
theorem stp_step (h:Fwf l q) (hf:¬ q.fin):Fsp l q (stepP l q):=by
 have h0:q.c.er=0:=Classical.byContradiction λe=>hf (.inr e);unfold stepP
 split
 ·rename_i hr;exact stp_operator T h h0 hr
 ·rename_i hr;exact stp_operand T h h0 (by simpa using hr)
omit T in
theorem wf_ini (h:0<l.length):Fwf l iniP:=⟨h,⟨[],Z,λ_ h=>(by cases h)⟩,Z,by decide⟩
theorem run_end:∀ (n:Nat) (q:Ps),Fwf l q->l.length<=q.c.i+n->(runP l n q).fin/\Fwf l (runP l n q)
 | 0,q,h,hn=>by have:=h.i;omega
 | n+1,q,h,hn=>by
  rw [runP]
  split
  ·rename_i hf;exact ⟨hf,h⟩
  ·rename_i hf;have s:=stp_step T h hf;rcases s.go with hg | hg
   ·cases n with
    | zero=>exact ⟨hg,s.wf⟩
    | succ n=>rw [runP,Al_if_pos hg];exact ⟨hg,s.wf⟩
   ·exact run_end n _ s.wf (by omega)
end
theorem run_fin {l:Tks} {q:Ps} (h:q.fin):∀ n,runP l n q=q
 | 0=>rfl
 | n+1=>by rw [runP,Al_if_pos h]
theorem run_add {l:Tks}:∀ (n m:Nat) (q:Ps),runP l (n+m) q=runP l m (runP l n q)
 | 0,m,q=>by rw [Al_Nat_zero_add];rfl
 | n+1,m,q=>by
  rw [show n+1+m=(n+m)+1 by omega,runP,runP]
  split
  ·rename_i hf;rw [run_fin hf]
  ·exact run_add n m _
structure Fn where
 fm:Bool
 tm:Bool
 f:Fm
 e:Ex
def joW (k:Nat):Str:=if k=1 then [105,109,112,108,105,101,115] else if k=2 then [111,114] else if k=3 then [97,110,100] else [115,105,110,99,101]
def preW:List (Str × UInt8):=[([110,111,116],8),([112,114,101,118,105,111,117,115],12),([111,110,99,101],13),([97,108,119,97,121,115],14),([102,111,114,97,108,108],16),([101,120,105,115,116,115],17)]
def priW:List Str:=[[110,111,119],[116,114,117,101],[102,97,108,115,101],[102,108,97,103],[104,97,115],[97,114,114,105,118,101,115],[115,105,122,101],[40]]
section
variable (l:Tks)
def Rq.prS (op:UInt8) (r:Rq):Rq:=if op=13\/op=14 then r.nx.wiS l else if op=16\/op=17 then r.nx.amS l else r.nx
def Rq.prF (op:UInt8) (r:Rq):Fm:=if op=13\/op=14 then r.nx.wiV l op else if op=16\/op=17 then r.nx.amV l op else .mk op [] [] 0 0 [] []
def Rq.jnS (k:Nat) (r:Rq):Rq:=if k=4 then r.nx.wiS l else r.nx
def Rq.jnF (k:Nat) (r:Rq):Fm:=if k=4 then r.nx.wiV l 15 else .mk (UInt8.ofNat (12 - k)) [] [] 0 0 [] []
end
section
variable {l:Tks} {r r':Rq} {w:Str}
theorem acF_bad (h:r.er≠0):r.ac l w=false:=by unfold Rq.ac;rw [Al_decide_eq_false h];rfl
end
structure Nok (v:Vl) (n:Fn):Prop where
 tm:v.tm=n.tm
 e:n.tm=true->v.e=n.e
 fm:n.fm=!v.noF
 f:n.fm=true->v.fm=n.f
def foldC (P:List Ov) (x:Vb):Vb:=P.foldl (λx o=>comb o x) x
theorem foldC_app (P R:List Ov) (x:Vb):foldC (P++R) x=foldC R (foldC P x):=Al_List_foldl_append ..
def Rch (l:Tks) (q q':Ps):Prop:=∃ n,runP l n q=q'
section
variable {l:Tks} {q q' q'':Ps}
theorem Rch.refl:Rch l q q:=⟨0,Z⟩
theorem Rch.trans (h:Rch l q q') (k:Rch l q' q''):Rch l q q'':=by
 obtain ⟨n,h⟩:=h;obtain ⟨m,k⟩:=k;exact ⟨n+m,by rw [run_add,h,k]⟩
theorem Rch.one (h0:q.c.er=0) (hd:q.dn=false) (h:stepP l q=q'):Rch l q q':=⟨1,by
 rw [runP,Al_if_neg,h];rfl;rintro (e | e)
 ·rw [hd] at e;cases e
 ·exact e h0⟩
structure Rdy (k:Nat) (q q':Ps) (n:Fn) (m:Bool) (r:Rq):Prop where
 c:q'.c=r
 rd:q'.rd=true
 dn:q'.dn=false
 st:∃ P v,q'.op=P++q.op/\(∀ p∈P,k<=p.lv/\p.tm=(topO q).tm)/\foldC P q'.x=(v::q.x.1,q.x.2 || m)/\(m=false->Nok v n)
 wh:6<=k->(topV q'.x).wh=false
theorem Rdy.mono {k j:Nat} {n:Fn} {m:Bool} {r:Rq} (h:Rdy k q q' n m r) (hj:j<=k) (hw:6<=j->6<=k):Rdy j q q' n m r:=by
 obtain ⟨P,v,a,b,c,d⟩:=h.st;exact ⟨h.c,h.rd,h.dn,⟨P,v,a,λp hp=>⟨Al_Nat_le_trans hj (b p hp).1,(b p hp).2⟩,c,d⟩,λe=>h.wh (hw e)⟩
theorem Rdy.up {k j:Nat} {o:Ov} {q1 q2 q3:Ps} {n N:Fn} {m M:Bool} {r:Rq} (h:Rdy j q2 q3 n m r) (hop:q2.op=o::q1.op) (hk:k<=o.lv) (hj:k<=j) (ht:o.tm=(topO q1).tm)
 (hx:∀ v,(m=false->Nok v n)->∃ u,comb o (v::q2.x.1,q2.x.2 || m)=(u::q1.x.1,q1.x.2 || M)/\(M=false->Nok u N)) (hw:6<=k->(topV q3.x).wh=false):Rdy k q1 q3 N M r:=by
 obtain ⟨P,v,a,b,c,d⟩:=h.st;obtain ⟨u,e,f⟩:=hx v d;have ht2:(topO q2)=o:=by unfold topO;rw [hop];rfl
 refine ⟨h.c,h.rd,h.dn,⟨P++[o],u,by rw [a,hop,Al_List_append_assoc];rfl,?_,?_,f⟩,hw⟩
 ·intro p hp;rcases Al_List_mem_append.1 hp with hp | hp
  ·have:=b p hp;rw [ht2,ht] at this;exact ⟨Al_Nat_le_trans hj this.1,this.2⟩
  ·rw [Al_List_mem_singleton] at hp;subst hp;exact ⟨hk,ht⟩
 ·rw [foldC_app,c];exact e
theorem acF_ne {c:Rq} {w w':Str} (h:c.ac l w=true) (hw:w≠w'):c.ac l w'=false:=by
 cases h2:c.ac l w' with
 | false=>rfl
 | true=>exact absurd ((acF_t h).symm.trans (acF_t h2)) hw
theorem acF_k3 {c:Rq} {w:Str} (h:c.ac l w=true):¬ (tkf l c.i).k=3:=by rcases acF_k h with e | e <;> rw [e] <;> decide
theorem acF_k1 {c:Rq} {w:Str} (h:c.ac l w=true):¬ (tkf l c.i).k=1:=by rcases acF_k h with e | e <;> rw [e] <;> decide
theorem k_ac {c:Rq} {w:Str} (h:¬ ((tkf l c.i).k=2\/(tkf l c.i).k=4)):c.ac l w=false:=by
 cases h2:c.ac l w with
 | false=>rfl
 | true=>exact absurd (acF_k h2) h
theorem sym_w {c:Rq} {w:Str} (h:c.ac l w=true) (hw:symF w=none):c.sym l=none:=by
 unfold Rq.sym
 split
 ·rw [acF_t h];exact hw
 ·rfl
theorem is_of {c:Rq} {w:Str} (h:c.ac l w=true):c.is l w=true:=acF_is h
theorem is_ac0 {c:Rq} {w:Str} (h0:c.er=0):c.is l w=c.ac l w:=by unfold Rq.ac;rw [Al_decide_eq_true h0,Al_Bool_true_and]
end
structure Tgd (l:Tks):Prop where
 last:Tlast l
 ne:∀ i,(tkf l i).k=2\/(tkf l i).k=4->(tkf l i).t≠[]
 nm:∀ i,(tkf l i).k=1->splitF (tkf l i).t=none
section
variable {l:Tks} {q q' q'':Ps} {w w':Str} {c r r':Rq} {k i:Nat} {n:Fn} {m:Bool} {v:Vl}
theorem nw (h:c.ac l w=true) (hw:w≠w'):¬ c.ac l w'=true:=by rw [acF_ne h hw];decide
theorem pref_of {op:UInt8} (h:q.c.ac l w=true) (hp:(w,op)∈preW):prefS l q=some (pushS ⟨7,5,false,0,q.c.prF l op⟩ (q.at (q.c.prS l op))):=by
 unfold preW at hp;simp only [Al_List_mem_cons,Al_Prod_mk_injEq,List.not_mem_nil,or_false] at hp;unfold prefS Rq.prF Rq.prS;rcases hp with ⟨rfl,rfl⟩ | ⟨rfl,rfl⟩ | ⟨rfl,rfl⟩ | ⟨rfl,rfl⟩ | ⟨rfl,rfl⟩ | ⟨rfl,rfl⟩
 ·rw [Al_if_pos h];rfl
 ·rw [Al_if_neg (nw h (by decide)),Al_if_pos h];rfl
 ·rw [Al_if_neg (nw h (by decide)),Al_if_neg (nw h (by decide)),Al_if_pos h];rfl
 ·rw [Al_if_neg (nw h (by decide)),Al_if_neg (nw h (by decide)),Al_if_neg (nw h (by decide)),Al_if_pos h];rfl
 ·rw [Al_if_neg (nw h (by decide)),Al_if_neg (nw h (by decide)),Al_if_neg (nw h (by decide)),Al_if_neg (nw h (by decide)),Al_if_pos h];rfl
 ·rw [Al_if_neg (nw h (by decide)),Al_if_neg (nw h (by decide)),Al_if_neg (nw h (by decide)),Al_if_neg (nw h (by decide)),Al_if_neg (nw h (by decide)),Al_if_pos h];rfl
theorem pref_cnt (h:q.c.ac l [99,111,117,110,116]=true):prefS l q=some (pushS ⟨3,0,false,0,q.c.nx.amV l 18⟩ (q.at ((q.c.nx.amS l).exS l [40]))):=by
 unfold prefS;rw [Al_if_neg (nw h (by decide)),Al_if_neg (nw h (by decide)),Al_if_neg (nw h (by decide)),Al_if_neg (nw h (by decide)),Al_if_neg (nw h (by decide)),Al_if_neg (nw h (by decide)),Al_if_pos h]
theorem pref_no (hp:∀ w op,(w,op)∈preW->q.c.ac l w=false) (hc:q.c.ac l [99,111,117,110,116]=false):prefS l q=none:=by
 have no {w:Str} {op:UInt8} (h:(w,op)∈preW):¬ q.c.ac l w=true:=by rw [hp w op h];decide
 unfold prefS;rw [Al_if_neg (no (op:=8) (by decide)),Al_if_neg (no (op:=12) (by decide)),Al_if_neg (no (op:=13) (by decide)),Al_if_neg (no (op:=14) (by decide)),Al_if_neg (no (op:=16) (by decide)),Al_if_neg (no (op:=17) (by decide)),Al_if_neg (by rw [hc];decide)]
theorem opd_no (hf:fmsB q=false\/prefS l q=none) (hk:(topO q).kd=5->q.c.ac l [95]=false):operandP l q=re2P l q:=by
 have e:(if fmsB q then prefS l q else none)=none:=by
  rcases hf with e | e
  ·rw [e];rfl
  ·rw [e];split <;> rfl
 unfold operandP;rw [e];show restP l q=_;unfold restP;rw [Al_if_neg];rintro ⟨h1,h2⟩;rw [hk h1] at h2;cases h2
theorem re2_neg (h:q.c.ac l [45]=true):re2P l q=pushS ⟨10,9,false,0,zF⟩ (q.at q.c.nx):=by unfold re2P;rw [Al_if_pos h]
theorem re2_par (h:q.c.ac l [40]=true):re2P l q=pushS ⟨2,0,false,0,zF⟩ (q.at q.c.nx):=by unfold re2P;rw [Al_if_neg (nw h (by decide)),Al_if_pos h]
theorem k3_ac (h:(tkf l c.i).k=3):¬ c.ac l w=true:=by rw [k_ac (by rw [h];decide)];decide
theorem k1_ac (h:(tkf l c.i).k=1):¬ c.ac l w=true:=by rw [k_ac (by rw [h];decide)];decide
theorem re2_num (h:(tkf l q.c.i).k=3):re2P l q=giveS (tmv (.mk 1 [] (q.c.nbV l) [])) (q.at (q.c.nbS l)):=by unfold re2P;rw [Al_if_neg (k3_ac h),Al_if_neg (k3_ac h),Al_if_pos h]
theorem re2_nam (h:(tkf l q.c.i).k=1):re2P l q=varP l q:=by unfold re2P;rw [Al_if_neg (k1_ac h),Al_if_neg (k1_ac h),Al_if_neg (by rw [h];decide),Al_if_pos h]
theorem re2_now (h:q.c.ac l [110,111,119]=true):re2P l q=giveS (tmv (.mk 4 [] 0 [])) (q.at q.c.nx):=by
 unfold re2P;rw [Al_if_neg (nw h (by decide)),Al_if_neg (nw h (by decide)),Al_if_neg (acF_k3 h),Al_if_neg (acF_k1 h),Al_if_pos h]
theorem re2_siz (h:q.c.ac l [115,105,122,101]=true):re2P l q=giveS (tmv (.mk 8 (q.c.nx.paN l++[46]++q.c.nx.paF l) 0 [])) (q.at (q.c.nx.paS l)):=by
 unfold re2P;rw [Al_if_neg (nw h (by decide)),Al_if_neg (nw h (by decide)),Al_if_neg (acF_k3 h),Al_if_neg (acF_k1 h),Al_if_neg (nw h (by decide)),Al_if_pos h]
theorem re2_tru (h:q.c.ac l [116,114,117,101]=true):re2P l q=giveS (fmv (.mk 1 [] [] 0 0 [] [])) (q.at q.c.nx):=by
 unfold re2P;rw [Al_if_neg (nw h (by decide)),Al_if_neg (nw h (by decide)),Al_if_neg (acF_k3 h),Al_if_neg (acF_k1 h),Al_if_neg (nw h (by decide)),Al_if_neg (nw h (by decide)),Al_if_pos h]
theorem re2_fal (h:q.c.ac l [102,97,108,115,101]=true):re2P l q=giveS (fmv (.mk 2 [] [] 0 0 [] [])) (q.at q.c.nx):=by
 unfold re2P;rw [Al_if_neg (nw h (by decide)),Al_if_neg (nw h (by decide)),Al_if_neg (acF_k3 h),Al_if_neg (acF_k1 h),Al_if_neg (nw h (by decide)),Al_if_neg (nw h (by decide)),Al_if_neg (nw h (by decide)),Al_if_pos h]
theorem re2_flg (h:q.c.ac l [102,108,97,103]=true):re2P l q=giveS (fmv (.mk 6 (q.c.nx.nmV l) [] 0 0 [] [])) (q.at (q.c.nx.nmS l)):=by
 unfold re2P;rw [Al_if_neg (nw h (by decide)),Al_if_neg (nw h (by decide)),Al_if_neg (acF_k3 h),Al_if_neg (acF_k1 h),Al_if_neg (nw h (by decide)),Al_if_neg (nw h (by decide)),Al_if_neg (nw h (by decide)),Al_if_neg (nw h (by decide)),Al_if_pos h]
theorem re2_has (h:q.c.ac l [104,97,115]=true):re2P l q=pushS ⟨4,0,true,0,q.c.nx.paV l 5⟩ (q.at ((q.c.nx.paS l).exS l [91])):=by
 unfold re2P;rw [Al_if_neg (nw h (by decide)),Al_if_neg (nw h (by decide)),Al_if_neg (acF_k3 h),Al_if_neg (acF_k1 h),Al_if_neg (nw h (by decide)),Al_if_neg (nw h (by decide)),Al_if_neg (nw h (by decide)),Al_if_neg (nw h (by decide)),Al_if_neg (nw h (by decide)),Al_if_pos h]
theorem re2_arr (h:q.c.ac l [97,114,114,105,118,101,115]=true):re2P l q=arrP l (q.at q.c.nx):=by
 unfold re2P;rw [Al_if_neg (nw h (by decide)),Al_if_neg (nw h (by decide)),Al_if_neg (acF_k3 h),Al_if_neg (acF_k1 h),Al_if_neg (nw h (by decide)),Al_if_neg (nw h (by decide)),Al_if_neg (nw h (by decide)),Al_if_neg (nw h (by decide)),Al_if_neg (nw h (by decide)),Al_if_neg (nw h (by decide)),Al_if_pos h]
theorem re2_non (h0:q.c.ac l [45]=false) (h3:(tkf l q.c.i).k≠3) (h1:(tkf l q.c.i).k≠1) (hw:∀ w∈priW,q.c.ac l w=false):re2P l q=q.at (q.c.fail l 8):=by
 have no {w:Str} (h:w∈priW):¬ q.c.ac l w=true:=by rw [hw w h];decide
 unfold re2P;rw [Al_if_neg (by rw [h0];decide),Al_if_neg (no (by decide)),Al_if_neg h3,Al_if_neg h1,Al_if_neg (no (by decide)),Al_if_neg (no (by decide)),Al_if_neg (no (by decide)),Al_if_neg (no (by decide)),Al_if_neg (no (by decide)),Al_if_neg (no (by decide)),Al_if_neg (no (by decide))]
theorem clg_fail (h1:(topO q).kd=1->(tkf l q.c.i).k≠0) (h2:(topO q).kd=2\/(topO q).kd=3\/(topO q).kd=5->q.c.ac l [41]=false) (h4:(topO q).kd=4->q.c.ac l [93]=false) (h5:(topO q).kd=5->q.c.ac l [44]=false):clgP l q=q.at (q.c.fail l 8):=by
 have no {w:Str} (e:q.c.ac l w=false):¬ q.c.ac l w=true:=by rw [e];decide
 unfold clgP;rw [Al_if_neg (λe=>h1 e.1 e.2),Al_if_neg (λe=>no (h2 (.inl e.1)) e.2),Al_if_neg (λe=>no (h2 (.inr (.inl e.1))) e.2),Al_if_neg (λe=>no (h4 e.1) e.2),Al_if_neg (λe=>no (h5 e.1) e.2),Al_if_neg (λe=>no (h2 (.inr (.inr e.1))) e.2)]
end
section
variable {l:Tks} {q q' q'':Ps} {w w':Str} {c r r':Rq} {k i:Nat} {n x y:Fn} {m ma b:Bool} {v u:Vl} {V:List Vl}
theorem ex_ac (h:r.ac l w=true):r.exS l w=r.nx:=by unfold Rq.exS;rw [Al_if_pos h]
theorem ex_no (h:r.ac l w=false):r.exS l w=r.fail l 8:=by unfold Rq.exS;rw [Al_if_neg (by rw [h];decide)]
theorem jn_lv (hk:1<=k/\k<=4) (h:r.ac l (joW k)=true):r.joV l=r.jnF l k/\r.joS l=r.jnS l k/\(fsOf (r.jnF l k).op).lv=k/\r.wrd l=true/\r.sym l=none:=by
 have h0:=acF_er h;have e:k=1\/k=2\/k=3\/k=4:=by omega
 rcases e with rfl | rfl | rfl | rfl
 ·replace h:r.ac l [105,109,112,108,105,101,115]=true:=h;refine ⟨?_,?_,Z,?_,sym_w h (by decide +kernel)⟩
  ·unfold Rq.joV;rw [Al_if_neg (nw h (by decide)),Al_if_neg (nw h (by decide)),Al_if_neg (nw h (by decide)),Al_if_pos h];rfl
  ·unfold Rq.joS;rw [Al_if_neg (nw h (by decide)),Al_if_neg (nw h (by decide)),Al_if_neg (nw h (by decide)),Al_if_pos h];rfl
  ·unfold Rq.wrd;rw [show r.is l [105,109,112,108,105,101,115]=true from is_of h,Bool.or_true]
 ·replace h:r.ac l [111,114]=true:=h;refine ⟨?_,?_,Z,?_,sym_w h (by decide +kernel)⟩
  ·unfold Rq.joV;rw [Al_if_neg (nw h (by decide)),Al_if_neg (nw h (by decide)),Al_if_pos h];rfl
  ·unfold Rq.joS;rw [Al_if_neg (nw h (by decide)),Al_if_neg (nw h (by decide)),Al_if_pos h];rfl
  ·unfold Rq.wrd;rw [show r.is l [111,114]=true from is_of h,Bool.or_true];rfl
 ·replace h:r.ac l [97,110,100]=true:=h;refine ⟨?_,?_,Z,?_,sym_w h (by decide +kernel)⟩
  ·unfold Rq.joV;rw [Al_if_neg (nw h (by decide)),Al_if_pos h];rfl
  ·unfold Rq.joS;rw [Al_if_neg (nw h (by decide)),Al_if_pos h];rfl
  ·unfold Rq.wrd;rw [show r.is l [97,110,100]=true from is_of h,Bool.or_true];rfl
 ·replace h:r.ac l [115,105,110,99,101]=true:=h;refine ⟨?_,?_,Z,?_,sym_w h (by decide +kernel)⟩
  ·unfold Rq.joV;rw [Al_if_pos h];rfl
  ·unfold Rq.joS;rw [Al_if_pos h];rfl
  ·unfold Rq.wrd;rw [show r.is l [115,105,110,99,101]=true from is_of h];rfl
end
section
variable {l:Tks} {q q' q'':Ps} {w w':Str} {c r r' r1 r2:Rq} {k i:Nat} {n x y a:Fn} {m m' ma b:Bool} {v u:Vl} {V:List Vl}
end
section
variable {l:Tks} {q q' q'':Ps} {w w':Str} {c r r' r1 r2:Rq} {k i:Nat} {n x y a:Fn} {m m' ma b:Bool} {v u:Vl} {V:List Vl} {f:Fm}
theorem clg_par {o:Ov} (ht:topO q=o) (hk:o.kd=2) (h:q.c.ac l [41]=true):clgP l q=cloS q.c.nx ⟨(topV q.x).tm,false,(topV q.x).e,(topV q.x).f⟩ (q.x.1.tail,q.x.2) q:=by
 subst ht;unfold clgP;rw [Al_if_neg (λe=>by rw [hk] at e;exact absurd e.1 (by decide)),Al_if_pos ⟨hk,h⟩]
theorem clg_cnt {o:Ov} (ht:topO q=o) (hk:o.kd=3) (h:q.c.ac l [41]=true):clgP l q=cloS ((q.c.nx.exS l [62,61]).nbS l) ⟨false,true,zE,((topO q).f.wEx [.mk 1 [] ((q.c.nx.exS l [62,61]).nbV l) []]).wAr [fF q.x]⟩ (fS q.x) q:=by
 subst ht;unfold clgP;rw [Al_if_neg (λe=>by rw [hk] at e;exact absurd e.1 (by decide)),Al_if_neg (λe=>by rw [hk] at e;exact absurd e.1 (by decide)),Al_if_pos ⟨hk,h⟩]
theorem clg_get {o:Ov} (ht:topO q=o) (hk:o.kd=4) (ho:o.op=6) (h:q.c.ac l [93]=true):clgP l q=cloS q.c.nx (tmv (.mk 6 o.f.nm 0 [tE q.x])) (tS q.x) q:=by
 subst ht;unfold clgP;rw [Al_if_neg (λe=>by rw [hk] at e;exact absurd e.1 (by decide)),Al_if_neg (λe=>by rw [hk] at e;exact absurd e.1 (by decide)),Al_if_neg (λe=>by rw [hk] at e;exact absurd e.1 (by decide)),Al_if_pos ⟨hk,h⟩,Al_if_pos ho]
theorem clg_has {o:Ov} (ht:topO q=o) (hk:o.kd=4) (ho:¬ o.op=6) (h:q.c.ac l [93]=true):clgP l q=cloS q.c.nx (fmv (o.f.wEx [tE q.x])) (tS q.x) q:=by
 subst ht;unfold clgP;rw [Al_if_neg (λe=>by rw [hk] at e;exact absurd e.1 (by decide)),Al_if_neg (λe=>by rw [hk] at e;exact absurd e.1 (by decide)),Al_if_neg (λe=>by rw [hk] at e;exact absurd e.1 (by decide)),Al_if_pos ⟨hk,h⟩,Al_if_neg ho]
theorem clg_com {o:Ov} (ht:topO q=o) (hk:o.kd=5) (h:q.c.ac l [44]=true):clgP l q=⟨q.c.nx,⟨o.kd,o.lv,o.tm,o.op,o.f.wEx (o.f.ex++[tE q.x])⟩::q.op.tail,tS q.x,false,q.dn⟩:=by
 subst ht;unfold clgP;rw [Al_if_neg (λe=>by rw [hk] at e;exact absurd e.1 (by decide)),Al_if_neg (λe=>by rw [hk] at e;exact absurd e.1 (by decide)),Al_if_neg (λe=>by rw [hk] at e;exact absurd e.1 (by decide)),Al_if_neg (λe=>by rw [hk] at e;exact absurd e.1 (by decide)),Al_if_pos ⟨hk,h⟩]
theorem clg_arg {o:Ov} (ht:topO q=o) (hk:o.kd=5) (h:q.c.ac l [41]=true):clgP l q=cloS q.c.nx (fmv (o.f.wEx (o.f.ex++[tE q.x]))) (tS q.x) q:=by
 subst ht;unfold clgP;rw [Al_if_neg (λe=>by rw [hk] at e;exact absurd e.1 (by decide)),Al_if_neg (λe=>by rw [hk] at e;exact absurd e.1 (by decide)),Al_if_neg (λe=>by rw [hk] at e;exact absurd e.1 (by decide)),Al_if_neg (λe=>by rw [hk] at e;exact absurd e.1 (by decide)),Al_if_neg (λe=>absurd e.2 (nw h (by decide))),Al_if_pos ⟨hk,h⟩]
end
section
variable {l:Tks} {q q' q'':Ps} {w w':Str} {c r r' r1 r2:Rq} {k i:Nat} {n x y a:Fn} {m m' ma b:Bool} {v u:Vl} {V:List Vl} {f:Fm}
theorem run_unique {N:Nat} (h:Rch l q q') (hf:q'.fin) (hN:(runP l N q).fin):runP l N q=q':=by
 obtain ⟨k,e⟩:=h;have e1:=run_add (l:=l) k N q;have e2:=run_add (l:=l) N k q;rw [e,run_fin hf] at e1;rw [run_fin hN] at e2;rw [<-e2,Nat.add_comm,e1]
end
end Go.Proofs.YtidclioghdbphaaGreatDoor
namespace Go.Sx
open Go.RowKit Go.Par
section
variable {dfs:List Deferred} {n:Nat} {L:Sl} {H:Hp} {w0:World} {bs:List Res}
end
variable {w0:World} {H:Hp} {t:TypeId}
theorem HUp.put {H1:Hp} {b:Nat} {arr:Array Value} (u:HUp w0 H H1) (hb:H b=none) (hw:w0.heap.size<=b):HUp w0 H (putH H1 b (.cells arr t (0,0))):=by
 refine ⟨⟨λc o e=>?_,u.up.lo⟩,λc e hc=>?_,λc o e h0=>?_⟩
 ·have:c≠b:=λh=>by subst h;rw [hb] at e;cases e
  rw [putH_ne this];exact u.up c o e
 ·rw [putH_ne (by omega)];exact u.new c e hc
 ·by_cases h:c=b
  ·subst h;rw [putH_at] at e;cases e;exact ⟨_,_,Z⟩
  ·rw [putH_ne h] at e;exact u.mark c o e h0
theorem HUp.cells {H1:Hp} {b:Nat} {arr:Array Value} {m:Nat × Nat} (u:HUp w0 H H1) (hb:H b=none) (h:H1 b=some (.cells arr t m)):H1 b=some (.cells arr t (0,0)):=by
 obtain ⟨arr',t',e⟩:=u.mark b _ h hb;cases e;exact h
def Hp.at (H:Hp) (n:Nat):Hp:=⟨H.get,n⟩
section
variable {P:Program}
end
section
variable {dfs:List Deferred} {P:Program} {n:Nat} {L:Sl} {H:Hp} {w0:World} {bs:List Res} {Q:Exit->Act->World->Prop} {ops:Array Oper} {rest:List Oper} {K:Act->World->Prop}
variable {ty:TypeId} {pos:String} {aft:Array Edge} {t:Tmp} {x y:Operand} {T:TypeId}
end
section
variable {P:Program} {H:Hp} {w0 W:World} {bs:List Res}
end
section
variable {dfs:List Deferred} {P:Program} {n N hn i:Nat} {L:Sl} {H:Hp} {w0:World} {bs:List Res} {Q:Exit->Act->World->Prop} {ops:Array Oper} {rest:List Oper} {K:Act->World->Prop}
variable {ty:TypeId} {pos:String} {aft:Array Edge} {t:Tmp} {x y:Operand} {T:TypeId} {pa:List (Nat × Oper × Value)} {E:Sl->Hp->List Res->Prop} {fr:List (Nat × Nat × Oper)}
end
section
variable {dfs:List Deferred} {P:Program} {n:Nat} {L:Sl} {H:Hp} {w0:World} {bs:List Res} {Q:Exit->Act->World->Prop} {ops:Array Oper} {rest:List Oper} {K:Act->World->Prop}
variable {d:Option Tmp} {ty:TypeId} {pos:String} {aft:Array Edge} {v:Value} {t:Tmp} {x y:Operand} {T:TypeId}
theorem At.rcut {e:TypeId} {size k m g c:Nat} {xs ys:List Value} {bs':List Res} {G:Act->World->Prop} (hm:Upd bs (.row e size (.slice (some ⟨g,0,none⟩) k c) k xs) (.row e size (.slice (some ⟨g,0,none⟩) m c) m ys) bs') (hk:m<=k) (hy:ys=xs.take (m * size)) (h:At dfs n L H w0 bs' G):At dfs n L H w0 bs G:=λa W f s=>by
 have ho:W.ownsRow w0.heap.size e size (.slice (some ⟨g,0,none⟩) k c) k xs:=(s.own _ hm.mem).1;rcases ho.2 with ⟨hr,_⟩ | ⟨g',cap,cur,hr,hbg,hgc,hnc,hcm,hcs,htake⟩
 ·cases hr
 ·injection hr with e1 _ e3
  injection e1 with e1
  injection e1 with e1
  subst e1 e3;have hms:m * size<=k * size:=Al_Nat_mul_le_mul_right size hk;have hl:=ho.1;refine h a W f (s.put1 hm ⟨?_,.inr ⟨g,c,cur,Z,hbg,hgc,by omega,hcm,hcs,?_⟩⟩ (λb e=>e))
  ·rw [hy,Al_List_length_take];omega
  ·rw [hy,<-htake,List.take_take,Al_Nat_min_eq_left hms]
theorem storeR1 {g off k c size:Nat} {e:TypeId} {xs:List Value} {v:Value} {bs':List Res} (hp:ev L x=some (.pointer (some ⟨g,off,none⟩))) (hv:ev L y=some v) (hT:sizeN P T=some 1) (h1:v.oneCell'=true)
 (hm:Upd bs (.row e size (.slice (some ⟨g,0,none⟩) k c) k xs) (.row e size (.slice (some ⟨g,0,none⟩) k c) k (xs.set off v)) bs') (ho:off<xs.length) (h:At dfs n L H w0 bs' K) :
 At dfs n L H w0 bs (one P ops Q ⟨none,.store T x y,ty,pos,aft,none⟩ K):=by
 intro a W f s;have ho1:W.ownsRow w0.heap.size e size (.slice (some ⟨g,0,none⟩) k c) k xs:=(s.own _ hm.mem).1;rcases ho1.2 with ⟨hr,_⟩ | ⟨g',cap,cur,hr,hbg,hgc,hnc,hcm,hcs,htake⟩
 ·cases hr
 ·injection hr with e1 _ e3
  injection e1 with e1
  injection e1 with e1
  subst e1 e3;obtain ⟨more,hmo⟩:∃ more,more=cur.toList.drop (k * size):=⟨_,Z⟩;have hcur:cur.toList=xs++more:=by rw [hmo,<-htake,Al_List_take_append_drop]
  have hcur2:cur=(xs++more).toArray:=by rw [<-hcur]
  obtain ⟨b1,u1,u2⟩:=hm.mid (.box g (xs++more) e);obtain ⟨b2,u3,u4⟩:=u2.mid (.box g ((xs++more).set off v) e);have s1:St H w0 b1 W:=s.put1 u1 ⟨hbg,by rw [hgc,<-hcur2]⟩ (λb e=>e);refine store hp hv hT h1 u3 (by rw [Al_List_length_append];omega) rfl ?_ a W f s1;intro a W f s2;have ob:=(s2.own _ u4.mem).1;have e4:(xs++more).set off v=xs.set off v++more:=List.set_append_left off v ho;have hz:xs.length=k * size:=ho1.1;refine h a W f (s2.put1 u4 ⟨by rw [List.length_set];exact hz,.inr ⟨g,c,((xs++more).set off v).toArray,Z,ob.1,ob.2,hnc,hcm,?_,?_⟩⟩ (λb e=>e))
  ·rw [List.size_toArray,List.length_set,<-hcur];simpa using hcs
  ·rw [e4];show List.take (k * size) (xs.set off v++more)=xs.set off v;rw [List.take_append_of_le_length (by rw [List.length_set];omega),Al_List_take_of_length_le (by rw [List.length_set];omega)]
theorem At.s1R {g off k c size:Nat} {e:TypeId} {xs:List Value} {v:Value} {bs':List Res} (hp:ev L x=some (.pointer (some ⟨g,off,none⟩))) (hv:ev L y=some v) (hT:sizeN P T=some 1) (h1:v.oneCell'=true)
 (hm:Upd bs (.row e size (.slice (some ⟨g,0,none⟩) k c) k xs) (.row e size (.slice (some ⟨g,0,none⟩) k c) k (xs.set off v)) bs') (ho:off<xs.length) (h:At dfs n L H w0 bs' (wpList P ops Q rest)) :
 At dfs n L H w0 bs (wpList P ops Q (⟨none,.store T x y,ty,pos,aft,none⟩::rest)):=cons (storeR1 hp hv hT h1 hm ho h)
end
end Go.Sx
namespace Go.Proofs.YtidclioghdbphaaGreatDoor
open Go.RowKit Go.Par Go.Sx Tryz
structure Tkf (H:Hp) (l:Tks) (tp:Option Addr) (tc:Nat):Prop where
 rep:Rep H (.seq 3 (l.map (dTk .u8))) [.slice tp l.length tc]
 gd:Tgd l
 short:∀ t∈l,t.t.length<=400000
 few:l.length<=600000
 num:∀ t∈l,t.k=3->pre digB t.t=t.t.length/\¬ t.t=[]
variable {H H':Hp} {tp:Option Addr} {tc:Nat}
theorem Tkf.up {l:Tks} (h:Tkf H l tp tc) (u:Up H H'):Tkf H' l tp tc:=⟨h.rep.up u,h.gd,h.short,h.few,h.num⟩
variable {i:Nat}
theorem tkf_at {l:Tks} (h:i<l.length):l[i]=tkf l i:=by unfold tkf;rw [List.getD_eq_getElem?_getD,List.getElem?_eq_getElem h];rfl
theorem tkf_mem {l:Tks} (h:i<l.length):tkf l i∈l:=by rw [<-tkf_at h];exact Al_List_getElem_mem h
variable {q:Rq}
theorem nmV_len {l:Tks} (K:Tkf H l tp tc) (hq:q.i<l.length):(q.nmV l).length<=400000:=by
 unfold Rq.nmV
 split
 ·exact K.short _ (tkf_mem hq)
 ·exact Al_Nat_zero_le _
theorem fld_f0 (a b c:Value):∀ W,(Instr.field 108 (.agg [a,b,c].toArray) 0).run prg W=.ok a W:=λ_=>by kernel_rfl
theorem fld_f2 (a b c:Value):∀ W,(Instr.field 108 (.agg [a,b,c].toArray) 2).run prg W=.ok c W:=λ_=>by kernel_rfl
theorem k8 {k:UInt8} {m:Nat} (hm:m<256):decide (((k.toNat:Nat):Int)=(m:Int))=decide (k=UInt8.ofNat m):=by
 rw [Al_Bool_eq_iff_iff,Al_decide_eq_true_eq,Al_decide_eq_true_eq]
 constructor
 ·intro e;exact Al_UInt8_toNat_inj.1 (by rw [Al_UInt8_toNat_ofNat_of_lt' hm];omega)
 ·intro e;rw [e,Al_UInt8_toNat_ofNat_of_lt' hm]
theorem k80 {k:UInt8} :decide (((k.toNat:Nat):Int)=0)=decide (k=0):=k8 (m:=0) (by decide)
theorem k81 {k:UInt8} :decide (((k.toNat:Nat):Int)=1)=decide (k=1):=k8 (m:=1) (by decide)
theorem k82 {k:UInt8} :decide (((k.toNat:Nat):Int)=2)=decide (k=2):=k8 (m:=2) (by decide)
theorem k84 {k:UInt8} :decide (((k.toNat:Nat):Int)=4)=decide (k=4):=k8 (m:=4) (by decide)
variable {n:Nat}
theorem er0:decide (((n:Nat):Int)=0)=decide (n=0):=by rw [Al_Bool_eq_iff_iff,Al_decide_eq_true_eq,Al_decide_eq_true_eq];omega
variable {w0 W:World} {bs:List Res} {ro rv:Value} {bd:Bool}
theorem token_f {b:Nat} {l:Tks} {rd dn:Bool} (K:Tkf H l tp tc) (hq:q.i<l.length) (s:St H w0 (.box b [.slice tp l.length tc,iN q.i,ro,rv,.bool rd,.bool dn,.bool bd,iN q.off,iN q.er] 102::bs) W) :
 Calls prg 98 #[.pointer (some ⟨b,0,none⟩)] W λe W'=>∃ _:Unit,(True)/\e=.returned (.agg (cTk .u8 (tkf l q.i)).toArray)/\St H w0 (.box b [.slice tp l.length tc,iN q.i,ro,rv,.bool rd,.bool dn,.bool bd,iN q.off,iN q.er] 102::bs) W':=by
 have hcap:=K.rep.cap;obtain ⟨bE,oE,cE,hpE,rE,lE,mE⟩:=K.rep.elem (map_at (f:=dTk .u8) hq);cases hpE;rw [tkf_at hq] at rE;obtain ⟨rfl,_⟩:=tk_open rE;refine enterS func98 rfl ntmps98 rfl s ?_;refine .sr<|.al Fx.zero108 Z λb2=>.nt<|.sq<|.fL 10 [(0,0),(1,0),(2,0),(3,0),(4,0),(5,0),(6,0),(7,0),(8,0),(9,0)]<|.mv Z<|.nC Z<|.fA Z Fx.field102_0<|.lD Z Fx.agg99 mem1 Z<|.mv Z<|.nC Z<|.fA Z Fx.field102_1<|.lD Z Fx.agg3 mem1 Z<|.yw (.indexSl Fx.sl99 Z Z Z (by omega) (q:=oE+q.i * 3) Z)<|.yw (.loadMW Z Fx.agg108 mE Z)<|.fn (tl:=[_]) Z<|.sW .head Z Z Fx.size108 (by simp [cTk,Value.oneCell',strV]) Z<|.nt<|.rt<|?_
 refine y8 Z (.cell Z Fx.agg108 Hm rfl) λW s=>?_;exact ⟨(),Jt,Z,s.p2_1 [1] rfl⟩
theorem fail_f {b:Nat} {l:Tks} {rd dn:Bool} (K:Tkf H l tp tc) (hq:q.i<l.length) (c:Nat) (s:St H w0 (.box b [.slice tp l.length tc,iN q.i,ro,rv,.bool rd,.bool dn,.bool bd,iN q.off,iN q.er] 102::bs) W) :
 Calls prg 104 #[.pointer (some ⟨b,0,none⟩),iN c] W λe W'=>∃ _:Unit,(True)/\e=.returned (.tuple #[])/\St H w0 (.box b [.slice tp l.length tc,iN ((q.fail l c).i),ro,rv,.bool rd,.bool dn,.bool bd,iN ((q.fail l c).off),iN ((q.fail l c).er)] 102::bs) W':=by
 refine enterS func104 rfl ntmps104 rfl s ?_;refine .sm Z<|.nC Z<|.fA Z Fx.field102_8<|.lD Z Fx.agg29 Hm Z<|.yw (.eql Z Z)<|.nt<|.ce Z (λh8=>?_) (λh8=>?_)
 ·have h0:q.er=0:=by omega
  have e1:q.fail l c=⟨q.i,(tkf l q.i).o,c⟩:=by unfold Rq.fail;rw [Al_if_pos h0]
  rw [e1];refine .rg<|.mv Z<|.mv Z<|.mv Z<|.mv Z<|.cs (X:=Unit) Fx.call98 Z (λW s=>token_f K hq  (s.p1_1 [0] Z)) Z λ_ _=>.yw (.fld Z (fld_f2 _ _ _))<|.nC Z<|.fA Z Fx.field102_8<|.st .head Z Z Fx.size29 Z (nb Z) Z<|.nC Z<|.fA Z Fx.field102_7<|.st .head Z Z Fx.size3 Z (nb Z) Z<|.nl<|?_
  refine retN (.inr Z) rfl .nil rfl λW s=>⟨(),Jt,Z,?_⟩;exact s.p1_1 [0] rfl
 have h0:¬ q.er=0:=by omega
 have e1:q.fail l c=q:=by unfold Rq.fail;rw [Al_if_neg h0]
 rw [e1];refine .sk<|?_
 refine retN (.inr Z) rfl .nil rfl λW s=>⟨(),Jt,Z,?_⟩;exact s.p1_1 [0] rfl
theorem is_f {b:Nat} {l:Tks} {rd dn:Bool} (K:Tkf H l tp tc) (hq:q.i<l.length) (w:Str) (s:St H w0 (.box b [.slice tp l.length tc,iN q.i,ro,rv,.bool rd,.bool dn,.bool bd,iN q.off,iN q.er] 102::bs) W) :
 Calls prg 100 #[.pointer (some ⟨b,0,none⟩),strV w] W λe W'=>∃ _:Unit,(True)/\e=.returned (.bool (q.is l w))/\St H w0 (.box b [.slice tp l.length tc,iN q.i,ro,rv,.bool rd,.bool dn,.bool bd,iN q.off,iN q.er] 102::bs) W':=by
 refine enterS func100 rfl ntmps100 rfl s ?_;refine .sr<|.a Z Z<|.ns<|.mv Z<|.cs (X:=Unit) Fx.call98 Z (λW s=>token_f K hq  (s.p1_1 [0] Z)) Z λ_ _=>.al Fx.zero108 Z λb5=>.sW .head Z Z Fx.size108 (by simp [cTk,Value.oneCell',strV]) Z<|.ns<|.fA Z Fx.field108_0<|.lD Z Fx.agg106 Hm Z<|.yw (.eql Z Z)<|.mv Z<|.b2 (λh11=>?_) (λh11=>?_)
 ·refine .gG<|.gG<|.gG<|.yw (.pickT Z Z)<|.mv Z<|.gy (.fieldAddr Z Fx.field108_1)<|.gy (.load Z Fx.agg9 Hm Z)<|.gy (.move Z)<|.gy (.eqS Z Z)<|.yw (.pickT Z Z)<|.az Z<|?_
  refine y9 Z Z λW s=>?_
  first
   | (exact ⟨(),Jt,(by unfold Rq.is;rw [<-k82,<-k84,h11,h16];first | rfl | (rw [Al_Bool_true_and]) | (rw [Bool.or_true,Al_Bool_true_and])),s.p2_1 [1] rfl⟩)
   | (exact ⟨(),Jt,(by unfold Rq.is;rw [<-k82,<-k84,h11];first | rfl | (rw [Al_Bool_true_and]) | (rw [Bool.or_true,Al_Bool_true_and])),s.p2_1 [1] rfl⟩)
   | (exact ⟨(),Jt,(by unfold Rq.is;rw [<-k82,<-k84,h16];first | rfl | (rw [Al_Bool_true_and]) | (rw [Bool.or_true,Al_Bool_true_and])),s.p2_1 [1] rfl⟩)
 refine .gy (.fieldAddr Z Fx.field108_0)<|.gy (.load Z Fx.agg106 Hm Z)<|.gy (.eql Z Z)<|.yw (.pickF Z Z)<|.mv Z<|.b2 (λh16=>?_) (λh16=>?_)
 ·refine .gy (.fieldAddr Z Fx.field108_1)<|.gy (.load Z Fx.agg9 Hm Z)<|.gy (.move Z)<|.gy (.eqS Z Z)<|.yw (.pickT Z Z)<|.az Z<|?_
  refine y9 Z Z λW s=>?_
  first
   | (exact ⟨(),Jt,(by unfold Rq.is;rw [<-k82,<-k84,h11,h16];first | rfl | (rw [Al_Bool_true_and]) | (rw [Bool.or_true,Al_Bool_true_and])),s.p2_1 [1] rfl⟩)
   | (exact ⟨(),Jt,(by unfold Rq.is;rw [<-k82,<-k84,h11];first | rfl | (rw [Al_Bool_true_and]) | (rw [Bool.or_true,Al_Bool_true_and])),s.p2_1 [1] rfl⟩)
   | (exact ⟨(),Jt,(by unfold Rq.is;rw [<-k82,<-k84,h16];first | rfl | (rw [Al_Bool_true_and]) | (rw [Bool.or_true,Al_Bool_true_and])),s.p2_1 [1] rfl⟩)
 refine .gG<|.gG<|.gG<|.gG<|.yw (.pickF Z Z)<|.az Z<|?_
 refine y9 Z Z λW s=>?_
 first
  | (exact ⟨(),Jt,(by unfold Rq.is;rw [<-k82,<-k84,h11,h16];first | rfl | (rw [Al_Bool_true_and]) | (rw [Bool.or_true,Al_Bool_true_and])),s.p2_1 [1] rfl⟩)
  | (exact ⟨(),Jt,(by unfold Rq.is;rw [<-k82,<-k84,h11];first | rfl | (rw [Al_Bool_true_and]) | (rw [Bool.or_true,Al_Bool_true_and])),s.p2_1 [1] rfl⟩)
  | (exact ⟨(),Jt,(by unfold Rq.is;rw [<-k82,<-k84,h16];first | rfl | (rw [Al_Bool_true_and]) | (rw [Bool.or_true,Al_Bool_true_and])),s.p2_1 [1] rfl⟩)
theorem accept_f {b:Nat} {l:Tks} {rd dn:Bool} (K:Tkf H l tp tc) (hq:q.i<l.length) (w:Str) (s:St H w0 (.box b [.slice tp l.length tc,iN q.i,ro,rv,.bool rd,.bool dn,.bool bd,iN q.off,iN q.er] 102::bs) W) :
 Calls prg 107 #[.pointer (some ⟨b,0,none⟩),strV w] W λe W'=>∃ _:Unit,(True)/\e=.returned (.bool (q.ac l w))/\St H w0 (.box b [.slice tp l.length tc,iN ((q.acS l w).i),ro,rv,.bool rd,.bool dn,.bool bd,iN ((q.acS l w).off),iN ((q.acS l w).er)] 102::bs) W':=by
 have hcap:=K.rep.cap;refine enterS func107 rfl ntmps107 rfl s ?_;refine .sr<|.aq Z<|.sq<|.sm Z<|.nC Z<|.fA Z Fx.field102_8<|.lD Z Fx.agg29 Hm Z<|.yw (.neq Z Z)<|.mv Z<|.b2 (λh10=>?_) (λh10=>?_)
 ·have h0:¬ q.er=0:=by have:=Al_of_decide_eq_true h10;omega
  have e3:q.ac l w=false:=acF_bad h0;have e1:q.acS l w=q:=by unfold Rq.acS;rw [Al_if_neg (by rw [e3];decide)]
  rw [e1];refine .gG<|.gG<|.gG<|.gG<|.yw (.pickT Z Z)<|.nt<|.cT Z<|.sr<|.az Z<|.tR<|?_
  refine y9 Z Z λW s=>?_;exact ⟨(),Jt,(by rw [e3]),s.p1_1 [0] rfl⟩
 have h0:q.er=0:=by have:=Al_of_decide_eq_false h10;omega
 have ea:q.ac l w=q.is l w:=(is_ac0 h0).symm;refine .gy (.move Z)<|.gy (.move Z)<|.gd Z Z<|.cs (X:=Unit) Fx.call100 Z (λW s=>is_f K hq w (s.p1_1 [0] Z)) Z λ_ _=>.gy (.not Z)<|.yw (.pickF Z Z)<|.nt<|.cd Z (λh15=>?_) (λh15=>?_)
 ·have e3:q.ac l w=false:=by rw [ea];simpa using h15
  have e1:q.acS l w=q:=by unfold Rq.acS;rw [Al_if_neg (by rw [e3];decide)]
  rw [e1];refine .sr<|.az Z<|.tR<|?_
  refine y9 Z Z λW s=>?_;exact ⟨(),Jt,(by rw [e3]),s.p1_1 [0] rfl⟩
 have e3:q.ac l w=true:=by rw [ea];simpa using h15
 have e1:q.acS l w=q.nx:=by unfold Rq.acS;rw [Al_if_pos e3]
 rw [e1];have hi:=wi_ac K.gd.last hq e3;have hi2:q.nx.i=q.i+1:=rfl;refine .sk<|.tN<|.sm Z<|.nC Z<|.fA Z Fx.field102_1<|.lD Z Fx.agg3 Hm Z<|.yw (.add Z Z (c:=((q.nx.i:Nat):Int)) ((w6 (by omega)).trans (by show _=((q.i+1:Nat):Int);omega)))<|.nC Z<|.fA Z Fx.field102_1<|.st .head Z Z Fx.size3 Z (nb Z) Z<|.ns<|.az Z<|?_
 refine y9 Z Z λW s=>?_;exact ⟨(),Jt,(by rw [e3]),s.p1_1 [0] rfl⟩
variable {w:Str}
theorem acF_T {l:Tks} (h:q.ac l w=true):q.acS l w=q.nx:=by unfold Rq.acS;rw [Al_if_pos h]
theorem acF_F {l:Tks} (h:q.ac l w=false):q.acS l w=q:=by unfold Rq.acS;rw [Al_if_neg (by rw [h];decide)]
theorem expect_f {b:Nat} {l:Tks} {rd dn:Bool} (K:Tkf H l tp tc) (hq:q.i<l.length) (w:Str) (s:St H w0 (.box b [.slice tp l.length tc,iN q.i,ro,rv,.bool rd,.bool dn,.bool bd,iN q.off,iN q.er] 102::bs) W) :
 Calls prg 114 #[.pointer (some ⟨b,0,none⟩),strV w] W λe W'=>∃ _:Unit,(True)/\e=.returned (.tuple #[])/\St H w0 (.box b [.slice tp l.length tc,iN ((q.exS l w).i),ro,rv,.bool rd,.bool dn,.bool bd,iN ((q.exS l w).off),iN ((q.exS l w).er)] 102::bs) W':=by
 refine enterS func114 rfl ntmps114 rfl s ?_;refine .sm Z<|.mv Z<|.cs (X:=Unit) Fx.call107 Z (λW s=>accept_f K hq w (s.p1_1 [0] Z)) Z λ_ _=>.yw (.not Z)<|.nt<|.cd Z (λh7=>?_) (λh7=>?_)
 ·have hb:q.ac l w=false:=by simpa using h7
  have e1:q.exS l w=q.fail l 8:=ex_no hb;rw [acF_F hb,e1];refine .rg<|.mv Z<|.cs (X:=Unit) Fx.call104 Z (λW s=>fail_f K hq 8 (s.p1_1 [0] Z)) Z λ_ _=>.nl<|?_
  refine retN (.inr Z) rfl .nil rfl λW s=>⟨(),Jt,Z,?_⟩;exact s.p1_1 [0] rfl
 have hb:q.ac l w=true:=by simpa using h7
 have e1:q.exS l w=q.nx:=ex_ac hb;rw [acF_T hb,e1];refine .sk<|?_
 refine retN (.inr Z) rfl .nil rfl λW s=>⟨(),Jt,Z,?_⟩;exact s.p1_1 [0] rfl
theorem name_f {b:Nat} {l:Tks} {rd dn:Bool} (K:Tkf H l tp tc) (hq:q.i<l.length) (s:St H w0 (.box b [.slice tp l.length tc,iN q.i,ro,rv,.bool rd,.bool dn,.bool bd,iN q.off,iN q.er] 102::bs) W) :
 Calls prg 113 #[.pointer (some ⟨b,0,none⟩)] W λe W'=>∃ _:Unit,(True)/\e=.returned (strV (q.nmV l))/\St H w0 (.box b [.slice tp l.length tc,iN ((q.nmS l).i),ro,rv,.bool rd,.bool dn,.bool bd,iN ((q.nmS l).off),iN ((q.nmS l).er)] 102::bs) W':=by
 have hcap:=K.rep.cap;refine enterS func113 rfl ntmps113 rfl s ?_;refine .sr<|.aq Z<|.sq<|.sm Z<|.nC Z<|.fA Z Fx.field102_8<|.lD Z Fx.agg29 Hm Z<|.yw (.neq Z Z)<|.mv Z<|.e2 (λh8=>?_) (λh8=>?_)
 ·have hbad:¬ q.nmK l=true:=λe=>by have:=(nmK_er e).1;omega
  have e1:q.nmS l=q.fail l 8:=by unfold Rq.nmS;rw [Al_if_neg hbad]
  have e2:q.nmV l=[]:=by unfold Rq.nmV;rw [Al_if_neg hbad]
  rw [e1,e2];refine .gG<|.gG<|.gG<|.gG<|.yw (.pickT Z Z)<|.nt<|.cT Z<|.sm Z<|.cs (X:=Unit) Fx.call104 Z (λW s=>fail_f K hq 8 (s.p1_1 [0] Z)) Z λ_ _=>.ns<|.az Z<|.tR<|?_
  refine y9 Z Z λW s=>?_;exact ⟨(),Jt,Z,s.p1_1 [0] rfl⟩
 have h0:q.er=0:=by omega
 refine .gy (.move Z)<|.gd Z Z<|.cs (X:=Unit) Fx.call98 Z (λW s=>token_f K hq  (s.p1_1 [0] Z)) Z λ_ _=>.gy (.fld Z (fld_f0 _ _ _))<|.gy (.neq Z Z)<|.yw (.pickF Z Z)<|.nt<|.ce Z (λh13=>?_) (λh13=>?_)
 ·have hbad:¬ q.nmK l=true:=λe=>by have:=(nmK_er e).2;simp [this] at h13
  have e1:q.nmS l=q.fail l 8:=by unfold Rq.nmS;rw [Al_if_neg hbad]
  have e2:q.nmV l=[]:=by unfold Rq.nmV;rw [Al_if_neg hbad]
  rw [e1,e2];refine .sm Z<|.cs (X:=Unit) Fx.call104 Z (λW s=>fail_f K hq 8 (s.p1_1 [0] Z)) Z λ_ _=>.ns<|.az Z<|.tR<|?_
  refine y9 Z Z λW s=>?_;exact ⟨(),Jt,Z,s.p1_1 [0] rfl⟩
 have hk:(tkf l q.i).k=1:=Al_UInt8_toNat_inj.1 (by show (tkf l q.i).k.toNat=1;omega);have hok:q.nmK l=true:=by unfold Rq.nmK;rw [Al_decide_eq_true h0,Al_decide_eq_true hk];rfl
 have e1:q.nmS l=q.nx:=by unfold Rq.nmS;rw [Al_if_pos hok]
 have e2:q.nmV l=(tkf l q.i).t:=by unfold Rq.nmV;rw [Al_if_pos hok]
 rw [e1,e2];have hi:=wi_nmK K.gd.last hq hok;have hi2:q.nx.i=q.i+1:=rfl;obtain ⟨bE,oE,cE,hpE,rE,lE,mE⟩:=K.rep.elem (map_at (f:=dTk .u8) hq);cases hpE;rw [tkf_at hq] at rE;obtain ⟨rfl,_⟩:=tk_open rE;refine .sk<|.tN<|.sm Z<|.nC Z<|.fA Z Fx.field102_1<|.lD Z Fx.agg3 Hm Z<|.yw (.add Z Z (c:=((q.nx.i:Nat):Int)) ((w6 (by omega)).trans (by show _=((q.i+1:Nat):Int);omega)))<|.nC Z<|.fA Z Fx.field102_1<|.st .head Z Z Fx.size3 Z (nb Z) Z<|.nt<|.sq<|.fL 12 [(0,0),(1,0),(2,0),(3,0),(4,0),(5,0),(6,0),(7,0),(8,0),(9,0),(10,0),(11,0)]<|.mv Z<|.nC Z<|.fA Z Fx.field102_0<|.lD Z Fx.agg99 Hm Z<|.mv Z<|.nC Z<|.fA Z Fx.field102_1<|.lD Z Fx.agg3 Hm Z<|.yw (.sub Z Z (c:=((q.i:Nat):Int)) ((w6 (by omega)).trans (by omega)))<|.yw (.indexSl Fx.sl99 Z Z Z (by omega) (q:=oE+q.i * 3) Z)<|.fA Z Fx.field108_1<|.yw (.loadM Z Fx.agg9 mE (k:=1) Z Z)<|.fn (tl:=[_]) Z<|.az Z<|?_
 refine y9 Z Z λW s=>?_;exact ⟨(),Jt,Z,s.p1_1 [0] rfl⟩
abbrev Pz (α:Type):=List Tk->Rs α
section
variable {α β:Type}
def gPure (a:α):Pz α:=λr=>.ok a r
def gBind (p:Pz α) (f:α->Pz β):Pz β:=λr=>(p r).bind f
def gNd (w:Str):Pz Unit:=λr=>if isT w r then .ok () r.tail else .er r 8
def gNm:Pz Str:=λr=>match r with | []=>.er r 8 | t::q=>if t.k=1 then .ok t.t q else .er r 8
def gNu:Pz Int64:=λr=>match r with | []=>.er r 8 | t::q=>if t.k=3 then (if numV t.t<=9223372036854775807 then .ok (Int64.ofNat (numV t.t)) q else .er r 2) else .er r 8
def gAlt (w:Str) (p q:Pz α):Pz α:=λr=>if isT w r then p r.tail else q r
def gManyF (w:Str) (p:Pz α):Nat->Pz (List α)
 | 0=>λr=>.er r 99
 | f+1=>gAlt w (gBind p λa=>gBind (gManyF w p f) λl=>gPure (a::l)) (gPure [])
def gMany (w:Str) (p:Pz α):Pz (List α):=λr=>gManyF w p (r.length+1) r
end
def gEx:Pz Ex:=pX 0
def gBlk (b:Pz (List Sm)):Pz (List Sm):=gBind (gNd [123]) λ_=>gBind b λl=>gBind (gNd [125]) λ_=>gPure l
def gEls (b:Pz (List Sm)):Pz (List Sm):=gAlt [101,108,115,101] (gBlk b) (gPure [])
def gOth (b:Pz (List Sm)):Pz (List Sm):=gAlt [101,108,115,101] (gBlk b) (gBind (gNd [59]) λ_=>gPure [])
def gList {α:Type} (p:Pz α):Pz (List α):=gBind (gNd [40]) λ_=>gAlt [41] (gPure []) (gBind p λa=>gBind (gMany [44] p) λl=>gBind (gNd [41]) λ_=>gPure (a::l))
def gSt (b:Pz (List Sm)):Pz Sm :=
 gAlt [105,102] (gBind gEx λe=>gBind (gBlk b) λt=>gBind (gEls b) λl=>gPure (.mk 4 [] [] [e] t l))<|gAlt [119,104,105,108,101] (gBind gEx λe=>gBind (gBlk b) λt=>gPure (.mk 5 [] [] [e] t []))<|gAlt [115,116,111,114,101] (gBind gEx λe=>gBind (gNd [61]) λ_=>gBind gEx λe2=>gBind (gOth b) λl=>gPure (.mk 8 [] [] [e,e2] [] l))<|gAlt [102,101,116,99,104] (gBind gNm λn=>gBind (gNd [61]) λ_=>gBind gEx λe=>gBind (gOth b) λl=>gPure (.mk 9 n [] [e] [] l))<|gAlt [115,101,110,100] (gBind gNm λn=>gBind (gNd [46]) λ_=>gBind gNm λh=>gBind (gList gEx) λl=>gBind (gNd [59]) λ_=>gPure (.mk 6 n h l [] []))<|gAlt [97,102,116,101,114] (gBind gEx λe=>gBind (gNd [100,111]) λ_=>gBind gNm λh=>gBind (gList gEx) λl=>gBind (gNd [59]) λ_=>gPure (.mk 7 [] h (e::l) [] []))<|gAlt [115,116,111,112] (gBind (gNd [59]) λ_=>gPure (.mk 10 [] [] [] [] []))<|gAlt [100,101,108,101,116,101] (gBind gNm λn=>gBind (gNd [91]) λ_=>gBind gEx λe=>gBind (gNd [93]) λ_=>gBind (gNd [59]) λ_=>gPure (.mk 3 n [] [e] [] []))<|gBind gNm λn=>gAlt [91] (gBind gEx λe=>gBind (gNd [93]) λ_=>gBind (gNd [61]) λ_=>gBind gEx λe2=>gBind (gNd [59]) λ_=>gPure (.mk 2 n [] [e,e2] [] []))
  (gBind (gNd [61]) λ_=>gBind gEx λe=>gBind (gNd [59]) λ_=>gPure (.mk 1 n [] [e] [] []))
def gBF:Nat->Pz (List Sm)
 | 0=>λr=>.er r 99
 | f+1=>λr=>if isT [125] r then .ok [] r else (gSt (gBF f) r).bind λs r1=>(gBF f r1).bind λl r2=>.ok (s::l) r2
def gB:Pz (List Sm):=λr=>gBF (r.length+1) r
def gInt:Pz Int64:=gAlt [45] (gBind gNu λv=>gPure (-v)) gNu
def gHd:Pz Hd:=gBind gNm λn=>gBind (gList gNm) λl=>gBind (gBlk gB) λb=>gPure ⟨n,l,b⟩
/-! ### Rules that consume -/
section
variable {α β:Type}
def Shr (p:Pz α):Prop:=∀ r a r',p r=.ok a r'->r'.length<=r.length
def Shs (p:Pz α):Prop:=∀ r a r',p r=.ok a r'->r'.length<r.length
theorem Shs.le {p:Pz α} (h:Shs p):Shr p:=λr a r' e=>Al_Nat_le_of_lt (h r a r' e)
theorem Shr.pure (a:α):Shr (gPure a):=λr a r' e=>by injection e with _ e;subst e;exact Al_Nat_le_refl _
theorem Shr.bind {p:Pz α} {f:α->Pz β} (h:Shr p) (k:∀ a,Shr (f a)):Shr (gBind p f):=λr b r' e=>by
 obtain ⟨a,q,h1,h2⟩:=Rs.bind_ok e;have:=h _ _ _ h1;have:=k _ _ _ _ h2;omega
theorem Shs.bind {p:Pz α} {f:α->Pz β} (h:Shs p) (k:∀ a,Shr (f a)):Shs (gBind p f):=λr b r' e=>by
 obtain ⟨a,q,h1,h2⟩:=Rs.bind_ok e;have:=h _ _ _ h1;have:=k _ _ _ _ h2;omega
theorem Shs.nd (w:Str):Shs (gNd w):=λr a r' e=>by
 unfold gNd at e
 split at e
 ·rename_i h;injection e with _ e;subst e;have:=isT_ne h;omega
 ·cases e
theorem Shs.nm:Shs gNm:=λr a r' e=>by
 unfold gNm at e
 split at e
 ·cases e
 ·split at e
  ·injection e with _ e;subst e;simp
  ·cases e
theorem Shs.nu:Shs gNu:=λr a r' e=>by
 unfold gNu at e
 split at e
 ·cases e
 ·split at e
  ·split at e
   ·injection e with _ e;subst e;simp
   ·cases e
  ·cases e
theorem Shs.ex:Shs gEx:=λr a r' e=>(pE_len _).1 _ _ _ _ e
theorem Shr.alt {w:Str} {p q:Pz α} (h:Shr p) (k:Shr q):Shr (gAlt w p q):=λr a r' e=>by
 unfold gAlt at e
 split at e
 ·rename_i h2;have:=isT_ne h2;have:=h _ _ _ e;omega
 ·exact k _ _ _ e
theorem Shs.alt {w:Str} {p q:Pz α} (h:Shr p) (k:Shs q):Shs (gAlt w p q):=λr a r' e=>by
 unfold gAlt at e
 split at e
 ·rename_i h2;have:=isT_ne h2;have:=h _ _ _ e;omega
 ·exact k _ _ _ e
theorem Shr.many {w:Str} {p:Pz α} (h:Shr p):Shr (gMany w p):=by
 have key:∀ f,Shr (gManyF w p f):=λf=>by
  induction f with
  | zero=>intro r a r' e;cases e
  | succ f ih=>exact .alt (.bind h λa=>.bind ih λl=>.pure _) (.pure _)
 exact λr a r' e=>key _ _ _ _ e
theorem gManyF_more {w:Str} {p:Pz α} (h:Shr p):∀ (f g:Nat) (r:List Tk),r.length<f->r.length<g->gManyF w p f r=gManyF w p g r
 | 0,_,_,k,_=>by omega
 | _,0,_,_,k=>by omega
 | f+1,g+1,r,k1,k2=>by
  unfold gManyF gAlt
  split
  ·rename_i e;have:=isT_ne e;refine Rs.bind_congr rfl λa q e2=>?_;have:=h _ _ _ e2;exact Rs.bind_congr (gManyF_more h f g q (by omega) (by omega)) λ_ _ _=>rfl
  ·rfl
theorem gMany_eq {w:Str} {p:Pz α} (h:Shr p):gMany w p=gAlt w (gBind p λa=>gBind (gMany w p) λl=>gPure (a::l)) (gPure []):=funext λr=>by
 unfold gMany
 conv=>lhs;unfold gManyF
 unfold gAlt
 split
 ·rename_i e;have:=isT_ne e;refine Rs.bind_congr rfl λa q e2=>?_;have:=h _ _ _ e2;exact Rs.bind_congr (gManyF_more h _ _ q (by omega) (by omega)) λ_ _ _=>rfl
 ·rfl
theorem Shs.list {p:Pz α} (h:Shr p):Shs (gList p):=.bind (.nd _) λ_=>.alt (.pure _) (.bind h λ_=>.bind (.many h) λ_=>.bind (Shs.nd _).le λ_=>.pure _)
/-! ### Rules that agree on short lists of tokens -/
def Agz (n:Nat) (p q:Pz α):Prop:=∀ r,r.length<=n->p r=q r
theorem Agz.rfl' {n:Nat} {p:Pz α}:Agz n p p:=λ_ _=>rfl
theorem Agz.bind {n:Nat} {p q:Pz α} {f g:α->Pz β} (hp:Shr p) (h:Agz n p q) (k:∀ a,Agz n (f a) (g a)):Agz n (gBind p f) (gBind q g):=λr hr =>
 Rs.bind_congr (h r hr) λa r' e=>k a r' (Al_Nat_le_trans (hp _ _ _ e) hr)
theorem Agz.alt {n:Nat} {w:Str} {p q p' q':Pz α} (h:Agz (n - 1) p p') (k:Agz n q q'):Agz n (gAlt w p q) (gAlt w p' q'):=λr hr=>by
 unfold gAlt
 split
 ·rename_i e;have:=isT_ne e;exact h _ (by omega)
 ·exact k r hr
theorem Agz.altr {n:Nat} {w:Str} {p q p' q':Pz α} (h:Agz n p p') (k:Agz n q q'):Agz n (gAlt w p q) (gAlt w p' q'):=.alt (λr hr=>h r (by omega)) k
end
theorem Shs.blk {b:Pz (List Sm)} (h:Shr b):Shs (gBlk b):=.bind (.nd _) λ_=>.bind h λ_=>.bind (Shs.nd _).le λ_=>.pure _
theorem Shr.els {b:Pz (List Sm)} (h:Shr b):Shr (gEls b):=.alt (Shs.blk h).le (.pure _)
theorem Shr.oth {b:Pz (List Sm)} (h:Shr b):Shr (gOth b):=.alt (Shs.blk h).le (.bind (Shs.nd _).le λ_=>.pure _)
theorem Shs.st {b:Pz (List Sm)} (h:Shr b):Shs (gSt b) :=
 .alt (.bind Shs.ex.le λ_=>.bind (Shs.blk h).le λ_=>.bind (.els h) λ_=>.pure _)<|.alt (.bind Shs.ex.le λ_=>.bind (Shs.blk h).le λ_=>.pure _)<|.alt (.bind Shs.ex.le λ_=>.bind (Shs.nd _).le λ_=>.bind Shs.ex.le λ_=>.bind (.oth h) λ_=>.pure _)<|.alt (.bind Shs.nm.le λ_=>.bind (Shs.nd _).le λ_=>.bind Shs.ex.le λ_=>.bind (.oth h) λ_=>.pure _)<|.alt (.bind Shs.nm.le λ_=>.bind (Shs.nd _).le λ_=>.bind Shs.nm.le λ_=>.bind (Shs.list Shs.ex.le).le λ_=>.bind (Shs.nd _).le λ_=>.pure _)<|.alt (.bind Shs.ex.le λ_=>.bind (Shs.nd _).le λ_=>.bind Shs.nm.le λ_=>.bind (Shs.list Shs.ex.le).le λ_=>.bind (Shs.nd _).le λ_=>.pure _)<|.alt (.bind (Shs.nd _).le λ_=>.pure _)<|.alt (.bind Shs.nm.le λ_=>.bind (Shs.nd _).le λ_=>.bind Shs.ex.le λ_=>.bind (Shs.nd _).le λ_=>.bind (Shs.nd _).le λ_=>.pure _)<|.bind .nm λ_=>.alt (.bind Shs.ex.le λ_=>.bind (Shs.nd _).le λ_=>.bind (Shs.nd _).le λ_=>.bind Shs.ex.le λ_=>.bind (Shs.nd _).le λ_=>.pure _) (.bind (Shs.nd _).le λ_=>.bind Shs.ex.le λ_=>.bind (Shs.nd _).le λ_=>.pure _)
theorem Agz.blk {b c:Pz (List Sm)} (h:Agz n b c) (hb:Shr b):Agz n (gBlk b) (gBlk c):=.bind (Shs.nd _).le .rfl' λ_=>.bind hb h λ_=>.rfl'
theorem Agz.els {b c:Pz (List Sm)} (h:Agz n b c) (hb:Shr b):Agz n (gEls b) (gEls c):=.altr (.blk h hb) .rfl'
theorem Agz.oth {b c:Pz (List Sm)} (h:Agz n b c) (hb:Shr b):Agz n (gOth b) (gOth c):=.altr (.blk h hb) .rfl'
theorem Agz.st {b c:Pz (List Sm)} (h:Agz (n - 1) b c) (hb:Shr b):Agz n (gSt b) (gSt c) :=
 .alt (.bind Shs.ex.le .rfl' λ_=>.bind (Shs.blk hb).le (.blk h hb) λ_=>.bind (.els hb) (.els h hb) λ_=>.rfl')<|.alt (.bind Shs.ex.le .rfl' λ_=>.bind (Shs.blk hb).le (.blk h hb) λ_=>.rfl')<|.alt (.bind Shs.ex.le .rfl' λ_=>.bind (Shs.nd _).le .rfl' λ_=>.bind Shs.ex.le .rfl' λ_=>.bind (.oth hb) (.oth h hb) λ_=>.rfl')<|.alt (.bind Shs.nm.le .rfl' λ_=>.bind (Shs.nd _).le .rfl' λ_=>.bind Shs.ex.le .rfl' λ_=>.bind (.oth hb) (.oth h hb) λ_=>.rfl') .rfl'
theorem gBF_shr:∀ f,Shr (gBF f)
 | 0=>λ_ _ _ e=>by cases e
 | f+1=>λr a r' e=>by
  unfold gBF at e
  split at e
  ·injection e with _ e;subst e;exact Al_Nat_le_refl _
  ·obtain ⟨s,q,h1,h2⟩:=Rs.bind_ok e;obtain ⟨l,q2,h3,h4⟩:=Rs.bind_ok h2;injection h4 with _ h4;subst h4
   have:=(Shs.st (gBF_shr f)) _ _ _ h1;have:=gBF_shr f _ _ _ h3;omega
theorem Shr.b:Shr gB:=λ_ _ _ e=>gBF_shr _ _ _ _ e
theorem gBF_more:∀ (f g:Nat) (r:List Tk),r.length<f->r.length<g->gBF f r=gBF g r
 | 0,_,_,k,_=>by omega
 | _,0,_,_,k=>by omega
 | f+1,g+1,[],_,_=>rfl
 | f+1,g+1,t::r,k1,k2=>by
  unfold gBF;simp only [Al_List_length_cons] at k1 k2;refine ifC rfl (Rs.bind_congr (Agz.st (n:=(t::r).length) (λq hq=>?_) (gBF_shr f) _ (Al_Nat_le_refl _)) λs q e=>?_)
  ·simp only [Al_List_length_cons] at hq;exact gBF_more f g q (by omega) (by omega)
  ·have:=(Shs.st (gBF_shr f)) _ _ _ e;simp only [Al_List_length_cons] at this;exact Rs.bind_congr (gBF_more f g q (by omega) (by omega)) λ_ _ _=>rfl
theorem gB_eq (r:List Tk):gB r=if isT [125] r then .ok [] r else (gSt gB r).bind λs r1=>(gB r1).bind λl r2=>.ok (s::l) r2:=by
 match r with
 | []=>rfl
 | t::r =>
  conv=>lhs;unfold gB;unfold gBF
  refine ifC rfl (Rs.bind_congr (Agz.st (n:=(t::r).length) (λq hq=>?_) (gBF_shr _) _ (Al_Nat_le_refl _)) λs q e=>?_)
  ·simp only [Al_List_length_cons] at hq;exact gBF_more _ _ q (by simp only [Al_List_length_cons];omega) (by omega)
  ·have:=(Shs.st (gBF_shr _)) _ _ _ e;exact Rs.bind_congr (gBF_more _ _ q (by omega) (by omega)) λ_ _ _=>rfl
def hdO (r:List Tk):Option Kt:=r.head?.map kt
def hdC (k:List Kt) (o:Option Kt):Option Kt:=match k with | []=>o | x::_=>some x
theorem hdO_app {l r:List Tk} {k:List Kt} (h:l.map kt=k):hdO (l++r)=hdC k (hdO r):=by
 subst h;cases l <;> rfl
def anyO (_:Option Kt):Prop:=True
def notW (w:Str):Option Kt->Prop
 | none=>True
 | some x=>isK w x=false
def stpO:Option Kt->Prop
 | none=>True
 | some x=>(∀ i∈List.range 5,opK i x=none)/\isK [91] x=false
theorem isT_hdO (w:Str) (r:List Tk):isT w r=match hdO r with | none=>false | some x=>isK w x:=by cases r <;> rfl
theorem notW_isT {r:List Tk} (h:notW w (hdO r)):isT w r=false:=by
 rw [isT_hdO];cases e:hdO r with
 | none=>rfl
 | some x=>rw [e] at h;exact h
section
variable {α β:Type}
def Rdc (p:Pz α) (ks:List Kt) (v:α) (C:Option Kt->Prop):Prop:=∀ le r,le.map kt=ks->C (hdO r)->p (le++r)=.ok v r
variable {k k1 k2:List Kt} {v a:α} {C C1 C2:Option Kt->Prop} {w:Str} {x:Kt}
theorem Rdc.pure:Rdc (gPure v) [] v C:=λle r e _=>by
 obtain rfl:=Al_List_map_eq_nil_iff.1 e;rfl
theorem Rdc.seq {p:Pz α} {f:α->Pz β} {b:β} (h1:Rdc p k1 a C1) (hc:∀ o,C2 o->C1 (hdC k2 o)) (h2:Rdc (f a) k2 b C2):Rdc (gBind p f) (k1++k2) b C2:=λle r e c=>by
 obtain ⟨l1,l2,rfl,e1,e2⟩:=Al_List_map_eq_append_iff.1 e;unfold gBind;rw [Al_List_append_assoc,h1 l1 (l2++r) e1 (by rw [hdO_app e2];exact hc _ c)];exact h2 l2 r e2 c
theorem Rdc.nd {f:Unit->Pz β} {b:β} (hx:isK w x=true) (h:Rdc (f ()) k b C):Rdc (gBind (gNd w) f) (x::k) b C:=λle r e c=>by
 obtain ⟨t,l,rfl,ht,hl⟩:=Al_List_map_eq_cons_iff.1 e;unfold gBind gNd;rw [Al_List_cons_append,isT_cons,ht,hx];exact h l r hl c
theorem Rdc.nm {f:Str->Pz β} {b:β} (h:Rdc (f w) k b C):Rdc (gBind gNm f) ((1,w)::k) b C:=λle r e c=>by
 obtain ⟨t,l,rfl,ht,hl⟩:=Al_List_map_eq_cons_iff.1 e;have h1:t.k=1:=congrArg Prod.fst ht;have h2:t.t=w:=congrArg Prod.snd ht;unfold gBind gNm;rw [Al_List_cons_append];simp only [h1,h2,Al_if_true];exact h l r hl c
theorem Rdc.nm1:Rdc gNm [(1,w)] w C:=λle r e c=>by
 obtain ⟨t,l,rfl,ht,hl⟩:=Al_List_map_eq_cons_iff.1 e;obtain rfl:=Al_List_map_eq_nil_iff.1 hl;have h1:t.k=1:=congrArg Prod.fst ht;have h2:t.t=w:=congrArg Prod.snd ht;unfold gNm;rw [Al_List_cons_append];simp only [h1,h2,Al_if_true]
 rfl
theorem Rdc.nu {u:Nat} (h:u<=9223372036854775807):Rdc gNu [(3,Lib.decDigits u)] (Int64.ofNat u) C:=λle r e c=>by
 obtain ⟨t,l,rfl,ht,hl⟩:=Al_List_map_eq_cons_iff.1 e;obtain rfl:=Al_List_map_eq_nil_iff.1 hl;have h1:t.k=3:=congrArg Prod.fst ht;have h2:t.t=Lib.decDigits u:=congrArg Prod.snd ht;unfold gNu;rw [Al_List_cons_append];simp only [h1,h2,Al_if_true,numV_digits,h]
 rfl
theorem Rdc.altT {p q:Pz α} (hx:isK w x=true) (h:Rdc p k v C):Rdc (gAlt w p q) (x::k) v C:=λle r e c=>by
 obtain ⟨t,l,rfl,ht,hl⟩:=Al_List_map_eq_cons_iff.1 e;unfold gAlt;rw [Al_List_cons_append,isT_cons,ht,hx];exact h l r hl c
theorem Rdc.altF {p q:Pz α} (hx:isK w x=false) (h:Rdc q (x::k) v C):Rdc (gAlt w p q) (x::k) v C:=λle r e c=>by
 have h2:=h le r e c;obtain ⟨t,l,rfl,ht,hl⟩:=Al_List_map_eq_cons_iff.1 e;unfold gAlt;rw [Al_List_cons_append,isT_cons,ht,hx];exact h2
theorem Rdc.altE {p q:Pz α} (hc:∀ o,C o->notW w o) (h:Rdc q [] v C):Rdc (gAlt w p q) [] v C:=λle r e c=>by
 have h2:=h le r e c;obtain rfl:=Al_List_map_eq_nil_iff.1 e;unfold gAlt;rw [Al_List_nil_append,notW_isT (hc _ c),Al_if_neg (by decide)];exact h2
theorem Rdc.many {p:Pz α} (hp:Shr p) (hx:isK w x=true) {g:α->List Kt} {Cp:Option Kt->Prop} (h1:Cp (some x)) (hc:∀ o,C o->Cp o/\notW w o):∀ l:List α,(∀ a∈l,Rdc p (g a) a Cp)->Rdc (gMany w p) ((l.map λa=>x::g a).flatten) l C
 | [],_=>by
  rw [gMany_eq hp];exact .altE (λo c=>(hc o c).2) .pure
 | a::l,h=>by
  have ih:=Rdc.many hp hx h1 hc l λb hb=>h b (Al_List_mem_cons_of_mem _ hb);rw [gMany_eq hp];simp only [Al_List_map_cons,Al_List_flatten_cons,Al_List_cons_append];refine .altT hx (.seq (h a (Al_List_mem_cons_self ..)) (λo c=>?_) ?_)
  ·cases l with
   | nil=>exact (hc o c).1
   | cons b l=>exact h1
  ·have:=Rdc.seq (f:=λl=>gPure (a::l)) (k2:=[]) ih (λo c=>c) .pure
   rwa [Al_List_append_nil] at this
def comK (l:List (List Kt)):List Kt:=(l.map λk=>(4,[44])::k).flatten
def sepK:List (List Kt)->List Kt
 | []=>[]
 | k::l=>k++comK l
def lstK (l:List (List Kt)):List Kt:=(4,[40])::(sepK l++[(4,[41])])
theorem Rdc.list {p:Pz α} (hp:Shr p) {g:α->List Kt} {Cp:Option Kt->Prop} (h1:Cp (some (4,[44]))) (h2:Cp (some (4,[41]))) {l:List α} (h:∀ a∈l,Rdc p (g a) a Cp) (hg:∀ a∈l,∃ x k,g a=x::k/\isK [41] x=false):Rdc (gList p) (lstK (l.map g)) l C:=by
 refine .nd Z ?_;cases l with
 | nil=>exact .altT rfl .pure
 | cons a l =>
  obtain ⟨x,k,e,hk⟩:=hg a (Al_List_mem_cons_self ..);have ha:=h a (Al_List_mem_cons_self ..)
  have hm:Rdc (gMany [44] p) (comK (l.map g)) l (λo=>o=some (4,[41])):=by
   have:=Rdc.many (C:=λo=>o=some (4,[41])) hp (w:=[44]) (x:=(4,[44])) rfl (g:=g) h1 (λo c=>by subst c;exact ⟨h2,Z⟩) l λb hb=>h b (Al_List_mem_cons_of_mem _ hb);unfold comK
   rwa [Al_List_map_map]
  have key:Rdc (gBind p λa=>gBind (gMany [44] p) λl=>gBind (gNd [41]) λ_=>gPure (a::l)) (g a++(comK (l.map g)++[(4,[41])])) (a::l) C:=by
   refine .seq ha (λo c=>?_) (.seq hm (λo c=>rfl) (.nd Z .pure));cases l with
   | nil=>exact h2
   | cons b l=>exact h1
  simp only [Al_List_map_cons,sepK,Al_List_append_assoc];rw [e] at key|-;exact .altF hk key
end
def stK (kd:UInt8) (nm hd:Str) (es:List (List Kt)) (T:List Kt) (noE:Bool) (E:List Kt):List Kt :=
 if kd=1 then (1,nm)::(4,[61])::(es.getD 0 []++[(4,[59])])
 else if kd=2 then (1,nm)::(4,[91])::(es.getD 0 []++(4,[93])::(4,[61])::(es.getD 1 []++[(4,[59])]))
 else if kd=3 then (2,[100,101,108,101,116,101])::(1,nm)::(4,[91])::(es.getD 0 []++[(4,[93]),(4,[59])])
 else if kd=4 then (2,[105,102])::(es.getD 0 []++((4,[123])::(T++[(4,[125])])++if noE then [] else (2,[101,108,115,101])::(4,[123])::(E++[(4,[125])])))
 else if kd=5 then (2,[119,104,105,108,101])::(es.getD 0 []++(4,[123])::(T++[(4,[125])]))
 else if kd=6 then (2,[115,101,110,100])::(1,nm)::(4,[46])::(1,hd)::(lstK es++[(4,[59])])
 else if kd=7 then (2,[97,102,116,101,114])::(es.getD 0 []++(2,[100,111])::(1,hd)::(lstK (es.drop 1)++[(4,[59])]))
 else if kd=8 then (2,[115,116,111,114,101])::(es.getD 0 []++(4,[61])::(es.getD 1 []++if noE then [(4,[59])] else (2,[101,108,115,101])::(4,[123])::(E++[(4,[125])])))
 else if kd=9 then (2,[102,101,116,99,104])::(1,nm)::(4,[61])::(es.getD 0 []++if noE then [(4,[59])] else (2,[101,108,115,101])::(4,[123])::(E++[(4,[125])]))
 else [(2,[115,116,111,112]),(4,[59])]
mutual
def ktS:Sm->List Kt
 | .mk kd nm hd ex th el=>stK kd nm hd (ex.map ktE) (ktSs th) (decide (el.length=0)) (ktSs el)
def ktSs:List Sm->List Kt
 | []=>[]
 | s::r=>ktS s++ktSs r
end
theorem ktS_mk (kd:UInt8) (nm hd:Str) (ex:List Ex) (th el:List Sm):ktS (.mk kd nm hd ex th el)=stK kd nm hd (ex.map ktE) (ktSs th) (decide (el.length=0)) (ktSs el):=by rw [ktS]
theorem Rdc.ex {e:Ex} (h:Ex.all frmE e=true):Rdc gEx (ktE e) e stpO:=λle r hk c=>by
 obtain ⟨h1,h2⟩:=rd_all e h;refine h1.full hk (by omega) h2 ⟨λi _ h4=>?_,?_⟩
 ·cases r with
  | nil=>unfold opAt isT;simp
  | cons t r=>exact c.1 i (Al_List_mem_range.2 (by omega))
 ·cases r with
  | nil=>rfl
  | cons t r=>exact c.2
theorem ktE_hd (e:Ex):Ex.all frmE e=true->∃ x k,ktE e=x::k/\isK [41] x=false:=by
 induction e using Ex.ind with
 | _ op nm n args ih =>
  intro h;rw [all_mk,Al_Bool_and_eq_true] at h;obtain ⟨hf,hr⟩:=h;have ha:∀ a∈args,∃ x k,ktE a=x::k/\isK [41] x=false:=λa m=>ih a m (alls_mem m hr);simp only [frmE,Al_Bool_and_eq_true,Al_Bool_or_eq_true,Al_decide_eq_true_eq] at hf;obtain ⟨⟨⟨hop,hl⟩,_⟩,_⟩:=hf
  by_cases h1:op=1
  ·subst h1;exact ⟨_,_,Z,by simp [isK]⟩
  by_cases hb:op∈([11,12,13,14,15,16,17,18,19,20,21,22,23]:List UInt8)
  ·obtain ⟨b1,_⟩:=bin_facts op hb;obtain ⟨a,b,rfl⟩:=args2 (l:=args) (by omega);rw [ktE_bin hb];unfold parK
   split
   ·exact ⟨_,_,Z,Z⟩
   ·obtain ⟨x,k,e,hx⟩:=ha a (by simp);rw [e];exact ⟨_,_,Z,hx⟩
  have hs:op=2\/op=3\/op=4\/op=5\/op=6\/op=7\/op=8\/op=9\/op=10:=((ok_split hop).resolve_left h1).resolve_left hb;rcases hs with rfl | rfl | rfl | rfl | rfl | rfl | rfl | rfl | rfl
  all_goals first | exact ⟨_,_,Z,Z⟩ | exact ⟨_,_,Z,by decide⟩
theorem Rdc.exs {C:Option Kt->Prop} {l:List Ex} (h:∀ a∈l,Ex.all frmE a=true):Rdc (gList gEx) (lstK (l.map ktE)) l C :=
 .list Shs.ex.le ⟨by decide,by decide⟩ ⟨by decide,by decide⟩ (λa ha=>.ex (h a ha)) λa ha=>ktE_hd a (h a ha)
def endB (o:Option Kt):Prop:=o=some (4,[125])
theorem Rdc.blk {C:Option Kt->Prop} {l:List Sm} (h:Rdc gB (ktSs l) l endB):Rdc (gBlk gB) ((4,[123])::(ktSs l++[(4,[125])])) l C :=
 .nd rfl (.seq h (λ_ _=>rfl) (.nd rfl .pure))
theorem okKd_cases {kd:UInt8} (h:okKd kd=true):kd=1\/kd=2\/kd=3\/kd=4\/kd=5\/kd=6\/kd=7\/kd=8\/kd=9\/kd=10:=by
 simp only [okKd,Al_Bool_and_eq_true,Al_decide_eq_true_eq] at h;have key:∀ i∈List.range 11,1<=i->(UInt8.ofNat i=1\/UInt8.ofNat i=2\/UInt8.ofNat i=3\/UInt8.ofNat i=4\/UInt8.ofNat i=5\/UInt8.ofNat i=6\/UInt8.ofNat i=7\/UInt8.ofNat i=8\/UInt8.ofNat i=9\/UInt8.ofNat i=10):=by decide
 have:=key kd.toNat (Al_List_mem_range.2 (by omega)) h.1
 rwa [Al_UInt8_ofNat_toNat] at this
theorem exs1 {l:List Ex} (h:l.length=1) (hf:Ex.alls frmE l=true):∃ a,l=[a]/\Ex.all frmE a=true:=by
 obtain ⟨a,rfl⟩:=args1 h;exact ⟨a,Z,alls_mem (by simp) hf⟩
theorem exs2 {l:List Ex} (h:l.length=2) (hf:Ex.alls frmE l=true):∃ a b,l=[a,b]/\Ex.all frmE a=true/\Ex.all frmE b=true:=by
 obtain ⟨a,b,rfl⟩:=args2 h;exact ⟨a,b,Z,alls_mem (by simp) hf,alls_mem (by simp) hf⟩
inductive FmS:Sm->Prop where
 | k1 {nm:Str} {a:Ex} (ha:Ex.all frmE a=true):FmS (.mk 1 nm [] [a] [] [])
 | k2 {nm:Str} {a b:Ex} (ha:Ex.all frmE a=true) (hb:Ex.all frmE b=true):FmS (.mk 2 nm [] [a,b] [] [])
 | k3 {nm:Str} {a:Ex} (ha:Ex.all frmE a=true):FmS (.mk 3 nm [] [a] [] [])
 | k4 {a:Ex} {th el:List Sm} (ha:Ex.all frmE a=true):FmS (.mk 4 [] [] [a] th el)
 | k5 {a:Ex} {th:List Sm} (ha:Ex.all frmE a=true):FmS (.mk 5 [] [] [a] th [])
 | k6 {nm hd:Str} {l:List Ex} (hl:∀ a∈l,Ex.all frmE a=true):FmS (.mk 6 nm hd l [] [])
 | k7 {hd:Str} {a:Ex} {l:List Ex} (ha:Ex.all frmE a=true) (hl:∀ a∈l,Ex.all frmE a=true):FmS (.mk 7 [] hd (a::l) [] [])
 | k8 {a b:Ex} {el:List Sm} (ha:Ex.all frmE a=true) (hb:Ex.all frmE b=true):FmS (.mk 8 [] [] [a,b] [] el)
 | k9 {nm:Str} {a:Ex} {el:List Sm} (ha:Ex.all frmE a=true):FmS (.mk 9 nm [] [a] [] el)
 | k10:FmS (.mk 10 [] [] [] [] [])
theorem frmS_form {s:Sm} (h:frmS s=true):FmS s:=by
 obtain ⟨kd,nm,hd,ex,th,el⟩:=s;simp only [frmS,Al_Bool_and_eq_true,Al_Bool_or_eq_true,Al_decide_eq_true_eq] at h;obtain ⟨⟨⟨⟨⟨⟨⟨hk,h1⟩,h2⟩,h3⟩,h4⟩,h5⟩,h6⟩,h7⟩:=h;have z:∀ {l:List Sm},l.length=0->l=[]:=Al_List_eq_nil_of_length_eq_zero;rcases okKd_cases hk with rfl | rfl | rfl | rfl | rfl | rfl | rfl | rfl | rfl | rfl
 ·obtain rfl:=h4.resolve_left (by decide);obtain rfl:=z (h5.resolve_left (by decide));obtain rfl:=z (h6.resolve_left (by decide));obtain ⟨a,rfl,ha⟩:=exs1 (Al_Nat_le_antisymm h2 h1) h7;exact .k1 ha
 ·obtain rfl:=h4.resolve_left (by decide);obtain rfl:=z (h5.resolve_left (by decide));obtain rfl:=z (h6.resolve_left (by decide));obtain ⟨a,b,rfl,ha,hb⟩:=exs2 (Al_Nat_le_antisymm h2 h1) h7;exact .k2 ha hb
 ·obtain rfl:=h4.resolve_left (by decide);obtain rfl:=z (h5.resolve_left (by decide));obtain rfl:=z (h6.resolve_left (by decide));obtain ⟨a,rfl,ha⟩:=exs1 (Al_Nat_le_antisymm h2 h1) h7;exact .k3 ha
 ·obtain rfl:=h3.resolve_left (by decide);obtain rfl:=h4.resolve_left (by decide);obtain ⟨a,rfl,ha⟩:=exs1 (Al_Nat_le_antisymm h2 h1) h7;exact .k4 ha
 ·obtain rfl:=h3.resolve_left (by decide);obtain rfl:=h4.resolve_left (by decide);obtain rfl:=z (h6.resolve_left (by decide));obtain ⟨a,rfl,ha⟩:=exs1 (Al_Nat_le_antisymm h2 h1) h7;exact .k5 ha
 ·obtain rfl:=z (h5.resolve_left (by decide));obtain rfl:=z (h6.resolve_left (by decide));exact .k6 λa ha=>alls_mem ha h7
 ·obtain rfl:=h3.resolve_left (by decide);obtain rfl:=z (h5.resolve_left (by decide));obtain rfl:=z (h6.resolve_left (by decide));cases ex with
  | nil=>exact absurd h1 (by decide)
  | cons a l=>exact .k7 (alls_mem (by simp) h7) λb hb=>alls_mem (by simp [hb]) h7
 ·obtain rfl:=h3.resolve_left (by decide);obtain rfl:=h4.resolve_left (by decide);obtain rfl:=z (h5.resolve_left (by decide));obtain ⟨a,b,rfl,ha,hb⟩:=exs2 (Al_Nat_le_antisymm h2 h1) h7;exact .k8 ha hb
 ·obtain rfl:=h4.resolve_left (by decide);obtain rfl:=z (h5.resolve_left (by decide));obtain ⟨a,rfl,ha⟩:=exs1 (Al_Nat_le_antisymm h2 h1) h7;exact .k9 ha
 ·obtain rfl:=h3.resolve_left (by decide);obtain rfl:=h4.resolve_left (by decide);obtain rfl:=z (h5.resolve_left (by decide));obtain rfl:=z (h6.resolve_left (by decide));obtain rfl:=args0 (Nat.le_zero.1 h2);exact .k10
theorem ktS_hd {s:Sm} (h:FmS s):∃ x k,ktS s=x::k/\isK [125] x=false/\isK [101,108,115,101] x=false:=by
 cases h <;> rw [ktS_mk] <;> exact ⟨_,_,Z,Z,Z⟩
def RdS (s:Sm):Prop:=Rdc (gSt gB) (ktS s) s (notW [101,108,115,101])
theorem stp_ {x:Kt} (h1:(List.range 5).all (λi=>(opK i x).isNone)=true) (h2:isK [91] x=false):stpO (some x):=⟨λi hi=>by simpa using Al_List_all_eq_true.1 h1 i hi,h2⟩
theorem Rdc.oth {C:Option Kt->Prop} {el:List Sm} (h:Rdc gB (ktSs el) el endB):Rdc (gOth gB) (if decide (el.length=0)=true then [(4,[59])] else (2,[101,108,115,101])::(4,[123])::(ktSs el++[(4,[125])])) el C:=by
 split
 ·rename_i e;obtain rfl:=Al_List_eq_nil_of_length_eq_zero (Al_of_decide_eq_true e);exact .altF Z (.nd Z .pure)
 ·exact .altT Z (.blk h)
theorem oth_stp (el:List Sm) (o:Option Kt):stpO (hdC (if decide (el.length=0)=true then [(4,[59])] else (2,[101,108,115,101])::(4,[123])::(ktSs el++[(4,[125])])) o):=by
 split <;> exact stp_ rfl rfl
theorem Rdc.st {s:Sm} (h:FmS s) (ht:∀ nm hd kd ex th el,s=.mk kd nm hd ex th el->Rdc gB (ktSs th) th endB/\Rdc gB (ktSs el) el endB):RdS s:=by
 unfold RdS;cases h with
 | k1 ha=>exact .altF rfl<|.altF rfl<|.altF rfl<|.altF rfl<|.altF rfl<|.altF rfl<|.altF rfl<|.altF rfl<|.nm<|.altF rfl<|.nd rfl<|.seq (.ex ha) (λ_ _=>stp_ rfl rfl)<|.nd rfl .pure
 | k2 ha hb=>exact .altF rfl<|.altF rfl<|.altF rfl<|.altF rfl<|.altF rfl<|.altF rfl<|.altF rfl<|.altF rfl<|.nm<|.altT rfl<|.seq (.ex ha) (λ_ _=>stp_ rfl rfl)<|.nd rfl<|.nd rfl<|.seq (.ex hb) (λ_ _=>stp_ rfl rfl)<|.nd rfl .pure
 | k3 ha=>exact .altF rfl<|.altF rfl<|.altF rfl<|.altF rfl<|.altF rfl<|.altF rfl<|.altF rfl<|.altT rfl<|.nm<|.nd rfl<|.seq (.ex ha) (λ_ _=>stp_ rfl rfl)<|.nd rfl<|.nd rfl .pure
 | @k4 a th el ha =>
  obtain ⟨h1,h2⟩:=ht _ _ _ _ _ _ rfl;refine .altT Z<|.seq (.ex ha) (λ_ _=>stp_ Z Z)<|.seq (C1:=anyO) (.blk h1) (λ_ _=>trivial) ?_
  split
  ·rename_i e;obtain rfl:=Al_List_eq_nil_of_length_eq_zero (Al_of_decide_eq_true e);exact Rdc.seq (k1:=[]) (k2:=[]) (C1:=notW [101,108,115,101]) (.altE (λo c=>c) .pure) (λo c=>c) .pure
  ·have:=Rdc.seq (C2:=notW [101,108,115,101]) (f:=λl=>gPure (Sm.mk 4 [] [] [a] th l)) (k2:=[]) (C1:=anyO) (.altT (w:=[101,108,115,101]) (q:=gPure []) (x:=(2,[101,108,115,101])) rfl (.blk h2)) (λo c=>trivial) .pure
   rwa [Al_List_append_nil] at this
 | @k5 a th ha =>
  obtain ⟨h1,_⟩:=ht _ _ _ _ _ _ rfl;have:=Rdc.seq (C2:=notW [101,108,115,101]) (f:=λt=>gPure (Sm.mk 5 [] [] [a] t [])) (k2:=[]) (C1:=anyO) (.blk h1) (λo c=>trivial) .pure;rw [Al_List_append_nil] at this;exact .altF Z<|.altT Z<|.seq (.ex ha) (λ_ _=>stp_ Z Z) this
 | k6 hl=>exact .altF rfl<|.altF rfl<|.altF rfl<|.altF rfl<|.altT rfl<|.nm<|.nd rfl<|.nm<|.seq (C1:=anyO) (.exs hl) (λ_ _=>trivial)<|.nd rfl .pure
 | k7 ha hl=>exact .altF rfl<|.altF rfl<|.altF rfl<|.altF rfl<|.altF rfl<|.altT rfl<|.seq (.ex ha) (λ_ _=>stp_ rfl rfl)<|.nd rfl<|.nm<|.seq (C1:=anyO) (.exs hl) (λ_ _=>trivial)<|.nd rfl .pure
 | @k8 a b el ha hb =>
  obtain ⟨_,h2⟩:=ht _ _ _ _ _ _ rfl;have:=Rdc.seq (C2:=notW [101,108,115,101]) (f:=λl=>gPure (Sm.mk 8 [] [] [a,b] [] l)) (k2:=[]) (C1:=anyO) (.oth h2) (λo c=>trivial) .pure;rw [Al_List_append_nil] at this;exact .altF Z<|.altF Z<|.altT Z<|.seq (.ex ha) (λ_ _=>stp_ Z Z)<|.nd Z<|.seq (.ex hb) (λo _=>oth_stp el o) this
 | @k9 nm a el ha =>
  obtain ⟨_,h2⟩:=ht _ _ _ _ _ _ rfl;have:=Rdc.seq (C2:=notW [101,108,115,101]) (f:=λl=>gPure (Sm.mk 9 nm [] [a] [] l)) (k2:=[]) (C1:=anyO) (.oth h2) (λo c=>trivial) .pure;rw [Al_List_append_nil] at this;exact .altF Z<|.altF Z<|.altF Z<|.altT Z<|.nm<|.nd Z<|.seq (.ex ha) (λo _=>oth_stp el o) this
 | k10=>exact .altF rfl<|.altF rfl<|.altF rfl<|.altF rfl<|.altF rfl<|.altF rfl<|.altT rfl<|.nd rfl .pure
theorem Rdc.b:∀ (l:List Sm),(∀ s∈l,FmS s/\RdS s)->Rdc gB (ktSs l) l endB
 | [],_=>λle r e c=>by
  obtain rfl:=Al_List_map_eq_nil_iff.1 (by rw [ktSs] at e;exact e);rw [gB_eq,Al_List_nil_append,isT_hdO];have c:hdO r=some (4,[125]):=c;rw [c]
  rfl
 | s::l,h=>λle r e c=>by
  rw [ktSs] at e;obtain ⟨l1,l2,rfl,e1,e2⟩:=Al_List_map_eq_append_iff.1 e;obtain ⟨hf,hs⟩:=h s (Al_List_mem_cons_self ..);obtain ⟨x,k,hx,hx1,_⟩:=ktS_hd hf;have ih:=Rdc.b l (λa ha=>h a (Al_List_mem_cons_of_mem _ ha)) l2 r e2 c
  have h2:=hs l1 (l2++r) e1 (by
   rw [hdO_app e2];cases l with
   | nil=>rw [show hdC (ktSs []) (hdO r)=hdO r from rfl,show hdO r=some (4,[125]) from c];rfl
   | cons b l =>
    obtain ⟨y,k2,hy,_,hy2⟩:=ktS_hd (h b (by simp)).1;rw [ktSs,hy];exact hy2)
  rw [gB_eq,Al_List_append_assoc,isT_hdO,hdO_app e1,hx];show (if isK [125] x=true then _ else _)=_;rw [hx1,Al_if_neg (by decide),h2];show (gB (l2++r)).bind _=_;rw [ih]
  rfl
theorem salls_mem {q:Sm->Bool}:∀ {l:List Sm} {a:Sm},a∈l->Sm.alls q l=true->Sm.all q a=true
 | b::l,a,h,k=>by
  rw [Sm.alls,Al_Bool_and_eq_true] at k;rcases Al_List_mem_cons.1 h with rfl | h
  ·exact k.1
  ·exact salls_mem h k.2
theorem rdS_all (s:Sm):Sm.all frmS s=true->FmS s/\RdS s:=by
 induction s using Sm.ind with
 | _ kd nm hd ex th el ih1 ih2 =>
  intro h;rw [sall_mk,Al_Bool_and_eq_true,Al_Bool_and_eq_true] at h;obtain ⟨⟨h1,h2⟩,h3⟩:=h;have hf:=frmS_form h1
  exact ⟨hf,.st hf λnm' hd' kd' ex' th' el' e=>by
   injection e with _ _ _ _ e1 e2
   subst e1 e2;exact ⟨.b _ λs hs=>ih1 s hs (salls_mem hs h2),.b _ λs hs=>ih2 s hs (salls_mem hs h3)⟩⟩
theorem Rdc.body {l:List Sm} (h:Sm.alls frmS l=true):Rdc gB (ktSs l) l endB:=.b l λs hs=>rdS_all s (salls_mem hs h)
/-! ### Fleets -/
def intK (n:Int64):List Kt:=if n.toInt<0 then [(4,[45]),(3,Lib.decDigits (-n.toInt).toNat)] else [(3,Lib.decDigits n.toInt.toNat)]
def hdK (h:Hd):List Kt:=(1,h.nm)::(lstK (h.ps.map λp=>[(1,p)])++(4,[123])::(ktSs h.body++[(4,[125])]))
section
variable {C:Option Kt->Prop}
theorem i64_nat {n:Int64} (h:0<=n.toInt):n.toInt.toNat<=9223372036854775807/\Int64.ofNat n.toInt.toNat=n:=by
 have hlt:=n.toInt_lt;refine ⟨by omega,Al_Int64_toInt_inj.1 ?_⟩;rw [Al_Int64_toInt_ofNat_of_lt (by omega)];omega
theorem Rdc.int {n:Int64} (h:n.toInt≠-9223372036854775808):Rdc gInt (intK n) n C:=by
 unfold intK
 split
 ·rename_i hn;have hlt:=n.le_toInt;have h1:(-n.toInt).toNat<=9223372036854775807:=by omega
  have e:-Int64.ofNat (-n.toInt).toNat=n:=by
   apply Al_Int64_toInt_inj.1;rw [Int64.toInt_neg,Al_Int64_toInt_ofNat_of_lt (by omega)];rw [Int.toNat_of_nonneg (by omega),Int.neg_neg];exact Int.bmod_eq_of_le (by omega) (by have:=n.toInt_lt;omega)
  have:=Rdc.seq (C1:=anyO) (C2:=C) (f:=λv=>gPure (-v)) (k2:=[]) (.nu h1) (λ_ _=>trivial) .pure;rw [e] at this;exact .altT Z this
 ·obtain ⟨h1,h2⟩:=i64_nat (n:=n) (by omega);have h3:=Rdc.nu (C:=C) h1;rw [h2] at h3;exact .altF (by simp [isK]) h3
theorem Rdc.hd {h:Hd} (hf:frmH h=true):Rdc gHd (hdK h) h C:=by
 have h1:Rdc (gList gNm) (lstK (h.ps.map λp=>[(1,p)])) h.ps anyO:=.list Shs.nm.le (Cp:=anyO) trivial trivial (λa _=>.nm1) λa _=>⟨_,_,Z,by simp [isK]⟩;have h2:=Rdc.seq (C1:=anyO) (C2:=C) (f:=λb=>gPure (Hd.mk h.nm h.ps b)) (k2:=[]) (.blk (.body hf)) (λ_ _=>trivial) .pure;rw [Al_List_append_nil] at h2;exact .nm<|.seq h1 (λ_ _=>trivial) h2
theorem Shs.hd:Shs gHd:=.bind .nm λ_=>.bind (Shs.list Shs.nm.le).le λ_=>.bind (Shs.blk Shr.b).le λ_=>.pure _
theorem Shs.int:Shs gInt:=.alt (.bind Shs.nu.le λ_=>.pure _) .nu
end
variable {r:Str}
theorem Lx.nl {k:List Kt} (h:Lx r k):Lx (10::r) k:=.blk (by decide) h
theorem Lx.spT {r:Str} {k:List Kt}:∀ (n:Nat),Lx r k->Lx (spT n++r) k
 | 0,h=>h
 | n+1,h=>by
  rw [Go.Proofs.YtidclioghdbphaaGreatDoor.spT,Al_List_append_assoc];exact Lx.spT n (.sp (.sp h))
theorem Lx.line {parts:List Str} {k:List Kt} (h:Lx (parts.flatten++10::r) k):Lx (lineT n parts++r) k:=by
 unfold lineT;rw [Al_List_append_assoc,Al_List_append_assoc];exact .spT n h
theorem tok_name2 (hw:nameB w=true) (hr:∀ d,r.head? = some d->insB d=false):Tok (1,w) r:=by
 obtain ⟨h1,h2,h3,h4,h5⟩:=nameB_facts hw
 match w,h1 with
 | c::t,h1 =>
  have hlb:=let_blk c h2;have hp:pre insB ((c::t)++r)=(c::t).length:=pre_app h3 hr;refine ⟨h1,?_,skipS_stop hlb.1 (λe=>hlb.2.1 e.1),(show (1:UInt8)≠5 by decide),(by show (c::t).length<=1000000;omega)⟩;show readK ((c::t)++r)=(1,(c::t).length);unfold readK;simp only;rw [show ((c::t)++r).headD 0=c from rfl,show letB c=true from h2,Al_if_pos rfl,hp,Al_List_take_left,h4,Al_if_neg (by decide),Al_if_pos h5]
theorem Lx.nm2 {k:List Kt} (hw:nameB w=true) (hr:∀ d,r.head? = some d->insB d=false) (h:Lx r k):Lx (w++r) ((1,w)::k):=.tok (x:=(1,w)) (tok_name2 hw hr) h
def LxI (t:Str) (k:List Kt):Prop:=∀ r ks,sepB r->Lx r ks->Lx (t++r) (k++ks)/\hdB (t++r)
theorem LxI.one {t:Str} {k ks:List Kt} (h:LxI t k) (hr:sepB r) (l:Lx r ks):Lx (t++r) (k++ks):=(h r ks hr l).1
theorem LxI.nm (h:nameB w=true):LxI w [(1,w)]:=λr ks hr l=>⟨.nm h hr l,name_hd h⟩
theorem LxI.ex {e:Ex} (h:Ex.all frmE e=true) (hq:Ex.all namE e=true):LxI e.text (ktE e):=lx_all e h hq
theorem lx_tail {α:Type} {tx:α->Str} {g:α->List Kt}:∀ (l:List α) (r:Str) (ks:List Kt),(∀ a∈l,LxI (tx a) (g a))->sepB r->Lx r ks->Lx (Lib.joinTail [44,32] (l.map tx)++r) (comK (l.map g)++ks)/\sepB (Lib.joinTail [44,32] (l.map tx)++r)
 | [],r,ks,_,hr,h=>⟨h,hr⟩
 | a::l,r,ks,hl,hr,h=>by
  obtain ⟨h1,h2⟩:=lx_tail l r ks (λb hb=>hl b (Al_List_mem_cons_of_mem _ hb)) hr h;have h3:=hl a (Al_List_mem_cons_self ..) _ _ h2 h1;unfold Lib.joinTail comK at *;simp only [Al_List_map_cons,Al_List_flatten_cons,Al_List_cons_append,Al_List_append_assoc,Al_List_nil_append];exact ⟨.sy (by decide) (hdB_cons (by decide)) (.sp h3.1),sepB_cons (by decide)⟩
theorem lx_list {α:Type} {tx:α->Str} {g:α->List Kt} {l:List α} (hl:∀ a∈l,LxI (tx a) (g a)) {ks:List Kt} (hr:hdB r) (h:Lx r ks):Lx (40::(joinT (l.map tx)++41::r)) (lstK (l.map g)++ks):=by
 have h0:Lx (41::r) ((4,[41])::ks):=.sy (by decide) hr h;unfold lstK joinT;cases l with
 | nil=>exact .sy (by decide) (hdB_cons (by decide)) h0
 | cons a l =>
  simp only [Al_List_map_cons,Lib.join_cons,sepK,Al_List_cons_append,Al_List_append_assoc,Al_List_nil_append];obtain ⟨h1,h2⟩:=lx_tail l (41::r) _ (λb hb=>hl b (Al_List_mem_cons_of_mem _ hb)) cl_sep h0;obtain ⟨h3,h4⟩:=hl a (Al_List_mem_cons_self ..) _ _ h2 h1;exact .sy (by decide) h4 h3
def LxS (s:Sm):Prop:=∀ n r ks,Lx r ks->Lx (Sm.text n s++r) (ktS s++ks)
def LxB (l:List Sm):Prop:=∀ n r ks,Lx r ks->Lx (Sm.texts n l++r) (ktSs l++ks)
theorem LxB.of:∀ {l:List Sm},(∀ s∈l,LxS s)->LxB l
 | [],_=>λn r ks h=>by rw [Sm.texts,ktSs];exact h
 | s::l,hs=>λn r ks h=>by
  rw [Sm.texts,ktSs,Al_List_append_assoc,Al_List_append_assoc];exact hs s (Al_List_mem_cons_self ..) n _ _ (LxB.of (λa ha=>hs a (Al_List_mem_cons_of_mem _ ha)) n r ks h)
theorem lx_kw {k:List Kt} (hw:w∈words) (h:Lx r k):Lx (w++32::r) ((2,w)::k):=.kw hw sp_sep (.sp h)
theorem lx_end {ks:List Kt} (h:Lx r ks):Lx (lineT n [[125]]++r) ((4,[125])::ks):=.line (.sy (by decide) (hdB_cons (by decide)) (.nl h))
theorem lx_oth {el:List Sm} (hb:LxB el) {first:Str} {k:List Kt} (hf:LxI first k) {ks:List Kt} (h:Lx r ks) :
 Lx (diskT n first (decide (el.length=0)) (Sm.texts (n+1) el)++r) (k++((if decide (el.length=0)=true then [(4,[59])] else (2,[101,108,115,101])::(4,[123])::(ktSs el++[(4,[125])]))++ks)):=by
 unfold diskT
 split
 ·refine .line ?_;simp only [Al_List_flatten_cons,Al_List_flatten_nil,Al_List_append_nil,Al_List_append_assoc,Al_List_cons_append,Al_List_nil_append];exact hf.one (sepB_cons (by decide)) (.sy (by decide) (hdB_cons (by decide)) (.nl h))
 ·simp only [Al_List_append_assoc];refine .line ?_;simp only [Al_List_flatten_cons,Al_List_flatten_nil,Al_List_append_nil,Al_List_append_assoc,Al_List_cons_append,Al_List_nil_append];exact hf.one sp_sep (.sp (lx_kw (w:=[101,108,115,101]) (by decide) (.sy (by decide) (hdB_cons (by decide)) (.nl (hb _ _ _ (lx_end h))))))
theorem LxI.app {t t2:Str} {k k2:List Kt} (h:LxI t k) (h2:∀ r ks,sepB r->Lx r ks->Lx (t2++r) (k2++ks)/\sepB (t2++r)):LxI (t++t2) (k++k2):=λr ks hr l=>by
 rw [Al_List_append_assoc,Al_List_append_assoc];obtain ⟨h3,h4⟩:=h2 r ks hr l;exact h _ _ h4 h3
theorem LxI.kw (hw:w∈words) {t:Str} {k:List Kt} (h:LxI t k):LxI (w++32::t) ((2,w)::k):=λr ks hr l=>by
 rw [Al_List_append_assoc];exact ⟨lx_kw hw (h r ks hr l).1,kw_hd hw⟩
theorem LxI.eq {t t2:Str} {k k2:List Kt} (h:LxI t k) (h2:LxI t2 k2):LxI (t++([32,32,61,32].drop 1++t2)) (k++(4,[61])::k2):=h.app λr ks hr l =>
 ⟨.sp (.sy (by decide) (hdB_cons (by decide)) (.sp (h2.one hr l))),sp_sep⟩
theorem lxS_of {s:Sm} (h:FmS s) (hn:namS s=true) (hb:∀ nm hd kd ex th el,s=.mk kd nm hd ex th el->LxB th/\LxB el):LxS s:=by
 intro n r ks hk;cases h with
 | @k1 nm a ha =>
  simp only [namS,Al_Bool_and_eq_true] at hn;have h1:nameB nm=true:=by simpa [formOf,okKd,forms] using hn.1.1
  have h2:=LxI.ex ha (alls_mem (Al_List_mem_cons_self ..) hn.2);refine .line ?_;rw [ktS_mk];simp [stK];exact .nm h1 sp_sep<|.sp<|.sy (by decide) (hdB_cons (by decide))<|.sp<|h2.one (sepB_cons (by decide))<|.sy (by decide) (hdB_cons (by decide)) (.nl hk)
 | @k2 nm a b ha hb2 =>
  simp only [namS,Al_Bool_and_eq_true] at hn;have h1:nameB nm=true:=by simpa [formOf,okKd,forms] using hn.1.1
  have h2:=LxI.ex ha (alls_mem (by simp) hn.2);have h3:=LxI.ex hb2 (alls_mem (by simp) hn.2);refine .line ?_;rw [ktS_mk];simp [stK];have h4:=h3.one (sepB_cons (by decide))<|Lx.sy (c:=59) (by decide) (hdB_cons (by decide)) (.nl hk)
  obtain ⟨h5,h6⟩:=h2 _ _ bk_sep<|Lx.sy (c:=93) (by decide) (hdB_cons (by decide))<|.sp<|.sy (c:=61) (by decide) (hdB_cons (by decide))<|.sp h4
  exact .nm h1 br_sep<|.sy (by decide) h6 h5
 | @k3 nm a ha =>
  simp only [namS,Al_Bool_and_eq_true] at hn;have h1:nameB nm=true:=by simpa [formOf,okKd,forms] using hn.1.1
  have h2:=LxI.ex ha (alls_mem (by simp) hn.2);refine .line ?_;rw [ktS_mk];simp [stK];obtain ⟨h5,h6⟩:=h2 _ _ bk_sep<|Lx.sy (c:=93) (by decide) (hdB_cons (by decide))<|.sy (c:=59) (by decide) (hdB_cons (by decide)) (.nl hk)
  exact lx_kw (w:=[100,101,108,101,116,101]) (by decide)<|.nm h1 br_sep<|.sy (by decide) h6 h5
 | @k4 a th el ha =>
  obtain ⟨b1,b2⟩:=hb _ _ _ _ _ _ rfl;simp only [namS,Al_Bool_and_eq_true] at hn;have h2:=LxI.ex ha (alls_mem (by simp) hn.2);rw [stext_mk,ktS_mk]
  by_cases he:el.length=0
  ·simp [stT,stK,he];refine .line ?_;simp;exact lx_kw (w:=[105,102]) (by decide)<|h2.one sp_sep<|.sp<|.sy (by decide) (hdB_cons (by decide))<|.nl<|b1 _ _ _<|lx_end hk
  ·have he2:¬ el=[]:=λe=>he (by rw [e];rfl);simp [stT,stK,he2];refine .line ?_;simp;exact lx_kw (w:=[105,102]) (by decide)<|h2.one sp_sep<|.sp<|.sy (by decide) (hdB_cons (by decide))<|.nl<|b1 _ _ _<|.line<|.sy (by decide) (hdB_cons (by decide))<|.sp<|lx_kw (w:=[101,108,115,101]) (by decide)<|.sy (by decide) (hdB_cons (by decide))<|.nl<|b2 _ _ _<|lx_end hk
 | @k5 a th ha =>
  obtain ⟨b1,b2⟩:=hb _ _ _ _ _ _ rfl;simp only [namS,Al_Bool_and_eq_true] at hn;have h2:=LxI.ex ha (alls_mem (by simp) hn.2);rw [stext_mk,ktS_mk];simp [stT,stK];refine .line ?_;simp;exact lx_kw (w:=[119,104,105,108,101]) (by decide)<|h2.one sp_sep<|.sp<|.sy (by decide) (hdB_cons (by decide))<|.nl<|b1 _ _ _<|lx_end hk
 | @k6 nm hd l hl =>
  simp only [namS,Al_Bool_and_eq_true] at hn;have h1:nameB nm=true:=by simpa [formOf,okKd,forms] using hn.1.1
  have h2:nameB hd=true:=by simpa [formOf,okKd,forms] using hn.1.2
  refine .line ?_;rw [ktS_mk];simp [stK];exact lx_kw (w:=[115,101,110,100]) (by decide)<|.nm2 h1 (λd e=>by cases e;rfl)<|.sy (by decide) (name_hd h2)<|.nm h2 (sepB_cons (by decide))<|lx_list (λa ha=>.ex (hl a ha) (alls_mem ha hn.2)) (hdB_cons (by decide))<|.sy (by decide) (hdB_cons (by decide)) (.nl hk)
 | @k7 hd a l ha hl =>
  simp only [namS,Al_Bool_and_eq_true] at hn;have h2:nameB hd=true:=by simpa [formOf,okKd,forms] using hn.1.2
  have h3:=LxI.ex ha (alls_mem (by simp) hn.2);refine .line ?_;rw [ktS_mk];simp [stK];exact lx_kw (w:=[97,102,116,101,114]) (by decide)<|h3.one sp_sep<|.sp<|lx_kw (w:=[100,111]) (by decide)<|.nm h2 (sepB_cons (by decide))<|lx_list (λb hb=>.ex (hl b hb) (alls_mem (by simp [hb]) hn.2)) (hdB_cons (by decide))<|.sy (by decide) (hdB_cons (by decide)) (.nl hk)
 | @k8 a b el ha hb2 =>
  obtain ⟨_,b2⟩:=hb _ _ _ _ _ _ rfl;simp only [namS,Al_Bool_and_eq_true] at hn;have h2:=LxI.ex ha (alls_mem (by simp) hn.2);have h3:=LxI.ex hb2 (alls_mem (by simp) hn.2);have h4:=lx_oth b2 (n:=n) (LxI.kw (w:=[115,116,111,114,101]) (by decide) (h2.eq h3)) hk;rw [stext_mk,ktS_mk];simp [stT,stK] at h4|-;exact h4
 | @k9 nm a el ha =>
  obtain ⟨_,b2⟩:=hb _ _ _ _ _ _ rfl;simp only [namS,Al_Bool_and_eq_true] at hn;have h1:nameB nm=true:=by simpa [formOf,okKd,forms] using hn.1.1
  have h2:=LxI.ex ha (alls_mem (by simp) hn.2);have h4:=lx_oth b2 (n:=n) (LxI.kw (w:=[102,101,116,99,104]) (by decide) ((LxI.nm h1).eq h2)) hk;rw [stext_mk,ktS_mk];simp [stT,stK] at h4|-;exact h4
 | k10 =>
  refine .line ?_;rw [ktS_mk];simp [stK];exact .kw (w:=[115,116,111,112]) (by decide) (sepB_cons (by decide))<|.sy (by decide) (hdB_cons (by decide)) (.nl hk)
theorem lxS_all (s:Sm):Sm.all frmS s=true->Sm.all namS s=true->LxS s:=by
 induction s using Sm.ind with
 | _ kd nm hd ex th el ih1 ih2 =>
  intro h k;rw [sall_mk,Al_Bool_and_eq_true,Al_Bool_and_eq_true] at h k;obtain ⟨⟨h1,h2⟩,h3⟩:=h;obtain ⟨⟨k1,k2⟩,k3⟩:=k;refine lxS_of (frmS_form h1) k1 λnm' hd' kd' ex' th' el' e=>?_;injection e with _ _ _ _ e1 e2
  subst e1 e2;exact ⟨.of λs hs=>ih1 s hs (salls_mem hs h2) (salls_mem hs k2),.of λs hs=>ih2 s hs (salls_mem hs h3) (salls_mem hs k3)⟩
theorem LxB.all {l:List Sm} (h:Sm.alls frmS l=true) (k:Sm.alls namS l=true):LxB l:=.of λs hs=>lxS_all s (salls_mem hs h) (salls_mem hs k)
/-! ### Fleets -/
structure Mk where
 ints:Nat
 tables:Nat
 flags:Nat
 own:Nat
 ars:List (List Nat)
 params:Nat
def arN (M:Mk) (c h:Nat):Nat:=(M.ars.getD c []).getD h 0
def arL (M:Mk) (c:Nat):Nat:=(M.ars.getD c []).length
def Mk.at (M:Mk) (k:Nat):Mk:={ M with params:=arN M M.own k }
section
variable {H:Hp}
end
structure Sp where
 wh:UInt8
 i:UInt8
 nm:UInt8
 n:Int64
 nodes:List Nd
def okE (e:Ex):Bool:=decide (e.depth<=64) && Ex.all narrow e
def okS2 (N:Nat):Sm->Bool
 | .mk _ _ _ ex _ _=>decide (ex.length<=N) && ex.all okE
structure okL (N:Nat) (l:List Sm):Prop where
 cnt:Sm.counts l<=N
 dep:Sm.deeps l<=N
 all:Sm.alls (okS2 N) l=true
mutual
theorem sall_imp {q q':Sm->Bool} (h:∀ s,q s=true->q' s=true):∀ s,Sm.all q s=true->Sm.all q' s=true
 | .mk kd nm hd ex th el,hh=>by
  rw [sall_mk] at hh|-;simp only [Al_Bool_and_eq_true] at hh|-;exact ⟨⟨h _ hh.1.1,salls_imp h th hh.1.2⟩,salls_imp h el hh.2⟩
theorem salls_imp {q q':Sm->Bool} (h:∀ s,q s=true->q' s=true):∀ l,Sm.alls q l=true->Sm.alls q' l=true
 | [],_=>rfl
 | s::r,hh=>by
  rw [Sm.alls,Al_Bool_and_eq_true] at hh|-;exact ⟨sall_imp h s hh.1,salls_imp h r hh.2⟩
end
variable {N M:Nat}
theorem okS2_mono (h:N<=M):∀ s,okS2 N s=true->okS2 M s=true
 | .mk _ _ _ ex _ _,hh=>by
  simp only [okS2,Al_Bool_and_eq_true,Al_decide_eq_true_eq] at hh|-;exact ⟨by omega,hh.2⟩
theorem okL.mono {l:List Sm} (h:okL N l) (k:N<=M):okL M l:=⟨by have:=h.cnt;omega,by have:=h.dep;omega,salls_imp (okS2_mono k) l h.all⟩
theorem okL.app {a b:List Sm} (h:okL N a) (k:okL M b):okL (N+M) (a++b):=by
 have h2:=h.mono (M:=N+M) (by omega);have k2:=k.mono (M:=N+M) (by omega);refine ⟨?_,?_,?_⟩
 ·rw [scounts_app];have:=h.cnt;have:=k.cnt;omega
 ·rw [sdeeps_app];have:=h2.dep;have:=k2.dep;omega
 ·rw [salls_app,h2.all,k2.all];rfl
theorem okL.len {l:List Sm} (h:okL N l):l.length<=N:=Al_Nat_le_trans (scounts_len l) h.cnt
theorem okL.left {a b:List Sm} (h:okL N (a++b)):okL N a:=by
 obtain ⟨h1,h2,h3⟩:=h;rw [scounts_app] at h1;rw [sdeeps_app] at h2;rw [salls_app,Al_Bool_and_eq_true] at h3;exact ⟨by omega,by omega,h3.1⟩
theorem okL.right {a b:List Sm} (h:okL N (a++b)):okL N b:=by
 obtain ⟨h1,h2,h3⟩:=h;rw [scounts_app] at h1;rw [sdeeps_app] at h2;rw [salls_app,Al_Bool_and_eq_true] at h3;exact ⟨by omega,by omega,h3.2⟩
variable {j:Nat}
theorem split_at {α:Type} {l:List α} (h:j<l.length):l=l.take j++([l[j]]++l.drop (j+1)):=by simp
theorem set_at {α:Type} {l:List α} (h:j<l.length) (s:α):l.set j s=l.take j++([s]++l.drop (j+1)):=by
 rw [List.set_eq_take_append_cons_drop,Al_if_pos h];rfl
theorem okL.at {l:List Sm} (h:okL N l) (hj:j<l.length):okL N [l[j]]:=by
 have h2:=h;rw [split_at hj] at h2;exact h2.right.left
theorem okL.put {l:List Sm} (h:okL N l) (hj:j<l.length) {s:Sm} (k:okL (N+M) [s]):okL (N+(N+M)) (l.set j s):=by
 have h2:=h;rw [split_at hj] at h2
 have h3:okL N (l.take j++l.drop (j+1)):=by
  obtain ⟨a1,a2,a3⟩:=h2;simp only [scounts_app,sdeeps_app,salls_app,Al_Bool_and_eq_true] at a1 a2 a3;refine ⟨?_,?_,?_⟩
  ·rw [scounts_app];omega
  ·rw [sdeeps_app];omega
  ·rw [salls_app,a3.1,a3.2.2];rfl
 rw [set_at hj];obtain ⟨a1,a2,a3⟩:=h3;obtain ⟨b1,b2,b3⟩:=k;rw [scounts_app] at a1;rw [sdeeps_app] at a2;rw [salls_app,Al_Bool_and_eq_true] at a3;have m1:=okS2_mono (N:=N) (M:=N+(N+M)) (by omega);have m2:=okS2_mono (N:=N+M) (M:=N+(N+M)) (by omega);refine ⟨?_,?_,?_⟩
 ·rw [scounts_app,scounts_app];omega
 ·rw [sdeeps_app,sdeeps_app];omega
 ·rw [salls_app,salls_app,salls_imp m1 _ a3.1,salls_imp m2 _ b3,salls_imp m1 _ a3.2];rfl
structure okHd (N:Nat) (h:Hd):Prop where
 ps:h.ps.length<=N
 body:okL N h.body
theorem okHd.mono {h:Hd} (k:okHd N h) (l:N<=M):okHd M h:=⟨by have:=k.ps;omega,k.body.mono l⟩
structure okV2 (N:Nat) (v:List Hd):Prop where
 len:v.length<=N
 all:∀ h∈v,okHd N h
theorem okV2.mono {v:List Hd} (k:okV2 N v) (l:N<=M):okV2 M v:=⟨by have:=k.len;omega,λh m=>(k.all h m).mono l⟩
structure okCp (N:Nat) (c:Cp):Prop where
 vars:c.vars.length<=N
 vers:c.vers.length<=N
 all:∀ v∈c.vers,okV2 N v
theorem okCp.mono {c:Cp} (k:okCp N c) (l:N<=M):okCp M c:=⟨by have:=k.vars;omega,by have:=k.vers;omega,λv m=>(k.all v m).mono l⟩
structure okFt (N:Nat) (f:Ft):Prop where
 flags:f.flags.length<=N
 links:f.links.length<=N
 comps:f.comps.length<=N
 pos:0<f.comps.length
 all:∀ c∈f.comps,okCp N c
theorem okFt.mono {f:Ft} (k:okFt N f) (l:N<=M):okFt M f:=⟨by have:=k.flags;omega,by have:=k.links;omega,by have:=k.comps;omega,k.pos,λc m=>(k.all c m).mono l⟩
def okD (D:Nat) (e:Ex):Prop:=e.depth<=D/\Ex.all narrow e=true
theorem okD.mono {D D':Nat} {e:Ex} (h:okD D e) (k:D<=D'):okD D' e:=⟨Al_Nat_le_trans h.1 k,h.2⟩
def wfE (D:Nat) (e:Ex):Prop:=e.depth<=D/\Ex.all frmE e=true/\Ex.all namE e=true
theorem wfE.mono {D D':Nat} {e:Ex} (h:wfE D e) (k:D<=D'):wfE D' e:=⟨Al_Nat_le_trans h.1 k,h.2⟩
def e0:Ex:=.mk 4 [] 0 []
structure MkOk (M:Mk):Prop where
 i0:0<M.ints
 i3:M.ints<=3
 p2:M.params<=2
 f2:M.flags<=2
 a3:M.ars.length<=3
 a0:0<M.ars.length
 ar2:∀ c h,arN M c h<=2
 al:∀ c,c<M.ars.length->0<arL M c/\arL M c<=3
 own:M.own<M.ars.length
structure Wf (D lf:Nat) (l:List Sm) (lf':Nat):Prop where
 cnt:Sm.counts l+lf'<=lf
 dep:Sm.deeps l<=D
 frm:Sm.alls frmS l=true
 nam:Sm.alls namS l=true
 sma:Sm.alls smaS l=true
theorem Wf.all {D lf lf':Nat} {l:List Sm} (h:Wf D lf l lf'):Sm.deeps l<=D/\Sm.alls frmS l=true/\Sm.alls namS l=true/\Sm.alls smaS l=true:=⟨h.dep,h.frm,h.nam,h.sma⟩
theorem MkOk.at {M:Mk} (h:MkOk M) (k:Nat):MkOk (M.at k):=⟨h.i0,h.i3,h.ar2 _ _,h.f2,h.a3,h.a0,h.ar2,h.al,h.own⟩
structure Sg where
 r:List Tk
 e:Nat
 o:Nat
def offT (n:Nat):List Tk->Nat
 | []=>n
 | t::_=>t.o
section
variable {α β:Type}
def up (n:Nat) (g:Pz α) (s:Sg):Sg:=if s.e=0 then (match g s.r with | .ok _ r=>⟨r,s.e,s.o⟩ | .er r c=>⟨r,c,offT n r⟩) else s
def Cz (g:Pz α):Prop:=∀ r r' c,g r=.er r' c->c≠0
theorem Rs.bind_er {x:Rs α} {f:α->List Tk->Rs β} {r:List Tk} {c:Nat} (h:x.bind f=.er r c):x=.er r c\/∃ a q,x=.ok a q/\f a q=.er r c:=by
 cases x with
 | ok a q=>exact .inr ⟨a,q,Z,h⟩
 | er q d=>left;injection h with h1 h2;subst h1;subst h2;rfl
theorem Cz.pure (a:α):Cz (gPure a):=λr r' c e=>by cases e
theorem Cz.bind {g:Pz α} {f:α->Pz β} (h:Cz g) (k:∀ a,Cz (f a)):Cz (gBind g f):=λr r' c e=>by
 rcases Rs.bind_er e with e | ⟨a,q,_,e⟩
 ·exact h _ _ _ e
 ·exact k _ _ _ _ e
theorem Cz.nd (w:Str):Cz (gNd w):=λr r' c e=>by
 unfold gNd at e
 split at e
 ·cases e
 ·injection e with _ e;omega
theorem Cz.nm:Cz gNm:=λr r' c e=>by
 unfold gNm at e
 split at e
 ·injection e with _ e;omega
 ·split at e
  ·cases e
  ·injection e with _ e;omega
theorem Cz.nu:Cz gNu:=λr r' c e=>by
 unfold gNu at e
 split at e
 ·injection e with _ e;omega
 ·split at e
  ·split at e
   ·cases e
   ·injection e with _ e;omega
  ·injection e with _ e;omega
theorem Cz.alt {w:Str} {p q:Pz α} (h:Cz p) (k:Cz q):Cz (gAlt w p q):=λr r' c e=>by
 unfold gAlt at e
 split at e
 ·exact h _ _ _ e
 ·exact k _ _ _ e
theorem Cz.manyF {w:Str} {p:Pz α} (h:Cz p):∀ f,Cz (gManyF w p f)
 | 0=>λr r' c e=>by unfold gManyF at e;injection e with _ e;omega
 | f+1=>.alt (.bind h λ_=>.bind (Cz.manyF h f) λ_=>.pure _) (.pure _)
theorem Cz.many {w:Str} {p:Pz α} (h:Cz p):Cz (gMany w p):=λr r' c e=>Cz.manyF h _ _ _ _ e
def ac (w:Str) (s:Sg):Bool:=decide (s.e=0) && isT w s.r
end
theorem wordL:∀ w∈words,letB (w.headD 0)=true/\w.length<=12:=by decide +kernel
theorem symL:∀ w∈symbols,letB (w.headD 0)=false/\digB (w.headD 0)=false:=by decide +kernel
theorem readK_hd {c:UInt8} (e:(c::r).take (readK (c::r)).2=w):w.headD 0=c:=by
 have h:=(readK_bnd (l:=c::r) (by simp)).1;obtain ⟨k,hk⟩:∃ k,(readK (c::r)).2=k+1:=⟨(readK (c::r)).2 - 1,by omega⟩;rw [hk] at e;subst e
 rfl
theorem dig_let {c:UInt8} (h:digB c=true):letB c=false:=by
 have key:∀ i∈List.range 256,digB (UInt8.ofNat i)=true->letB (UInt8.ofNat i)=false:=by decide +kernel
 have:=key c.toNat (Al_List_mem_range.2 c.toNat_lt);rw [Al_UInt8_ofNat_toNat] at this;exact this h
variable {m:Str}
theorem readK_word (h:m≠[]) (hw:w∈words\/w∈symbols) (e:m.take (readK m).2=w):(readK m).1=2\/(readK m).1=4:=by
 match m,h with
 | c::r,_ =>
  have hh:=readK_hd e;cases h1:letB c with
  | true =>
   have hw1:w∈words:=by
    rcases hw with hw | hw
    ·exact hw
    ·have:=(symL w hw).1;rw [hh,h1] at this;cases this
   cases h4:words.contains ((c::r).take (pre insB (c::r))) with
   | true=>left;simp only [readK,Al_List_headD_cons,h1,h4,Al_if_true]
   | false =>
    by_cases h5:pre insB (c::r)<=12
    ·simp only [readK,Al_List_headD_cons,h1,h4,h5,Al_if_true,Al_Bool_false_eq_true,Al_if_false] at e;rw [e] at h4;rw [Al_List_contains_iff_mem.2 hw1] at h4;cases h4
    ·simp only [readK,Al_List_headD_cons,h1,h4,h5,Al_if_true,Al_Bool_false_eq_true,Al_if_false] at e;rw [Al_List_take_length] at e;have h6:=pre_le insB (c::r);have h7:=(wordL w hw1).2;rw [<-e] at h7;omega
  | false =>
   have hw1:w∈symbols:=by
    rcases hw with hw | hw
    ·have:=(wordL w hw).1;rw [hh,h1] at this;cases this
    ·exact hw
   have h4:digB c=false:=by
    have:=(symL w hw1).2;rw [hh] at this;exact this
   cases hx:symbols.find? (λx=>x.isPrefixOf (c::r)) with
   | some x=>right;simp only [readK,Al_List_headD_cons,h1,h4,hx,Al_Bool_false_eq_true,Al_if_false]
   | none =>
    simp only [readK,Al_List_headD_cons,h1,h4,hx,Al_Bool_false_eq_true,Al_if_false] at e;rw [Al_List_take_length] at e;have:=List.find?_eq_none.1 hx w hw1;rw [<-e] at this;exact absurd (Al_List_isPrefixOf_iff_prefix.2 (List.prefix_refl _)) this
theorem readK_num {c0:UInt8} (h:m≠[]) (hc:c0=50\/c0=51) (e:m.take (readK m).2=[c0]):(readK m).1=3:=by
 match m,h with
 | c::r,_ =>
  have hh:c0=c:=readK_hd e;have h4:digB c=true:=by rw [<-hh];rcases hc with rfl | rfl <;> decide
  have h1:=dig_let h4;have h5:pre digB (c::r)=1\/c≠48:=.inr (by rw [<-hh];rcases hc with rfl | rfl <;> decide);simp only [readK,Al_List_headD_cons,h1,h4,h5,Al_if_true,Al_Bool_false_eq_true,Al_if_false]
def Tkg (t:Tk):Prop:=(t.t∈words\/t.t∈symbols->t.k=2\/t.k=4)/\(t.t=[50]\/t.t=[51]->t.k=3)/\t.t≠[]
theorem tokFG:∀ (f o:Nat) (m:Str),∀ t∈tokF f o m,Tkg t
 | 0,_,_,t,h=>by cases h
 | f+1,o,m,t,h=>by
  by_cases h0:m=[]
  ·rw [h0,tokF_nil] at h;cases h
  ·rw [tokF_step h0] at h;rcases Al_List_mem_cons.1 h with rfl | h
   ·refine ⟨λhw=>readK_word h0 hw rfl,λhc=>?_,λe=>?_⟩
    ·rcases hc with hc | hc
     ·exact readK_num h0 (.inl Z) hc
     ·exact readK_num h0 (.inr Z) hc
    ·have hb:=readK_bnd h0;have h2:=congrArg List.length e;rw [Al_List_length_take] at h2;simp only [Al_List_length_nil] at h2;omega
   ·exact tokFG f _ _ t h
theorem lexR_good (s:Str):∀ t∈lexR s,Tkg t:=tokFG _ _ _
theorem numV_app (l:Str) (c:UInt8):numV (l++[c])=10 * numV l+(c.toNat - 48):=by
 unfold numV;rw [Al_List_foldl_append]
 rfl
theorem num_ge:∀ (r:Str) (v:Nat),v<=r.foldl (λv c=>10 * v+(c.toNat - 48)) v
 | [],v=>Al_Nat_le_refl _
 | c::r,v=>by
  rw [Al_List_foldl_cons];have:=num_ge r (10 * v+(c.toNat - 48));omega
theorem numV_le (l r:Str):numV l<=numV (l++r):=by
 unfold numV;rw [Al_List_foldl_append];exact num_ge r _
theorem numV_take (t:Str) (i:Nat):numV (t.take i)<=numV t:=by
 have h:=numV_le (t.take i) (t.drop i);rw [Al_List_take_append_drop] at h;exact h
theorem numV_step {t:Str} {c:UInt8} (h:t[i]? = some c):numV (t.take (i+1))=10 * numV (t.take i)+(c.toNat - 48):=by
 rw [List.take_succ,h];exact numV_app _ _
theorem numV_zero:numV []=0:=rfl
def toks (o:Nat) (m:Str):List Tk:=tokF (m.length+1) o m
def skipN (m:Str):Nat:=m.length - (skipS false m).length
theorem skipN_le (m:Str):skipN m<=m.length:=Nat.sub_le _ _
theorem drop_skipN (m:Str):m.drop (skipN m)=skipS false m:=skipS_drop false m
theorem toks_nil (o:Nat):toks o []=[]:=tokF_nil _ _
theorem toks_cons {o:Nat} (h:m≠[]):toks o m=⟨(readK m).1,m.take (readK m).2,o⟩::toks (o+(readK m).2+skipN (m.drop (readK m).2)) (m.drop ((readK m).2+skipN (m.drop (readK m).2))):=by
 have hr:=readK_bnd h;have hs:=skipS_len false (m.drop (readK m).2);rw [Al_List_length_drop] at hs;unfold toks;rw [tokF_step h,<-Al_List_drop_drop,drop_skipN]
 have e:o+(readK m).2+skipN (m.drop (readK m).2)=o+(m.length - (skipS false (m.drop (readK m).2)).length):=by
  unfold skipN;rw [Al_List_length_drop];omega
 rw [e,tokF_more _ _ _ _ _ (Al_Nat_lt_succ_self _)];omega
theorem lexR_toks (s:Str):lexR s=toks (skipN s) (s.drop (skipN s)):=by
 unfold toks lexR;rw [drop_skipN];have hs:=skipS_len false s;exact tokF_more _ _ _ _ (by omega) (by omega)
theorem tokF_len:∀ (f o:Nat) (m:Str),(tokF f o m).length<=m.length
 | 0,_,_=>by rw [tokF];simp
 | f+1,o,m=>by
  by_cases h0:m=[]
  ·subst h0;rw [tokF_nil];simp
  ·have hr:=readK_bnd h0;have hs:=skipS_len false (m.drop (readK m).2);rw [Al_List_length_drop] at hs;rw [tokF_step h0,Al_List_length_cons];have:=tokF_len f (o+(m.length - (skipS false (m.drop (readK m).2)).length)) (skipS false (m.drop (readK m).2));omega
theorem lexR_len (s:Str):(lexR s).length<=s.length:=Al_Nat_le_trans (tokF_len _ _ _) (skipS_len false s)
theorem u8w {c:UInt8} (h:48<=c.toNat):IntKind.u8.wrap ((c.toNat:Int) - 48)=((c.toNat - 48:Nat):Int):=by
 have key:∀ i∈List.range 256,IntKind.u8.wrap (i:Int)=(i:Int):=by decide +kernel
 rw [show (c.toNat:Int) - 48=((c.toNat - 48:Nat):Int) by omega];exact key _ (Al_List_mem_range.2 (by have:=c.toNat_lt;omega))
theorem dig_rng {c:UInt8} (h:digB c=true):48<=c.toNat/\c.toNat<=57:=by
 have key:∀ i∈List.range 256,digB (UInt8.ofNat i)=true->48<=i/\i<=57:=by decide +kernel
 exact key c.toNat (Al_List_mem_range.2 c.toNat_lt) (by rw [Al_UInt8_ofNat_toNat];exact h)
def valE (t:Tk):Nat:=if t.k=3 then (if numV t.t<=9223372036854775807 then 0 else 2) else 1
def valV (t:Tk):Nat:=if t.k=3/\numV t.t<=9223372036854775807 then numV t.t else 0
theorem val_ok {t:Tk} (h:t.k=3) (hn:numV t.t<=9223372036854775807):valE t=0/\valV t=numV t.t:=⟨by unfold valE;rw [Al_if_pos h,Al_if_pos hn],by unfold valV;rw [Al_if_pos ⟨h,hn⟩]⟩
theorem val_big {t:Tk} (h:t.k=3) (hn:¬ numV t.t<=9223372036854775807):valE t=2/\valV t=0:=⟨by unfold valE;rw [Al_if_pos h,Al_if_neg hn],by unfold valV;rw [Al_if_neg (λk=>hn k.2)]⟩
theorem val_no {t:Tk} (h:¬ t.k=3):valE t=1/\valV t=0:=⟨by unfold valE;rw [Al_if_neg h],by unfold valV;rw [Al_if_neg (λk=>h k.1)]⟩
theorem value_any (t:Tk) (hd:t.k=3->pre digB t.t=t.t.length/\¬ t.t=[]) (hl:t.t.length<=1000000) (w:World) :
 Calls prg 158 #[.agg (cTk .u8 t).toArray] w λr w'=>r=.returned (.tuple #[iN (valV t),iN (valE t)])/\Ext w w':=by
 refine y6 func158 Z ntmps158 Z ?_;refine .sr<|.bx Z Z Z λb1=>.a Z Z<|.aq Z<|.sq<|.sq<|.fL 16 [(0,0),(1,0),(2,0),(3,0),(4,0),(5,0),(6,0),(7,0),(8,0),(9,0),(10,0),(11,0),(12,0),(13,0),(14,0),(15,0)]<|.fA Z Fx.field108_0<|.lD Z Fx.agg106 Hm Z<|.yw (.neq Z Z)<|.mv Z<|.b2 (λh10=>?_) (λh10=>?_)
 ·have hk:¬ t.k=3:=λe=>Al_of_decide_eq_true h10 (by rw [e];rfl);obtain ⟨hv1,hv2⟩:=val_no hk;refine .gG<|.gG<|.gG<|.yw (.pickT Z Z)<|.mv Z<|.gG<|.gG<|.gG<|.gG<|.gG<|.gG<|.gG<|.fn (tl:=[_]) Z<|.yw (.pickT Z Z)<|.nt<|.cT Z<|.sr<|.a Z Z<|.az Z<|.tR<|?_
  refine y7 Z (.cons (.tmp Z) (.cons (.tmp Z) .nil)) rfl λW s=>⟨?_,s.ext⟩
  first
   | (rw [hv1,hv2];rfl)
   | (rw [hv1,hv2,Al_List_take_length];rfl)
   | (rw [hv1,hv2,Al_List_take_length])
 have hk:t.k=3:=Al_UInt8_toNat_inj.1 (by have:=Al_Classical_not_not.1 (Al_of_decide_eq_false h10);exact Int.ofNat.inj this);obtain ⟨hd1,hd2⟩:=hd hk;have hall:=Al_List_all_eq_true.1 (pre_all hd1);refine .yg Z Z (.fieldAddr Z Fx.field108_1) Z<|.yg Z Z (.load Z Fx.agg9 Hm Z) Z<|.yg Z Z (.cast (.eqS Z Z) (congrArg Value.bool (Al_decide_eq_false hd2))) Z<|.yw (.pickF Z Z)<|.mv Z<|.yg Z Z (.fieldAddr Z Fx.field108_1) Z<|.yg Z Z (.load Z Fx.agg9 Hm Z) Z<|.yg Z Z (.call Fx.call146 Z (λW s=>prefix_any 153 digB Fx.call153 digit_any t.t (by omega) W)) Z<|.yg Z Z (.fieldAddr Z Fx.field108_1) Z<|.yg Z Z (.load Z Fx.agg9 Hm Z) Z<|.yg Z Z (.lenS Fx.str9 Z) Z<|.yg Z Z (.cast (.neq Z Z) (congrArg Value.bool (Al_decide_eq_false (by rw [hd1];simp)))) Z<|.fn (tl:=[_]) Z<|.yw (.pickF Z Z)<|.nt<|.cF Z<|.sk<|.tN<|.sr<|.aq Z<|.sq<|.sr<|.fA Z Fx.field108_1<|.lD Z Fx.agg9 Hm Z<|.yw (.lenS Fx.str9 Z)<|.mv Z<|.nt<|.bk<|.lp (X:=Nat) [(1,_),(26,_)] ⟨Z,Z,Jt⟩ [_] (λk=>[(27,iN k),(4,iN (numV (t.t.take k)))]) (λk=>(⟨λ_=>none,0⟩:Hp)) (λk=>[]) (λk=>k<=t.t.length/\numV (t.t.take k)<=9223372036854775807) (λk=>t.t.length - k) 0 (λ_ s=>s) ⟨Z,Z,Jt⟩ ⟨Al_Nat_zero_le _,by simp [numV_zero]⟩ λk hC=>?_
 obtain ⟨hk0,hv0⟩:=hC;refine .sr<|.yw (.lss Z Z)<|.nt<|.sq<|.ce Z (λh28=>?_) (λh28=>?_)
 ·have hlt:k<t.t.length:=by omega
  obtain ⟨c,hc⟩:∃ c,c=t.t[k]:=⟨_,Z⟩;obtain ⟨hc1,hc2⟩:=dig_rng (hall c (by rw [hc];exact Al_List_getElem_mem hlt));have hst:numV (t.t.take (k+1))=10 * numV (t.t.take k)+(c.toNat - 48):=numV_step (by rw [hc];exact List.getElem?_eq_getElem hlt);have hle:=numV_take t.t (k+1);rw [hst] at hle;refine .sk<|.tN<|.sq<|.bk<|.sm Z<|.a Z Z<|.ns<|.fA Z Fx.field108_1<|.lD Z Fx.agg9 Hm Z<|.mv Z<|.yw (.idxS Fx.str9 Z Z Z (b:=c) (j:=k) (by rw [hc];exact List.getElem?_eq_getElem hlt))<|.yw (.sub Z Z (u8w hc1))<|.yw (.conv Z Fx.int5 Fx.int2 (c:=((c.toNat - 48:Nat):Int)) (w6 (by omega)))<|.aq Z<|.sq<|.sm Z<|.mv Z<|.yw (.sub Z Z (c:=((9223372036854775807 - (c.toNat - 48):Nat):Int)) ((w6 (by omega)).trans (by omega)))<|.yw (.quo Z Z (by decide) (c:=(((9223372036854775807 - (c.toNat - 48)) / 10:Nat):Int)) (by rw [Al_Int_tdiv_eq_ediv_of_nonneg (by omega)];exact (w6 (by omega)).trans (by omega)))<|.yw (.gtr Z Z)<|.nt<|.ce Z (λh40=>?_) (λh40=>?_)
  ·obtain ⟨hv1,hv2⟩:=val_big hk (show ¬ numV t.t<=9223372036854775807 by omega);refine .sr<|.a Z Z<|.az Z<|.tR<|.bR<|.tR<|.tR<|.bR<|.tR<|?_
   refine y7 Z (.cons (.tmp Z) (.cons (.tmp Z) .nil)) rfl λW s=>⟨?_,s.ext⟩
   first
    | (rw [hv1,hv2];rfl)
    | (rw [hv1,hv2,Al_List_take_length];rfl)
    | (rw [hv1,hv2,Al_List_take_length])
  have hb:10 * numV (t.t.take k)+(c.toNat - 48)<=9223372036854775807:=by omega
  exact .sk<|.tN<|.rg<|.mv Z<|.yw (.mul Z Z (c:=((10 * numV (t.t.take k):Nat):Int)) ((w6 (by omega)).trans (by omega)))<|.mv Z<|.yw (.add Z Z (c:=((10 * numV (t.t.take k)+(c.toNat - 48):Nat):Int)) ((w6 (by omega)).trans (by omega)))<|.a Z Z<|.nl<|.bN<|.tN<|.rg<|.yw (.add Z Z w7)<|.mv Z<|.nt<|.ag (k+1) ⟨Z,by rw [hst];rfl,Jt⟩ ⟨Z,Z,Jt⟩ (λ_ s=>s) ⟨by omega,by rw [hst];omega⟩ (by omega)
 obtain rfl:k=t.t.length:=by omega
 rw [Al_List_take_length] at hv0;obtain ⟨hv1,hv2⟩:=val_ok hk hv0;refine .ex<|.eb<|.sm Z<|.a Z Z<|.az Z<|?_
 refine y7 Z (.cons (.tmp Z) (.cons (.tmp Z) .nil)) rfl λW s=>⟨?_,s.ext⟩
 first
  | (rw [hv1,hv2];rfl)
  | (rw [hv1,hv2,Al_List_take_length];rfl)
  | (rw [hv1,hv2,Al_List_take_length])
theorem tk_num {l:Tks} (K:Tkf H l tp tc) (hq:q.i<l.length):(tkf l q.i).k=3->pre digB (tkf l q.i).t=(tkf l q.i).t.length/\¬ (tkf l q.i).t=[]:=K.num _ (tkf_mem hq)
theorem i64_fit (h:n<=9223372036854775807):(Int64.ofNat n).toInt=(n:Int):=by
 rw [Al_Int64_toInt_ofNat_of_lt (by omega)]
theorem nbV_rng {l:Tks} :0<=(q.nbV l).toInt/\(q.nbV l).toInt<=9223372036854775807:=by
 unfold Rq.nbV
 split
 ·rename_i h;rw [Al_Bool_and_eq_true] at h;have h2:=Al_of_decide_eq_true h.2;rw [i64_fit h2];omega
 ·decide
theorem number_f {b:Nat} {l:Tks} {rd dn:Bool} (K:Tkf H l tp tc) (hq:q.i<l.length) (s:St H w0 (.box b [.slice tp l.length tc,iN q.i,ro,rv,.bool rd,.bool dn,.bool bd,iN q.off,iN q.er] 102::bs) W) :
 Calls prg 110 #[.pointer (some ⟨b,0,none⟩)] W λe W'=>∃ _:Unit,(True)/\e=.returned (.int .i64 (q.nbV l).toInt)/\St H w0 (.box b [.slice tp l.length tc,iN ((q.nbS l).i),ro,rv,.bool rd,.bool dn,.bool bd,iN ((q.nbS l).off),iN ((q.nbS l).er)] 102::bs) W':=by
 have hcap:=K.rep.cap;refine enterS func110 rfl ntmps110 rfl s ?_;refine .sr<|.aq Z<|.sq<|.sm Z<|.nC Z<|.fA Z Fx.field102_8<|.lD Z Fx.agg29 Hm Z<|.yw (.neq Z Z)<|.mv Z<|.b2 (λh10=>?_) (λh10=>?_)
 ·have hbad:¬ q.nbB l=true:=λe=>by have:=(nbB_er e).1;simp [this] at h10
  have e1:q.nbS l=q.fail l 8:=by unfold Rq.nbS;rw [Al_if_neg hbad]
  have e2:q.nbV l=0:=by unfold Rq.nbV;rw [Al_if_neg (λe=>hbad (by rw [Al_Bool_and_eq_true] at e;exact e.1))]
  rw [e1,e2];refine .gG<|.gG<|.gG<|.gG<|.yw (.pickT Z Z)<|.nt<|.cT Z<|.sm Z<|.cs (X:=Unit) Fx.call104 Z (λW s=>fail_f K hq 8 (s.p1_1 [0] Z)) Z λ_ _=>.ns<|.az Z<|.tR<|?_
  refine y9 Z Z λW s=>?_;exact ⟨(),Jt,Z,s.p1_1 [0] rfl⟩
 have h0:q.er=0:=by have:=Al_of_decide_eq_false h10;omega
 refine .gy (.move Z)<|.gd Z Z<|.cs (X:=Unit) Fx.call98 Z (λW s=>token_f K hq  (s.p1_1 [0] Z)) Z λ_ _=>.gy (.fld Z (fld_f0 _ _ _))<|.gy (.neq Z Z)<|.yw (.pickF Z Z)<|.nt<|.cd Z (λh15=>?_) (λh15=>?_)
 ·have hbad:¬ q.nbB l=true:=λe=>by have:=(nbB_er e).2;simp [this] at h15
  have e1:q.nbS l=q.fail l 8:=by unfold Rq.nbS;rw [Al_if_neg hbad]
  have e2:q.nbV l=0:=by unfold Rq.nbV;rw [Al_if_neg (λe=>hbad (by rw [Al_Bool_and_eq_true] at e;exact e.1))]
  rw [e1,e2];refine .sm Z<|.cs (X:=Unit) Fx.call104 Z (λW s=>fail_f K hq 8 (s.p1_1 [0] Z)) Z λ_ _=>.ns<|.az Z<|.tR<|?_
  refine y9 Z Z λW s=>?_;exact ⟨(),Jt,Z,s.p1_1 [0] rfl⟩
 have hk:(tkf l q.i).k=3:=Al_UInt8_toNat_inj.1 (by have:=Al_of_decide_eq_false h15;show (tkf l q.i).k.toNat=3;omega);have hok:q.nbB l=true:=by unfold Rq.nbB;rw [Al_decide_eq_true h0,Al_decide_eq_true hk];rfl
 refine .sk<|.tN<|.sm Z<|.cs (X:=Unit) Fx.call98 Z (λW s=>token_f K hq  (s.p1_1 [0] Z)) Z λ_ _=>.yw (.call Fx.call158 Z λW s=>value_any (tkf l q.i) (tk_num K hq) (Al_Nat_le_trans (K.short _ (tkf_mem hq)) (by decide)) W)<|.mv Z<|.yw (.extract Z Z)<|.yw (.extract Z Z)<|.a Z Z<|.aq Z<|.sq<|.sm Z<|.yw (.neq Z Z)<|.nt<|.ce Z (λh25=>?_) (λh25=>?_)
 ·have hv:¬ numV (tkf l q.i).t<=9223372036854775807:=λe=>by rw [(val_ok hk e).1] at h25;omega
  obtain ⟨v1,v2⟩:=val_big hk hv;have e1:q.nbS l=q.fail l (valE (tkf l q.i)):=by rw [v1];unfold Rq.nbS;rw [Al_if_pos hok,Al_if_neg (by unfold Rq.fit;rw [Al_decide_eq_false hv];decide)]
  have e2:q.nbV l=0:=by unfold Rq.nbV;rw [Al_if_neg (by unfold Rq.fit;rw [Al_decide_eq_false hv,Bool.and_false];decide)]
  rw [e1,e2];refine .sm Z<|.mv Z<|.cs (X:=Unit) Fx.call104 Z (λW s=>fail_f K hq (valE (tkf l q.i)) (s.p1_1 [0] Z)) Z λ_ _=>?_

  refine .ns<|.az Z<|.tR<|?_
  refine y9 Z Z λW s=>?_;exact ⟨(),Jt,Z,s.p1_1 [0] rfl⟩
 have hv:numV (tkf l q.i).t<=9223372036854775807:=Classical.byContradiction λe=>by rw [(val_big hk e).1] at h25;omega
 obtain ⟨v1,v2⟩:=val_ok hk hv;have hf:q.fit l=true:=by unfold Rq.fit;rw [Al_decide_eq_true hv]
 have e1:q.nbS l=q.nx:=by unfold Rq.nbS;rw [Al_if_pos hok,Al_if_pos hf]
 have e2:q.nbV l=Int64.ofNat (numV (tkf l q.i).t):=by unfold Rq.nbV;rw [hok,hf];rfl
 rw [e1,e2,i64_fit hv];have hi:=K.gd.last _ hq (by rw [hk];decide);have hi2:q.nx.i=q.i+1:=rfl;rw [v2];refine .sk<|.tN<|.sm Z<|.nC Z<|.fA Z Fx.field102_1<|.lD Z Fx.agg3 Hm Z<|.yw (.add Z Z (c:=((q.nx.i:Nat):Int)) ((w6 (by omega)).trans (by show _=((q.i+1:Nat):Int);omega)))<|.nC Z<|.fA Z Fx.field102_1<|.st .head Z Z Fx.size3 Z (nb Z) Z<|.ns<|.mv Z<|.az Z<|?_
 refine y9 Z Z λW s=>?_;exact ⟨(),Jt,Z,s.p1_1 [0] rfl⟩
theorem pair_f {b:Nat} {l:Tks} {rd dn:Bool} (K:Tkf H l tp tc) (hq:q.i<l.length) (op:UInt8) (s:St H w0 (.box b [.slice tp l.length tc,iN q.i,ro,rv,.bool rd,.bool dn,.bool bd,iN q.off,iN q.er] 102::bs) W) :
 Calls prg 112 #[.pointer (some ⟨b,0,none⟩),.int .u8 op.toNat] W λe W'=>∃ _:Unit,(True)/\e=.returned (.agg [.int .u8 op.toNat,strV (q.paN l),strV (q.paF l),.int .i64 0,.int .i64 0,.slice none 0 0,.slice none 0 0].toArray)/\St H w0 (.box b [.slice tp l.length tc,iN ((q.paS l).i),ro,rv,.bool rd,.bool dn,.bool bd,iN ((q.paS l).off),iN ((q.paS l).er)] 102::bs) W':=by
 refine enterS func112 rfl ntmps112 rfl s ?_;refine .sr<|.al Fx.zero35 Z λb4=>.ns<|.mv Z<|.mv Z<|.cs (X:=Unit) Fx.call113 Z (λW s=>name_f K hq  (s.p2_2 [1,0] Z)) Z λ_ _=>.yw (.build Z (Fx.bld35_0_1 _ _))<|.al Fx.zero35 Z λb5=>.sX .head Z Z Fx.size35 Z<|.ns<|.mv Z<|.cs (X:=Unit) Fx.call114 Z (λW s=>expect_f K (wi_nm K.gd.last hq) [46] (s.p3_3 [1,0,2] Z)) Z λ_ _=>.ns<|.mv Z<|.cs (X:=Unit) Fx.call113 Z (λW s=>name_f K (wi_ex K.gd.last (wi_nm K.gd.last hq))  (s.p3_3 [0,1,2] Z)) Z λ_ _=>.fA Z Fx.field35_2<|.st upd1 Z Z Fx.size9 Z (nb Z) Z<|.ns<|.yw (.loadW Z Fx.agg35 mem1 Z)<|.sX upd2 Z Z Fx.size35 Z<|.nt<|.rt<|?_
 refine y8 Z (.cell Z Fx.agg35 mem2 rfl) λW s=>?_;exact ⟨(),Jt,Z,s.p3_1 [0] rfl⟩
theorem window_f {b:Nat} {l:Tks} {rd dn:Bool} (K:Tkf H l tp tc) (hq:q.i<l.length) (op:UInt8) (s:St H w0 (.box b [.slice tp l.length tc,iN q.i,ro,rv,.bool rd,.bool dn,.bool bd,iN q.off,iN q.er] 102::bs) W) :
 Calls prg 154 #[.pointer (some ⟨b,0,none⟩),.int .u8 op.toNat] W λe W'=>∃ _:Unit,(True)/\e=.returned (.agg [.int .u8 op.toNat,strV [],strV [],.int .i64 (q.wiA l).toInt,.int .i64 (q.wiB l).toInt,.slice none 0 0,.slice none 0 0].toArray)/\St H w0 (.box b [.slice tp l.length tc,iN ((q.wiS l).i),ro,rv,.bool rd,.bool dn,.bool bd,iN ((q.wiS l).off),iN ((q.wiS l).er)] 102::bs) W':=by
 refine enterS func154 rfl ntmps154 rfl s ?_;refine .sr<|.al Fx.zero35 Z λb4=>.ns<|.mv Z<|.yw (.build Z (Fx.bld35_0_4 _ _))<|.al Fx.zero35 Z λb5=>.sX .head Z Z Fx.size35 Z<|.nt<|.sq<|.sm Z<|.cs (X:=Unit) Fx.call107 Z (λW s=>accept_f K hq [91] (s.p3_3 [2,0,1] Z)) Z λ_ _=>.nt<|.cd Z (λh9=>?_) (λh9=>?_)
 ·have a9:Rq.ac l [91] q=true:=h9;rw [acF_T a9];have e1:q.wiA l=q.nx.nbV l:=by unfold Rq.wiA;rw [Al_if_pos a9]
  have e2:q.wiB l=((q.nx.nbS l).exS l [44]).nbV l:=by unfold Rq.wiB;rw [Al_if_pos a9]
  have e3:q.wiS l=(((q.nx.nbS l).exS l [44]).nbS l).exS l [93]:=by unfold Rq.wiS;rw [Al_if_pos a9]
  rw [e1,e2,e3];refine .sm Z<|.cs (X:=Unit) Fx.call110 Z (λW s=>number_f K (wi_ac K.gd.last hq a9)  (s.p3_3 [0,1,2] Z)) Z λ_ _=>.fA Z Fx.field35_3<|.st upd1 Z Z Fx.size3 Z (nb Z) Z<|.ns<|.mv Z<|.cs (X:=Unit) Fx.call114 Z (λW s=>expect_f K (wi_nb K.gd.last (wi_ac K.gd.last hq a9)) [44] (s.p3_3 [0,1,2] Z)) Z λ_ _=>.ns<|.mv Z<|.cs (X:=Unit) Fx.call110 Z (λW s=>number_f K (wi_ex K.gd.last (wi_nb K.gd.last (wi_ac K.gd.last hq a9)))  (s.p3_3 [0,1,2] Z)) Z λ_ _=>.fA Z Fx.field35_4<|.st upd1 Z Z Fx.size3 Z (nb Z) Z<|.nt<|.rg<|.mv Z<|.cs (X:=Unit) Fx.call114 Z (λW s=>expect_f K (wi_nb K.gd.last (wi_ex K.gd.last (wi_nb K.gd.last (wi_ac K.gd.last hq a9)))) [93] (s.p3_3 [0,1,2] Z)) Z λ_ _=>.ns<|.yw (.loadW Z Fx.agg35 mem1 Z)<|.sX upd2 Z Z Fx.size35 Z<|.nt<|.rt<|?_
  refine y8 Z (.cell Z Fx.agg35 mem2 rfl) λW s=>?_;exact ⟨(),Jt,Z,s.p3_1 [0] rfl⟩
 have a9:Rq.ac l [91] q=false:=h9;rw [acF_F a9];have e1:q.wiA l=0:=by unfold Rq.wiA;rw [Al_if_neg (by rw [a9];decide)]
 have e2:q.wiB l=-1:=by unfold Rq.wiB;rw [Al_if_neg (by rw [a9];decide)]
 have e3:q.wiS l=q:=by unfold Rq.wiS;rw [Al_if_neg (by rw [a9];decide)]
 rw [e1,e2,e3];refine .sk<|.tN<|.sr<|.yw (.loadW Z Fx.agg35 mem1 Z)<|.sX upd2 Z Z Fx.size35 Z<|.nt<|.rt<|?_
 refine y8 Z (.cell Z Fx.agg35 mem2 rfl) λW s=>?_;exact ⟨(),Jt,Z,s.p3_1 [0] rfl⟩
theorem neg_i64 {x:Int64} (h:0<=x.toInt/\x.toInt<=9223372036854775807):IntKind.i64.wrap (0 - x.toInt)=(-x).toInt:=by
 rw [Go.Sx.w64 (by omega) (by omega),Int64.toInt_neg,Int.bmod_eq_of_le (by omega) (by omega)];omega
theorem bound_f {b:Nat} {l:Tks} {rd dn:Bool} (K:Tkf H l tp tc) (hq:q.i<l.length) (s:St H w0 (.box b [.slice tp l.length tc,iN q.i,ro,rv,.bool rd,.bool dn,.bool bd,iN q.off,iN q.er] 102::bs) W) :
 Calls prg 180 #[.pointer (some ⟨b,0,none⟩)] W λe W'=>∃ _:Unit,(True)/\e=.returned (.int .i64 (q.boV l).toInt)/\St H w0 (.box b [.slice tp l.length tc,iN ((q.boS l).i),ro,rv,.bool rd,.bool dn,.bool bd,iN ((q.boS l).off),iN ((q.boS l).er)] 102::bs) W':=by
 refine enterS func180 rfl ntmps180 rfl s ?_;refine .sr<|.aq Z<|.sq<|.sm Z<|.cs (X:=Unit) Fx.call107 Z (λW s=>accept_f K hq [45] (s.p1_1 [0] Z)) Z λ_ _=>.nt<|.cd Z (λh4=>?_) (λh4=>?_)
 ·have a4:Rq.ac l [45] q=true:=h4;rw [acF_T a4];have e1:q.boV l=-(q.nx.nbV l):=by unfold Rq.boV;rw [Al_if_pos a4]
  have e3:q.boS l=q.nx.nbS l:=by unfold Rq.boS;rw [Al_if_pos a4]
  rw [e1,e3];refine .sm Z<|.cs (X:=Unit) Fx.call110 Z (λW s=>number_f K (wi_ac K.gd.last hq a4)  (s.p1_1 [0] Z)) Z λ_ _=>.yw (.neg Z (c:=(-(q.nx.nbV l)).toInt) (neg_i64 nbV_rng))<|.az Z<|.tR<|?_
  refine y9 Z Z λW s=>?_;exact ⟨(),Jt,Z,s.p1_1 [0] rfl⟩
 have a4:Rq.ac l [45] q=false:=h4;rw [acF_F a4];have e1:q.boV l=q.nbV l:=by unfold Rq.boV;rw [Al_if_neg (by rw [a4];decide)]
 have e3:q.boS l=q.nbS l:=by unfold Rq.boS;rw [Al_if_neg (by rw [a4];decide)]
 rw [e1,e3];refine .sk<|.tN<|.sm Z<|.cs (X:=Unit) Fx.call110 Z (λW s=>number_f K hq  (s.p1_1 [0] Z)) Z λ_ _=>.az Z<|?_
 refine y9 Z Z λW s=>?_;exact ⟨(),Jt,Z,s.p1_1 [0] rfl⟩
theorem among_f {b:Nat} {l:Tks} {rd dn:Bool} (K:Tkf H l tp tc) (hq:q.i<l.length) (op:UInt8) (s:St H w0 (.box b [.slice tp l.length tc,iN q.i,ro,rv,.bool rd,.bool dn,.bool bd,iN q.off,iN q.er] 102::bs) W) :
 Calls prg 157 #[.pointer (some ⟨b,0,none⟩),.int .u8 op.toNat] W λe W'=>∃ _:Unit,(True)/\e=.returned (.agg [.int .u8 op.toNat,strV (q.nmV l),strV [],.int .i64 ((q.ama l).boV l).toInt,.int .i64 ((q.amb l).boV l).toInt,.slice none 0 0,.slice none 0 0].toArray)/\St H w0 (.box b [.slice tp l.length tc,iN ((q.amS l).i),ro,rv,.bool rd,.bool dn,.bool bd,iN ((q.amS l).off),iN ((q.amS l).er)] 102::bs) W':=by
 refine enterS func157 rfl ntmps157 rfl s ?_;refine .sr<|.al Fx.zero35 Z λb4=>.ns<|.mv Z<|.mv Z<|.cs (X:=Unit) Fx.call113 Z (λW s=>name_f K hq  (s.p2_2 [1,0] Z)) Z λ_ _=>.yw (.build Z (Fx.bld35_0_1 _ _))<|.al Fx.zero35 Z λb5=>.sX .head Z Z Fx.size35 Z<|.ns<|.mv Z<|.cs (X:=Unit) Fx.call114 Z (λW s=>expect_f K (wi_nm K.gd.last hq) [105,110] (s.p3_3 [1,0,2] Z)) Z λ_ _=>.ns<|.mv Z<|.cs (X:=Unit) Fx.call180 Z (λW s=>bound_f K (wi_ex K.gd.last (wi_nm K.gd.last hq))  (s.p3_3 [0,1,2] Z)) Z λ_ _=>.fA Z Fx.field35_3<|.st upd1 Z Z Fx.size3 Z (nb Z) Z<|.ns<|.mv Z<|.cs (X:=Unit) Fx.call114 Z (λW s=>expect_f K (wi_bo K.gd.last (wi_ex K.gd.last (wi_nm K.gd.last hq))) [46,46] (s.p3_3 [0,1,2] Z)) Z λ_ _=>.ns<|.mv Z<|.cs (X:=Unit) Fx.call180 Z (λW s=>bound_f K (wi_ex K.gd.last (wi_bo K.gd.last (wi_ex K.gd.last (wi_nm K.gd.last hq))))  (s.p3_3 [0,1,2] Z)) Z λ_ _=>.fA Z Fx.field35_4<|.st upd1 Z Z Fx.size3 Z (nb Z) Z<|.ns<|.yw (.loadW Z Fx.agg35 mem1 Z)<|.sX upd2 Z Z Fx.size35 Z<|.nt<|.rt<|?_
 refine y8 Z (.cell Z Fx.agg35 mem2 rfl) λW s=>?_;exact ⟨(),Jt,Z,s.p3_1 [0] rfl⟩
end Go.Proofs.YtidclioghdbphaaGreatDoor
namespace Go.Sx
open Go.RowKit Go.Par
section
variable {dfs:List Deferred} {P:Program} {n:Nat} {L:Sl} {H:Hp} {w0:World} {bs:List Res} {Q:Exit->Act->World->Prop} {ops:Array Oper} {rest:List Oper} {K:Act->World->Prop}
variable {d:Option Tmp} {ty:TypeId} {pos:String} {aft:Array Edge} {v:Value} {t:Tmp} {x y:Operand} {T:TypeId}
variable {N hn:Nat} {pa:List (Nat × Oper × Value)} {E:Sl->Hp->List Res->Prop} {fr:List (Nat × Nat × Oper)} {i k:Nat}
theorem St.perm {W:World} {bs':List Res} (s:St H w0 bs W) (h:bs.Perm bs'):St H w0 bs' W :=
 ⟨s.ext,s.agr,λz hz=>s.own z (h.mem_iff.2 hz),h.pairwise s.apart (λ{x y} k=>Res.apart.symm k),s.lo⟩
theorem St.mid {W:World} {a d c e:List Res} (s:St H w0 (a++(d++(c++e))) W):St H w0 (a++(c++(d++e))) W :=
 s.perm (List.Perm.append_left a (by rw [<-Al_List_append_assoc,<-Al_List_append_assoc];exact List.Perm.append_right e List.perm_append_comm))
theorem Yl.loadR1 {e:TypeId} {size k g c off:Nat} {xs:List Value} (hp:ev L x=some (.pointer (some ⟨g,off,none⟩))) (hT:aggN P T=some none) (hm:Res.row e size (.slice (some ⟨g,0,none⟩) k c) k xs∈bs) (hv:xs[off]? = some v) {gd:Option (Nat × Bool)}:Yl P L H w0 bs ⟨d,.load T x,ty,pos,aft,gd⟩ v:=.of_run λa W f s=>by
 have ho:W.ownsRow w0.heap.size e size (.slice (some ⟨g,0,none⟩) k c) k xs:=(s.own _ hm).1;have hc:=World.ownsRow.cells ho (g:=g) rfl off v hv;rw [Addr.add_lit,Al_Nat_zero_add] at hc;unfold execOp;simp only [f x _ hp,Instr.loadAt,Instr.sureAddr,loadVar,Sem.run_bind,Sem.run_pure,Result.andThen,run_isAgg_no hT,Al_Bool_false_eq_true,Al_if_false];rw [show (Go.load ⟨g,off,none⟩).run P W=.ok v W from by simp [Go.load,Sem.run,hc]]
theorem FlowP.apB {e:TypeId} {size bytes m c k b off:Nat} {r:Value} {xs news:List Value} {bs':Value->List Res} (hT:rowN P T=some (e,size,bytes)) (hx:ev L x=some r)
 (hm:∀ r',Upd bs (.row e size r k xs) (.row e size r' (k+m) (xs++news)) (bs' r')) (hy:ev L y=some (.slice (some ⟨b,off,none⟩) m c)) (hs:Src H bs b off news) (hl:news.length=m * size) (h1:∀ u∈news,u.oneCell'=true)
 (h63:k+m<=maxLen) (hb:(k+m) * bytes<=140737488355328) (ht:Nat.blt t N=true)
 (hr2:∀ r',RedoP dfs P ops hn w0 N L H (bs' r') i pa) (h:∀ p c,FlowP dfs P ops hn w0 N E fr pa ((t,.slice p (k+m) c)::L) H (bs' (.slice p (k+m) c))) :
 FlowP dfs P ops hn w0 N E ((i,3,⟨some t,.call ⟨.builtin .append,#[x,y],#[T,T]⟩,ty,pos,aft,none⟩)::fr) pa L H bs :=
 ⟨blt_of ht,append hT hx hm hy hs hl h1 h63 hb ht λr' _=>At.ra (hm r').new λp c e=>by subst e;exact FlowP.into (.inr<|.inr<|hr2 _) (h p c)⟩
theorem At.s1Q {g off k c size:Nat} {e:TypeId} {xs ys:List Value} {v:Value} {bs':List Res} (he:xs.set off v=ys) (hp:ev L x=some (.pointer (some ⟨g,off,none⟩))) (hv:ev L y=some v) (hT:sizeN P T=some 1) (h1:v.oneCell'=true)
 (hm:Upd bs (.row e size (.slice (some ⟨g,0,none⟩) k c) k xs) (.row e size (.slice (some ⟨g,0,none⟩) k c) k ys) bs') (ho:off<xs.length) (h:At dfs n L H w0 bs' (wpList P ops Q rest)) :
 At dfs n L H w0 bs (wpList P ops Q (⟨none,.store T x y,ty,pos,aft,none⟩::rest)):=by
 subst he;exact At.s1R hp hv hT h1 hm ho h
theorem AltT.s1Q {kk:Nat} {q:PlT} {bs':List Res} {g off k c size:Nat} {e:TypeId} {xs ys:List Value} {v:Value} (he:xs.set off v=ys) (hp:ev L x=some (.pointer (some ⟨g,off,none⟩))) (hv:ev L y=some v) (hT:sizeN P T=some 1) (h1:v.oneCell'=true)
 (hm:Upd bs (.row e size (.slice (some ⟨g,0,none⟩) k c) k xs) (.row e size (.slice (some ⟨g,0,none⟩) k c) k ys) bs') (ho:off<xs.length)
 (hr:RedoP dfs P ops hn w0 N L H bs' i pa) (h:FlowT dfs P ops hn w0 N E q pa L H bs'):AltT dfs P ops hn w0 N E i kk ⟨none,.store T x y,ty,pos,aft,none⟩ q pa L H bs:=by
 subst he;exact ⟨λ_ e=>(by cases e),storeR1 hp hv hT h1 hm ho (AltT.into0 hr h)⟩
theorem set_row {xr cs cs':List Value} {n j:Nat} {v:Value} (hl:xr.length=n) (h:cs.set j v=cs'):(xr++cs).set (n+j) v=xr++cs':=by
 subst hl h;rw [Al_List_set_append_right _ _ (Nat.le_add_right _ _),Al_Nat_add_sub_cancel_left]
end
end Go.Sx
namespace Go.Proofs.YtidclioghdbphaaGreatDoor
open Go.RowKit Go.Par Go.Sx Tryz
variable {g k c:Nat}
variable {H:Hp} {w0 W:World} {bs:List Res} {tp:Option Addr} {tc:Nat} {rv:Value} {bd:Bool} {q:Rq}
theorem top_f {b:Nat} {l:Tks} {rd dn:Bool} (K:Tkf H l tp tc) (hq:q.i<l.length) (hkm:k<=600001) (s:St H w0 (.box b [.slice tp l.length tc,iN q.i,.slice (some ⟨g,0,none⟩) (k+1) c,rv,.bool rd,.bool dn,.bool bd,iN q.off,iN q.er] 102::bs) W) :
 Calls prg 105 #[.pointer (some ⟨b,0,none⟩)] W λe W'=>∃ _:Unit,(True)/\e=.returned (.pointer (some ⟨g,k * 11,none⟩))/\St H w0 (.box b [.slice tp l.length tc,iN q.i,.slice (some ⟨g,0,none⟩) (k+1) c,rv,.bool rd,.bool dn,.bool bd,iN q.off,iN q.er] 102::bs) W':=by
 have hcap:=K.rep.cap;refine enterS func105 rfl ntmps105 rfl s ?_;refine .sr<|.aq Z<|.sq<|.fL 11 [(0,0),(1,0),(2,0),(3,0),(4,0),(5,0),(6,0),(7,0),(8,0),(9,0),(10,0)]<|.mv Z<|.nC Z<|.fA Z Fx.field102_2<|.lD Z Fx.agg98 Hm Z<|.mv Z<|.nC Z<|.fA Z Fx.field102_2<|.lD Z Fx.agg98 Hm Z<|.yw (.lenSl Fx.sl98 Z)<|.yw (.sub Z Z (c:=((k:Nat):Int)) ((w6 (by omega)).trans (by omega)))<|.yw (.indexSl Fx.sl98 Z Z (i:=k) Z (by omega) (q:=k * 11) (by omega))<|.fn (tl:=[_]) Z<|.az Z<|?_
 refine y9 Z Z λW s=>?_;exact ⟨(),Jt,Z,s.p1_1 [0] rfl⟩
theorem one11 {lv:Nat} {t:Bool} {a0 a3 a4 a5 a6 a7 a8 a9 a10:Value} (h1:∀ u∈[a0,a3,a4,a5,a6,a7,a8,a9,a10],u.oneCell'=true):∀ u∈[a0,iN lv,.bool t,a3,a4,a5,a6,a7,a8,a9,a10],u.oneCell'=true:=by
 intro u hu;simp only [Al_List_mem_cons,List.not_mem_nil,or_false] at hu h1;rcases hu with h | h | h | h | h | h | h | h | h | h | h
 ·exact h1 u (by simp [h])
 ·rw [h];rfl
 ·rw [h];rfl
 all_goals exact h1 u (by simp [h])
variable {xo:List Value}
variable {ro:Value}
theorem push_f {b:Nat} {l:Tks} {rd dn:Bool} (K:Tkf H l tp tc) (hq:q.i<l.length) {lv:Nat} {t t':Bool} {a0 a3 a4 a5 a6 a7 a8 a9 a10:Value} (h1:∀ u∈[a0,a3,a4,a5,a6,a7,a8,a9,a10],u.oneCell'=true) (hkm:k<=600001) (hT:0<lv->∃ k1,k=k1+1/\xo[k1 * 11+2]? = some (.bool t')) (s:St H w0 (.box b [.slice tp l.length tc,iN q.i,ro,rv,.bool rd,.bool dn,.bool bd,iN q.off,iN q.er] 102::.row 97 11 (ro) (k) (xo)::bs) W) :
 Calls prg 109 #[.pointer (some ⟨b,0,none⟩),.agg [a0,iN lv,.bool t,a3,a4,a5,a6,a7,a8,a9,a10].toArray] W λe W'=>∃ z:Option Addr × Nat,(True)/\e=.returned (.tuple #[])/\St H w0 (.box b [.slice tp l.length tc,iN q.i,(.slice z.1 (k+1) z.2),rv,.bool false,.bool dn,.bool bd,iN q.off,iN q.er] 102::.row 97 11 (.slice z.1 (k+1) z.2) (k+1) (xo++[a0,iN lv,.bool (if 0<lv then t' else t),a3,a4,a5,a6,a7,a8,a9,a10])::bs) W':=by
 have hcap:=K.rep.cap;refine enterS func109 rfl ntmps109 rfl s ?_;refine .sr<|.bx Z Z Z λb3=>.nt<|.sq<|.sr<|.fA Z Fx.field97_1<|.lD Z Fx.agg3 Hm Z<|.yw (.gtr Z Z)<|.nt<|.ce Z (λh6=>?_) (λh6=>?_)
 ·obtain ⟨k1,rfl,ht⟩:=hT (by omega);refine Sx.At.rs (size:=11) (k:=k1+1) (r:=ro) (xs:=xo) (e:=97) mem2 (by omega) λg c e=>?_;subst e;refine .rg<|.mv Z<|.cs (X:=Unit) Fx.call105 Z (λW s=>top_f K hq (g:=g) (k:=k1) (c:=c) (by omega) (s.p3_3 [1,0,2] Z)) Z λ_ _=>.nC Z<|.fA Z Fx.field97_2<|.yw (.loadR1 Z Fx.agg4 mem2 ht)<|.fA Z Fx.field97_2<|.st upd1 Z Z Fx.size4 Z (nb Z) Z<|.nt<|.sq<|.fL 8 [(0,0),(1,0),(2,0),(3,0),(4,0),(5,0),(6,1),(7,3)]<|.mv Z<|.mv Z<|.nC Z<|.fA Z Fx.field102_2<|.lD Z Fx.agg98 Hm Z<|.yw (.loadW Z Fx.agg97 mem1 Z)<|.bl Z (Fx.bsl98_1 _ _ _ _ _ _ _ _ _ _ _) Z λb19=>.apB Fx.row98 Z (λ_=>upd3) Z (.box Hm z0) Z (one11 h1) (by simp only [maxLen];omega) (by omega) Z (λ_=>(.d3<|.d2<|.yv (.move Z)<|.nl)) λp20 c20=>.fn (tl:=[_,_,_]) Z<|.nC Z<|.fA Z Fx.field102_2<|.st upd1 Z Z Fx.size98 Z (nb Z) Z<|.nt<|.rg<|.mv Z<|.nC Z<|.fA Z Fx.field102_4<|.st upd1 Z Z Fx.size4 Z (nb Z) Z<|.nl<|?_
  refine retN (.inr Z) rfl .nil rfl λW s=>⟨(p20,c20),Jt,Z,?_⟩;rw [Al_if_pos (show 0<lv by omega)];exact s.p4_2 [1,3] rfl
 refine .sk<|.tN<|.sq<|.fL 8 [(0,0),(1,0),(2,0),(3,0),(4,0),(5,0),(6,1),(7,3)]<|.mv Z<|.mv Z<|.nC Z<|.fA Z Fx.field102_2<|.lD Z Fx.agg98 mem1 Z<|.yw (.loadW Z Fx.agg97 Hm Z)<|.bl Z (Fx.bsl98_1 _ _ _ _ _ _ _ _ _ _ _) Z λb19=>.apB Fx.row98 Z (λ_=>upd3) Z (.box Hm z0) Z (one11 h1) (by simp only [maxLen];omega) (by omega) Z (λ_=>(.d3<|.d2<|.yv (.move Z)<|.nl)) λp20 c20=>.fn (tl:=[_,_,_]) Z<|.nC Z<|.fA Z Fx.field102_2<|.st upd2 Z Z Fx.size98 Z (nb Z) Z<|.nt<|.rg<|.mv Z<|.nC Z<|.fA Z Fx.field102_4<|.st upd2 Z Z Fx.size4 Z (nb Z) Z<|.nl<|?_
 refine retN (.inr Z) rfl .nil rfl λW s=>⟨(p20,c20),Jt,Z,?_⟩;rw [Al_if_neg (show ¬ 0<lv by omega)];exact s.p4_2 [2,3] rfl
variable {v0 v1:Value} {xv:List Value}
theorem give_f {b:Nat} {l:Tks} {rd dn:Bool} (K:Tkf H l tp tc) (hq:q.i<l.length) {v2 v3 v4 v5 v6 v7 v8 v9 va vb vc:Value} (h1:∀ u∈[v0,v1,v2,v3,v4,v5,v6,v7,v8,v9,va,vb,vc],u.oneCell'=true) (hkm:k<=600001) (s:St H w0 (.box b [.slice tp l.length tc,iN q.i,ro,rv,.bool rd,.bool dn,.bool bd,iN q.off,iN q.er] 102::.row 179 13 (rv) (k) (xv)::bs) W) :
 Calls prg 108 #[.pointer (some ⟨b,0,none⟩),.agg [v0,v1,v2,v3,v4,v5,v6,v7,v8,v9,va,vb,vc].toArray] W λe W'=>∃ z:Option Addr × Nat,(True)/\e=.returned (.tuple #[])/\St H w0 (.box b [.slice tp l.length tc,iN q.i,ro,(.slice z.1 (k+1) z.2),.bool true,.bool dn,.bool bd,iN q.off,iN q.er] 102::.row 179 13 (.slice z.1 (k+1) z.2) (k+1) (xv++[v0,v1,v2,v3,v4,v5,v6,v7,v8,v9,va,vb,vc])::bs) W':=by
 have hcap:=K.rep.cap;refine enterS func108 rfl ntmps108 rfl s ?_;refine .sr<|.bx Z Z Z λb3=>.nt<|.sq<|.fL 8 [(0,0),(1,0),(2,0),(3,0),(4,0),(5,0),(6,1),(7,3)]<|.mv Z<|.mv Z<|.nC Z<|.fA Z Fx.field102_3<|.lD Z Fx.agg100 mem1 Z<|.yw (.loadW Z Fx.agg179 Hm Z)<|.bl Z (Fx.bsl100_1 _ _ _ _ _ _ _ _ _ _ _ _ _) Z λb10=>.apB Fx.row100 Z (λ_=>upd3) Z (.box Hm z0) Z h1 (by simp only [maxLen];omega) (by omega) Z (λ_=>(.d3<|.d2<|.yv (.move Z)<|.nl)) λp20 c20=>.fn (tl:=[_,_,_]) Z<|.nC Z<|.fA Z Fx.field102_3<|.st upd2 Z Z Fx.size100 Z (nb Z) Z<|.nt<|.rg<|.mv Z<|.nC Z<|.fA Z Fx.field102_4<|.st upd2 Z Z Fx.size4 Z (nb Z) Z<|.nl<|?_
 refine retN (.inr Z) rfl .nil rfl λW s=>⟨(p20,c20),Jt,Z,?_⟩;exact s.p4_2 [2,3] rfl
variable {xr:List Value}
theorem pop_f {b:Nat} {l:Tks} {rd dn:Bool} (K:Tkf H l tp tc) (hq:q.i<l.length) {v2 v3 v4 v5 v6 v7 v8 v9 va vb vc:Value} (h1:∀ u∈[v0,v1,v2,v3,v4,v5,v6,v7,v8,v9,va,vb,vc],u.oneCell'=true) (hkm:k<=600001) (hl:xr.length=k * 13) (s:St H w0 (.box b [.slice tp l.length tc,iN q.i,ro,rv,.bool rd,.bool dn,.bool bd,iN q.off,iN q.er] 102::.row 179 13 (rv) (k+1) (xr++[v0,v1,v2,v3,v4,v5,v6,v7,v8,v9,va,vb,vc])::bs) W) :
 Calls prg 116 #[.pointer (some ⟨b,0,none⟩)] W λe W'=>∃ z:Nat × Nat,(True)/\e=.returned (.agg [v0,v1,v2,v3,v4,v5,v6,v7,v8,v9,va,vb,vc].toArray)/\St H w0 (.box b [.slice tp l.length tc,iN q.i,ro,(.slice (some ⟨z.1,0,none⟩) k z.2),.bool rd,.bool dn,.bool bd,iN q.off,iN q.er] 102::.row 179 13 (.slice (some ⟨z.1,0,none⟩) k z.2) (k) (xr)::bs) W':=by
 have hcap:=K.rep.cap;refine enterS func116 rfl ntmps116 rfl s ?_;refine Sx.rowCase (size:=13) (k:=k+1) (r:=rv) (e:=179) mem1 (by omega) λg c e hkc=>?_;subst e;refine .sr<|.al Fx.zero179 Z λb2=>.ns<|.mv Z<|.nC Z<|.fA Z Fx.field102_3<|.lD Z Fx.agg100 mem1 Z<|.yw (.lenSl Fx.sl100 Z)<|.yw (.sub Z Z (c:=((k:Nat):Int)) ((w6 (by omega)).trans (by omega)))<|.a Z Z<|.ns<|.mv Z<|.nC Z<|.fA Z Fx.field102_3<|.lD Z Fx.agg100 mem1 Z<|.mv Z<|.yw (.indexSl Fx.sl100 Z Z (i:=k) Z (by omega) (q:=k * 13) (by omega))<|.yw (.loadR (vs:=[v0,v1,v2,v3,v4,v5,v6,v7,v8,v9,va,vb,vc]) Z Fx.agg179 mem2 Z (λj u h=>(List.getElem?_append_right (by omega)).trans (by rw [hl,Al_Nat_add_sub_cancel_left];exact h)))<|.al Fx.zero179 Z λb4=>.sW .head Z Z Fx.size179 h1 Z<|.ns<|.mv Z<|.mv Z<|.nC Z<|.fA Z Fx.field102_3<|.lD Z Fx.agg100 mem2 Z<|.mv Z<|.yw (.cutHi Fx.sl100 Z Z Z (by omega) (λq e=>by cases e;rfl))<|.nC Z<|.fA Z Fx.field102_3<|.st upd2 Z Z Fx.size100 Z (nb Z) Z<|?_
 refine Sx.At.rcut (size:=13) (m:=k) (ys:=xr) upd3 (by omega) (by rw [<-hl,Al_List_take_left]) ?_;refine .ns<|.yw (.loadW Z Fx.agg179 Hm Z)<|.sW upd1 Z Z Fx.size179 h1 Z<|.nt<|.rt<|?_
 refine y8 Z (.cell Z Fx.agg179 mem1 rfl) λW s=>?_;exact ⟨(g,c),Jt,Z,s.p4_2 [2,3] rfl⟩
abbrev vC (v:Vl) (s0 s1 s2:Value):List Value:=[.bool v.tm,.bool v.wh,.int .u8 v.e.op.toNat,strV v.e.nm,.int .i64 v.e.n.toInt,s0,.int .u8 v.f.op.toNat,strV v.f.nm,strV v.f.fd,.int .i64 v.f.a.toInt,.int .i64 v.f.b.toInt,s1,s2]
abbrev oC (o:Ov) (s1 s2:Value):List Value:=[.int .u8 o.kd.toNat,iN o.lv,.bool o.tm,.int .u8 o.op.toNat,.int .u8 o.f.op.toNat,strV o.f.nm,strV o.f.fd,.int .i64 o.f.a.toInt,.int .i64 o.f.b.toInt,s1,s2]
structure FmR (H:Hp) (f:Fm) (s1 s2:Value):Prop where
 ex:Rep H (.seq 4 (f.ex.map (dEx .u8))) [s1]
 ar:Rep H (.seq 7 (f.args.map (dFm .u8))) [s2]
 nm:f.nm.length<=1000000
 fd:f.fd.length<=1000000
structure ExR (H:Hp) (e:Ex) (s:Value):Prop where
 ar:Rep H (.seq 4 (e.args.map (dEx .u8))) [s]
 nm:e.nm.length<=1000000
structure VlR (H:Hp) (v:Vl) (s0 s1 s2:Value):Prop where
 e:ExR H v.e s0
 f:FmR H v.f s1 s2
variable {H':Hp} {s1 s2:Value}
theorem FmR.up {f:Fm} (h:FmR H f s1 s2) (u:Up H H'):FmR H' f s1 s2:=⟨h.ex.up u,h.ar.up u,h.nm,h.fd⟩
theorem ExR.up {e:Ex} {s:Value} (h:ExR H e s) (u:Up H H'):ExR H' e s:=⟨h.ar.up u,h.nm⟩
theorem VlR.up {v:Vl} {s0:Value} (h:VlR H v s0 s1 s2) (u:Up H H'):VlR H' v s0 s1 s2:=⟨h.e.up u,h.f.up u⟩
theorem ExR.rep {e:Ex} {s:Value} (h:ExR H e s):Rep H (dEx .u8 e) [.int .u8 e.op.toNat,strV e.nm,.int .i64 e.n.toInt,s]:=by
 obtain ⟨op,nm,n,args⟩:=e;exact ex_shut h.nm h.ar
theorem FmR.rep {f:Fm} (h:FmR H f s1 s2):Rep H (dFm .u8 f) (cFm .u8 f.op f.nm f.fd f.a f.b s1 s2):=by
 obtain ⟨op,nm,fd,a,b,ex,args⟩:=f;exact fm_shut h.nm h.fd h.ex h.ar
variable {z:Nat}
theorem Rep.nil4:Rep H (.seq z []) [.slice none 0 0]:=Rep.empty (p:=none) (c:=0) (by decide)
theorem FmR.zero {f:Fm} (h1:f.ex=[]) (h2:f.args=[]) (h3:f.nm.length<=1000000) (h4:f.fd.length<=1000000):FmR H f (.slice none 0 0) (.slice none 0 0):=⟨by rw [h1];exact Rep.nil4,by rw [h2];exact Rep.nil4,h3,h4⟩
theorem ExR.zero {e:Ex} (h1:e.args=[]) (h3:e.nm.length<=1000000):ExR H e (.slice none 0 0):=⟨by rw [h1];exact Rep.nil4,h3⟩
theorem one_sl {ds:List D} {s:Value} (h:Rep H (.seq z ds) [s]):s.oneCell'=true:=h.one s (Al_List_mem_singleton.2 rfl)
theorem VlR.one {v:Vl} {s0:Value} (h:VlR H v s0 s1 s2):∀ u∈vC v s0 s1 s2,u.oneCell'=true:=by
 intro u hu;simp only [Al_List_mem_cons,List.not_mem_nil,or_false] at hu;rcases hu with rfl | rfl | rfl | rfl | rfl | rfl | rfl | rfl | rfl | rfl | rfl | rfl | rfl <;> first | rfl | exact one_sl h.e.ar | exact one_sl h.f.ex | exact one_sl h.f.ar
inductive VR (H:Hp):List Vl->List Value->Prop
 | nil:VR H [] []
 | cons {v:Vl} {vs:List Vl} {xv:List Value} {s0 s1 s2:Value}:VR H vs xv->VlR H v s0 s1 s2->VR H (v::vs) (xv++vC v s0 s1 s2)
theorem VR.up (u:Up H H'):∀ {vs:List Vl} {xv:List Value},VR H vs xv->VR H' vs xv
 | _,_,.nil=>.nil
 | _,_,.cons h k=>.cons (h.up u) (k.up u)
theorem VR.len:∀ {vs:List Vl} {xv:List Value},VR H vs xv->xv.length=vs.length * 13
 | _,_,.nil=>rfl
 | _,_,.cons h _=>by have:=h.len;simp only [Al_List_length_append,Al_List_length_cons,Al_List_length_nil];omega
inductive Ops (H:Hp):List Ov->List Value->List Res->Prop
 | nil:Ops H [] [] []
 | cons {o:Ov} {r:List Ov} {xo:List Value} {s1 s2:Value} {AR:List Res}:Ops H r xo AR->o.kd≠5->FmR H o.f s1 s2->Ops H (o::r) (xo++oC o s1 s2) AR
 | arg {o:Ov} {r:List Ov} {xo xe:List Value} {s1:Value} {AR:List Res}:Ops H r xo AR->o.kd=5->o.f.args=[]->o.f.nm.length<=1000000->o.f.fd.length<=1000000->RepZ H 4 (o.f.ex.map (dEx .u8)) xe->s1.oneCell'=true->Ops H (o::r) (xo++oC o s1 (.slice none 0 0)) (.row 76 4 s1 o.f.ex.length xe::AR)
theorem Ops.up (u:Up H H'):∀ {os:List Ov} {xo:List Value} {AR:List Res},Ops H os xo AR->Ops H' os xo AR
 | _,_,_,.nil=>.nil
 | _,_,_,.cons h k f=>.cons (h.up u) k (f.up u)
 | _,_,_,.arg h k a b c z s=>.arg (h.up u) k a b c (z.up u) s
theorem Ops.len:∀ {os:List Ov} {xo:List Value} {AR:List Res},Ops H os xo AR->xo.length=os.length * 11
 | _,_,_,.nil=>rfl
 | _,_,_,.cons h _ _=>by have:=h.len;simp only [Al_List_length_append,Al_List_length_cons,Al_List_length_nil];omega
 | _,_,_,.arg h _ _ _ _ _ _=>by have:=h.len;simp only [Al_List_length_append,Al_List_length_cons,Al_List_length_nil];omega
variable {AR:List Res}
theorem Ops.top {o:Ov} {r:List Ov} (h:Ops H (o::r) xo AR):∃ xr s1 s2,xo=xr++oC o s1 s2/\xr.length=r.length * 11/\s1.oneCell'=true/\s2.oneCell'=true:=by
 cases h with
 | cons h k f=>exact ⟨_,_,_,Z,h.len,one_sl f.ex,one_sl f.ar⟩
 | arg h k a b c z s=>exact ⟨_,_,_,Z,h.len,s,Z⟩
variable {n j:Nat}
theorem app_at {cs:List Value} {u:Value} (hl:xr.length=n) (h:cs[j]? = some u):(xr++cs)[n+j]? = some u:=by
 subst hl;rw [List.getElem?_append_right (Nat.le_add_right _ _),Al_Nat_add_sub_cancel_left];exact h
theorem oC_one {o:Ov} (h1:s1.oneCell'=true) (h2:s2.oneCell'=true):∀ u∈oC o s1 s2,u.oneCell'=true:=by
 intro u hu;simp only [Al_List_mem_cons,List.not_mem_nil,or_false] at hu;rcases hu with rfl | rfl | rfl | rfl | rfl | rfl | rfl | rfl | rfl | rfl | rfl <;> first | rfl | exact h1 | exact h2
structure Sq (H:Hp) (q:Ps) (xo xv:List Value) (AR:List Res):Prop where
 ops:Ops H q.op xo AR
 vls:VR H q.x.1 xv
theorem Sq.up {q:Ps} (h:Sq H q xo xv AR) (u:Up H H'):Sq H' q xo xv AR:=⟨h.ops.up u,h.vls.up u⟩
theorem Sq.at {q:Ps} {c:Rq} (h:Sq H q xo xv AR):Sq H (q.at c) xo xv AR:=⟨h.ops,h.vls⟩
abbrev pB (tp:Option Addr) (n tc:Nat) (q:Ps) (b:Nat) (ro rv:Value) (xo xv:List Value):List Res:=[.box b [.slice tp n tc,iN q.c.i,ro,rv,.bool q.rd,.bool q.dn,.bool q.x.2,iN q.c.off,iN q.c.er] 102,.row 97 11 ro q.op.length xo,.row 179 13 rv q.x.1.length xv]
abbrev StP (H:Hp) (w0:World) (bs:List Res) (W:World) (b:Nat) (l:Tks) (tp:Option Addr) (tc:Nat) (q:Ps) (ro rv:Value) (xo xv:List Value) (AR:List Res):Prop:=St H w0 (pB tp l.length tc q b ro rv xo xv++(AR++bs)) W
def Get (w0:World) (bs:List Res) (b:Nat) (l:Tks) (tp:Option Addr) (tc:Nat) (H:Hp) (q:Ps) (e:Ending) (W:World):Prop :=
 ∃ z:Hp × Value × Value × List Value × List Value × List Res,(HUp w0 H z.1/\Sq z.1 q z.2.2.2.1 z.2.2.2.2.1 z.2.2.2.2.2)/\e=.returned (.tuple #[])/\StP z.1 w0 bs W b l tp tc q z.2.1 z.2.2.1 z.2.2.2.1 z.2.2.2.2.1 z.2.2.2.2.2
end Go.Proofs.YtidclioghdbphaaGreatDoor
namespace Go.Proofs
open Go.Shelf
def Tryz.lays156_ren:Go.Shelf.Ren:=⟨λ| 156=>90 | 165=>141 | 166=>142 | 169=>143 | 240=>172 | 241=>173 | 276=>195 | 277=>196 | n=>n,λ| 31=>71 | 9=>9 | 3=>3 | 4=>4 | 0=>0 | 20=>20 | 72=>209 | 76=>212 | 70=>207 | 37=>50 | 75=>211 | 127=>232 | 164=>247 | 5=>5 | 80=>40 | n=>n,λ| n=>n⟩
theorem Tryz.lays156:Go.Proofs.Lays.n156 prg Tryz.lays156_ren:={
 mixed:=by kernel_rfl
 f156:=Tryz.func90.trans (congrArg some (by kernel_rfl))
 f165:=Tryz.func141.trans (congrArg some (by kernel_rfl))
 f166:=Tryz.func142.trans (congrArg some (by kernel_rfl))
 f169:=Tryz.func143.trans (congrArg some (by kernel_rfl))
 f240:=Tryz.func172.trans (congrArg some (by kernel_rfl))
 f241:=Tryz.func173.trans (congrArg some (by kernel_rfl))
 f276:=Tryz.func195.trans (congrArg some (by kernel_rfl))
 f277:=Tryz.func196.trans (congrArg some (by kernel_rfl))
 t0:=Tryz.underlying0
 a0:=Tryz.isAgg0
 z0:=Tryz.sizeOf0
 v0:=Tryz.zeroValue0
 t3:=Tryz.underlying3
 a3:=Tryz.isAgg3
 z3:=Tryz.sizeOf3
 v3:=Tryz.zeroValue3
 t4:=Tryz.underlying4
 a4:=Tryz.isAgg4
 z4:=Tryz.sizeOf4
 v4:=Tryz.zeroValue4
 t9:=Tryz.underlying9
 a9:=Tryz.isAgg9
 z9:=Tryz.sizeOf9
 v9:=Tryz.zeroValue9
 t20:=Tryz.underlying20
 a20:=Tryz.isAgg20
 z20:=Tryz.sizeOf20
 v20:=Tryz.zeroValue20
 t31:=Tryz.underlying71
 a31:=Tryz.isAgg71
 z31:=Tryz.sizeOf71
 v31:=Tryz.zeroValue71
 t37:=Tryz.underlying50
 a37:=Tryz.isAgg50
 z37:=Tryz.sizeOf50
 v37:=Tryz.zeroValue50
 t70:=Tryz.underlying207
 a70:=Tryz.isAgg207
 z70:=Tryz.sizeOf207
 v70:=Tryz.zeroValue207
 t72:=Tryz.underlying209
 a72:=Tryz.isAgg209
 z72:=Tryz.sizeOf209
 v72:=Tryz.zeroValue209
 t75:=Tryz.underlying211
 a75:=Tryz.isAgg211
 z75:=Tryz.sizeOf211
 v75:=Tryz.zeroValue211
 t76:=Tryz.underlying212
 a76:=Tryz.isAgg212
 z76:=Tryz.sizeOf212
 v76:=Tryz.zeroValue212
 t127:=Tryz.underlying232
 a127:=Tryz.isAgg232
 z127:=Tryz.sizeOf232
 v127:=Tryz.zeroValue232
 t164:=Tryz.underlying247
 a164:=Tryz.isAgg247
 z164:=Tryz.sizeOf247
 v164:=Tryz.zeroValue247 }
theorem Tryz.Builder_Extra_156:Builder.Extra prg Tryz.lays156_ren:={
 sizeBuilder:=by kernel_rfl
 liesBuilder:=by kernel_rfl
 t5:=Tryz.underlying5
 a5:=Tryz.isAgg5
 z5:=Tryz.sizeOf5
 v5:=Tryz.zeroValue5
 infoByte:=by kernel_rfl
 cellsByte:=by kernel_rfl
 sizeByte:=by kernel_rfl
 neB5:=by decide }
open Go.RowKit in
theorem Tryz.strings_Join_none (a:Option Addr) (c:Nat) (sep:ByteArray) (w:World) :
 Calls prg 90 #[.slice a 0 c,.string sep] w λe w'=>e=.returned (.string ⟨#[]⟩)/\w'=w:=Any.strings_Join_none Tryz.lays156 Tryz.Builder_Extra_156 a c sep w
open Go.RowKit in
theorem Tryz.strings_Join (bk o c:Nat) (xs:List ByteArray) (sep:ByteArray) (w:World) (hcells:∀ (j:Nat) x,xs[j]? = some x->w.cell? ⟨bk,o+j,none⟩=some (.string x)) (hbk:bk<w.heap.size) (hN:xs.length<=140737488355328) (hcap:xs.length<=c) (hlen:(Lib.join (xs.map (·.data.toList)) sep.data.toList).length<=140737488355328) :
 Calls prg 90 #[.slice (some ⟨bk,o,none⟩) xs.length c,.string sep] w λe w'=>e=.returned (.string ⟨(Lib.join (xs.map (·.data.toList)) sep.data.toList).toArray⟩)/\Below w.heap.size w w':=Any.strings_Join Tryz.lays156 Tryz.Builder_Extra_156 bk o c xs sep w hcells hbk hN hcap hlen
def Tryz.laysM171_ren:Go.Shelf.Ren:=⟨λ| 171=>144 | 243=>174 | 246=>171 | 283=>191 | 284=>192 | 285=>193 | 286=>194 | 129=>203 | 317=>202 | 318=>204 | 319=>205 | 320=>206 | 337=>210 | 338=>211 | n=>n,λ| 3=>3 | 9=>9 | 2=>2 | 4=>4 | 171=>241 | 0=>0 | 53=>242 | 37=>50 | 5=>5 | 173=>245 | 212=>257 | 51=>250 | 20=>20 | 213=>258 | 46=>234 | 232=>264 | 233=>265 | n=>n,λ| 17=>6 | 18=>7 | 19=>8 | n=>n⟩
theorem Tryz.laysM171:Go.Proofs.LaysM.n171 prg Tryz.laysM171_ren:={
 mixed:=by kernel_rfl
 f129:=Tryz.func203.trans (congrArg some (by kernel_rfl))
 f171:=Tryz.func144.trans (congrArg some (by kernel_rfl))
 f243:=Tryz.func174.trans (congrArg some (by kernel_rfl))
 f246:=Tryz.func171.trans (congrArg some (by kernel_rfl))
 f283:=Tryz.func191.trans (congrArg some (by kernel_rfl))
 f284:=Tryz.func192.trans (congrArg some (by kernel_rfl))
 f285:=Tryz.func193.trans (congrArg some (by kernel_rfl))
 f286:=Tryz.func194.trans (congrArg some (by kernel_rfl))
 f317:=Tryz.func202.trans (congrArg some (by kernel_rfl))
 f318:=Tryz.func204.trans (congrArg some (by kernel_rfl))
 f319:=Tryz.func205.trans (congrArg some (by kernel_rfl))
 f320:=Tryz.func206.trans (congrArg some (by kernel_rfl))
 f337:=Tryz.func210.trans (congrArg some (by kernel_rfl))
 f338:=Tryz.func211.trans (congrArg some (by kernel_rfl))
 t0:=Tryz.underlying0
 a0:=Tryz.isAgg0
 z0:=Tryz.sizeOf0
 v0:=Tryz.zeroValue0
 t2:=Tryz.underlying2
 a2:=Tryz.isAgg2
 z2:=Tryz.sizeOf2
 v2:=Tryz.zeroValue2
 t3:=Tryz.underlying3
 a3:=Tryz.isAgg3
 z3:=Tryz.sizeOf3
 v3:=Tryz.zeroValue3
 t4:=Tryz.underlying4
 a4:=Tryz.isAgg4
 z4:=Tryz.sizeOf4
 v4:=Tryz.zeroValue4
 t5:=Tryz.underlying5
 a5:=Tryz.isAgg5
 z5:=Tryz.sizeOf5
 v5:=Tryz.zeroValue5
 t9:=Tryz.underlying9
 a9:=Tryz.isAgg9
 z9:=Tryz.sizeOf9
 v9:=Tryz.zeroValue9
 t20:=Tryz.underlying20
 a20:=Tryz.isAgg20
 z20:=Tryz.sizeOf20
 v20:=Tryz.zeroValue20
 t37:=Tryz.underlying50
 a37:=Tryz.isAgg50
 z37:=Tryz.sizeOf50
 v37:=Tryz.zeroValue50
 t46:=Tryz.underlying234
 a46:=Tryz.isAgg234
 z46:=Tryz.sizeOf234
 v46:=Tryz.zeroValue234
 t51:=Tryz.underlying250
 a51:=Tryz.isAgg250
 z51:=Tryz.sizeOf250
 v51:=Tryz.zeroValue250
 t53:=Tryz.underlying242
 a53:=Tryz.isAgg242
 z53:=Tryz.sizeOf242
 v53:=Tryz.zeroValue242
 t171:=Tryz.underlying241
 a171:=Tryz.isAgg241
 z171:=Tryz.sizeOf241
 v171:=Tryz.zeroValue241
 t173:=Tryz.underlying245
 a173:=Tryz.isAgg245
 z173:=Tryz.sizeOf245
 v173:=Tryz.zeroValue245
 t212:=Tryz.underlying257
 a212:=Tryz.isAgg257
 z212:=Tryz.sizeOf257
 v212:=Tryz.zeroValue257
 t213:=Tryz.underlying258
 a213:=Tryz.isAgg258
 z213:=Tryz.sizeOf258
 t232:=Tryz.underlying264
 a232:=Tryz.isAgg264
 z232:=Tryz.sizeOf264
 v232:=Tryz.zeroValue264
 t233:=Tryz.underlying265
 a233:=Tryz.isAgg265
 z233:=Tryz.sizeOf265
 v233:=Tryz.zeroValue265
 g17:=by kernel_rfl
 g18:=by kernel_rfl
 g19:=by kernel_rfl
 i0:=by kernel_rfl
 i2:=by kernel_rfl
 i3:=by kernel_rfl
 i4:=by kernel_rfl
 i5:=by kernel_rfl
 i9:=by kernel_rfl
 i20:=by kernel_rfl
 i37:=by kernel_rfl
 i46:=by kernel_rfl
 i51:=by kernel_rfl
 i53:=by kernel_rfl
 i171:=by kernel_rfl
 i173:=by kernel_rfl
 i212:=by kernel_rfl
 i232:=by kernel_rfl
 i233:=by kernel_rfl
 m17:=by kernel_rfl
 m18:=by kernel_rfl
 m19:=by kernel_rfl }
open Go.RowKit Go.Sort Go.Lib in
theorem Tryz.strconv_Itoa (n:Int) (h0:-9223372036854775808<=n) (h1:n<=9223372036854775807) (w:World) (htab:Lib.TabIs prg w "internal/strconv.uint64pow10" .u64 Lib.pow10Tab) :
 Calls prg 144 #[.int .i64 n] w λe w'=>e=.returned (.string ⟨(Lib.itoa n).toArray⟩)/\∃ k os,w'=grow (w.drewN k) os:=Any.strconv_Itoa Tryz.laysM171 n h0 h1 w htab
def Tryz.laysM173_ren:Go.Shelf.Ren:=⟨λ| 173=>138 | 246=>171 | 283=>191 | 284=>192 | 285=>193 | 286=>194 | 129=>203 | 317=>202 | 318=>204 | 319=>205 | 320=>206 | 337=>210 | 338=>211 | n=>n,λ| 2=>2 | 3=>3 | 9=>9 | 4=>4 | 171=>241 | 0=>0 | 53=>242 | 37=>50 | 5=>5 | 173=>245 | 212=>257 | 51=>250 | 20=>20 | 213=>258 | 46=>234 | 232=>264 | 233=>265 | n=>n,λ| 17=>6 | 18=>7 | 19=>8 | n=>n⟩
theorem Tryz.laysM173:Go.Proofs.LaysM.n173 prg Tryz.laysM173_ren:={
 mixed:=by kernel_rfl
 f129:=Tryz.func203.trans (congrArg some (by kernel_rfl))
 f173:=Tryz.func138.trans (congrArg some (by kernel_rfl))
 f246:=Tryz.func171.trans (congrArg some (by kernel_rfl))
 f283:=Tryz.func191.trans (congrArg some (by kernel_rfl))
 f284:=Tryz.func192.trans (congrArg some (by kernel_rfl))
 f285:=Tryz.func193.trans (congrArg some (by kernel_rfl))
 f286:=Tryz.func194.trans (congrArg some (by kernel_rfl))
 f317:=Tryz.func202.trans (congrArg some (by kernel_rfl))
 f318:=Tryz.func204.trans (congrArg some (by kernel_rfl))
 f319:=Tryz.func205.trans (congrArg some (by kernel_rfl))
 f320:=Tryz.func206.trans (congrArg some (by kernel_rfl))
 f337:=Tryz.func210.trans (congrArg some (by kernel_rfl))
 f338:=Tryz.func211.trans (congrArg some (by kernel_rfl))
 t0:=Tryz.underlying0
 a0:=Tryz.isAgg0
 z0:=Tryz.sizeOf0
 v0:=Tryz.zeroValue0
 t2:=Tryz.underlying2
 a2:=Tryz.isAgg2
 z2:=Tryz.sizeOf2
 v2:=Tryz.zeroValue2
 t3:=Tryz.underlying3
 a3:=Tryz.isAgg3
 z3:=Tryz.sizeOf3
 v3:=Tryz.zeroValue3
 t4:=Tryz.underlying4
 a4:=Tryz.isAgg4
 z4:=Tryz.sizeOf4
 v4:=Tryz.zeroValue4
 t5:=Tryz.underlying5
 a5:=Tryz.isAgg5
 z5:=Tryz.sizeOf5
 v5:=Tryz.zeroValue5
 t9:=Tryz.underlying9
 a9:=Tryz.isAgg9
 z9:=Tryz.sizeOf9
 v9:=Tryz.zeroValue9
 t20:=Tryz.underlying20
 a20:=Tryz.isAgg20
 z20:=Tryz.sizeOf20
 v20:=Tryz.zeroValue20
 t37:=Tryz.underlying50
 a37:=Tryz.isAgg50
 z37:=Tryz.sizeOf50
 v37:=Tryz.zeroValue50
 t46:=Tryz.underlying234
 a46:=Tryz.isAgg234
 z46:=Tryz.sizeOf234
 v46:=Tryz.zeroValue234
 t51:=Tryz.underlying250
 a51:=Tryz.isAgg250
 z51:=Tryz.sizeOf250
 v51:=Tryz.zeroValue250
 t53:=Tryz.underlying242
 a53:=Tryz.isAgg242
 z53:=Tryz.sizeOf242
 v53:=Tryz.zeroValue242
 t171:=Tryz.underlying241
 a171:=Tryz.isAgg241
 z171:=Tryz.sizeOf241
 v171:=Tryz.zeroValue241
 t173:=Tryz.underlying245
 a173:=Tryz.isAgg245
 z173:=Tryz.sizeOf245
 v173:=Tryz.zeroValue245
 t212:=Tryz.underlying257
 a212:=Tryz.isAgg257
 z212:=Tryz.sizeOf257
 v212:=Tryz.zeroValue257
 t213:=Tryz.underlying258
 a213:=Tryz.isAgg258
 z213:=Tryz.sizeOf258
 t232:=Tryz.underlying264
 a232:=Tryz.isAgg264
 z232:=Tryz.sizeOf264
 v232:=Tryz.zeroValue264
 t233:=Tryz.underlying265
 a233:=Tryz.isAgg265
 z233:=Tryz.sizeOf265
 v233:=Tryz.zeroValue265
 g17:=by kernel_rfl
 g18:=by kernel_rfl
 g19:=by kernel_rfl
 i0:=by kernel_rfl
 i2:=by kernel_rfl
 i3:=by kernel_rfl
 i4:=by kernel_rfl
 i5:=by kernel_rfl
 i9:=by kernel_rfl
 i20:=by kernel_rfl
 i37:=by kernel_rfl
 i46:=by kernel_rfl
 i51:=by kernel_rfl
 i53:=by kernel_rfl
 i171:=by kernel_rfl
 i173:=by kernel_rfl
 i212:=by kernel_rfl
 i232:=by kernel_rfl
 i233:=by kernel_rfl
 m17:=by kernel_rfl
 m18:=by kernel_rfl
 m19:=by kernel_rfl }
open Go.RowKit Go.Sort Go.Lib in
theorem Tryz.strconv_FormatInt_10 (n:Int) (h0:-9223372036854775808<=n) (h1:n<=9223372036854775807) (w:World) (htab:Lib.TabIs prg w "internal/strconv.uint64pow10" .u64 Lib.pow10Tab) :
 Calls prg 138 #[.int .i64 n,.int .i64 10] w λe w'=>e=.returned (.string ⟨(Lib.itoa n).toArray⟩)/\∃ k os,w'=grow (w.drewN k) os:=Any.strconv_FormatInt_10 Tryz.laysM173 n h0 h1 w htab
def Tryz.lays219_ren:Go.Shelf.Ren:=⟨λ| 219=>145 | 217=>175 | 225=>176 | 224=>177 | 267=>178 | 266=>197 | 314=>198 | n=>n,λ| 9=>9 | 3=>3 | 4=>4 | 5=>5 | 46=>234 | 146=>251 | 51=>250 | n=>n,λ| 1=>4 | n=>n⟩
theorem Tryz.lays219:Go.Proofs.Lays.n219 prg Tryz.lays219_ren:={
 mixed:=by kernel_rfl
 f217:=Tryz.func175.trans (congrArg some (by kernel_rfl))
 f219:=Tryz.func145.trans (congrArg some (by kernel_rfl))
 f224:=Tryz.func177.trans (congrArg some (by kernel_rfl))
 f225:=Tryz.func176.trans (congrArg some (by kernel_rfl))
 f266:=Tryz.func197.trans (congrArg some (by kernel_rfl))
 f267:=Tryz.func178.trans (congrArg some (by kernel_rfl))
 f314:=Tryz.func198.trans (congrArg some (by kernel_rfl))
 t3:=Tryz.underlying3
 a3:=Tryz.isAgg3
 z3:=Tryz.sizeOf3
 v3:=Tryz.zeroValue3
 t4:=Tryz.underlying4
 a4:=Tryz.isAgg4
 z4:=Tryz.sizeOf4
 v4:=Tryz.zeroValue4
 t5:=Tryz.underlying5
 a5:=Tryz.isAgg5
 z5:=Tryz.sizeOf5
 v5:=Tryz.zeroValue5
 t9:=Tryz.underlying9
 a9:=Tryz.isAgg9
 z9:=Tryz.sizeOf9
 v9:=Tryz.zeroValue9
 t46:=Tryz.underlying234
 a46:=Tryz.isAgg234
 z46:=Tryz.sizeOf234
 v46:=Tryz.zeroValue234
 t51:=Tryz.underlying250
 a51:=Tryz.isAgg250
 z51:=Tryz.sizeOf250
 v51:=Tryz.zeroValue250
 t146:=Tryz.underlying251
 a146:=Tryz.isAgg251
 z146:=Tryz.sizeOf251
 v146:=Tryz.zeroValue251
 g1:=by kernel_rfl }
open Go.RowKit Go.Lib in
theorem Tryz.stringslite_Index_one (s:ByteArray) (c:UInt8) (w:World) :
 Calls prg 145 #[.string s,.string ⟨#[c]⟩] w λe w'=>e=.returned (.int .i64 (Lib.indexByte s.data.toList c))/\w'=w:=Any.stringslite_Index_one Tryz.lays219 s c w
end Go.Proofs
