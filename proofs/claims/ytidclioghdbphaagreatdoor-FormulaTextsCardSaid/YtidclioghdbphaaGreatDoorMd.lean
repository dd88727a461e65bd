/- Texts of the proof, one behind the other. -/
import Derived.Test.YtidclioghdbphaaGreatDoorMc
import Derived.Shelf.Strings.Builder1
import Derived.Shelf.Strings.Builder2
import Derived.Shelf.Strings.OnBuilder
import Derived.Shelf.Strings.BuilderF
import Derived.Shelf.Strings.BuilderK
import Derived.Shelf.Strings.Builder2Cap
import Derived.Shelf.Strconv.Itoa0
import Derived.Shelf.Strconv.Itoa1
import Derived.Shelf.LaysM
import Derived.Shelf.Strconv.Itoa2
import Derived.Shelf.Strconv.Itoa3
import Derived.Shelf.Strconv.Itoa4
import Derived.Shelf.Strings.Search1
import Derived.Shelf.Strings.Search2
import Derived.Shelf.Strings.Cut
import Derived.Shelf.Strings.Shaped
import Derived.Shelf.Strings.Prefix
import Derived.Shelf.Strings.BuilderCap
import Derived.Test.YtidclioghdbphaaGreatDoorProg
set_option linter.all false
set_option maxRecDepth 100000
namespace Go.Proofs.YtidclioghdbphaaGreatDoor
open Go.RowKit Go.Par Go.Sx
theorem aE1 {e:Ex} (h:gdE e=true):Ex.all vS e=true:=by
 unfold gdE at h;rw [aF] at h;exact h.2
variable {k:Nat}
theorem KW {l:List Fm} (h:k<l.length):l.take (k+1)=l.take k++[l[k]]:=by rw [List.take_succ,List.getElem?_eq_getElem h];rfl
theorem bZ4 (f:Fm):∃ o n d a b e r,f=.mk o n d a b e r:=by
 obtain ⟨o,n,d,a,b,e,r⟩:=f;exact ⟨o,n,d,a,b,e,r,Z⟩
def bW2 (g:Fm):Prop:=gdF g=true->∀ (H:Hp) (cs:List Value) (w:World),Rep H (dFm .i64 g) cs->Agr H w ->
 Calls prg 16 #[.agg cs.toArray] w λr w'=>∃ x H',Rep H' (dFm .u8 g) x/\r=.returned (.agg x.toArray)/\xD H w H' w'
set_option maxHeartbeats 1000000 in
theorem VW (g:Fm):bW2 g:=by
 induction g using Fm.ind with | _ op nm fd a b ex args ih
 intro hgd H cs w h hA;obtain ⟨⟨hop,hexl,hal,hge⟩,hga⟩:=SJ.1 hgd;obtain ⟨p1,c1,p2,c2,rfl,hs1,hs2,hnm,hfd⟩:=gR h;have hcap1:=hs1.cap;have hcap2:=hs2.cap;refine Sx.enter (H:=H) Tryz.func16 rfl Tryz.ntmps16 rfl hA ?_;refine .sr<|.bx Z Z Z λb1=>.al fV Z λb2=>.ns<|.fA Z eZ<|.lD Z cC dC Z<|.yw (.conv Z lT WP (c:=(op.toNat:Nat)) (by have:=op.toNat_lt;simp only [IntKind.wrap,IntKind.signed,IntKind.bits];simp;omega))<|.fA Z kL<|.lD Z cP dC Z<|.fA Z kK<|.lD Z cP dC Z<|.fA Z iK<|.lD Z cC dC Z<|.fA Z hU<|.lD Z cC dC Z<|.yw (.build Z (FA _ _ _ _ _))<|.al fV Z λb3=>.sX .head Z Z dM Z<|.nt<|.sq<|.sq<|?_
 refine Sx.row0 76 4 ?_;refine .rg<|.fA Z eE<|.lD Z eQ rY Z<|.yw (.lenSl eL Z)<|.mv Z<|.nt<|.bk<|.pm [1,0,2,3] [_,_,_,_] Z Z<|.lp (X:=Nat × Hp × Value × List Value) [(1,_),(2,_),(3,_),(21,_),(22,_)] ⟨Z,Z,Z,Z,Z,Jt⟩ [_,_] (λz=>[(23,iN z.1)]) (λz=>z.2.1) (λz=>[.box b3 [.int .u8 op.toNat,cH nm,cH fd,.int .i64 a.toInt,.int .i64 b.toInt,z.2.2.1,.slice none 0 0] 35,.row 76 4 z.2.2.1 z.1 z.2.2.2]) (λz=>z.1<=ex.length/\HUp w H z.2.1/\eR z.2.1 4 ((ex.take z.1).map (dEx .u8)) z.2.2.2) (λz=>ex.length - z.1) (0,H,.slice none 0 0,[]) (λ_ s=>s) ⟨Z,Jt⟩ ⟨by simp,.refl,eR.nil⟩ λz hC=>?_
 obtain ⟨k,H1,r,xs⟩:=z;dsimp only at hC|-;obtain ⟨hk0,u1,hz⟩:=hC;refine .sr<|.yw (.lss Z Z)<|.nt<|.sq<|.ce Z (λh24=>?_) (λh24=>?_)
 ·have hk:k<ex.length:=by omega
  obtain ⟨bE,oE,cE,hpE,rE,lE,mE⟩:=(hs1.up u1.up).elem (fW (f:=dEx .i64) hk);cases hpE;have hnr:=aE1 (hge _ (bI hk));refine .sk<|.tN<|.sq<|.bk<|.sr<|.yw (.indexSl eL Z Z Z (by omega) (q:=oE+k * 4) Z)<|.yw (.loadMW Z dH mE lE)<|.al iM Z λb5=>.sV .head Z Z gP lE rE.one Z<|.nt<|.fL 5 [(0,0),(1,0),(2,0),(3,1),(4,1)]<|.fA Z cY<|.lD Z dQ dC Z<|.yw (.loadW Z dH Hm lE)<|.ct (X:=List Value) QQ Z (λW s=>bB0 _ hnr H1 cE W rE s.agr) Z λx2 H2 hc2 u2=>?_
  obtain ⟨op2,nm2,n2,qC,hx⟩:=PO (ex[k]);rw [hx] at hc2;obtain ⟨p2,c2,rfl,hs2,hnm2⟩:=fX hc2;refine .bl Z (nQ _ _ _ _) Z λb31=>.fn (tl:=[_,_,_]) Z<|.ap (news:=[.int .u8 op2.toNat,cH nm2,.int .i64 n2.toInt,.slice p2 qC.length c2]) vN Z (λ_=>qF) Z (.box Hm z0) Z (by simp [Value.oneCell',cH]) (by simp [maxLen];omega) (by omega) Z λr32 _=>?_
  refine At.ra rY λp32 c32 e32=>?_;exact .fA Z cY<|.st oV Z Z mQ (by rw [e32];rfl) (nb Z) Z<|.nl<|.bN<|.tN<|.rg<|.yw (.add Z Z w7)<|.mv Z<|.nt<|.ag (x:=(k,H1,r,xs)) (k+1,H2,r32,xs++[.int .u8 op2.toNat,cH nm2,.int .i64 n2.toInt,.slice p2 qC.length c2]) ⟨Z,Jt⟩ ⟨Z,Z,Z,Z,Z,Jt⟩ (λ_ s=>(s.pick [2,3,4,5] _ Z Z)) ⟨by dsimp only;omega,u1.trans u2,by dsimp only;rw [wK hk,cL,hx];exact (hz.up u2.up).snoc hc2 Z⟩ (by dsimp only;omega)
 obtain rfl:k=ex.length:=by omega
 rw [aZ] at hz;refine At.ra (.tail _ Hm) λp32 c32 e32=>?_;subst e32;obtain ⟨HX,hHX⟩:∃ h,h=H1:=⟨_,Z⟩;rw [<-hHX] at u1 hz|-;have uX:=u1;have hzX:=hz;clear u1 hz hHX;refine .ex<|.eb<|.sq<|.sq<|?_
 refine Sx.row0 35 7 ?_;refine .rg<|.fA Z iJ<|.lD Z oL vT Z<|.yw (.lenSl nF Z)<|.mv Z<|.nt<|.bk<|.pm [1,0,2,3,4] [_,_,_,_,_] Z Z<|.lp (X:=Nat × Hp × Value × List Value) [(2,_),(3,_),(36,_),(37,_)] ⟨Z,Z,Z,Z,Jt⟩ [_,_,_] (λz=>[(38,iN z.1)]) (λz=>z.2.1) (λz=>[.box b3 [.int .u8 op.toNat,cH nm,cH fd,.int .i64 a.toInt,.int .i64 b.toInt,.slice p32 ex.length c32,z.2.2.1] 35,.row 35 7 z.2.2.1 z.1 z.2.2.2]) (λz=>z.1<=args.length/\HUp w HX z.2.1/\eR z.2.1 7 ((args.take z.1).map (dFm .u8)) z.2.2.2) (λz=>args.length - z.1) (0,HX,.slice none 0 0,[]) (λ_ s=>s) ⟨Z,Jt⟩ ⟨by simp,.refl,eR.nil⟩ λz hC=>?_
 obtain ⟨k,H1,r,xs2⟩:=z;dsimp only at hC|-;obtain ⟨hk0,u1,hz⟩:=hC;refine .sr<|.yw (.lss Z Z)<|.nt<|.sq<|.ce Z (λh39=>?_) (λh39=>?_)
 ·have hk:k<args.length:=by omega
  obtain ⟨bE,oE,cE,hpE,rE,lE,mE⟩:=((hs2.up uX.up).up u1.up).elem (fW (f:=dFm .i64) hk);cases hpE;refine .sk<|.tN<|.sq<|.bk<|.sr<|.yw (.indexSl nF Z Z Z (by omega) (q:=oE+k * 7) Z)<|.yw (.loadMW Z dY mE lE)<|.al lZ Z λb7=>.sV .head Z Z kG lE rE.one Z<|.nt<|.fL 5 [(0,0),(1,0),(2,0),(3,1),(4,1)]<|.fA Z hI<|.lD Z qS dC Z<|.yw (.loadW Z dY Hm lE)<|.ct (X:=List Value) IH Z (λW s=>ih _ (bI hk) (hga _ (bI hk)) H1 cE W rE s.agr) Z λx2 H2 hc2 u2=>?_
  obtain ⟨op2,nm2,fd2,a2,b2x,ex2,as2,hx⟩:=bZ4 (args[k]);rw [hx] at hc2;obtain ⟨p2,c2,q2,d2,rfl,_,_,_,_⟩:=gR hc2;refine .bl Z (AO _ _ _ _ _ _ _) Z λb46=>.fn (tl:=[_,_,_]) Z<|.ap (news:=[.int .u8 op2.toNat,cH nm2,cH fd2,.int .i64 a2.toInt,.int .i64 b2x.toInt,.slice p2 ex2.length c2,.slice q2 as2.length d2]) WO Z (λ_=>qF) Z (.box Hm z0) Z (by simp [Value.oneCell',cH]) (by simp [maxLen];omega) (by omega) Z λr47 _=>?_
  refine At.ra rY λp47 c47 e47=>?_;exact .fA Z hI<|.st oV Z Z CV (by rw [e47];rfl) (nb Z) Z<|.nl<|.bN<|.tN<|.rg<|.yw (.add Z Z w7)<|.mv Z<|.nt<|.ag (x:=(k,H1,r,xs2)) (k+1,H2,r47,xs2++[.int .u8 op2.toNat,cH nm2,cH fd2,.int .i64 a2.toInt,.int .i64 b2x.toInt,.slice p2 ex2.length c2,.slice q2 as2.length d2]) ⟨Z,Jt⟩ ⟨Z,Z,Z,Z,Jt⟩ (λ_ s=>(s.pick [2,3,4,5,6] _ Z Z)) ⟨by dsimp only;omega,u1.trans u2,by dsimp only;rw [KW hk,cL,hx];exact (hz.up u2.up).snoc hc2 Z⟩ (by dsimp only;omega)
 obtain rfl:k=args.length:=by omega
 rw [aZ] at hz;refine At.ra (.tail _ Hm) λp47 c47 e47=>?_;subst e47;refine .ex<|.eb<|.sr<|.yw (.loadW Z cQ Hm Z)<|.sX qF Z Z dM Z<|.nt<|.rt<|?_
 refine At.pm [2,1,3] [_,_,_] rfl rfl ?_;refine lY (ds:=ex.map (dEx .u8)) (bJ ..) (hzX.up u1.up) λH3 p3 c3 u3 hr3 hs3=>?_;refine lY (ds:=args.map (dFm .u8)) (bJ ..) (hz.up u3.up) λH4 p4 c4 u4 hr4 hs4=>?_;refine y8 Z (.cell Z cQ Hm rfl) λW s=>⟨_,H4,CP hnm hfd (hs3.up u4.up) hs4,Z,(((uX.trans u1).trans u3).trans u4).grow s⟩
def zE:Ex:=.mk 0 [] 0 []
def zF:Fm:=.mk 0 [] [] 0 0 [] []
structure Ov where
 kd:UInt8
 lv:Nat
 tm:Bool
 op:UInt8
 f:Fm
structure Vl where
 tm:Bool
 wh:Bool
 e:Ex
 f:Fm
structure Rq where
 i:Nat
 off:Nat
 er:Nat
abbrev Vb:=List Vl × Bool
structure Ps where
 c:Rq
 op:List Ov
 x:Vb
 rd:Bool
 dn:Bool
abbrev Tks:=List Tk
def zV:Vl:=⟨false,false,zE,zF⟩
def bO:Ov:=⟨1,0,false,0,zF⟩
section
variable (l:Tks)
def tkf (i:Nat):Tk:=l.getD i ⟨0,[],0⟩
def Rq.fail (c:Nat) (q:Rq):Rq:=if q.er=0 then ⟨q.i,(tkf l q.i).o,c⟩ else q
def Rq.is (w:Str) (q:Rq):Bool:=(decide ((tkf l q.i).k=2) || decide ((tkf l q.i).k=4)) && decide ((tkf l q.i).t=w)
def Rq.ac (w:Str) (q:Rq):Bool:=decide (q.er=0) && q.is l w
def Rq.nx (q:Rq):Rq:=⟨q.i+1,q.off,q.er⟩
def Rq.acS (w:Str) (q:Rq):Rq:=if q.ac l w then q.nx else q
def Rq.exS (w:Str) (q:Rq):Rq:=if q.ac l w then q.nx else q.fail l 8
def Rq.nmK (q:Rq):Bool:=decide (q.er=0) && decide ((tkf l q.i).k=1)
def Rq.nmV (q:Rq):Str:=if q.nmK l then (tkf l q.i).t else []
def Rq.nmS (q:Rq):Rq:=if q.nmK l then q.nx else q.fail l 8
def Rq.nbB (q:Rq):Bool:=decide (q.er=0) && decide ((tkf l q.i).k=3)
def Rq.fit (q:Rq):Bool:=decide (oQ (tkf l q.i).t<=9223372036854775807)
def Rq.nbV (q:Rq):Int64:=if q.nbB l && q.fit l then Int64.ofNat (oQ (tkf l q.i).t) else 0
def Rq.nbS (q:Rq):Rq:=if q.nbB l then (if q.fit l then q.nx else q.fail l 2) else q.fail l 8
def Rq.paS (q:Rq):Rq:=((q.nmS l).exS l [46]).nmS l
def Rq.paN (q:Rq):Str:=q.nmV l
def Rq.paF (q:Rq):Str:=((q.nmS l).exS l [46]).nmV l
def Rq.paV (op:UInt8) (q:Rq):Fm:=.mk op (q.paN l) (q.paF l) 0 0 [] []
def Rq.wiA (q:Rq):Int64:=if q.ac l [91] then q.nx.nbV l else 0
def Rq.wiB (q:Rq):Int64:=if q.ac l [91] then ((q.nx.nbS l).exS l [44]).nbV l else -1
def Rq.wiS (q:Rq):Rq:=if q.ac l [91] then (((q.nx.nbS l).exS l [44]).nbS l).exS l [93] else q
def Rq.wiV (op:UInt8) (q:Rq):Fm:=.mk op [] [] (q.wiA l) (q.wiB l) [] []
def Rq.boV (q:Rq):Int64:=if q.ac l [45] then -(q.nx.nbV l) else q.nbV l
def Rq.boS (q:Rq):Rq:=if q.ac l [45] then q.nx.nbS l else q.nbS l
def Rq.ama (q:Rq):Rq:=(q.nmS l).exS l [105,110]
def Rq.amb (q:Rq):Rq:=((q.ama l).boS l).exS l [46,46]
def Rq.amV (op:UInt8) (q:Rq):Fm:=.mk op (q.nmV l) [] ((q.ama l).boV l) ((q.amb l).boV l) [] []
def Rq.amS (q:Rq):Rq:=(q.amb l).boS l
end
def fP (q:Ps):Ov:=q.op.headD bO
def vG (x:Vb):Vl:=x.1.headD zV
def Ps.at (c:Rq) (q:Ps):Ps:=⟨c,q.op,q.x,q.rd,q.dn⟩
def Ov.inh (o:Ov) (b:Bool):Ov:=if 0<o.lv then ⟨o.kd,o.lv,b,o.op,o.f⟩ else o
def jK (o:Ov) (q:Ps):Ps:=⟨q.c,o.inh (fP q).tm::q.op,q.x,false,q.dn⟩
def jZ (v:Vl) (q:Ps):Ps:=⟨q.c,q.op,(v::q.x.1,q.x.2),true,q.dn⟩
def tE (x:Vb):Ex:=(vG x).e
def tS (x:Vb):Vb:=(x.1.tail,x.2 || !(vG x).tm)
def Vl.noF (v:Vl):Bool:=v.tm && (!decide (v.e.op=5) || (fD v.e.nm).isNone)
def spA (n:Str):Str:=match fD n with | some (a,_)=>a | none=>[]
def spB (n:Str):Str:=match fD n with | some (_,b)=>b | none=>[]
def Vl.fm (v:Vl):Fm:=if v.tm then .mk 4 (spA v.e.nm) (spB v.e.nm) 0 0 [] [] else v.f
def fF (x:Vb):Fm:=(vG x).fm
def fS (x:Vb):Vb:=(x.1.tail,x.2 || (vG x).noF)
def tmv (e:Ex):Vl:=⟨true,false,e,zF⟩
def fmv (f:Fm):Vl:=⟨false,false,zE,f⟩
def Fm.wEx (f:Fm) (ex:List Ex):Fm:=.mk f.op f.nm f.fd f.a f.b ex f.args
def Fm.wAr (f:Fm) (args:List Fm):Fm:=.mk f.op f.nm f.fd f.a f.b f.ex args
def Vb.put (v:Vl) (x:Vb):Vb:=(v::x.1,x.2)
def zB (o:Ov) (x:Vb):Vb :=
 if o.kd=10 then (tS x).put (tmv (.mk 9 [] 0 [tE x]))
 else if o.kd=9 then (tS (tS x)).put (tmv (.mk o.op [] 0 [tE (tS x),tE x]))
 else if o.kd=8 then (tS (tS x)).put (fmv (.mk 3 [] [] 0 0 [.mk o.op [] 0 [tE (tS x),tE x]] []))
 else if o.kd=7 then (fS x).put (fmv (o.f.wAr [fF x]))
 else if o.kd=6 then (fS (fS x)).put (fmv (o.f.wAr [fF (fS x),fF x]))
 else x
def BF (lv:Nat):List Ov->Vb->List Ov × Vb
 | [],x=>([],x)
 | o::r,x=>if lv<=o.lv then BF lv r (zB o x) else (o::r,x)
def qG (lv:Nat) (q:Ps):Ps:=⟨q.c,(BF lv q.op q.x).1,(BF lv q.op q.x).2,q.rd,q.dn⟩
section
variable (l:Tks)
def mT (q:Ps):Option Ps :=
 if q.c.ac l [110,111,116] then some (jK ⟨7,5,false,0,.mk 8 [] [] 0 0 [] []⟩ (q.at q.c.nx))
 else if q.c.ac l [112,114,101,118,105,111,117,115] then some (jK ⟨7,5,false,0,.mk 12 [] [] 0 0 [] []⟩ (q.at q.c.nx))
 else if q.c.ac l [111,110,99,101] then some (jK ⟨7,5,false,0,q.c.nx.wiV l 13⟩ (q.at (q.c.nx.wiS l)))
 else if q.c.ac l [97,108,119,97,121,115] then some (jK ⟨7,5,false,0,q.c.nx.wiV l 14⟩ (q.at (q.c.nx.wiS l)))
 else if q.c.ac l [102,111,114,97,108,108] then some (jK ⟨7,5,false,0,q.c.nx.amV l 16⟩ (q.at (q.c.nx.amS l)))
 else if q.c.ac l [101,120,105,115,116,115] then some (jK ⟨7,5,false,0,q.c.nx.amV l 17⟩ (q.at (q.c.nx.amS l)))
 else if q.c.ac l [99,111,117,110,116] then some (jK ⟨3,0,false,0,q.c.nx.amV l 18⟩ (q.at ((q.c.nx.amS l).exS l [40])))
 else none
def Rq.ful (q:Rq):Str:=q.nmV l++[46]++(q.nmS l).nx.nmV l
def BD (q:Ps):Ps :=
 if (q.c.nmS l).ac l [46] then
  if ((q.c.nmS l).nx.nmS l).ac l [91] then jK ⟨4,0,true,6,.mk 0 (q.c.ful l) [] 0 0 [] []⟩ (q.at ((q.c.nmS l).nx.nmS l).nx)
  else jZ (tmv (.mk 5 (q.c.ful l) 0 [])) (q.at ((q.c.nmS l).nx.nmS l))
 else jZ (tmv (.mk 5 (q.c.nmV l) 0 [])) (q.at (q.c.nmS l))
def DH (q:Ps):Ps :=
 if ((q.c.paS l).exS l [40]).ac l [41] then jZ (fmv (q.c.paV l 7)) (q.at ((q.c.paS l).exS l [40]).nx)
 else jK ⟨5,0,true,0,q.c.paV l 7⟩ (q.at ((q.c.paS l).exS l [40]))
def HL (q:Ps):Bool:=!(fP q).tm && decide ((fP q).lv<=5)
def rO (q:Ps):Ps :=
 if q.c.ac l [45] then jK ⟨10,9,false,0,zF⟩ (q.at q.c.nx)
 else if q.c.ac l [40] then jK ⟨2,0,false,0,zF⟩ (q.at q.c.nx)
 else if (tkf l q.c.i).k=3 then jZ (tmv (.mk 1 [] (q.c.nbV l) [])) (q.at (q.c.nbS l))
 else if (tkf l q.c.i).k=1 then BD l q
 else if q.c.ac l [110,111,119] then jZ (tmv (.mk 4 [] 0 [])) (q.at q.c.nx)
 else if q.c.ac l [115,105,122,101] then jZ (tmv (.mk 8 (q.c.nx.paN l++[46]++q.c.nx.paF l) 0 [])) (q.at (q.c.nx.paS l))
 else if q.c.ac l [116,114,117,101] then jZ (fmv (.mk 1 [] [] 0 0 [] [])) (q.at q.c.nx)
 else if q.c.ac l [102,97,108,115,101] then jZ (fmv (.mk 2 [] [] 0 0 [] [])) (q.at q.c.nx)
 else if q.c.ac l [102,108,97,103] then jZ (fmv (.mk 6 (q.c.nx.nmV l) [] 0 0 [] [])) (q.at (q.c.nx.nmS l))
 else if q.c.ac l [104,97,115] then jK ⟨4,0,true,0,q.c.nx.paV l 5⟩ (q.at ((q.c.nx.paS l).exS l [91]))
 else if q.c.ac l [97,114,114,105,118,101,115] then DH l (q.at q.c.nx)
 else q.at (q.c.fail l 8)
def yS (q:Ps):Ps:=if (fP q).kd=5/\q.c.ac l [95]=true then jZ ⟨true,true,zE,zF⟩ (q.at q.c.nx) else rO l q
def eH (q:Ps):Ps:=match (if HL q then mT l q else none) with | some q'=>q' | none=>yS l q
def xB:List Str:=[[],[],[],[],[],[],[],[],[],[],[],[42],[47],[37],[43],[45],[61,61],[33,61],[60],[60,61],[62],[62,61]]
def uP (op:UInt8) (q:Ps):Ps :=
 if 16<=op then
  (if (vG q.x).wh || (fP (qG 7 q)).tm || decide ((fP (qG 7 q)).kd=8) then (qG 7 q).at (q.c.fail l 8) else jK ⟨8,6,false,op,zF⟩ ((qG 7 q).at q.c.nx))
 else if op<=13 then
  (if (vG q.x).wh then (qG 8 q).at (q.c.fail l 8) else jK ⟨9,8,false,op,zF⟩ ((qG 8 q).at q.c.nx))
 else (if (vG q.x).wh then (qG 7 q).at (q.c.fail l 8) else jK ⟨9,7,false,op,zF⟩ ((qG 7 q).at q.c.nx))
def Rq.joV (q:Rq):Fm:=if q.ac l [115,105,110,99,101] then q.nx.wiV l 15 else if q.ac l [97,110,100] then .mk 9 [] [] 0 0 [] [] else if q.ac l [111,114] then .mk 10 [] [] 0 0 [] [] else if q.ac l [105,109,112,108,105,101,115] then .mk 11 [] [] 0 0 [] [] else zF
def Rq.joS (q:Rq):Rq:=if q.ac l [115,105,110,99,101] then q.nx.wiS l else if q.ac l [97,110,100] then q.nx else if q.ac l [111,114] then q.nx else if q.ac l [105,109,112,108,105,101,115] then q.nx else q
def yG (q:Ps):Ps:=if (fP q).tm then q.at (q.c.fail l 8) else jK ⟨6,(cS (q.c.joV l).op).lv,false,0,q.c.joV l⟩ (qG (cS (q.c.joV l).op).lv (q.at (q.c.joS l)))
def HW (c:Rq) (v:Vl) (x:Vb) (q:Ps):Ps:=⟨c,q.op.tail,x.put v,true,q.dn⟩
def oR (q:Ps):Ps :=
 if (fP q).kd=1/\(tkf l q.c.i).k=0 then ⟨q.c,q.op,q.x,q.rd,true⟩
 else if (fP q).kd=2/\q.c.ac l [41]=true then HW q.c.nx ⟨(vG q.x).tm,false,(vG q.x).e,(vG q.x).f⟩ (q.x.1.tail,q.x.2) q
 else if (fP q).kd=3/\q.c.ac l [41]=true then
  HW ((q.c.nx.exS l [62,61]).nbS l) ⟨false,true,zE,((fP q).f.wEx [.mk 1 [] ((q.c.nx.exS l [62,61]).nbV l) []]).wAr [fF q.x]⟩ (fS q.x) q
 else if (fP q).kd=4/\q.c.ac l [93]=true then
  (if (fP q).op=6 then HW q.c.nx (tmv (.mk 6 (fP q).f.nm 0 [tE q.x])) (tS q.x) q
  else HW q.c.nx (fmv ((fP q).f.wEx [tE q.x])) (tS q.x) q)
 else if (fP q).kd=5/\q.c.ac l [44]=true then
  ⟨q.c.nx,⟨(fP q).kd,(fP q).lv,(fP q).tm,(fP q).op,(fP q).f.wEx ((fP q).f.ex++[tE q.x])⟩::q.op.tail,tS q.x,false,q.dn⟩
 else if (fP q).kd=5/\q.c.ac l [41]=true then HW q.c.nx (fmv ((fP q).f.wEx ((fP q).f.ex++[tE q.x]))) (tS q.x) q
 else q.at (q.c.fail l 8)
def aS9 (t:Str):Option Nat:=(List.range 22).find? λi=>decide (xB.getD i []=t) && decide (¬ i=0)
def Rq.endB (q:Rq):Bool:=q.is l [41] || q.is l [93] || q.is l [44] || decide ((tkf l q.i).k=0)
def Rq.wrd (q:Rq):Bool:=q.is l [115,105,110,99,101] || q.is l [97,110,100] || q.is l [111,114] || q.is l [105,109,112,108,105,101,115]
def uK (q:Ps):Ps:=if q.c.wrd l then yG l q else if q.c.endB l then oR l (qG 1 q) else q.at (q.c.fail l 8)
def Rq.sym (q:Rq):Option Nat:=if (tkf l q.i).k=2\/(tkf l q.i).k=4 then aS9 (tkf l q.i).t else none
def iE (q:Ps):Ps:=match q.c.sym l with | some i=>uP l (UInt8.ofNat i) q | none=>uK l q
def AW (q:Ps):Ps:=if q.rd then iE l q else eH l q
def Ps.fin (q:Ps):Prop:=q.dn=true\/¬ q.c.er=0
instance (q:Ps):Decidable q.fin:=by unfold Ps.fin;infer_instance
def BL:Nat->Ps->Ps
 | 0,q=>q
 | n+1,q=>if q.fin then q else BL n (AW l q)
def YF:Ps:=⟨⟨0,0,0⟩,[bO],([],false),false,false⟩
def MH (q:Ps):Fm × Nat × Nat :=
 if ¬ q.c.er=0 then (zF,q.c.off,q.c.er)
 else if (fS q.x).2 then (zF,0,6)
 else if ¬ fO (fF q.x)=0 then (zF,0,fO (fF q.x))
 else (fF q.x,0,0)
def NQ:Fm × Nat × Nat:=MH (BL l l.length YF)
end
def bE1 (l:Tks):Prop:=∀ i,i<l.length->(tkf l i).k≠0->i+1<l.length
section
variable {l:Tks} {q:Rq} {w:Str} {c:Nat}
theorem EO:(q.fail l c).i=q.i:=by unfold Rq.fail;split <;> rfl
theorem cC9 (h:q.is l w=true):(tkf l q.i).k≠0:=by
 unfold Rq.is at h;rw [aF,aT,aD,aD] at h;rcases h.1 with e | e <;> rw [e] <;> decide
theorem TC (h:q.ac l w=true):q.is l w=true:=by unfold Rq.ac at h;rw [aF] at h;exact h.2
theorem vU (h:q.ac l w=true):q.er=0:=by unfold Rq.ac at h;rw [aF,aD] at h;exact h.1
theorem bD9 (h:q.ac l w=true):(tkf l q.i).t=w:=by
 have:=TC h;unfold Rq.is at this;rw [aF,aD] at this;exact this.2
theorem bE0 (h:q.ac l w=true):(tkf l q.i).k=2\/(tkf l q.i).k=4:=by
 have:=TC h;unfold Rq.is at this;rw [aF,aT,aD,aD] at this;exact this.1
structure Mq (q q':Rq):Prop where
 i:q.i<=q'.i
 er:q.er≠0->q'=q
theorem Mq.refl (q:Rq):Mq q q:=⟨bK _,λ_=>rfl⟩
theorem Mq.trans {a b c:Rq} (h:Mq a b) (k:Mq b c):Mq a c:=⟨bH h.i k.i,λe=>by have:=h.er e;subst this;exact k.er e⟩
theorem Mq.nx (h:q.er=0):Mq q q.nx:=⟨Nat.le_succ _,λe=>absurd h e⟩
theorem Mq.fail:Mq q (q.fail l c):=⟨by rw [EO];exact bK _,λe=>by unfold Rq.fail;rw [aG e]⟩
theorem Mq.exS:Mq q (q.exS l w):=by
 unfold Rq.exS
 split
 ·rename_i h;exact .nx (vU h)
 ·exact .fail
theorem RW (h:q.nmK l=true):q.er=0/\(tkf l q.i).k=1:=by
 unfold Rq.nmK at h;rw [aF,aD,aD] at h;exact h
theorem RY (h:q.nbB l=true):q.er=0/\(tkf l q.i).k=3:=by
 unfold Rq.nbB at h;rw [aF,aD,aD] at h;exact h
theorem Mq.nmS:Mq q (q.nmS l):=by
 unfold Rq.nmS
 split
 ·rename_i h;exact .nx (RW h).1
 ·exact .fail
theorem Mq.nbS:Mq q (q.nbS l):=by
 unfold Rq.nbS
 split
 ·rename_i h
  split
  ·exact .nx (RY h).1
  ·exact .fail
 ·exact .fail
theorem Mq.paS:Mq q (q.paS l):=(Mq.nmS.trans .exS).trans .nmS
theorem Mq.wiS:Mq q (q.wiS l):=by
 unfold Rq.wiS
 split
 ·rename_i h;exact (((Mq.nx (vU h)).trans .nbS).trans .exS).trans (.trans .nbS .exS)
 ·exact .refl q
theorem Mq.boS:Mq q (q.boS l):=by
 unfold Rq.boS
 split
 ·rename_i h;exact (Mq.nx (vU h)).trans .nbS
 ·exact .nbS
theorem Mq.ama:Mq q (q.ama l):=Mq.nmS.trans .exS
theorem Mq.amb:Mq q (q.amb l):=(Mq.ama.trans .boS).trans .exS
theorem Mq.amS:Mq q (q.amS l):=Mq.amb.trans .boS
theorem Mq.joS:Mq q (q.joS l):=by
 unfold Rq.joS
 split
 ·rename_i h;exact (Mq.nx (vU h)).trans .wiS
 split
 ·rename_i h;exact .nx (vU h)
 split
 ·rename_i h;exact .nx (vU h)
 split
 ·rename_i h;exact .nx (vU h)
 exact .refl q
variable (T:bE1 l) (hq:q.i<l.length)
include T hq
theorem dB (h:q.ac l w=true):q.nx.i<l.length:=T _ hq (cC9 (TC h))
theorem kQ:(q.exS l w).i<l.length:=by
 unfold Rq.exS
 split
 ·rename_i h;exact dB T hq h
 ·rw [EO];exact hq
theorem WZ (h:q.nmK l=true):q.nx.i<l.length:=T _ hq (by rw [(RW h).2];decide)
theorem kH:(q.nmS l).i<l.length:=by
 unfold Rq.nmS
 split
 ·rename_i h;exact WZ T hq h
 ·rw [EO];exact hq
theorem xP:(q.nbS l).i<l.length:=by
 unfold Rq.nbS
 split
 ·rename_i h
  split
  ·exact T _ hq (by rw [(RY h).2];decide)
  ·rw [EO];exact hq
 ·rw [EO];exact hq
theorem yL:(q.paS l).i<l.length:=kH T (kQ T (kH T hq))
theorem KQ:(q.wiS l).i<l.length:=by
 unfold Rq.wiS
 split
 ·rename_i h;exact kQ T (xP T (kQ T (xP T (dB T hq h))))
 ·exact hq
theorem ZX:(q.boS l).i<l.length:=by
 unfold Rq.boS
 split
 ·rename_i h;exact xP T (dB T hq h)
 ·exact xP T hq
theorem bP1:(q.ama l).i<l.length:=kQ T (kH T hq)
theorem bP0:(q.amb l).i<l.length:=kQ T (ZX T (bP1 T hq))
theorem KR:(q.amS l).i<l.length:=ZX T (bP0 T hq)
theorem bW6:(q.joS l).i<l.length:=by
 unfold Rq.joS
 split
 ·rename_i h;exact KQ T (dB T hq h)
 split
 ·rename_i h;exact dB T hq h
 split
 ·rename_i h;exact dB T hq h
 split
 ·rename_i h;exact dB T hq h
 exact hq
end
def cnO (o:Ov):Bool:=decide (o.kd=6) || decide (o.kd=8) || decide (o.kd=9)
def DG (l:List Ov):Nat:=(l.filter cnO).length
def okO (o:Ov):Bool:=decide (2<=o.kd.toNat) && decide (o.kd.toNat<=10) && (decide (5<o.kd.toNat) == decide (0<o.lv))
structure Fwf (l:Tks) (q:Ps):Prop where
 i:q.c.i<l.length
 op:∃ r,q.op=r++[bO]/\∀ o∈r,okO o=true
 vs:q.x.1.length=DG q.op+(if q.rd then 1 else 0)
 so:q.op.length<=q.c.i+1
section
variable {l:Tks} {q:Ps} {w:Str} {c:Nat} {o:Ov} {b:Bool}
theorem sD (o:Ov) (r:List Ov):DG (o::r)=(if cnO o then 1 else 0)+DG r:=by unfold DG;rw [List.filter_cons];split <;> simp [Nat.add_comm]
theorem aY2:(o.inh b).kd=o.kd:=by unfold Ov.inh;split <;> rfl
theorem bT4:(o.inh b).lv=o.lv:=by unfold Ov.inh;split <;> rfl
theorem bO1:(o.inh b).f=o.f:=by unfold Ov.inh;split <;> rfl
theorem bT3:okO (o.inh b)=okO o:=by unfold okO;rw [aY2,bT4]
theorem bT5:cnO (o.inh b)=cnO o:=by unfold cnO;rw [aY2]
theorem bE9 {c:Rq} (h:Fwf l q) (hc:c.i<l.length) (hi:q.c.i<c.i) (ho:okO o=true) (hr:cnO o=q.rd):Fwf l (jK o (q.at c)):=by
 obtain ⟨r,e,hr2⟩:=h.op;refine ⟨hc,⟨o.inh (fP q).tm::r,?_,?_⟩,?_,?_⟩
 ·show _::q.op=_;rw [e];rfl
 ·intro x hx;rcases bV.1 hx with rfl | hx
  ·rw [bT3];exact ho
  ·exact hr2 x hx
 ·show q.x.1.length=DG (_::q.op)+0;rw [sD,bT5,hr,h.vs];cases q.rd <;> simp [Nat.add_comm]
 ·show q.op.length+1<=c.i+1;have:=h.so;omega
theorem ZY {v:Vl} {c:Rq} (h:Fwf l q) (hc:c.i<l.length) (hi:q.c.i<=c.i) (hr:q.rd=false):Fwf l (jZ v (q.at c)):=by
 refine ⟨hc,h.op,?_,?_⟩
 ·show (v::q.x.1).length=DG q.op+1;rw [aI,h.vs,hr];simp
 ·show q.op.length<=c.i+1;have:=h.so;omega
theorem KS {c:Rq} (h:Fwf l q) (hc:c.i<l.length) (hi:q.c.i<=c.i):Fwf l (q.at c):=⟨hc,h.op,h.vs,by show q.op.length<=c.i+1;have:=h.so;omega⟩
theorem Fwf.top (h:Fwf l q):(q.op=[bO]/\fP q=bO)\/∃ r,q.op=fP q::(r++[bO])/\okO (fP q)=true/\∀ o∈r,okO o=true:=by
 obtain ⟨r,e,hr⟩:=h.op;unfold fP;rw [e];cases r with
 | nil=>exact .inl ⟨Z,Z⟩
 | cons o r=>exact .inr ⟨r,Z,hr _ (bD ..),λx hx=>hr x (bZ _ hx)⟩
theorem Fwf.ne (h:Fwf l q):q.op≠[]:=by
 obtain ⟨r,e,_⟩:=h.op;rw [e];simp
theorem bG8 (v:Vl) (x:Vb):(x.put v).1.length=x.1.length+1:=rfl
theorem KX (x:Vb):(tS x).1.length=x.1.length - 1:=List.length_tail
theorem bA7 (x:Vb):(fS x).1.length=x.1.length - 1:=List.length_tail
theorem bR8 (h:okO o=true):o.kd=2\/o.kd=3\/o.kd=4\/o.kd=5\/o.kd=6\/o.kd=7\/o.kd=8\/o.kd=9\/o.kd=10:=by
 unfold okO at h;rw [aF,aF,aD,aD] at h;have h1:=h.1.1;have h2:=h.1.2;have hk:∀ n:Nat,n<256->o.kd.toNat=n->o.kd=UInt8.ofNat n:=λn hn e=>aS.1 (by rw [eW hn];exact e);have:o.kd.toNat=2\/o.kd.toNat=3\/o.kd.toNat=4\/o.kd.toNat=5\/o.kd.toNat=6\/o.kd.toNat=7\/o.kd.toNat=8\/o.kd.toNat=9\/o.kd.toNat=10:=by omega
 rcases this with e | e | e | e | e | e | e | e | e <;> have:=hk _ (by decide) e <;> rw [this] <;> decide
theorem aV6 (h:okO o=true):(o.kd=6\/o.kd=7\/o.kd=8\/o.kd=9\/o.kd=10)↔0<o.lv:=by
 have hk:=bR8 h;unfold okO at h;rw [aF,dL] at h;have h2:=h.2;rcases hk with e | e | e | e | e | e | e | e | e <;> rw [e] at h2 <;> rw [e] <;> by_cases h0:0<o.lv <;> simp [h0] at h2|-
theorem WI (ho:okO o=true) (h0:0<o.lv) {x:Vb} (h:(if cnO o then 2 else 1)<=x.1.length):(zB o x).1.length=x.1.length - (if cnO o then 1 else 0):=by
 have hk:=(aV6 ho).2 h0;unfold zB cnO at *;rcases hk with e | e | e | e | e <;> simp [e,bG8,KX,bA7] at h|- <;> omega
theorem aA8 {lv:Nat} (hl:1<=lv):∀ (r:List Ov) (x:Vb),(∀ o∈r,okO o=true)->x.1.length=DG (r++[bO])+1->∃ r' y,BF lv (r++[bO]) x=(r'++[bO],y)/\r'<:+r/\y.1.length=DG (r'++[bO])+1/\(∀ o,r'.head? = some o->o.lv<lv)
 | [],x,_,h=>⟨[],x,by rw [cU,BF,aG (by show ¬ lv<=0;omega)],wC _,h,λo e=>by cases e⟩
 | o::r,x,ho,h=>by
  rw [bT,BF];rw [bT,sD] at h;have hok:=ho o (bD ..)
  split
  ·rename_i h1;have h2:=WI hok (by omega) (x:=x) (by rw [h];split <;> omega);obtain ⟨r',y,e,hs,hy,ht⟩:=aA8 hl r (zB o x) (λz hz=>ho z (bZ _ hz)) (by rw [h2,h];split <;> omega);exact ⟨r',y,e,hs.trans (DJ o r),hy,ht⟩
  ·rename_i h1;exact ⟨o::r,x,Z,wC _,by rw [bT,sD];exact h,λz e=>by injection e with e;subst e;omega⟩
theorem uI {lv:Nat} (hl:1<=lv) (h:Fwf l q) (hr:q.rd=true):Fwf l (qG lv q):=by
 obtain ⟨r,e,ho⟩:=h.op;have hv:=h.vs;rw [e,hr] at hv;obtain ⟨r',y,e2,hs,hy,_⟩:=aA8 hl r q.x ho hv;have h1:(qG lv q).op=r'++[bO]:=by unfold qG;rw [e,e2]
 have h2:(qG lv q).x=y:=by unfold qG;rw [e,e2]
 refine ⟨h.i,⟨r',h1,λo hz=>ho o (hs.subset hz)⟩,?_,?_⟩
 ·rw [h1,h2];show _=_+(if q.rd then 1 else 0);rw [hr];exact hy
 ·rw [h1];have:=hs.length_le;have h3:=h.so;rw [e] at h3;show _<=q.c.i+1;rw [aH] at h3|-;omega
end
section
variable {l:Tks} {q:Ps}
structure Fsp (l:Tks) (q q':Ps):Prop where
 wf:Fwf l q'
 go:q'.fin\/q.c.i<q'.c.i
theorem SQ {l:Tks} {q:Rq} {c:Nat} (hc:c≠0):(q.fail l c).er≠0:=by
 unfold Rq.fail
 split
 ·exact hc
 ·assumption
theorem rN {c:Prop} [Decidable c] {a b:Ps} (h1:c->Fsp l q a) (h2:¬ c->Fsp l q b):Fsp l q (if c then a else b):=by
 by_cases hc:c
 ·rw [aO hc];exact h1 hc
 ·rw [aG hc];exact h2 hc
theorem Fsp.red {lv:Nat} {q':Ps} (h:Fsp l (qG lv q) q'):Fsp l q q':=⟨h.wf,h.go⟩
theorem wT {c:Nat} (h:Fwf l q) (hc:c≠0):Fsp l q (q.at (q.c.fail l c)):=⟨KS h (by rw [EO];exact h.i) (by rw [EO];exact bK _),.inl (.inr (SQ hc))⟩
theorem lN {o:Ov} {c:Rq} (h:Fwf l q) (hc:c.i<l.length) (hi:q.c.i<c.i) (ho:okO o=true) (hr:cnO o=q.rd):Fsp l q (jK o (q.at c)):=⟨bE9 h hc hi ho hr,.inr hi⟩
theorem tI {v:Vl} {c:Rq} (h:Fwf l q) (hc:c.i<l.length) (hi:q.c.i<c.i) (hr:q.rd=false):Fsp l q (jZ v (q.at c)):=⟨ZY h hc (pO hi) hr,.inr hi⟩
variable (T:bE1 l)
include T
theorem aT1 {q':Ps} (h:Fwf l q) (hr:q.rd=false) (e:mT l q=some q'):Fsp l q q':=by
 have n {w:Str} (a:q.c.ac l w=true):q.c.nx.i<l.length:=dB T h.i a;have m {c:Rq} (k:Mq q.c.nx c):q.c.i<c.i:=eU (dA _) k.i;unfold mT at e
 split at e
 ·rename_i a;injection e with e;subst e;exact lN h (n a) (m (.refl _)) rfl (by rw [hr];rfl)
 split at e
 ·rename_i a;injection e with e;subst e;exact lN h (n a) (m (.refl _)) rfl (by rw [hr];rfl)
 split at e
 ·rename_i a;injection e with e;subst e;exact lN h (KQ T (n a)) (m .wiS) rfl (by rw [hr];rfl)
 split at e
 ·rename_i a;injection e with e;subst e;exact lN h (KQ T (n a)) (m .wiS) rfl (by rw [hr];rfl)
 split at e
 ·rename_i a;injection e with e;subst e;exact lN h (KR T (n a)) (m .amS) rfl (by rw [hr];rfl)
 split at e
 ·rename_i a;injection e with e;subst e;exact lN h (KR T (n a)) (m .amS) rfl (by rw [hr];rfl)
 split at e
 ·rename_i a;injection e with e;subst e;exact lN h (kQ T (KR T (n a))) (m (.trans .amS .exS)) rfl (by rw [hr];rfl)
 ·cases e
theorem bF7 (h:Fwf l q) (h0:q.c.er=0) (hr:q.rd=false) (hk:(tkf l q.c.i).k=1):Fsp l q (BD l q):=by
 have k1:q.c.nmK l=true:=by unfold Rq.nmK;rw [aK h0,aK hk];rfl
 have e1:q.c.nmS l=q.c.nx:=by unfold Rq.nmS;rw [aO k1]
 have n1:q.c.nx.i<l.length:=WZ T h.i k1;have lt {c:Rq} (k:Mq q.c.nx c):q.c.i<c.i:=eU (dA _) k.i;unfold BD;rw [e1]
 split
 ·rename_i a;have n2:=kH T (dB T n1 a);have m2:Mq q.c.nx (q.c.nx.nx.nmS l):=(Mq.nx (vU a)).trans .nmS
  split
  ·rename_i b;exact lN h (dB T n2 b) (lt (m2.trans (.nx (vU b)))) rfl (by rw [hr];rfl)
  ·exact tI h n2 (lt m2) hr
 ·exact tI h n1 (lt (.refl _)) hr
theorem bG3 {w:Str} (h:Fwf l q) (hr:q.rd=false) (a:q.c.ac l w=true):Fsp l q (DH l (q.at q.c.nx)):=by
 have n1:q.c.nx.i<l.length:=dB T h.i a;have n2:=kQ T (w:=[40]) (yL T n1);have m2:Mq q.c.nx ((q.c.nx.paS l).exS l [40]):=Mq.paS.trans .exS;have lt {c:Rq} (k:Mq q.c.nx c):q.c.i<c.i:=eU (dA _) k.i;unfold DH
 split
 ·rename_i b;exact tI (c:=((q.c.nx.paS l).exS l [40]).nx) h (dB T n2 b) (lt (m2.trans (.nx (vU b)))) hr
 ·exact lN (c:=(q.c.nx.paS l).exS l [40]) h n2 (lt m2) rfl (by rw [hr];rfl)
theorem bF8 (h:Fwf l q) (h0:q.c.er=0) (hr:q.rd=false):Fsp l q (rO l q):=by
 have n {w:Str} (a:q.c.ac l w=true):q.c.nx.i<l.length:=dB T h.i a;have m {c:Rq} (k:Mq q.c.nx c):q.c.i<c.i:=eU (dA _) k.i
 have num:(tkf l q.c.i).k=3->Fsp l q (jZ (tmv (.mk 1 [] (q.c.nbV l) [])) (q.at (q.c.nbS l))):=λhk=>by
  have k1:q.c.nbB l=true:=by unfold Rq.nbB;rw [aK h0,aK hk];rfl
  refine ⟨ZY h (xP T h.i) Mq.nbS.i hr,?_⟩
  by_cases hf:q.c.fit l=true
  ·refine .inr ?_;show q.c.i<(q.c.nbS l).i;unfold Rq.nbS;rw [aO k1,aO hf];exact dA _
  ·refine .inl (.inr ?_);show (q.c.nbS l).er≠0;unfold Rq.nbS;rw [aO k1,aG hf];exact SQ (by decide)
 unfold rO
 exact rN (λa=>lN h (n a) (m (.refl _)) rfl (by rw [hr];rfl)) λ_ =>
  rN (λa=>lN h (n a) (m (.refl _)) rfl (by rw [hr];rfl)) λ_ =>
  rN num λ_=>rN (λhk=>bF7 T h h0 hr hk) λ_ =>
  rN (λa=>tI h (n a) (m (.refl _)) hr) λ_ =>
  rN (λa=>tI h (yL T (n a)) (m .paS) hr) λ_ =>
  rN (λa=>tI h (n a) (m (.refl _)) hr) λ_ =>
  rN (λa=>tI h (n a) (m (.refl _)) hr) λ_ =>
  rN (λa=>tI h (kH T (n a)) (m .nmS) hr) λ_ =>
  rN (λa=>lN h (kQ T (yL T (n a))) (m (.trans .paS .exS)) rfl (by rw [hr];rfl)) λ_ =>
  rN (λa=>bG3 T h hr a) λ_=>wT h (by decide)
theorem UD (h:Fwf l q) (h0:q.c.er=0) (hr:q.rd=false):Fsp l q (eH l q):=by
 unfold eH;cases e:(if HL q then mT l q else none) with
 | some q' =>
  split at e
  ·exact aT1 T h hr e
  ·cases e
 | none =>
  show Fsp l q (yS l q);unfold yS
  split
  ·rename_i a;exact tI h (dB T h.i a.2) (dA _) hr
  ·exact bF8 T h h0 hr
theorem bG2 {op:UInt8} {w:Str} (h:Fwf l q) (hr:q.rd=true) (a:q.c.ac l w=true):Fsp l q (uP l op q):=by
 have n:=dB T h.i a;have w7:=uI (lv:=7) (by decide) h hr;have w8:=uI (lv:=8) (by decide) h hr;unfold uP
 exact rN (λ_=>rN (λ_=>(wT (c:=8) w7 (by decide)).red) λ_=>(lN (o:=⟨8,6,false,op,zF⟩) (c:=q.c.nx) w7 n (dA _) rfl hr.symm).red) λ_ =>
  rN (λ_=>rN (λ_=>(wT (c:=8) w8 (by decide)).red) λ_=>(lN (o:=⟨9,8,false,op,zF⟩) (c:=q.c.nx) w8 n (dA _) rfl hr.symm).red) λ_ =>
  rN (λ_=>(wT (c:=8) w7 (by decide)).red) λ_=>(lN (o:=⟨9,7,false,op,zF⟩) (c:=q.c.nx) w7 n (dA _) rfl hr.symm).red
theorem bY2 {c:Rq} (h0:c.er=0) (hw:c.wrd l=true):(1<=(cS (c.joV l).op).lv/\(cS (c.joV l).op).lv<=4)/\c.i<(c.joS l).i:=by
 have ac {w:Str} (e:c.is l w=true):c.ac l w=true:=by unfold Rq.ac;rw [e,aK h0];rfl
 have lt {c':Rq} (k:Mq c.nx c'):c.i<c'.i:=eU (dA _) k.i;unfold Rq.joV Rq.joS
 by_cases a1:c.ac l [115,105,110,99,101]=true
 ·rw [aO a1,aO a1];exact ⟨by show 1<=(cS 15).lv/\(cS 15).lv<=4;decide,lt .wiS⟩
 by_cases a2:c.ac l [97,110,100]=true
 ·rw [aG a1,aG a1,aO a2,aO a2];exact ⟨by show 1<=(cS 9).lv/\(cS 9).lv<=4;decide,lt (.refl _)⟩
 by_cases a3:c.ac l [111,114]=true
 ·rw [aG a1,aG a1,aG a2,aG a2,aO a3,aO a3];exact ⟨by show 1<=(cS 10).lv/\(cS 10).lv<=4;decide,lt (.refl _)⟩
 by_cases a4:c.ac l [105,109,112,108,105,101,115]=true
 ·rw [aG a1,aG a1,aG a2,aG a2,aG a3,aG a3,aO a4,aO a4];exact ⟨by show 1<=(cS 11).lv/\(cS 11).lv<=4;decide,lt (.refl _)⟩
 unfold Rq.wrd at hw;rw [aT,aT,aT] at hw;rcases hw with ((e | e) | e) | e
 ·exact absurd (ac e) a1
 ·exact absurd (ac e) a2
 ·exact absurd (ac e) a3
 ·exact absurd (ac e) a4
theorem okJ {f:Fm} {lv:Nat} (h:1<=lv):okO ⟨6,lv,false,0,f⟩=true:=by
 unfold okO;rw [aK (show 0<lv by omega)];rfl
theorem bG0 (h:Fwf l q) (h0:q.c.er=0) (hr:q.rd=true) (hw:q.c.wrd l=true):Fsp l q (yG l q):=by
 obtain ⟨⟨h1,_⟩,hi⟩:=bY2 T h0 hw;unfold yG
 split
 ·exact wT h (by decide)
 ·exact (lN (o:=⟨6,_,false,0,q.c.joV l⟩) (c:=q.c.joS l) (uI h1 h hr) (bW6 T h.i) hi (okJ T h1) hr.symm).red
theorem FJ {c:Rq} {v:Vl} {x:Vb} (h:Fwf l q) (hr:q.rd=true) (ho:okO (fP q)=true) (hk:cnO (fP q)=false) (hc:c.i<l.length) (hi:q.c.i<c.i) (hx:x.1.length=q.x.1.length - 1):Fsp l q (HW c v x q):=by
 obtain ⟨r,e,hro⟩:=h.op;have hv:=h.vs
 have ht:fP q=bO\/∃ o r',r=o::r'/\fP q=o:=by
  unfold fP;rw [e];cases r with
  | nil=>exact .inl rfl
  | cons o r'=>exact .inr ⟨o,r',Z,Z⟩
 rcases ht with ht | ⟨o,r',rfl,ht⟩
 ·rw [ht] at ho;exact absurd ho (by decide)
 ·rw [ht] at hk;rw [e,bT,sD,hk,hr] at hv;simp only [aE,aW,aY] at hv;refine ⟨⟨hc,⟨r',by show q.op.tail=_;rw [e];rfl,λo ho=>hro o (bZ _ ho)⟩,?_,?_⟩,.inr hi⟩
  ·show x.1.length+1=DG q.op.tail+1;rw [e];show _=DG (r'++[bO])+1;omega
  ·show q.op.tail.length<=c.i+1;have:=h.so;rw [List.length_tail];omega
theorem HC (h:Fwf l q) {k:UInt8} (hk:(fP q).kd=k) (h1:¬ k=1):okO (fP q)=true:=by
 rcases h.top with ⟨_,e⟩ | ⟨r,_,ho,_⟩
 ·rw [e] at hk;exact absurd hk.symm h1
 ·exact ho
theorem bG1 (h:Fwf l q) (hr:q.rd=true):Fsp l q (oR l q):=by
 unfold oR
 split
 ·exact ⟨⟨h.i,h.op,h.vs,h.so⟩,.inl (.inl Z)⟩
 split
 ·rename_i a;exact FJ T h hr (HC T h a.1 (by decide)) (by unfold cnO;rw [a.1];decide) (dB T h.i a.2) (dA _) List.length_tail
 split
 ·rename_i a;exact FJ T h hr (HC T h a.1 (by decide)) (by unfold cnO;rw [a.1];decide) (xP T (kQ T (dB T h.i a.2))) (eU (dA _) (Mq.trans (a:=q.c.nx) .exS .nbS).i) (bA7 _)
 split
 ·rename_i a
  split
  ·exact FJ T h hr (HC T h a.1 (by decide)) (by unfold cnO;rw [a.1];decide) (dB T h.i a.2) (dA _) (KX _)
  ·exact FJ T h hr (HC T h a.1 (by decide)) (by unfold cnO;rw [a.1];decide) (dB T h.i a.2) (dA _) (KX _)
 split
 ·rename_i a;have ho:=HC T h a.1 (by decide);obtain ⟨r,e,hro⟩:=h.op;have hv:=h.vs;rcases h.top with ⟨_,e1⟩ | ⟨r,e1,_,hr1⟩
  ·rw [e1] at ho;exact absurd ho (by decide)
  ·have hc:cnO (fP q)=false:=by unfold cnO;rw [a.1];decide
   rw [e1,sD,hc,hr] at hv;simp only [aE,aW,aY] at hv;refine ⟨⟨dB T h.i a.2,⟨_::r,by rw [e1];rfl,?_⟩,?_,?_⟩,.inr (dA _)⟩
   ·intro o hz;rcases bV.1 hz with rfl | hz
    ·exact ho
    ·exact hr1 o hz
   ·show (tS q.x).1.length=DG (_::q.op.tail)+0;rw [KX,e1,sD];show _=(if cnO (fP q) then 1 else 0)+DG (r++[bO])+0;rw [hc];simp only [aE,aW];omega
   ·show q.op.tail.length+1<=q.c.i+1+1;have:=h.so;rw [List.length_tail];omega
 split
 ·rename_i a;exact FJ T h hr (HC T h a.1 (by decide)) (by unfold cnO;rw [a.1];decide) (dB T h.i a.2) (dA _) (KX _)
 ·exact wT h (by decide)
theorem bF9 (h:Fwf l q) (h0:q.c.er=0) (hr:q.rd=true):Fsp l q (uK l q):=by
 unfold uK
 split
 ·rename_i hw;exact bG0 T h h0 hr hw
 split
 ·have:=bG1 T (uI (lv:=1) (by decide) h hr) hr;exact ⟨this.wf,this.go⟩
 ·exact wT h (by decide)
theorem aS8 {c:Rq} {i:Nat} (h0:c.er=0) (e:c.sym l=some i):c.ac l (xB.getD i [])=true/\i<22/\i≠0:=by
 unfold Rq.sym at e
 split at e
 ·rename_i hk;unfold aS9 at e;have h1:=List.find?_some e;have h2:=cD.1 (List.mem_of_find?_eq_some e);rw [aF,aD,aD] at h1;refine ⟨?_,h2,h1.2⟩;unfold Rq.ac Rq.is;rw [h1.1,aK h0,aK (show (tkf l c.i).t=(tkf l c.i).t from rfl)];rcases hk with e | e <;> rw [e] <;> decide
 ·cases e
theorem RF (h:Fwf l q) (h0:q.c.er=0) (hr:q.rd=true):Fsp l q (iE l q):=by
 unfold iE;cases e:q.c.sym l with
 | some i=>exact bG2 T h hr (aS8 T h0 e).1
 | none=>exact bF9 T h h0 hr
theorem UC (h:Fwf l q) (hf:¬ q.fin):Fsp l q (AW l q):=by
 have h0:q.c.er=0:=Classical.byContradiction λe=>hf (.inr e);unfold AW
 split
 ·rename_i hr;exact RF T h h0 hr
 ·rename_i hr;exact UD T h h0 (by simpa using hr)
omit T in
theorem XA (h:0<l.length):Fwf l YF:=⟨h,⟨[],Z,λ_ h=>(by cases h)⟩,Z,by decide⟩
theorem RK:∀ (n:Nat) (q:Ps),Fwf l q->l.length<=q.c.i+n->(BL l n q).fin/\Fwf l (BL l n q)
 | 0,q,h,hn=>by have:=h.i;omega
 | n+1,q,h,hn=>by
  rw [BL]
  split
  ·rename_i hf;exact ⟨hf,h⟩
  ·rename_i hf;have s:=UC T h hf;rcases s.go with hg | hg
   ·cases n with
    | zero=>exact ⟨hg,s.wf⟩
    | succ n=>rw [BL,aO hg];exact ⟨hg,s.wf⟩
   ·exact RK n _ s.wf (by omega)
end
theorem RJ {l:Tks} {q:Ps} (h:q.fin):∀ n,BL l n q=q
 | 0=>rfl
 | n+1=>by rw [BL,aO h]
theorem JV {l:Tks}:∀ (n m:Nat) (q:Ps),BL l (n+m) q=BL l m (BL l n q)
 | 0,m,q=>by rw [dV];rfl
 | n+1,m,q=>by
  rw [show n+1+m=(n+m)+1 by omega,BL,BL]
  split
  ·rename_i hf;rw [RJ hf]
  ·exact JV n m _
structure Fn where
 fm:Bool
 tm:Bool
 f:Fm
 e:Ex
def mdN (f:Fm):Fn:=⟨true,false,f,zE⟩
def vlN (e:Ex):Fn:=⟨false,true,zF,e⟩
def zN:Fn:=⟨false,false,zF,zE⟩
inductive Nt where
 | lev (k:Nat)
 | lp (k:Nat) (a:Fn)
 | arg (f:Fm)
 | aft (f:Fm)
def joW (k:Nat):Str:=if k=1 then [105,109,112,108,105,101,115] else if k=2 then [111,114] else if k=3 then [97,110,100] else [115,105,110,99,101]
def RM:List (Str × UInt8):=[([110,111,116],8),([112,114,101,118,105,111,117,115],12),([111,110,99,101],13),([97,108,119,97,121,115],14),([102,111,114,97,108,108],16),([101,120,105,115,116,115],17)]
def aU8:List Str:=[[110,111,119],[116,114,117,101],[102,97,108,115,101],[102,108,97,103],[104,97,115],[97,114,114,105,118,101,115],[115,105,122,101],[40]]
section
variable (l:Tks)
def Rq.prS (op:UInt8) (r:Rq):Rq:=if op=13\/op=14 then r.nx.wiS l else if op=16\/op=17 then r.nx.amS l else r.nx
def Rq.prF (op:UInt8) (r:Rq):Fm:=if op=13\/op=14 then r.nx.wiV l op else if op=16\/op=17 then r.nx.amV l op else .mk op [] [] 0 0 [] []
def Rq.jnS (k:Nat) (r:Rq):Rq:=if k=4 then r.nx.wiS l else r.nx
def Rq.jnF (k:Nat) (r:Rq):Fm:=if k=4 then r.nx.wiV l 15 else .mk (UInt8.ofNat (12 - k)) [] [] 0 0 [] []
def bV9 (k i:Nat):Prop:=(k=7/\(i=14\/i=15))\/(k=8/\(i=11\/i=12\/i=13))
def opB (i:Nat) (es:List Ex):Ex:=.mk (UInt8.ofNat i) [] 0 es
inductive Gd:Nt->Rq->Fn->Bool->Rq->Prop
 | seq {k:Nat} {r r1 r2:Rq} {x n:Fn} {m m':Bool} (hk:(1<=k/\k<=4)\/k=7\/k=8) (h1:Gd (.lev (k+1)) r x m r1) (h2:Gd (.lp k x) r1 n m' r2):Gd (.lev k) r n (m || m') r2
 | outJ {k:Nat} {r:Rq} {a:Fn} (hk:1<=k/\k<=4) (h:r.ac l (joW k)=false):Gd (.lp k a) r a false r
 | outA {k:Nat} {r:Rq} {a:Fn} (hk:k=7\/k=8) (h:∀ i,bV9 k i->r.ac l (xB.getD i [])=false):Gd (.lp k a) r a false r
 | join {k:Nat} {r r1 r2:Rq} {a y n:Fn} {m m':Bool} (hk:1<=k/\k<=4) (h:r.ac l (joW k)=true) (h1:Gd (.lev (k+1)) (r.jnS l k) y m r1) (h2:Gd (.lp k (mdN ((r.jnF l k).wAr [a.f,y.f]))) r1 n m' r2):Gd (.lp k a) r n ((m || (!a.fm || !y.fm)) || m') r2
 | ari {k i:Nat} {r r1 r2:Rq} {a y n:Fn} {m m':Bool} (hk:bV9 k i) (h:r.ac l (xB.getD i [])=true) (h1:Gd (.lev (k+1)) r.nx y m r1) (h2:Gd (.lp k (vlN (opB i [a.e,y.e]))) r1 n m' r2):Gd (.lp k a) r n ((m || (!a.tm || !y.tm)) || m') r2
 | pre {w:Str} {op:UInt8} {r r1:Rq} {x:Fn} {m:Bool} (hp:(w,op)∈RM) (h:r.ac l w=true) (h1:Gd (.lev 5) (r.prS l op) x m r1):Gd (.lev 5) r (mdN ((r.prF l op).wAr [x.f])) (m || !x.fm) r1
 | cnt {r r1:Rq} {x:Fn} {m:Bool} (h:r.ac l [99,111,117,110,116]=true) (h1:Gd (.lev 1) ((r.nx.amS l).exS l [40]) x m r1):Gd (.lev 5) r (mdN (((r.nx.amV l 18).wEx [.mk 1 [] (((r1.exS l [41]).exS l [62,61]).nbV l) []]).wAr [x.f])) (m || !x.fm) (((r1.exS l [41]).exS l [62,61]).nbS l)
 | cmp0 {r r1:Rq} {x:Fn} {m:Bool} (hp:∀ w op,(w,op)∈RM->r.ac l w=false) (hc:r.ac l [99,111,117,110,116]=false) (h1:Gd (.lev 6) r x m r1):Gd (.lev 5) r x m r1
 | cm0 {r r1:Rq} {x:Fn} {m:Bool} (h1:Gd (.lev 7) r x m r1) (h:∀ i,16<=i->i<=21->r1.ac l (xB.getD i [])=false):Gd (.lev 6) r x m r1
 | cm1 {i:Nat} {r r1 r2:Rq} {x y:Fn} {m m':Bool} (hi:16<=i/\i<=21) (h1:Gd (.lev 7) r x m r1) (h:r1.ac l (xB.getD i [])=true) (h2:Gd (.lev 7) r1.nx y m' r2):Gd (.lev 6) r (mdN (.mk 3 [] [] 0 0 [opB i [x.e,y.e]] [])) ((m || m') || (!x.tm || !y.tm)) r2
 | neg {r r1:Rq} {x:Fn} {m:Bool} (h:r.ac l [45]=true) (h1:Gd (.lev 9) r.nx x m r1):Gd (.lev 9) r (vlN (.mk 9 [] 0 [x.e])) (m || !x.tm) r1
 | pri {r r1:Rq} {x:Fn} {m:Bool} (h:r.ac l [45]=false) (h1:Gd (.lev 10) r x m r1):Gd (.lev 9) r x m r1
 | bad {r:Rq} (h:r.er≠0):Gd (.lev 10) r zN false r
 | num {r:Rq} (h:r.er=0) (hk:(tkf l r.i).k=3):Gd (.lev 10) r (vlN (.mk 1 [] (r.nbV l) [])) false (r.nbS l)
 | now {r:Rq} (h:r.ac l [110,111,119]=true):Gd (.lev 10) r (vlN (.mk 4 [] 0 [])) false r.nx
 | tru {r:Rq} (h:r.ac l [116,114,117,101]=true):Gd (.lev 10) r (mdN (.mk 1 [] [] 0 0 [] [])) false r.nx
 | fal {r:Rq} (h:r.ac l [102,97,108,115,101]=true):Gd (.lev 10) r (mdN (.mk 2 [] [] 0 0 [] [])) false r.nx
 | flg {r:Rq} (h:r.ac l [102,108,97,103]=true):Gd (.lev 10) r (mdN (.mk 6 (r.nx.nmV l) [] 0 0 [] [])) false (r.nx.nmS l)
 | has {r r1:Rq} {x:Fn} {m:Bool} (h:r.ac l [104,97,115]=true) (h1:Gd (.lev 7) ((r.nx.paS l).exS l [91]) x m r1):Gd (.lev 10) r (mdN ((r.nx.paV l 5).wEx [x.e])) (m || !x.tm) (r1.exS l [93])
 | arr0 {r:Rq} (h:r.ac l [97,114,114,105,118,101,115]=true) (h1:((r.nx.paS l).exS l [40]).ac l [41]=true):Gd (.lev 10) r (mdN (r.nx.paV l 7)) false ((r.nx.paS l).exS l [40]).nx
 | arr {r r1:Rq} {n:Fn} {m:Bool} (h:r.ac l [97,114,114,105,118,101,115]=true) (h0:((r.nx.paS l).exS l [40]).ac l [41]=false) (h1:Gd (.arg (r.nx.paV l 7)) ((r.nx.paS l).exS l [40]) n m r1):Gd (.lev 10) r n m r1
 | siz {r:Rq} (h:r.ac l [115,105,122,101]=true):Gd (.lev 10) r (vlN (.mk 8 (r.nx.paN l++[46]++r.nx.paF l) 0 [])) false (r.nx.paS l)
 | par {r r1:Rq} {x:Fn} {m:Bool} (h:r.ac l [40]=true) (h1:Gd (.lev 1) r.nx x m r1):Gd (.lev 10) r x m (r1.exS l [41])
 | nam0 {r:Rq} (h:r.er=0) (hk:(tkf l r.i).k=1) (hd:r.nx.ac l [46]=false):Gd (.lev 10) r (vlN (.mk 5 (r.nmV l) 0 [])) false r.nx
 | nam1 {r:Rq} (h:r.er=0) (hk:(tkf l r.i).k=1) (hd:r.nx.ac l [46]=true) (hb:(r.nx.nx.nmS l).ac l [91]=false):Gd (.lev 10) r ⟨true,true,.mk 4 (r.nmV l) (r.nx.nx.nmV l) 0 0 [] [],.mk 5 (r.ful l) 0 []⟩ false (r.nx.nx.nmS l)
 | get {r r1:Rq} {x:Fn} {m:Bool} (h:r.er=0) (hk:(tkf l r.i).k=1) (hd:r.nx.ac l [46]=true) (hb:(r.nx.nx.nmS l).ac l [91]=true) (h1:Gd (.lev 7) (r.nx.nx.nmS l).nx x m r1):Gd (.lev 10) r (vlN (.mk 6 (r.ful l) 0 [x.e])) (m || !x.tm) (r1.exS l [93])
 | non {r:Rq} (h:r.er=0) (h0:r.ac l [45]=false) (h3:(tkf l r.i).k≠3) (h1:(tkf l r.i).k≠1) (hw:∀ w∈aU8,r.ac l w=false):Gd (.lev 10) r zN false (r.fail l 8)
 | arU {r r1:Rq} {f:Fm} {n:Fn} {m:Bool} (h:r.ac l [95]=true) (h1:Gd (.aft (f.wEx (f.ex++[zE]))) r.nx n m r1):Gd (.arg f) r n m r1
 | arT {r r1 r2:Rq} {f:Fm} {x n:Fn} {m m':Bool} (h:r.ac l [95]=false) (h1:Gd (.lev 7) r x m r1) (h2:Gd (.aft (f.wEx (f.ex++[x.e]))) r1 n m' r2):Gd (.arg f) r n ((m || !x.tm) || m') r2
 | afC {r r1:Rq} {f:Fm} {n:Fn} {m:Bool} (h:r.ac l [44]=true) (h1:Gd (.arg f) r.nx n m r1):Gd (.aft f) r n m r1
 | afE {r:Rq} {f:Fm} (h:r.ac l [44]=false):Gd (.aft f) r (mdN f) false (r.exS l [41])
end
section
variable {l:Tks} {r r':Rq} {w:Str}
theorem aG1 (h:r.er≠0):r.ac l w=false:=by unfold Rq.ac;rw [aM h];rfl
theorem nE (h:r.er≠0) (h2:r.ac l w=true):False:=by rw [aG1 h] at h2;cases h2
theorem bV0 (h:r.er≠0):r.exS l w=r:=Mq.exS.er h
theorem bY8 {nt:Nt} {n:Fn} {m:Bool} (g:Gd l nt r n m r'):r.er≠0->r'=r:=by
 induction g with
 | seq hk h1 h2 i1 i2=>intro e;have:=i1 e;subst this;exact i2 e
 | outJ=>intro _;rfl
 | outA=>intro _;rfl
 | join hk h=>intro e;exact (nE e h).elim
 | ari hk h=>intro e;exact (nE e h).elim
 | pre hp h=>intro e;exact (nE e h).elim
 | cnt h=>intro e;exact (nE e h).elim
 | cmp0 hp hc h1 i1=>exact i1
 | cm0 h1 h i1=>exact i1
 | cm1 hi h1 h h2 i1 i2=>intro e;have:=i1 e;subst this;exact (nE e h).elim
 | neg h=>intro e;exact (nE e h).elim
 | pri h h1 i1=>exact i1
 | bad=>intro _;rfl
 | num h=>intro e;exact absurd h e
 | now h=>intro e;exact (nE e h).elim
 | tru h=>intro e;exact (nE e h).elim
 | fal h=>intro e;exact (nE e h).elim
 | flg h=>intro e;exact (nE e h).elim
 | has h=>intro e;exact (nE e h).elim
 | arr0 h=>intro e;exact (nE e h).elim
 | arr h=>intro e;exact (nE e h).elim
 | siz h=>intro e;exact (nE e h).elim
 | par h=>intro e;exact (nE e h).elim
 | nam0 h=>intro e;exact absurd h e
 | nam1 h=>intro e;exact absurd h e
 | get h=>intro e;exact absurd h e
 | non h=>intro e;exact absurd h e
 | arU h=>intro e;exact (nE e h).elim
 | arT h h1 h2 i1 i2=>intro e;have:=i1 e;subst this;exact i2 e
 | afC h=>intro e;exact (nE e h).elim
 | afE h=>intro e;exact bV0 e
end
structure Nok (v:Vl) (n:Fn):Prop where
 tm:v.tm=n.tm
 e:n.tm=true->v.e=n.e
 fm:n.fm=!v.noF
 f:n.fm=true->v.fm=n.f
def aE6 (P:List Ov) (x:Vb):Vb:=P.foldl (λx o=>zB o x) x
theorem aK5 (P R:List Ov) (x:Vb):aE6 (P++R) x=aE6 R (aE6 P x):=nI ..
def Rch (l:Tks) (q q':Ps):Prop:=∃ n,BL l n q=q'
section
variable {l:Tks} {q q' q'':Ps}
theorem Rch.refl:Rch l q q:=⟨0,Z⟩
theorem Rch.trans (h:Rch l q q') (k:Rch l q' q''):Rch l q q'':=by
 obtain ⟨n,h⟩:=h;obtain ⟨m,k⟩:=k;exact ⟨n+m,by rw [JV,h,k]⟩
theorem Rch.one (h0:q.c.er=0) (hd:q.dn=false) (h:AW l q=q'):Rch l q q':=⟨1,by
 rw [BL,aG,h];rfl;rintro (e | e)
 ·rw [hd] at e;cases e
 ·exact e h0⟩
structure Rdy (k:Nat) (q q':Ps) (n:Fn) (m:Bool) (r:Rq):Prop where
 c:q'.c=r
 rd:q'.rd=true
 dn:q'.dn=false
 st:∃ P v,q'.op=P++q.op/\(∀ p∈P,k<=p.lv/\p.tm=(fP q).tm)/\aE6 P q'.x=(v::q.x.1,q.x.2 || m)/\(m=false->Nok v n)
 wh:6<=k->(vG q'.x).wh=false
theorem Rdy.mono {k j:Nat} {n:Fn} {m:Bool} {r:Rq} (h:Rdy k q q' n m r) (hj:j<=k) (hw:6<=j->6<=k):Rdy j q q' n m r:=by
 obtain ⟨P,v,a,b,c,d⟩:=h.st;exact ⟨h.c,h.rd,h.dn,⟨P,v,a,λp hp=>⟨bH hj (b p hp).1,(b p hp).2⟩,c,d⟩,λe=>h.wh (hw e)⟩
theorem Rdy.up {k j:Nat} {o:Ov} {q1 q2 q3:Ps} {n N:Fn} {m M:Bool} {r:Rq} (h:Rdy j q2 q3 n m r) (hop:q2.op=o::q1.op) (hk:k<=o.lv) (hj:k<=j) (ht:o.tm=(fP q1).tm)
 (hx:∀ v,(m=false->Nok v n)->∃ u,zB o (v::q2.x.1,q2.x.2 || m)=(u::q1.x.1,q1.x.2 || M)/\(M=false->Nok u N)) (hw:6<=k->(vG q3.x).wh=false):Rdy k q1 q3 N M r:=by
 obtain ⟨P,v,a,b,c,d⟩:=h.st;obtain ⟨u,e,f⟩:=hx v d;have ht2:(fP q2)=o:=by unfold fP;rw [hop];rfl
 refine ⟨h.c,h.rd,h.dn,⟨P++[o],u,by rw [a,hop,aX];rfl,?_,?_,f⟩,hw⟩
 ·intro p hp;rcases cV.1 hp with hp | hp
  ·have:=b p hp;rw [ht2,ht] at this;exact ⟨bH hj this.1,this.2⟩
  ·rw [cI] at hp;subst hp;exact ⟨hk,ht⟩
 ·rw [aK5,c];exact e
theorem xC {c:Rq} {w w':Str} (h:c.ac l w=true) (hw:w≠w'):c.ac l w'=false:=by
 cases h2:c.ac l w' with
 | false=>rfl
 | true=>exact absurd ((bD9 h).symm.trans (bD9 h2)) hw
theorem EQ {c:Rq} {w:Str} (h:c.ac l w=true):¬ (tkf l c.i).k=3:=by rcases bE0 h with e | e <;> rw [e] <;> decide
theorem ER {c:Rq} {w:Str} (h:c.ac l w=true):¬ (tkf l c.i).k=1:=by rcases bE0 h with e | e <;> rw [e] <;> decide
theorem aJ5 {c:Rq} {w:Str} (h:¬ ((tkf l c.i).k=2\/(tkf l c.i).k=4)):c.ac l w=false:=by
 cases h2:c.ac l w with
 | false=>rfl
 | true=>exact absurd (bE0 h2) h
theorem aA3 {c:Rq} {w:Str} (h:c.ac l w=true) (hw:aS9 w=none):c.sym l=none:=by
 unfold Rq.sym
 split
 ·rw [bD9 h];exact hw
 ·rfl
theorem aD7 {c:Rq} {w:Str} (h:c.ac l w=true):c.is l w=true:=TC h
theorem LU {c:Rq} {w:Str} (h0:c.er=0):c.is l w=c.ac l w:=by unfold Rq.ac;rw [aK h0,aA]
end
structure Tgd (l:Tks):Prop where
 last:bE1 l
 ne:∀ i,(tkf l i).k=2\/(tkf l i).k=4->(tkf l i).t≠[]
 nm:∀ i,(tkf l i).k=1->fD (tkf l i).t=none
section
variable {l:Tks} {q q' q'':Ps} {w w':Str} {c r r':Rq} {k i:Nat} {n:Fn} {m:Bool} {v:Vl}
theorem nw (h:c.ac l w=true) (hw:w≠w'):¬ c.ac l w'=true:=by rw [xC h hw];decide
theorem CL {op:UInt8} (h:q.c.ac l w=true) (hp:(w,op)∈RM):mT l q=some (jK ⟨7,5,false,0,q.c.prF l op⟩ (q.at (q.c.prS l op))):=by
 unfold RM at hp;simp only [bV,jC,List.not_mem_nil,or_false] at hp;unfold mT Rq.prF Rq.prS;rcases hp with ⟨rfl,rfl⟩ | ⟨rfl,rfl⟩ | ⟨rfl,rfl⟩ | ⟨rfl,rfl⟩ | ⟨rfl,rfl⟩ | ⟨rfl,rfl⟩
 ·rw [aO h];rfl
 ·rw [aG (nw h (by decide)),aO h];rfl
 ·rw [aG (nw h (by decide)),aG (nw h (by decide)),aO h];rfl
 ·rw [aG (nw h (by decide)),aG (nw h (by decide)),aG (nw h (by decide)),aO h];rfl
 ·rw [aG (nw h (by decide)),aG (nw h (by decide)),aG (nw h (by decide)),aG (nw h (by decide)),aO h];rfl
 ·rw [aG (nw h (by decide)),aG (nw h (by decide)),aG (nw h (by decide)),aG (nw h (by decide)),aG (nw h (by decide)),aO h];rfl
theorem aV0 (h:q.c.ac l [99,111,117,110,116]=true):mT l q=some (jK ⟨3,0,false,0,q.c.nx.amV l 18⟩ (q.at ((q.c.nx.amS l).exS l [40]))):=by
 unfold mT;rw [aG (nw h (by decide)),aG (nw h (by decide)),aG (nw h (by decide)),aG (nw h (by decide)),aG (nw h (by decide)),aG (nw h (by decide)),aO h]
theorem bG9 (hp:∀ w op,(w,op)∈RM->q.c.ac l w=false) (hc:q.c.ac l [99,111,117,110,116]=false):mT l q=none:=by
 have no {w:Str} {op:UInt8} (h:(w,op)∈RM):¬ q.c.ac l w=true:=by rw [hp w op h];decide
 unfold mT;rw [aG (no (op:=8) (by decide)),aG (no (op:=12) (by decide)),aG (no (op:=13) (by decide)),aG (no (op:=14) (by decide)),aG (no (op:=16) (by decide)),aG (no (op:=17) (by decide)),aG (by rw [hc];decide)]
theorem lQ (hf:HL q=false\/mT l q=none) (hk:(fP q).kd=5->q.c.ac l [95]=false):eH l q=rO l q:=by
 have e:(if HL q then mT l q else none)=none:=by
  rcases hf with e | e
  ·rw [e];rfl
  ·rw [e];split <;> rfl
 unfold eH;rw [e];show yS l q=_;unfold yS;rw [aG];rintro ⟨h1,h2⟩;rw [hk h1] at h2;cases h2
theorem aB6 (h:q.c.ac l [45]=true):rO l q=jK ⟨10,9,false,0,zF⟩ (q.at q.c.nx):=by unfold rO;rw [aO h]
theorem aB2 (h:q.c.ac l [40]=true):rO l q=jK ⟨2,0,false,0,zF⟩ (q.at q.c.nx):=by unfold rO;rw [aG (nw h (by decide)),aO h]
theorem bN7 (h:(tkf l c.i).k=3):¬ c.ac l w=true:=by rw [aJ5 (by rw [h];decide)];decide
theorem bN8 (h:(tkf l c.i).k=1):¬ c.ac l w=true:=by rw [aJ5 (by rw [h];decide)];decide
theorem aB3 (h:(tkf l q.c.i).k=3):rO l q=jZ (tmv (.mk 1 [] (q.c.nbV l) [])) (q.at (q.c.nbS l)):=by unfold rO;rw [aG (bN7 h),aG (bN7 h),aO h]
theorem aB7 (h:(tkf l q.c.i).k=1):rO l q=BD l q:=by unfold rO;rw [aG (bN8 h),aG (bN8 h),aG (by rw [h];decide),aO h]
theorem aB4 (h:q.c.ac l [110,111,119]=true):rO l q=jZ (tmv (.mk 4 [] 0 [])) (q.at q.c.nx):=by
 unfold rO;rw [aG (nw h (by decide)),aG (nw h (by decide)),aG (EQ h),aG (ER h),aO h]
theorem aB1 (h:q.c.ac l [115,105,122,101]=true):rO l q=jZ (tmv (.mk 8 (q.c.nx.paN l++[46]++q.c.nx.paF l) 0 [])) (q.at (q.c.nx.paS l)):=by
 unfold rO;rw [aG (nw h (by decide)),aG (nw h (by decide)),aG (EQ h),aG (ER h),aG (nw h (by decide)),aO h]
theorem aB0 (h:q.c.ac l [116,114,117,101]=true):rO l q=jZ (fmv (.mk 1 [] [] 0 0 [] [])) (q.at q.c.nx):=by
 unfold rO;rw [aG (nw h (by decide)),aG (nw h (by decide)),aG (EQ h),aG (ER h),aG (nw h (by decide)),aG (nw h (by decide)),aO h]
theorem aC0 (h:q.c.ac l [102,97,108,115,101]=true):rO l q=jZ (fmv (.mk 2 [] [] 0 0 [] [])) (q.at q.c.nx):=by
 unfold rO;rw [aG (nw h (by decide)),aG (nw h (by decide)),aG (EQ h),aG (ER h),aG (nw h (by decide)),aG (nw h (by decide)),aG (nw h (by decide)),aO h]
theorem aB9 (h:q.c.ac l [102,108,97,103]=true):rO l q=jZ (fmv (.mk 6 (q.c.nx.nmV l) [] 0 0 [] [])) (q.at (q.c.nx.nmS l)):=by
 unfold rO;rw [aG (nw h (by decide)),aG (nw h (by decide)),aG (EQ h),aG (ER h),aG (nw h (by decide)),aG (nw h (by decide)),aG (nw h (by decide)),aG (nw h (by decide)),aO h]
theorem aB8 (h:q.c.ac l [104,97,115]=true):rO l q=jK ⟨4,0,true,0,q.c.nx.paV l 5⟩ (q.at ((q.c.nx.paS l).exS l [91])):=by
 unfold rO;rw [aG (nw h (by decide)),aG (nw h (by decide)),aG (EQ h),aG (ER h),aG (nw h (by decide)),aG (nw h (by decide)),aG (nw h (by decide)),aG (nw h (by decide)),aG (nw h (by decide)),aO h]
theorem aC1 (h:q.c.ac l [97,114,114,105,118,101,115]=true):rO l q=DH l (q.at q.c.nx):=by
 unfold rO;rw [aG (nw h (by decide)),aG (nw h (by decide)),aG (EQ h),aG (ER h),aG (nw h (by decide)),aG (nw h (by decide)),aG (nw h (by decide)),aG (nw h (by decide)),aG (nw h (by decide)),aG (nw h (by decide)),aO h]
theorem aB5 (h0:q.c.ac l [45]=false) (h3:(tkf l q.c.i).k≠3) (h1:(tkf l q.c.i).k≠1) (hw:∀ w∈aU8,q.c.ac l w=false):rO l q=q.at (q.c.fail l 8):=by
 have no {w:Str} (h:w∈aU8):¬ q.c.ac l w=true:=by rw [hw w h];decide
 unfold rO;rw [aG (by rw [h0];decide),aG (no (by decide)),aG h3,aG h1,aG (no (by decide)),aG (no (by decide)),aG (no (by decide)),aG (no (by decide)),aG (no (by decide)),aG (no (by decide)),aG (no (by decide))]
theorem bC4 (h1:(fP q).kd=1->(tkf l q.c.i).k≠0) (h2:(fP q).kd=2\/(fP q).kd=3\/(fP q).kd=5->q.c.ac l [41]=false) (h4:(fP q).kd=4->q.c.ac l [93]=false) (h5:(fP q).kd=5->q.c.ac l [44]=false):oR l q=q.at (q.c.fail l 8):=by
 have no {w:Str} (e:q.c.ac l w=false):¬ q.c.ac l w=true:=by rw [e];decide
 unfold oR;rw [aG (λe=>h1 e.1 e.2),aG (λe=>no (h2 (.inl e.1)) e.2),aG (λe=>no (h2 (.inr (.inl e.1))) e.2),aG (λe=>no (h4 e.1) e.2),aG (λe=>no (h5 e.1) e.2),aG (λe=>no (h2 (.inr (.inr e.1))) e.2)]
end
section
variable {l:Tks} {q q' q'':Ps} {w w':Str} {c r r':Rq} {k i:Nat} {n x y:Fn} {m ma b:Bool} {v u:Vl} {V:List Vl}
theorem bZ7 (h:r.ac l w=true):r.exS l w=r.nx:=by unfold Rq.exS;rw [aO h]
theorem bZ6 (h:r.ac l w=false):r.exS l w=r.fail l 8:=by unfold Rq.exS;rw [aG (by rw [h];decide)]
theorem aD6 (hk:1<=k/\k<=4) (h:r.ac l (joW k)=true):r.joV l=r.jnF l k/\r.joS l=r.jnS l k/\(cS (r.jnF l k).op).lv=k/\r.wrd l=true/\r.sym l=none:=by
 have h0:=vU h;have e:k=1\/k=2\/k=3\/k=4:=by omega
 rcases e with rfl | rfl | rfl | rfl
 ·replace h:r.ac l [105,109,112,108,105,101,115]=true:=h;refine ⟨?_,?_,Z,?_,aA3 h (by decide +kernel)⟩
  ·unfold Rq.joV;rw [aG (nw h (by decide)),aG (nw h (by decide)),aG (nw h (by decide)),aO h];rfl
  ·unfold Rq.joS;rw [aG (nw h (by decide)),aG (nw h (by decide)),aG (nw h (by decide)),aO h];rfl
  ·unfold Rq.wrd;rw [show r.is l [105,109,112,108,105,101,115]=true from aD7 h,Bool.or_true]
 ·replace h:r.ac l [111,114]=true:=h;refine ⟨?_,?_,Z,?_,aA3 h (by decide +kernel)⟩
  ·unfold Rq.joV;rw [aG (nw h (by decide)),aG (nw h (by decide)),aO h];rfl
  ·unfold Rq.joS;rw [aG (nw h (by decide)),aG (nw h (by decide)),aO h];rfl
  ·unfold Rq.wrd;rw [show r.is l [111,114]=true from aD7 h,Bool.or_true];rfl
 ·replace h:r.ac l [97,110,100]=true:=h;refine ⟨?_,?_,Z,?_,aA3 h (by decide +kernel)⟩
  ·unfold Rq.joV;rw [aG (nw h (by decide)),aO h];rfl
  ·unfold Rq.joS;rw [aG (nw h (by decide)),aO h];rfl
  ·unfold Rq.wrd;rw [show r.is l [97,110,100]=true from aD7 h,Bool.or_true];rfl
 ·replace h:r.ac l [115,105,110,99,101]=true:=h;refine ⟨?_,?_,Z,?_,aA3 h (by decide +kernel)⟩
  ·unfold Rq.joV;rw [aO h];rfl
  ·unfold Rq.joS;rw [aO h];rfl
  ·unfold Rq.wrd;rw [show r.is l [115,105,110,99,101]=true from aD7 h];rfl
end
section
variable {l:Tks} {q q' q'':Ps} {w w':Str} {c r r' r1 r2:Rq} {k i:Nat} {n x y a:Fn} {m m' ma b:Bool} {v u:Vl} {V:List Vl}
end
section
variable {l:Tks} {q q' q'':Ps} {w w':Str} {c r r' r1 r2:Rq} {k i:Nat} {n x y a:Fn} {m m' ma b:Bool} {v u:Vl} {V:List Vl} {f:Fm}
theorem bL9 {o:Ov} (ht:fP q=o) (hk:o.kd=2) (h:q.c.ac l [41]=true):oR l q=HW q.c.nx ⟨(vG q.x).tm,false,(vG q.x).e,(vG q.x).f⟩ (q.x.1.tail,q.x.2) q:=by
 subst ht;unfold oR;rw [aG (λe=>by rw [hk] at e;exact absurd e.1 (by decide)),aO ⟨hk,h⟩]
theorem bM2 {o:Ov} (ht:fP q=o) (hk:o.kd=3) (h:q.c.ac l [41]=true):oR l q=HW ((q.c.nx.exS l [62,61]).nbS l) ⟨false,true,zE,((fP q).f.wEx [.mk 1 [] ((q.c.nx.exS l [62,61]).nbV l) []]).wAr [fF q.x]⟩ (fS q.x) q:=by
 subst ht;unfold oR;rw [aG (λe=>by rw [hk] at e;exact absurd e.1 (by decide)),aG (λe=>by rw [hk] at e;exact absurd e.1 (by decide)),aO ⟨hk,h⟩]
theorem bM1 {o:Ov} (ht:fP q=o) (hk:o.kd=4) (ho:o.op=6) (h:q.c.ac l [93]=true):oR l q=HW q.c.nx (tmv (.mk 6 o.f.nm 0 [tE q.x])) (tS q.x) q:=by
 subst ht;unfold oR;rw [aG (λe=>by rw [hk] at e;exact absurd e.1 (by decide)),aG (λe=>by rw [hk] at e;exact absurd e.1 (by decide)),aG (λe=>by rw [hk] at e;exact absurd e.1 (by decide)),aO ⟨hk,h⟩,aO ho]
theorem bM0 {o:Ov} (ht:fP q=o) (hk:o.kd=4) (ho:¬ o.op=6) (h:q.c.ac l [93]=true):oR l q=HW q.c.nx (fmv (o.f.wEx [tE q.x])) (tS q.x) q:=by
 subst ht;unfold oR;rw [aG (λe=>by rw [hk] at e;exact absurd e.1 (by decide)),aG (λe=>by rw [hk] at e;exact absurd e.1 (by decide)),aG (λe=>by rw [hk] at e;exact absurd e.1 (by decide)),aO ⟨hk,h⟩,aG ho]
theorem KJ {o:Ov} (ht:fP q=o) (hk:o.kd=5) (h:q.c.ac l [44]=true):oR l q=⟨q.c.nx,⟨o.kd,o.lv,o.tm,o.op,o.f.wEx (o.f.ex++[tE q.x])⟩::q.op.tail,tS q.x,false,q.dn⟩:=by
 subst ht;unfold oR;rw [aG (λe=>by rw [hk] at e;exact absurd e.1 (by decide)),aG (λe=>by rw [hk] at e;exact absurd e.1 (by decide)),aG (λe=>by rw [hk] at e;exact absurd e.1 (by decide)),aG (λe=>by rw [hk] at e;exact absurd e.1 (by decide)),aO ⟨hk,h⟩]
theorem KK {o:Ov} (ht:fP q=o) (hk:o.kd=5) (h:q.c.ac l [41]=true):oR l q=HW q.c.nx (fmv (o.f.wEx (o.f.ex++[tE q.x]))) (tS q.x) q:=by
 subst ht;unfold oR;rw [aG (λe=>by rw [hk] at e;exact absurd e.1 (by decide)),aG (λe=>by rw [hk] at e;exact absurd e.1 (by decide)),aG (λe=>by rw [hk] at e;exact absurd e.1 (by decide)),aG (λe=>by rw [hk] at e;exact absurd e.1 (by decide)),aG (λe=>absurd e.2 (nw h (by decide))),aO ⟨hk,h⟩]
end
section
variable {l:Tks} {q q' q'':Ps} {w w':Str} {c r r' r1 r2:Rq} {k i:Nat} {n x y a:Fn} {m m' ma b:Bool} {v u:Vl} {V:List Vl} {f:Fm}
theorem LA {N:Nat} (h:Rch l q q') (hf:q'.fin) (hN:(BL l N q).fin):BL l N q=q':=by
 obtain ⟨k,e⟩:=h;have e1:=JV (l:=l) k N q;have e2:=JV (l:=l) N k q;rw [e,RJ hf] at e1;rw [RJ hN] at e2;rw [<-e2,Nat.add_comm,e1]
end
end Go.Proofs.YtidclioghdbphaaGreatDoor
namespace Go.Sx
open Go.RowKit Go.Par
section
variable {dfs:List Deferred} {n:Nat} {L:Sl} {H:Hp} {w0:World} {bs:List Res}
end
variable {w0:World} {H:Hp} {t:TypeId}
theorem HUp.put {H1:Hp} {b:Nat} {arr:Array Value} (u:HUp w0 H H1) (hb:H b=none) (hw:w0.heap.size<=b):HUp w0 H (LF H1 b (.cells arr t (0,0))):=by
 refine ⟨⟨λc o e=>?_,u.up.lo⟩,λc e hc=>?_,λc o e h0=>?_⟩
 ·have:c≠b:=λh=>by subst h;rw [hb] at e;cases e
  rw [sG this];exact u.up c o e
 ·rw [sG (by omega)];exact u.new c e hc
 ·by_cases h:c=b
  ·subst h;rw [CK] at e;cases e;exact ⟨_,_,Z⟩
  ·rw [sG h] at e;exact u.mark c o e h0
theorem HUp.cells {H1:Hp} {b:Nat} {arr:Array Value} {m:Nat × Nat} (u:HUp w0 H H1) (hb:H b=none) (h:H1 b=some (.cells arr t m)):H1 b=some (.cells arr t (0,0)):=by
 obtain ⟨arr',t',e⟩:=u.mark b _ h hb;cases e;exact h
def Hp.at (H:Hp) (n:Nat):Hp:=⟨H.get,n⟩
section
variable {P:Program}
end
section
variable {dfs:List Deferred} {P:Program} {n:Nat} {L:Sl} {H:Hp} {w0:World} {bs:List Res} {Q:Exit->Act->World->Prop} {ops:Array Oper} {rest:List Oper} {K:Act->World->Prop}
variable {ty:TypeId} {pos:String} {aft:Array Edge} {t:Tmp} {x y:Operand} {T:TypeId}
end
section
variable {P:Program} {H:Hp} {w0 W:World} {bs:List Res}
end
section
variable {dfs:List Deferred} {P:Program} {n N hn i:Nat} {L:Sl} {H:Hp} {w0:World} {bs:List Res} {Q:Exit->Act->World->Prop} {ops:Array Oper} {rest:List Oper} {K:Act->World->Prop}
variable {ty:TypeId} {pos:String} {aft:Array Edge} {t:Tmp} {x y:Operand} {T:TypeId} {pa:List (Nat × Oper × Value)} {E:Sl->Hp->List Res->Prop} {fr:List (Nat × Nat × Oper)}
end
section
variable {dfs:List Deferred} {P:Program} {n:Nat} {L:Sl} {H:Hp} {w0:World} {bs:List Res} {Q:Exit->Act->World->Prop} {ops:Array Oper} {rest:List Oper} {K:Act->World->Prop}
variable {d:Option Tmp} {ty:TypeId} {pos:String} {aft:Array Edge} {v:Value} {t:Tmp} {x y:Operand} {T:TypeId}
theorem At.rcut {e:TypeId} {size k m g c:Nat} {xs ys:List Value} {bs':List Res} {G:Act->World->Prop} (hm:Upd bs (.row e size (.slice (some ⟨g,0,none⟩) k c) k xs) (.row e size (.slice (some ⟨g,0,none⟩) m c) m ys) bs') (hk:m<=k) (hy:ys=xs.take (m * size)) (h:At dfs n L H w0 bs' G):At dfs n L H w0 bs G:=λa W f s=>by
 have ho:W.ownsRow w0.heap.size e size (.slice (some ⟨g,0,none⟩) k c) k xs:=(s.own _ hm.mem).1;rcases ho.2 with ⟨hr,_⟩ | ⟨g',cap,cur,hr,hbg,hgc,hnc,hcm,hcs,htake⟩
 ·cases hr
 ·injection hr with e1 _ e3
  injection e1 with e1
  injection e1 with e1
  subst e1 e3;have hms:m * size<=k * size:=oN size hk;have hl:=ho.1;refine h a W f (s.put1 hm ⟨?_,.inr ⟨g,c,cur,Z,hbg,hgc,by omega,hcm,hcs,?_⟩⟩ (λb e=>e))
  ·rw [hy,dT];omega
  ·rw [hy,<-htake,List.take_take,xM hms]
theorem aA6 {g off k c size:Nat} {e:TypeId} {xs:List Value} {v:Value} {bs':List Res} (hp:ev L x=some (.pointer (some ⟨g,off,none⟩))) (hv:ev L y=some v) (hT:hZ P T=some 1) (h1:v.oneCell'=true)
 (hm:Upd bs (.row e size (.slice (some ⟨g,0,none⟩) k c) k xs) (.row e size (.slice (some ⟨g,0,none⟩) k c) k (xs.set off v)) bs') (ho:off<xs.length) (h:At dfs n L H w0 bs' K) :
 At dfs n L H w0 bs (one P ops Q ⟨none,.store T x y,ty,pos,aft,none⟩ K):=by
 intro a W f s;have ho1:W.ownsRow w0.heap.size e size (.slice (some ⟨g,0,none⟩) k c) k xs:=(s.own _ hm.mem).1;rcases ho1.2 with ⟨hr,_⟩ | ⟨g',cap,cur,hr,hbg,hgc,hnc,hcm,hcs,htake⟩
 ·cases hr
 ·injection hr with e1 _ e3
  injection e1 with e1
  injection e1 with e1
  subst e1 e3;obtain ⟨more,hmo⟩:∃ more,more=cur.toList.drop (k * size):=⟨_,Z⟩;have hcur:cur.toList=xs++more:=by rw [hmo,<-htake,eF]
  have hcur2:cur=(xs++more).toArray:=by rw [<-hcur]
  obtain ⟨b1,u1,u2⟩:=hm.mid (.box g (xs++more) e);obtain ⟨b2,u3,u4⟩:=u2.mid (.box g ((xs++more).set off v) e);have s1:St H w0 b1 W:=s.put1 u1 ⟨hbg,by rw [hgc,<-hcur2]⟩ (λb e=>e);refine store hp hv hT h1 u3 (by rw [aH];omega) rfl ?_ a W f s1;intro a W f s2;have ob:=(s2.own _ u4.mem).1;have e4:(xs++more).set off v=xs.set off v++more:=List.set_append_left off v ho;have hz:xs.length=k * size:=ho1.1;refine h a W f (s2.put1 u4 ⟨by rw [List.length_set];exact hz,.inr ⟨g,c,((xs++more).set off v).toArray,Z,ob.1,ob.2,hnc,hcm,?_,?_⟩⟩ (λb e=>e))
  ·rw [List.size_toArray,List.length_set,<-hcur];simpa using hcs
  ·rw [e4];show List.take (k * size) (xs.set off v++more)=xs.set off v;rw [List.take_append_of_le_length (by rw [List.length_set];omega),dR (by rw [List.length_set];omega)]
theorem At.s1R {g off k c size:Nat} {e:TypeId} {xs:List Value} {v:Value} {bs':List Res} (hp:ev L x=some (.pointer (some ⟨g,off,none⟩))) (hv:ev L y=some v) (hT:hZ P T=some 1) (h1:v.oneCell'=true)
 (hm:Upd bs (.row e size (.slice (some ⟨g,0,none⟩) k c) k xs) (.row e size (.slice (some ⟨g,0,none⟩) k c) k (xs.set off v)) bs') (ho:off<xs.length) (h:At dfs n L H w0 bs' (wpList P ops Q rest)) :
 At dfs n L H w0 bs (wpList P ops Q (⟨none,.store T x y,ty,pos,aft,none⟩::rest)):=cons (aA6 hp hv hT h1 hm ho h)
end
end Go.Sx
namespace Go.Proofs.YtidclioghdbphaaGreatDoor
open Go.RowKit Go.Par Go.Sx Tryz
structure Tkf (H:Hp) (l:Tks) (tp:Option Addr) (tc:Nat):Prop where
 rep:Rep H (.seq 3 (l.map (dTk .u8))) [.slice tp l.length tc]
 gd:Tgd l
 short:∀ t∈l,t.t.length<=400000
 few:l.length<=600000
 num:∀ t∈l,t.k=3->pre iA t.t=t.t.length/\¬ t.t=[]
variable {H H':Hp} {tp:Option Addr} {tc:Nat}
theorem Tkf.up {l:Tks} (h:Tkf H l tp tc) (u:Up H H'):Tkf H' l tp tc:=⟨h.rep.up u,h.gd,h.short,h.few,h.num⟩
variable {i:Nat}
theorem XJ {l:Tks} (h:i<l.length):l[i]=tkf l i:=by unfold tkf;rw [List.getD_eq_getElem?_getD,List.getElem?_eq_getElem h];rfl
theorem RD {l:Tks} (h:i<l.length):tkf l i∈l:=by rw [<-XJ h];exact bI h
variable {q:Rq}
theorem gH {l:Tks} (K:Tkf H l tp tc) (hq:q.i<l.length):(q.nmV l).length<=400000:=by
 unfold Rq.nmV
 split
 ·exact K.short _ (RD hq)
 ·exact aR _
theorem YL (a b c:Value):∀ W,(Instr.field 108 (.agg [a,b,c].toArray) 0).run prg W=.ok a W:=λ_=>by kernel_rfl
theorem bU5 (a b c:Value):∀ W,(Instr.field 108 (.agg [a,b,c].toArray) 2).run prg W=.ok c W:=λ_=>by kernel_rfl
theorem k8 {k:UInt8} {m:Nat} (hm:m<256):decide (((k.toNat:Nat):Int)=(m:Int))=decide (k=UInt8.ofNat m):=by
 rw [aU,aD,aD]
 constructor
 ·intro e;exact aS.1 (by rw [eW hm];omega)
 ·intro e;rw [e,eW hm]
theorem k80 {k:UInt8} :decide (((k.toNat:Nat):Int)=0)=decide (k=0):=k8 (m:=0) (by decide)
theorem k81 {k:UInt8} :decide (((k.toNat:Nat):Int)=1)=decide (k=1):=k8 (m:=1) (by decide)
theorem k82 {k:UInt8} :decide (((k.toNat:Nat):Int)=2)=decide (k=2):=k8 (m:=2) (by decide)
theorem k84 {k:UInt8} :decide (((k.toNat:Nat):Int)=4)=decide (k=4):=k8 (m:=4) (by decide)
variable {n:Nat}
theorem er0:decide (((n:Nat):Int)=0)=decide (n=0):=by rw [aU,aD,aD];omega
variable {w0 W:World} {bs:List Res} {ro rv:Value} {bd:Bool}
theorem xQ {b:Nat} {l:Tks} {rd dn:Bool} (K:Tkf H l tp tc) (hq:q.i<l.length) (s:St H w0 (.box b [.slice tp l.length tc,iN q.i,ro,rv,.bool rd,.bool dn,.bool bd,iN q.off,iN q.er] 102::bs) W) :
 Calls prg 98 #[.pointer (some ⟨b,0,none⟩)] W λe W'=>∃ _:Unit,(True)/\e=.returned (.agg (cTk .u8 (tkf l q.i)).toArray)/\St H w0 (.box b [.slice tp l.length tc,iN q.i,ro,rv,.bool rd,.bool dn,.bool bd,iN q.off,iN q.er] 102::bs) W':=by
 have hcap:=K.rep.cap;obtain ⟨bE,oE,cE,hpE,rE,lE,mE⟩:=K.rep.elem (fW (f:=dTk .u8) hq);cases hpE;rw [XJ hq] at rE;obtain ⟨rfl,_⟩:=JR rE;refine kE func98 rfl ntmps98 rfl s ?_;refine .sr<|.al xF Z λb2=>.nt<|.sq<|.fL 10 [(0,0),(1,0),(2,0),(3,0),(4,0),(5,0),(6,0),(7,0),(8,0),(9,0)]<|.mv Z<|.nC Z<|.fA Z pT<|.lD Z GW dC Z<|.mv Z<|.nC Z<|.fA Z gS<|.lD Z cC dC Z<|.yw (.indexSl aG3 Z Z Z (by omega) (q:=oE+q.i * 3) Z)<|.yw (.loadMW Z IM mE Z)<|.fn (tl:=[_]) Z<|.sW .head Z Z xH (by simp [cTk,Value.oneCell',cH]) Z<|.nt<|.rt<|?_
 refine y8 Z (.cell Z IM Hm rfl) λW s=>?_;exact ⟨(),Jt,Z,s.p2_1 [1] rfl⟩
theorem qN {b:Nat} {l:Tks} {rd dn:Bool} (K:Tkf H l tp tc) (hq:q.i<l.length) (c:Nat) (s:St H w0 (.box b [.slice tp l.length tc,iN q.i,ro,rv,.bool rd,.bool dn,.bool bd,iN q.off,iN q.er] 102::bs) W) :
 Calls prg 104 #[.pointer (some ⟨b,0,none⟩),iN c] W λe W'=>∃ _:Unit,(True)/\e=.returned (.tuple #[])/\St H w0 (.box b [.slice tp l.length tc,iN ((q.fail l c).i),ro,rv,.bool rd,.bool dn,.bool bd,iN ((q.fail l c).off),iN ((q.fail l c).er)] 102::bs) W':=by
 refine kE func104 rfl ntmps104 rfl s ?_;refine .sm Z<|.nC Z<|.fA Z iW<|.lD Z qT Hm Z<|.yw (.eql Z Z)<|.nt<|.ce Z (λh8=>?_) (λh8=>?_)
 ·have h0:q.er=0:=by omega
  have e1:q.fail l c=⟨q.i,(tkf l q.i).o,c⟩:=by unfold Rq.fail;rw [aO h0]
  rw [e1];refine .rg<|.mv Z<|.mv Z<|.mv Z<|.mv Z<|.cs (X:=Unit) sY Z (λW s=>xQ K hq  (s.p1_1 [0] Z)) Z λ_ _=>.yw (.fld Z (bU5 _ _ _))<|.nC Z<|.fA Z iW<|.st .head Z Z aM7 Z (nb Z) Z<|.nC Z<|.fA Z sE<|.st .head Z Z iH Z (nb Z) Z<|.nl<|?_
  refine jE (.inr Z) rfl .nil rfl λW s=>⟨(),Jt,Z,?_⟩;exact s.p1_1 [0] rfl
 have h0:¬ q.er=0:=by omega
 have e1:q.fail l c=q:=by unfold Rq.fail;rw [aG h0]
 rw [e1];refine .sk<|?_
 refine jE (.inr Z) rfl .nil rfl λW s=>⟨(),Jt,Z,?_⟩;exact s.p1_1 [0] rfl
theorem EK {b:Nat} {l:Tks} {rd dn:Bool} (K:Tkf H l tp tc) (hq:q.i<l.length) (w:Str) (s:St H w0 (.box b [.slice tp l.length tc,iN q.i,ro,rv,.bool rd,.bool dn,.bool bd,iN q.off,iN q.er] 102::bs) W) :
 Calls prg 100 #[.pointer (some ⟨b,0,none⟩),cH w] W λe W'=>∃ _:Unit,(True)/\e=.returned (.bool (q.is l w))/\St H w0 (.box b [.slice tp l.length tc,iN q.i,ro,rv,.bool rd,.bool dn,.bool bd,iN q.off,iN q.er] 102::bs) W':=by
 refine kE func100 rfl ntmps100 rfl s ?_;refine .sr<|.a Z Z<|.ns<|.mv Z<|.cs (X:=Unit) sY Z (λW s=>xQ K hq  (s.p1_1 [0] Z)) Z λ_ _=>.al xF Z λb5=>.sW .head Z Z xH (by simp [cTk,Value.oneCell',cH]) Z<|.ns<|.fA Z jL<|.lD Z oM Hm Z<|.yw (.eql Z Z)<|.mv Z<|.b2 (λh11=>?_) (λh11=>?_)
 ·refine .gG<|.gG<|.gG<|.yw (.pickT Z Z)<|.mv Z<|.gy (.fieldAddr Z kM)<|.gy (.load Z cP Hm Z)<|.gy (.move Z)<|.gy (.eqS Z Z)<|.yw (.pickT Z Z)<|.az Z<|?_
  refine y9 Z Z λW s=>?_
  first
   | (exact ⟨(),Jt,(by unfold Rq.is;rw [<-k82,<-k84,h11,h16];first | rfl | (rw [aA]) | (rw [Bool.or_true,aA])),s.p2_1 [1] rfl⟩)
   | (exact ⟨(),Jt,(by unfold Rq.is;rw [<-k82,<-k84,h11];first | rfl | (rw [aA]) | (rw [Bool.or_true,aA])),s.p2_1 [1] rfl⟩)
   | (exact ⟨(),Jt,(by unfold Rq.is;rw [<-k82,<-k84,h16];first | rfl | (rw [aA]) | (rw [Bool.or_true,aA])),s.p2_1 [1] rfl⟩)
 refine .gy (.fieldAddr Z jL)<|.gy (.load Z oM Hm Z)<|.gy (.eql Z Z)<|.yw (.pickF Z Z)<|.mv Z<|.b2 (λh16=>?_) (λh16=>?_)
 ·refine .gy (.fieldAddr Z kM)<|.gy (.load Z cP Hm Z)<|.gy (.move Z)<|.gy (.eqS Z Z)<|.yw (.pickT Z Z)<|.az Z<|?_
  refine y9 Z Z λW s=>?_
  first
   | (exact ⟨(),Jt,(by unfold Rq.is;rw [<-k82,<-k84,h11,h16];first | rfl | (rw [aA]) | (rw [Bool.or_true,aA])),s.p2_1 [1] rfl⟩)
   | (exact ⟨(),Jt,(by unfold Rq.is;rw [<-k82,<-k84,h11];first | rfl | (rw [aA]) | (rw [Bool.or_true,aA])),s.p2_1 [1] rfl⟩)
   | (exact ⟨(),Jt,(by unfold Rq.is;rw [<-k82,<-k84,h16];first | rfl | (rw [aA]) | (rw [Bool.or_true,aA])),s.p2_1 [1] rfl⟩)
 refine .gG<|.gG<|.gG<|.gG<|.yw (.pickF Z Z)<|.az Z<|?_
 refine y9 Z Z λW s=>?_
 first
  | (exact ⟨(),Jt,(by unfold Rq.is;rw [<-k82,<-k84,h11,h16];first | rfl | (rw [aA]) | (rw [Bool.or_true,aA])),s.p2_1 [1] rfl⟩)
  | (exact ⟨(),Jt,(by unfold Rq.is;rw [<-k82,<-k84,h11];first | rfl | (rw [aA]) | (rw [Bool.or_true,aA])),s.p2_1 [1] rfl⟩)
  | (exact ⟨(),Jt,(by unfold Rq.is;rw [<-k82,<-k84,h16];first | rfl | (rw [aA]) | (rw [Bool.or_true,aA])),s.p2_1 [1] rfl⟩)
theorem eI {b:Nat} {l:Tks} {rd dn:Bool} (K:Tkf H l tp tc) (hq:q.i<l.length) (w:Str) (s:St H w0 (.box b [.slice tp l.length tc,iN q.i,ro,rv,.bool rd,.bool dn,.bool bd,iN q.off,iN q.er] 102::bs) W) :
 Calls prg 107 #[.pointer (some ⟨b,0,none⟩),cH w] W λe W'=>∃ _:Unit,(True)/\e=.returned (.bool (q.ac l w))/\St H w0 (.box b [.slice tp l.length tc,iN ((q.acS l w).i),ro,rv,.bool rd,.bool dn,.bool bd,iN ((q.acS l w).off),iN ((q.acS l w).er)] 102::bs) W':=by
 have hcap:=K.rep.cap;refine kE func107 rfl ntmps107 rfl s ?_;refine .sr<|.aq Z<|.sq<|.sm Z<|.nC Z<|.fA Z iW<|.lD Z qT Hm Z<|.yw (.neq Z Z)<|.mv Z<|.b2 (λh10=>?_) (λh10=>?_)
 ·have h0:¬ q.er=0:=by have:=aJ h10;omega
  have e3:q.ac l w=false:=aG1 h0;have e1:q.acS l w=q:=by unfold Rq.acS;rw [aG (by rw [e3];decide)]
  rw [e1];refine .gG<|.gG<|.gG<|.gG<|.yw (.pickT Z Z)<|.nt<|.cT Z<|.sr<|.az Z<|.tR<|?_
  refine y9 Z Z λW s=>?_;exact ⟨(),Jt,(by rw [e3]),s.p1_1 [0] rfl⟩
 have h0:q.er=0:=by have:=aP h10;omega
 have ea:q.ac l w=q.is l w:=(LU h0).symm;refine .gy (.move Z)<|.gy (.move Z)<|.gd Z Z<|.cs (X:=Unit) jW Z (λW s=>EK K hq w (s.p1_1 [0] Z)) Z λ_ _=>.gy (.not Z)<|.yw (.pickF Z Z)<|.nt<|.cd Z (λh15=>?_) (λh15=>?_)
 ·have e3:q.ac l w=false:=by rw [ea];simpa using h15
  have e1:q.acS l w=q:=by unfold Rq.acS;rw [aG (by rw [e3];decide)]
  rw [e1];refine .sr<|.az Z<|.tR<|?_
  refine y9 Z Z λW s=>?_;exact ⟨(),Jt,(by rw [e3]),s.p1_1 [0] rfl⟩
 have e3:q.ac l w=true:=by rw [ea];simpa using h15
 have e1:q.acS l w=q.nx:=by unfold Rq.acS;rw [aO e3]
 rw [e1];have hi:=dB K.gd.last hq e3;have hi2:q.nx.i=q.i+1:=rfl;refine .sk<|.tN<|.sm Z<|.nC Z<|.fA Z gS<|.lD Z cC Hm Z<|.yw (.add Z Z (c:=((q.nx.i:Nat):Int)) ((w6 (by omega)).trans (by show _=((q.i+1:Nat):Int);omega)))<|.nC Z<|.fA Z gS<|.st .head Z Z iH Z (nb Z) Z<|.ns<|.az Z<|?_
 refine y9 Z Z λW s=>?_;exact ⟨(),Jt,(by rw [e3]),s.p1_1 [0] rfl⟩
variable {w:Str}
theorem kT {l:Tks} (h:q.ac l w=true):q.acS l w=q.nx:=by unfold Rq.acS;rw [aO h]
theorem lH {l:Tks} (h:q.ac l w=false):q.acS l w=q:=by unfold Rq.acS;rw [aG (by rw [h];decide)]
theorem sC {b:Nat} {l:Tks} {rd dn:Bool} (K:Tkf H l tp tc) (hq:q.i<l.length) (w:Str) (s:St H w0 (.box b [.slice tp l.length tc,iN q.i,ro,rv,.bool rd,.bool dn,.bool bd,iN q.off,iN q.er] 102::bs) W) :
 Calls prg 114 #[.pointer (some ⟨b,0,none⟩),cH w] W λe W'=>∃ _:Unit,(True)/\e=.returned (.tuple #[])/\St H w0 (.box b [.slice tp l.length tc,iN ((q.exS l w).i),ro,rv,.bool rd,.bool dn,.bool bd,iN ((q.exS l w).off),iN ((q.exS l w).er)] 102::bs) W':=by
 refine kE func114 rfl ntmps114 rfl s ?_;refine .sm Z<|.mv Z<|.cs (X:=Unit) dG Z (λW s=>eI K hq w (s.p1_1 [0] Z)) Z λ_ _=>.yw (.not Z)<|.nt<|.cd Z (λh7=>?_) (λh7=>?_)
 ·have hb:q.ac l w=false:=by simpa using h7
  have e1:q.exS l w=q.fail l 8:=bZ6 hb;rw [lH hb,e1];refine .rg<|.mv Z<|.cs (X:=Unit) iS Z (λW s=>qN K hq 8 (s.p1_1 [0] Z)) Z λ_ _=>.nl<|?_
  refine jE (.inr Z) rfl .nil rfl λW s=>⟨(),Jt,Z,?_⟩;exact s.p1_1 [0] rfl
 have hb:q.ac l w=true:=by simpa using h7
 have e1:q.exS l w=q.nx:=bZ7 hb;rw [kT hb,e1];refine .sk<|?_
 refine jE (.inr Z) rfl .nil rfl λW s=>⟨(),Jt,Z,?_⟩;exact s.p1_1 [0] rfl
theorem EI {b:Nat} {l:Tks} {rd dn:Bool} (K:Tkf H l tp tc) (hq:q.i<l.length) (s:St H w0 (.box b [.slice tp l.length tc,iN q.i,ro,rv,.bool rd,.bool dn,.bool bd,iN q.off,iN q.er] 102::bs) W) :
 Calls prg 113 #[.pointer (some ⟨b,0,none⟩)] W λe W'=>∃ _:Unit,(True)/\e=.returned (cH (q.nmV l))/\St H w0 (.box b [.slice tp l.length tc,iN ((q.nmS l).i),ro,rv,.bool rd,.bool dn,.bool bd,iN ((q.nmS l).off),iN ((q.nmS l).er)] 102::bs) W':=by
 have hcap:=K.rep.cap;refine kE func113 rfl ntmps113 rfl s ?_;refine .sr<|.aq Z<|.sq<|.sm Z<|.nC Z<|.fA Z iW<|.lD Z qT Hm Z<|.yw (.neq Z Z)<|.mv Z<|.e2 (λh8=>?_) (λh8=>?_)
 ·have hbad:¬ q.nmK l=true:=λe=>by have:=(RW e).1;omega
  have e1:q.nmS l=q.fail l 8:=by unfold Rq.nmS;rw [aG hbad]
  have e2:q.nmV l=[]:=by unfold Rq.nmV;rw [aG hbad]
  rw [e1,e2];refine .gG<|.gG<|.gG<|.gG<|.yw (.pickT Z Z)<|.nt<|.cT Z<|.sm Z<|.cs (X:=Unit) iS Z (λW s=>qN K hq 8 (s.p1_1 [0] Z)) Z λ_ _=>.ns<|.az Z<|.tR<|?_
  refine y9 Z Z λW s=>?_;exact ⟨(),Jt,Z,s.p1_1 [0] rfl⟩
 have h0:q.er=0:=by omega
 refine .gy (.move Z)<|.gd Z Z<|.cs (X:=Unit) sY Z (λW s=>xQ K hq  (s.p1_1 [0] Z)) Z λ_ _=>.gy (.fld Z (YL _ _ _))<|.gy (.neq Z Z)<|.yw (.pickF Z Z)<|.nt<|.ce Z (λh13=>?_) (λh13=>?_)
 ·have hbad:¬ q.nmK l=true:=λe=>by have:=(RW e).2;simp [this] at h13
  have e1:q.nmS l=q.fail l 8:=by unfold Rq.nmS;rw [aG hbad]
  have e2:q.nmV l=[]:=by unfold Rq.nmV;rw [aG hbad]
  rw [e1,e2];refine .sm Z<|.cs (X:=Unit) iS Z (λW s=>qN K hq 8 (s.p1_1 [0] Z)) Z λ_ _=>.ns<|.az Z<|.tR<|?_
  refine y9 Z Z λW s=>?_;exact ⟨(),Jt,Z,s.p1_1 [0] rfl⟩
 have hk:(tkf l q.i).k=1:=aS.1 (by show (tkf l q.i).k.toNat=1;omega);have hok:q.nmK l=true:=by unfold Rq.nmK;rw [aK h0,aK hk];rfl
 have e1:q.nmS l=q.nx:=by unfold Rq.nmS;rw [aO hok]
 have e2:q.nmV l=(tkf l q.i).t:=by unfold Rq.nmV;rw [aO hok]
 rw [e1,e2];have hi:=WZ K.gd.last hq hok;have hi2:q.nx.i=q.i+1:=rfl;obtain ⟨bE,oE,cE,hpE,rE,lE,mE⟩:=K.rep.elem (fW (f:=dTk .u8) hq);cases hpE;rw [XJ hq] at rE;obtain ⟨rfl,_⟩:=JR rE;refine .sk<|.tN<|.sm Z<|.nC Z<|.fA Z gS<|.lD Z cC Hm Z<|.yw (.add Z Z (c:=((q.nx.i:Nat):Int)) ((w6 (by omega)).trans (by show _=((q.i+1:Nat):Int);omega)))<|.nC Z<|.fA Z gS<|.st .head Z Z iH Z (nb Z) Z<|.nt<|.sq<|.fL 12 [(0,0),(1,0),(2,0),(3,0),(4,0),(5,0),(6,0),(7,0),(8,0),(9,0),(10,0),(11,0)]<|.mv Z<|.nC Z<|.fA Z pT<|.lD Z GW Hm Z<|.mv Z<|.nC Z<|.fA Z gS<|.lD Z cC Hm Z<|.yw (.sub Z Z (c:=((q.i:Nat):Int)) ((w6 (by omega)).trans (by omega)))<|.yw (.indexSl aG3 Z Z Z (by omega) (q:=oE+q.i * 3) Z)<|.fA Z kM<|.yw (.loadM Z cP mE (k:=1) Z Z)<|.fn (tl:=[_]) Z<|.az Z<|?_
 refine y9 Z Z λW s=>?_;exact ⟨(),Jt,Z,s.p1_1 [0] rfl⟩
abbrev Pz (α:Type):=List Tk->Rs α
section
variable {α β:Type}
def gA (a:α):Pz α:=λr=>.ok a r
def dJ (p:Pz α) (f:α->Pz β):Pz β:=λr=>(p r).bind f
def gNd (w:Str):Pz Unit:=λr=>if isT w r then .ok () r.tail else .er r 8
def gNm:Pz Str:=λr=>match r with | []=>.er r 8 | t::q=>if t.k=1 then .ok t.t q else .er r 8
def gNu:Pz Int64:=λr=>match r with | []=>.er r 8 | t::q=>if t.k=3 then (if oQ t.t<=9223372036854775807 then .ok (Int64.ofNat (oQ t.t)) q else .er r 2) else .er r 8
def kY (w:Str) (p q:Pz α):Pz α:=λr=>if isT w r then p r.tail else q r
def AA (w:Str) (p:Pz α):Nat->Pz (List α)
 | 0=>λr=>.er r 99
 | f+1=>kY w (dJ p λa=>dJ (AA w p f) λl=>gA (a::l)) (gA [])
def AZ (w:Str) (p:Pz α):Pz (List α):=λr=>AA w p (r.length+1) r
end
def gEx:Pz Ex:=pX 0
def HJ (b:Pz (List Sm)):Pz (List Sm):=dJ (gNd [123]) λ_=>dJ b λl=>dJ (gNd [125]) λ_=>gA l
def aK2 (b:Pz (List Sm)):Pz (List Sm):=kY [101,108,115,101] (HJ b) (gA [])
def VM (b:Pz (List Sm)):Pz (List Sm):=kY [101,108,115,101] (HJ b) (dJ (gNd [59]) λ_=>gA [])
def BV {α:Type} (p:Pz α):Pz (List α):=dJ (gNd [40]) λ_=>kY [41] (gA []) (dJ p λa=>dJ (AZ [44] p) λl=>dJ (gNd [41]) λ_=>gA (a::l))
def gSt (b:Pz (List Sm)):Pz Sm :=
 kY [105,102] (dJ gEx λe=>dJ (HJ b) λt=>dJ (aK2 b) λl=>gA (.mk 4 [] [] [e] t l))<|kY [119,104,105,108,101] (dJ gEx λe=>dJ (HJ b) λt=>gA (.mk 5 [] [] [e] t []))<|kY [115,116,111,114,101] (dJ gEx λe=>dJ (gNd [61]) λ_=>dJ gEx λe2=>dJ (VM b) λl=>gA (.mk 8 [] [] [e,e2] [] l))<|kY [102,101,116,99,104] (dJ gNm λn=>dJ (gNd [61]) λ_=>dJ gEx λe=>dJ (VM b) λl=>gA (.mk 9 n [] [e] [] l))<|kY [115,101,110,100] (dJ gNm λn=>dJ (gNd [46]) λ_=>dJ gNm λh=>dJ (BV gEx) λl=>dJ (gNd [59]) λ_=>gA (.mk 6 n h l [] []))<|kY [97,102,116,101,114] (dJ gEx λe=>dJ (gNd [100,111]) λ_=>dJ gNm λh=>dJ (BV gEx) λl=>dJ (gNd [59]) λ_=>gA (.mk 7 [] h (e::l) [] []))<|kY [115,116,111,112] (dJ (gNd [59]) λ_=>gA (.mk 10 [] [] [] [] []))<|kY [100,101,108,101,116,101] (dJ gNm λn=>dJ (gNd [91]) λ_=>dJ gEx λe=>dJ (gNd [93]) λ_=>dJ (gNd [59]) λ_=>gA (.mk 3 n [] [e] [] []))<|dJ gNm λn=>kY [91] (dJ gEx λe=>dJ (gNd [93]) λ_=>dJ (gNd [61]) λ_=>dJ gEx λe2=>dJ (gNd [59]) λ_=>gA (.mk 2 n [] [e,e2] [] []))
  (dJ (gNd [61]) λ_=>dJ gEx λe=>dJ (gNd [59]) λ_=>gA (.mk 1 n [] [e] [] []))
def gBF:Nat->Pz (List Sm)
 | 0=>λr=>.er r 99
 | f+1=>λr=>if isT [125] r then .ok [] r else (gSt (gBF f) r).bind λs r1=>(gBF f r1).bind λl r2=>.ok (s::l) r2
def gB:Pz (List Sm):=λr=>gBF (r.length+1) r
def aY8:Pz Int64:=kY [45] (dJ gNu λv=>gA (-v)) gNu
def gHd:Pz Hd:=dJ gNm λn=>dJ (BV gNm) λl=>dJ (HJ gB) λb=>gA ⟨n,l,b⟩
/-! ### Rules that consume -/
section
variable {α β:Type}
def Shr (p:Pz α):Prop:=∀ r a r',p r=.ok a r'->r'.length<=r.length
def Shs (p:Pz α):Prop:=∀ r a r',p r=.ok a r'->r'.length<r.length
theorem Shs.le {p:Pz α} (h:Shs p):Shr p:=λr a r' e=>pO (h r a r' e)
theorem Shr.pure (a:α):Shr (gA a):=λr a r' e=>by injection e with _ e;subst e;exact bK _
theorem Shr.bind {p:Pz α} {f:α->Pz β} (h:Shr p) (k:∀ a,Shr (f a)):Shr (dJ p f):=λr b r' e=>by
 obtain ⟨a,q,h1,h2⟩:=Rs.bind_ok e;have:=h _ _ _ h1;have:=k _ _ _ _ h2;omega
theorem Shs.bind {p:Pz α} {f:α->Pz β} (h:Shs p) (k:∀ a,Shr (f a)):Shs (dJ p f):=λr b r' e=>by
 obtain ⟨a,q,h1,h2⟩:=Rs.bind_ok e;have:=h _ _ _ h1;have:=k _ _ _ _ h2;omega
theorem Shs.nd (w:Str):Shs (gNd w):=λr a r' e=>by
 unfold gNd at e
 split at e
 ·rename_i h;injection e with _ e;subst e;have:=pW h;omega
 ·cases e
theorem Shs.nm:Shs gNm:=λr a r' e=>by
 unfold gNm at e
 split at e
 ·cases e
 ·split at e
  ·injection e with _ e;subst e;simp
  ·cases e
theorem Shs.nu:Shs gNu:=λr a r' e=>by
 unfold gNu at e
 split at e
 ·cases e
 ·split at e
  ·split at e
   ·injection e with _ e;subst e;simp
   ·cases e
  ·cases e
theorem Shs.ex:Shs gEx:=λr a r' e=>(BO _).1 _ _ _ _ e
theorem Shr.alt {w:Str} {p q:Pz α} (h:Shr p) (k:Shr q):Shr (kY w p q):=λr a r' e=>by
 unfold kY at e
 split at e
 ·rename_i h2;have:=pW h2;have:=h _ _ _ e;omega
 ·exact k _ _ _ e
theorem Shs.alt {w:Str} {p q:Pz α} (h:Shr p) (k:Shs q):Shs (kY w p q):=λr a r' e=>by
 unfold kY at e
 split at e
 ·rename_i h2;have:=pW h2;have:=h _ _ _ e;omega
 ·exact k _ _ _ e
theorem Shr.many {w:Str} {p:Pz α} (h:Shr p):Shr (AZ w p):=by
 have key:∀ f,Shr (AA w p f):=λf=>by
  induction f with
  | zero=>intro r a r' e;cases e
  | succ f ih=>exact .alt (.bind h λa=>.bind ih λl=>.pure _) (.pure _)
 exact λr a r' e=>key _ _ _ _ e
theorem JD {w:Str} {p:Pz α} (h:Shr p):∀ (f g:Nat) (r:List Tk),r.length<f->r.length<g->AA w p f r=AA w p g r
 | 0,_,_,k,_=>by omega
 | _,0,_,_,k=>by omega
 | f+1,g+1,r,k1,k2=>by
  unfold AA kY
  split
  ·rename_i e;have:=pW e;refine Rs.bind_congr rfl λa q e2=>?_;have:=h _ _ _ e2;exact Rs.bind_congr (JD h f g q (by omega) (by omega)) λ_ _ _=>rfl
  ·rfl
theorem LZ {w:Str} {p:Pz α} (h:Shr p):AZ w p=kY w (dJ p λa=>dJ (AZ w p) λl=>gA (a::l)) (gA []):=funext λr=>by
 unfold AZ
 conv=>lhs;unfold AA
 unfold kY
 split
 ·rename_i e;have:=pW e;refine Rs.bind_congr rfl λa q e2=>?_;have:=h _ _ _ e2;exact Rs.bind_congr (JD h _ _ q (by omega) (by omega)) λ_ _ _=>rfl
 ·rfl
theorem Shs.list {p:Pz α} (h:Shr p):Shs (BV p):=.bind (.nd _) λ_=>.alt (.pure _) (.bind h λ_=>.bind (.many h) λ_=>.bind (Shs.nd _).le λ_=>.pure _)
/-! ### Rules that agree on short lists of tokens -/
def Agz (n:Nat) (p q:Pz α):Prop:=∀ r,r.length<=n->p r=q r
theorem Agz.rfl' {n:Nat} {p:Pz α}:Agz n p p:=λ_ _=>rfl
theorem Agz.bind {n:Nat} {p q:Pz α} {f g:α->Pz β} (hp:Shr p) (h:Agz n p q) (k:∀ a,Agz n (f a) (g a)):Agz n (dJ p f) (dJ q g):=λr hr =>
 Rs.bind_congr (h r hr) λa r' e=>k a r' (bH (hp _ _ _ e) hr)
theorem Agz.alt {n:Nat} {w:Str} {p q p' q':Pz α} (h:Agz (n - 1) p p') (k:Agz n q q'):Agz n (kY w p q) (kY w p' q'):=λr hr=>by
 unfold kY
 split
 ·rename_i e;have:=pW e;exact h _ (by omega)
 ·exact k r hr
theorem Agz.altr {n:Nat} {w:Str} {p q p' q':Pz α} (h:Agz n p p') (k:Agz n q q'):Agz n (kY w p q) (kY w p' q'):=.alt (λr hr=>h r (by omega)) k
end
theorem Shs.blk {b:Pz (List Sm)} (h:Shr b):Shs (HJ b):=.bind (.nd _) λ_=>.bind h λ_=>.bind (Shs.nd _).le λ_=>.pure _
theorem Shr.els {b:Pz (List Sm)} (h:Shr b):Shr (aK2 b):=.alt (Shs.blk h).le (.pure _)
theorem Shr.oth {b:Pz (List Sm)} (h:Shr b):Shr (VM b):=.alt (Shs.blk h).le (.bind (Shs.nd _).le λ_=>.pure _)
theorem Shs.st {b:Pz (List Sm)} (h:Shr b):Shs (gSt b) :=
 .alt (.bind Shs.ex.le λ_=>.bind (Shs.blk h).le λ_=>.bind (.els h) λ_=>.pure _)<|.alt (.bind Shs.ex.le λ_=>.bind (Shs.blk h).le λ_=>.pure _)<|.alt (.bind Shs.ex.le λ_=>.bind (Shs.nd _).le λ_=>.bind Shs.ex.le λ_=>.bind (.oth h) λ_=>.pure _)<|.alt (.bind Shs.nm.le λ_=>.bind (Shs.nd _).le λ_=>.bind Shs.ex.le λ_=>.bind (.oth h) λ_=>.pure _)<|.alt (.bind Shs.nm.le λ_=>.bind (Shs.nd _).le λ_=>.bind Shs.nm.le λ_=>.bind (Shs.list Shs.ex.le).le λ_=>.bind (Shs.nd _).le λ_=>.pure _)<|.alt (.bind Shs.ex.le λ_=>.bind (Shs.nd _).le λ_=>.bind Shs.nm.le λ_=>.bind (Shs.list Shs.ex.le).le λ_=>.bind (Shs.nd _).le λ_=>.pure _)<|.alt (.bind (Shs.nd _).le λ_=>.pure _)<|.alt (.bind Shs.nm.le λ_=>.bind (Shs.nd _).le λ_=>.bind Shs.ex.le λ_=>.bind (Shs.nd _).le λ_=>.bind (Shs.nd _).le λ_=>.pure _)<|.bind .nm λ_=>.alt (.bind Shs.ex.le λ_=>.bind (Shs.nd _).le λ_=>.bind (Shs.nd _).le λ_=>.bind Shs.ex.le λ_=>.bind (Shs.nd _).le λ_=>.pure _) (.bind (Shs.nd _).le λ_=>.bind Shs.ex.le λ_=>.bind (Shs.nd _).le λ_=>.pure _)
theorem Agz.blk {b c:Pz (List Sm)} (h:Agz n b c) (hb:Shr b):Agz n (HJ b) (HJ c):=.bind (Shs.nd _).le .rfl' λ_=>.bind hb h λ_=>.rfl'
theorem Agz.els {b c:Pz (List Sm)} (h:Agz n b c) (hb:Shr b):Agz n (aK2 b) (aK2 c):=.altr (.blk h hb) .rfl'
theorem Agz.oth {b c:Pz (List Sm)} (h:Agz n b c) (hb:Shr b):Agz n (VM b) (VM c):=.altr (.blk h hb) .rfl'
theorem Agz.st {b c:Pz (List Sm)} (h:Agz (n - 1) b c) (hb:Shr b):Agz n (gSt b) (gSt c) :=
 .alt (.bind Shs.ex.le .rfl' λ_=>.bind (Shs.blk hb).le (.blk h hb) λ_=>.bind (.els hb) (.els h hb) λ_=>.rfl')<|.alt (.bind Shs.ex.le .rfl' λ_=>.bind (Shs.blk hb).le (.blk h hb) λ_=>.rfl')<|.alt (.bind Shs.ex.le .rfl' λ_=>.bind (Shs.nd _).le .rfl' λ_=>.bind Shs.ex.le .rfl' λ_=>.bind (.oth hb) (.oth h hb) λ_=>.rfl')<|.alt (.bind Shs.nm.le .rfl' λ_=>.bind (Shs.nd _).le .rfl' λ_=>.bind Shs.ex.le .rfl' λ_=>.bind (.oth hb) (.oth h hb) λ_=>.rfl') .rfl'
theorem AB:∀ f,Shr (gBF f)
 | 0=>λ_ _ _ e=>by cases e
 | f+1=>λr a r' e=>by
  unfold gBF at e
  split at e
  ·injection e with _ e;subst e;exact bK _
  ·obtain ⟨s,q,h1,h2⟩:=Rs.bind_ok e;obtain ⟨l,q2,h3,h4⟩:=Rs.bind_ok h2;injection h4 with _ h4;subst h4
   have:=(Shs.st (AB f)) _ _ _ h1;have:=AB f _ _ _ h3;omega
theorem Shr.b:Shr gB:=λ_ _ _ e=>AB _ _ _ _ e
theorem GH:∀ (f g:Nat) (r:List Tk),r.length<f->r.length<g->gBF f r=gBF g r
 | 0,_,_,k,_=>by omega
 | _,0,_,_,k=>by omega
 | f+1,g+1,[],_,_=>rfl
 | f+1,g+1,t::r,k1,k2=>by
  unfold gBF;simp only [aI] at k1 k2;refine ifC rfl (Rs.bind_congr (Agz.st (n:=(t::r).length) (λq hq=>?_) (AB f) _ (bK _)) λs q e=>?_)
  ·simp only [aI] at hq;exact GH f g q (by omega) (by omega)
  ·have:=(Shs.st (AB f)) _ _ _ e;simp only [aI] at this;exact Rs.bind_congr (GH f g q (by omega) (by omega)) λ_ _ _=>rfl
theorem VO (r:List Tk):gB r=if isT [125] r then .ok [] r else (gSt gB r).bind λs r1=>(gB r1).bind λl r2=>.ok (s::l) r2:=by
 match r with
 | []=>rfl
 | t::r =>
  conv=>lhs;unfold gB;unfold gBF
  refine ifC rfl (Rs.bind_congr (Agz.st (n:=(t::r).length) (λq hq=>?_) (AB _) _ (bK _)) λs q e=>?_)
  ·simp only [aI] at hq;exact GH _ _ q (by simp only [aI];omega) (by omega)
  ·have:=(Shs.st (AB _)) _ _ _ e;exact Rs.bind_congr (GH _ _ q (by omega) (by omega)) λ_ _ _=>rfl
def hdO (r:List Tk):Option Kt:=r.head?.map kt
def hdC (k:List Kt) (o:Option Kt):Option Kt:=match k with | []=>o | x::_=>some x
theorem SH {l r:List Tk} {k:List Kt} (h:l.map kt=k):hdO (l++r)=hdC k (hdO r):=by
 subst h;cases l <;> rfl
def MO (_:Option Kt):Prop:=True
def RU (w:Str):Option Kt->Prop
 | none=>True
 | some x=>isK w x=false
def bQ3:Option Kt->Prop
 | none=>True
 | some x=>(∀ i∈List.range 5,opK i x=none)/\isK [91] x=false
theorem SG (w:Str) (r:List Tk):isT w r=match hdO r with | none=>false | some x=>isK w x:=by cases r <;> rfl
theorem aV9 {r:List Tk} (h:RU w (hdO r)):isT w r=false:=by
 rw [SG];cases e:hdO r with
 | none=>rfl
 | some x=>rw [e] at h;exact h
section
variable {α β:Type}
def Rdc (p:Pz α) (ks:List Kt) (v:α) (C:Option Kt->Prop):Prop:=∀ le r,le.map kt=ks->C (hdO r)->p (le++r)=.ok v r
variable {k k1 k2:List Kt} {v a:α} {C C1 C2:Option Kt->Prop} {w:Str} {x:Kt}
theorem Rdc.pure:Rdc (gA v) [] v C:=λle r e _=>by
 obtain rfl:=fB.1 e;rfl
theorem Rdc.seq {p:Pz α} {f:α->Pz β} {b:β} (h1:Rdc p k1 a C1) (hc:∀ o,C2 o->C1 (hdC k2 o)) (h2:Rdc (f a) k2 b C2):Rdc (dJ p f) (k1++k2) b C2:=λle r e c=>by
 obtain ⟨l1,l2,rfl,e1,e2⟩:=gY.1 e;unfold dJ;rw [aX,h1 l1 (l2++r) e1 (by rw [SH e2];exact hc _ c)];exact h2 l2 r e2 c
theorem Rdc.nd {f:Unit->Pz β} {b:β} (hx:isK w x=true) (h:Rdc (f ()) k b C):Rdc (dJ (gNd w) f) (x::k) b C:=λle r e c=>by
 obtain ⟨t,l,rfl,ht,hl⟩:=cR.1 e;unfold dJ gNd;rw [bT,fK,ht,hx];exact h l r hl c
theorem Rdc.nm {f:Str->Pz β} {b:β} (h:Rdc (f w) k b C):Rdc (dJ gNm f) ((1,w)::k) b C:=λle r e c=>by
 obtain ⟨t,l,rfl,ht,hl⟩:=cR.1 e;have h1:t.k=1:=congrArg Prod.fst ht;have h2:t.t=w:=congrArg Prod.snd ht;unfold dJ gNm;rw [bT];simp only [h1,h2,aY];exact h l r hl c
theorem Rdc.nm1:Rdc gNm [(1,w)] w C:=λle r e c=>by
 obtain ⟨t,l,rfl,ht,hl⟩:=cR.1 e;obtain rfl:=fB.1 hl;have h1:t.k=1:=congrArg Prod.fst ht;have h2:t.t=w:=congrArg Prod.snd ht;unfold gNm;rw [bT];simp only [h1,h2,aY]
 rfl
theorem Rdc.nu {u:Nat} (h:u<=9223372036854775807):Rdc gNu [(3,Lib.decDigits u)] (Int64.ofNat u) C:=λle r e c=>by
 obtain ⟨t,l,rfl,ht,hl⟩:=cR.1 e;obtain rfl:=fB.1 hl;have h1:t.k=3:=congrArg Prod.fst ht;have h2:t.t=Lib.decDigits u:=congrArg Prod.snd ht;unfold gNu;rw [bT];simp only [h1,h2,aY,JA,h]
 rfl
theorem Rdc.altT {p q:Pz α} (hx:isK w x=true) (h:Rdc p k v C):Rdc (kY w p q) (x::k) v C:=λle r e c=>by
 obtain ⟨t,l,rfl,ht,hl⟩:=cR.1 e;unfold kY;rw [bT,fK,ht,hx];exact h l r hl c
theorem Rdc.altF {p q:Pz α} (hx:isK w x=false) (h:Rdc q (x::k) v C):Rdc (kY w p q) (x::k) v C:=λle r e c=>by
 have h2:=h le r e c;obtain ⟨t,l,rfl,ht,hl⟩:=cR.1 e;unfold kY;rw [bT,fK,ht,hx];exact h2
theorem Rdc.altE {p q:Pz α} (hc:∀ o,C o->RU w o) (h:Rdc q [] v C):Rdc (kY w p q) [] v C:=λle r e c=>by
 have h2:=h le r e c;obtain rfl:=fB.1 e;unfold kY;rw [cU,aV9 (hc _ c),aG (by decide)];exact h2
theorem Rdc.many {p:Pz α} (hp:Shr p) (hx:isK w x=true) {g:α->List Kt} {Cp:Option Kt->Prop} (h1:Cp (some x)) (hc:∀ o,C o->Cp o/\RU w o):∀ l:List α,(∀ a∈l,Rdc p (g a) a Cp)->Rdc (AZ w p) ((l.map λa=>x::g a).flatten) l C
 | [],_=>by
  rw [LZ hp];exact .altE (λo c=>(hc o c).2) .pure
 | a::l,h=>by
  have ih:=Rdc.many hp hx h1 hc l λb hb=>h b (bZ _ hb);rw [LZ hp];simp only [dE,nJ,bT];refine .altT hx (.seq (h a (bD ..)) (λo c=>?_) ?_)
  ·cases l with
   | nil=>exact (hc o c).1
   | cons b l=>exact h1
  ·have:=Rdc.seq (f:=λl=>gA (a::l)) (k2:=[]) ih (λo c=>c) .pure
   rwa [dU] at this
def aL4 (l:List (List Kt)):List Kt:=(l.map λk=>(4,[44])::k).flatten
def bQ7:List (List Kt)->List Kt
 | []=>[]
 | k::l=>k++aL4 l
def VC (l:List (List Kt)):List Kt:=(4,[40])::(bQ7 l++[(4,[41])])
theorem Rdc.list {p:Pz α} (hp:Shr p) {g:α->List Kt} {Cp:Option Kt->Prop} (h1:Cp (some (4,[44]))) (h2:Cp (some (4,[41]))) {l:List α} (h:∀ a∈l,Rdc p (g a) a Cp) (hg:∀ a∈l,∃ x k,g a=x::k/\isK [41] x=false):Rdc (BV p) (VC (l.map g)) l C:=by
 refine .nd Z ?_;cases l with
 | nil=>exact .altT rfl .pure
 | cons a l =>
  obtain ⟨x,k,e,hk⟩:=hg a (bD ..);have ha:=h a (bD ..)
  have hm:Rdc (AZ [44] p) (aL4 (l.map g)) l (λo=>o=some (4,[41])):=by
   have:=Rdc.many (C:=λo=>o=some (4,[41])) hp (w:=[44]) (x:=(4,[44])) rfl (g:=g) h1 (λo c=>by subst c;exact ⟨h2,Z⟩) l λb hb=>h b (bZ _ hb);unfold aL4
   rwa [BC]
  have key:Rdc (dJ p λa=>dJ (AZ [44] p) λl=>dJ (gNd [41]) λ_=>gA (a::l)) (g a++(aL4 (l.map g)++[(4,[41])])) (a::l) C:=by
   refine .seq ha (λo c=>?_) (.seq hm (λo c=>rfl) (.nd Z .pure));cases l with
   | nil=>exact h2
   | cons b l=>exact h1
  simp only [dE,bQ7,aX];rw [e] at key|-;exact .altF hk key
end
def stK (kd:UInt8) (nm hd:Str) (es:List (List Kt)) (T:List Kt) (noE:Bool) (E:List Kt):List Kt :=
 if kd=1 then (1,nm)::(4,[61])::(es.getD 0 []++[(4,[59])])
 else if kd=2 then (1,nm)::(4,[91])::(es.getD 0 []++(4,[93])::(4,[61])::(es.getD 1 []++[(4,[59])]))
 else if kd=3 then (2,[100,101,108,101,116,101])::(1,nm)::(4,[91])::(es.getD 0 []++[(4,[93]),(4,[59])])
 else if kd=4 then (2,[105,102])::(es.getD 0 []++((4,[123])::(T++[(4,[125])])++if noE then [] else (2,[101,108,115,101])::(4,[123])::(E++[(4,[125])])))
 else if kd=5 then (2,[119,104,105,108,101])::(es.getD 0 []++(4,[123])::(T++[(4,[125])]))
 else if kd=6 then (2,[115,101,110,100])::(1,nm)::(4,[46])::(1,hd)::(VC es++[(4,[59])])
 else if kd=7 then (2,[97,102,116,101,114])::(es.getD 0 []++(2,[100,111])::(1,hd)::(VC (es.drop 1)++[(4,[59])]))
 else if kd=8 then (2,[115,116,111,114,101])::(es.getD 0 []++(4,[61])::(es.getD 1 []++if noE then [(4,[59])] else (2,[101,108,115,101])::(4,[123])::(E++[(4,[125])])))
 else if kd=9 then (2,[102,101,116,99,104])::(1,nm)::(4,[61])::(es.getD 0 []++if noE then [(4,[59])] else (2,[101,108,115,101])::(4,[123])::(E++[(4,[125])]))
 else [(2,[115,116,111,112]),(4,[59])]
mutual
def ktS:Sm->List Kt
 | .mk kd nm hd ex th el=>stK kd nm hd (ex.map ktE) (wZ th) (decide (el.length=0)) (wZ el)
def wZ:List Sm->List Kt
 | []=>[]
 | s::r=>ktS s++wZ r
end
theorem xA (kd:UInt8) (nm hd:Str) (ex:List Ex) (th el:List Sm):ktS (.mk kd nm hd ex th el)=stK kd nm hd (ex.map ktE) (wZ th) (decide (el.length=0)) (wZ el):=by rw [ktS]
theorem Rdc.ex {e:Ex} (h:Ex.all oZ e=true):Rdc gEx (ktE e) e bQ3:=λle r hk c=>by
 obtain ⟨h1,h2⟩:=bQ9 e h;refine h1.full hk (by omega) h2 ⟨λi _ h4=>?_,?_⟩
 ·cases r with
  | nil=>unfold opAt isT;simp
  | cons t r=>exact c.1 i (cD.2 (by omega))
 ·cases r with
  | nil=>rfl
  | cons t r=>exact c.2
theorem bS6 (e:Ex):Ex.all oZ e=true->∃ x k,ktE e=x::k/\isK [41] x=false:=by
 induction e using Ex.ind with
 | _ op nm n args ih =>
  intro h;rw [lS,aF] at h;obtain ⟨hf,hr⟩:=h;have ha:∀ a∈args,∃ x k,ktE a=x::k/\isK [41] x=false:=λa m=>ih a m (iQ m hr);simp only [oZ,aF,aT,aD] at hf;obtain ⟨⟨⟨hop,hl⟩,_⟩,_⟩:=hf
  by_cases h1:op=1
  ·subst h1;exact ⟨_,_,Z,by simp [isK]⟩
  by_cases hb:op∈([11,12,13,14,15,16,17,18,19,20,21,22,23]:List UInt8)
  ·obtain ⟨b1,_⟩:=zD op hb;obtain ⟨a,b,rfl⟩:=qC (l:=args) (by omega);rw [SE hb];unfold DE
   split
   ·exact ⟨_,_,Z,Z⟩
   ·obtain ⟨x,k,e,hx⟩:=ha a (by simp);rw [e];exact ⟨_,_,Z,hx⟩
  have hs:op=2\/op=3\/op=4\/op=5\/op=6\/op=7\/op=8\/op=9\/op=10:=((LJ hop).resolve_left h1).resolve_left hb;rcases hs with rfl | rfl | rfl | rfl | rfl | rfl | rfl | rfl | rfl
  all_goals first | exact ⟨_,_,Z,Z⟩ | exact ⟨_,_,Z,by decide⟩
theorem Rdc.exs {C:Option Kt->Prop} {l:List Ex} (h:∀ a∈l,Ex.all oZ a=true):Rdc (BV gEx) (VC (l.map ktE)) l C :=
 .list Shs.ex.le ⟨by decide,by decide⟩ ⟨by decide,by decide⟩ (λa ha=>.ex (h a ha)) λa ha=>bS6 a (h a ha)
def endB (o:Option Kt):Prop:=o=some (4,[125])
theorem Rdc.blk {C:Option Kt->Prop} {l:List Sm} (h:Rdc gB (wZ l) l endB):Rdc (HJ gB) ((4,[123])::(wZ l++[(4,[125])])) l C :=
 .nd rfl (.seq h (λ_ _=>rfl) (.nd rfl .pure))
theorem XZ {kd:UInt8} (h:LK kd=true):kd=1\/kd=2\/kd=3\/kd=4\/kd=5\/kd=6\/kd=7\/kd=8\/kd=9\/kd=10:=by
 simp only [LK,aF,aD] at h;have key:∀ i∈List.range 11,1<=i->(UInt8.ofNat i=1\/UInt8.ofNat i=2\/UInt8.ofNat i=3\/UInt8.ofNat i=4\/UInt8.ofNat i=5\/UInt8.ofNat i=6\/UInt8.ofNat i=7\/UInt8.ofNat i=8\/UInt8.ofNat i=9\/UInt8.ofNat i=10):=by decide
 have:=key kd.toNat (cD.2 (by omega)) h.1
 rwa [fC] at this
theorem bA9 {l:List Ex} (h:l.length=1) (hf:Ex.alls oZ l=true):∃ a,l=[a]/\Ex.all oZ a=true:=by
 obtain ⟨a,rfl⟩:=xW h;exact ⟨a,Z,iQ (by simp) hf⟩
theorem bZ5 {l:List Ex} (h:l.length=2) (hf:Ex.alls oZ l=true):∃ a b,l=[a,b]/\Ex.all oZ a=true/\Ex.all oZ b=true:=by
 obtain ⟨a,b,rfl⟩:=qC h;exact ⟨a,b,Z,iQ (by simp) hf,iQ (by simp) hf⟩
inductive FmS:Sm->Prop where
 | k1 {nm:Str} {a:Ex} (ha:Ex.all oZ a=true):FmS (.mk 1 nm [] [a] [] [])
 | k2 {nm:Str} {a b:Ex} (ha:Ex.all oZ a=true) (hb:Ex.all oZ b=true):FmS (.mk 2 nm [] [a,b] [] [])
 | k3 {nm:Str} {a:Ex} (ha:Ex.all oZ a=true):FmS (.mk 3 nm [] [a] [] [])
 | k4 {a:Ex} {th el:List Sm} (ha:Ex.all oZ a=true):FmS (.mk 4 [] [] [a] th el)
 | k5 {a:Ex} {th:List Sm} (ha:Ex.all oZ a=true):FmS (.mk 5 [] [] [a] th [])
 | k6 {nm hd:Str} {l:List Ex} (hl:∀ a∈l,Ex.all oZ a=true):FmS (.mk 6 nm hd l [] [])
 | k7 {hd:Str} {a:Ex} {l:List Ex} (ha:Ex.all oZ a=true) (hl:∀ a∈l,Ex.all oZ a=true):FmS (.mk 7 [] hd (a::l) [] [])
 | k8 {a b:Ex} {el:List Sm} (ha:Ex.all oZ a=true) (hb:Ex.all oZ b=true):FmS (.mk 8 [] [] [a,b] [] el)
 | k9 {nm:Str} {a:Ex} {el:List Sm} (ha:Ex.all oZ a=true):FmS (.mk 9 nm [] [a] [] el)
 | k10:FmS (.mk 10 [] [] [] [] [])
theorem PL {s:Sm} (h:SM s=true):FmS s:=by
 obtain ⟨kd,nm,hd,ex,th,el⟩:=s;simp only [SM,aF,aT,aD] at h;obtain ⟨⟨⟨⟨⟨⟨⟨hk,h1⟩,h2⟩,h3⟩,h4⟩,h5⟩,h6⟩,h7⟩:=h;have z:∀ {l:List Sm},l.length=0->l=[]:=bQ;rcases XZ hk with rfl | rfl | rfl | rfl | rfl | rfl | rfl | rfl | rfl | rfl
 ·obtain rfl:=h4.resolve_left (by decide);obtain rfl:=z (h5.resolve_left (by decide));obtain rfl:=z (h6.resolve_left (by decide));obtain ⟨a,rfl,ha⟩:=bA9 (jX h2 h1) h7;exact .k1 ha
 ·obtain rfl:=h4.resolve_left (by decide);obtain rfl:=z (h5.resolve_left (by decide));obtain rfl:=z (h6.resolve_left (by decide));obtain ⟨a,b,rfl,ha,hb⟩:=bZ5 (jX h2 h1) h7;exact .k2 ha hb
 ·obtain rfl:=h4.resolve_left (by decide);obtain rfl:=z (h5.resolve_left (by decide));obtain rfl:=z (h6.resolve_left (by decide));obtain ⟨a,rfl,ha⟩:=bA9 (jX h2 h1) h7;exact .k3 ha
 ·obtain rfl:=h3.resolve_left (by decide);obtain rfl:=h4.resolve_left (by decide);obtain ⟨a,rfl,ha⟩:=bA9 (jX h2 h1) h7;exact .k4 ha
 ·obtain rfl:=h3.resolve_left (by decide);obtain rfl:=h4.resolve_left (by decide);obtain rfl:=z (h6.resolve_left (by decide));obtain ⟨a,rfl,ha⟩:=bA9 (jX h2 h1) h7;exact .k5 ha
 ·obtain rfl:=z (h5.resolve_left (by decide));obtain rfl:=z (h6.resolve_left (by decide));exact .k6 λa ha=>iQ ha h7
 ·obtain rfl:=h3.resolve_left (by decide);obtain rfl:=z (h5.resolve_left (by decide));obtain rfl:=z (h6.resolve_left (by decide));cases ex with
  | nil=>exact absurd h1 (by decide)
  | cons a l=>exact .k7 (iQ (by simp) h7) λb hb=>iQ (by simp [hb]) h7
 ·obtain rfl:=h3.resolve_left (by decide);obtain rfl:=h4.resolve_left (by decide);obtain rfl:=z (h5.resolve_left (by decide));obtain ⟨a,b,rfl,ha,hb⟩:=bZ5 (jX h2 h1) h7;exact .k8 ha hb
 ·obtain rfl:=h4.resolve_left (by decide);obtain rfl:=z (h5.resolve_left (by decide));obtain ⟨a,rfl,ha⟩:=bA9 (jX h2 h1) h7;exact .k9 ha
 ·obtain rfl:=h3.resolve_left (by decide);obtain rfl:=h4.resolve_left (by decide);obtain rfl:=z (h5.resolve_left (by decide));obtain rfl:=z (h6.resolve_left (by decide));obtain rfl:=args0 (Nat.le_zero.1 h2);exact .k10
theorem aX6 {s:Sm} (h:FmS s):∃ x k,ktS s=x::k/\isK [125] x=false/\isK [101,108,115,101] x=false:=by
 cases h <;> rw [xA] <;> exact ⟨_,_,Z,Z,Z⟩
def RdS (s:Sm):Prop:=Rdc (gSt gB) (ktS s) s (RU [101,108,115,101])
theorem RG {x:Kt} (h1:(List.range 5).all (λi=>(opK i x).isNone)=true) (h2:isK [91] x=false):bQ3 (some x):=⟨λi hi=>by simpa using bC.1 h1 i hi,h2⟩
theorem Rdc.oth {C:Option Kt->Prop} {el:List Sm} (h:Rdc gB (wZ el) el endB):Rdc (VM gB) (if decide (el.length=0)=true then [(4,[59])] else (2,[101,108,115,101])::(4,[123])::(wZ el++[(4,[125])])) el C:=by
 split
 ·rename_i e;obtain rfl:=bQ (aJ e);exact .altF Z (.nd Z .pure)
 ·exact .altT Z (.blk h)
theorem aC5 (el:List Sm) (o:Option Kt):bQ3 (hdC (if decide (el.length=0)=true then [(4,[59])] else (2,[101,108,115,101])::(4,[123])::(wZ el++[(4,[125])])) o):=by
 split <;> exact RG rfl rfl
theorem Rdc.st {s:Sm} (h:FmS s) (ht:∀ nm hd kd ex th el,s=.mk kd nm hd ex th el->Rdc gB (wZ th) th endB/\Rdc gB (wZ el) el endB):RdS s:=by
 unfold RdS;cases h with
 | k1 ha=>exact .altF rfl<|.altF rfl<|.altF rfl<|.altF rfl<|.altF rfl<|.altF rfl<|.altF rfl<|.altF rfl<|.nm<|.altF rfl<|.nd rfl<|.seq (.ex ha) (λ_ _=>RG rfl rfl)<|.nd rfl .pure
 | k2 ha hb=>exact .altF rfl<|.altF rfl<|.altF rfl<|.altF rfl<|.altF rfl<|.altF rfl<|.altF rfl<|.altF rfl<|.nm<|.altT rfl<|.seq (.ex ha) (λ_ _=>RG rfl rfl)<|.nd rfl<|.nd rfl<|.seq (.ex hb) (λ_ _=>RG rfl rfl)<|.nd rfl .pure
 | k3 ha=>exact .altF rfl<|.altF rfl<|.altF rfl<|.altF rfl<|.altF rfl<|.altF rfl<|.altF rfl<|.altT rfl<|.nm<|.nd rfl<|.seq (.ex ha) (λ_ _=>RG rfl rfl)<|.nd rfl<|.nd rfl .pure
 | @k4 a th el ha =>
  obtain ⟨h1,h2⟩:=ht _ _ _ _ _ _ rfl;refine .altT Z<|.seq (.ex ha) (λ_ _=>RG Z Z)<|.seq (C1:=MO) (.blk h1) (λ_ _=>trivial) ?_
  split
  ·rename_i e;obtain rfl:=bQ (aJ e);exact Rdc.seq (k1:=[]) (k2:=[]) (C1:=RU [101,108,115,101]) (.altE (λo c=>c) .pure) (λo c=>c) .pure
  ·have:=Rdc.seq (C2:=RU [101,108,115,101]) (f:=λl=>gA (Sm.mk 4 [] [] [a] th l)) (k2:=[]) (C1:=MO) (.altT (w:=[101,108,115,101]) (q:=gA []) (x:=(2,[101,108,115,101])) rfl (.blk h2)) (λo c=>trivial) .pure
   rwa [dU] at this
 | @k5 a th ha =>
  obtain ⟨h1,_⟩:=ht _ _ _ _ _ _ rfl;have:=Rdc.seq (C2:=RU [101,108,115,101]) (f:=λt=>gA (Sm.mk 5 [] [] [a] t [])) (k2:=[]) (C1:=MO) (.blk h1) (λo c=>trivial) .pure;rw [dU] at this;exact .altF Z<|.altT Z<|.seq (.ex ha) (λ_ _=>RG Z Z) this
 | k6 hl=>exact .altF rfl<|.altF rfl<|.altF rfl<|.altF rfl<|.altT rfl<|.nm<|.nd rfl<|.nm<|.seq (C1:=MO) (.exs hl) (λ_ _=>trivial)<|.nd rfl .pure
 | k7 ha hl=>exact .altF rfl<|.altF rfl<|.altF rfl<|.altF rfl<|.altF rfl<|.altT rfl<|.seq (.ex ha) (λ_ _=>RG rfl rfl)<|.nd rfl<|.nm<|.seq (C1:=MO) (.exs hl) (λ_ _=>trivial)<|.nd rfl .pure
 | @k8 a b el ha hb =>
  obtain ⟨_,h2⟩:=ht _ _ _ _ _ _ rfl;have:=Rdc.seq (C2:=RU [101,108,115,101]) (f:=λl=>gA (Sm.mk 8 [] [] [a,b] [] l)) (k2:=[]) (C1:=MO) (.oth h2) (λo c=>trivial) .pure;rw [dU] at this;exact .altF Z<|.altF Z<|.altT Z<|.seq (.ex ha) (λ_ _=>RG Z Z)<|.nd Z<|.seq (.ex hb) (λo _=>aC5 el o) this
 | @k9 nm a el ha =>
  obtain ⟨_,h2⟩:=ht _ _ _ _ _ _ rfl;have:=Rdc.seq (C2:=RU [101,108,115,101]) (f:=λl=>gA (Sm.mk 9 nm [] [a] [] l)) (k2:=[]) (C1:=MO) (.oth h2) (λo c=>trivial) .pure;rw [dU] at this;exact .altF Z<|.altF Z<|.altF Z<|.altT Z<|.nm<|.nd Z<|.seq (.ex ha) (λo _=>aC5 el o) this
 | k10=>exact .altF rfl<|.altF rfl<|.altF rfl<|.altF rfl<|.altF rfl<|.altF rfl<|.altT rfl<|.nd rfl .pure
theorem Rdc.b:∀ (l:List Sm),(∀ s∈l,FmS s/\RdS s)->Rdc gB (wZ l) l endB
 | [],_=>λle r e c=>by
  obtain rfl:=fB.1 (by rw [wZ] at e;exact e);rw [VO,cU,SG];have c:hdO r=some (4,[125]):=c;rw [c]
  rfl
 | s::l,h=>λle r e c=>by
  rw [wZ] at e;obtain ⟨l1,l2,rfl,e1,e2⟩:=gY.1 e;obtain ⟨hf,hs⟩:=h s (bD ..);obtain ⟨x,k,hx,hx1,_⟩:=aX6 hf;have ih:=Rdc.b l (λa ha=>h a (bZ _ ha)) l2 r e2 c
  have h2:=hs l1 (l2++r) e1 (by
   rw [SH e2];cases l with
   | nil=>rw [show hdC (wZ []) (hdO r)=hdO r from rfl,show hdO r=some (4,[125]) from c];rfl
   | cons b l =>
    obtain ⟨y,k2,hy,_,hy2⟩:=aX6 (h b (by simp)).1;rw [wZ,hy];exact hy2)
  rw [VO,aX,SG,SH e1,hx];show (if isK [125] x=true then _ else _)=_;rw [hx1,aG (by decide),h2];show (gB (l2++r)).bind _=_;rw [ih]
  rfl
theorem pQ {q:Sm->Bool}:∀ {l:List Sm} {a:Sm},a∈l->Sm.alls q l=true->Sm.all q a=true
 | b::l,a,h,k=>by
  rw [Sm.alls,aF] at k;rcases bV.1 h with rfl | h
  ·exact k.1
  ·exact pQ h k.2
theorem bG7 (s:Sm):Sm.all SM s=true->FmS s/\RdS s:=by
 induction s using Sm.ind with
 | _ kd nm hd ex th el ih1 ih2 =>
  intro h;rw [RI,aF,aF] at h;obtain ⟨⟨h1,h2⟩,h3⟩:=h;have hf:=PL h1
  exact ⟨hf,.st hf λnm' hd' kd' ex' th' el' e=>by
   injection e with _ _ _ _ e1 e2
   subst e1 e2;exact ⟨.b _ λs hs=>ih1 s hs (pQ hs h2),.b _ λs hs=>ih2 s hs (pQ hs h3)⟩⟩
theorem Rdc.body {l:List Sm} (h:Sm.alls SM l=true):Rdc gB (wZ l) l endB:=.b l λs hs=>bG7 s (pQ hs h)
/-! ### Fleets -/
def bY3 (n:Int64):List Kt:=if n.toInt<0 then [(4,[45]),(3,Lib.decDigits (-n.toInt).toNat)] else [(3,Lib.decDigits n.toInt.toNat)]
def hdK (h:Hd):List Kt:=(1,h.nm)::(VC (h.ps.map λp=>[(1,p)])++(4,[123])::(wZ h.body++[(4,[125])]))
section
variable {C:Option Kt->Prop}
theorem bJ1 {n:Int64} (h:0<=n.toInt):n.toInt.toNat<=9223372036854775807/\Int64.ofNat n.toInt.toNat=n:=by
 have hlt:=n.toInt_lt;refine ⟨by omega,jY.1 ?_⟩;rw [iV (by omega)];omega
theorem Rdc.int {n:Int64} (h:n.toInt≠-9223372036854775808):Rdc aY8 (bY3 n) n C:=by
 unfold bY3
 split
 ·rename_i hn;have hlt:=n.le_toInt;have h1:(-n.toInt).toNat<=9223372036854775807:=by omega
  have e:-Int64.ofNat (-n.toInt).toNat=n:=by
   apply jY.1;rw [Int64.toInt_neg,iV (by omega)];rw [Int.toNat_of_nonneg (by omega),Int.neg_neg];exact Int.bmod_eq_of_le (by omega) (by have:=n.toInt_lt;omega)
  have:=Rdc.seq (C1:=MO) (C2:=C) (f:=λv=>gA (-v)) (k2:=[]) (.nu h1) (λ_ _=>trivial) .pure;rw [e] at this;exact .altT Z this
 ·obtain ⟨h1,h2⟩:=bJ1 (n:=n) (by omega);have h3:=Rdc.nu (C:=C) h1;rw [h2] at h3;exact .altF (by simp [isK]) h3
theorem Rdc.hd {h:Hd} (hf:cD3 h=true):Rdc gHd (hdK h) h C:=by
 have h1:Rdc (BV gNm) (VC (h.ps.map λp=>[(1,p)])) h.ps MO:=.list Shs.nm.le (Cp:=MO) trivial trivial (λa _=>.nm1) λa _=>⟨_,_,Z,by simp [isK]⟩;have h2:=Rdc.seq (C1:=MO) (C2:=C) (f:=λb=>gA (Hd.mk h.nm h.ps b)) (k2:=[]) (.blk (.body hf)) (λ_ _=>trivial) .pure;rw [dU] at h2;exact .nm<|.seq h1 (λ_ _=>trivial) h2
theorem Shs.hd:Shs gHd:=.bind .nm λ_=>.bind (Shs.list Shs.nm.le).le λ_=>.bind (Shs.blk Shr.b).le λ_=>.pure _
theorem Shs.int:Shs aY8:=.alt (.bind Shs.nu.le λ_=>.pure _) .nu
end
variable {r:Str}
theorem Lx.nl {k:List Kt} (h:Lx r k):Lx (10::r) k:=.blk (by decide) h
theorem Lx.spT {r:Str} {k:List Kt}:∀ (n:Nat),Lx r k->Lx (spT n++r) k
 | 0,h=>h
 | n+1,h=>by
  rw [Go.Proofs.YtidclioghdbphaaGreatDoor.spT,aX];exact Lx.spT n (.sp (.sp h))
theorem Lx.line {parts:List Str} {k:List Kt} (h:Lx (parts.flatten++10::r) k):Lx (vL n parts++r) k:=by
 unfold vL;rw [aX,aX];exact .spT n h
theorem Lx.to {k:List Kt} (h:Lx r k):Lx (45::62::r) ((4,[45,62])::k):=.tok (x:=(4,[45,62])) (aA0 (by decide)) h
theorem aG7 (hw:eN w=true) (hr:∀ d,r.head? = some d->iC d=false):Tok (1,w) r:=by
 obtain ⟨h1,h2,h3,h4,h5⟩:=mV hw
 match w,h1 with
 | c::t,h1 =>
  have hlb:=KA c h2;have hp:pre iC ((c::t)++r)=(c::t).length:=zT h3 hr;refine ⟨h1,?_,oW hlb.1 (λe=>hlb.2.1 e.1),(show (1:UInt8)≠5 by decide),(by show (c::t).length<=1000000;omega)⟩;show bU ((c::t)++r)=(1,(c::t).length);unfold bU;simp only;rw [show ((c::t)++r).headD 0=c from rfl,show mW c=true from h2,aO rfl,hp,jG,h4,aG (by decide),aO h5]
theorem Lx.nm2 {k:List Kt} (hw:eN w=true) (hr:∀ d,r.head? = some d->iC d=false) (h:Lx r k):Lx (w++r) ((1,w)::k):=.tok (x:=(1,w)) (aG7 hw hr) h
def LxI (t:Str) (k:List Kt):Prop:=∀ r ks,vR r->Lx r ks->Lx (t++r) (k++ks)/\hdB (t++r)
variable {ks:List Kt}
theorem LxI.one {t:Str} {k:List Kt} (h:LxI t k) (hr:vR r) (l:Lx r ks):Lx (t++r) (k++ks):=(h r ks hr l).1
theorem LxI.nm (h:eN w=true):LxI w [(1,w)]:=λr ks hr l=>⟨.nm h hr l,JZ h⟩
theorem LxI.ex {e:Ex} (h:Ex.all oZ e=true) (hq:Ex.all aW5 e=true):LxI e.text (ktE e):=bS3 e h hq
theorem aD2 {α:Type} {tx:α->Str} {g:α->List Kt}:∀ (l:List α) (r:Str) (ks:List Kt),(∀ a∈l,LxI (tx a) (g a))->vR r->Lx r ks->Lx (Lib.joinTail [44,32] (l.map tx)++r) (aL4 (l.map g)++ks)/\vR (Lib.joinTail [44,32] (l.map tx)++r)
 | [],r,ks,_,hr,h=>⟨h,hr⟩
 | a::l,r,ks,hl,hr,h=>by
  obtain ⟨h1,h2⟩:=aD2 l r ks (λb hb=>hl b (bZ _ hb)) hr h;have h3:=hl a (bD ..) _ _ h2 h1;unfold Lib.joinTail aL4 at *;simp only [dE,nJ,bT,aX,cU];exact ⟨.sy (by decide) (gI (by decide)) (.sp h3.1),nZ (by decide)⟩
theorem aD3 {α:Type} {tx:α->Str} {g:α->List Kt} {l:List α} (hl:∀ a∈l,LxI (tx a) (g a)) (hr:hdB r) (h:Lx r ks):Lx (40::(aD5 (l.map tx)++41::r)) (VC (l.map g)++ks):=by
 have h0:Lx (41::r) ((4,[41])::ks):=.sy (by decide) hr h;unfold VC aD5;cases l with
 | nil=>exact .sy (by decide) (gI (by decide)) h0
 | cons a l =>
  simp only [dE,Lib.join_cons,bQ7,bT,aX,cU];obtain ⟨h1,h2⟩:=aD2 l (41::r) _ (λb hb=>hl b (bZ _ hb)) YS h0;obtain ⟨h3,h4⟩:=hl a (bD ..) _ _ h2 h1;exact .sy (by decide) h4 h3
def LxS (s:Sm):Prop:=∀ n r ks,Lx r ks->Lx (Sm.text n s++r) (ktS s++ks)
def LxB (l:List Sm):Prop:=∀ n r ks,Lx r ks->Lx (Sm.texts n l++r) (wZ l++ks)
theorem LxB.of:∀ {l:List Sm},(∀ s∈l,LxS s)->LxB l
 | [],_=>λn r ks h=>by rw [Sm.texts,wZ];exact h
 | s::l,hs=>λn r ks h=>by
  rw [Sm.texts,wZ,aX,aX];exact hs s (bD ..) n _ _ (LxB.of (λa ha=>hs a (bZ _ ha)) n r ks h)
theorem DM {k:List Kt} (hw:w∈words) (h:Lx r k):Lx (w++32::r) ((2,w)::k):=.kw hw tJ (.sp h)
theorem SC (h:Lx r ks):Lx (vL n [[125]]++r) ((4,[125])::ks):=.line (.sy (by decide) (gI (by decide)) (.nl h))
theorem aW6 {el:List Sm} (hb:LxB el) {first:Str} {k:List Kt} (hf:LxI first k) (h:Lx r ks) :
 Lx (aF3 n first (decide (el.length=0)) (Sm.texts (n+1) el)++r) (k++((if decide (el.length=0)=true then [(4,[59])] else (2,[101,108,115,101])::(4,[123])::(wZ el++[(4,[125])]))++ks)):=by
 unfold aF3
 split
 ·refine .line ?_;simp only [nJ,wD,dU,aX,bT,cU];exact hf.one (nZ (by decide)) (.sy (by decide) (gI (by decide)) (.nl h))
 ·simp only [aX];refine .line ?_;simp only [nJ,wD,dU,aX,bT,cU];exact hf.one tJ (.sp (DM (w:=[101,108,115,101]) (by decide) (.sy (by decide) (gI (by decide)) (.nl (hb _ _ _ (SC h))))))
theorem LxI.app {t t2:Str} {k k2:List Kt} (h:LxI t k) (h2:∀ r ks,vR r->Lx r ks->Lx (t2++r) (k2++ks)/\vR (t2++r)):LxI (t++t2) (k++k2):=λr ks hr l=>by
 rw [aX,aX];obtain ⟨h3,h4⟩:=h2 r ks hr l;exact h _ _ h4 h3
theorem LxI.kw (hw:w∈words) {t:Str} {k:List Kt} (h:LxI t k):LxI (w++32::t) ((2,w)::k):=λr ks hr l=>by
 rw [aX];exact ⟨DM hw (h r ks hr l).1,LS hw⟩
theorem LxI.eq {t t2:Str} {k k2:List Kt} (h:LxI t k) (h2:LxI t2 k2):LxI (t++([32,32,61,32].drop 1++t2)) (k++(4,[61])::k2):=h.app λr ks hr l =>
 ⟨.sp (.sy (by decide) (gI (by decide)) (.sp (h2.one hr l))),tJ⟩
theorem bS4 {s:Sm} (h:FmS s) (hn:GD s=true) (hb:∀ nm hd kd ex th el,s=.mk kd nm hd ex th el->LxB th/\LxB el):LxS s:=by
 intro n r ks hk;cases h with
 | @k1 nm a ha =>
  simp only [GD,aF] at hn;have h1:eN nm=true:=by simpa [sJ,LK,JE] using hn.1.1
  have h2:=LxI.ex ha (iQ (bD ..) hn.2);refine .line ?_;rw [xA];simp [stK];exact .nm h1 tJ<|.sp<|.sy (by decide) (gI (by decide))<|.sp<|h2.one (nZ (by decide))<|.sy (by decide) (gI (by decide)) (.nl hk)
 | @k2 nm a b ha hb2 =>
  simp only [GD,aF] at hn;have h1:eN nm=true:=by simpa [sJ,LK,JE] using hn.1.1
  have h2:=LxI.ex ha (iQ (by simp) hn.2);have h3:=LxI.ex hb2 (iQ (by simp) hn.2);refine .line ?_;rw [xA];simp [stK];have h4:=h3.one (nZ (by decide))<|Lx.sy (c:=59) (by decide) (gI (by decide)) (.nl hk)
  obtain ⟨h5,h6⟩:=h2 _ _ YX<|Lx.sy (c:=93) (by decide) (gI (by decide))<|.sp<|.sy (c:=61) (by decide) (gI (by decide))<|.sp h4
  exact .nm h1 SW<|.sy (by decide) h6 h5
 | @k3 nm a ha =>
  simp only [GD,aF] at hn;have h1:eN nm=true:=by simpa [sJ,LK,JE] using hn.1.1
  have h2:=LxI.ex ha (iQ (by simp) hn.2);refine .line ?_;rw [xA];simp [stK];obtain ⟨h5,h6⟩:=h2 _ _ YX<|Lx.sy (c:=93) (by decide) (gI (by decide))<|.sy (c:=59) (by decide) (gI (by decide)) (.nl hk)
  exact DM (w:=[100,101,108,101,116,101]) (by decide)<|.nm h1 SW<|.sy (by decide) h6 h5
 | @k4 a th el ha =>
  obtain ⟨b1,b2⟩:=hb _ _ _ _ _ _ rfl;simp only [GD,aF] at hn;have h2:=LxI.ex ha (iQ (by simp) hn.2);rw [FL,xA]
  by_cases he:el.length=0
  ·simp [stT,stK,he];refine .line ?_;simp;exact DM (w:=[105,102]) (by decide)<|h2.one tJ<|.sp<|.sy (by decide) (gI (by decide))<|.nl<|b1 _ _ _<|SC hk
  ·have he2:¬ el=[]:=λe=>he (by rw [e];rfl);simp [stT,stK,he2];refine .line ?_;simp;exact DM (w:=[105,102]) (by decide)<|h2.one tJ<|.sp<|.sy (by decide) (gI (by decide))<|.nl<|b1 _ _ _<|.line<|.sy (by decide) (gI (by decide))<|.sp<|DM (w:=[101,108,115,101]) (by decide)<|.sy (by decide) (gI (by decide))<|.nl<|b2 _ _ _<|SC hk
 | @k5 a th ha =>
  obtain ⟨b1,b2⟩:=hb _ _ _ _ _ _ rfl;simp only [GD,aF] at hn;have h2:=LxI.ex ha (iQ (by simp) hn.2);rw [FL,xA];simp [stT,stK];refine .line ?_;simp;exact DM (w:=[119,104,105,108,101]) (by decide)<|h2.one tJ<|.sp<|.sy (by decide) (gI (by decide))<|.nl<|b1 _ _ _<|SC hk
 | @k6 nm hd l hl =>
  simp only [GD,aF] at hn;have h1:eN nm=true:=by simpa [sJ,LK,JE] using hn.1.1
  have h2:eN hd=true:=by simpa [sJ,LK,JE] using hn.1.2
  refine .line ?_;rw [xA];simp [stK];exact DM (w:=[115,101,110,100]) (by decide)<|.nm2 h1 (λd e=>by cases e;rfl)<|.sy (by decide) (JZ h2)<|.nm h2 (nZ (by decide))<|aD3 (λa ha=>.ex (hl a ha) (iQ ha hn.2)) (gI (by decide))<|.sy (by decide) (gI (by decide)) (.nl hk)
 | @k7 hd a l ha hl =>
  simp only [GD,aF] at hn;have h2:eN hd=true:=by simpa [sJ,LK,JE] using hn.1.2
  have h3:=LxI.ex ha (iQ (by simp) hn.2);refine .line ?_;rw [xA];simp [stK];exact DM (w:=[97,102,116,101,114]) (by decide)<|h3.one tJ<|.sp<|DM (w:=[100,111]) (by decide)<|.nm h2 (nZ (by decide))<|aD3 (λb hb=>.ex (hl b hb) (iQ (by simp [hb]) hn.2)) (gI (by decide))<|.sy (by decide) (gI (by decide)) (.nl hk)
 | @k8 a b el ha hb2 =>
  obtain ⟨_,b2⟩:=hb _ _ _ _ _ _ rfl;simp only [GD,aF] at hn;have h2:=LxI.ex ha (iQ (by simp) hn.2);have h3:=LxI.ex hb2 (iQ (by simp) hn.2);have h4:=aW6 b2 (n:=n) (LxI.kw (w:=[115,116,111,114,101]) (by decide) (h2.eq h3)) hk;rw [FL,xA];simp [stT,stK] at h4|-;exact h4
 | @k9 nm a el ha =>
  obtain ⟨_,b2⟩:=hb _ _ _ _ _ _ rfl;simp only [GD,aF] at hn;have h1:eN nm=true:=by simpa [sJ,LK,JE] using hn.1.1
  have h2:=LxI.ex ha (iQ (by simp) hn.2);have h4:=aW6 b2 (n:=n) (LxI.kw (w:=[102,101,116,99,104]) (by decide) ((LxI.nm h1).eq h2)) hk;rw [FL,xA];simp [stT,stK] at h4|-;exact h4
 | k10 =>
  refine .line ?_;rw [xA];simp [stK];exact .kw (w:=[115,116,111,112]) (by decide) (nZ (by decide))<|.sy (by decide) (gI (by decide)) (.nl hk)
theorem bI6 (s:Sm):Sm.all SM s=true->Sm.all GD s=true->LxS s:=by
 induction s using Sm.ind with
 | _ kd nm hd ex th el ih1 ih2 =>
  intro h k;rw [RI,aF,aF] at h k;obtain ⟨⟨h1,h2⟩,h3⟩:=h;obtain ⟨⟨k1,k2⟩,k3⟩:=k;refine bS4 (PL h1) k1 λnm' hd' kd' ex' th' el' e=>?_;injection e with _ _ _ _ e1 e2
  subst e1 e2;exact ⟨.of λs hs=>ih1 s hs (pQ hs h2) (pQ hs k2),.of λs hs=>ih2 s hs (pQ hs h3) (pQ hs k3)⟩
theorem LxB.all {l:List Sm} (h:Sm.alls SM l=true) (k:Sm.alls GD l=true):LxB l:=.of λs hs=>bI6 s (pQ hs h) (pQ hs k)
/-! ### Fleets -/
structure Mk where
 ints:Nat
 tables:Nat
 flags:Nat
 own:Nat
 ars:List (List Nat)
 params:Nat
def arN (M:Mk) (c h:Nat):Nat:=(M.ars.getD c []).getD h 0
def arL (M:Mk) (c:Nat):Nat:=(M.ars.getD c []).length
def Mk.at (M:Mk) (k:Nat):Mk:={ M with params:=arN M M.own k }
section
variable {H:Hp}
end
structure Sp where
 wh:UInt8
 i:UInt8
 nm:UInt8
 n:Int64
 nodes:List Nd
def okE (e:Ex):Bool:=decide (e.depth<=64) && Ex.all vS e
def bH8 (N:Nat):Sm->Bool
 | .mk _ _ _ ex _ _=>decide (ex.length<=N) && ex.all okE
structure okL (N:Nat) (l:List Sm):Prop where
 cnt:Sm.counts l<=N
 dep:Sm.deeps l<=N
 all:Sm.alls (bH8 N) l=true
mutual
theorem aU4 {q q':Sm->Bool} (h:∀ s,q s=true->q' s=true):∀ s,Sm.all q s=true->Sm.all q' s=true
 | .mk kd nm hd ex th el,hh=>by
  rw [RI] at hh|-;simp only [aF] at hh|-;exact ⟨⟨h _ hh.1.1,uJ h th hh.1.2⟩,uJ h el hh.2⟩
theorem uJ {q q':Sm->Bool} (h:∀ s,q s=true->q' s=true):∀ l,Sm.alls q l=true->Sm.alls q' l=true
 | [],_=>rfl
 | s::r,hh=>by
  rw [Sm.alls,aF] at hh|-;exact ⟨aU4 h s hh.1,uJ h r hh.2⟩
end
variable {N M:Nat}
theorem HF (h:N<=M):∀ s,bH8 N s=true->bH8 M s=true
 | .mk _ _ _ ex _ _,hh=>by
  simp only [bH8,aF,aD] at hh|-;exact ⟨by omega,hh.2⟩
theorem okL.mono {l:List Sm} (h:okL N l) (k:N<=M):okL M l:=⟨by have:=h.cnt;omega,by have:=h.dep;omega,uJ (HF k) l h.all⟩
theorem okL.app {a b:List Sm} (h:okL N a) (k:okL M b):okL (N+M) (a++b):=by
 have h2:=h.mono (M:=N+M) (by omega);have k2:=k.mono (M:=N+M) (by omega);refine ⟨?_,?_,?_⟩
 ·rw [oT];have:=h.cnt;have:=k.cnt;omega
 ·rw [qJ];have:=h2.dep;have:=k2.dep;omega
 ·rw [sS,h2.all,k2.all];rfl
theorem okL.len {l:List Sm} (h:okL N l):l.length<=N:=bH (UI l) h.cnt
theorem okL.left {a b:List Sm} (h:okL N (a++b)):okL N a:=by
 obtain ⟨h1,h2,h3⟩:=h;rw [oT] at h1;rw [qJ] at h2;rw [sS,aF] at h3;exact ⟨by omega,by omega,h3.1⟩
theorem okL.right {a b:List Sm} (h:okL N (a++b)):okL N b:=by
 obtain ⟨h1,h2,h3⟩:=h;rw [oT] at h1;rw [qJ] at h2;rw [sS,aF] at h3;exact ⟨by omega,by omega,h3.2⟩
variable {j:Nat}
theorem UE {α:Type} {l:List α} (h:j<l.length):l=l.take j++([l[j]]++l.drop (j+1)):=by simp
theorem bQ6 {α:Type} {l:List α} (h:j<l.length) (s:α):l.set j s=l.take j++([s]++l.drop (j+1)):=by
 rw [List.set_eq_take_append_cons_drop,aO h];rfl
theorem okL.at {l:List Sm} (h:okL N l) (hj:j<l.length):okL N [l[j]]:=by
 have h2:=h;rw [UE hj] at h2;exact h2.right.left
theorem okL.put {l:List Sm} (h:okL N l) (hj:j<l.length) {s:Sm} (k:okL (N+M) [s]):okL (N+(N+M)) (l.set j s):=by
 have h2:=h;rw [UE hj] at h2
 have h3:okL N (l.take j++l.drop (j+1)):=by
  obtain ⟨a1,a2,a3⟩:=h2;simp only [oT,qJ,sS,aF] at a1 a2 a3;refine ⟨?_,?_,?_⟩
  ·rw [oT];omega
  ·rw [qJ];omega
  ·rw [sS,a3.1,a3.2.2];rfl
 rw [bQ6 hj];obtain ⟨a1,a2,a3⟩:=h3;obtain ⟨b1,b2,b3⟩:=k;rw [oT] at a1;rw [qJ] at a2;rw [sS,aF] at a3;have m1:=HF (N:=N) (M:=N+(N+M)) (by omega);have m2:=HF (N:=N+M) (M:=N+(N+M)) (by omega);refine ⟨?_,?_,?_⟩
 ·rw [oT,oT];omega
 ·rw [qJ,qJ];omega
 ·rw [sS,sS,uJ m1 _ a3.1,uJ m2 _ b3,uJ m1 _ a3.2];rfl
structure bH9 (N:Nat) (h:Hd):Prop where
 ps:h.ps.length<=N
 body:okL N h.body
theorem bH9.mono {h:Hd} (k:bH9 N h) (l:N<=M):bH9 M h:=⟨by have:=k.ps;omega,k.body.mono l⟩
structure bH7 (N:Nat) (v:List Hd):Prop where
 len:v.length<=N
 all:∀ h∈v,bH9 N h
theorem bH7.mono {v:List Hd} (k:bH7 N v) (l:N<=M):bH7 M v:=⟨by have:=k.len;omega,λh m=>(k.all h m).mono l⟩
structure bI0 (N:Nat) (c:Cp):Prop where
 vars:c.vars.length<=N
 vers:c.vers.length<=N
 all:∀ v∈c.vers,bH7 N v
theorem bI0.mono {c:Cp} (k:bI0 N c) (l:N<=M):bI0 M c:=⟨by have:=k.vars;omega,by have:=k.vers;omega,λv m=>(k.all v m).mono l⟩
structure bR9 (N:Nat) (f:Ft):Prop where
 flags:f.flags.length<=N
 links:f.links.length<=N
 comps:f.comps.length<=N
 pos:0<f.comps.length
 all:∀ c∈f.comps,bI0 N c
theorem bR9.mono {f:Ft} (k:bR9 N f) (l:N<=M):bR9 M f:=⟨by have:=k.flags;omega,by have:=k.links;omega,by have:=k.comps;omega,k.pos,λc m=>(k.all c m).mono l⟩
def okD (D:Nat) (e:Ex):Prop:=e.depth<=D/\Ex.all vS e=true
theorem okD.mono {D D':Nat} {e:Ex} (h:okD D e) (k:D<=D'):okD D' e:=⟨bH h.1 k,h.2⟩
def wfE (D:Nat) (e:Ex):Prop:=e.depth<=D/\Ex.all oZ e=true/\Ex.all aW5 e=true
theorem wfE.mono {D D':Nat} {e:Ex} (h:wfE D e) (k:D<=D'):wfE D' e:=⟨bH h.1 k,h.2⟩
def e0:Ex:=.mk 4 [] 0 []
structure bW1 (M:Mk):Prop where
 i0:0<M.ints
 i3:M.ints<=3
 p2:M.params<=2
 f2:M.flags<=2
 a3:M.ars.length<=3
 a0:0<M.ars.length
 ar2:∀ c h,arN M c h<=2
 al:∀ c,c<M.ars.length->0<arL M c/\arL M c<=3
 own:M.own<M.ars.length
structure Wf (D lf:Nat) (l:List Sm) (lf':Nat):Prop where
 cnt:Sm.counts l+lf'<=lf
 dep:Sm.deeps l<=D
 frm:Sm.alls SM l=true
 nam:Sm.alls GD l=true
 sma:Sm.alls bX2 l=true
theorem Wf.all {D lf lf':Nat} {l:List Sm} (h:Wf D lf l lf'):Sm.deeps l<=D/\Sm.alls SM l=true/\Sm.alls GD l=true/\Sm.alls bX2 l=true:=⟨h.dep,h.frm,h.nam,h.sma⟩
theorem bW1.at {M:Mk} (h:bW1 M) (k:Nat):bW1 (M.at k):=⟨h.i0,h.i3,h.ar2 _ _,h.f2,h.a3,h.a0,h.ar2,h.al,h.own⟩
structure Sg where
 r:List Tk
 e:Nat
 o:Nat
def bX8 (n:Nat):List Tk->Nat
 | []=>n
 | t::_=>t.o
def Sg.fail (n c:Nat) (s:Sg):Sg:=if s.e=0 then ⟨s.r,c,bX8 n s.r⟩ else s
section
variable {α β:Type}
def up (n:Nat) (g:Pz α) (s:Sg):Sg:=if s.e=0 then (match g s.r with | .ok _ r=>⟨r,s.e,s.o⟩ | .er r c=>⟨r,c,bX8 n r⟩) else s
def Cz (g:Pz α):Prop:=∀ r r' c,g r=.er r' c->c≠0
theorem Rs.bind_er {x:Rs α} {f:α->List Tk->Rs β} {r:List Tk} {c:Nat} (h:x.bind f=.er r c):x=.er r c\/∃ a q,x=.ok a q/\f a q=.er r c:=by
 cases x with
 | ok a q=>exact .inr ⟨a,q,Z,h⟩
 | er q d=>left;injection h with h1 h2;subst h1;subst h2;rfl
theorem Cz.pure (a:α):Cz (gA a):=λr r' c e=>by cases e
theorem Cz.bind {g:Pz α} {f:α->Pz β} (h:Cz g) (k:∀ a,Cz (f a)):Cz (dJ g f):=λr r' c e=>by
 rcases Rs.bind_er e with e | ⟨a,q,_,e⟩
 ·exact h _ _ _ e
 ·exact k _ _ _ _ e
theorem Cz.nd (w:Str):Cz (gNd w):=λr r' c e=>by
 unfold gNd at e
 split at e
 ·cases e
 ·injection e with _ e;omega
theorem Cz.nm:Cz gNm:=λr r' c e=>by
 unfold gNm at e
 split at e
 ·injection e with _ e;omega
 ·split at e
  ·cases e
  ·injection e with _ e;omega
theorem Cz.nu:Cz gNu:=λr r' c e=>by
 unfold gNu at e
 split at e
 ·injection e with _ e;omega
 ·split at e
  ·split at e
   ·cases e
   ·injection e with _ e;omega
  ·injection e with _ e;omega
theorem Cz.alt {w:Str} {p q:Pz α} (h:Cz p) (k:Cz q):Cz (kY w p q):=λr r' c e=>by
 unfold kY at e
 split at e
 ·exact h _ _ _ e
 ·exact k _ _ _ e
theorem Cz.manyF {w:Str} {p:Pz α} (h:Cz p):∀ f,Cz (AA w p f)
 | 0=>λr r' c e=>by unfold AA at e;injection e with _ e;omega
 | f+1=>.alt (.bind h λ_=>.bind (Cz.manyF h f) λ_=>.pure _) (.pure _)
theorem Cz.many {w:Str} {p:Pz α} (h:Cz p):Cz (AZ w p):=λr r' c e=>Cz.manyF h _ _ _ _ e
def ac (w:Str) (s:Sg):Bool:=decide (s.e=0) && isT w s.r
end
theorem bN0:∀ w∈words,mW (w.headD 0)=true/\w.length<=12:=by decide +kernel
theorem bX1:∀ w∈symbols,mW (w.headD 0)=false/\iA (w.headD 0)=false:=by decide +kernel
theorem UN {c:UInt8} (e:(c::r).take (bU (c::r)).2=w):w.headD 0=c:=by
 have h:=(sT (l:=c::r) (by simp)).1;obtain ⟨k,hk⟩:∃ k,(bU (c::r)).2=k+1:=⟨(bU (c::r)).2 - 1,by omega⟩;rw [hk] at e;subst e
 rfl
theorem bL4 {c:UInt8} (h:iA c=true):mW c=false:=by
 have key:∀ i∈List.range 256,iA (UInt8.ofNat i)=true->mW (UInt8.ofNat i)=false:=by decide +kernel
 have:=key c.toNat (cD.2 c.toNat_lt);rw [fC] at this;exact this h
variable {m:Str}
theorem XS (h:m≠[]) (hw:w∈words\/w∈symbols) (e:m.take (bU m).2=w):(bU m).1=2\/(bU m).1=4:=by
 match m,h with
 | c::r,_ =>
  have hh:=UN e;cases h1:mW c with
  | true =>
   have hw1:w∈words:=by
    rcases hw with hw | hw
    ·exact hw
    ·have:=(bX1 w hw).1;rw [hh,h1] at this;cases this
   cases h4:words.contains ((c::r).take (pre iC (c::r))) with
   | true=>left;simp only [bU,aN,h1,h4,aY]
   | false =>
    by_cases h5:pre iC (c::r)<=12
    ·simp only [bU,aN,h1,h4,h5,aY,aE,aW] at e;rw [e] at h4;rw [fR.2 hw1] at h4;cases h4
    ·simp only [bU,aN,h1,h4,h5,aY,aE,aW] at e;rw [aZ] at e;have h6:=tQ iC (c::r);have h7:=(bN0 w hw1).2;rw [<-e] at h7;omega
  | false =>
   have hw1:w∈symbols:=by
    rcases hw with hw | hw
    ·have:=(bN0 w hw).1;rw [hh,h1] at this;cases this
    ·exact hw
   have h4:iA c=false:=by
    have:=(bX1 w hw1).2;rw [hh] at this;exact this
   cases hx:symbols.find? (λx=>x.isPrefixOf (c::r)) with
   | some x=>right;simp only [bU,aN,h1,h4,hx,aE,aW]
   | none =>
    simp only [bU,aN,h1,h4,hx,aE,aW] at e;rw [aZ] at e;have:=List.find?_eq_none.1 hx w hw1;rw [<-e] at this;exact absurd (gW.2 (List.prefix_refl _)) this
theorem PA {c0:UInt8} (h:m≠[]) (hc:c0=50\/c0=51) (e:m.take (bU m).2=[c0]):(bU m).1=3:=by
 match m,h with
 | c::r,_ =>
  have hh:c0=c:=UN e;have h4:iA c=true:=by rw [<-hh];rcases hc with rfl | rfl <;> decide
  have h1:=bL4 h4;have h5:pre iA (c::r)=1\/c≠48:=.inr (by rw [<-hh];rcases hc with rfl | rfl <;> decide);simp only [bU,aN,h1,h4,h5,aY,aE,aW]
def Tkg (t:Tk):Prop:=(t.t∈words\/t.t∈symbols->t.k=2\/t.k=4)/\(t.t=[50]\/t.t=[51]->t.k=3)/\t.t≠[]
theorem bN1:∀ (f o:Nat) (m:Str),∀ t∈BJ f o m,Tkg t
 | 0,_,_,t,h=>by cases h
 | f+1,o,m,t,h=>by
  by_cases h0:m=[]
  ·rw [h0,qH] at h;cases h
  ·rw [nX h0] at h;rcases bV.1 h with rfl | h
   ·refine ⟨λhw=>XS h0 hw rfl,λhc=>?_,λe=>?_⟩
    ·rcases hc with hc | hc
     ·exact PA h0 (.inl Z) hc
     ·exact PA h0 (.inr Z) hc
    ·have hb:=sT h0;have h2:=congrArg List.length e;rw [dT] at h2;simp only [aL] at h2;omega
   ·exact bN1 f _ _ t h
theorem PH (s:Str):∀ t∈qL s,Tkg t:=bN1 _ _ _
theorem aV8 (l:Str) (c:UInt8):oQ (l++[c])=10 * oQ l+(c.toNat - 48):=by
 unfold oQ;rw [nI]
 rfl
theorem aV7:∀ (r:Str) (v:Nat),v<=r.foldl (λv c=>10 * v+(c.toNat - 48)) v
 | [],v=>bK _
 | c::r,v=>by
  rw [sP];have:=aV7 r (10 * v+(c.toNat - 48));omega
theorem bI1 (l r:Str):oQ l<=oQ (l++r):=by
 unfold oQ;rw [nI];exact aV7 r _
theorem aI6 (t:Str) (i:Nat):oQ (t.take i)<=oQ t:=by
 have h:=bI1 (t.take i) (t.drop i);rw [eF] at h;exact h
theorem aI7 {t:Str} {c:UInt8} (h:t[i]? = some c):oQ (t.take (i+1))=10 * oQ (t.take i)+(c.toNat - 48):=by
 rw [List.take_succ,h];exact aV8 _ _
theorem aI5:oQ []=0:=rfl
def XG (o:Nat) (m:Str):List Tk:=BJ (m.length+1) o m
def wA (m:Str):Nat:=m.length - (eG false m).length
theorem UG (m:Str):wA m<=m.length:=Nat.sub_le _ _
theorem MI (m:Str):m.drop (wA m)=eG false m:=zP false m
theorem aR5 (o:Nat):XG o []=[]:=qH _ _
theorem OI {o:Nat} (h:m≠[]):XG o m=⟨(bU m).1,m.take (bU m).2,o⟩::XG (o+(bU m).2+wA (m.drop (bU m).2)) (m.drop ((bU m).2+wA (m.drop (bU m).2))):=by
 have hr:=sT h;have hs:=nY false (m.drop (bU m).2);rw [cM] at hs;unfold XG;rw [nX h,<-eX,MI]
 have e:o+(bU m).2+wA (m.drop (bU m).2)=o+(m.length - (eG false (m.drop (bU m).2)).length):=by
  unfold wA;rw [cM];omega
 rw [e,CH _ _ _ _ _ (dA _)];omega
theorem aJ3 (s:Str):qL s=XG (wA s) (s.drop (wA s)):=by
 unfold XG qL;rw [MI];have hs:=nY false s;exact CH _ _ _ _ (by omega) (by omega)
theorem TV:∀ (f o:Nat) (m:Str),(BJ f o m).length<=m.length
 | 0,_,_=>by rw [BJ];simp
 | f+1,o,m=>by
  by_cases h0:m=[]
  ·subst h0;rw [qH];simp
  ·have hr:=sT h0;have hs:=nY false (m.drop (bU m).2);rw [cM] at hs;rw [nX h0,aI];have:=TV f (o+(m.length - (eG false (m.drop (bU m).2)).length)) (eG false (m.drop (bU m).2));omega
theorem VD (s:Str):(qL s).length<=s.length:=bH (TV _ _ _) (nY false s)
theorem u8w {c:UInt8} (h:48<=c.toNat):IntKind.u8.wrap ((c.toNat:Int) - 48)=((c.toNat - 48:Nat):Int):=by
 have key:∀ i∈List.range 256,IntKind.u8.wrap (i:Int)=(i:Int):=by decide +kernel
 rw [show (c.toNat:Int) - 48=((c.toNat - 48:Nat):Int) by omega];exact key _ (cD.2 (by have:=c.toNat_lt;omega))
theorem bL3 {c:UInt8} (h:iA c=true):48<=c.toNat/\c.toNat<=57:=by
 have key:∀ i∈List.range 256,iA (UInt8.ofNat i)=true->48<=i/\i<=57:=by decide +kernel
 exact key c.toNat (cD.2 c.toNat_lt) (by rw [fC];exact h)
def RA (t:Tk):Nat:=if t.k=3 then (if oQ t.t<=9223372036854775807 then 0 else 2) else 1
def XD (t:Tk):Nat:=if t.k=3/\oQ t.t<=9223372036854775807 then oQ t.t else 0
theorem XC {t:Tk} (h:t.k=3) (hn:oQ t.t<=9223372036854775807):RA t=0/\XD t=oQ t.t:=⟨by unfold RA;rw [aO h,aO hn],by unfold XD;rw [aO ⟨h,hn⟩]⟩
theorem QZ {t:Tk} (h:t.k=3) (hn:¬ oQ t.t<=9223372036854775807):RA t=2/\XD t=0:=⟨by unfold RA;rw [aO h,aG hn],by unfold XD;rw [aG (λk=>hn k.2)]⟩
theorem bP2 {t:Tk} (h:¬ t.k=3):RA t=1/\XD t=0:=⟨by unfold RA;rw [aG h],by unfold XD;rw [aG (λk=>h k.1)]⟩
theorem aG5 (t:Tk) (hd:t.k=3->pre iA t.t=t.t.length/\¬ t.t=[]) (hl:t.t.length<=1000000) (w:World) :
 Calls prg 158 #[.agg (cTk .u8 t).toArray] w λr w'=>r=.returned (.tuple #[iN (XD t),iN (RA t)])/\Ext w w':=by
 refine y6 func158 Z ntmps158 Z ?_;refine .sr<|.bx Z Z Z λb1=>.a Z Z<|.aq Z<|.sq<|.sq<|.fL 16 [(0,0),(1,0),(2,0),(3,0),(4,0),(5,0),(6,0),(7,0),(8,0),(9,0),(10,0),(11,0),(12,0),(13,0),(14,0),(15,0)]<|.fA Z jL<|.lD Z oM Hm Z<|.yw (.neq Z Z)<|.mv Z<|.b2 (λh10=>?_) (λh10=>?_)
 ·have hk:¬ t.k=3:=λe=>aJ h10 (by rw [e];rfl);obtain ⟨hv1,hv2⟩:=bP2 hk;refine .gG<|.gG<|.gG<|.yw (.pickT Z Z)<|.mv Z<|.gG<|.gG<|.gG<|.gG<|.gG<|.gG<|.gG<|.fn (tl:=[_]) Z<|.yw (.pickT Z Z)<|.nt<|.cT Z<|.sr<|.a Z Z<|.az Z<|.tR<|?_
  refine y7 Z (.cons (.tmp Z) (.cons (.tmp Z) .nil)) rfl λW s=>⟨?_,s.ext⟩
  first
   | (rw [hv1,hv2];rfl)
   | (rw [hv1,hv2,aZ];rfl)
   | (rw [hv1,hv2,aZ])
 have hk:t.k=3:=aS.1 (by have:=bS.1 (aP h10);exact Int.ofNat.inj this);obtain ⟨hd1,hd2⟩:=hd hk;have hall:=bC.1 (RL hd1);refine .yg Z Z (.fieldAddr Z kM) Z<|.yg Z Z (.load Z cP Hm Z) Z<|.yg Z Z (.cast (.eqS Z Z) (congrArg Value.bool (aM hd2))) Z<|.yw (.pickF Z Z)<|.mv Z<|.yg Z Z (.fieldAddr Z kM) Z<|.yg Z Z (.load Z cP Hm Z) Z<|.yg Z Z (.call xI Z (λW s=>wV 153 iA AK CQ t.t (by omega) W)) Z<|.yg Z Z (.fieldAddr Z kM) Z<|.yg Z Z (.load Z cP Hm Z) Z<|.yg Z Z (.lenS dI Z) Z<|.yg Z Z (.cast (.neq Z Z) (congrArg Value.bool (aM (by rw [hd1];simp)))) Z<|.fn (tl:=[_]) Z<|.yw (.pickF Z Z)<|.nt<|.cF Z<|.sk<|.tN<|.sr<|.aq Z<|.sq<|.sr<|.fA Z kM<|.lD Z cP Hm Z<|.yw (.lenS dI Z)<|.mv Z<|.nt<|.bk<|.lp (X:=Nat) [(1,_),(26,_)] ⟨Z,Z,Jt⟩ [_] (λk=>[(27,iN k),(4,iN (oQ (t.t.take k)))]) (λk=>(⟨λ_=>none,0⟩:Hp)) (λk=>[]) (λk=>k<=t.t.length/\oQ (t.t.take k)<=9223372036854775807) (λk=>t.t.length - k) 0 (λ_ s=>s) ⟨Z,Z,Jt⟩ ⟨aR _,by simp [aI5]⟩ λk hC=>?_
 obtain ⟨hk0,hv0⟩:=hC;refine .sr<|.yw (.lss Z Z)<|.nt<|.sq<|.ce Z (λh28=>?_) (λh28=>?_)
 ·have hlt:k<t.t.length:=by omega
  obtain ⟨c,hc⟩:∃ c,c=t.t[k]:=⟨_,Z⟩;obtain ⟨hc1,hc2⟩:=bL3 (hall c (by rw [hc];exact bI hlt));have hst:oQ (t.t.take (k+1))=10 * oQ (t.t.take k)+(c.toNat - 48):=aI7 (by rw [hc];exact List.getElem?_eq_getElem hlt);have hle:=aI6 t.t (k+1);rw [hst] at hle;refine .sk<|.tN<|.sq<|.bk<|.sm Z<|.a Z Z<|.ns<|.fA Z kM<|.lD Z cP Hm Z<|.mv Z<|.yw (.idxS dI Z Z Z (b:=c) (j:=k) (by rw [hc];exact List.getElem?_eq_getElem hlt))<|.yw (.sub Z Z (u8w hc1))<|.yw (.conv Z lJ TF (c:=((c.toNat - 48:Nat):Int)) (w6 (by omega)))<|.aq Z<|.sq<|.sm Z<|.mv Z<|.yw (.sub Z Z (c:=((9223372036854775807 - (c.toNat - 48):Nat):Int)) ((w6 (by omega)).trans (by omega)))<|.yw (.quo Z Z (by decide) (c:=(((9223372036854775807 - (c.toNat - 48)) / 10:Nat):Int)) (by rw [jH (by omega)];exact (w6 (by omega)).trans (by omega)))<|.yw (.gtr Z Z)<|.nt<|.ce Z (λh40=>?_) (λh40=>?_)
  ·obtain ⟨hv1,hv2⟩:=QZ hk (show ¬ oQ t.t<=9223372036854775807 by omega);refine .sr<|.a Z Z<|.az Z<|.tR<|.bR<|.tR<|.tR<|.bR<|.tR<|?_
   refine y7 Z (.cons (.tmp Z) (.cons (.tmp Z) .nil)) rfl λW s=>⟨?_,s.ext⟩
   first
    | (rw [hv1,hv2];rfl)
    | (rw [hv1,hv2,aZ];rfl)
    | (rw [hv1,hv2,aZ])
  have hb:10 * oQ (t.t.take k)+(c.toNat - 48)<=9223372036854775807:=by omega
  exact .sk<|.tN<|.rg<|.mv Z<|.yw (.mul Z Z (c:=((10 * oQ (t.t.take k):Nat):Int)) ((w6 (by omega)).trans (by omega)))<|.mv Z<|.yw (.add Z Z (c:=((10 * oQ (t.t.take k)+(c.toNat - 48):Nat):Int)) ((w6 (by omega)).trans (by omega)))<|.a Z Z<|.nl<|.bN<|.tN<|.rg<|.yw (.add Z Z w7)<|.mv Z<|.nt<|.ag (k+1) ⟨Z,by rw [hst];rfl,Jt⟩ ⟨Z,Z,Jt⟩ (λ_ s=>s) ⟨by omega,by rw [hst];omega⟩ (by omega)
 obtain rfl:k=t.t.length:=by omega
 rw [aZ] at hv0;obtain ⟨hv1,hv2⟩:=XC hk hv0;refine .ex<|.eb<|.sm Z<|.a Z Z<|.az Z<|?_
 refine y7 Z (.cons (.tmp Z) (.cons (.tmp Z) .nil)) rfl λW s=>⟨?_,s.ext⟩
 first
  | (rw [hv1,hv2];rfl)
  | (rw [hv1,hv2,aZ];rfl)
  | (rw [hv1,hv2,aZ])
theorem bP9 {l:Tks} (K:Tkf H l tp tc) (hq:q.i<l.length):(tkf l q.i).k=3->pre iA (tkf l q.i).t=(tkf l q.i).t.length/\¬ (tkf l q.i).t=[]:=K.num _ (RD hq)
theorem aD9 (h:n<=9223372036854775807):(Int64.ofNat n).toInt=(n:Int):=by
 rw [iV (by omega)]
theorem bI5 {l:Tks} :0<=(q.nbV l).toInt/\(q.nbV l).toInt<=9223372036854775807:=by
 unfold Rq.nbV
 split
 ·rename_i h;rw [aF] at h;have h2:=aJ h.2;rw [aD9 h2];omega
 ·decide
theorem wX {b:Nat} {l:Tks} {rd dn:Bool} (K:Tkf H l tp tc) (hq:q.i<l.length) (s:St H w0 (.box b [.slice tp l.length tc,iN q.i,ro,rv,.bool rd,.bool dn,.bool bd,iN q.off,iN q.er] 102::bs) W) :
 Calls prg 110 #[.pointer (some ⟨b,0,none⟩)] W λe W'=>∃ _:Unit,(True)/\e=.returned (.int .i64 (q.nbV l).toInt)/\St H w0 (.box b [.slice tp l.length tc,iN ((q.nbS l).i),ro,rv,.bool rd,.bool dn,.bool bd,iN ((q.nbS l).off),iN ((q.nbS l).er)] 102::bs) W':=by
 have hcap:=K.rep.cap;refine kE func110 rfl ntmps110 rfl s ?_;refine .sr<|.aq Z<|.sq<|.sm Z<|.nC Z<|.fA Z iW<|.lD Z qT Hm Z<|.yw (.neq Z Z)<|.mv Z<|.b2 (λh10=>?_) (λh10=>?_)
 ·have hbad:¬ q.nbB l=true:=λe=>by have:=(RY e).1;simp [this] at h10
  have e1:q.nbS l=q.fail l 8:=by unfold Rq.nbS;rw [aG hbad]
  have e2:q.nbV l=0:=by unfold Rq.nbV;rw [aG (λe=>hbad (by rw [aF] at e;exact e.1))]
  rw [e1,e2];refine .gG<|.gG<|.gG<|.gG<|.yw (.pickT Z Z)<|.nt<|.cT Z<|.sm Z<|.cs (X:=Unit) iS Z (λW s=>qN K hq 8 (s.p1_1 [0] Z)) Z λ_ _=>.ns<|.az Z<|.tR<|?_
  refine y9 Z Z λW s=>?_;exact ⟨(),Jt,Z,s.p1_1 [0] rfl⟩
 have h0:q.er=0:=by have:=aP h10;omega
 refine .gy (.move Z)<|.gd Z Z<|.cs (X:=Unit) sY Z (λW s=>xQ K hq  (s.p1_1 [0] Z)) Z λ_ _=>.gy (.fld Z (YL _ _ _))<|.gy (.neq Z Z)<|.yw (.pickF Z Z)<|.nt<|.cd Z (λh15=>?_) (λh15=>?_)
 ·have hbad:¬ q.nbB l=true:=λe=>by have:=(RY e).2;simp [this] at h15
  have e1:q.nbS l=q.fail l 8:=by unfold Rq.nbS;rw [aG hbad]
  have e2:q.nbV l=0:=by unfold Rq.nbV;rw [aG (λe=>hbad (by rw [aF] at e;exact e.1))]
  rw [e1,e2];refine .sm Z<|.cs (X:=Unit) iS Z (λW s=>qN K hq 8 (s.p1_1 [0] Z)) Z λ_ _=>.ns<|.az Z<|.tR<|?_
  refine y9 Z Z λW s=>?_;exact ⟨(),Jt,Z,s.p1_1 [0] rfl⟩
 have hk:(tkf l q.i).k=3:=aS.1 (by have:=aP h15;show (tkf l q.i).k.toNat=3;omega);have hok:q.nbB l=true:=by unfold Rq.nbB;rw [aK h0,aK hk];rfl
 refine .sk<|.tN<|.sm Z<|.cs (X:=Unit) sY Z (λW s=>xQ K hq  (s.p1_1 [0] Z)) Z λ_ _=>.yw (.call ZE Z λW s=>aG5 (tkf l q.i) (bP9 K hq) (bH (K.short _ (RD hq)) (by decide)) W)<|.mv Z<|.yw (.extract Z Z)<|.yw (.extract Z Z)<|.a Z Z<|.aq Z<|.sq<|.sm Z<|.yw (.neq Z Z)<|.nt<|.ce Z (λh25=>?_) (λh25=>?_)
 ·have hv:¬ oQ (tkf l q.i).t<=9223372036854775807:=λe=>by rw [(XC hk e).1] at h25;omega
  obtain ⟨v1,v2⟩:=QZ hk hv;have e1:q.nbS l=q.fail l (RA (tkf l q.i)):=by rw [v1];unfold Rq.nbS;rw [aO hok,aG (by unfold Rq.fit;rw [aM hv];decide)]
  have e2:q.nbV l=0:=by unfold Rq.nbV;rw [aG (by unfold Rq.fit;rw [aM hv,Bool.and_false];decide)]
  rw [e1,e2];refine .sm Z<|.mv Z<|.cs (X:=Unit) iS Z (λW s=>qN K hq (RA (tkf l q.i)) (s.p1_1 [0] Z)) Z λ_ _=>?_

  refine .ns<|.az Z<|.tR<|?_
  refine y9 Z Z λW s=>?_;exact ⟨(),Jt,Z,s.p1_1 [0] rfl⟩
 have hv:oQ (tkf l q.i).t<=9223372036854775807:=Classical.byContradiction λe=>by rw [(QZ hk e).1] at h25;omega
 obtain ⟨v1,v2⟩:=XC hk hv;have hf:q.fit l=true:=by unfold Rq.fit;rw [aK hv]
 have e1:q.nbS l=q.nx:=by unfold Rq.nbS;rw [aO hok,aO hf]
 have e2:q.nbV l=Int64.ofNat (oQ (tkf l q.i).t):=by unfold Rq.nbV;rw [hok,hf];rfl
 rw [e1,e2,aD9 hv];have hi:=K.gd.last _ hq (by rw [hk];decide);have hi2:q.nx.i=q.i+1:=rfl;rw [v2];refine .sk<|.tN<|.sm Z<|.nC Z<|.fA Z gS<|.lD Z cC Hm Z<|.yw (.add Z Z (c:=((q.nx.i:Nat):Int)) ((w6 (by omega)).trans (by show _=((q.i+1:Nat):Int);omega)))<|.nC Z<|.fA Z gS<|.st .head Z Z iH Z (nb Z) Z<|.ns<|.mv Z<|.az Z<|?_
 refine y9 Z Z λW s=>?_;exact ⟨(),Jt,Z,s.p1_1 [0] rfl⟩
theorem LH {b:Nat} {l:Tks} {rd dn:Bool} (K:Tkf H l tp tc) (hq:q.i<l.length) (op:UInt8) (s:St H w0 (.box b [.slice tp l.length tc,iN q.i,ro,rv,.bool rd,.bool dn,.bool bd,iN q.off,iN q.er] 102::bs) W) :
 Calls prg 112 #[.pointer (some ⟨b,0,none⟩),.int .u8 op.toNat] W λe W'=>∃ _:Unit,(True)/\e=.returned (.agg [.int .u8 op.toNat,cH (q.paN l),cH (q.paF l),.int .i64 0,.int .i64 0,.slice none 0 0,.slice none 0 0].toArray)/\St H w0 (.box b [.slice tp l.length tc,iN ((q.paS l).i),ro,rv,.bool rd,.bool dn,.bool bd,iN ((q.paS l).off),iN ((q.paS l).er)] 102::bs) W':=by
 refine kE func112 rfl ntmps112 rfl s ?_;refine .sr<|.al fV Z λb4=>.ns<|.mv Z<|.mv Z<|.cs (X:=Unit) sL Z (λW s=>EI K hq  (s.p2_2 [1,0] Z)) Z λ_ _=>.yw (.build Z (wJ _ _))<|.al fV Z λb5=>.sX .head Z Z dM Z<|.ns<|.mv Z<|.cs (X:=Unit) nP Z (λW s=>sC K (kH K.gd.last hq) [46] (s.p3_3 [1,0,2] Z)) Z λ_ _=>.ns<|.mv Z<|.cs (X:=Unit) sL Z (λW s=>EI K (kQ K.gd.last (kH K.gd.last hq))  (s.p3_3 [0,1,2] Z)) Z λ_ _=>.fA Z kI<|.st mD Z Z fQ Z (nb Z) Z<|.ns<|.yw (.loadW Z cQ dC Z)<|.sX oV Z Z dM Z<|.nt<|.rt<|?_
 refine y8 Z (.cell Z cQ nL rfl) λW s=>?_;exact ⟨(),Jt,Z,s.p3_1 [0] rfl⟩
theorem KO {b:Nat} {l:Tks} {rd dn:Bool} (K:Tkf H l tp tc) (hq:q.i<l.length) (op:UInt8) (s:St H w0 (.box b [.slice tp l.length tc,iN q.i,ro,rv,.bool rd,.bool dn,.bool bd,iN q.off,iN q.er] 102::bs) W) :
 Calls prg 154 #[.pointer (some ⟨b,0,none⟩),.int .u8 op.toNat] W λe W'=>∃ _:Unit,(True)/\e=.returned (.agg [.int .u8 op.toNat,cH [],cH [],.int .i64 (q.wiA l).toInt,.int .i64 (q.wiB l).toInt,.slice none 0 0,.slice none 0 0].toArray)/\St H w0 (.box b [.slice tp l.length tc,iN ((q.wiS l).i),ro,rv,.bool rd,.bool dn,.bool bd,iN ((q.wiS l).off),iN ((q.wiS l).er)] 102::bs) W':=by
 refine kE func154 rfl ntmps154 rfl s ?_;refine .sr<|.al fV Z λb4=>.ns<|.mv Z<|.yw (.build Z (TK _ _))<|.al fV Z λb5=>.sX .head Z Z dM Z<|.nt<|.sq<|.sm Z<|.cs (X:=Unit) dG Z (λW s=>eI K hq [91] (s.p3_3 [2,0,1] Z)) Z λ_ _=>.nt<|.cd Z (λh9=>?_) (λh9=>?_)
 ·have a9:Rq.ac l [91] q=true:=h9;rw [kT a9];have e1:q.wiA l=q.nx.nbV l:=by unfold Rq.wiA;rw [aO a9]
  have e2:q.wiB l=((q.nx.nbS l).exS l [44]).nbV l:=by unfold Rq.wiB;rw [aO a9]
  have e3:q.wiS l=(((q.nx.nbS l).exS l [44]).nbS l).exS l [93]:=by unfold Rq.wiS;rw [aO a9]
  rw [e1,e2,e3];refine .sm Z<|.cs (X:=Unit) sM Z (λW s=>wX K (dB K.gd.last hq a9)  (s.p3_3 [0,1,2] Z)) Z λ_ _=>.fA Z jB<|.st mD Z Z iH Z (nb Z) Z<|.ns<|.mv Z<|.cs (X:=Unit) nP Z (λW s=>sC K (xP K.gd.last (dB K.gd.last hq a9)) [44] (s.p3_3 [0,1,2] Z)) Z λ_ _=>.ns<|.mv Z<|.cs (X:=Unit) sM Z (λW s=>wX K (kQ K.gd.last (xP K.gd.last (dB K.gd.last hq a9)))  (s.p3_3 [0,1,2] Z)) Z λ_ _=>.fA Z hP<|.st mD Z Z iH Z (nb Z) Z<|.nt<|.rg<|.mv Z<|.cs (X:=Unit) nP Z (λW s=>sC K (xP K.gd.last (kQ K.gd.last (xP K.gd.last (dB K.gd.last hq a9)))) [93] (s.p3_3 [0,1,2] Z)) Z λ_ _=>.ns<|.yw (.loadW Z cQ dC Z)<|.sX oV Z Z dM Z<|.nt<|.rt<|?_
  refine y8 Z (.cell Z cQ nL rfl) λW s=>?_;exact ⟨(),Jt,Z,s.p3_1 [0] rfl⟩
 have a9:Rq.ac l [91] q=false:=h9;rw [lH a9];have e1:q.wiA l=0:=by unfold Rq.wiA;rw [aG (by rw [a9];decide)]
 have e2:q.wiB l=-1:=by unfold Rq.wiB;rw [aG (by rw [a9];decide)]
 have e3:q.wiS l=q:=by unfold Rq.wiS;rw [aG (by rw [a9];decide)]
 rw [e1,e2,e3];refine .sk<|.tN<|.sr<|.yw (.loadW Z cQ dC Z)<|.sX oV Z Z dM Z<|.nt<|.rt<|?_
 refine y8 Z (.cell Z cQ nL rfl) λW s=>?_;exact ⟨(),Jt,Z,s.p3_1 [0] rfl⟩
theorem bI3 {x:Int64} (h:0<=x.toInt/\x.toInt<=9223372036854775807):IntKind.i64.wrap (0 - x.toInt)=(-x).toInt:=by
 rw [Go.Sx.w64 (by omega) (by omega),Int64.toInt_neg,Int.bmod_eq_of_le (by omega) (by omega)];omega
theorem aF7 {b:Nat} {l:Tks} {rd dn:Bool} (K:Tkf H l tp tc) (hq:q.i<l.length) (s:St H w0 (.box b [.slice tp l.length tc,iN q.i,ro,rv,.bool rd,.bool dn,.bool bd,iN q.off,iN q.er] 102::bs) W) :
 Calls prg 180 #[.pointer (some ⟨b,0,none⟩)] W λe W'=>∃ _:Unit,(True)/\e=.returned (.int .i64 (q.boV l).toInt)/\St H w0 (.box b [.slice tp l.length tc,iN ((q.boS l).i),ro,rv,.bool rd,.bool dn,.bool bd,iN ((q.boS l).off),iN ((q.boS l).er)] 102::bs) W':=by
 refine kE func180 rfl ntmps180 rfl s ?_;refine .sr<|.aq Z<|.sq<|.sm Z<|.cs (X:=Unit) dG Z (λW s=>eI K hq [45] (s.p1_1 [0] Z)) Z λ_ _=>.nt<|.cd Z (λh4=>?_) (λh4=>?_)
 ·have a4:Rq.ac l [45] q=true:=h4;rw [kT a4];have e1:q.boV l=-(q.nx.nbV l):=by unfold Rq.boV;rw [aO a4]
  have e3:q.boS l=q.nx.nbS l:=by unfold Rq.boS;rw [aO a4]
  rw [e1,e3];refine .sm Z<|.cs (X:=Unit) sM Z (λW s=>wX K (dB K.gd.last hq a4)  (s.p1_1 [0] Z)) Z λ_ _=>.yw (.neg Z (c:=(-(q.nx.nbV l)).toInt) (bI3 bI5))<|.az Z<|.tR<|?_
  refine y9 Z Z λW s=>?_;exact ⟨(),Jt,Z,s.p1_1 [0] rfl⟩
 have a4:Rq.ac l [45] q=false:=h4;rw [lH a4];have e1:q.boV l=q.nbV l:=by unfold Rq.boV;rw [aG (by rw [a4];decide)]
 have e3:q.boS l=q.nbS l:=by unfold Rq.boS;rw [aG (by rw [a4];decide)]
 rw [e1,e3];refine .sk<|.tN<|.sm Z<|.cs (X:=Unit) sM Z (λW s=>wX K hq  (s.p1_1 [0] Z)) Z λ_ _=>.az Z<|?_
 refine y9 Z Z λW s=>?_;exact ⟨(),Jt,Z,s.p1_1 [0] rfl⟩
theorem TB {b:Nat} {l:Tks} {rd dn:Bool} (K:Tkf H l tp tc) (hq:q.i<l.length) (op:UInt8) (s:St H w0 (.box b [.slice tp l.length tc,iN q.i,ro,rv,.bool rd,.bool dn,.bool bd,iN q.off,iN q.er] 102::bs) W) :
 Calls prg 157 #[.pointer (some ⟨b,0,none⟩),.int .u8 op.toNat] W λe W'=>∃ _:Unit,(True)/\e=.returned (.agg [.int .u8 op.toNat,cH (q.nmV l),cH [],.int .i64 ((q.ama l).boV l).toInt,.int .i64 ((q.amb l).boV l).toInt,.slice none 0 0,.slice none 0 0].toArray)/\St H w0 (.box b [.slice tp l.length tc,iN ((q.amS l).i),ro,rv,.bool rd,.bool dn,.bool bd,iN ((q.amS l).off),iN ((q.amS l).er)] 102::bs) W':=by
 refine kE func157 rfl ntmps157 rfl s ?_;refine .sr<|.al fV Z λb4=>.ns<|.mv Z<|.mv Z<|.cs (X:=Unit) sL Z (λW s=>EI K hq  (s.p2_2 [1,0] Z)) Z λ_ _=>.yw (.build Z (wJ _ _))<|.al fV Z λb5=>.sX .head Z Z dM Z<|.ns<|.mv Z<|.cs (X:=Unit) nP Z (λW s=>sC K (kH K.gd.last hq) [105,110] (s.p3_3 [1,0,2] Z)) Z λ_ _=>.ns<|.mv Z<|.cs (X:=Unit) MS Z (λW s=>aF7 K (kQ K.gd.last (kH K.gd.last hq))  (s.p3_3 [0,1,2] Z)) Z λ_ _=>.fA Z jB<|.st mD Z Z iH Z (nb Z) Z<|.ns<|.mv Z<|.cs (X:=Unit) nP Z (λW s=>sC K (ZX K.gd.last (kQ K.gd.last (kH K.gd.last hq))) [46,46] (s.p3_3 [0,1,2] Z)) Z λ_ _=>.ns<|.mv Z<|.cs (X:=Unit) MS Z (λW s=>aF7 K (kQ K.gd.last (ZX K.gd.last (kQ K.gd.last (kH K.gd.last hq))))  (s.p3_3 [0,1,2] Z)) Z λ_ _=>.fA Z hP<|.st mD Z Z iH Z (nb Z) Z<|.ns<|.yw (.loadW Z cQ dC Z)<|.sX oV Z Z dM Z<|.nt<|.rt<|?_
 refine y8 Z (.cell Z cQ nL rfl) λW s=>?_;exact ⟨(),Jt,Z,s.p3_1 [0] rfl⟩
end Go.Proofs.YtidclioghdbphaaGreatDoor
namespace Go.Sx
open Go.RowKit Go.Par
section
variable {dfs:List Deferred} {P:Program} {n:Nat} {L:Sl} {H:Hp} {w0:World} {bs:List Res} {Q:Exit->Act->World->Prop} {ops:Array Oper} {rest:List Oper} {K:Act->World->Prop}
variable {d:Option Tmp} {ty:TypeId} {pos:String} {aft:Array Edge} {v:Value} {t:Tmp} {x y:Operand} {T:TypeId}
variable {N hn:Nat} {pa:List (Nat × Oper × Value)} {E:Sl->Hp->List Res->Prop} {fr:List (Nat × Nat × Oper)} {i k:Nat}
theorem St.perm {W:World} {bs':List Res} (s:St H w0 bs W) (h:bs.Perm bs'):St H w0 bs' W :=
 ⟨s.ext,s.agr,λz hz=>s.own z (h.mem_iff.2 hz),h.pairwise s.apart (λ{x y} k=>Res.apart.symm k),s.lo⟩
theorem St.mid {W:World} {a d c e:List Res} (s:St H w0 (a++(d++(c++e))) W):St H w0 (a++(c++(d++e))) W :=
 s.perm (List.Perm.append_left a (by rw [<-aX,<-aX];exact List.Perm.append_right e List.perm_append_comm))
theorem Yl.loadR1 {e:TypeId} {size k g c off:Nat} {xs:List Value} (hp:ev L x=some (.pointer (some ⟨g,off,none⟩))) (hT:kS P T=some none) (hm:Res.row e size (.slice (some ⟨g,0,none⟩) k c) k xs∈bs) (hv:xs[off]? = some v) {gd:Option (Nat × Bool)}:Yl P L H w0 bs ⟨d,.load T x,ty,pos,aft,gd⟩ v:=.of_run λa W f s=>by
 have ho:W.ownsRow w0.heap.size e size (.slice (some ⟨g,0,none⟩) k c) k xs:=(s.own _ hm).1;have hc:=World.ownsRow.cells ho (g:=g) rfl off v hv;rw [Addr.add_lit,dV] at hc;unfold execOp;simp only [f x _ hp,Instr.loadAt,Instr.sureAddr,loadVar,Sem.run_bind,Sem.run_pure,Result.andThen,tL hT,aE,aW];rw [show (Go.load ⟨g,off,none⟩).run P W=.ok v W from by simp [Go.load,Sem.run,hc]]
theorem dX.apB {e:TypeId} {size bytes m c k b off:Nat} {r:Value} {xs news:List Value} {bs':Value->List Res} (hT:yR P T=some (e,size,bytes)) (hx:ev L x=some r)
 (hm:∀ r',Upd bs (.row e size r k xs) (.row e size r' (k+m) (xs++news)) (bs' r')) (hy:ev L y=some (.slice (some ⟨b,off,none⟩) m c)) (hs:Src H bs b off news) (hl:news.length=m * size) (h1:∀ u∈news,u.oneCell'=true)
 (h63:k+m<=maxLen) (hb:(k+m) * bytes<=140737488355328) (ht:Nat.blt t N=true)
 (hr2:∀ r',iR dfs P ops hn w0 N L H (bs' r') i pa) (h:∀ p c,dX dfs P ops hn w0 N E fr pa ((t,.slice p (k+m) c)::L) H (bs' (.slice p (k+m) c))) :
 dX dfs P ops hn w0 N E ((i,3,⟨some t,.call ⟨.builtin .append,#[x,y],#[T,T]⟩,ty,pos,aft,none⟩)::fr) pa L H bs :=
 ⟨sK ht,append hT hx hm hy hs hl h1 h63 hb ht λr' _=>At.ra (hm r').new λp c e=>by subst e;exact dX.into (.inr<|.inr<|hr2 _) (h p c)⟩
theorem At.s1Q {g off k c size:Nat} {e:TypeId} {xs ys:List Value} {v:Value} {bs':List Res} (he:xs.set off v=ys) (hp:ev L x=some (.pointer (some ⟨g,off,none⟩))) (hv:ev L y=some v) (hT:hZ P T=some 1) (h1:v.oneCell'=true)
 (hm:Upd bs (.row e size (.slice (some ⟨g,0,none⟩) k c) k xs) (.row e size (.slice (some ⟨g,0,none⟩) k c) k ys) bs') (ho:off<xs.length) (h:At dfs n L H w0 bs' (wpList P ops Q rest)) :
 At dfs n L H w0 bs (wpList P ops Q (⟨none,.store T x y,ty,pos,aft,none⟩::rest)):=by
 subst he;exact At.s1R hp hv hT h1 hm ho h
theorem vV.s1Q {kk:Nat} {q:PlT} {bs':List Res} {g off k c size:Nat} {e:TypeId} {xs ys:List Value} {v:Value} (he:xs.set off v=ys) (hp:ev L x=some (.pointer (some ⟨g,off,none⟩))) (hv:ev L y=some v) (hT:hZ P T=some 1) (h1:v.oneCell'=true)
 (hm:Upd bs (.row e size (.slice (some ⟨g,0,none⟩) k c) k xs) (.row e size (.slice (some ⟨g,0,none⟩) k c) k ys) bs') (ho:off<xs.length)
 (hr:iR dfs P ops hn w0 N L H bs' i pa) (h:gT dfs P ops hn w0 N E q pa L H bs'):vV dfs P ops hn w0 N E i kk ⟨none,.store T x y,ty,pos,aft,none⟩ q pa L H bs:=by
 subst he;exact ⟨λ_ e=>(by cases e),aA6 hp hv hT h1 hm ho (vV.into0 hr h)⟩
theorem tK {xr cs cs':List Value} {n j:Nat} {v:Value} (hl:xr.length=n) (h:cs.set j v=cs'):(xr++cs).set (n+j) v=xr++cs':=by
 subst hl h;rw [kP _ _ (Nat.le_add_right _ _),iU]
end
end Go.Sx
namespace Go.Proofs.YtidclioghdbphaaGreatDoor
open Go.RowKit Go.Par Go.Sx Tryz
variable {g k c:Nat}
variable {H:Hp} {w0 W:World} {bs:List Res} {tp:Option Addr} {tc:Nat} {rv:Value} {bd:Bool} {q:Rq}
theorem BI {b:Nat} {l:Tks} {rd dn:Bool} (K:Tkf H l tp tc) (hq:q.i<l.length) (hkm:k<=600001) (s:St H w0 (.box b [.slice tp l.length tc,iN q.i,.slice (some ⟨g,0,none⟩) (k+1) c,rv,.bool rd,.bool dn,.bool bd,iN q.off,iN q.er] 102::bs) W) :
 Calls prg 105 #[.pointer (some ⟨b,0,none⟩)] W λe W'=>∃ _:Unit,(True)/\e=.returned (.pointer (some ⟨g,k * 11,none⟩))/\St H w0 (.box b [.slice tp l.length tc,iN q.i,.slice (some ⟨g,0,none⟩) (k+1) c,rv,.bool rd,.bool dn,.bool bd,iN q.off,iN q.er] 102::bs) W':=by
 have hcap:=K.rep.cap;refine kE func105 rfl ntmps105 rfl s ?_;refine .sr<|.aq Z<|.sq<|.fL 11 [(0,0),(1,0),(2,0),(3,0),(4,0),(5,0),(6,0),(7,0),(8,0),(9,0),(10,0)]<|.mv Z<|.nC Z<|.fA Z iY<|.lD Z vO Hm Z<|.mv Z<|.nC Z<|.fA Z iY<|.lD Z vO Hm Z<|.yw (.lenSl CT Z)<|.yw (.sub Z Z (c:=((k:Nat):Int)) ((w6 (by omega)).trans (by omega)))<|.yw (.indexSl CT Z Z (i:=k) Z (by omega) (q:=k * 11) (by omega))<|.fn (tl:=[_]) Z<|.az Z<|?_
 refine y9 Z Z λW s=>?_;exact ⟨(),Jt,Z,s.p1_1 [0] rfl⟩
theorem bN5 {lv:Nat} {t:Bool} {a0 a3 a4 a5 a6 a7 a8 a9 a10:Value} (h1:∀ u∈[a0,a3,a4,a5,a6,a7,a8,a9,a10],u.oneCell'=true):∀ u∈[a0,iN lv,.bool t,a3,a4,a5,a6,a7,a8,a9,a10],u.oneCell'=true:=by
 intro u hu;simp only [bV,List.not_mem_nil,or_false] at hu h1;rcases hu with h | h | h | h | h | h | h | h | h | h | h
 ·exact h1 u (by simp [h])
 ·rw [h];rfl
 ·rw [h];rfl
 all_goals exact h1 u (by simp [h])
variable {xo:List Value}
variable {ro:Value}
theorem mO {b:Nat} {l:Tks} {rd dn:Bool} (K:Tkf H l tp tc) (hq:q.i<l.length) {lv:Nat} {t t':Bool} {a0 a3 a4 a5 a6 a7 a8 a9 a10:Value} (h1:∀ u∈[a0,a3,a4,a5,a6,a7,a8,a9,a10],u.oneCell'=true) (hkm:k<=600001) (hT:0<lv->∃ k1,k=k1+1/\xo[k1 * 11+2]? = some (.bool t')) (s:St H w0 (.box b [.slice tp l.length tc,iN q.i,ro,rv,.bool rd,.bool dn,.bool bd,iN q.off,iN q.er] 102::.row 97 11 (ro) (k) (xo)::bs) W) :
 Calls prg 109 #[.pointer (some ⟨b,0,none⟩),.agg [a0,iN lv,.bool t,a3,a4,a5,a6,a7,a8,a9,a10].toArray] W λe W'=>∃ z:Option Addr × Nat,(True)/\e=.returned (.tuple #[])/\St H w0 (.box b [.slice tp l.length tc,iN q.i,(.slice z.1 (k+1) z.2),rv,.bool false,.bool dn,.bool bd,iN q.off,iN q.er] 102::.row 97 11 (.slice z.1 (k+1) z.2) (k+1) (xo++[a0,iN lv,.bool (if 0<lv then t' else t),a3,a4,a5,a6,a7,a8,a9,a10])::bs) W':=by
 have hcap:=K.rep.cap;refine kE func109 rfl ntmps109 rfl s ?_;refine .sr<|.bx Z Z Z λb3=>.nt<|.sq<|.sr<|.fA Z pC<|.lD Z cC Hm Z<|.yw (.gtr Z Z)<|.nt<|.ce Z (λh6=>?_) (λh6=>?_)
 ·obtain ⟨k1,rfl,ht⟩:=hT (by omega);refine Sx.At.rs (size:=11) (k:=k1+1) (r:=ro) (xs:=xo) (e:=97) nL (by omega) λg c e=>?_;subst e;refine .rg<|.mv Z<|.cs (X:=Unit) mK Z (λW s=>BI K hq (g:=g) (k:=k1) (c:=c) (by omega) (s.p3_3 [1,0,2] Z)) Z λ_ _=>.nC Z<|.fA Z tZ<|.yw (.loadR1 Z jO nL ht)<|.fA Z tZ<|.st mD Z Z nG Z (nb Z) Z<|.nt<|.sq<|.fL 8 [(0,0),(1,0),(2,0),(3,0),(4,0),(5,0),(6,1),(7,3)]<|.mv Z<|.mv Z<|.nC Z<|.fA Z iY<|.lD Z vO Hm Z<|.yw (.loadW Z zH dC Z)<|.bl Z (EY _ _ _ _ _ _ _ _ _ _ _) Z λb19=>.apB WN Z (λ_=>qF) Z (.box Hm z0) Z (bN5 h1) (by simp only [maxLen];omega) (by omega) Z (λ_=>(.d3<|.d2<|.yv (.move Z)<|.nl)) λp20 c20=>.fn (tl:=[_,_,_]) Z<|.nC Z<|.fA Z iY<|.st mD Z Z CU Z (nb Z) Z<|.nt<|.rg<|.mv Z<|.nC Z<|.fA Z lV<|.st mD Z Z nG Z (nb Z) Z<|.nl<|?_
  refine jE (.inr Z) rfl .nil rfl λW s=>⟨(p20,c20),Jt,Z,?_⟩;rw [aO (show 0<lv by omega)];exact s.p4_2 [1,3] rfl
 refine .sk<|.tN<|.sq<|.fL 8 [(0,0),(1,0),(2,0),(3,0),(4,0),(5,0),(6,1),(7,3)]<|.mv Z<|.mv Z<|.nC Z<|.fA Z iY<|.lD Z vO dC Z<|.yw (.loadW Z zH Hm Z)<|.bl Z (EY _ _ _ _ _ _ _ _ _ _ _) Z λb19=>.apB WN Z (λ_=>qF) Z (.box Hm z0) Z (bN5 h1) (by simp only [maxLen];omega) (by omega) Z (λ_=>(.d3<|.d2<|.yv (.move Z)<|.nl)) λp20 c20=>.fn (tl:=[_,_,_]) Z<|.nC Z<|.fA Z iY<|.st oV Z Z CU Z (nb Z) Z<|.nt<|.rg<|.mv Z<|.nC Z<|.fA Z lV<|.st oV Z Z nG Z (nb Z) Z<|.nl<|?_
 refine jE (.inr Z) rfl .nil rfl λW s=>⟨(p20,c20),Jt,Z,?_⟩;rw [aG (show ¬ 0<lv by omega)];exact s.p4_2 [2,3] rfl
variable {v0 v1:Value} {xv:List Value}
theorem mJ {b:Nat} {l:Tks} {rd dn:Bool} (K:Tkf H l tp tc) (hq:q.i<l.length) {v2 v3 v4 v5 v6 v7 v8 v9 va vb vc:Value} (h1:∀ u∈[v0,v1,v2,v3,v4,v5,v6,v7,v8,v9,va,vb,vc],u.oneCell'=true) (hkm:k<=600001) (s:St H w0 (.box b [.slice tp l.length tc,iN q.i,ro,rv,.bool rd,.bool dn,.bool bd,iN q.off,iN q.er] 102::.row 179 13 (rv) (k) (xv)::bs) W) :
 Calls prg 108 #[.pointer (some ⟨b,0,none⟩),.agg [v0,v1,v2,v3,v4,v5,v6,v7,v8,v9,va,vb,vc].toArray] W λe W'=>∃ z:Option Addr × Nat,(True)/\e=.returned (.tuple #[])/\St H w0 (.box b [.slice tp l.length tc,iN q.i,ro,(.slice z.1 (k+1) z.2),.bool true,.bool dn,.bool bd,iN q.off,iN q.er] 102::.row 179 13 (.slice z.1 (k+1) z.2) (k+1) (xv++[v0,v1,v2,v3,v4,v5,v6,v7,v8,v9,va,vb,vc])::bs) W':=by
 have hcap:=K.rep.cap;refine kE func108 rfl ntmps108 rfl s ?_;refine .sr<|.bx Z Z Z λb3=>.nt<|.sq<|.fL 8 [(0,0),(1,0),(2,0),(3,0),(4,0),(5,0),(6,1),(7,3)]<|.mv Z<|.mv Z<|.nC Z<|.fA Z iX<|.lD Z pU dC Z<|.yw (.loadW Z wQ Hm Z)<|.bl Z (WT _ _ _ _ _ _ _ _ _ _ _ _ _) Z λb10=>.apB aM9 Z (λ_=>qF) Z (.box Hm z0) Z h1 (by simp only [maxLen];omega) (by omega) Z (λ_=>(.d3<|.d2<|.yv (.move Z)<|.nl)) λp20 c20=>.fn (tl:=[_,_,_]) Z<|.nC Z<|.fA Z iX<|.st oV Z Z MR Z (nb Z) Z<|.nt<|.rg<|.mv Z<|.nC Z<|.fA Z lV<|.st oV Z Z nG Z (nb Z) Z<|.nl<|?_
 refine jE (.inr Z) rfl .nil rfl λW s=>⟨(p20,c20),Jt,Z,?_⟩;exact s.p4_2 [2,3] rfl
variable {xr:List Value}
theorem aV2 {b:Nat} {l:Tks} {rd dn:Bool} (K:Tkf H l tp tc) (hq:q.i<l.length) {v2 v3 v4 v5 v6 v7 v8 v9 va vb vc:Value} (h1:∀ u∈[v0,v1,v2,v3,v4,v5,v6,v7,v8,v9,va,vb,vc],u.oneCell'=true) (hkm:k<=600001) (hl:xr.length=k * 13) (s:St H w0 (.box b [.slice tp l.length tc,iN q.i,ro,rv,.bool rd,.bool dn,.bool bd,iN q.off,iN q.er] 102::.row 179 13 (rv) (k+1) (xr++[v0,v1,v2,v3,v4,v5,v6,v7,v8,v9,va,vb,vc])::bs) W) :
 Calls prg 116 #[.pointer (some ⟨b,0,none⟩)] W λe W'=>∃ z:Nat × Nat,(True)/\e=.returned (.agg [v0,v1,v2,v3,v4,v5,v6,v7,v8,v9,va,vb,vc].toArray)/\St H w0 (.box b [.slice tp l.length tc,iN q.i,ro,(.slice (some ⟨z.1,0,none⟩) k z.2),.bool rd,.bool dn,.bool bd,iN q.off,iN q.er] 102::.row 179 13 (.slice (some ⟨z.1,0,none⟩) k z.2) (k) (xr)::bs) W':=by
 have hcap:=K.rep.cap;refine kE func116 rfl ntmps116 rfl s ?_;refine Sx.rowCase (size:=13) (k:=k+1) (r:=rv) (e:=179) dC (by omega) λg c e hkc=>?_;subst e;refine .sr<|.al xE Z λb2=>.ns<|.mv Z<|.nC Z<|.fA Z iX<|.lD Z pU dC Z<|.yw (.lenSl tY Z)<|.yw (.sub Z Z (c:=((k:Nat):Int)) ((w6 (by omega)).trans (by omega)))<|.a Z Z<|.ns<|.mv Z<|.nC Z<|.fA Z iX<|.lD Z pU dC Z<|.mv Z<|.yw (.indexSl tY Z Z (i:=k) Z (by omega) (q:=k * 13) (by omega))<|.yw (.loadR (vs:=[v0,v1,v2,v3,v4,v5,v6,v7,v8,v9,va,vb,vc]) Z wQ nL Z (λj u h=>(List.getElem?_append_right (by omega)).trans (by rw [hl,iU];exact h)))<|.al xE Z λb4=>.sW .head Z Z xG h1 Z<|.ns<|.mv Z<|.mv Z<|.nC Z<|.fA Z iX<|.lD Z pU nL Z<|.mv Z<|.yw (.cutHi tY Z Z Z (by omega) (λq e=>by cases e;rfl))<|.nC Z<|.fA Z iX<|.st oV Z Z MR Z (nb Z) Z<|?_
 refine Sx.At.rcut (size:=13) (m:=k) (ys:=xr) qF (by omega) (by rw [<-hl,jG]) ?_;refine .ns<|.yw (.loadW Z wQ Hm Z)<|.sW mD Z Z xG h1 Z<|.nt<|.rt<|?_
 refine y8 Z (.cell Z wQ dC rfl) λW s=>?_;exact ⟨(g,c),Jt,Z,s.p4_2 [2,3] rfl⟩
abbrev vC (v:Vl) (s0 s1 s2:Value):List Value:=[.bool v.tm,.bool v.wh,.int .u8 v.e.op.toNat,cH v.e.nm,.int .i64 v.e.n.toInt,s0,.int .u8 v.f.op.toNat,cH v.f.nm,cH v.f.fd,.int .i64 v.f.a.toInt,.int .i64 v.f.b.toInt,s1,s2]
abbrev oC (o:Ov) (s1 s2:Value):List Value:=[.int .u8 o.kd.toNat,iN o.lv,.bool o.tm,.int .u8 o.op.toNat,.int .u8 o.f.op.toNat,cH o.f.nm,cH o.f.fd,.int .i64 o.f.a.toInt,.int .i64 o.f.b.toInt,s1,s2]
structure FmR (H:Hp) (f:Fm) (s1 s2:Value):Prop where
 ex:Rep H (.seq 4 (f.ex.map (dEx .u8))) [s1]
 ar:Rep H (.seq 7 (f.args.map (dFm .u8))) [s2]
 nm:f.nm.length<=1000000
 fd:f.fd.length<=1000000
structure ExR (H:Hp) (e:Ex) (s:Value):Prop where
 ar:Rep H (.seq 4 (e.args.map (dEx .u8))) [s]
 nm:e.nm.length<=1000000
structure VlR (H:Hp) (v:Vl) (s0 s1 s2:Value):Prop where
 e:ExR H v.e s0
 f:FmR H v.f s1 s2
variable {H':Hp} {f:Fm} {s1 s2:Value}
theorem FmR.up (h:FmR H f s1 s2) (u:Up H H'):FmR H' f s1 s2:=⟨h.ex.up u,h.ar.up u,h.nm,h.fd⟩
theorem ExR.up {e:Ex} {s:Value} (h:ExR H e s) (u:Up H H'):ExR H' e s:=⟨h.ar.up u,h.nm⟩
theorem VlR.up {v:Vl} {s0:Value} (h:VlR H v s0 s1 s2) (u:Up H H'):VlR H' v s0 s1 s2:=⟨h.e.up u,h.f.up u⟩
theorem ExR.rep {e:Ex} {s:Value} (h:ExR H e s):Rep H (dEx .u8 e) [.int .u8 e.op.toNat,cH e.nm,.int .i64 e.n.toInt,s]:=by
 obtain ⟨op,nm,n,args⟩:=e;exact rC h.nm h.ar
theorem FmR.rep (h:FmR H f s1 s2):Rep H (dFm .u8 f) (cFm .u8 f.op f.nm f.fd f.a f.b s1 s2):=by
 obtain ⟨op,nm,fd,a,b,ex,args⟩:=f;exact CP h.nm h.fd h.ex h.ar
variable {z:Nat}
theorem Rep.nil4:Rep H (.seq z []) [.slice none 0 0]:=Rep.empty (p:=none) (c:=0) (by decide)
theorem FmR.zero (h1:f.ex=[]) (h2:f.args=[]) (h3:f.nm.length<=1000000) (h4:f.fd.length<=1000000):FmR H f (.slice none 0 0) (.slice none 0 0):=⟨by rw [h1];exact Rep.nil4,by rw [h2];exact Rep.nil4,h3,h4⟩
theorem ExR.zero {e:Ex} (h1:e.args=[]) (h3:e.nm.length<=1000000):ExR H e (.slice none 0 0):=⟨by rw [h1];exact Rep.nil4,h3⟩
theorem LI {ds:List D} {s:Value} (h:Rep H (.seq z ds) [s]):s.oneCell'=true:=h.one s (cI.2 rfl)
theorem VlR.one {v:Vl} {s0:Value} (h:VlR H v s0 s1 s2):∀ u∈vC v s0 s1 s2,u.oneCell'=true:=by
 intro u hu;simp only [bV,List.not_mem_nil,or_false] at hu;rcases hu with rfl | rfl | rfl | rfl | rfl | rfl | rfl | rfl | rfl | rfl | rfl | rfl | rfl <;> first | rfl | exact LI h.e.ar | exact LI h.f.ex | exact LI h.f.ar
inductive VR (H:Hp):List Vl->List Value->Prop
 | nil:VR H [] []
 | cons {v:Vl} {vs:List Vl} {xv:List Value} {s0 s1 s2:Value}:VR H vs xv->VlR H v s0 s1 s2->VR H (v::vs) (xv++vC v s0 s1 s2)
theorem VR.up (u:Up H H'):∀ {vs:List Vl} {xv:List Value},VR H vs xv->VR H' vs xv
 | _,_,.nil=>.nil
 | _,_,.cons h k=>.cons (h.up u) (k.up u)
theorem VR.len:∀ {vs:List Vl} {xv:List Value},VR H vs xv->xv.length=vs.length * 13
 | _,_,.nil=>rfl
 | _,_,.cons h _=>by have:=h.len;simp only [aH,aI,aL];omega
inductive Ops (H:Hp):List Ov->List Value->List Res->Prop
 | nil:Ops H [] [] []
 | cons {o:Ov} {r:List Ov} {xo:List Value} {s1 s2:Value} {AR:List Res}:Ops H r xo AR->o.kd≠5->FmR H o.f s1 s2->Ops H (o::r) (xo++oC o s1 s2) AR
 | arg {o:Ov} {r:List Ov} {xo xe:List Value} {s1:Value} {AR:List Res}:Ops H r xo AR->o.kd=5->o.f.args=[]->o.f.nm.length<=1000000->o.f.fd.length<=1000000->eR H 4 (o.f.ex.map (dEx .u8)) xe->s1.oneCell'=true->Ops H (o::r) (xo++oC o s1 (.slice none 0 0)) (.row 76 4 s1 o.f.ex.length xe::AR)
theorem Ops.up (u:Up H H'):∀ {os:List Ov} {xo:List Value} {AR:List Res},Ops H os xo AR->Ops H' os xo AR
 | _,_,_,.nil=>.nil
 | _,_,_,.cons h k f=>.cons (h.up u) k (f.up u)
 | _,_,_,.arg h k a b c z s=>.arg (h.up u) k a b c (z.up u) s
theorem Ops.len:∀ {os:List Ov} {xo:List Value} {AR:List Res},Ops H os xo AR->xo.length=os.length * 11
 | _,_,_,.nil=>rfl
 | _,_,_,.cons h _ _=>by have:=h.len;simp only [aH,aI,aL];omega
 | _,_,_,.arg h _ _ _ _ _ _=>by have:=h.len;simp only [aH,aI,aL];omega
variable {AR:List Res}
theorem Ops.top {o:Ov} {r:List Ov} (h:Ops H (o::r) xo AR):∃ xr s1 s2,xo=xr++oC o s1 s2/\xr.length=r.length * 11/\s1.oneCell'=true/\s2.oneCell'=true:=by
 cases h with
 | cons h k f=>exact ⟨_,_,_,Z,h.len,LI f.ex,LI f.ar⟩
 | arg h k a b c z s=>exact ⟨_,_,_,Z,h.len,s,Z⟩
variable {n j:Nat}
theorem kF {cs:List Value} {u:Value} (hl:xr.length=n) (h:cs[j]? = some u):(xr++cs)[n+j]? = some u:=by
 subst hl;rw [List.getElem?_append_right (Nat.le_add_right _ _),iU];exact h
theorem bS0 {o:Ov} (h1:s1.oneCell'=true) (h2:s2.oneCell'=true):∀ u∈oC o s1 s2,u.oneCell'=true:=by
 intro u hu;simp only [bV,List.not_mem_nil,or_false] at hu;rcases hu with rfl | rfl | rfl | rfl | rfl | rfl | rfl | rfl | rfl | rfl | rfl <;> first | rfl | exact h1 | exact h2
structure Sq (H:Hp) (q:Ps) (xo xv:List Value) (AR:List Res):Prop where
 ops:Ops H q.op xo AR
 vls:VR H q.x.1 xv
theorem Sq.up {q:Ps} (h:Sq H q xo xv AR) (u:Up H H'):Sq H' q xo xv AR:=⟨h.ops.up u,h.vls.up u⟩
theorem Sq.at {q:Ps} {c:Rq} (h:Sq H q xo xv AR):Sq H (q.at c) xo xv AR:=⟨h.ops,h.vls⟩
abbrev pB (tp:Option Addr) (n tc:Nat) (q:Ps) (b:Nat) (ro rv:Value) (xo xv:List Value):List Res:=[.box b [.slice tp n tc,iN q.c.i,ro,rv,.bool q.rd,.bool q.dn,.bool q.x.2,iN q.c.off,iN q.c.er] 102,.row 97 11 ro q.op.length xo,.row 179 13 rv q.x.1.length xv]
abbrev StP (H:Hp) (w0:World) (bs:List Res) (W:World) (b:Nat) (l:Tks) (tp:Option Addr) (tc:Nat) (q:Ps) (ro rv:Value) (xo xv:List Value) (AR:List Res):Prop:=St H w0 (pB tp l.length tc q b ro rv xo xv++(AR++bs)) W
def Get (w0:World) (bs:List Res) (b:Nat) (l:Tks) (tp:Option Addr) (tc:Nat) (H:Hp) (q:Ps) (e:Ending) (W:World):Prop :=
 ∃ z:Hp × Value × Value × List Value × List Value × List Res,(HUp w0 H z.1/\Sq z.1 q z.2.2.2.1 z.2.2.2.2.1 z.2.2.2.2.2)/\e=.returned (.tuple #[])/\StP z.1 w0 bs W b l tp tc q z.2.1 z.2.2.1 z.2.2.2.1 z.2.2.2.2.1 z.2.2.2.2.2
end Go.Proofs.YtidclioghdbphaaGreatDoor
namespace Go.Proofs
open Go.Shelf
def Tryz.lays156_ren:Go.Shelf.Ren:=⟨λ| 156=>90 | 165=>141 | 166=>142 | 169=>143 | 240=>172 | 241=>173 | 276=>195 | 277=>196 | n=>n,λ| 31=>71 | 9=>9 | 3=>3 | 4=>4 | 0=>0 | 20=>20 | 72=>209 | 76=>212 | 70=>207 | 37=>50 | 75=>211 | 127=>232 | 164=>247 | 5=>5 | 80=>40 | n=>n,λ| n=>n⟩
theorem Tryz.lays156:Go.Proofs.Lays.n156 prg Tryz.lays156_ren:={
 mixed:=by kernel_rfl
 f156:=Tryz.func90.trans (congrArg some (by kernel_rfl))
 f165:=Tryz.func141.trans (congrArg some (by kernel_rfl))
 f166:=Tryz.func142.trans (congrArg some (by kernel_rfl))
 f169:=Tryz.func143.trans (congrArg some (by kernel_rfl))
 f240:=Tryz.func172.trans (congrArg some (by kernel_rfl))
 f241:=Tryz.func173.trans (congrArg some (by kernel_rfl))
 f276:=Tryz.func195.trans (congrArg some (by kernel_rfl))
 f277:=Tryz.func196.trans (congrArg some (by kernel_rfl))
 t0:=Tryz.underlying0
 a0:=Tryz.isAgg0
 z0:=Tryz.sizeOf0
 v0:=Tryz.zeroValue0
 t3:=Tryz.underlying3
 a3:=Tryz.isAgg3
 z3:=Tryz.sizeOf3
 v3:=Tryz.zeroValue3
 t4:=Tryz.underlying4
 a4:=Tryz.isAgg4
 z4:=Tryz.sizeOf4
 v4:=Tryz.zeroValue4
 t9:=Tryz.underlying9
 a9:=Tryz.isAgg9
 z9:=Tryz.sizeOf9
 v9:=Tryz.zeroValue9
 t20:=Tryz.underlying20
 a20:=Tryz.isAgg20
 z20:=Tryz.sizeOf20
 v20:=Tryz.zeroValue20
 t31:=Tryz.underlying71
 a31:=Tryz.isAgg71
 z31:=Tryz.sizeOf71
 v31:=Tryz.zeroValue71
 t37:=Tryz.underlying50
 a37:=Tryz.isAgg50
 z37:=Tryz.sizeOf50
 v37:=Tryz.zeroValue50
 t70:=Tryz.underlying207
 a70:=Tryz.isAgg207
 z70:=Tryz.sizeOf207
 v70:=Tryz.zeroValue207
 t72:=Tryz.underlying209
 a72:=Tryz.isAgg209
 z72:=Tryz.sizeOf209
 v72:=Tryz.zeroValue209
 t75:=Tryz.underlying211
 a75:=Tryz.isAgg211
 z75:=Tryz.sizeOf211
 v75:=Tryz.zeroValue211
 t76:=Tryz.underlying212
 a76:=Tryz.isAgg212
 z76:=Tryz.sizeOf212
 v76:=Tryz.zeroValue212
 t127:=Tryz.underlying232
 a127:=Tryz.isAgg232
 z127:=Tryz.sizeOf232
 v127:=Tryz.zeroValue232
 t164:=Tryz.underlying247
 a164:=Tryz.isAgg247
 z164:=Tryz.sizeOf247
 v164:=Tryz.zeroValue247 }
theorem Tryz.Builder_Extra_156:Builder.Extra prg Tryz.lays156_ren:={
 sizeBuilder:=by kernel_rfl
 liesBuilder:=by kernel_rfl
 t5:=Tryz.underlying5
 a5:=Tryz.isAgg5
 z5:=Tryz.sizeOf5
 v5:=Tryz.zeroValue5
 infoByte:=by kernel_rfl
 cellsByte:=by kernel_rfl
 sizeByte:=by kernel_rfl
 neB5:=by decide }
open Go.RowKit in
theorem Tryz.strings_Join_none (a:Option Addr) (c:Nat) (sep:ByteArray) (w:World) :
 Calls prg 90 #[.slice a 0 c,.string sep] w λe w'=>e=.returned (.string ⟨#[]⟩)/\w'=w:=Any.strings_Join_none Tryz.lays156 Tryz.Builder_Extra_156 a c sep w
open Go.RowKit in
theorem Tryz.strings_Join (bk o c:Nat) (xs:List ByteArray) (sep:ByteArray) (w:World) (hcells:∀ (j:Nat) x,xs[j]? = some x->w.cell? ⟨bk,o+j,none⟩=some (.string x)) (hbk:bk<w.heap.size) (hN:xs.length<=140737488355328) (hcap:xs.length<=c) (hlen:(Lib.join (xs.map (·.data.toList)) sep.data.toList).length<=140737488355328) :
 Calls prg 90 #[.slice (some ⟨bk,o,none⟩) xs.length c,.string sep] w λe w'=>e=.returned (.string ⟨(Lib.join (xs.map (·.data.toList)) sep.data.toList).toArray⟩)/\Below w.heap.size w w':=Any.strings_Join Tryz.lays156 Tryz.Builder_Extra_156 bk o c xs sep w hcells hbk hN hcap hlen
def Tryz.laysM171_ren:Go.Shelf.Ren:=⟨λ| 171=>144 | 243=>174 | 246=>171 | 283=>191 | 284=>192 | 285=>193 | 286=>194 | 129=>203 | 317=>202 | 318=>204 | 319=>205 | 320=>206 | 337=>210 | 338=>211 | n=>n,λ| 3=>3 | 9=>9 | 2=>2 | 4=>4 | 171=>241 | 0=>0 | 53=>242 | 37=>50 | 5=>5 | 173=>245 | 212=>257 | 51=>250 | 20=>20 | 213=>258 | 46=>234 | 232=>264 | 233=>265 | n=>n,λ| 17=>6 | 18=>7 | 19=>8 | n=>n⟩
theorem Tryz.laysM171:Go.Proofs.LaysM.n171 prg Tryz.laysM171_ren:={
 mixed:=by kernel_rfl
 f129:=Tryz.func203.trans (congrArg some (by kernel_rfl))
 f171:=Tryz.func144.trans (congrArg some (by kernel_rfl))
 f243:=Tryz.func174.trans (congrArg some (by kernel_rfl))
 f246:=Tryz.func171.trans (congrArg some (by kernel_rfl))
 f283:=Tryz.func191.trans (congrArg some (by kernel_rfl))
 f284:=Tryz.func192.trans (congrArg some (by kernel_rfl))
 f285:=Tryz.func193.trans (congrArg some (by kernel_rfl))
 f286:=Tryz.func194.trans (congrArg some (by kernel_rfl))
 f317:=Tryz.func202.trans (congrArg some (by kernel_rfl))
 f318:=Tryz.func204.trans (congrArg some (by kernel_rfl))
 f319:=Tryz.func205.trans (congrArg some (by kernel_rfl))
 f320:=Tryz.func206.trans (congrArg some (by kernel_rfl))
 f337:=Tryz.func210.trans (congrArg some (by kernel_rfl))
 f338:=Tryz.func211.trans (congrArg some (by kernel_rfl))
 t0:=Tryz.underlying0
 a0:=Tryz.isAgg0
 z0:=Tryz.sizeOf0
 v0:=Tryz.zeroValue0
 t2:=Tryz.underlying2
 a2:=Tryz.isAgg2
 z2:=Tryz.sizeOf2
 v2:=Tryz.zeroValue2
 t3:=Tryz.underlying3
 a3:=Tryz.isAgg3
 z3:=Tryz.sizeOf3
 v3:=Tryz.zeroValue3
 t4:=Tryz.underlying4
 a4:=Tryz.isAgg4
 z4:=Tryz.sizeOf4
 v4:=Tryz.zeroValue4
 t5:=Tryz.underlying5
 a5:=Tryz.isAgg5
 z5:=Tryz.sizeOf5
 v5:=Tryz.zeroValue5
 t9:=Tryz.underlying9
 a9:=Tryz.isAgg9
 z9:=Tryz.sizeOf9
 v9:=Tryz.zeroValue9
 t20:=Tryz.underlying20
 a20:=Tryz.isAgg20
 z20:=Tryz.sizeOf20
 v20:=Tryz.zeroValue20
 t37:=Tryz.underlying50
 a37:=Tryz.isAgg50
 z37:=Tryz.sizeOf50
 v37:=Tryz.zeroValue50
 t46:=Tryz.underlying234
 a46:=Tryz.isAgg234
 z46:=Tryz.sizeOf234
 v46:=Tryz.zeroValue234
 t51:=Tryz.underlying250
 a51:=Tryz.isAgg250
 z51:=Tryz.sizeOf250
 v51:=Tryz.zeroValue250
 t53:=Tryz.underlying242
 a53:=Tryz.isAgg242
 z53:=Tryz.sizeOf242
 v53:=Tryz.zeroValue242
 t171:=Tryz.underlying241
 a171:=Tryz.isAgg241
 z171:=Tryz.sizeOf241
 v171:=Tryz.zeroValue241
 t173:=Tryz.underlying245
 a173:=Tryz.isAgg245
 z173:=Tryz.sizeOf245
 v173:=Tryz.zeroValue245
 t212:=Tryz.underlying257
 a212:=Tryz.isAgg257
 z212:=Tryz.sizeOf257
 v212:=Tryz.zeroValue257
 t213:=Tryz.underlying258
 a213:=Tryz.isAgg258
 z213:=Tryz.sizeOf258
 t232:=Tryz.underlying264
 a232:=Tryz.isAgg264
 z232:=Tryz.sizeOf264
 v232:=Tryz.zeroValue264
 t233:=Tryz.underlying265
 a233:=Tryz.isAgg265
 z233:=Tryz.sizeOf265
 v233:=Tryz.zeroValue265
 g17:=by kernel_rfl
 g18:=by kernel_rfl
 g19:=by kernel_rfl
 i0:=by kernel_rfl
 i2:=by kernel_rfl
 i3:=by kernel_rfl
 i4:=by kernel_rfl
 i5:=by kernel_rfl
 i9:=by kernel_rfl
 i20:=by kernel_rfl
 i37:=by kernel_rfl
 i46:=by kernel_rfl
 i51:=by kernel_rfl
 i53:=by kernel_rfl
 i171:=by kernel_rfl
 i173:=by kernel_rfl
 i212:=by kernel_rfl
 i232:=by kernel_rfl
 i233:=by kernel_rfl
 m17:=by kernel_rfl
 m18:=by kernel_rfl
 m19:=by kernel_rfl }
open Go.RowKit Go.Sort Go.Lib in
theorem Tryz.strconv_Itoa (n:Int) (h0:-9223372036854775808<=n) (h1:n<=9223372036854775807) (w:World) (htab:Lib.TabIs prg w "internal/strconv.uint64pow10" .u64 Lib.pow10Tab) :
 Calls prg 144 #[.int .i64 n] w λe w'=>e=.returned (.string ⟨(Lib.itoa n).toArray⟩)/\∃ k os,w'=grow (w.drewN k) os:=Any.strconv_Itoa Tryz.laysM171 n h0 h1 w htab
def Tryz.laysM173_ren:Go.Shelf.Ren:=⟨λ| 173=>138 | 246=>171 | 283=>191 | 284=>192 | 285=>193 | 286=>194 | 129=>203 | 317=>202 | 318=>204 | 319=>205 | 320=>206 | 337=>210 | 338=>211 | n=>n,λ| 2=>2 | 3=>3 | 9=>9 | 4=>4 | 171=>241 | 0=>0 | 53=>242 | 37=>50 | 5=>5 | 173=>245 | 212=>257 | 51=>250 | 20=>20 | 213=>258 | 46=>234 | 232=>264 | 233=>265 | n=>n,λ| 17=>6 | 18=>7 | 19=>8 | n=>n⟩
theorem Tryz.laysM173:Go.Proofs.LaysM.n173 prg Tryz.laysM173_ren:={
 mixed:=by kernel_rfl
 f129:=Tryz.func203.trans (congrArg some (by kernel_rfl))
 f173:=Tryz.func138.trans (congrArg some (by kernel_rfl))
 f246:=Tryz.func171.trans (congrArg some (by kernel_rfl))
 f283:=Tryz.func191.trans (congrArg some (by kernel_rfl))
 f284:=Tryz.func192.trans (congrArg some (by kernel_rfl))
 f285:=Tryz.func193.trans (congrArg some (by kernel_rfl))
 f286:=Tryz.func194.trans (congrArg some (by kernel_rfl))
 f317:=Tryz.func202.trans (congrArg some (by kernel_rfl))
 f318:=Tryz.func204.trans (congrArg some (by kernel_rfl))
 f319:=Tryz.func205.trans (congrArg some (by kernel_rfl))
 f320:=Tryz.func206.trans (congrArg some (by kernel_rfl))
 f337:=Tryz.func210.trans (congrArg some (by kernel_rfl))
 f338:=Tryz.func211.trans (congrArg some (by kernel_rfl))
 t0:=Tryz.underlying0
 a0:=Tryz.isAgg0
 z0:=Tryz.sizeOf0
 v0:=Tryz.zeroValue0
 t2:=Tryz.underlying2
 a2:=Tryz.isAgg2
 z2:=Tryz.sizeOf2
 v2:=Tryz.zeroValue2
 t3:=Tryz.underlying3
 a3:=Tryz.isAgg3
 z3:=Tryz.sizeOf3
 v3:=Tryz.zeroValue3
 t4:=Tryz.underlying4
 a4:=Tryz.isAgg4
 z4:=Tryz.sizeOf4
 v4:=Tryz.zeroValue4
 t5:=Tryz.underlying5
 a5:=Tryz.isAgg5
 z5:=Tryz.sizeOf5
 v5:=Tryz.zeroValue5
 t9:=Tryz.underlying9
 a9:=Tryz.isAgg9
 z9:=Tryz.sizeOf9
 v9:=Tryz.zeroValue9
 t20:=Tryz.underlying20
 a20:=Tryz.isAgg20
 z20:=Tryz.sizeOf20
 v20:=Tryz.zeroValue20
 t37:=Tryz.underlying50
 a37:=Tryz.isAgg50
 z37:=Tryz.sizeOf50
 v37:=Tryz.zeroValue50
 t46:=Tryz.underlying234
 a46:=Tryz.isAgg234
 z46:=Tryz.sizeOf234
 v46:=Tryz.zeroValue234
 t51:=Tryz.underlying250
 a51:=Tryz.isAgg250
 z51:=Tryz.sizeOf250
 v51:=Tryz.zeroValue250
 t53:=Tryz.underlying242
 a53:=Tryz.isAgg242
 z53:=Tryz.sizeOf242
 v53:=Tryz.zeroValue242
 t171:=Tryz.underlying241
 a171:=Tryz.isAgg241
 z171:=Tryz.sizeOf241
 v171:=Tryz.zeroValue241
 t173:=Tryz.underlying245
 a173:=Tryz.isAgg245
 z173:=Tryz.sizeOf245
 v173:=Tryz.zeroValue245
 t212:=Tryz.underlying257
 a212:=Tryz.isAgg257
 z212:=Tryz.sizeOf257
 v212:=Tryz.zeroValue257
 t213:=Tryz.underlying258
 a213:=Tryz.isAgg258
 z213:=Tryz.sizeOf258
 t232:=Tryz.underlying264
 a232:=Tryz.isAgg264
 z232:=Tryz.sizeOf264
 v232:=Tryz.zeroValue264
 t233:=Tryz.underlying265
 a233:=Tryz.isAgg265
 z233:=Tryz.sizeOf265
 v233:=Tryz.zeroValue265
 g17:=by kernel_rfl
 g18:=by kernel_rfl
 g19:=by kernel_rfl
 i0:=by kernel_rfl
 i2:=by kernel_rfl
 i3:=by kernel_rfl
 i4:=by kernel_rfl
 i5:=by kernel_rfl
 i9:=by kernel_rfl
 i20:=by kernel_rfl
 i37:=by kernel_rfl
 i46:=by kernel_rfl
 i51:=by kernel_rfl
 i53:=by kernel_rfl
 i171:=by kernel_rfl
 i173:=by kernel_rfl
 i212:=by kernel_rfl
 i232:=by kernel_rfl
 i233:=by kernel_rfl
 m17:=by kernel_rfl
 m18:=by kernel_rfl
 m19:=by kernel_rfl }
open Go.RowKit Go.Sort Go.Lib in
theorem Tryz.strconv_FormatInt_10 (n:Int) (h0:-9223372036854775808<=n) (h1:n<=9223372036854775807) (w:World) (htab:Lib.TabIs prg w "internal/strconv.uint64pow10" .u64 Lib.pow10Tab) :
 Calls prg 138 #[.int .i64 n,.int .i64 10] w λe w'=>e=.returned (.string ⟨(Lib.itoa n).toArray⟩)/\∃ k os,w'=grow (w.drewN k) os:=Any.strconv_FormatInt_10 Tryz.laysM173 n h0 h1 w htab
def Tryz.lays219_ren:Go.Shelf.Ren:=⟨λ| 219=>145 | 217=>175 | 225=>176 | 224=>177 | 267=>178 | 266=>197 | 314=>198 | n=>n,λ| 9=>9 | 3=>3 | 4=>4 | 5=>5 | 46=>234 | 146=>251 | 51=>250 | n=>n,λ| 1=>4 | n=>n⟩
theorem Tryz.lays219:Go.Proofs.Lays.n219 prg Tryz.lays219_ren:={
 mixed:=by kernel_rfl
 f217:=Tryz.func175.trans (congrArg some (by kernel_rfl))
 f219:=Tryz.func145.trans (congrArg some (by kernel_rfl))
 f224:=Tryz.func177.trans (congrArg some (by kernel_rfl))
 f225:=Tryz.func176.trans (congrArg some (by kernel_rfl))
 f266:=Tryz.func197.trans (congrArg some (by kernel_rfl))
 f267:=Tryz.func178.trans (congrArg some (by kernel_rfl))
 f314:=Tryz.func198.trans (congrArg some (by kernel_rfl))
 t3:=Tryz.underlying3
 a3:=Tryz.isAgg3
 z3:=Tryz.sizeOf3
 v3:=Tryz.zeroValue3
 t4:=Tryz.underlying4
 a4:=Tryz.isAgg4
 z4:=Tryz.sizeOf4
 v4:=Tryz.zeroValue4
 t5:=Tryz.underlying5
 a5:=Tryz.isAgg5
 z5:=Tryz.sizeOf5
 v5:=Tryz.zeroValue5
 t9:=Tryz.underlying9
 a9:=Tryz.isAgg9
 z9:=Tryz.sizeOf9
 v9:=Tryz.zeroValue9
 t46:=Tryz.underlying234
 a46:=Tryz.isAgg234
 z46:=Tryz.sizeOf234
 v46:=Tryz.zeroValue234
 t51:=Tryz.underlying250
 a51:=Tryz.isAgg250
 z51:=Tryz.sizeOf250
 v51:=Tryz.zeroValue250
 t146:=Tryz.underlying251
 a146:=Tryz.isAgg251
 z146:=Tryz.sizeOf251
 v146:=Tryz.zeroValue251
 g1:=by kernel_rfl }
open Go.RowKit Go.Lib in
theorem Tryz.stringslite_Index_one (s:ByteArray) (c:UInt8) (w:World) :
 Calls prg 145 #[.string s,.string ⟨#[c]⟩] w λe w'=>e=.returned (.int .i64 (Lib.indexByte s.data.toList c))/\w'=w:=Any.stringslite_Index_one Tryz.lays219 s c w
end Go.Proofs
