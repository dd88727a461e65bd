/- Texts of the proof, one behind the other. -/
import Derived.Test.YthhoebdlfjffkaaGreatDoorMh
set_option linter.all false
set_option maxRecDepth 100000
namespace Go.Proofs.YthhoebdlfjffkaaGreatDoor
mutual
def bH0:Ex->Str
 | .mk op nm n args=>match cE4 args with
  | []=>Ex.text (.mk op nm n [])
  | [b]=>if op=6 then nm++91::(b++[93]) else if op=7 then [104,97,115]++32::(nm++91::(b++[93]))
   else if op=9 then 45::32::40::(b++[41]) else [110,111,116]++32::40::(b++[41])
  | a::b::_=>40::(a++41::((cW op).tx++40::(b++[41])))
def cE4:List Ex->List Str
 | []=>[]
 | e::r=>bH0 e::cE4 r
end
def LxF (e:Ex):Prop:=∀ r ks,BD r->Lx r ks->Lx (bH0 e++r) (aO0 e++ks)/\hdB (bH0 e++r)
variable {r:Str} {ks:List Kt}
theorem LxF.par {e:Ex} (h:LxF e) (hr:hdB r) (hk:Lx r ks):Lx (40::(bH0 e++41::r)) (aB9 (aO0 e)++ks):=by
 obtain ⟨k1,k2⟩:=h (41::r) ((4,[41])::ks) aX3 (.sy (by decide) hr hk);have e2:aB9 (aO0 e)++ks=(4,[40])::(aO0 e++(4,[41])::ks):=by simp [aB9]
 rw [e2];exact .sy (by decide) k2 k1
end Go.Proofs.YthhoebdlfjffkaaGreatDoor
/- Plain: the canonical text of an expression in additional parentheses is read back. -/
namespace Go.Proofs.YthhoebdlfjffkaaGreatDoor
end Go.Proofs.YthhoebdlfjffkaaGreatDoor
/- Plain: a fleet's text that is cut off, or goes on. -/
namespace Go.Proofs.YthhoebdlfjffkaaGreatDoor
variable {r:Str} {n:Nat}
theorem aK0 {c:UInt8} {k:UInt8} (h:bK (c::r)=(k,n)) (h5:k≠5) :
 (rV c=true/\n=pre kY (c::r)/\(if words.contains ((c::r).take n) then (2:UInt8) else if n<=12 then 1 else 5)=k) \/
 (rV c=false/\kK c=true/\n=pre kK (c::r)/\(n=1\/c≠48)/\k=3) \/
 (rV c=false/\kK c=false/\k=4/\∃ y,symbols.find? (λx=>x.isPrefixOf (c::r))=some y/\n=y.length):=by
 cases h1:rV c with
 | true =>
  refine .inl ⟨Z,?_⟩;cases h4:words.contains ((c::r).take (pre kY (c::r))) with
  | true =>
   simp only [bK,aG,h1,h4,aN,nQ] at h;obtain ⟨rfl,rfl⟩:=h;exact ⟨Z,by rw [h4];rfl⟩
  | false =>
   by_cases h6:pre kY (c::r)<=12
   ·simp only [bK,aG,h1,h4,h6,aN,aC,aL,nQ] at h;obtain ⟨rfl,rfl⟩:=h;exact ⟨Z,by rw [h4,aA (by decide),aE h6]⟩
   ·simp only [bK,aG,h1,h4,h6,aN,aC,aL,nQ] at h;exact absurd h.1.symm h5
 | false =>
  cases h4:kK c with
  | true =>
   by_cases h6:pre kK (c::r)=1\/c≠48
   ·simp only [bK,aG,h1,h4,h6,aN,aC,aL,nQ] at h;obtain ⟨rfl,rfl⟩:=h;exact .inr (.inl ⟨Z,Z,Z,h6,Z⟩)
   ·simp only [bK,aG,h1,h4,h6,aN,aC,aL,nQ] at h;exact absurd h.1.symm h5
  | false =>
   cases hx:symbols.find? (λx=>x.isPrefixOf (c::r)) with
   | none =>
    simp only [bK,aG,h1,h4,hx,aC,aL,nQ] at h;exact absurd h.1.symm h5
   | some y =>
    simp only [bK,aG,h1,h4,hx,aC,aL,nQ] at h;obtain ⟨rfl,rfl⟩:=h;exact .inr (.inr ⟨Z,Z,Z,y,Z,Z⟩)
variable {w:Str}
theorem MF {q:UInt8->Bool} (h:pre q (w++r)=w.length):w.all q=true/\∀ d,r.head? = some d->q d=false:=by
 induction w with
 | nil =>
  refine ⟨Z,λd hd=>?_⟩;cases r with
  | nil=>cases hd
  | cons e r =>
   obtain rfl:e=d:=aW hd;cases hq:q e with
   | false=>rfl
   | true =>
    rw [bU] at h;unfold pre at h;rw [fW,hq] at h;simp at h
 | cons a w ih =>
  rw [aR] at h;unfold pre at h;rw [fW] at h;cases hq:q a with
  | false=>rw [hq] at h;simp at h
  | true =>
   rw [hq] at h;have:=ih (by unfold pre;simpa using h);exact ⟨by rw [sS,hq,this.1];rfl,this.2⟩
theorem aO6 {α:Type} {p q:α->Bool}:∀ {l:List α},(∀ x∈l,p x=q x)->l.find? p=l.find? q
 | [],_=>rfl
 | a::l,h=>by
  rw [List.find?_cons,List.find?_cons,h a (by simp),aO6 λx hx=>h x (gA _ hx)]
theorem bK2:∀ w∈symbols,w≠[]/\rV (w.headD 0)=false/\kK (w.headD 0)=false/\oV (w.headD 0)=false/\w.take 2≠[47,47]/\w.all (λc=>!oV c)=true/\w.length<=2/\symbols.find? (λx=>x.isPrefixOf w)=some w:=by decide +kernel
theorem aV6 {z a b:Str} (hz:z.length<=2) (h:a.take 2=b.take 2):z.isPrefixOf a=z.isPrefixOf b:=by
 have key:∀ (m:Str),z.isPrefixOf m=z.isPrefixOf (m.take 2):=by
  intro m
  match z,hz,m with
  | [],_,m=>simp [List.isPrefixOf]
  | [x],_,[]=>rfl
  | [x],_,[y]=>rfl
  | [x],_,y::u::m=>rfl
  | [x,x'],_,[]=>rfl
  | [x,x'],_,[y]=>rfl
  | [x,x'],_,y::u::m=>rfl
 rw [key a,key b,h]
theorem Tok.tail {x:Kt} {d:UInt8} {r':Str} (h:Tok x (d::r)):Tok x (d::r'):=by
 obtain ⟨k,w⟩:=x;have hne:=h.ne
 match w,hne with
 | c::t,hne =>
  have hrd:bK (c::(t++d::r))=(k,(c::t).length):=h.read;have htk:(c::(t++d::r)).take (c::t).length=c::t:=by rw [<-aR,oQ]
  have h2t:((c::t)++d::r).take 2=((c::t)++d::r').take 2:=by
   cases t with
   | nil=>rfl
   | cons b t=>rfl
  have hsk:fZ false ((c::t)++d::r')=(c::t)++d::r':=by
   have h0:fZ false (c::(t++d::r))=c::(t++d::r):=h.skip;rw [fZ] at h0
   have hb:oV c=false:=by
    cases e:oV c with
    | false=>rfl
    | true =>
     rw [aE e] at h0;have h1:=congrArg List.length h0;have h2:=qQ false (t++d::r);rw [aH] at h1;omega
   rw [aA (by rw [hb];decide)] at h0;refine xS hb λe=>?_;have e2:(t++d::r').head? = (t++d::r).head? := by cases t <;> rfl
   have e1:c=47/\(t++d::r').head? = some 47:=e;rw [e2] at e1;rw [aE e1] at h0;have h1:=congrArg List.length h0;have h2:=qQ true (t++d::r);rw [aH] at h1;omega
  refine ⟨h.ne,?_,hsk,h.k5,h.sh⟩;show bK ((c::t)++d::r')=(k,(c::t).length);rcases aK0 hrd h.k5 with ⟨h1,h2,h3⟩ | ⟨h1,h2,h3,h4,h5⟩ | ⟨h1,h2,h3,y,h4,h5⟩
  ·have ha:=MF (w:=c::t) (r:=d::r) h2.symm;have hp:pre kY ((c::t)++d::r')=(c::t).length:=IK ha.1 λe he=>ha.2 e he;rw [htk] at h3;unfold bK;simp only;rw [show ((c::t)++d::r').headD 0=c from rfl,h1,aE rfl,hp,oQ]
   split at h3
   ·rename_i e;rw [aE e,<-h3]
   ·rename_i e;rw [aA e]
    split at h3
    ·rename_i e2;rw [aE e2,<-h3]
    ·exact absurd h3.symm h.k5
  ·obtain rfl:k=3:=h5;have ha:=MF (w:=c::t) (r:=d::r) h3.symm;have hp:pre kK ((c::t)++d::r')=(c::t).length:=IK ha.1 λe he=>ha.2 e he;unfold bK;simp only;rw [show ((c::t)++d::r').headD 0=c from rfl,h1,aA (by decide),h2,aE rfl,hp];exact aE h4
  ·obtain rfl:k=4:=h3
   have hf:symbols.find? (λx=>x.isPrefixOf ((c::t)++d::r'))=some y:=by
    rw [<-h4];exact aO6 λx hx=>aV6 (bK2 x hx).2.2.2.2.2.2.1 h2t.symm
   unfold bK;simp only;rw [show ((c::t)++d::r').headD 0=c from rfl,h1,h2,hf];simp [<-h5]
def dF6 (k:List Kt):Prop:=∀ x∈k,∃ r,Tok x r
theorem Lx.tokL {s:Str} {k:List Kt} (h:Lx s k):dF6 k:=by
 induction h with
 | nil=>intro x hx;cases hx
 | blk _ _ ih=>exact ih
 | @tok x s k ht _ ih =>
  intro y hy;rcases bJ.1 hy with rfl | hy
  ·exact ⟨_,ht⟩
  ·exact ih y hy
theorem Lx.size {s:Str} {k:List Kt} (h:Lx s k):(k.map λx=>x.2.length).sum<=s.length/\k.length<=(k.map λx=>x.2.length).sum:=by
 induction h with
 | nil=>simp
 | blk _ _ ih=>simp only [aH];omega
 | @tok x s k ht _ ih =>
  have:=tI.2 ht.ne;simp only [dT,List.sum_cons,aH,aD];omega
def EO:List Str->Str
 | []=>[]
 | w::ws=>w++32::EO ws
theorem IE:∀ (ws:List Str) (w:Str),EO (ws++[w])=EO ws++(w++[32])
 | [],w=>by simp [EO]
 | v::ws,w=>by simp only [aR,EO,IE ws w,aQ]
theorem aH2 {f:Ft} (h:kA f=0):∀ x∈sE (ftT f),x.t.length<=1000000:=λx hx=>by
 have hm:kt x∈ftK f:=by rw [<-bK1 h];exact List.mem_map_of_mem hx
 obtain ⟨r,hr⟩:=(cT7 h).tokL _ hm;exact hr.sh
noncomputable def aT7 (f:Ft):List Str:=(sE (ftT f)).map (·.t)
theorem aT6 (f:Ft):(aT7 f).length<=(ftT f).length:=by unfold aT7;rw [aJ];exact CN _
theorem NW (ws:List Str) (h:∀ w∈ws,w.length<=1000000):(EO ws).length<=1000001 * ws.length:=by
 induction ws with
 | nil=>simp [EO]
 | cons w ws ih =>
  have h1:=ih λx hx=>h x (gA _ hx);have h2:=h w eE;simp only [EO,aD,aH,vO];omega
end Go.Proofs.YthhoebdlfjffkaaGreatDoor
namespace Go.Proofs.YthhoebdlfjffkaaGreatDoor
open Go.RowKit Go.Par Go.Sx Tryz
theorem bP5:mD prg 52=some [Go.Value.slice none 0 0]:=by kernel_rfl
variable {H H':Hp} {l:List Value}
theorem cK6 {s:Str} (h:dA H 1 [lU s] l) (hs:s.length<=1000000):dA H' 1 [lU s] l:=by
 obtain ⟨rfl,_⟩:=tL (aJ8 h);exact .single (vU hs) Z
theorem aU2 (H:Hp) (G:Gl H) (t:Str) (ht:t.length<=1000000000000) (hs:∀ x∈sE t,x.t.length<=1000000) (w:World) (hA:Agr H w) :
 Calls prg 18 #[cJ t] w λr w'=>∃ (v:Value) (H':Hp),Rep H' (.seq 1 (((sE t).map (·.t)).map lU)) [v]/\r=.returned v/\BX H w H' w':=by
 refine Sx.enterM (H:=H) func18 rfl ntmps18 rfl hA ?_;refine .sr<|.a Z Z<|.ns<|.al bP5 Z λb3=>.nt<|.sq<|.sm Z<|.ct (X:=Nat) ZR Z (λW s=>bG4 H t W s.agr) Z λb1 H1 m1 u1=>.nt<|.bk<|?_
 refine Sx.row0 9 1 ?_
 refine At.rfB (α:=TkS) (Z:=Value × Nat × List Value) (N:=t.length+1) (e:=9) (T:=52) (TX:=96) (size:=1) (p:=b3) (fx:=[]) (enc:=λx:TkS=>.agg (cTk .u8 x.1).toArray) (S:=λxs=>xs.map (·.1)=sE t)
  (λpre z=>z.2.1=pre.length/\dA H1 1 ((pre.map (·.1.t)).map lU) z.2.2) (λz=>z.1) (λz=>z.2.1) (λz=>z.2.2) (λ_=>[]) (.slice none 0 0,0,[])
  (λ_ b=>[(3,.pointer (some ⟨b3,0,none⟩)),(4,.pointer (some ⟨b,0,none⟩))]) (λx=>cTk .u8 x.1) rfl (λ_ _=>BS ZN) rfl (λw hA=>bG3 H1 (G.up u1.up) t (by omega) hs b1 m1 w hA) ⟨rfl,dA.nil⟩ rfl rfl ?_ ?_ ?_
 ·intro l x bs' K h;exact .rgI<|.alI IY Z λb=>.sWI .head Z Z FG (by simp [cTk,Value.oneCell',cJ]) Z<|.nlI<|.tN<|λa W f s=>h b a W (f.sub ⟨rfl,rfl,trivial⟩) s
 ·intro l' pre x z tl b H2 hC hlen u2 m2;obtain ⟨v,k,xs⟩:=z;obtain ⟨hk,hz⟩:=hC;dsimp only at hk hz|-;change At [] _ _ H2 w (.row 9 1 v k xs::.box b3 [v] 52::tl) _;refine At.ra Hm λpv cv ev=>?_;subst ev;refine .bkI<|.rgI<|.yvI (.load Z rD dN Z) Z<|.yvI (.fieldAddr Z tF) Z<|.yvI (.loadM Z bZ m2 (k:=1) Z Z) Z<|.blI Z (jY _) Z λb11=>?_
  refine dD λH3 u3 m3=>?_;refine .apDI qJ Z (λ_ _=>.head) Z (Rep.mk (n:=1) (c:=1) (ds:=[lU x.1.t]) m3 (.single (vU x.2) Z) Z (aK _) (by decide)) (by simp [maxLen];omega) (by omega) Z λxs12 r12 hz12=>?_;refine At.ra Hm λp12 c12 e12=>?_;subst e12;refine .stI fG Z Z JA Z (nb Z) Z<|.nlI<|.bN<|?_
  refine At.rE ((.slice p12 (k+1) c12,k+1,xs++xs12):Value × Nat × List Value) (u2.trans u3.up) ?_ rfl;exact ⟨by simp [hk],by rw [aV,aV];exact hz.app (cK6 hz12 x.2)⟩
 intro D ys z hS hC;obtain ⟨v,k,xs⟩:=z;obtain ⟨hk,hz⟩:=hC;dsimp only at hk hz|-;change At _ _ _ H1 w (.obj D (.deferred (some []))::.row 9 1 v k xs::.box b3 [v] 52::[]) _;refine .bN<|.tN<|.sr<|.lD Z rD fN Z<|.az Z<|?_
 refine At.pm [1,0,2] [_,_,_] rfl rfl ?_;have hz2:dA H1 1 (((sE t).map (·.t)).map lU) xs:=by rw [<-hS,BK (g:=λx:Tk=>x.t)];exact hz
 have hlen:(((sE t).map (·.t)).map lU).length=k:=by rw [aJ,aJ,<-hS,aJ,hk]
 refine dC hlen hz2 λH4 p4 c4 u4 e4 h4=>?_;refine Sx.retM (.inl rfl) .head ?_;refine y9 Z Z λW s=>⟨v,H4,h4,rfl,(u1.trans u4).grow s⟩
def mkC (M:Mk) (arV bv:Value) (left:Int):List Value:=[iN M.ints,iN M.tables,iN M.flags,iN M.own,arV,iN M.params,bv,.int .i64 left]
theorem IR (H:Hp) (a b:Nat) (w:World) (hA:Agr H w):Calls prg 64 #[iN a,iN b] w λr w'=>r=.returned (.int .i64 ((min a b:Nat):Int))/\Ext w w':=by
 refine Sx.enter (H:=H) func64 rfl ntmps64 rfl hA ?_;refine .sr<|.aq Z<|.sq<|.sm Z<|.mv Z<|.yw (.lss Z Z)<|.nt<|.ce Z (λh7=>?_) (λh7=>?_)
 ·refine .sm Z<|.az Z<|.tR<|?_
  refine y9 Z Z λW s=>⟨?_,s.ext⟩
  first
   | (rw [iA (by omega)])
   | (rw [wN (by omega)])
 refine .sk<|.tN<|.sm Z<|.az Z<|?_
 refine y9 Z Z λW s=>⟨?_,s.ext⟩
 first
  | (rw [iA (by omega)])
  | (rw [wN (by omega)])
theorem qS (H:Hp) (c:UInt8) (n:Nat) (hn:n<=100) (w:World) (hA:Agr H w):Calls prg 65 #[.int .u8 c.toNat,iN n] w λr w'=>∃ (v:Value) (H':Hp),Rep H' (.seq 1 ((zH c n).map lU)) [v]/\r=.returned v/\BX H w H' w':=by
 refine Sx.enter (H:=H) func65 rfl ntmps65 rfl hA ?_;refine .sr<|.a Z Z<|.ns<|.a Z Z<|?_
 refine Sx.row0 9 1 ?_;refine .nt<|.sq<|.sr<|.aq Z<|.bk<|.lp (X:=Nat × Value × List Value) [(0,_),(1,_)] ⟨Z,Z,Jt⟩ [] (λz=>[(5,z.2.1),(6,iN z.1)]) (λz=>H) (λz=>[.row 9 1 z.2.1 z.1 z.2.2]) (λz=>z.1<=n/\dA H 1 ((zH c z.1).map lU) z.2.2) (λz=>n - z.1) (0,.slice none 0 0,[]) (λ_ s=>s) ⟨Z,Z,Jt⟩ ⟨by omega,dA.nil⟩ λz hC=>?_
 obtain ⟨k,r,xs⟩:=z;dsimp only at hC|-;obtain ⟨hk0,hz⟩:=hC;refine .sq<|.sm Z<|.mv Z<|.yw (.lss Z Z)<|.nt<|.ce Z (λh9=>?_) (λh9=>?_)
 ·have hk:k<n:=by omega
  exact .sk<|.tN<|.sq<|.bk<|.rg<|.mv Z<|.mv Z<|.mv Z<|.yw (.add Z Z (c:=((48+k:Nat):Int)) ((w6 (by omega)).trans (by omega)))<|.yw (.conv Z tD xN (c:=(((UInt8.ofNat (48+k)).toNat:Nat):Int)) (by rw [show ((UInt8.ofNat (48+k)).toNat:Int)=((48+k:Nat):Int) by simp [uM];omega];simp only [IntKind.wrap,IntKind.signed,IntKind.bits];simp;omega))<|.bl Z (bC4 _ _) Z λb17=>.yw (.bytesStr (l:=nmB c k) bB9 eQ Z Z (.box Hm z0))<|.bl Z (jY _) Z λb19=>.ap (news:=[cJ (nmB c k)]) qJ Z (λ_=>fU) Z (.box Hm z0) Z (by simp [Value.oneCell',cJ]) (by simp [maxLen];omega) (by omega) Z λr20 _=>.a Z Z<|.nl<|.bN<|.tN<|.rg<|.mv Z<|.yw (.add Z Z w7)<|.aq Z<|.ag (x:=(k,r,xs)) (k+1,r20,xs++[cJ (nmB c k)]) ⟨Z,Z,Jt⟩ ⟨Z,Z,Jt⟩ (λ_ s=>(s.pick [2] _ Z Z)) ⟨by dsimp only;omega,by dsimp only;rw [aL9,aV];exact hz.snoc (bX8 (by simp [nmB])) Z⟩ (by dsimp only;omega)
 obtain rfl:k=n:=by omega
 refine .ex<|.eb<|.sm Z<|.az Z<|?_
 refine At.pm [0] [_] rfl rfl ?_;refine dC (ds:=(zH c k).map lU) (by simp [lK]) hz λH3 p3 c3 u3 hr3 hs3=>?_;exact y9 Z Z λW t=>⟨r,H3,hs3,Z,u3.grow t⟩
theorem bD3 {c:UInt8} {cs:List Value} (h:Rep H (dU8 c) cs):cs=[.int .u8 c.toNat]:=by unfold dU8 Rep at h;exact h.1
variable {w0 W:World} {bs:List Res} {b:Nat} {M:Mk}
theorem tA {arV bv:Value} {left:Int} {by_:Bs} (n:Nat) (hn:0<n) (hb:Rep H (.seq 1 ((by_).map dU8)) [bv]) (s:St H w0 (.box b (mkC M arV bv left) 172::bs) W) :
 Calls prg 143 #[.pointer (some ⟨b,0,none⟩),iN n] W λe W'=>∃ z:Value,Rep H (.seq 1 (((bY by_ n).2).map dU8)) [z]/\e=.returned (iN ((bY by_ n).1))/\St H w0 (.box b (mkC M arV z left) 172::bs) W':=by
 obtain ⟨p,c,e,hlen,_⟩:=hb.sl;simp only [aT,bV,aJ] at e;subst e;rw [aJ] at hlen;have hcap:=hb.cap;refine fD func143 rfl ntmps143 rfl s ?_;refine .sr<|.aq Z<|.sq<|.sm Z<|.nC Z<|.fA Z tY<|.lD Z sK Hm Z<|.yw (.lenSl AE Z)<|.yw (.eql Z Z)<|.nt<|.ce Z (λh11=>?_) (λh11=>?_)
 ·have h0:by_=[]:=cQ (by omega);subst h0;refine .sr<|.az Z<|.tR<|?_
  exact y9 Z Z λW t=>⟨_,hb,Z,t⟩
 obtain ⟨bE,oE,cE,hpE,rE,lE,mE⟩:=hb.elem (eL (f:=dU8) (show 0<by_.length by omega));subst hpE;obtain rfl:=bD3 rE
 obtain ⟨cB,rB,hby⟩:∃ cB rB,by_=cB::rB:=by
  match by_,hlen with
  | [],_=>simp at h11
  | cB::rB,_=>exact ⟨cB,rB,Z⟩
 subst hby;simp only [List.getElem_cons_zero] at mE;refine .sk<|.tN<|.sm Z<|.nC Z<|.fA Z tY<|.lD Z sK Hm Z<|.yw (.indexSl AE Z Z (i:=0) Z (by omega) (q:=oE+0 * 1) (by omega))<|.yw (.loadM Z xP mE (k:=0) Z Z)<|.yw (.conv Z xN tD (c:=((cB.toNat:Nat):Int)) (w64 (by have:=cB.toNat_lt;omega) (by have:=cB.toNat_lt;omega)))<|.a Z Z<|.ns<|.mv Z<|.mv Z<|.nC Z<|.fA Z tY<|.lD Z sK Hm Z<|.yw (.cutLo AE Z Z (lo:=1) Z (by omega) hb.len.2.1)<|.nC Z<|.fA Z tY<|.st (l':=mkC M arV _ left) .head Z Z JB Z (nb Z) Z<|.ns<|.mv Z<|.mv Z<|.yw (.rem Z Z (by omega) (c:=((cB.toNat % n:Nat):Int)) (by rw [dV (by omega)];omega))<|.az Z<|?_
 exact y9 Z Z λW t=>⟨_,GV hb (lo:=1) (by omega),Z,t⟩
def okM (M:Mk):Prop:=0<M.ints/\M.ints<=3/\M.params<=2/\M.flags<=2
variable {n k:Nat}
theorem yO {c:UInt8} {cp:Nat} {p:Option Addr} (h:Rep H (.seq 1 ((zH c n).map lU)) [.slice p n cp]) (hk:k<n):∃ b o,p=some ⟨b,o,none⟩/\lB H b (o+k * 1) [cJ (nmB c k)]:=by
 obtain ⟨b,o,cs,e,r,l,m⟩:=h.elem (i:=k) (d:=lU (nmB c k)) (by rw [List.getElem?_map,bM8 hk];rfl);obtain ⟨rfl,_⟩:=tL r;exact ⟨b,o,e,m⟩
theorem KY {arV bv:Value} {left:Int} {by_:Bs} (hM:okM M) (hb:Rep H (.seq 1 ((by_).map dU8)) [bv]) (s:St H w0 (.box b (mkC M arV bv left) 172::bs) W) :
 Calls prg 162 #[.pointer (some ⟨b,0,none⟩)] W λe W'=>∃ z:Value × Hp,(HUp w0 H z.2/\Rep z.2 (.seq 1 (((bY by_ M.ints).2).map dU8)) [z.1])/\e=.returned (cJ (nmB 120 (bY by_ M.ints).1))/\St z.2 w0 (.box b (mkC M arV z.1 left) 172::bs) W':=by
 refine fD func162 rfl ntmps162 rfl s ?_;refine .sr<|.aq Z<|.sq<|.fL 9 [(1,0),(2,0),(3,0),(4,0),(5,0),(0,1),(6,2),(7,0),(8,0)]<|.mv Z<|.mv Z<|.nC Z<|.fA Z WK<|.lD Z dZ Hm Z<|.ct (X:=Value) qT Z (λW s=>qS H 120 3 (by omega) W s.agr) Z λv3 H3 hn3 u3=>?_
 obtain ⟨pn3,cn3,e3,_⟩:=hn3.sl;simp only [aT,bV,aJ,lK] at e3;subst e3;obtain ⟨bE,oE,hpE,mE⟩:=yO hn3 (k:=(bY by_ M.ints).1) (by have:=jB by_ hM.1;have:=hM.2.1;omega);subst hpE;refine .cs (X:=Value) lX Z (λW s=>tA M.ints hM.1 (hb.up u3.up)  (s.p1_1 [0] Z)) Z λz9 hz9=>.yw (.indexSl dR Z Z (i:=(bY by_ M.ints).1) Z (by have:=jB by_ hM.1;have:=hM.2.1;omega) (q:=oE+(bY by_ M.ints).1 * 1) Z)<|.yw (.loadM Z bZ mE (k:=0) Z Z)<|.fn (tl:=[_]) Z<|.az Z<|?_
 exact y9 Z Z λW t=>⟨(z9,H3),⟨u3,hz9⟩,Z,(t.p1_1 [0] rfl)⟩
def cH8 (rec:Bs->Ex × Bs) (M:Mk) (d:Nat):Prop:=∀ (H:Hp) (w0 W:World) (bs:List Res) (b:Nat) (arV bv:Value) (left:Int) (by_:Bs),Rep H (.seq 1 ((by_).map dU8)) [bv]->St H w0 (.box b (mkC M arV bv left) 172::bs) W ->
 Calls prg 160 #[.pointer (some ⟨b,0,none⟩),iN d] W λe W'=>∃ z:List Value × Value × Hp,(HUp w0 H z.2.2/\Rep z.2.2 (dEx .i64 (rec by_).1) z.1/\Rep z.2.2 (.seq 1 (((rec by_).2).map dU8)) [z.2.1])/\e=.returned (.agg z.1.toArray)/\St z.2.2 w0 (.box b (mkC M arV z.2.1 left) 172::bs) W'
theorem cL6 (h:n<9):Rep H (dEx .i64 (.mk 1 [] (Int64.ofNat n) [])) [.int .i64 1,cJ [],iN n,.slice none 0 0]:=by
 have e:(Int64.ofNat n).toInt=(n:Int):=by
  have key:∀ i∈List.range 9,(Int64.ofNat i).toInt=(i:Int):=by decide
  exact key n (bQ.2 h)
 have:=iE (H:=H) (k:=.i64) (op:=1) (nm:=[]) (n:=Int64.ofNat n) (args:=[]) (s:=.slice none 0 0) (by decide) (Rep.empty (by decide));rw [e] at this;exact this
theorem cW3 (h:k<6):[Value.int .i64 14,.int .i64 15,.int .i64 11,.int .i64 12,.int .i64 13,.int .i64 14][k]? = some (.int .i64 (([14,15,11,12,13,14]:List UInt8).getD k 14).toNat):=by
 match k,h with
 | 0,_=>rfl
 | 1,_=>rfl
 | 2,_=>rfl
 | 3,_=>rfl
 | 4,_=>rfl
 | 5,_=>rfl
theorem QD (M:Mk) (hM:okM M) (d:Nat) (hd:d<=3) (rec:Bs->Ex × Bs) (hrec:d<=2->cH8 rec M (d+1)):cH8 (cM8 M d rec) M d:=by
 intro H w0 W bs b arV bv left by_ hb s;unfold cM8;refine fD func160 rfl ntmps160 rfl s ?_;refine .sr<|.al jW Z λb4=>.ns<|.mv Z<|.cs (X:=Value) lX Z (λW s=>tA 12 (by decide) hb  (s.p2_2 [1,0] Z)) Z λz9 hz9=>?_
 have hk12:=jB by_ (n:=12) (by decide);generalize (bY by_ 12).1=k at hk12|-;generalize (bY by_ 12).2=b1 at hz9|-;refine .aq Z<|.cu (X:=Unit) [(0,_),(1,_),(4,_)] ⟨Z,Z,Z,Jt⟩ (λz=>[]) (λz=>H) (λz=>(.box b (mkC M arV z9 left) 172::.box b4 [.int .i64 0,.string ⟨#[]⟩,.int .i64 0,.slice none 0 0] 33::bs)) (λz=>¬ (k<2\/(2<d/\5<k))/\¬ (k<4\/(k=4/\M.params=0))/\¬ k=4/\¬ k=5/\¬ (k=6/\0<M.tables)/\¬ (k=7/\0<M.tables)/\¬ k=8) ?_ λz hC=>?_
 ·
  refine .bk<|.cu (X:=Bool) [(0,_),(1,_),(4,_),(5,_)] ⟨Z,Z,Z,Z,Jt⟩ (λz=>[(10,.bool z)]) (λz=>H) (λz=>(.box b (mkC M arV z9 left) 172::.box b4 [.int .i64 0,.string ⟨#[]⟩,.int .i64 0,.slice none 0 0] 33::bs)) (λz=>z=decide (k<2\/(2<d/\5<k))) ?_ λz hC=>?_
  ·
   refine .rg<|.mv Z<|.yw (.lss Z Z)<|.mv Z<|.e2 (λh13=>?_) (λh13=>?_)
   ·exact .gG<|.gG<|.gG<|.gV<|.gV<|.gG<|.yw (.pickT Z Z)<|.aq Z<|.me _ ⟨Z,Jt⟩ ⟨Z,Z,Z,Z,Jt⟩ (λ_ s=>s) (by rw [bD,aB];first | (rw [aB];omega) | exact ⟨λ_=>by omega,λ_=>rfl⟩ | exact ⟨λh=>(by cases h),λh=>by omega⟩)
   refine .gy (.move Z)<|.gy (.gtr Z Z)<|.gy (.move Z)<|.e2 (λh16=>?_) (λh16=>?_)
   ·exact .gy (.move Z)<|.gy (.gtr Z Z)<|.gy (.pickT Z Z)<|.yw (.pickF Z Z)<|.aq Z<|.me _ ⟨Z,Jt⟩ ⟨Z,Z,Z,Z,Jt⟩ (λ_ s=>s) (by rw [bD,aB];first | (rw [aB];omega) | exact ⟨λ_=>by omega,λ_=>rfl⟩ | exact ⟨λh=>(by cases h),λh=>by omega⟩)
   exact .gG<|.gG<|.gy (.pickF Z Z)<|.yw (.pickF Z Z)<|.aq Z<|.me _ ⟨Z,Jt⟩ ⟨Z,Z,Z,Z,Jt⟩ (λ_ s=>s) (by rw [bD,aB];first | (rw [aB];omega) | exact ⟨λ_=>by omega,λ_=>rfl⟩ | exact ⟨λh=>(by cases h),λh=>by omega⟩)
  have e10:=hC;refine .cd Z (λh10=>?_) (λh10=>?_)
  ·have q10:k<2\/(2<d/\5<k):=by rw [h10] at e10;exact dF e10.symm
   refine .sm Z<|.cs (X:=Value) lX Z (λW s=>tA 9 (by decide) hz9  (s.p2_2 [0,1] Z)) Z λz22 hz22=>.yw (.build Z (NM _ _))<|.sX fG Z Z eI Z<|.zR<|?_
   exact y8 Z (.cell Z dM dN rfl) λW t=>⟨(_,_,H),by rw [show EA M d rec k b1=_ from by rw [EA,aE (by omega)]];exact ⟨.refl,cL6 (jB _ (by decide)),hz22⟩,Z,(t.p2_1 [0] rfl)⟩
  have q10:¬ (k<2\/(2<d/\5<k)):=by rw [h10] at e10;exact cY e10.symm
  refine .cu (X:=Bool) [(0,_),(1,_),(4,_),(5,_)] ⟨Z,Z,Z,Z,Jt⟩ (λz=>[(24,.bool z)]) (λz=>H) (λz=>(.box b (mkC M arV z9 left) 172::.box b4 [.int .i64 0,.string ⟨#[]⟩,.int .i64 0,.slice none 0 0] 33::bs)) (λz=>z=decide (k<4\/(k=4/\M.params=0))) ?_ λz hC=>?_
  ·
   refine .rg<|.mv Z<|.yw (.lss Z Z)<|.mv Z<|.e2 (λh27=>?_) (λh27=>?_)
   ·exact .gG<|.gG<|.gG<|.gV<|.gV<|.gV<|.gV<|.gV<|.gG<|.yw (.pickT Z Z)<|.aq Z<|.me _ ⟨Z,Jt⟩ ⟨Z,Z,Z,Z,Jt⟩ (λ_ s=>s) (by rw [bD,aB];first | (rw [aB];omega) | exact ⟨λ_=>by omega,λ_=>rfl⟩ | exact ⟨λh=>(by cases h),λh=>by omega⟩)
   refine .gy (.move Z)<|.gy (.eql Z Z)<|.gy (.move Z)<|.e2 (λh30=>?_) (λh30=>?_)
   ·exact .gy (.move Z)<|.gy (.nilCheck Z)<|.gy (.fieldAddr Z AH)<|.gy (.load Z dZ Hm Z)<|.gy (.eql Z Z)<|.gy (.pickT Z Z)<|.yw (.pickF Z Z)<|.aq Z<|.me _ ⟨Z,Jt⟩ ⟨Z,Z,Z,Z,Jt⟩ (λ_ s=>s) (by rw [bD,aB];first | (rw [aB];omega) | exact ⟨λ_=>by omega,λ_=>rfl⟩ | exact ⟨λh=>(by cases h),λh=>by omega⟩)
   exact .gG<|.gG<|.gG<|.gG<|.gG<|.gy (.pickF Z Z)<|.yw (.pickF Z Z)<|.aq Z<|.me _ ⟨Z,Jt⟩ ⟨Z,Z,Z,Z,Jt⟩ (λ_ s=>s) (by rw [bD,aB];first | (rw [aB];omega) | exact ⟨λ_=>by omega,λ_=>rfl⟩ | exact ⟨λh=>(by cases h),λh=>by omega⟩)
  have e24:=hC;refine .cd Z (λh24=>?_) (λh24=>?_)
  ·have q24:k<4\/(k=4/\M.params=0):=by rw [h24] at e24;exact dF e24.symm
   refine .sm Z<|.cs (X:=Value × Hp) LN Z (λW s=>KY hM hz9  (s.p2_2 [0,1] Z)) Z λz39 hz39=>.yw (.build Z (rA _ _))<|.sX fG Z Z eI Z<|.zR<|?_
   exact y8 Z (.cell Z dM dN rfl) λW t=>⟨(_,_,z39.2),by rw [show EA M d rec k b1=_ from by rw [EA,aA (by omega),aE (by omega)]];exact ⟨hz39.1,iE (args:=[]) (by simp [nmB]) (Rep.empty (by decide)),hz39.2⟩,Z,(t.p2_1 [0] rfl)⟩
  have q24:¬ (k<4\/(k=4/\M.params=0)):=by rw [h24] at e24;exact cY e24.symm
  refine .sm Z<|.yw (.eql Z Z)<|.aq Z<|.ce Z (λh41=>?_) (λh41=>?_)
  ·refine .sq<|.fL 10 [(1,0),(2,0),(3,0),(4,0),(5,0),(0,1),(6,2),(7,0),(8,0),(9,0)]<|.mv Z<|.mv Z<|.nC Z<|.fA Z AH<|.lD Z dZ Hm Z<|.ct (X:=Value) qT Z (λW s=>qS H 112 2 (by omega) W s.agr) Z λv44 H44 hn44 u44=>?_
   obtain ⟨pn44,cn44,e44,_⟩:=hn44.sl;simp only [aT,bV,aJ,lK] at e44;subst e44;obtain ⟨bE,oE,hpE,mE⟩:=yO hn44 (k:=(bY b1 M.params).1) (by have:=jB b1 (n:=M.params) (by omega);have:=hM.2.2.1;omega);subst hpE;refine .cs (X:=Value) lX Z (λW s=>tA M.params (by omega) (hz9.up u44.up)  (s.p2_2 [0,1] Z)) Z λz50 hz50=>.yw (.indexSl dR Z Z (i:=(bY b1 M.params).1) Z (by have:=jB b1 (n:=M.params) (by omega);have:=hM.2.2.1;omega) (q:=oE+(bY b1 M.params).1 * 1) Z)<|.yw (.loadM Z bZ mE (k:=0) Z Z)<|.yw (.build Z (rA _ _))<|.fn (tl:=[_]) Z<|.sX fG Z Z eI Z<|.zR<|?_
   exact y8 Z (.cell Z dM dN rfl) λW t=>⟨(_,_,H44),by rw [show EA M d rec k b1=_ from by rw [EA,aA (by omega),aA (by omega),aE (by omega)]];exact ⟨u44,iE (args:=[]) (by simp [nmB]) (Rep.empty (by decide)),hz50⟩,Z,(t.p2_1 [0] rfl)⟩
  refine .sm Z<|.yw (.eql Z Z)<|.aq Z<|.ce Z (λh54=>?_) (λh54=>?_)
  ·refine .sr<|.yw (.build Z (DE _))<|.sX fG Z Z eI Z<|.zR<|?_
   exact y8 Z (.cell Z dM dN rfl) λW t=>⟨(_,_,H),by rw [show EA M d rec k b1=_ from by rw [EA,aA (by omega),aA (by omega),aA (by omega),aE (by omega)]];exact ⟨.refl,iE (args:=[]) (nm:=[]) (by decide) (Rep.empty (by decide)),hz9⟩,Z,(t.p2_1 [0] rfl)⟩
  refine .cu (X:=Bool) [(0,_),(1,_),(4,_),(5,_)] ⟨Z,Z,Z,Z,Jt⟩ (λz=>[(58,.bool z)]) (λz=>H) (λz=>(.box b (mkC M arV z9 left) 172::.box b4 [.int .i64 0,.string ⟨#[]⟩,.int .i64 0,.slice none 0 0] 33::bs)) (λz=>z=decide (k=6/\0<M.tables)) ?_ λz hC=>?_
  ·
   refine .rg<|.mv Z<|.yw (.eql Z Z)<|.mv Z<|.e2 (λh61=>?_) (λh61=>?_)
   ·exact .gy (.move Z)<|.gy (.nilCheck Z)<|.gy (.fieldAddr Z wV)<|.gy (.load Z dZ Hm Z)<|.gy (.gtr Z Z)<|.yw (.pickT Z Z)<|.aq Z<|.me _ ⟨Z,Jt⟩ ⟨Z,Z,Z,Z,Jt⟩ (λ_ s=>s) (by rw [bD,aB];first | (rw [aB];omega) | exact ⟨λ_=>by omega,λ_=>rfl⟩ | exact ⟨λh=>(by cases h),λh=>by omega⟩)
   exact .gG<|.gG<|.gG<|.gG<|.gG<|.yw (.pickF Z Z)<|.aq Z<|.me _ ⟨Z,Jt⟩ ⟨Z,Z,Z,Z,Jt⟩ (λ_ s=>s) (by rw [bD,aB];first | (rw [aB];omega) | exact ⟨λ_=>by omega,λ_=>rfl⟩ | exact ⟨λh=>(by cases h),λh=>by omega⟩)
  have e58:=hC;refine .cd Z (λh58=>?_) (λh58=>?_)
  ·have q58:k=6/\0<M.tables:=by rw [h58] at e58;exact dF e58.symm
   refine .sm Z<|.mv Z<|.yw (.add Z Z (c:=((d+1:Nat):Int)) ((w6 (by omega)).trans (by omega)))<|.cs (X:=List Value × Value × Hp) nA Z (λW s=>hrec (by omega) H w0 W _ b arV _ left b1 hz9  (s.p2_2 [0,1] Z)) Z λz71 hz71=>?_
   obtain ⟨x71,v71,H71⟩:=z71;obtain ⟨u71,r71,q71⟩:=hz71;dsimp only at u71 r71 q71|-;generalize hE71:(rec b1).1=e71 at r71;obtain ⟨op71,nm71,n71,a71⟩:=e71;obtain ⟨p71,c71,rfl,hs71,hl71⟩:=iR r71;refine .bl Z (fT _ _ _ _) Z λb72=>.yw (.build Z (HU _ _ _ _ _))<|.sX fU Z Z eI Z<|.zR<|?_
   refine At.pt (hd:=[_,_,_]) (tl:=bs) (hd':=[_,_,_]) [0,2,1] rfl rfl ?_;refine dD λHf uf mf=>?_;exact y8 Z (.cell Z dM Hm rfl) λW t=>⟨(_,_,Hf),by rw [show EA M d rec k b1=_ from by rw [EA,aA (by omega),aA (by omega),aA (by omega),aA (by omega),aE (by omega)],hE71];exact ⟨u71.trans uf,iE (nm:=[116,48]) (args:=[.mk op71 nm71 n71 a71]) (by decide) (Rep.mk (n:=1) (c:=1) mf (.single (r71.up uf.up) rfl) rfl (aK _) (by decide)),q71.up uf.up⟩,Z,t.drop⟩
  have q58:¬ (k=6/\0<M.tables):=by rw [h58] at e58;exact cY e58.symm
  refine .cu (X:=Bool) [(0,_),(1,_),(4,_),(5,_)] ⟨Z,Z,Z,Z,Jt⟩ (λz=>[(74,.bool z)]) (λz=>H) (λz=>(.box b (mkC M arV z9 left) 172::.box b4 [.int .i64 0,.string ⟨#[]⟩,.int .i64 0,.slice none 0 0] 33::bs)) (λz=>z=decide (k=7/\0<M.tables)) ?_ λz hC=>?_
  ·
   refine .rg<|.mv Z<|.yw (.eql Z Z)<|.mv Z<|.e2 (λh77=>?_) (λh77=>?_)
   ·exact .gy (.move Z)<|.gy (.nilCheck Z)<|.gy (.fieldAddr Z wV)<|.gy (.load Z dZ Hm Z)<|.gy (.gtr Z Z)<|.yw (.pickT Z Z)<|.aq Z<|.me _ ⟨Z,Jt⟩ ⟨Z,Z,Z,Z,Jt⟩ (λ_ s=>s) (by rw [bD,aB];first | (rw [aB];omega) | exact ⟨λ_=>by omega,λ_=>rfl⟩ | exact ⟨λh=>(by cases h),λh=>by omega⟩)
   exact .gG<|.gG<|.gG<|.gG<|.gG<|.yw (.pickF Z Z)<|.aq Z<|.me _ ⟨Z,Jt⟩ ⟨Z,Z,Z,Z,Jt⟩ (λ_ s=>s) (by rw [bD,aB];first | (rw [aB];omega) | exact ⟨λ_=>by omega,λ_=>rfl⟩ | exact ⟨λh=>(by cases h),λh=>by omega⟩)
  have e74:=hC;refine .cd Z (λh74=>?_) (λh74=>?_)
  ·have q74:k=7/\0<M.tables:=by rw [h74] at e74;exact dF e74.symm
   refine .sr<|.yw (.build Z (rA _ _))<|.sX fG Z Z eI Z<|.zR<|?_
   exact y8 Z (.cell Z dM dN rfl) λW t=>⟨(_,_,H),by rw [show EA M d rec k b1=_ from by rw [EA,aA (by omega),aA (by omega),aA (by omega),aA (by omega),aA (by omega),aE (by omega)]];exact ⟨.refl,iE (args:=[]) (nm:=[116,48]) (by decide) (Rep.empty (by decide)),hz9⟩,Z,(t.p2_1 [0] rfl)⟩
  have q74:¬ (k=7/\0<M.tables):=by rw [h74] at e74;exact cY e74.symm
  refine .sm Z<|.yw (.eql Z Z)<|.aq Z<|.ce Z (λh85=>?_) (λh85=>?_)
  ·refine .sm Z<|.mv Z<|.yw (.add Z Z w7)<|.cs (X:=List Value × Value × Hp) nA Z (λW s=>hrec (by omega) H w0 W _ b arV _ left b1 hz9  (s.p2_2 [0,1] Z)) Z λz91 hz91=>?_
   obtain ⟨x91,v91,H91⟩:=z91;obtain ⟨u91,r91,q91⟩:=hz91;dsimp only at u91 r91 q91|-;generalize hE91:(rec b1).1=e91 at r91;obtain ⟨op91,nm91,n91,a91⟩:=e91;obtain ⟨p91,c91,rfl,hs91,hl91⟩:=iR r91;refine .bl Z (fT _ _ _ _) Z λb92=>.yw (.build Z (qZ _ _ _ _))<|.sX fU Z Z eI Z<|.zR<|?_
   refine At.pt (hd:=[_,_,_]) (tl:=bs) (hd':=[_,_,_]) [0,2,1] rfl rfl ?_;refine dD λHf uf mf=>?_;exact y8 Z (.cell Z dM Hm rfl) λW t=>⟨(_,_,Hf),by rw [show EA M d rec k b1=_ from by rw [EA,aA (by omega),aA (by omega),aA (by omega),aA (by omega),aA (by omega),aA (by omega),aE (by omega)],hE91];exact ⟨u91.trans uf,iE (nm:=[]) (args:=[.mk op91 nm91 n91 a91]) (by decide) (Rep.mk (n:=1) (c:=1) mf (.single (r91.up uf.up) rfl) rfl (aK _) (by decide)),q91.up uf.up⟩,Z,t.drop⟩
  exact .sk<|.bN<|.tN<|.me () trivial ⟨Z,Z,Z,Jt⟩ (λ_ s=>s) (by omega)
 obtain ⟨hc1,hc2,hc3,hc4,hc5,hc6,hc7⟩:=hC;refine .sr<|.bl Z (QO _ _ _ _ _ _) Z λb94=>.mv Z<|.cs (X:=Value) lX Z (λW s=>tA 6 (by decide) hz9  (s.p3_3 [1,0,2] Z)) Z λz96 hz96=>.yw (.indexSl CU Z Z (i:=(bY b1 6).1) Z (by have:=jB b1 (n:=6) (by decide);omega) (q:=(bY b1 6).1) (by omega))<|.yw (.load (v:=.int .i64 (([14,15,11,12,13,14]:List UInt8).getD (bY b1 6).1 14).toNat) Z dZ dN (cW3 (jB b1 (n:=6) (by decide))))<|.a Z Z<|.ns<|.mv Z<|.mv Z<|.yw (.add Z Z w7)<|.cs (X:=List Value × Value × Hp) nA Z (λW s=>hrec (by omega) H w0 W _ b arV _ left (bY b1 6).2 hz96  (s.p3_3 [0,1,2] Z)) Z λz102 hz102=>?_
 obtain ⟨x102,v102,H102⟩:=z102;obtain ⟨u102,r102,q102⟩:=hz102;dsimp only at u102 r102 q102|-;generalize hE102:(rec (bY b1 6).2).1=e102 at r102;obtain ⟨op102,nm102,n102,a102⟩:=e102;obtain ⟨p102,c102,rfl,hs102,hl102⟩:=iR r102;refine .al jW Z λb7=>.sX .head Z Z eI Z<|.nt<|.sq<|.fL 8 [(0,0),(1,0),(2,0),(3,0),(4,0),(5,3),(6,1),(7,0)]<|.mv Z<|.yw (.loadW Z dM Hm Z)<|.mv Z<|.mv Z<|.yw (.add Z Z w7)<|.c3 (X:=List Value × Value × Hp) nA Z (λW s=>hrec (by omega) H102 w0 W _ b arV _ left (rec (bY b1 6).2).2 q102  (s.p4_4 [1,0,2,3] Z)) Z (λz108 hz108=>(.d3<|.yv (.loadW Z dM dN Z)<|.yv (.move Z)<|.nl)) λz108 hz108=>?_
 obtain ⟨x108,v108,H108⟩:=z108;obtain ⟨u108,r108,q108⟩:=hz108;dsimp only at u108 r108 q108|-;generalize hE108:(rec (rec (bY b1 6).2).2).1=e108 at r108;obtain ⟨op108,nm108,n108,a108⟩:=e108;obtain ⟨p108,c108,rfl,hs108,hl108⟩:=iR r108;refine .bl Z (yA _ _ _ _ _ _ _ _) Z λb109=>.yw (.build Z (qZ _ _ _ _))<|.fn (tl:=[_]) Z<|.sX QS Z Z eI Z<|.nt<|.rt<|?_
 refine At.pt (hd:=[_,_,_,_,_]) (tl:=bs) (hd':=[_,_,_]) [0,4,1] rfl rfl ?_;refine dD λHf uf mf=>?_;exact y8 Z (.cell Z dM Hm rfl) λW t=>⟨(_,_,Hf),by rw [show EA M d rec k b1=_ from by rw [EA,aA (by omega),aA (by omega),aA (by omega),aA (by omega),aA (by omega),aA (by omega),aA (by omega)],hE102,hE108];exact ⟨(u102.trans u108).trans uf,iE (nm:=[]) (args:=[.mk op102 nm102 n102 a102,.mk op108 nm108 n108 a108]) (by decide) (Rep.mk (n:=2) (c:=2) mf (dA.app (dA.single ((r102.up u108.up).up uf.up) rfl) (dA.single (r108.up uf.up) rfl)) rfl (aK _) (by decide)),q108.up uf.up⟩,Z,t.drop⟩
theorem yN (M:Mk) (hM:okM M):∀ f,f<=3->cH8 (pM M f) M (3 - f)
 | 0,_=>QD M hM 3 (by omega) _ (λh=>by omega)
 | f+1,hf=>by
  have e:3 - (f+1)=2 - f:=by omega
  rw [e];refine QD M hM (2 - f) (by omega) (pM M f) λ_=>?_;rw [show 2 - f+1=3 - f by omega];exact yN M hM f (by omega)
theorem xT {arV bv:Value} {left:Int} {by_:Bs} (hM:okM M) (n:Nat) (hn:n<=100) (hb:Rep H (.seq 1 ((by_).map dU8)) [bv]) (s:St H w0 (.box b (mkC M arV bv left) 172::bs) W) :
 Calls prg 161 #[.pointer (some ⟨b,0,none⟩),iN n] W λe W'=>∃ z:Value × Value × Hp,(HUp w0 H z.2.2/\(∃ xs,dA z.2.2 4 ((yJ M n by_).1.map (dEx .i64)) xs/\yP z.2.2 z.1 n xs/\(yJ M n by_).1.length=n)/\Rep z.2.2 (.seq 1 (((yJ M n by_).2).map dU8)) [z.2.1])/\e=.returned z.1/\St z.2.2 w0 (.box b (mkC M arV z.2.1 left) 172::bs) W':=by
 refine fD func161 rfl ntmps161 rfl s ?_;refine .sr<|.a Z Z<|.ns<|.a Z Z<|?_
 refine Sx.row0 33 4 ?_;refine .nt<|.sq<|.sr<|.aq Z<|.bk<|.lp (X:=Nat × Hp × Value × List Value × Value) [(0,_),(1,_)] ⟨Z,Z,Jt⟩ (bs) (λz=>[(5,z.2.2.1),(6,iN z.1)]) (λz=>z.2.1) (λz=>[.row 33 4 z.2.2.1 z.1 z.2.2.2.1,.box b (mkC M arV z.2.2.2.2 left) 172]) (λz=>z.1<=n/\HUp w0 H z.2.1/\∃ (es:List Ex) (b1:Bs),es.length=z.1/\dA z.2.1 4 (es.map (dEx .i64)) z.2.2.2.1/\Rep z.2.1 (.seq 1 ((b1).map dU8)) [z.2.2.2.2]/\yJ M n by_=(es++(yJ M (n - z.1) b1).1,(yJ M (n - z.1) b1).2)) (λz=>n - z.1) (0,H,.slice none 0 0,[],bv) (λ_ s=>s) ⟨Z,Z,Jt⟩ ⟨by dsimp only;omega,.refl,[],by_,Z,dA.nil,hb,Z⟩ λz hC=>?_
 obtain ⟨k,H1,r,xs,bv⟩:=z;dsimp only at hC|-;obtain ⟨hk0,u1,es,b1,hlen,hz,hb1,heq⟩:=hC;refine .sq<|.sm Z<|.mv Z<|.yw (.lss Z Z)<|.nt<|.ce Z (λh9=>?_) (λh9=>?_)
 ·have hk:k<n:=by omega
  refine .sk<|.tN<|.sq<|.bk<|.rg<|.mv Z<|.mv Z<|.cs (X:=List Value × Value × Hp) nA Z (λW s=>yN M hM 2 (by decide) H1 w0 W _ b arV _ left b1 hb1  (s.p2_2 [1,0] Z)) Z λz14 hz14=>?_
  obtain ⟨x14,v14,H14⟩:=z14;obtain ⟨u14,r14,q14⟩:=hz14;dsimp only at u14 r14 q14|-;generalize hE14:(pM M 2 b1).1=e14 at r14;obtain ⟨op14,nm14,n14,a14⟩:=e14;obtain ⟨p14,c14,rfl,hs14,hl14⟩:=iR r14;exact .bl Z (fT _ _ _ _) Z λb15=>.ap (news:=[.int .i64 op14.toNat,cJ nm14,.int .i64 n14.toInt,.slice p14 a14.length c14]) vJ Z (λ_=>fU) Z (.box Hm z0) Z (by simp [Value.oneCell',cJ]) (by simp [maxLen];omega) (by omega) Z λr16 _=>.a Z Z<|.nl<|.bN<|.tN<|.rg<|.mv Z<|.yw (.add Z Z w7)<|.aq Z<|.ag (x:=(k,H1,r,xs,bv)) (k+1,H14,r16,xs++[.int .i64 op14.toNat,cJ nm14,.int .i64 n14.toInt,.slice p14 a14.length c14],v14) ⟨Z,Z,Jt⟩ ⟨Z,Z,Jt⟩ (λ_ s=>(s.p3_2 [2,1] Z)) ⟨by dsimp only;omega,u1.trans u14,es++[.mk op14 nm14 n14 a14],(pM M 2 b1).2,by simp;omega,by dsimp only;rw [aV];exact (hz.up u14.up).snoc r14 Z,q14,by dsimp only;rw [heq,show n - k=(n - (k+1))+1 by omega,yJ,hE14,aQ];rfl⟩ (by dsimp only;omega)
 obtain rfl:k=n:=by omega
 rw [oW,yJ,aX] at heq;refine .ex<|.eb<|.sm Z<|.az Z<|?_
 refine At.pt (hd:=[_,_]) (tl:=bs) (hd':=[_,_]) [0,1] rfl rfl ?_;refine Sx.freezeAt λH3 u3 hs3=>?_;exact y9 Z Z λW t=>⟨(r,bv,H3),by rw [heq];exact ⟨u1.trans u3,⟨xs,hz.up u3.up,hs3,hlen⟩,hb1.up u3.up⟩,Z,t⟩
def cH6 (rec:Bs->Ex × Bs) (M:Mk) (d:Nat):Prop:=∀ (H:Hp) (w0 W:World) (bs:List Res) (b:Nat) (arV bv:Value) (left:Int) (by_:Bs),Rep H (.seq 1 ((by_).map dU8)) [bv]->St H w0 (.box b (mkC M arV bv left) 172::bs) W ->
 Calls prg 159 #[.pointer (some ⟨b,0,none⟩),iN d] W λe W'=>∃ z:List Value × Value × Hp,(HUp w0 H z.2.2/\Rep z.2.2 (dEx .i64 (rec by_).1) z.1/\Rep z.2.2 (.seq 1 (((rec by_).2).map dU8)) [z.2.1])/\e=.returned (.agg z.1.toArray)/\St z.2.2 w0 (.box b (mkC M arV z.2.1 left) 172::bs) W'
theorem op2 (h:n<2):(((2+UInt8.ofNat n).toNat:Nat):Int)=2+(n:Int):=by
 have key:∀ i∈List.range 2,(2+UInt8.ofNat i).toNat=2+i:=by decide
 have:=key n (bQ.2 h);omega
theorem cW4 (h:n<10):(((16+UInt8.ofNat n).toNat:Nat):Int)=16+(n:Int):=by
 have key:∀ i∈List.range 10,(16+UInt8.ofNat i).toNat=16+i:=by decide
 have:=key n (bQ.2 h);omega
theorem SE (M:Mk) (hM:okM M) (d:Nat) (hd:d<=2) (rec:Bs->Ex × Bs) (hrec:d<=1->cH6 rec M (d+1)):cH6 (cJ9 M d rec) M d:=by
 intro H w0 W bs b arV bv left by_ hb s;unfold cJ9;refine fD func159 rfl ntmps159 rfl s ?_;refine .sr<|.al jW Z λb4=>.ns<|.mv Z<|.cs (X:=Value) lX Z (λW s=>tA 10 (by decide) hb  (s.p2_2 [1,0] Z)) Z λz10 hz10=>?_
 have hk12:=jB by_ (n:=10) (by decide);generalize (bY by_ 10).1=k at hk12|-;generalize (bY by_ 10).2=b1 at hz10|-;refine .aq Z<|.cu (X:=Unit) [(0,_),(4,_)] ⟨Z,Z,Jt⟩ (λz=>[]) (λz=>H) (λz=>(.box b (mkC M arV z10 left) 172::.box b4 [.int .i64 0,.string ⟨#[]⟩,.int .i64 0,.slice none 0 0] 33::bs)) (λz=>¬ k=0/\¬ (k=1\/(1<d/\4<k))/\¬ (k=2/\0<M.flags)/\¬ (k=3/\0<M.tables)/\¬ k=5/\¬ (k=6\/k=7)) ?_ λz hC=>?_
 ·
  refine .bk<|.sm Z<|.yw (.eql Z Z)<|.aq Z<|.ce Z (λh11=>?_) (λh11=>?_)
  ·refine .sm Z<|.cs (X:=Value) lX Z (λW s=>tA 2 (by decide) hz10  (s.p2_2 [0,1] Z)) Z λz15 hz15=>.yw (.add Z Z (c:=(((2+UInt8.ofNat (bY b1 2).1).toNat:Nat):Int)) (by have:=jB b1 (n:=2) (by decide);rw [op2 this];exact (w6 (by omega)).trans (by omega)))<|.yw (.build Z (DE _))<|.sX fG Z Z eI Z<|.zR<|?_
   exact y8 Z (.cell Z dM dN rfl) λW t=>⟨(_,_,H),by rw [show FP M d rec k b1=_ from by rw [FP,aE (by omega)]];exact ⟨.refl,iE (args:=[]) (nm:=[]) (by decide) (Rep.empty (by decide)),hz15⟩,Z,(t.p2_1 [0] rfl)⟩
  refine .cu (X:=Bool) [(0,_),(1,_),(4,_),(5,_)] ⟨Z,Z,Z,Z,Jt⟩ (λz=>[(18,.bool z)]) (λz=>H) (λz=>(.box b (mkC M arV z10 left) 172::.box b4 [.int .i64 0,.string ⟨#[]⟩,.int .i64 0,.slice none 0 0] 33::bs)) (λz=>z=decide (k=1\/(1<d/\4<k))) ?_ λz hC=>?_
  ·
   refine .rg<|.mv Z<|.yw (.eql Z Z)<|.mv Z<|.e2 (λh21=>?_) (λh21=>?_)
   ·exact .gG<|.gG<|.gG<|.gV<|.gV<|.gG<|.yw (.pickT Z Z)<|.aq Z<|.me _ ⟨Z,Jt⟩ ⟨Z,Z,Z,Z,Jt⟩ (λ_ s=>s) (by rw [bD,aB];first | (rw [aB];omega) | exact ⟨λ_=>by omega,λ_=>rfl⟩ | exact ⟨λh=>(by cases h),λh=>by omega⟩)
   refine .gy (.move Z)<|.gy (.gtr Z Z)<|.gy (.move Z)<|.e2 (λh24=>?_) (λh24=>?_)
   ·exact .gy (.move Z)<|.gy (.gtr Z Z)<|.gy (.pickT Z Z)<|.yw (.pickF Z Z)<|.aq Z<|.me _ ⟨Z,Jt⟩ ⟨Z,Z,Z,Z,Jt⟩ (λ_ s=>s) (by rw [bD,aB];first | (rw [aB];omega) | exact ⟨λ_=>by omega,λ_=>rfl⟩ | exact ⟨λh=>(by cases h),λh=>by omega⟩)
   exact .gG<|.gG<|.gy (.pickF Z Z)<|.yw (.pickF Z Z)<|.aq Z<|.me _ ⟨Z,Jt⟩ ⟨Z,Z,Z,Z,Jt⟩ (λ_ s=>s) (by rw [bD,aB];first | (rw [aB];omega) | exact ⟨λ_=>by omega,λ_=>rfl⟩ | exact ⟨λh=>(by cases h),λh=>by omega⟩)
  have e18:=hC;refine .cd Z (λh18=>?_) (λh18=>?_)
  ·have q18:k=1\/(1<d/\4<k):=by rw [h18] at e18;exact dF e18.symm
   refine .sr<|.yw (.build Z (rA _ _))<|.sX fG Z Z eI Z<|.zR<|?_
   exact y8 Z (.cell Z dM dN rfl) λW t=>⟨(_,_,H),by rw [show FP M d rec k b1=_ from by rw [FP,aA (by omega),aE (by omega)]];exact ⟨.refl,iE (args:=[]) (nm:=[98,48]) (by decide) (Rep.empty (by decide)),hz10⟩,Z,(t.p2_1 [0] rfl)⟩
  have q18:¬ (k=1\/(1<d/\4<k)):=by rw [h18] at e18;exact cY e18.symm
  refine .cu (X:=Bool) [(0,_),(1,_),(4,_),(5,_)] ⟨Z,Z,Z,Z,Jt⟩ (λz=>[(30,.bool z)]) (λz=>H) (λz=>(.box b (mkC M arV z10 left) 172::.box b4 [.int .i64 0,.string ⟨#[]⟩,.int .i64 0,.slice none 0 0] 33::bs)) (λz=>z=decide (k=2/\0<M.flags)) ?_ λz hC=>?_
  ·
   refine .rg<|.mv Z<|.yw (.eql Z Z)<|.mv Z<|.e2 (λh33=>?_) (λh33=>?_)
   ·exact .gy (.move Z)<|.gy (.nilCheck Z)<|.gy (.fieldAddr Z KG)<|.gy (.load Z dZ Hm Z)<|.gy (.gtr Z Z)<|.yw (.pickT Z Z)<|.aq Z<|.me _ ⟨Z,Jt⟩ ⟨Z,Z,Z,Z,Jt⟩ (λ_ s=>s) (by rw [bD,aB];first | (rw [aB];omega) | exact ⟨λ_=>by omega,λ_=>rfl⟩ | exact ⟨λh=>(by cases h),λh=>by omega⟩)
   exact .gG<|.gG<|.gG<|.gG<|.gG<|.yw (.pickF Z Z)<|.aq Z<|.me _ ⟨Z,Jt⟩ ⟨Z,Z,Z,Z,Jt⟩ (λ_ s=>s) (by rw [bD,aB];first | (rw [aB];omega) | exact ⟨λ_=>by omega,λ_=>rfl⟩ | exact ⟨λh=>(by cases h),λh=>by omega⟩)
  have e30:=hC;refine .cd Z (λh30=>?_) (λh30=>?_)
  ·have q30:k=2/\0<M.flags:=by rw [h30] at e30;exact dF e30.symm
   refine .sq<|.fL 10 [(1,0),(2,0),(3,0),(4,0),(5,0),(0,1),(6,2),(7,0),(8,0),(9,0)]<|.mv Z<|.mv Z<|.nC Z<|.fA Z KG<|.lD Z dZ Hm Z<|.ct (X:=Value) qT Z (λW s=>qS H 102 2 (by omega) W s.agr) Z λv40 H40 hn40 u40=>?_
   obtain ⟨pn40,cn40,e40,_⟩:=hn40.sl;simp only [aT,bV,aJ,lK] at e40;subst e40;obtain ⟨bE,oE,hpE,mE⟩:=yO hn40 (k:=(bY b1 M.flags).1) (by have:=jB b1 (n:=M.flags) (by omega);have:=hM.2.2.2;omega);subst hpE;refine .cs (X:=Value) lX Z (λW s=>tA M.flags (by omega) (hz10.up u40.up)  (s.p2_2 [0,1] Z)) Z λz46 hz46=>.yw (.indexSl dR Z Z (i:=(bY b1 M.flags).1) Z (by have:=jB b1 (n:=M.flags) (by omega);have:=hM.2.2.2;omega) (q:=oE+(bY b1 M.flags).1 * 1) Z)<|.yw (.loadM Z bZ mE (k:=0) Z Z)<|.yw (.build Z (rA _ _))<|.fn (tl:=[_]) Z<|.sX fG Z Z eI Z<|.zR<|?_
   exact y8 Z (.cell Z dM dN rfl) λW t=>⟨(_,_,H40),by rw [show FP M d rec k b1=_ from by rw [FP,aA (by omega),aA (by omega),aE (by omega)]];exact ⟨u40,iE (args:=[]) (by simp [nmB]) (Rep.empty (by decide)),hz46⟩,Z,(t.p2_1 [0] rfl)⟩
  have q30:¬ (k=2/\0<M.flags):=by rw [h30] at e30;exact cY e30.symm
  refine .cu (X:=Bool) [(0,_),(1,_),(4,_),(5,_)] ⟨Z,Z,Z,Z,Jt⟩ (λz=>[(50,.bool z)]) (λz=>H) (λz=>(.box b (mkC M arV z10 left) 172::.box b4 [.int .i64 0,.string ⟨#[]⟩,.int .i64 0,.slice none 0 0] 33::bs)) (λz=>z=decide (k=3/\0<M.tables)) ?_ λz hC=>?_
  ·
   refine .rg<|.mv Z<|.yw (.eql Z Z)<|.mv Z<|.e2 (λh53=>?_) (λh53=>?_)
   ·exact .gy (.move Z)<|.gy (.nilCheck Z)<|.gy (.fieldAddr Z wV)<|.gy (.load Z dZ Hm Z)<|.gy (.gtr Z Z)<|.yw (.pickT Z Z)<|.aq Z<|.me _ ⟨Z,Jt⟩ ⟨Z,Z,Z,Z,Jt⟩ (λ_ s=>s) (by rw [bD,aB];first | (rw [aB];omega) | exact ⟨λ_=>by omega,λ_=>rfl⟩ | exact ⟨λh=>(by cases h),λh=>by omega⟩)
   exact .gG<|.gG<|.gG<|.gG<|.gG<|.yw (.pickF Z Z)<|.aq Z<|.me _ ⟨Z,Jt⟩ ⟨Z,Z,Z,Z,Jt⟩ (λ_ s=>s) (by rw [bD,aB];first | (rw [aB];omega) | exact ⟨λ_=>by omega,λ_=>rfl⟩ | exact ⟨λh=>(by cases h),λh=>by omega⟩)
  have e50:=hC;refine .cd Z (λh50=>?_) (λh50=>?_)
  ·have q50:k=3/\0<M.tables:=by rw [h50] at e50;exact dF e50.symm
   refine .sm Z<|.cs (X:=List Value × Value × Hp) nA Z (λW s=>yN M hM 2 (by decide) H w0 W _ b arV _ left b1 hz10  (s.p2_2 [0,1] Z)) Z λz61 hz61=>?_
   obtain ⟨x61,v61,H61⟩:=z61;obtain ⟨u61,r61,q61⟩:=hz61;dsimp only at u61 r61 q61|-;generalize hE61:(pM M 2 b1).1=e61 at r61;obtain ⟨op61,nm61,n61,a61⟩:=e61;obtain ⟨p61,c61,rfl,hs61,hl61⟩:=iR r61;refine .bl Z (fT _ _ _ _) Z λb62=>.yw (.build Z (HU _ _ _ _ _))<|.sX fU Z Z eI Z<|.zR<|?_
   refine At.pt (hd:=[_,_,_]) (tl:=bs) (hd':=[_,_,_]) [0,2,1] rfl rfl ?_;refine dD λHf uf mf=>?_;exact y8 Z (.cell Z dM Hm rfl) λW t=>⟨(_,_,Hf),by rw [show FP M d rec k b1=_ from by rw [FP,aA (by omega),aA (by omega),aA (by omega),aE (by omega)],hE61];exact ⟨u61.trans uf,iE (nm:=[116,48]) (args:=[.mk op61 nm61 n61 a61]) (by decide) (Rep.mk (n:=1) (c:=1) mf (.single (r61.up uf.up) rfl) rfl (aK _) (by decide)),q61.up uf.up⟩,Z,t.drop⟩
  have q50:¬ (k=3/\0<M.tables):=by rw [h50] at e50;exact cY e50.symm
  refine .sm Z<|.yw (.eql Z Z)<|.aq Z<|.ce Z (λh64=>?_) (λh64=>?_)
  ·refine .sm Z<|.mv Z<|.yw (.add Z Z (c:=((d+1:Nat):Int)) ((w6 (by omega)).trans (by omega)))<|.cs (X:=List Value × Value × Hp) zV Z (λW s=>hrec (by omega) H w0 W _ b arV _ left b1 hz10  (s.p2_2 [0,1] Z)) Z λz70 hz70=>?_
   obtain ⟨x70,v70,H70⟩:=z70;obtain ⟨u70,r70,q70⟩:=hz70;dsimp only at u70 r70 q70|-;generalize hE70:(rec b1).1=e70 at r70;obtain ⟨op70,nm70,n70,a70⟩:=e70;obtain ⟨p70,c70,rfl,hs70,hl70⟩:=iR r70;refine .bl Z (fT _ _ _ _) Z λb71=>.yw (.build Z (qZ _ _ _ _))<|.sX fU Z Z eI Z<|.zR<|?_
   refine At.pt (hd:=[_,_,_]) (tl:=bs) (hd':=[_,_,_]) [0,2,1] rfl rfl ?_;refine dD λHf uf mf=>?_;exact y8 Z (.cell Z dM Hm rfl) λW t=>⟨(_,_,Hf),by rw [show FP M d rec k b1=_ from by rw [FP,aA (by omega),aA (by omega),aA (by omega),aA (by omega),aE (by omega)],hE70];exact ⟨u70.trans uf,iE (nm:=[]) (args:=[.mk op70 nm70 n70 a70]) (by decide) (Rep.mk (n:=1) (c:=1) mf (.single (r70.up uf.up) rfl) rfl (aK _) (by decide)),q70.up uf.up⟩,Z,t.drop⟩
  refine .cu (X:=Bool) [(0,_),(1,_),(4,_),(5,_)] ⟨Z,Z,Z,Z,Jt⟩ (λz=>[(73,.bool z)]) (λz=>H) (λz=>(.box b (mkC M arV z10 left) 172::.box b4 [.int .i64 0,.string ⟨#[]⟩,.int .i64 0,.slice none 0 0] 33::bs)) (λz=>z=decide (k=6\/k=7)) ?_ λz hC=>?_
  ·
   refine .rg<|.mv Z<|.yw (.eql Z Z)<|.mv Z<|.e2 (λh76=>?_) (λh76=>?_)
   ·exact .gG<|.gG<|.yw (.pickT Z Z)<|.aq Z<|.me _ ⟨Z,Jt⟩ ⟨Z,Z,Z,Z,Jt⟩ (λ_ s=>s) (by rw [bD,aB];first | (rw [aB];omega) | exact ⟨λ_=>by omega,λ_=>rfl⟩ | exact ⟨λh=>(by cases h),λh=>by omega⟩)
   exact .gy (.move Z)<|.gy (.eql Z Z)<|.yw (.pickF Z Z)<|.aq Z<|.me _ ⟨Z,Jt⟩ ⟨Z,Z,Z,Z,Jt⟩ (λ_ s=>s) (by rw [bD,aB];first | (rw [aB];omega) | exact ⟨λ_=>by omega,λ_=>rfl⟩ | exact ⟨λh=>(by cases h),λh=>by omega⟩)
  have e73:=hC;refine .cd Z (λh73=>?_) (λh73=>?_)
  ·have q73:k=6\/k=7:=by rw [h73] at e73;exact dF e73.symm
   refine .sm Z<|.mv Z<|.yw (.add Z Z (c:=((d+1:Nat):Int)) ((w6 (by omega)).trans (by omega)))<|.cs (X:=List Value × Value × Hp) zV Z (λW s=>hrec (by omega) H w0 W _ b arV _ left b1 hz10  (s.p2_2 [0,1] Z)) Z λz83 hz83=>?_
   obtain ⟨x83,v83,H83⟩:=z83;obtain ⟨u83,r83,q83⟩:=hz83;dsimp only at u83 r83 q83|-;generalize hE83:(rec b1).1=e83 at r83;obtain ⟨op83,nm83,n83,a83⟩:=e83;obtain ⟨p83,c83,rfl,hs83,hl83⟩:=iR r83;refine .al jW Z λb6=>.sX .head Z Z eI Z<|.nt<|.sq<|.fL 9 [(0,0),(1,0),(2,0),(3,0),(4,0),(5,0),(6,3),(7,1),(8,0)]<|.mv Z<|.yw (.add Z Z (c:=(((16+UInt8.ofNat k).toNat:Nat):Int)) (by rw [cW4 hk12];exact (w6 (by omega)).trans (by omega)))<|.yw (.loadW Z dM Hm Z)<|.mv Z<|.mv Z<|.yw (.add Z Z (c:=((d+1:Nat):Int)) ((w6 (by omega)).trans (by omega)))<|.c3 (X:=List Value × Value × Hp) zV Z (λW s=>hrec (by omega) H83 w0 W _ b arV _ left (rec b1).2 q83  (s.p3_3 [1,0,2] Z)) Z (λz90 hz90=>(.d3<|.yv (.loadW Z dM dN Z)<|.yv (.add Z Z (c:=(((16+UInt8.ofNat k).toNat:Nat):Int)) (by rw [cW4 hk12];exact (w6 (by omega)).trans (by omega)))<|.yv (.move Z)<|.nl)) λz90 hz90=>?_
   obtain ⟨x90,v90,H90⟩:=z90;obtain ⟨u90,r90,q90⟩:=hz90;dsimp only at u90 r90 q90|-;generalize hE90:(rec (rec b1).2).1=e90 at r90;obtain ⟨op90,nm90,n90,a90⟩:=e90;obtain ⟨p90,c90,rfl,hs90,hl90⟩:=iR r90;refine .bl Z (yA _ _ _ _ _ _ _ _) Z λb91=>.yw (.build Z (qZ _ _ _ _))<|.fn (tl:=[_]) Z<|.sX oB Z Z eI Z<|.zR<|?_
   refine At.pt (hd:=[_,_,_,_]) (tl:=bs) (hd':=[_,_,_]) [0,3,1] rfl rfl ?_;refine dD λHf uf mf=>?_;exact y8 Z (.cell Z dM Hm rfl) λW t=>⟨(_,_,Hf),by rw [show FP M d rec k b1=_ from by rw [FP,aA (by omega),aA (by omega),aA (by omega),aA (by omega),aA (by omega),aE (by omega)],hE83,hE90];exact ⟨(u83.trans u90).trans uf,iE (nm:=[]) (args:=[.mk op83 nm83 n83 a83,.mk op90 nm90 n90 a90]) (by decide) (Rep.mk (n:=2) (c:=2) mf (dA.app (dA.single ((r83.up u90.up).up uf.up) rfl) (dA.single (r90.up uf.up) rfl)) rfl (aK _) (by decide)),q90.up uf.up⟩,Z,t.drop⟩
  have q73:¬ (k=6\/k=7):=by rw [h73] at e73;exact cY e73.symm
  exact .sk<|.bN<|.tN<|.me () trivial ⟨Z,Z,Jt⟩ (λ_ s=>s) (by omega)
 obtain ⟨hc1,hc2,hc3,hc4,hc5,hc6⟩:=hC;refine .sm Z<|.cs (X:=Value) lX Z (λW s=>tA 6 (by decide) hz10  (s.p2_2 [0,1] Z)) Z λz94 hz94=>.yw (.add Z Z (c:=(((16+UInt8.ofNat (bY b1 6).1).toNat:Nat):Int)) (by have:=jB b1 (n:=6) (by decide);rw [cW4 (by omega)];exact (w6 (by omega)).trans (by omega)))<|.a Z Z<|.ns<|.mv Z<|.cs (X:=List Value × Value × Hp) nA Z (λW s=>yN M hM 2 (by decide) H w0 W _ b arV _ left (bY b1 6).2 hz94  (s.p2_2 [0,1] Z)) Z λz97 hz97=>?_
 obtain ⟨x97,v97,H97⟩:=z97;obtain ⟨u97,r97,q97⟩:=hz97;dsimp only at u97 r97 q97|-;generalize hE97:(pM M 2 (bY b1 6).2).1=e97 at r97;obtain ⟨op97,nm97,n97,a97⟩:=e97;obtain ⟨p97,c97,rfl,hs97,hl97⟩:=iR r97;refine .al jW Z λb8=>.sX .head Z Z eI Z<|.nt<|.sq<|.fL 6 [(0,0),(1,0),(2,0),(3,3),(4,1),(5,0)]<|.mv Z<|.yw (.loadW Z dM Hm Z)<|.mv Z<|.c3 (X:=List Value × Value × Hp) nA Z (λW s=>yN M hM 2 (by decide) H97 w0 W _ b arV _ left (pM M 2 (bY b1 6).2).2 q97  (s.p3_3 [1,0,2] Z)) Z (λz101 hz101=>(.dn<|.yv (.loadW Z dM dN Z)<|.yv (.move Z)<|.nl)) λz101 hz101=>?_
 obtain ⟨x101,v101,H101⟩:=z101;obtain ⟨u101,r101,q101⟩:=hz101;dsimp only at u101 r101 q101|-;generalize hE101:(pM M 2 (pM M 2 (bY b1 6).2).2).1=e101 at r101;obtain ⟨op101,nm101,n101,a101⟩:=e101;obtain ⟨p101,c101,rfl,hs101,hl101⟩:=iR r101;refine .bl Z (yA _ _ _ _ _ _ _ _) Z λb102=>.yw (.build Z (qZ _ _ _ _))<|.fn (tl:=[_]) Z<|.sX oB Z Z eI Z<|.nt<|.rt<|?_
 refine At.pt (hd:=[_,_,_,_]) (tl:=bs) (hd':=[_,_,_]) [0,3,1] rfl rfl ?_;refine dD λHf uf mf=>?_;exact y8 Z (.cell Z dM Hm rfl) λW t=>⟨(_,_,Hf),by rw [show FP M d rec k b1=_ from by rw [FP,aA (by omega),aA (by omega),aA (by omega),aA (by omega),aA (by omega),aA (by omega)],hE97,hE101];exact ⟨(u97.trans u101).trans uf,iE (nm:=[]) (args:=[.mk op97 nm97 n97 a97,.mk op101 nm101 n101 a101]) (by decide) (Rep.mk (n:=2) (c:=2) mf (dA.app (dA.single ((r97.up u101.up).up uf.up) rfl) (dA.single (r101.up uf.up) rfl)) rfl (aK _) (by decide)),q101.up uf.up⟩,Z,t.drop⟩
theorem HY (M:Mk) (hM:okM M):∀ f,f<=2->cH6 (BC M f) M (2 - f)
 | 0,_=>SE M hM 2 (by omega) _ (λh=>by omega)
 | f+1,hf=>by
  have e:2 - (f+1)=1 - f:=by omega
  rw [e];refine SE M hM (1 - f) (by omega) (BC M f) λ_=>?_;rw [show 1 - f+1=2 - f by omega];exact HY M hM f (by omega)
def cI9 (bd:Bs × Nat->List Sm × (Bs × Nat)) (M:Mk) (d:Nat):Prop:=∀ (H:Hp) (w0 W:World) (bs:List Res) (b:Nat) (arV bv:Value) (lf:Nat) (by_:Bs),lf<=12->Rep H (.seq 1 (M.ars.map dAr)) [arV]->Rep H (.seq 1 ((by_).map dU8)) [bv]->St H w0 (.box b (mkC M arV bv (lf:Nat)) 172::bs) W ->
 Calls prg 109 #[.pointer (some ⟨b,0,none⟩),iN d] W λe W'=>∃ z:Value × Value × Hp,(HUp w0 H z.2.2/\Rep z.2.2 (.seq 6 ((bd (by_,lf)).1.map (dSm .i64))) [z.1]/\Rep z.2.2 (.seq 1 (((bd (by_,lf)).2.1).map dU8)) [z.2.1]/\(bd (by_,lf)).2.2<=12)/\e=.returned z.1/\St z.2.2 w0 (.box b (mkC M arV z.2.1 ((bd (by_,lf)).2.2:Nat)) 172::bs) W'
def dF8 (bd:Bs × Nat->List Sm × (Bs × Nat)) (M:Mk) (d:Nat):Prop:=∀ (H:Hp) (w0 W:World) (bs:List Res) (b:Nat) (arV bv:Value) (lf:Nat) (by_:Bs) (k:Nat),lf<=12->Rep H (.seq 1 (M.ars.map dAr)) [arV]->Rep H (.seq 1 ((by_).map dU8)) [bv]->St H w0 (.box b (mkC M arV bv (lf:Nat)) 172::bs) W ->
 Calls prg 144 #[.pointer (some ⟨b,0,none⟩),iN k,iN d] W λe W'=>∃ z:List Value × Value × Hp,(HUp w0 H z.2.2/\Rep z.2.2 (dSm .i64 (jI M k d bd by_ lf).1) z.1/\Rep z.2.2 (.seq 1 (((jI M k d bd by_ lf).2.1).map dU8)) [z.2.1]/\(jI M k d bd by_ lf).2.2<=12)/\e=.returned (.agg z.1.toArray)/\St z.2.2 w0 (.box b (mkC M arV z.2.1 ((jI M k d bd by_ lf).2.2:Nat)) 172::bs) W'
def okA (M:Mk):Prop:=okM M/\0<M.ars.length/\M.ars.length<=3/\M.own<M.ars.length/\∀ l∈M.ars,0<l.length/\l.length<=3/\∀ n∈l,n<=2
variable {c:Nat}
theorem okA.len (h:okA M) (hc:c<M.ars.length):0<arL M c/\arL M c<=3:=by
 have:=h.2.2.2.2 _ (cD hc);unfold arL;rw [oO hc];exact ⟨this.1,this.2.1⟩
theorem okA.num (h:okA M) (hc:c<M.ars.length) (hk:k<arL M c):arN M c k<=2:=by
 have:=h.2.2.2.2 _ (cD hc);unfold arL at hk;unfold arN;rw [oO hc] at hk|-;rw [oO hk];exact this.2.2 _ (cD hk)
theorem cH2 {pA:Option Addr} {cA:Nat} (h:Rep H (.seq 1 (M.ars.map dAr)) [.slice pA M.ars.length cA]) (hc:c<M.ars.length):∃ b o p k,pA=some ⟨b,o,none⟩/\lB H b (o+c * 1) [.slice p (arL M c) k]/\Rep H (.seq 1 ((M.ars.getD c []).map aE5)) [.slice p (arL M c) k]:=by
 obtain ⟨b,o,cs,e,r,l,m⟩:=h.elem (eL (f:=dAr) hc);unfold dAr at r;obtain ⟨p,k,rfl,_⟩:=r.sl;rw [aJ] at r m;refine ⟨b,o,p,k,e,?_,?_⟩
 ·unfold arL;rw [oO hc];exact m
 ·unfold arL;rw [oO hc];exact r
variable {j:Nat}
theorem aX8 {p:Option Addr} (h:Rep H (.seq 1 ((M.ars.getD c []).map aE5)) [.slice p (arL M c) k]) (hj:j<arL M c):∃ b o,p=some ⟨b,o,none⟩/\lB H b (o+j * 1) [iN (arN M c j)]:=by
 unfold arL at hj;obtain ⟨b,o,cs,e,r,l,m⟩:=h.elem (eL (f:=aE5) hj);unfold aE5 Rep at r;obtain ⟨rfl,_⟩:=r;refine ⟨b,o,e,?_⟩;unfold arN;rw [oO hj];exact m
theorem HQ (h:c<3):[cJ [97],cJ [98],cJ [99]][c]? = some (cJ [UInt8.ofNat (97+c)]):=by
 match c,h with
 | 0,_=>rfl
 | 1,_=>rfl
 | 2,_=>rfl
set_option maxHeartbeats 1000000 in
theorem WZ (M:Mk) (hM:okA M) (d:Nat) (hd:d<=3) (bd:Bs × Nat->List Sm × (Bs × Nat)) (hbd:d<3->cI9 bd M (d+1)):dF8 bd M d:=by
 intro H w0 W bs b arV bv lf by_ k hlf hAr hb s;obtain ⟨pA,cA,eA,_⟩:=hAr.sl;simp only [aT,bV,aJ] at eA;subst eA;rw [<-aJ (f:=dAr)] at hAr;rw [aJ] at hAr;have hcapA:=hAr.cap;refine fD func144 rfl ntmps144 rfl s ?_;refine .sr<|.al rO Z λb6=>.nt<|.cu (X:=Value) [(0,_),(6,_)] ⟨Z,Z,Jt⟩ (λz=>[]) (λz=>H) (λz=>(.box b (mkC M (.slice pA M.ars.length cA) z (lf:Nat)) 172::.box b6 [.int .i64 0,.string ⟨#[]⟩,.string ⟨#[]⟩,.slice none 0 0,.slice none 0 0,.slice none 0 0] 205::bs)) (λz=>Rep H (.seq 1 ((if k=12 then (bY by_ 3).2 else by_).map dU8)) [z]/\¬ k=2/\¬ (k=3/\0<M.tables)/\¬ (k=4/\0<M.tables)/\¬ ((k=5\/k=6)/\d<3)/\¬ (k=7/\d<2)/\¬ (k=8\/k=9)/\¬ k=10/\¬ (k=11/\d<3)/\¬ (k=12/\(bY by_ 3).1=0)) ?_ λz hC=>?_
 ·
  refine .bk<|.sm Z<|.yw (.eql Z Z)<|.aq Z<|.ce Z (λh18=>?_) (λh18=>?_)
  ·refine .sm Z<|.cs (X:=List Value × Value × Hp) zV Z (λW s=>HY M hM.1 2 (by decide) H w0 W _ b _ _ _ by_ hb  (s.p2_2 [1,0] Z)) Z λz22 hz22=>?_
   obtain ⟨x22,v22,H22⟩:=z22;obtain ⟨u22,r22,q22⟩:=hz22;dsimp only at u22 r22 q22|-;generalize hE22:(BC M 2 by_).1=e22 at r22;obtain ⟨op22,nm22,n22,a22⟩:=e22;obtain ⟨p22,c22,rfl,hs22,hl22⟩:=iR r22;refine .bl Z (fT _ _ _ _) Z λb23=>.yw (.build Z (xO _ _ _ _ _))<|.sX fU Z Z fB Z<|.zR<|?_
   refine At.pt (hd:=[_,_,_]) (tl:=bs) (hd':=[_,_,_]) [0,2,1] rfl rfl ?_;refine dD λHf uf mf=>?_;exact y8 Z (.cell Z fH Hm rfl) λW t=>⟨(_,_,Hf),by rw [show jI M k d bd by_ lf=_ from by rw [jI,aE (by omega)],hE22];exact ⟨u22.trans uf,gQ (kd:=1) (nm:=[98,48]) (hd:=[]) (ex:=[.mk op22 nm22 n22 a22]) (th:=[]) (el:=[]) (by first | decide | simp [nmB]) (by first | decide | simp [nmB]) (Rep.mk (n:=1) (c:=1) mf (.single ((r22).up uf.up) rfl) rfl (aK _) (by decide)) (Rep.empty (by decide)) (Rep.empty (by decide)),q22.up uf.up,hlf⟩,Z,by rw [show jI M k d bd by_ lf=_ from by rw [jI,aE (by omega)],hE22];exact t.drop⟩
  refine .cu (X:=Bool) [(0,_),(1,_),(2,_),(6,_)] ⟨Z,Z,Z,Z,Jt⟩ (λz=>[(25,.bool z)]) (λz=>H) (λz=>(.box b (mkC M (.slice pA M.ars.length cA) bv (lf:Nat)) 172::.box b6 [.int .i64 0,.string ⟨#[]⟩,.string ⟨#[]⟩,.slice none 0 0,.slice none 0 0,.slice none 0 0] 205::bs)) (λz=>z=decide (k=3/\0<M.tables)) ?_ λz hC=>?_
  ·
   refine .rg<|.mv Z<|.yw (.eql Z Z)<|.mv Z<|.e2 (λh28=>?_) (λh28=>?_)
   ·exact .gy (.move Z)<|.gy (.nilCheck Z)<|.gy (.fieldAddr Z wV)<|.gy (.load Z dZ dN Z)<|.gy (.gtr Z Z)<|.yw (.pickT Z Z)<|.aq Z<|.me _ ⟨Z,Jt⟩ ⟨Z,Z,Z,Z,Jt⟩ (λ_ s=>(s.p2_2 [1,0] Z)) (by rw [bD,aB];first | (rw [aB];omega) | exact ⟨λ_=>by omega,λ_=>rfl⟩ | exact ⟨λh=>(by cases h),λh=>by omega⟩)
   exact .gG<|.gG<|.gG<|.gG<|.gG<|.yw (.pickF Z Z)<|.aq Z<|.me _ ⟨Z,Jt⟩ ⟨Z,Z,Z,Z,Jt⟩ (λ_ s=>(s.p2_2 [1,0] Z)) (by rw [bD,aB];first | (rw [aB];omega) | exact ⟨λ_=>by omega,λ_=>rfl⟩ | exact ⟨λh=>(by cases h),λh=>by omega⟩)
  have e25:=hC;refine .cd Z (λh25=>?_) (λh25=>?_)
  ·have q25:k=3/\0<M.tables:=by rw [h25] at e25;exact dF e25.symm
   refine .sm Z<|.cs (X:=List Value × Value × Hp) nA Z (λW s=>yN M hM.1 3 (by decide) H w0 W _ b _ _ _ by_ hb  (s.p2_2 [0,1] Z)) Z λz36 hz36=>?_
   obtain ⟨x36,v36,H36⟩:=z36;obtain ⟨u36,r36,q36⟩:=hz36;dsimp only at u36 r36 q36|-;generalize hE36:(pM M 3 by_).1=e36 at r36;obtain ⟨op36,nm36,n36,a36⟩:=e36;obtain ⟨p36,c36,rfl,hs36,hl36⟩:=iR r36;refine .mv Z<|.cs (X:=List Value × Value × Hp) nA Z (λW s=>yN M hM.1 3 (by decide) H36 w0 W _ b _ _ _ _ q36  (s.p2_2 [0,1] Z)) Z λz38 hz38=>?_
   obtain ⟨x38,v38,H38⟩:=z38;obtain ⟨u38,r38,q38⟩:=hz38;dsimp only at u38 r38 q38|-;generalize hE38:(pM M 3 (pM M 3 by_).2).1=e38 at r38;obtain ⟨op38,nm38,n38,a38⟩:=e38;obtain ⟨p38,c38,rfl,hs38,hl38⟩:=iR r38;refine .bl Z (yA _ _ _ _ _ _ _ _) Z λb39=>.yw (.build Z (xO _ _ _ _ _))<|.sX fU Z Z fB Z<|.zR<|?_
   refine At.pt (hd:=[_,_,_]) (tl:=bs) (hd':=[_,_,_]) [0,2,1] rfl rfl ?_;refine dD λHf uf mf=>?_;exact y8 Z (.cell Z fH Hm rfl) λW t=>⟨(_,_,Hf),by rw [show jI M k d bd by_ lf=_ from by rw [jI,aA (by omega),aE (by omega)],hE36,hE38];exact ⟨(u36.trans u38).trans uf,gQ (kd:=2) (nm:=[116,48]) (hd:=[]) (ex:=[.mk op36 nm36 n36 a36,.mk op38 nm38 n38 a38]) (th:=[]) (el:=[]) (by first | decide | simp [nmB]) (by first | decide | simp [nmB]) (Rep.mk (n:=2) (c:=2) mf (dA.app (dA.single ((r36.up u38.up).up uf.up) rfl) (dA.single (r38.up uf.up) rfl)) rfl (aK _) (by decide)) (Rep.empty (by decide)) (Rep.empty (by decide)),q38.up uf.up,hlf⟩,Z,by rw [show jI M k d bd by_ lf=_ from by rw [jI,aA (by omega),aE (by omega)],hE36,hE38];exact t.drop⟩
  have q25:¬ (k=3/\0<M.tables):=by rw [h25] at e25;exact cY e25.symm
  refine .cu (X:=Bool) [(0,_),(1,_),(2,_),(6,_)] ⟨Z,Z,Z,Z,Jt⟩ (λz=>[(41,.bool z)]) (λz=>H) (λz=>(.box b (mkC M (.slice pA M.ars.length cA) bv (lf:Nat)) 172::.box b6 [.int .i64 0,.string ⟨#[]⟩,.string ⟨#[]⟩,.slice none 0 0,.slice none 0 0,.slice none 0 0] 205::bs)) (λz=>z=decide (k=4/\0<M.tables)) ?_ λz hC=>?_
  ·
   refine .rg<|.mv Z<|.yw (.eql Z Z)<|.mv Z<|.e2 (λh44=>?_) (λh44=>?_)
   ·exact .gy (.move Z)<|.gy (.nilCheck Z)<|.gy (.fieldAddr Z wV)<|.gy (.load Z dZ Hm Z)<|.gy (.gtr Z Z)<|.yw (.pickT Z Z)<|.aq Z<|.me _ ⟨Z,Jt⟩ ⟨Z,Z,Z,Z,Jt⟩ (λ_ s=>s) (by rw [bD,aB];first | (rw [aB];omega) | exact ⟨λ_=>by omega,λ_=>rfl⟩ | exact ⟨λh=>(by cases h),λh=>by omega⟩)
   exact .gG<|.gG<|.gG<|.gG<|.gG<|.yw (.pickF Z Z)<|.aq Z<|.me _ ⟨Z,Jt⟩ ⟨Z,Z,Z,Z,Jt⟩ (λ_ s=>s) (by rw [bD,aB];first | (rw [aB];omega) | exact ⟨λ_=>by omega,λ_=>rfl⟩ | exact ⟨λh=>(by cases h),λh=>by omega⟩)
  have e41:=hC;refine .cd Z (λh41=>?_) (λh41=>?_)
  ·have q41:k=4/\0<M.tables:=by rw [h41] at e41;exact dF e41.symm
   refine .sm Z<|.cs (X:=List Value × Value × Hp) nA Z (λW s=>yN M hM.1 3 (by decide) H w0 W _ b _ _ _ by_ hb  (s.p2_2 [0,1] Z)) Z λz52 hz52=>?_
   obtain ⟨x52,v52,H52⟩:=z52;obtain ⟨u52,r52,q52⟩:=hz52;dsimp only at u52 r52 q52|-;generalize hE52:(pM M 3 by_).1=e52 at r52;obtain ⟨op52,nm52,n52,a52⟩:=e52;obtain ⟨p52,c52,rfl,hs52,hl52⟩:=iR r52;refine .bl Z (fT _ _ _ _) Z λb53=>.yw (.build Z (xO _ _ _ _ _))<|.sX fU Z Z fB Z<|.zR<|?_
   refine At.pt (hd:=[_,_,_]) (tl:=bs) (hd':=[_,_,_]) [0,2,1] rfl rfl ?_;refine dD λHf uf mf=>?_;exact y8 Z (.cell Z fH Hm rfl) λW t=>⟨(_,_,Hf),by rw [show jI M k d bd by_ lf=_ from by rw [jI,aA (by omega),aA (by omega),aE (by omega)],hE52];exact ⟨u52.trans uf,gQ (kd:=3) (nm:=[116,48]) (hd:=[]) (ex:=[.mk op52 nm52 n52 a52]) (th:=[]) (el:=[]) (by first | decide | simp [nmB]) (by first | decide | simp [nmB]) (Rep.mk (n:=1) (c:=1) mf (.single ((r52).up uf.up) rfl) rfl (aK _) (by decide)) (Rep.empty (by decide)) (Rep.empty (by decide)),q52.up uf.up,hlf⟩,Z,by rw [show jI M k d bd by_ lf=_ from by rw [jI,aA (by omega),aA (by omega),aE (by omega)],hE52];exact t.drop⟩
  have q41:¬ (k=4/\0<M.tables):=by rw [h41] at e41;exact cY e41.symm
  refine .cu (X:=Bool) [(0,_),(1,_),(2,_),(6,_)] ⟨Z,Z,Z,Z,Jt⟩ (λz=>[(55,.bool z)]) (λz=>H) (λz=>(.box b (mkC M (.slice pA M.ars.length cA) bv (lf:Nat)) 172::.box b6 [.int .i64 0,.string ⟨#[]⟩,.string ⟨#[]⟩,.slice none 0 0,.slice none 0 0,.slice none 0 0] 205::bs)) (λz=>z=decide ((k=5\/k=6)/\d<3)) ?_ λz hC=>?_
  ·
   refine .rg<|.mv Z<|.yw (.eql Z Z)<|.mv Z<|.e2 (λh58=>?_) (λh58=>?_)
   ·exact .gG<|.gG<|.yw (.pickT Z Z)<|.mv Z<|.gy (.move Z)<|.gy (.lss Z Z)<|.yw (.pickT Z Z)<|.aq Z<|.me _ ⟨Z,Jt⟩ ⟨Z,Z,Z,Z,Jt⟩ (λ_ s=>s) (by rw [bD,aB];first | (rw [aB];omega) | exact ⟨λ_=>by omega,λ_=>rfl⟩ | exact ⟨λh=>(by cases h),λh=>by omega⟩)
   refine .gy (.move Z)<|.gy (.eql Z Z)<|.yw (.pickF Z Z)<|.mv Z<|.e2 (λh62=>?_) (λh62=>?_)
   ·exact .gy (.move Z)<|.gy (.lss Z Z)<|.yw (.pickT Z Z)<|.aq Z<|.me _ ⟨Z,Jt⟩ ⟨Z,Z,Z,Z,Jt⟩ (λ_ s=>s) (by rw [bD,aB];first | (rw [aB];omega) | exact ⟨λ_=>by omega,λ_=>rfl⟩ | exact ⟨λh=>(by cases h),λh=>by omega⟩)
   exact .gG<|.gG<|.yw (.pickF Z Z)<|.aq Z<|.me _ ⟨Z,Jt⟩ ⟨Z,Z,Z,Z,Jt⟩ (λ_ s=>s) (by rw [bD,aB];first | (rw [aB];omega) | exact ⟨λ_=>by omega,λ_=>rfl⟩ | exact ⟨λh=>(by cases h),λh=>by omega⟩)
  have e55:=hC;refine .cd Z (λh55=>?_) (λh55=>?_)
  ·have q55:(k=5\/k=6)/\d<3:=by rw [h55] at e55;exact dF e55.symm
   refine .sm Z<|.cs (X:=List Value × Value × Hp) zV Z (λW s=>HY M hM.1 2 (by decide) H w0 W _ b _ _ _ by_ hb  (s.p2_2 [0,1] Z)) Z λz67 hz67=>?_
   obtain ⟨x67,v67,H67⟩:=z67;obtain ⟨u67,r67,q67⟩:=hz67;dsimp only at u67 r67 q67|-;generalize hE67:(BC M 2 by_).1=e67 at r67;obtain ⟨op67,nm67,n67,a67⟩:=e67;obtain ⟨p67,c67,rfl,hs67,hl67⟩:=iR r67;refine .al jW Z λb7=>.sX .head Z Z eI Z<|.ns<|.mv Z<|.mv Z<|.yw (.add Z Z (c:=((d+1:Nat):Int)) ((w6 (by omega)).trans (by omega)))<|.cs (X:=Value × Value × Hp) tH Z (λW s=>hbd (by omega) H67 w0 W _ b _ _ lf _ hlf (hAr.up u67.up) q67  (s.p3_3 [1,0,2] Z)) Z λz71 hz71=>?_
   obtain ⟨x71,v71,H71⟩:=z71;obtain ⟨u71,r71,q71,l71⟩:=hz71;dsimp only at u71 r71 q71|-;obtain ⟨pb71,cb71,eb71,_⟩:=r71.sl;simp only [aT,bV,aJ] at eb71;subst eb71;refine .aq Z<|.sq<|.ft (p:=.light _ _ (.light _ _ (.light _ _ (.light _ _ (.light _ _ (.alt _ _ _ (.alt _ _ _ (.light _ _ (.done)) (.no)) (.alt _ _ _ (.alt _ _ _ (.light _ _ (.done)) (.no)) (.no)))))))) 8 (.light 0 (.light 2 (.light 3 (.light 4 (.light 5 (.alt 1 0 (.alt 6 2 (.light 7 (.done)) (.no)) (.alt 6 2 (.alt 1 0 (.light 7 (.done)) (.no)) (.no)))))))) (by kernel_rfl) (by kernel_rfl) Z<|.yw (.loadW Z dM dN Z)<|.mv Z<|.mv Z<|.mv Z<|.yw (.add Z Z (c:=((d+1:Nat):Int)) ((w6 (by omega)).trans (by omega)))<|.h ?_ (.h ?_ .nn)
   ·
    refine .bl Z (fT _ _ _ _) Z λb73=>.h1<|.c3 (X:=Value × Value × Hp) tH Z (λW s=>hbd (by omega) H71 w0 W _ b _ _ _ _ l71 (hAr.up (u67.trans u71).up) q71  (s.p4_4 [1,0,2,3] Z)) Z (λz78 hz78=>(.d3<|.yv (.move Z)<|.yv (.loadW Z dM fN Z)<|.nl)) λz78 hz78=>?_
    obtain ⟨x78,v78,H78⟩:=z78;obtain ⟨u78,r78,q78,l78⟩:=hz78;dsimp only at u78 r78 q78|-;obtain ⟨pb78,cb78,eb78,_⟩:=r78.sl;simp only [aT,bV,aJ] at eb78;subst eb78;refine .yw (.build Z (DW _ _ _ _ _ _ _ _ _ _))<|.fn (tl:=[_]) Z<|.sX oB Z Z fB Z<|.zR<|?_
    refine At.pt (hd:=[_,_,_,_]) (tl:=bs) (hd':=[_,_,_]) [1,3,0] rfl rfl ?_;refine dD λHf uf mf=>?_;exact y8 Z (.cell Z fH Hm rfl) λW t=>⟨(_,_,Hf),by rw [show jI M k d bd by_ lf=_ from by rw [jI,aA (by omega),aA (by omega),aA (by omega),aE (by omega)],hE67];exact ⟨(u67.trans (u71.trans u78)).trans uf,gQ (kd:=4) (nm:=[]) (hd:=[]) (ex:=[.mk op67 nm67 n67 a67]) (th:=_) (el:=_) (by first | decide | simp [nmB]) (by first | decide | simp [nmB]) (Rep.mk (n:=1) (c:=1) mf (.single ((r67.up (u71.trans u78).up).up uf.up) rfl) rfl (aK _) (by decide)) ((r71.up u78.up).up uf.up) (r78.up uf.up),q78.up uf.up,l78⟩,Z,by rw [show jI M k d bd by_ lf=_ from by rw [jI,aA (by omega),aA (by omega),aA (by omega),aE (by omega)],hE67];exact t.drop⟩
   refine .c3 (X:=Value × Value × Hp) tH Z (λW s=>hbd (by omega) H71 w0 W _ b _ _ _ _ l71 (hAr.up (u67.trans u71).up) q71  (s.p3_3 [0,1,2] Z)) Z (λz78 hz78=>(.d3<|.yv (.move Z)<|.yv (.loadW Z dM dN Z)<|.nl)) λz78 hz78=>?_;obtain ⟨x78,v78,H78⟩:=z78;obtain ⟨u78,r78,q78,l78⟩:=hz78;dsimp only at u78 r78 q78|-;obtain ⟨pb78,cb78,eb78,_⟩:=r78.sl;simp only [aT,bV,aJ] at eb78;subst eb78;refine .h1<|.bl Z (fT _ _ _ _) Z λb73=>.yw (.build Z (DW _ _ _ _ _ _ _ _ _ _))<|.fn (tl:=[_]) Z<|.sX oB Z Z fB Z<|.zR<|?_
   refine At.pt (hd:=[_,_,_,_]) (tl:=bs) (hd':=[_,_,_]) [0,3,1] rfl rfl ?_;refine dD λHf uf mf=>?_;exact y8 Z (.cell Z fH Hm rfl) λW t=>⟨(_,_,Hf),by rw [show jI M k d bd by_ lf=_ from by rw [jI,aA (by omega),aA (by omega),aA (by omega),aE (by omega)],hE67];exact ⟨(u67.trans (u71.trans u78)).trans uf,gQ (kd:=4) (nm:=[]) (hd:=[]) (ex:=[.mk op67 nm67 n67 a67]) (th:=_) (el:=_) (by first | decide | simp [nmB]) (by first | decide | simp [nmB]) (Rep.mk (n:=1) (c:=1) mf (.single ((r67.up (u71.trans u78).up).up uf.up) rfl) rfl (aK _) (by decide)) ((r71.up u78.up).up uf.up) (r78.up uf.up),q78.up uf.up,l78⟩,Z,by rw [show jI M k d bd by_ lf=_ from by rw [jI,aA (by omega),aA (by omega),aA (by omega),aE (by omega)],hE67];exact t.drop⟩
  have q55:¬ ((k=5\/k=6)/\d<3):=by rw [h55] at e55;exact cY e55.symm
  refine .cu (X:=Bool) [(0,_),(1,_),(2,_),(6,_)] ⟨Z,Z,Z,Z,Jt⟩ (λz=>[(80,.bool z)]) (λz=>H) (λz=>(.box b (mkC M (.slice pA M.ars.length cA) bv (lf:Nat)) 172::.box b6 [.int .i64 0,.string ⟨#[]⟩,.string ⟨#[]⟩,.slice none 0 0,.slice none 0 0,.slice none 0 0] 205::bs)) (λz=>z=decide (k=7/\d<2)) ?_ λz hC=>?_
  ·
   refine .rg<|.mv Z<|.yw (.eql Z Z)<|.mv Z<|.e2 (λh83=>?_) (λh83=>?_)
   ·exact .gy (.move Z)<|.gy (.lss Z Z)<|.yw (.pickT Z Z)<|.aq Z<|.me _ ⟨Z,Jt⟩ ⟨Z,Z,Z,Z,Jt⟩ (λ_ s=>s) (by rw [bD,aB];first | (rw [aB];omega) | exact ⟨λ_=>by omega,λ_=>rfl⟩ | exact ⟨λh=>(by cases h),λh=>by omega⟩)
   exact .gG<|.gG<|.yw (.pickF Z Z)<|.aq Z<|.me _ ⟨Z,Jt⟩ ⟨Z,Z,Z,Z,Jt⟩ (λ_ s=>s) (by rw [bD,aB];first | (rw [aB];omega) | exact ⟨λ_=>by omega,λ_=>rfl⟩ | exact ⟨λh=>(by cases h),λh=>by omega⟩)
  have e80:=hC;refine .cd Z (λh80=>?_) (λh80=>?_)
  ·have q80:k=7/\d<2:=by rw [h80] at e80;exact dF e80.symm
   refine .sm Z<|.cs (X:=List Value × Value × Hp) zV Z (λW s=>HY M hM.1 2 (by decide) H w0 W _ b _ _ _ by_ hb  (s.p2_2 [0,1] Z)) Z λz88 hz88=>?_
   obtain ⟨x88,v88,H88⟩:=z88;obtain ⟨u88,r88,q88⟩:=hz88;dsimp only at u88 r88 q88|-;generalize hE88:(BC M 2 by_).1=e88 at r88;obtain ⟨op88,nm88,n88,a88⟩:=e88;obtain ⟨p88,c88,rfl,hs88,hl88⟩:=iR r88;refine .al jW Z λb9=>.sX .head Z Z eI Z<|.nt<|.sq<|.ft (p:=.light _ _ (.light _ _ (.light _ _ (.light _ _ (.alt _ _ _ (.alt _ _ _ (.light _ _ (.done)) (.no)) (.alt _ _ _ (.alt _ _ _ (.light _ _ (.done)) (.no)) (.no))))))) 7 (.light 0 (.light 2 (.light 3 (.light 4 (.alt 1 0 (.alt 5 2 (.light 6 (.done)) (.no)) (.alt 5 2 (.alt 1 0 (.light 6 (.done)) (.no)) (.no))))))) (by kernel_rfl) (by kernel_rfl) Z<|.yw (.loadW Z dM Hm Z)<|.mv Z<|.mv Z<|.yw (.add Z Z (c:=((d+1:Nat):Int)) ((w6 (by omega)).trans (by omega)))<|.h ?_ (.h ?_ .nn)
   ·
    refine .bl Z (fT _ _ _ _) Z λb90=>.h1<|.c3 (X:=Value × Value × Hp) tH Z (λW s=>hbd (by omega) H88 w0 W _ b _ _ lf _ hlf (hAr.up u88.up) q88  (s.p4_4 [2,0,1,3] Z)) Z (λz94 hz94=>(.d3<|.yv (.loadW Z dM fN Z)<|.nl)) λz94 hz94=>?_
    obtain ⟨x94,v94,H94⟩:=z94;obtain ⟨u94,r94,q94,l94⟩:=hz94;dsimp only at u94 r94 q94|-;obtain ⟨pb94,cb94,eb94,_⟩:=r94.sl;simp only [aT,bV,aJ] at eb94;subst eb94;refine .yw (.build Z (GN _ _ _ _ _ _ _))<|.fn (tl:=[_]) Z<|.sX oB Z Z fB Z<|.zR<|?_
    refine At.pt (hd:=[_,_,_,_]) (tl:=bs) (hd':=[_,_,_]) [1,3,0] rfl rfl ?_;refine dD λHf uf mf=>?_;exact y8 Z (.cell Z fH Hm rfl) λW t=>⟨(_,_,Hf),by rw [show jI M k d bd by_ lf=_ from by rw [jI,aA (by omega),aA (by omega),aA (by omega),aA (by omega),aE (by omega)],hE88];exact ⟨(u88.trans u94).trans uf,gQ (kd:=5) (nm:=[]) (hd:=[]) (ex:=[.mk op88 nm88 n88 a88]) (th:=_) (el:=[]) (by first | decide | simp [nmB]) (by first | decide | simp [nmB]) (Rep.mk (n:=1) (c:=1) mf (.single ((r88.up (u94).up).up uf.up) rfl) rfl (aK _) (by decide)) (r94.up uf.up) (Rep.empty (by decide)),q94.up uf.up,l94⟩,Z,by rw [show jI M k d bd by_ lf=_ from by rw [jI,aA (by omega),aA (by omega),aA (by omega),aA (by omega),aE (by omega)],hE88];exact t.drop⟩
   refine .c3 (X:=Value × Value × Hp) tH Z (λW s=>hbd (by omega) H88 w0 W _ b _ _ lf _ hlf (hAr.up u88.up) q88  (s.p3_3 [1,0,2] Z)) Z (λz94 hz94=>(.d3<|.yv (.loadW Z dM dN Z)<|.nl)) λz94 hz94=>?_;obtain ⟨x94,v94,H94⟩:=z94;obtain ⟨u94,r94,q94,l94⟩:=hz94;dsimp only at u94 r94 q94|-;obtain ⟨pb94,cb94,eb94,_⟩:=r94.sl;simp only [aT,bV,aJ] at eb94;subst eb94;refine .h1<|.bl Z (fT _ _ _ _) Z λb90=>.yw (.build Z (GN _ _ _ _ _ _ _))<|.fn (tl:=[_]) Z<|.sX oB Z Z fB Z<|.zR<|?_
   refine At.pt (hd:=[_,_,_,_]) (tl:=bs) (hd':=[_,_,_]) [0,3,1] rfl rfl ?_;refine dD λHf uf mf=>?_;exact y8 Z (.cell Z fH Hm rfl) λW t=>⟨(_,_,Hf),by rw [show jI M k d bd by_ lf=_ from by rw [jI,aA (by omega),aA (by omega),aA (by omega),aA (by omega),aE (by omega)],hE88];exact ⟨(u88.trans u94).trans uf,gQ (kd:=5) (nm:=[]) (hd:=[]) (ex:=[.mk op88 nm88 n88 a88]) (th:=_) (el:=[]) (by first | decide | simp [nmB]) (by first | decide | simp [nmB]) (Rep.mk (n:=1) (c:=1) mf (.single ((r88.up (u94).up).up uf.up) rfl) rfl (aK _) (by decide)) (r94.up uf.up) (Rep.empty (by decide)),q94.up uf.up,l94⟩,Z,by rw [show jI M k d bd by_ lf=_ from by rw [jI,aA (by omega),aA (by omega),aA (by omega),aA (by omega),aE (by omega)],hE88];exact t.drop⟩
  have q80:¬ (k=7/\d<2):=by rw [h80] at e80;exact cY e80.symm
  refine .cu (X:=Bool) [(0,_),(1,_),(2,_),(6,_)] ⟨Z,Z,Z,Z,Jt⟩ (λz=>[(96,.bool z)]) (λz=>H) (λz=>(.box b (mkC M (.slice pA M.ars.length cA) bv (lf:Nat)) 172::.box b6 [.int .i64 0,.string ⟨#[]⟩,.string ⟨#[]⟩,.slice none 0 0,.slice none 0 0,.slice none 0 0] 205::bs)) (λz=>z=decide (k=8\/k=9)) ?_ λz hC=>?_
  ·
   refine .rg<|.mv Z<|.yw (.eql Z Z)<|.mv Z<|.e2 (λh99=>?_) (λh99=>?_)
   ·exact .gG<|.gG<|.yw (.pickT Z Z)<|.aq Z<|.me _ ⟨Z,Jt⟩ ⟨Z,Z,Z,Z,Jt⟩ (λ_ s=>s) (by rw [bD,aB];first | (rw [aB];omega) | exact ⟨λ_=>by omega,λ_=>rfl⟩ | exact ⟨λh=>(by cases h),λh=>by omega⟩)
   exact .gy (.move Z)<|.gy (.eql Z Z)<|.yw (.pickF Z Z)<|.aq Z<|.me _ ⟨Z,Jt⟩ ⟨Z,Z,Z,Z,Jt⟩ (λ_ s=>s) (by rw [bD,aB];first | (rw [aB];omega) | exact ⟨λ_=>by omega,λ_=>rfl⟩ | exact ⟨λh=>(by cases h),λh=>by omega⟩)
  have e96:=hC;refine .cd Z (λh96=>?_) (λh96=>?_)
  ·have q96:k=8\/k=9:=by rw [h96] at e96;exact dF e96.symm
   refine .sm Z<|.mv Z<|.nC Z<|.fA Z tZ<|.lD Z CC Hm Z<|.yw (.lenSl FF Z)<|.cs (X:=Value) lX Z (λW s=>tA M.ars.length hM.2.1 hb  (s.p2_2 [0,1] Z)) Z λz109 hz109=>?_
   have hc:=jB by_ hM.2.1;have hc3:=hM.2.2.1;have hal:=hM.len hc;obtain ⟨bA,oA,pR,cR,hpA,mA,hR⟩:=cH2 hAr hc;subst hpA;refine .a Z Z<|.ns<|.mv Z<|.mv Z<|.nC Z<|.fA Z tZ<|.lD Z CC Hm Z<|.mv Z<|.yw (.indexSl FF Z Z (i:=(bY by_ M.ars.length).1) Z (by omega) (q:=oA+(bY by_ M.ars.length).1 * 1) Z)<|.yw (.loadM Z FL mA (k:=0) Z Z)<|.yw (.lenSl CU Z)<|.cs (X:=Value) lX Z (λW s=>tA (arL M (bY by_ M.ars.length).1) hal.1 hz109  (s.p2_2 [0,1] Z)) Z λz119 hz119=>?_
   have hh:=jB (bY by_ M.ars.length).2 hal.1;have hn2:=hM.num hc hh;obtain ⟨bR,oR,hpR,mR⟩:=aX8 hR hh;subst hpR;refine .aq Z<|.sq<|.ft (p:=.light _ _ (.light _ _ (.light _ _ (.light _ _ (.light _ _ (.light _ _ (.light _ _ (.light _ _ (.light _ _ (.light _ _ (.light _ _ (.light _ _ (.light _ _ (.alt _ _ _ (.light _ _ (.light _ _ (.alt _ _ _ (.light _ _ (.light _ _ (.alt _ _ _ (.light _ _ (.done)) (.no)))) (.no)))) (.alt _ _ _ (.light _ _ (.light _ _ (.alt _ _ _ (.light _ _ (.light _ _ (.alt _ _ _ (.light _ _ (.done)) (.no)))) (.alt _ _ _ (.alt _ _ _ (.light _ _ (.light _ _ (.light _ _ (.done)))) (.no)) (.no))))) (.no)))))))))))))))) 21 (.light 1 (.light 5 (.light 8 (.light 9 (.light 10 (.light 11 (.light 12 (.light 13 (.light 14 (.light 15 (.light 16 (.light 17 (.light 18 (.alt 0 0 (.light 2 (.light 3 (.alt 4 0 (.light 6 (.light 7 (.alt 19 2 (.light 20 (.done)) (.no)))) (.no)))) (.alt 4 0 (.light 6 (.light 7 (.alt 0 0 (.light 2 (.light 3 (.alt 19 2 (.light 20 (.done)) (.no)))) (.alt 19 2 (.alt 0 0 (.light 2 (.light 3 (.light 20 (.done)))) (.no)) (.no))))) (.no)))))))))))))))) (by kernel_rfl) (by kernel_rfl) Z<|.mv Z<|.mv Z<|.mv Z<|.mv Z<|.nC Z<|.fA Z tZ<|.lD Z CC Hm Z<|.mv Z<|.yw (.indexSl FF Z Z (i:=(bY by_ M.ars.length).1) Z (by omega) (q:=oA+(bY by_ M.ars.length).1 * 1) Z)<|.yw (.loadM Z FL mA (k:=0) Z Z)<|.mv Z<|.yw (.indexSl CU Z Z (i:=(bY (bY by_ M.ars.length).2 (arL M (bY by_ M.ars.length).1)).1) Z (by omega) (q:=oR+(bY (bY by_ M.ars.length).2 (arL M (bY by_ M.ars.length).1)).1 * 1) Z)<|.yw (.loadM Z dZ mR (k:=0) Z Z)<|.h ?_ (.h ?_ .nn)
   ·
    refine .bl Z (qK _ _ _) Z λb120=>.yw (.indexSl dR Z Z (i:=(bY by_ M.ars.length).1) Z (by omega) (q:=(bY by_ M.ars.length).1) (by omega))<|.yw (.load (v:=cJ [UInt8.ofNat (97+(bY by_ M.ars.length).1)]) Z bZ Hm (HQ (by omega)))<|.h1<|.ct (X:=Value) qT Z (λW s=>qS H 104 3 (by omega) W s.agr) Z λv124 H124 hn124 u124=>?_
    obtain ⟨pn124,cn124,e124,_⟩:=hn124.sl;simp only [aT,bV,aJ,lK] at e124;subst e124;obtain ⟨bE,oE,hpE,mE⟩:=yO hn124 (k:=(bY (bY by_ M.ars.length).2 (arL M (bY by_ M.ars.length).1)).1) (by omega);subst hpE;refine .yw (.indexSl dR Z Z (i:=(bY (bY by_ M.ars.length).2 (arL M (bY by_ M.ars.length).1)).1) Z (by omega) (q:=oE+(bY (bY by_ M.ars.length).2 (arL M (bY by_ M.ars.length).1)).1 * 1) Z)<|.yw (.loadM Z bZ mE (k:=0) Z Z)<|.h1<|.c3 (X:=Value × Value × Hp) xZ Z (λW s=>xT hM.1 (arN M (bY by_ M.ars.length).1 (bY (bY by_ M.ars.length).2 (arL M (bY by_ M.ars.length).1)).1) (by omega) (hz119.up u124.up)  (s.p3_3 [1,0,2] Z)) Z (λz139 hz139=>(.yv (.loadM Z bZ (mE.up hz139.1.up) (k:=0) Z Z)<|.yv (.indexSl dR Z Z (i:=(bY (bY by_ M.ars.length).2 (arL M (bY by_ M.ars.length).1)).1) Z (by omega) (q:=oE+(bY (bY by_ M.ars.length).2 (arL M (bY by_ M.ars.length).1)).1 * 1) Z)<|.yv (.load (v:=cJ [UInt8.ofNat (97+(bY by_ M.ars.length).1)]) Z bZ dN (HQ (by omega)))<|.yv (.indexSl dR Z Z (i:=(bY by_ M.ars.length).1) Z (by omega) (q:=(bY by_ M.ars.length).1) (by omega))<|.d4<|.d4<|.d3<|.yv (.move Z)<|.yv (.move Z)<|.nl)) λz139 hz139=>?_
    obtain ⟨x139,v139,H139⟩:=z139;obtain ⟨u139,⟨xs139,rz139,rs139,rl139⟩,q139⟩:=hz139;dsimp only at u139 rz139 rs139 q139|-;obtain ⟨pn139,cn139,rfl⟩:=rs139.sl;refine .yw (.build Z (yT _ _ _ _ _ _))<|.fn (tl:=[_]) Z<|.sX fU Z Z fB Z<|.zR<|?_
    refine At.pt (hd:=[_,_,_]) (tl:=bs) (hd':=[_,_]) [2,0] rfl rfl ?_;exact y8 Z (.cell Z fH Hm rfl) λW t=>⟨(_,_,H139),by rw [show jI M k d bd by_ lf=_ from by rw [jI,aA (by omega),aA (by omega),aA (by omega),aA (by omega),aA (by omega),aE (by omega)],aU9];exact ⟨(u124.trans u139),gQ (kd:=6) (nm:=[UInt8.ofNat (97+(bY by_ M.ars.length).1)]) (hd:=(nmB 104 (bY (bY by_ M.ars.length).2 (arL M (bY by_ M.ars.length).1)).1)) (ex:=_) (th:=[]) (el:=[]) (by first | decide | simp [nmB]) (by first | decide | simp [nmB]) (rs139.rep rz139 (by rw [aJ];exact rl139)) (Rep.empty (by decide)) (Rep.empty (by decide)),q139,hlf⟩,Z,by rw [show jI M k d bd by_ lf=_ from by rw [jI,aA (by omega),aA (by omega),aA (by omega),aA (by omega),aA (by omega),aE (by omega)],aU9];exact t.drop⟩
   refine .ct (X:=Value) qT Z (λW s=>qS H 104 3 (by omega) W s.agr) Z λv124 H124 hn124 u124=>?_;obtain ⟨pn124,cn124,e124,_⟩:=hn124.sl;simp only [aT,bV,aJ,lK] at e124;subst e124;obtain ⟨bE,oE,hpE,mE⟩:=yO hn124 (k:=(bY (bY by_ M.ars.length).2 (arL M (bY by_ M.ars.length).1)).1) (by omega);subst hpE;refine .yw (.indexSl dR Z Z (i:=(bY (bY by_ M.ars.length).2 (arL M (bY by_ M.ars.length).1)).1) Z (by omega) (q:=oE+(bY (bY by_ M.ars.length).2 (arL M (bY by_ M.ars.length).1)).1 * 1) Z)<|.yw (.loadM Z bZ mE (k:=0) Z Z)<|.h ?_ (.h ?_ .nn)
   ·
    refine .bl Z (qK _ _ _) Z λb120=>.yw (.indexSl dR Z Z (i:=(bY by_ M.ars.length).1) Z (by omega) (q:=(bY by_ M.ars.length).1) (by omega))<|.yw (.load (v:=cJ [UInt8.ofNat (97+(bY by_ M.ars.length).1)]) Z bZ Hm (HQ (by omega)))<|.h1<|.c3 (X:=Value × Value × Hp) xZ Z (λW s=>xT hM.1 (arN M (bY by_ M.ars.length).1 (bY (bY by_ M.ars.length).2 (arL M (bY by_ M.ars.length).1)).1) (by omega) (hz119.up u124.up)  (s.p3_3 [1,0,2] Z)) Z (λz139 hz139=>(.yv (.load (v:=cJ [UInt8.ofNat (97+(bY by_ M.ars.length).1)]) Z bZ dN (HQ (by omega)))<|.yv (.indexSl dR Z Z (i:=(bY by_ M.ars.length).1) Z (by omega) (q:=(bY by_ M.ars.length).1) (by omega))<|.yv (.loadM Z bZ (mE.up hz139.1.up) (k:=0) Z Z)<|.yv (.indexSl dR Z Z (i:=(bY (bY by_ M.ars.length).2 (arL M (bY by_ M.ars.length).1)).1) Z (by omega) (q:=oE+(bY (bY by_ M.ars.length).2 (arL M (bY by_ M.ars.length).1)).1 * 1) Z)<|.d4<|.d4<|.d3<|.yv (.move Z)<|.yv (.move Z)<|.nl)) λz139 hz139=>?_
    obtain ⟨x139,v139,H139⟩:=z139;obtain ⟨u139,⟨xs139,rz139,rs139,rl139⟩,q139⟩:=hz139;dsimp only at u139 rz139 rs139 q139|-;obtain ⟨pn139,cn139,rfl⟩:=rs139.sl;refine .yw (.build Z (yT _ _ _ _ _ _))<|.fn (tl:=[_]) Z<|.sX fU Z Z fB Z<|.zR<|?_
    refine At.pt (hd:=[_,_,_]) (tl:=bs) (hd':=[_,_]) [2,0] rfl rfl ?_;exact y8 Z (.cell Z fH Hm rfl) λW t=>⟨(_,_,H139),by rw [show jI M k d bd by_ lf=_ from by rw [jI,aA (by omega),aA (by omega),aA (by omega),aA (by omega),aA (by omega),aE (by omega)],aU9];exact ⟨(u124.trans u139),gQ (kd:=6) (nm:=[UInt8.ofNat (97+(bY by_ M.ars.length).1)]) (hd:=(nmB 104 (bY (bY by_ M.ars.length).2 (arL M (bY by_ M.ars.length).1)).1)) (ex:=_) (th:=[]) (el:=[]) (by first | decide | simp [nmB]) (by first | decide | simp [nmB]) (rs139.rep rz139 (by rw [aJ];exact rl139)) (Rep.empty (by decide)) (Rep.empty (by decide)),q139,hlf⟩,Z,by rw [show jI M k d bd by_ lf=_ from by rw [jI,aA (by omega),aA (by omega),aA (by omega),aA (by omega),aA (by omega),aE (by omega)],aU9];exact t.drop⟩
   refine .c3 (X:=Value × Value × Hp) xZ Z (λW s=>xT hM.1 (arN M (bY by_ M.ars.length).1 (bY (bY by_ M.ars.length).2 (arL M (bY by_ M.ars.length).1)).1) (by omega) (hz119.up u124.up)  (s.p2_2 [0,1] Z)) Z (λz139 hz139=>(.yv (.loadM Z bZ (mE.up hz139.1.up) (k:=0) Z Z)<|.yv (.indexSl dR Z Z (i:=(bY (bY by_ M.ars.length).2 (arL M (bY by_ M.ars.length).1)).1) Z (by omega) (q:=oE+(bY (bY by_ M.ars.length).2 (arL M (bY by_ M.ars.length).1)).1 * 1) Z)<|.d4<|.d4<|.d3<|.yv (.move Z)<|.yv (.move Z)<|.nl)) λz139 hz139=>?_;obtain ⟨x139,v139,H139⟩:=z139;obtain ⟨u139,⟨xs139,rz139,rs139,rl139⟩,q139⟩:=hz139;dsimp only at u139 rz139 rs139 q139|-;obtain ⟨pn139,cn139,rfl⟩:=rs139.sl;refine .h1<|.bl Z (qK _ _ _) Z λb120=>.yw (.indexSl dR Z Z (i:=(bY by_ M.ars.length).1) Z (by omega) (q:=(bY by_ M.ars.length).1) (by omega))<|.yw (.load (v:=cJ [UInt8.ofNat (97+(bY by_ M.ars.length).1)]) Z bZ Hm (HQ (by omega)))<|.yw (.build Z (yT _ _ _ _ _ _))<|.fn (tl:=[_]) Z<|.sX fU Z Z fB Z<|.zR<|?_
   refine At.pt (hd:=[_,_,_]) (tl:=bs) (hd':=[_,_]) [2,1] rfl rfl ?_;exact y8 Z (.cell Z fH Hm rfl) λW t=>⟨(_,_,H139),by rw [show jI M k d bd by_ lf=_ from by rw [jI,aA (by omega),aA (by omega),aA (by omega),aA (by omega),aA (by omega),aE (by omega)],aU9];exact ⟨(u124.trans u139),gQ (kd:=6) (nm:=[UInt8.ofNat (97+(bY by_ M.ars.length).1)]) (hd:=(nmB 104 (bY (bY by_ M.ars.length).2 (arL M (bY by_ M.ars.length).1)).1)) (ex:=_) (th:=[]) (el:=[]) (by first | decide | simp [nmB]) (by first | decide | simp [nmB]) (rs139.rep rz139 (by rw [aJ];exact rl139)) (Rep.empty (by decide)) (Rep.empty (by decide)),q139,hlf⟩,Z,by rw [show jI M k d bd by_ lf=_ from by rw [jI,aA (by omega),aA (by omega),aA (by omega),aA (by omega),aA (by omega),aE (by omega)],aU9];exact t.drop⟩
  have q96:¬ (k=8\/k=9):=by rw [h96] at e96;exact cY e96.symm
  refine .sm Z<|.yw (.eql Z Z)<|.aq Z<|.ce Z (λh141=>?_) (λh141=>?_)
  ·refine .sq<|?_
   obtain ⟨bA,oA,pR,cR,hpA,mA,hR⟩:=cH2 hAr hM.2.2.2.1;subst hpA;have hal:=hM.len hM.2.2.2.1;have hc:=hM.2.2.2.1;refine .fL 13 [(0,0),(1,0),(2,0),(3,0),(4,0),(5,0),(6,0),(7,0),(8,0),(9,0),(10,0),(11,0),(12,2)]<|.mv Z<|.mv Z<|.nC Z<|.fA Z tZ<|.lD Z CC Hm Z<|.mv Z<|.nC Z<|.fA Z EI<|.lD Z dZ Hm Z<|.yw (.indexSl FF Z Z (i:=M.own) Z (by omega) (q:=oA+M.own * 1) Z)<|.yw (.loadM Z FL mA (k:=0) Z Z)<|.yw (.lenSl CU Z)<|.cs (X:=Value) lX Z (λW s=>tA (arL M M.own) hal.1 hb  (s.p2_2 [0,1] Z)) Z λz156 hz156=>?_
   have hh:=jB by_ hal.1;have hn2:=hM.num hM.2.2.2.1 hh;obtain ⟨bR,oR,hpR,mR⟩:=aX8 hR hh;subst hpR;refine .fn (tl:=[_]) Z<|.a Z Z<|.ns<|.mv Z<|.cs (X:=List Value × Value × Hp) nA Z (λW s=>yN M hM.1 2 (by decide) H w0 W _ b _ _ _ _ hz156  (s.p2_2 [0,1] Z)) Z λz158 hz158=>?_
   obtain ⟨x158,v158,H158⟩:=z158;obtain ⟨u158,r158,q158⟩:=hz158;dsimp only at u158 r158 q158|-;generalize hE158:(pM M 2 (bY by_ (arL M M.own)).2).1=e158 at r158;obtain ⟨op158,nm158,n158,a158⟩:=e158;obtain ⟨p158,c158,rfl,hs158,hl158⟩:=iR r158;have mA2:=mA.up u158.up;have mR2:=mR.up u158.up;refine .al jW Z λb13=>.sX .head Z Z eI Z<|.nt<|.sq<|.ft (p:=.light _ _ (.light _ _ (.light _ _ (.light _ _ (.light _ _ (.light _ _ (.light _ _ (.light _ _ (.light _ _ (.light _ _ (.light _ _ (.light _ _ (.light _ _ (.light _ _ (.light _ _ (.light _ _ (.alt _ _ _ (.light _ _ (.light _ _ (.alt _ _ _ (.alt _ _ _ (.alt _ _ _ (.light _ _ (.done)) (.no)) (.no)) (.alt _ _ _ (.alt _ _ _ (.alt _ _ _ (.light _ _ (.done)) (.no)) (.no)) (.no))))) (.alt _ _ _ (.alt _ _ _ (.light _ _ (.light _ _ (.alt _ _ _ (.alt _ _ _ (.light _ _ (.done)) (.no)) (.no)))) (.no)) (.no))))))))))))))))))) 23 (.light 1 (.light 4 (.light 6 (.light 7 (.light 8 (.light 9 (.light 10 (.light 11 (.light 12 (.light 13 (.light 14 (.light 15 (.light 16 (.light 17 (.light 18 (.light 19 (.alt 0 0 (.light 2 (.light 3 (.alt 5 0 (.alt 20 2 (.alt 21 2 (.light 22 (.done)) (.no)) (.no)) (.alt 20 2 (.alt 5 0 (.alt 21 2 (.light 22 (.done)) (.no)) (.no)) (.no))))) (.alt 5 0 (.alt 0 0 (.light 2 (.light 3 (.alt 20 2 (.alt 21 2 (.light 22 (.done)) (.no)) (.no)))) (.no)) (.no))))))))))))))))))) (by kernel_rfl) (by kernel_rfl) Z<|.mv Z<|.yw (.loadW Z dM Hm Z)<|.mv Z<|.mv Z<|.nC Z<|.fA Z tZ<|.lD Z CC dN Z<|.mv Z<|.nC Z<|.fA Z EI<|.lD Z dZ dN Z<|.yw (.indexSl FF Z Z (i:=M.own) Z (by omega) (q:=oA+M.own * 1) Z)<|.yw (.loadM Z FL mA2 (k:=0) Z Z)<|.mv Z<|.yw (.indexSl CU Z Z (i:=(bY by_ (arL M M.own)).1) Z (by omega) (q:=oR+(bY by_ (arL M M.own)).1 * 1) Z)<|.yw (.loadM Z dZ mR2 (k:=0) Z Z)<|.h ?_ (.h ?_ .nn)
   ·
    refine .ct (X:=Value) qT Z (λW s=>qS H158 104 3 (by omega) W s.agr) Z λv159 H159 hn159 u159=>?_;obtain ⟨pn159,cn159,e159,_⟩:=hn159.sl;simp only [aT,bV,aJ,lK] at e159;subst e159;obtain ⟨bE,oE,hpE,mE⟩:=yO hn159 (k:=(bY by_ (arL M M.own)).1) (by omega);subst hpE;refine .yw (.indexSl dR Z Z (i:=(bY by_ (arL M M.own)).1) Z (by omega) (q:=oE+(bY by_ (arL M M.own)).1 * 1) Z)<|.yw (.loadM Z bZ mE (k:=0) Z Z)<|.h ?_ (.h ?_ .nn)
    ·
     refine .blR Z (fT _ _ _ _) Z (z:=4) Z (by decide) λb164=>.h1<|.c3 (X:=Value × Value × Hp) xZ Z (λW s=>xT hM.1 (arN M M.own (bY by_ (arL M M.own)).1) (by omega) (q158.up u159.up)  (s.p4_4 [2,0,1,3] Z)) Z (λz179 hz179=>(.yv (.loadM Z bZ (mE.up hz179.1.up) (k:=0) Z Z)<|.yv (.indexSl dR Z Z (i:=(bY by_ (arL M M.own)).1) Z (by omega) (q:=oE+(bY by_ (arL M M.own)).1 * 1) Z)<|.d4<|.d4<|.d4<|.d2<|.yv (.loadW Z dM fN Z)<|.yv (.move Z)<|.nl)) λz179 hz179=>?_
     obtain ⟨x179,v179,H179⟩:=z179;obtain ⟨u179,⟨xs179,rz179,rs179,rl179⟩,q179⟩:=hz179;dsimp only at u179 rz179 rs179 q179|-;obtain ⟨pn179,cn179,rfl⟩:=rs179.sl;refine .h1<|.apR (news:=xs179) vJ Z (λ_=>fG) Z rs179 (by rw [rz179.len,aJ,rl179]) rz179.one (by simp [maxLen];omega) (by omega) Z (λ_=>(.yv (.loadM Z bZ (mE.up u179.up) (k:=0) Z Z)<|.yv (.indexSl dR Z Z (i:=(bY by_ (arL M M.own)).1) Z (by omega) (q:=oE+(bY by_ (arL M M.own)).1 * 1) Z)<|.d4<|.d4<|.d4<|.d3<|.yv (.move Z)<|.nl)) λp180 c180=>.yw (.build Z (BH _ _ _ _ _))<|.fn (tl:=[_]) Z<|.sX oB Z Z fB Z<|.zR<|?_
     refine At.pt (hd:=[_,_,_,_]) (tl:=bs) (hd':=[_,_,_]) [1,3,0] rfl rfl ?_;refine Sx.freezeAt λHf uf mf=>?_;exact y8 Z (.cell Z fH Hm rfl) λW t=>⟨(_,_,Hf),by rw [show jI M k d bd by_ lf=_ from by rw [jI,aA (by omega),aA (by omega),aA (by omega),aA (by omega),aA (by omega),aA (by omega),aE (by omega)],aY2,hE158];exact ⟨(u158.trans (u159.trans u179)).trans uf,gQ (kd:=7) (nm:=[]) (hd:=(nmB 104 (bY by_ (arL M M.own)).1)) (ex:=(.mk op158 nm158 n158 a158::(yJ M (arN M M.own (bY by_ (arL M M.own)).1) _).1)) (th:=[]) (el:=[]) (by first | decide | simp [nmB]) (by first | decide | simp [nmB]) (mf.rep (z:=4) (dA.app (dA.single (((r158.up u159.up).up u179.up).up uf.up) rfl) (rz179.up uf.up)) (by simp;omega)) (Rep.empty (by decide)) (Rep.empty (by decide)),q179.up uf.up,hlf⟩,Z,by rw [show jI M k d bd by_ lf=_ from by rw [jI,aA (by omega),aA (by omega),aA (by omega),aA (by omega),aA (by omega),aA (by omega),aE (by omega)],aY2,hE158];exact t.drop⟩
    refine .c3 (X:=Value × Value × Hp) xZ Z (λW s=>xT hM.1 (arN M M.own (bY by_ (arL M M.own)).1) (by omega) (q158.up u159.up)  (s.p3_3 [1,0,2] Z)) Z (λz179 hz179=>(.yv (.loadM Z bZ (mE.up hz179.1.up) (k:=0) Z Z)<|.yv (.indexSl dR Z Z (i:=(bY by_ (arL M M.own)).1) Z (by omega) (q:=oE+(bY by_ (arL M M.own)).1 * 1) Z)<|.d4<|.d4<|.d4<|.d2<|.yv (.loadW Z dM dN Z)<|.yv (.move Z)<|.nl)) λz179 hz179=>?_;obtain ⟨x179,v179,H179⟩:=z179;obtain ⟨u179,⟨xs179,rz179,rs179,rl179⟩,q179⟩:=hz179;dsimp only at u179 rz179 rs179 q179|-;obtain ⟨pn179,cn179,rfl⟩:=rs179.sl;refine .h1<|.blR Z (fT _ _ _ _) Z (z:=4) Z (by decide) λb164=>.h1<|.apR (news:=xs179) vJ Z (λ_=>.head) Z rs179 (by rw [rz179.len,aJ,rl179]) rz179.one (by simp [maxLen];omega) (by omega) Z (λ_=>(.yv (.loadM Z bZ (mE.up u179.up) (k:=0) Z Z)<|.yv (.indexSl dR Z Z (i:=(bY by_ (arL M M.own)).1) Z (by omega) (q:=oE+(bY by_ (arL M M.own)).1 * 1) Z)<|.d4<|.d4<|.d4<|.d3<|.yv (.move Z)<|.nl)) λp180 c180=>.yw (.build Z (BH _ _ _ _ _))<|.fn (tl:=[_]) Z<|.sX oB Z Z fB Z<|.zR<|?_
    refine At.pt (hd:=[_,_,_,_]) (tl:=bs) (hd':=[_,_,_]) [0,3,1] rfl rfl ?_;refine Sx.freezeAt λHf uf mf=>?_;exact y8 Z (.cell Z fH Hm rfl) λW t=>⟨(_,_,Hf),by rw [show jI M k d bd by_ lf=_ from by rw [jI,aA (by omega),aA (by omega),aA (by omega),aA (by omega),aA (by omega),aA (by omega),aE (by omega)],aY2,hE158];exact ⟨(u158.trans (u159.trans u179)).trans uf,gQ (kd:=7) (nm:=[]) (hd:=(nmB 104 (bY by_ (arL M M.own)).1)) (ex:=(.mk op158 nm158 n158 a158::(yJ M (arN M M.own (bY by_ (arL M M.own)).1) _).1)) (th:=[]) (el:=[]) (by first | decide | simp [nmB]) (by first | decide | simp [nmB]) (mf.rep (z:=4) (dA.app (dA.single (((r158.up u159.up).up u179.up).up uf.up) rfl) (rz179.up uf.up)) (by simp;omega)) (Rep.empty (by decide)) (Rep.empty (by decide)),q179.up uf.up,hlf⟩,Z,by rw [show jI M k d bd by_ lf=_ from by rw [jI,aA (by omega),aA (by omega),aA (by omega),aA (by omega),aA (by omega),aA (by omega),aE (by omega)],aY2,hE158];exact t.drop⟩
   refine .blR Z (fT _ _ _ _) Z (z:=4) Z (by decide) λb164=>.h1<|.ct (X:=Value) qT Z (λW s=>qS H158 104 3 (by omega) W s.agr) Z λv159 H159 hn159 u159=>?_
   obtain ⟨pn159,cn159,e159,_⟩:=hn159.sl;simp only [aT,bV,aJ,lK] at e159;subst e159;obtain ⟨bE,oE,hpE,mE⟩:=yO hn159 (k:=(bY by_ (arL M M.own)).1) (by omega);subst hpE;refine .yw (.indexSl dR Z Z (i:=(bY by_ (arL M M.own)).1) Z (by omega) (q:=oE+(bY by_ (arL M M.own)).1 * 1) Z)<|.yw (.loadM Z bZ mE (k:=0) Z Z)<|.h1<|.c3 (X:=Value × Value × Hp) xZ Z (λW s=>xT hM.1 (arN M M.own (bY by_ (arL M M.own)).1) (by omega) (q158.up u159.up)  (s.p4_4 [2,0,1,3] Z)) Z (λz179 hz179=>(.yv (.loadM Z bZ (mE.up hz179.1.up) (k:=0) Z Z)<|.yv (.indexSl dR Z Z (i:=(bY by_ (arL M M.own)).1) Z (by omega) (q:=oE+(bY by_ (arL M M.own)).1 * 1) Z)<|.d4<|.d4<|.d4<|.d2<|.yv (.loadW Z dM fN Z)<|.yv (.move Z)<|.nl)) λz179 hz179=>?_
   obtain ⟨x179,v179,H179⟩:=z179;obtain ⟨u179,⟨xs179,rz179,rs179,rl179⟩,q179⟩:=hz179;dsimp only at u179 rz179 rs179 q179|-;obtain ⟨pn179,cn179,rfl⟩:=rs179.sl;refine .h1<|.apR (news:=xs179) vJ Z (λ_=>fG) Z rs179 (by rw [rz179.len,aJ,rl179]) rz179.one (by simp [maxLen];omega) (by omega) Z (λ_=>(.yv (.loadM Z bZ (mE.up u179.up) (k:=0) Z Z)<|.yv (.indexSl dR Z Z (i:=(bY by_ (arL M M.own)).1) Z (by omega) (q:=oE+(bY by_ (arL M M.own)).1 * 1) Z)<|.d4<|.d4<|.d4<|.d3<|.yv (.move Z)<|.nl)) λp180 c180=>.yw (.build Z (BH _ _ _ _ _))<|.fn (tl:=[_]) Z<|.sX oB Z Z fB Z<|.zR<|?_
   refine At.pt (hd:=[_,_,_,_]) (tl:=bs) (hd':=[_,_,_]) [1,3,0] rfl rfl ?_;refine Sx.freezeAt λHf uf mf=>?_;exact y8 Z (.cell Z fH Hm rfl) λW t=>⟨(_,_,Hf),by rw [show jI M k d bd by_ lf=_ from by rw [jI,aA (by omega),aA (by omega),aA (by omega),aA (by omega),aA (by omega),aA (by omega),aE (by omega)],aY2,hE158];exact ⟨(u158.trans (u159.trans u179)).trans uf,gQ (kd:=7) (nm:=[]) (hd:=(nmB 104 (bY by_ (arL M M.own)).1)) (ex:=(.mk op158 nm158 n158 a158::(yJ M (arN M M.own (bY by_ (arL M M.own)).1) _).1)) (th:=[]) (el:=[]) (by first | decide | simp [nmB]) (by first | decide | simp [nmB]) (mf.rep (z:=4) (dA.app (dA.single (((r158.up u159.up).up u179.up).up uf.up) rfl) (rz179.up uf.up)) (by simp;omega)) (Rep.empty (by decide)) (Rep.empty (by decide)),q179.up uf.up,hlf⟩,Z,by rw [show jI M k d bd by_ lf=_ from by rw [jI,aA (by omega),aA (by omega),aA (by omega),aA (by omega),aA (by omega),aA (by omega),aE (by omega)],aY2,hE158];exact t.drop⟩
  refine .cu (X:=Bool) [(0,_),(1,_),(2,_),(6,_)] ⟨Z,Z,Z,Z,Jt⟩ (λz=>[(182,.bool z)]) (λz=>H) (λz=>(.box b (mkC M (.slice pA M.ars.length cA) bv (lf:Nat)) 172::.box b6 [.int .i64 0,.string ⟨#[]⟩,.string ⟨#[]⟩,.slice none 0 0,.slice none 0 0,.slice none 0 0] 205::bs)) (λz=>z=decide (k=11/\d<3)) ?_ λz hC=>?_
  ·
   refine .rg<|.mv Z<|.yw (.eql Z Z)<|.mv Z<|.e2 (λh185=>?_) (λh185=>?_)
   ·exact .gy (.move Z)<|.gy (.lss Z Z)<|.yw (.pickT Z Z)<|.aq Z<|.me _ ⟨Z,Jt⟩ ⟨Z,Z,Z,Z,Jt⟩ (λ_ s=>s) (by rw [bD,aB];first | (rw [aB];omega) | exact ⟨λ_=>by omega,λ_=>rfl⟩ | exact ⟨λh=>(by cases h),λh=>by omega⟩)
   exact .gG<|.gG<|.yw (.pickF Z Z)<|.aq Z<|.me _ ⟨Z,Jt⟩ ⟨Z,Z,Z,Z,Jt⟩ (λ_ s=>s) (by rw [bD,aB];first | (rw [aB];omega) | exact ⟨λ_=>by omega,λ_=>rfl⟩ | exact ⟨λh=>(by cases h),λh=>by omega⟩)
  have e182:=hC;refine .cd Z (λh182=>?_) (λh182=>?_)
  ·have q182:k=11/\d<3:=by rw [h182] at e182;exact dF e182.symm
   refine .sq<|.sm Z<|.cs (X:=Value) lX Z (λW s=>tA 2 (by decide) hb  (s.p2_2 [0,1] Z)) Z λz190 hz190=>.yw (.eql Z Z)<|.nt<|.ce Z (λh191=>?_) (λh191=>?_)
   ·refine .sm Z<|.cs (X:=Value × Value × Hp) xZ Z (λW s=>xT hM.1 2 (by decide) hz190  (s.p2_2 [0,1] Z)) Z λz193 hz193=>?_
    obtain ⟨x193,v193,H193⟩:=z193;obtain ⟨u193,⟨xs193,rz193,rs193,rl193⟩,q193⟩:=hz193;dsimp only at u193 rz193 rs193 q193|-;obtain ⟨pn193,cn193,rfl⟩:=rs193.sl;refine .a Z Z<|.ns<|.mv Z<|.mv Z<|.mv Z<|.yw (.add Z Z (c:=((d+1:Nat):Int)) ((w6 (by omega)).trans (by omega)))<|.cs (X:=Value × Value × Hp) tH Z (λW s=>hbd (by omega) H193 w0 W _ b _ _ lf _ hlf (hAr.up u193.up) q193  (s.p2_2 [0,1] Z)) Z λz198 hz198=>?_
    obtain ⟨x198,v198,H198⟩:=z198;obtain ⟨u198,r198,q198,l198⟩:=hz198;dsimp only at u198 r198 q198|-;obtain ⟨pb198,cb198,eb198,_⟩:=r198.sl;simp only [aT,bV,aJ] at eb198;subst eb198;refine .yw (.build Z (BG _ _ _ _ _ _ _))<|.sX fG Z Z fB Z<|.nt<|.rt<|.tR<|.bR<|.tR<|?_
    refine At.pt (hd:=[_,_]) (tl:=bs) (hd':=[_,_]) [1,0] rfl rfl ?_;exact y8 Z (.cell Z fH Hm rfl) λW t=>⟨(_,_,H198),by rw [show jI M k d bd by_ lf=_ from by rw [jI,aA (by omega),aA (by omega),aA (by omega),aA (by omega),aA (by omega),aA (by omega),aA (by omega),aE (by omega)],aE (by omega)];exact ⟨(u193.trans u198),gQ (kd:=8) (nm:=[]) (hd:=[]) (ex:=_) (th:=[]) (el:=_) (by first | decide | simp [nmB]) (by first | decide | simp [nmB]) ((rs193.up u198.up).rep (rz193.up u198.up) (by rw [aJ];exact rl193)) (Rep.empty (by decide)) r198,q198,l198⟩,Z,by rw [show jI M k d bd by_ lf=_ from by rw [jI,aA (by omega),aA (by omega),aA (by omega),aA (by omega),aA (by omega),aA (by omega),aA (by omega),aE (by omega)],aE (by omega)];exact t.drop⟩
   refine .sk<|.tN<|.sm Z<|.cs (X:=Value × Hp) LN Z (λW s=>KY hM.1 hz190  (s.p2_2 [0,1] Z)) Z λz201 hz201=>.a Z Z<|.ns<|.mv Z<|.cs (X:=List Value × Value × Hp) nA Z (λW s=>yN M hM.1 3 (by decide) z201.2 w0 W _ b _ _ _ _ hz201.2  (s.p2_2 [0,1] Z)) Z λz203 hz203=>?_
   obtain ⟨x203,v203,H203⟩:=z203;obtain ⟨u203,r203,q203⟩:=hz203;dsimp only at u203 r203 q203|-;generalize hE203:(pM M 3 (bY (bY by_ 2).2 M.ints).2).1=e203 at r203;obtain ⟨op203,nm203,n203,a203⟩:=e203;obtain ⟨p203,c203,rfl,hs203,hl203⟩:=iR r203;refine .al jW Z λb16=>.sX .head Z Z eI Z<|.nt<|.sq<|.ft (p:=.light _ _ (.light _ _ (.light _ _ (.light _ _ (.light _ _ (.alt _ _ _ (.alt _ _ _ (.light _ _ (.done)) (.no)) (.alt _ _ _ (.alt _ _ _ (.light _ _ (.done)) (.no)) (.no)))))))) 8 (.light 0 (.light 1 (.light 3 (.light 4 (.light 5 (.alt 2 0 (.alt 6 2 (.light 7 (.done)) (.no)) (.alt 6 2 (.alt 2 0 (.light 7 (.done)) (.no)) (.no)))))))) (by kernel_rfl) (by kernel_rfl) Z<|.mv Z<|.yw (.loadW Z dM Hm Z)<|.mv Z<|.mv Z<|.yw (.add Z Z (c:=((d+1:Nat):Int)) ((w6 (by omega)).trans (by omega)))<|.h ?_ (.h ?_ .nn)
   ·
    refine .bl Z (fT _ _ _ _) Z λb206=>.h1<|.c3 (X:=Value × Value × Hp) tH Z (λW s=>hbd (by omega) H203 w0 W _ b _ _ lf _ hlf (hAr.up (hz201.1.trans u203).up) q203  (s.p4_4 [2,0,1,3] Z)) Z (λz210 hz210=>(.d3<|.yv (.loadW Z dM fN Z)<|.yv (.move Z)<|.nl)) λz210 hz210=>?_
    obtain ⟨x210,v210,H210⟩:=z210;obtain ⟨u210,r210,q210,l210⟩:=hz210;dsimp only at u210 r210 q210|-;obtain ⟨pb210,cb210,eb210,_⟩:=r210.sl;simp only [aT,bV,aJ] at eb210;subst eb210;refine .yw (.build Z (DX _ _ _ _ _ _ _ _))<|.fn (tl:=[_]) Z<|.sX oB Z Z fB Z<|.zR<|?_
    refine At.pt (hd:=[_,_,_,_]) (tl:=bs) (hd':=[_,_,_]) [1,3,0] rfl rfl ?_;refine dD λHf uf mf=>?_;exact y8 Z (.cell Z fH Hm rfl) λW t=>⟨(_,_,Hf),by rw [show jI M k d bd by_ lf=_ from by rw [jI,aA (by omega),aA (by omega),aA (by omega),aA (by omega),aA (by omega),aA (by omega),aA (by omega),aE (by omega)],aA (by omega),cE8,hE203];exact ⟨(hz201.1.trans (u203.trans u210)).trans uf,gQ (kd:=9) (nm:=(nmB 120 _)) (hd:=[]) (ex:=[.mk op203 nm203 n203 a203]) (th:=[]) (el:=_) (by first | decide | simp [nmB]) (by first | decide | simp [nmB]) (Rep.mk (n:=1) (c:=1) mf (.single ((r203.up (u210).up).up uf.up) rfl) rfl (aK _) (by decide)) (Rep.empty (by decide)) (r210.up uf.up),q210.up uf.up,l210⟩,Z,by rw [show jI M k d bd by_ lf=_ from by rw [jI,aA (by omega),aA (by omega),aA (by omega),aA (by omega),aA (by omega),aA (by omega),aA (by omega),aE (by omega)],aA (by omega),cE8,hE203];exact t.drop⟩
   refine .c3 (X:=Value × Value × Hp) tH Z (λW s=>hbd (by omega) H203 w0 W _ b _ _ lf _ hlf (hAr.up (hz201.1.trans u203).up) q203  (s.p3_3 [1,0,2] Z)) Z (λz210 hz210=>(.d3<|.yv (.loadW Z dM dN Z)<|.yv (.move Z)<|.nl)) λz210 hz210=>?_;obtain ⟨x210,v210,H210⟩:=z210;obtain ⟨u210,r210,q210,l210⟩:=hz210;dsimp only at u210 r210 q210|-;obtain ⟨pb210,cb210,eb210,_⟩:=r210.sl;simp only [aT,bV,aJ] at eb210;subst eb210;refine .h1<|.bl Z (fT _ _ _ _) Z λb206=>.yw (.build Z (DX _ _ _ _ _ _ _ _))<|.fn (tl:=[_]) Z<|.sX oB Z Z fB Z<|.zR<|?_
   refine At.pt (hd:=[_,_,_,_]) (tl:=bs) (hd':=[_,_,_]) [0,3,1] rfl rfl ?_;refine dD λHf uf mf=>?_;exact y8 Z (.cell Z fH Hm rfl) λW t=>⟨(_,_,Hf),by rw [show jI M k d bd by_ lf=_ from by rw [jI,aA (by omega),aA (by omega),aA (by omega),aA (by omega),aA (by omega),aA (by omega),aA (by omega),aE (by omega)],aA (by omega),cE8,hE203];exact ⟨(hz201.1.trans (u203.trans u210)).trans uf,gQ (kd:=9) (nm:=(nmB 120 _)) (hd:=[]) (ex:=[.mk op203 nm203 n203 a203]) (th:=[]) (el:=_) (by first | decide | simp [nmB]) (by first | decide | simp [nmB]) (Rep.mk (n:=1) (c:=1) mf (.single ((r203.up (u210).up).up uf.up) rfl) rfl (aK _) (by decide)) (Rep.empty (by decide)) (r210.up uf.up),q210.up uf.up,l210⟩,Z,by rw [show jI M k d bd by_ lf=_ from by rw [jI,aA (by omega),aA (by omega),aA (by omega),aA (by omega),aA (by omega),aA (by omega),aA (by omega),aE (by omega)],aA (by omega),cE8,hE203];exact t.drop⟩
  have q182:¬ (k=11/\d<3):=by rw [h182] at e182;exact cY e182.symm
  refine .sm Z<|.yw (.eql Z Z)<|.mv Z<|.e2 (λh215=>?_) (λh215=>?_)
  ·refine .gy (.move Z)<|.gd Z Z<|.cs (X:=Value) lX Z (λW s=>tA 3 (by decide) hb  (s.p2_2 [0,1] Z)) Z λz217 hz217=>.gy (.eql Z Z)<|.yw (.pickT Z Z)<|.aq Z<|.ce Z (λh212=>?_) (λh212=>?_)
   ·refine .sr<|.yw (.build Z (QQ _))<|.sX fG Z Z fB Z<|.zR<|?_
    refine At.pt (hd:=[_,_]) (tl:=bs) (hd':=[_,_]) [1,0] rfl rfl ?_;exact y8 Z (.cell Z fH Hm rfl) λW t=>⟨(_,_,H),by rw [show jI M k d bd by_ lf=_ from by rw [jI,aA (by omega),aA (by omega),aA (by omega),aA (by omega),aA (by omega),aA (by omega),aA (by omega),aA (by omega),aE (by omega)]];exact ⟨.refl,gQ (kd:=10) (nm:=[]) (hd:=[]) (ex:=[]) (th:=[]) (el:=[]) (by first | decide | simp [nmB]) (by first | decide | simp [nmB]) (Rep.empty (by decide)) (Rep.empty (by decide)) (Rep.empty (by decide)),hz217,hlf⟩,Z,by rw [show jI M k d bd by_ lf=_ from by rw [jI,aA (by omega),aA (by omega),aA (by omega),aA (by omega),aA (by omega),aA (by omega),aA (by omega),aA (by omega),aE (by omega)]];exact t.drop⟩
   exact .sk<|.bN<|.tN<|.me _ trivial ⟨Z,Z,Jt⟩ (λ_ s=>s) (by first | exact ⟨by rw [aA (by omega)];exact hb,by omega⟩ | exact ⟨by rw [aE (by omega)];exact hz217,by omega⟩)
  exact .gG<|.gG<|.gG<|.yw (.pickF Z Z)<|.aq Z<|.cF Z<|.sk<|.bN<|.tN<|.me _ trivial ⟨Z,Z,Jt⟩ (λ_ s=>s) (by first | exact ⟨by rw [aA (by omega)];exact hb,by omega⟩ | exact ⟨by rw [aE (by omega)];exact hz217,by omega⟩)
 obtain ⟨hbz,hc1,hc2,hc3,hc4,hc5,hc6,hc7,hc8,hc9⟩:=hC;generalize hb1:(if k=12 then (bY by_ 3).2 else by_)=b1 at hbz;refine .sm Z<|.cs (X:=Value × Hp) LN Z (λW s=>KY hM.1 hbz  (s.p2_2 [0,1] Z)) Z λz222 hz222=>.a Z Z<|.ns<|.mv Z<|.mv Z<|.cs (X:=List Value × Value × Hp) nA Z (λW s=>yN M hM.1 3 (by decide) z222.2 w0 W _ b _ _ _ _ hz222.2  (s.p2_2 [0,1] Z)) Z λz225 hz225=>?_
 obtain ⟨x225,v225,H225⟩:=z225;obtain ⟨u225,r225,q225⟩:=hz225;dsimp only at u225 r225 q225|-;generalize hE225:(pM M 3 (bY b1 M.ints).2).1=e225 at r225;obtain ⟨op225,nm225,n225,a225⟩:=e225;obtain ⟨p225,c225,rfl,hs225,hl225⟩:=iR r225;refine .bl Z (fT _ _ _ _) Z λb226=>.yw (.build Z (xO _ _ _ _ _))<|.sX fU Z Z fB Z<|.nt<|.rt<|?_
 refine At.pt (hd:=[_,_,_]) (tl:=bs) (hd':=[_,_,_]) [0,2,1] rfl rfl ?_;refine dD λHf uf mf=>?_;exact y8 Z (.cell Z fH Hm rfl) λW t=>⟨(_,_,Hf),by rw [show jI M k d bd by_ lf=_ from by rw [jI,aA (by omega),aA (by omega),aA (by omega),aA (by omega),aA (by omega),aA (by omega),aA (by omega),aA (by omega),aA (by omega)],hb1,cZ8,hE225];exact ⟨(hz222.1.trans u225).trans uf,gQ (kd:=1) (nm:=(nmB 120 _)) (hd:=[]) (ex:=[.mk op225 nm225 n225 a225]) (th:=[]) (el:=[]) (by first | decide | simp [nmB]) (by first | decide | simp [nmB]) (Rep.mk (n:=1) (c:=1) mf (.single ((r225).up uf.up) rfl) rfl (aK _) (by decide)) (Rep.empty (by decide)) (Rep.empty (by decide)),q225.up uf.up,hlf⟩,Z,by rw [show jI M k d bd by_ lf=_ from by rw [jI,aA (by omega),aA (by omega),aA (by omega),aA (by omega),aA (by omega),aA (by omega),aA (by omega),aA (by omega),aA (by omega)],hb1,cZ8,hE225];exact t.drop⟩
def dF7 (st:Nat->Bs->Nat->Sm × (Bs × Nat)) (M:Mk) (d:Nat):Prop:=∀ (H:Hp) (w0 W:World) (bs:List Res) (b:Nat) (arV bv:Value) (lf:Nat) (by_:Bs) (k:Nat),lf<=12->Rep H (.seq 1 (M.ars.map dAr)) [arV]->Rep H (.seq 1 ((by_).map dU8)) [bv]->St H w0 (.box b (mkC M arV bv (lf:Nat)) 172::bs) W ->
 Calls prg 144 #[.pointer (some ⟨b,0,none⟩),iN k,iN d] W λe W'=>∃ z:List Value × Value × Hp,(HUp w0 H z.2.2/\Rep z.2.2 (dSm .i64 (st k by_ lf).1) z.1/\Rep z.2.2 (.seq 1 (((st k by_ lf).2.1).map dU8)) [z.2.1]/\(st k by_ lf).2.2<=12)/\e=.returned (.agg z.1.toArray)/\St z.2.2 w0 (.box b (mkC M arV z.2.1 ((st k by_ lf).2.2:Nat)) 172::bs) W'
theorem YM (M:Mk) (d:Nat) (hd:d<=3) (st:Nat->Bs->Nat->Sm × (Bs × Nat)) (hst_:dF7 st M d) (hmono:∀ k b lf,(st k b lf).2.2<=lf):cI9 (BF st 13) M d:=by
 intro H w0 W bs b arV bv lf by_ hlf hAr hb s;obtain ⟨pA,cA,eA,_⟩:=hAr.sl;simp only [aT,bV,aJ] at eA;subst eA;refine fD func109 rfl ntmps109 rfl s ?_;refine .sr<|.a Z Z<|.ns<|.a Z Z<|?_
 refine Sx.row0 205 6 ?_;refine .nt<|.sq<|.bk<|.lp (X:=Nat × Nat × Hp × Value × List Value × Value × Nat) [(0,_),(1,_)] ⟨Z,Z,Jt⟩ (bs) (λz=>[(5,z.2.2.2.1)]) (λz=>z.2.2.1) (λz=>[.row 205 6 z.2.2.2.1 z.1 z.2.2.2.2.1,.box b (mkC M (.slice pA M.ars.length cA) z.2.2.2.2.2.1 (z.2.2.2.2.2.2:Nat)) 172]) (λz=>z.2.2.2.2.2.2<z.2.1/\z.2.2.2.2.2.2<=12/\z.1+z.2.2.2.2.2.2<=12/\HUp w0 H z.2.2.1/\∃ (es:List Sm) (b1:Bs),es.length=z.1/\dA z.2.2.1 6 (es.map (dSm .i64)) z.2.2.2.2.1/\Rep z.2.2.1 (.seq 1 ((b1).map dU8)) [z.2.2.2.2.2.1]/\BF st 13 (by_,lf)=(es++(BF st z.2.1 (b1,z.2.2.2.2.2.2)).1,(BF st z.2.1 (b1,z.2.2.2.2.2.2)).2)) (λz=>z.2.1) (0,13,H,.slice none 0 0,[],bv,lf) (λ_ s=>s) ⟨Z,Jt⟩ ⟨by dsimp only;omega,hlf,by dsimp only;omega,.refl,[],by_,Z,dA.nil,hb,Z⟩ λz hC=>?_
 obtain ⟨k,f,H1,r,xs,bv,lf1⟩:=z;dsimp only at hC|-;obtain ⟨hf,hl1,hkl,u1,es,b1,hlen,hz,hb1,heq⟩:=hC;obtain ⟨f,rfl⟩:∃ g,f=g+1:=⟨f - 1,by omega⟩;obtain ⟨pB,cB,eB,hcB⟩:=hb1.sl;simp only [aT,bV,aJ] at eB hcB;subst eB;have hcapB:=hb1.cap;refine .sq<|.sm Z<|.nC Z<|.fA Z tY<|.lD Z sK dN Z<|.yw (.lenSl AE Z)<|.yw (.gtr Z Z)<|.mv Z<|.e2 (λh13=>?_) (λh13=>?_)
 ·have hb0:b1≠[]:=by intro e;rw [e] at h13;simp at h13
  refine .gy (.move Z)<|.gy (.nilCheck Z)<|.gy (.fieldAddr Z AG)<|.gy (.load Z dZ dN Z)<|.gy (.gtr Z Z)<|.yw (.pickT Z Z)<|.nt<|.ce Z (λh19=>?_) (λh19=>?_)
  ·have hnn:¬ (b1=[]\/lf1=0):=λh=>h.elim hb0 (λe=>by omega);refine .sk<|.tN<|.bk<|.sm Z<|.cs (X:=Value) lX Z (λW s=>tA 14 (by decide) hb1  (s.p2_2 [1,0] Z)) Z λz21 hz21=>.aq Z<|.sq<|.sm Z<|.yw (.eql Z Z)<|.nt<|.ce Z (λh23=>?_) (λh23=>?_)
   ·have h13:(bY b1 14).1=13:=by omega
    have heqF:BF st 13 (by_,lf)=(es,((bY b1 14).2,lf1)):=by rw [heq,BF,aA hnn,aE h13,aX]
    refine .sm Z<|.az Z<|.tR<|.bR<|.tR<|.bR<|.tR<|?_
    refine At.pt (hd:=[_,_]) (tl:=bs) (hd':=[_,_]) [1,0] rfl rfl ?_;refine dC (ds:=es.map (dSm .i64)) (by simp;omega) hz λH3 p3 c3 u3 hr3 hs3=>?_;exact y9 Z Z λW t=>⟨(r,_,H3),by rw [heqF];exact ⟨u1.trans u3,hs3,hz21.up u3.up,hl1⟩,Z,by rw [heqF];exact t⟩
   have h13:¬ (bY b1 14).1=13:=by omega
   refine .sk<|.tN<|.sm Z<|.nC Z<|.fA Z AG<|.lD Z dZ Hm Z<|.yw (.sub Z Z (c:=((lf1 - 1:Nat):Int)) ((w6 (by omega)).trans (by omega)))<|.nC Z<|.fA Z AG<|.st (l':=mkC M (.slice pA M.ars.length cA) z21 (lf1 - 1:Nat)) .head Z Z jG Z (nb Z) Z<|.nt<|.rg<|.mv Z<|.mv Z<|.mv Z<|.mv Z<|.cs (X:=List Value × Value × Hp) bA0 Z (λW s=>hst_ H1 w0 W _ b _ _ (lf1 - 1) (bY b1 14).2 (bY b1 14).1 (by omega) (hAr.up u1.up) hz21  (s.p2_2 [0,1] Z)) Z λz36 hz36=>?_
   have hst:=hmono (bY b1 14).1 (bY b1 14).2 (lf1 - 1);obtain ⟨x36,v36,H36⟩:=z36;obtain ⟨u36,r36,q36,l36⟩:=hz36;dsimp only at u36 r36 q36|-;generalize hE36:(st (bY b1 14).1 (bY b1 14).2 (lf1 - 1))=e36 at r36 q36 l36|-;obtain ⟨e36,b36s,lf36⟩:=e36;dsimp only at r36 q36 l36|-;obtain ⟨kd,nm,hd_,ex,th,el⟩:=e36;obtain ⟨p1,c1,p2,c2,p3,c3,rfl,hs1,hs2,hs3,hn1,hn2⟩:=vR r36;rw [hE36] at hst;dsimp only at hst;exact .bl Z (QM _ _ _ _ _ _) Z λb37=>.ap (news:=[.int .i64 kd.toNat,cJ nm,cJ hd_,.slice p1 ex.length c1,.slice p2 th.length c2,.slice p3 el.length c3]) ZB Z (λ_=>fU) Z (.box Hm z0) Z (by simp [Value.oneCell',cJ]) (by simp [maxLen];omega) (by omega) Z λr38 _=>.a Z Z<|.nl<|.bN<|.tN<|.ag (x:=(k,f+1,H1,r,xs,.slice pB b1.length cB,lf1)) (k+1,f,H36,r38,xs++[.int .i64 kd.toNat,cJ nm,cJ hd_,.slice p1 ex.length c1,.slice p2 th.length c2,.slice p3 el.length c3],v36,lf36) ⟨Z,Jt⟩ ⟨Z,Z,Jt⟩ (λ_ s=>(s.p3_2 [2,1] Z)) ⟨by dsimp only;have:=hst;omega,l36,by dsimp only;omega,u1.trans u36,es++[.mk kd nm hd_ ex th el],b36s,by simp;omega,by dsimp only;rw [aV];exact (hz.up u36.up).snoc r36 Z,q36,by dsimp only;rw [heq,BF,aA hnn,aA h13,hE36,aQ];rfl⟩ (by dsimp only;omega)
  have hbe:b1=[]\/lf1=0:=.inr (by omega);have heqF:BF st 13 (by_,lf)=(es,(b1,lf1)):=by rw [heq,BF,aE hbe,aX]
  refine .ex<|.eb<|.sm Z<|.az Z<|?_
  refine At.pt (hd:=[_,_]) (tl:=bs) (hd':=[_,_]) [0,1] rfl rfl ?_;refine dC (ds:=es.map (dSm .i64)) (by simp;omega) hz λH3 p3 c3 u3 hr3 hs3=>?_;exact y9 Z Z λW t=>⟨(r,_,H3),by rw [heqF];exact ⟨u1.trans u3,hs3,hb1.up u3.up,hl1⟩,Z,by rw [heqF];exact t⟩
 have hbe:b1=[]\/lf1=0:=.inl (cQ (by omega));have heqF:BF st 13 (by_,lf)=(es,(b1,lf1)):=by rw [heq,BF,aE hbe,aX]
 refine .gG<|.gG<|.gG<|.gG<|.gG<|.yw (.pickF Z Z)<|.nt<|.cF Z<|.ex<|.eb<|.sm Z<|.az Z<|?_
 refine At.pt (hd:=[_,_]) (tl:=bs) (hd':=[_,_]) [0,1] rfl rfl ?_;refine dC (ds:=es.map (dSm .i64)) (by simp;omega) hz λH3 p3 c3 u3 hr3 hs3=>?_;exact y9 Z Z λW t=>⟨(r,_,H3),by rw [heqF];exact ⟨u1.trans u3,hs3,hb1.up u3.up,hl1⟩,Z,by rw [heqF];exact t⟩
theorem IC (M:Mk) (k d:Nat) (bd:Bs × Nat->List Sm × (Bs × Nat)) (hm:∀ x,(bd x).2.2<=x.2) (b:Bs) (lf:Nat):(jI M k d bd b lf).2.2<=lf:=by
 unfold jI
 split
 ·exact aK _
 split
 ·exact aK _
 split
 ·exact aK _
 split
 ·exact cN (hm _) (hm _)
 split
 ·exact hm _
 split
 ·exact aK _
 split
 ·exact aK _
 split
 ·split
  ·exact hm _
  ·exact hm _
 split
 ·exact aK _
 ·exact aK _
theorem OV (st:Nat->Bs->Nat->Sm × (Bs × Nat)) (hm:∀ k b lf,(st k b lf).2.2<=lf):∀ f x,(BF st f x).2.2<=x.2
 | 0,x=>aK _
 | f+1,(b,lf)=>by
  unfold BF
  split
  ·exact aK _
  ·split
   ·exact aK _
   ·refine cN (OV st hm f _) (cN (hm _ _ _) (Nat.sub_le _ _))
theorem YO (M:Mk):∀ f x,(OX M f x).2.2<=x.2
 | 0,x=>OV _ (λk b lf=>IC M k 3 _ (λ_=>aK _) b lf) _ _
 | f+1,x=>OV _ (λk b lf=>IC M k (2 - f) _ (YO M f) b lf) _ _
theorem YN (M:Mk) (hM:okA M):∀ f,f<=3->cI9 (OX M f) M (3 - f)
 | 0,_=>YM M 3 (by omega) _ (WZ M hM 3 (by omega) _ λh=>by omega) λk b lf=>IC M k 3 _ (λ_=>aK _) b lf
 | f+1,hf=>by
  have e:3 - (f+1)=2 - f:=by omega
  rw [e];refine YM M (2 - f) (by omega) (λk=>jI M k (2 - f) (OX M f)) (WZ M hM (2 - f) (by omega) _ λ_=>?_) λk b lf=>IC M k (2 - f) _ (YO M f) b lf;rw [show 2 - f+1=3 - f by omega];exact YN M hM f (by omega)
theorem aI3 {α:Type} (l:List α) (n:Nat):l.take (min l.length n)=l.take n:=by
 by_cases h:n<=l.length
 ·rw [wN h]
 ·rw [iA (by omega),aI,nL (by omega)]
def okB (M:Mk):Prop:=0<M.ints/\M.ints<=3/\M.flags<=2/\0<M.ars.length/\M.ars.length<=3/\M.own<M.ars.length/\∀ l∈M.ars,0<l.length/\l.length<=3/\∀ n∈l,n<=2
theorem cW9 (h:okB M) (hk:k<arL M M.own):okA (M.at k):=by
 obtain ⟨h1,h2,h3,h4,h5,h6,h7⟩:=h;refine ⟨⟨h1,h2,?_,h3⟩,h4,h5,h6,h7⟩;have h8:=h7 _ (cD h6);unfold arL at hk;show arN M M.own k<=2;unfold arN;rw [oO h6] at hk|-;rw [oO hk];exact h8.2.2 _ (cD hk)
set_option maxHeartbeats 1000000 in
theorem QF (M:Mk) (hM:okB M) (l:List Cd) (hll:l.length<=arL M M.own) (H:Hp) (w0 W:World) (bs:List Res) (b:Nat) (arV bv v:Value) (left:Int) (hv:Rep H (.seq 2 (l.map dCd)) [v]) (hAr:Rep H (.seq 1 (M.ars.map dAr)) [arV]) (s:St H w0 (.box b (mkC M arV bv left) 172::bs) W) :
 Calls prg 67 #[.pointer (some ⟨b,0,none⟩),v] W λe W'=>∃ z:Value × Nat × Hp × Value × Int,(HUp w0 H z.2.2.1/\Rep z.2.2.1 (.seq 3 ((BV M 0 l).map (dHd .i64))) [z.1])/\e=.returned z.1/\St z.2.2.1 w0 (.box b (mkC { M with params:=z.2.1 } arV z.2.2.2.1 z.2.2.2.2) 172::bs) W':=by
 obtain ⟨pA,cA,eA,_⟩:=hAr.sl;simp only [aT,bV,aJ] at eA;subst eA;obtain ⟨bA,oA,pR,cR,hpA,mA,hR⟩:=cH2 hAr hM.2.2.2.2.2.1;subst hpA;obtain ⟨pl,cl,el,_⟩:=hv.sl;simp only [aT,bV,aJ] at el;subst el;have hs:=hv;have hcap:=hs.cap;refine fD func67 rfl ntmps67 rfl s ?_;refine .sr<|.a Z Z<|.ns<|.a Z Z<|?_
 refine Sx.row0 158 3 ?_;refine .nt<|.sq<|.sm Z<|.yw (.lenSl tQ Z)<|.mv Z<|.nt<|.bk<|.lp (X:=Nat × Nat × Hp × Value × List Value × Value × Int) [(0,_),(8,_),(9,_)] ⟨Z,Z,Z,Jt⟩ (bs) (λz=>[(5,z.2.2.2.1),(10,iN z.1)]) (λz=>z.2.2.1) (λz=>[.row 158 3 z.2.2.2.1 z.1 z.2.2.2.2.1,.box b (mkC ({ M with params:=z.2.1 }) (.slice (some ⟨bA,oA,none⟩) M.ars.length cA) z.2.2.2.2.2.1 z.2.2.2.2.2.2) 172]) (λz=>z.1<=l.length/\HUp w0 H z.2.2.1/\dA z.2.2.1 3 ((BV M 0 (l.take z.1)).map (dHd .i64)) z.2.2.2.2.1) (λz=>l.length - z.1) (0,M.params,H,.slice none 0 0,[],bv,left) (λ_ s=>s) ⟨Z,Z,Jt⟩ ⟨by simp,.refl,dA.nil⟩ λz hC=>?_
 obtain ⟨k,pv,H1,r,xs,bv,left⟩:=z;dsimp only at hC|-;obtain ⟨hk0,u1,hz⟩:=hC;refine .sr<|.yw (.lss Z Z)<|.nt<|.sq<|.ce Z (λh11=>?_) (λh11=>?_)
 ·have hk:k<l.length:=by omega
  obtain ⟨bE,oE,cE,hpE,rE,lE,mE⟩:=(hs.up u1.up).elem (eL (f:=dCd) hk);cases hpE;generalize hx:l[k]=cd at rE;obtain ⟨pc,cc,rfl,hcb⟩:=aE8 rE;have hal:=hM.2.2.2.2.2.2 _ (cD hM.2.2.2.2.2.1);have hown:=hM.2.2.2.2.2.1;have hkA:k<arL M M.own:=by omega
  have hokA:okA (M.at k):=cW9 hM hkA;have hn2:arN M M.own k<=2:=(hokA.1).2.2.1;have hk3:k<3:=by have:=(hokA.len hown).2;exact jO hkA this
  obtain ⟨bR,oR,hpR,mR⟩:=aX8 hR hkA;subst hpR;have mA1:=mA.up u1.up;have mR1:=mR.up u1.up;have hccap:=hcb.cap;refine .sk<|.tN<|.sq<|.bk<|.sm Z<|.yw (.indexSl tQ Z Z Z (by omega) (q:=oE+k * 2) Z)<|.yw (.loadMW Z bV4 mE Z)<|.al aY3 Z λb7=>.a Z Z<|.sX .head Z Z aY7 Z<|.nt<|.sq<|.fL 16 [(0,0),(1,0),(2,0),(3,0),(4,0),(5,0),(6,0),(7,0),(8,0),(9,0),(10,0),(11,0),(12,0),(13,0),(14,0),(15,0)]<|.mv Z<|.mv Z<|.nC Z<|.fA Z tZ<|.lD Z CC fN Z<|.mv Z<|.nC Z<|.fA Z EI<|.lD Z dZ fN Z<|.yw (.indexSl FF Z Z (i:=M.own) Z (by omega) (q:=oA+M.own * 1) Z)<|.yw (.loadM Z FL mA1 (k:=0) Z Z)<|.mv Z<|.yw (.indexSl CU Z Z (i:=k) Z (by omega) (q:=oR+k * 1) Z)<|.yw (.loadM Z dZ mR1 (k:=0) Z Z)<|.nC Z<|.fA Z AH<|.fn (tl:=[_]) Z<|.st (l':=mkC (M.at k) (.slice (some ⟨bA,oA,none⟩) M.ars.length cA) bv left) fU Z Z jG Z (nb Z) Z<|.nt<|.sq<|.fL 10 [(0,0),(1,0),(2,0),(3,0),(4,0),(5,0),(6,0),(7,0),(8,0),(9,0)]<|.mv Z<|.fA Z KD<|.lD Z sK Hm Z<|.fA Z KD<|.lD Z sK Hm Z<|.yw (.lenSl AE Z)<|.yw (.call JF Z (λW s=>IR H1 cd.bytes.length 40 W s.agr))<|.yw (.cutHi2 AE Z Z (h:=min cd.bytes.length 40) Z (by have:=hcb.len.2.1;omega))<|.nC Z<|.fA Z tY<|.fn (tl:=[_]) Z<|.st (l':=mkC (M.at k) (.slice (some ⟨bA,oA,none⟩) M.ars.length cA) _ left) fU Z Z JB Z (nb Z) Z<|.ns<|.mv Z<|.nC Z<|.fA Z AG<|.st (l':=mkC (M.at k) (.slice (some ⟨bA,oA,none⟩) M.ars.length cA) _ ((12:Nat):Int)) fU Z Z jG Z (nb Z) Z<|?_
  have hb40:=ET hcb (hi:=min cd.bytes.length 40) (by omega);rw [<-qE,aI3] at hb40;refine .nt<|.fL 14 [(0,0),(2,0),(5,0),(6,0),(7,0),(8,0),(10,0),(1,1),(3,0),(4,0),(9,1),(11,3),(12,0),(13,1)]<|.mv Z<|.mv Z<|.mv Z<|.nC Z<|.fA Z AH<|.lD Z dZ fN Z<|.mv Z<|.ct (X:=Value) qT Z (λW s=>qS H1 104 3 (by omega) W s.agr) Z λv45 H45 hn45 u45=>?_
  obtain ⟨pn45,cn45,e45,_⟩:=hn45.sl;simp only [aT,bV,aJ,lK] at e45;subst e45;obtain ⟨bN,oN,hpN,mN⟩:=yO hn45 (k:=k) hk3;subst hpN;refine .yw (.indexSl dR Z Z (i:=k) Z (by omega) (q:=oN+k * 1) Z)<|.yw (.loadM Z bZ mN (k:=0) Z Z)<|.ct (X:=Value) qT Z (λW s=>qS H45 112 (arN M M.own k) (by omega) W s.agr) Z λv53 H53 hn53 u53=>?_
  obtain ⟨pn53,cn53,e53,_⟩:=hn53.sl;simp only [aT,bV,aJ,lK] at e53;subst e53;refine .c3 (X:=Value × Value × Hp) tH Z (λW s=>YN (M.at k) hokA 3 (by decide) H53 w0 W _ b _ _ 12 (cd.bytes.take 40) (by decide) (hAr.up (u1.trans (u45.trans u53)).up) (hb40.up (u45.trans u53).up)  (s.p3_3 [2,0,1] Z)) Z (λz55 hz55=>(.yv (.loadM Z bZ (mN.up (u53.up.trans hz55.1.up)) (k:=0) Z Z)<|.yv (.indexSl dR Z Z (i:=k) Z (by omega) (q:=oN+k * 1) Z)<|.d3<|.d2<|.yv (.move Z)<|.yv (.move Z)<|.nl)) λz55 hz55=>?_;obtain ⟨x55,v55,H55⟩:=z55;obtain ⟨u55,r55,q55,l55⟩:=hz55;dsimp only at u55 r55 q55|-;obtain ⟨pb55,cb55,eb55,_⟩:=r55.sl;simp only [aT,bV,aJ] at eb55;subst eb55;exact .yw (.build Z (QZ _ _ _ _ _ _ _))<|.bl Z (HR _ _ _) Z λb57=>.fn (tl:=[_,_]) Z<|.ap (news:=[cJ (nmB 104 k),.slice pn53 (arN M M.own k) cn53,.slice pb55 (OX (M.at k) 3 (cd.bytes.take 40,12)).1.length cb55]) PD Z (λ_=>oB) Z (.box Hm z0) Z (by simp [Value.oneCell',cJ]) (by simp [maxLen];omega) (by omega) Z λr58 _=>.a Z Z<|.nl<|.bN<|.tN<|.rg<|.yw (.add Z Z w7)<|.mv Z<|.nt<|.ag (x:=(k,pv,H1,r,xs,bv,left)) (k+1,arN M M.own k,H55,r58,xs++[cJ (nmB 104 k),.slice pn53 (arN M M.own k) cn53,.slice pb55 (OX (M.at k) 3 (cd.bytes.take 40,12)).1.length cb55],v55,((OX (M.at k) 3 (cd.bytes.take 40,12)).2.2:Nat)) ⟨Z,Z,Jt⟩ ⟨Z,Z,Z,Jt⟩ (λ_ s=>(s.p4_2 [3,1] Z)) ⟨by dsimp only;omega,u1.trans (u45.trans (u53.trans u55)),by dsimp only;rw [bN4 hk,hx,aV];exact (hz.up ((u45.trans (u53.trans u55)).up)).snoc (MR (x:=hdS M k cd) (by simp [hdS,nmB]) (by simpa [hdS,lK] using hn53.up u55.up) (by simpa [hdS] using r55)) Z⟩ (by dsimp only;omega)
 obtain rfl:k=l.length:=by omega
 rw [aI] at hz;refine .ex<|.eb<|.sm Z<|.az Z<|?_
 refine At.pt (hd:=[_,_]) (tl:=bs) (hd':=[_,_]) [0,1] rfl rfl ?_;refine dC (ds:=(BV M 0 l).map (dHd .i64)) (by simp [AV]) hz λH3 p3 c3 u3 hr3 hs3=>?_;exact y9 Z Z λW t=>⟨(r,pv,H3,bv,left),⟨u1.trans u3,hs3⟩,Z,t⟩
theorem TB (n:Nat):Rep H (aE5 n) [iN n]:=cV8 rfl trivial
theorem bP1 (H:Hp) (x:Prt) (cs:List Value) (w:World) (h:Rep H (QX x) cs) (hA:Agr H w):Calls prg 66 #[.agg cs.toArray] w λr w'=>∃ (v:Value) (H':Hp),Rep H' (.seq 1 ((arP x).map aE5)) [v]/\r=.returned v/\BX H w H' w':=by
 obtain ⟨p1,c1,p2,c2,rfl,h1,h2⟩:=aK2 h;have hcap1:=h1.cap;have hcap2:=h2.cap;refine Sx.enter (H:=H) func66 rfl ntmps66 rfl hA ?_;refine .sr<|.bx Z Z Z λb1=>.a Z Z<|.ns<|.a Z Z<|?_
 refine Sx.row0 3 1 ?_;refine .nt<|.sq<|.sr<|.aq Z<|.bk<|.lp (X:=Nat × Nat × Value × List Value) [(1,_)] ⟨Z,Jt⟩ [_] (λz=>[(3,z.2.2.1),(4,iN z.1)]) (λz=>H) (λz=>[.row 3 1 z.2.2.1 z.2.1 z.2.2.2]) (λz=>z.1<=3/\z.2.1=(WB x z.1).length/\dA H 1 ((WB x z.1).map aE5) z.2.2.2) (λz=>3 - z.1) (0,0,.slice none 0 0,[]) (λ_ s=>s) ⟨Z,Z,Jt⟩ ⟨by simp,Z,dA.nil⟩ λz hC=>?_
 obtain ⟨k,n,r,xs⟩:=z;dsimp only at hC|-;obtain ⟨hk0,hn,hz⟩:=hC;have hn3:=UA x k;refine .sq<|.sm Z<|.yw (.lss Z Z)<|.nt<|.ce Z (λh6=>?_) (λh6=>?_)
 ·have hk3:k<3:=by omega
  refine .sk<|.tN<|.sq<|.bk<|.bk<|.sm Z<|.fA Z AI<|.lD Z wA dN Z<|.yw (.lenSl tQ Z)<|.yw (.lss Z Z)<|.aq Z<|.ce Z (λh9=>?_) (λh9=>?_)
  ·have hk:k<x.hs.length:=by omega
   obtain ⟨bE,oE,cE,hpE,rE,lE,mE⟩:=h1.elem (eL (f:=dCd) hk);cases hpE;obtain ⟨pc,cc,rfl,_⟩:=aE8 rE;exact .rg<|.mv Z<|.fA Z AI<|.lD Z wA dN Z<|.mv Z<|.yw (.indexSl tQ Z Z Z (by omega) (q:=oE+k * 2) Z)<|.fA Z KE<|.yw (.loadM Z xP mE (k:=0) Z Z)<|.yw (.rem Z Z (by decide) (c:=((x.hs[k].ps.toNat % 3:Nat):Int)) (by rw [dV (by omega)];omega))<|.yw (.conv Z xN tD (c:=((x.hs[k].ps.toNat % 3:Nat):Int)) (w6 (by omega)))<|.bl Z (AX _) Z λb24=>.ap (news:=[iN (x.hs[k].ps.toNat % 3)]) PF Z (λ_=>fG) Z (.box Hm z0) Z (by simp [Value.oneCell']) (by simp [maxLen];omega) (by omega) Z λr25 _=>.a Z Z<|.nl<|.bN<|.bN<|.tN<|.rg<|.mv Z<|.yw (.add Z Z w7)<|.aq Z<|.ag (x:=(k,n,r,xs)) (k+1,n+1,r25,xs++[iN (x.hs[k].ps.toNat % 3)]) ⟨Z,Z,Jt⟩ ⟨Z,Jt⟩ (λ_ s=>(s.pick [1,2] _ Z Z)) (by have hA1:arK x k=[x.hs[k].ps.toNat % 3]:=(by unfold arK;rw [zY hk]);exact ⟨by dsimp only;omega,by dsimp only;rw [vV,hA1];simp [hn],by dsimp only;rw [vV,hA1,aV];exact hz.snoc (TB _) Z⟩) (by dsimp only;omega)
  have hna:¬ k<x.hs.length:=by omega
  refine .sm Z<|.yw (.eql Z Z)<|.aq Z<|.ce Z (λh26=>?_) (λh26=>?_)
  ·have hb:k=0:=by omega
   exact .rg<|.mv Z<|.bl Z (AX _) Z λb30=>.ap (news:=[iN 1]) PF Z (λ_=>fG) Z (.box Hm z0) Z (by simp [Value.oneCell']) (by simp [maxLen];omega) (by omega) Z λr31 _=>.a Z Z<|.nl<|.bN<|.bN<|.tN<|.rg<|.mv Z<|.yw (.add Z Z w7)<|.aq Z<|.ag (x:=(k,n,r,xs)) (k+1,n+1,r31,xs++[iN 1]) ⟨Z,Z,Jt⟩ ⟨Z,Jt⟩ (λ_ s=>(s.pick [1,2] _ Z Z)) (by have hA1:arK x k=[1]:=(by unfold arK;rw [vM hna,aE hb]);exact ⟨by dsimp only;omega,by dsimp only;rw [vV,hA1];simp [hn],by dsimp only;rw [vV,hA1,aV];exact hz.snoc (TB _) Z⟩) (by dsimp only;omega)
  have hnb:¬ k=0:=by omega
  refine .sm Z<|.fA Z wW<|.lD Z wA dN Z<|.yw (.lenSl tQ Z)<|.yw (.lss Z Z)<|.aq Z<|.ce Z (λh32=>?_) (λh32=>?_)
  ·have hk:k<x.sec.length:=by omega
   obtain ⟨bE,oE,cE,hpE,rE,lE,mE⟩:=h2.elem (eL (f:=dCd) hk);cases hpE;obtain ⟨pc,cc,rfl,_⟩:=aE8 rE;exact .rg<|.mv Z<|.fA Z wW<|.lD Z wA dN Z<|.mv Z<|.yw (.indexSl tQ Z Z Z (by omega) (q:=oE+k * 2) Z)<|.fA Z KE<|.yw (.loadM Z xP mE (k:=0) Z Z)<|.yw (.rem Z Z (by decide) (c:=((x.sec[k].ps.toNat % 3:Nat):Int)) (by rw [dV (by omega)];omega))<|.yw (.conv Z xN tD (c:=((x.sec[k].ps.toNat % 3:Nat):Int)) (w6 (by omega)))<|.bl Z (AX _) Z λb47=>.ap (news:=[iN (x.sec[k].ps.toNat % 3)]) PF Z (λ_=>fG) Z (.box Hm z0) Z (by simp [Value.oneCell']) (by simp [maxLen];omega) (by omega) Z λr48 _=>.a Z Z<|.nl<|.bN<|.bN<|.tN<|.rg<|.mv Z<|.yw (.add Z Z w7)<|.aq Z<|.ag (x:=(k,n,r,xs)) (k+1,n+1,r48,xs++[iN (x.sec[k].ps.toNat % 3)]) ⟨Z,Z,Jt⟩ ⟨Z,Jt⟩ (λ_ s=>(s.pick [1,2] _ Z Z)) (by have hA1:arK x k=[x.sec[k].ps.toNat % 3]:=(by unfold arK;rw [vM hna,aA hnb,zY hk]);exact ⟨by dsimp only;omega,by dsimp only;rw [vV,hA1];simp [hn],by dsimp only;rw [vV,hA1,aV];exact hz.snoc (TB _) Z⟩) (by dsimp only;omega)
  have hnc:¬ k<x.sec.length:=by omega
  exact .sk<|.bN<|.bN<|.tN<|.rg<|.mv Z<|.yw (.add Z Z w7)<|.aq Z<|.ag (x:=(k,n,r,xs)) (k+1,n,r,xs) ⟨Z,Z,Jt⟩ ⟨Z,Jt⟩ (λ_ s=>(s.pick [0,1] _ Z Z)) (by have hA1:arK x k=[]:=(by unfold arK;rw [vM hna,aA hnb,vM hnc]);exact ⟨by dsimp only;omega,by dsimp only;rw [vV,hA1,aX];exact hn,by dsimp only;rw [vV,hA1,aX];exact hz⟩) (by dsimp only;omega)
 obtain rfl:k=3:=by omega
 refine .ex<|.eb<|.sm Z<|.az Z<|?_
 refine At.pm [0] [_] rfl rfl ?_;refine dC (ds:=(WB x 3).map aE5) (by simp [hn]) hz λH3 p3 c3 u3 hr3 hs3=>?_;exact y9 Z Z λW t=>⟨r,H3,hs3,Z,u3.grow t⟩
theorem fd2 (a m:Nat):Int.fdiv (a:Int) (2 ^ m)=((a / 2 ^ m:Nat):Int):=by
 rw [Int.fdiv_eq_ediv_of_nonneg _ (Int.pow_nonneg (by decide))];rw [Int.natCast_ediv,Int.natCast_pow];rfl
theorem tm2 (a b:Nat):Int.tmod (a:Int) (b:Int)=((a % b:Nat):Int):=by
 rw [dV (Int.natCast_nonneg _)];rfl
theorem dE7 (h:n<=3):IntKind.i64.wrap ((n:Int) * n)=((n * n:Nat):Int):=by
 have key:∀ i∈List.range 4,IntKind.i64.wrap ((i:Int) * i)=((i * i:Nat):Int):=by decide
 exact key n (bQ.2 (by omega))
theorem dE4 {a:Nat} (h:a / b<3):IntKind.i64.wrap (Int.tdiv (a:Int) (b:Int))=((a / b:Nat):Int):=by
 rw [lO (Int.natCast_nonneg _),show (a:Int) / (b:Int)=((a / b:Nat):Int) from rfl];have h3:∀ n:Nat,n<3->IntKind.i64.wrap (n:Int)=(n:Int):=λn hn=>w64 (by omega) (by omega);exact h3 _ h
theorem NV {α β:Type} {f:α->β} (l:List α) (n:Nat):(l.map f).take (min l.length n)=(l.map f).take n:=by
 have:=aI3 (l.map f) n
 rwa [aJ] at this
theorem bV9 (h:j<10):Rep H (dVr .i64 (vrI j)) [cJ (nmB 120 j),.int .i64 1,iN j]:=by
 have:=HX (H:=H) (k:=.i64) (x:=vrI j) (by simp [vrI,nmB]);have e:(Int64.ofNat j).toInt=(j:Int):=iX (by omega);rw [show (vrI j).init.toInt=(j:Int) from e] at this;exact this
theorem cC1 (a b:Nat) (h:n<4):Rep H (dLk ⟨yK a,yK b,Int64.ofNat n⟩) [cJ (yK a),cJ (yK b),iN n]:=by
 have:=RQ (H:=H) (x:=⟨yK a,yK b,Int64.ofNat n⟩) (by simp [yK]) (by simp [yK]);have e:(Int64.ofNat n).toInt=(n:Int):=iX (by omega);simp only [e] at this;exact this
theorem cN7 {l:Bs} (hk:k<l.length) (h:¬ 0<l[k].toNat % 4):aD3 n l k=[]:=by unfold aD3;rw [oO hk,aA h]
theorem cC0 {l:Bs} (hk:k<l.length) (h:0<l[k].toNat % 4):aD3 n l k=[⟨yK (k / n),yK (k % n),Int64.ofNat (l[k].toNat % 4)⟩]:=by unfold aD3;rw [oO hk,aE h]
theorem cW7 {p:Pln} {x:Prt} (hk:k<(fJ p).length) (hf:p.flags.toNat % 3<=2) (hpos:0<(fJ p).length/\(fJ p).length<=3) (hi:0<sF x/\sF x<=3):okB (mkP (rW p) (p.flags.toNat % 3) k x):=by
 refine ⟨hi.1,hi.2,hf,by simpa [mkP,rW] using hpos.1,by simpa [mkP,rW] using hpos.2,by simpa [mkP,rW] using hk,?_⟩;intro l hl;obtain ⟨y,_,rfl⟩:=jC.1 hl;have:=RX y;exact ⟨by omega,by omega,λn hn=>bI2 hn⟩
theorem cO8 {p:Pln} {nf:Nat} {x:Prt} (hk:k<(fJ p).length) (h:(rW p).getD k []=arP x):(VV x).length<=arL (mkP (rW p) nf k x) (mkP (rW p) nf k x).own:=by
 show _<=((rW p).getD k []).length;rw [h,RX];unfold VV
 split
 ·simp;omega
 ·rw [dJ];omega
theorem cL2 {p:Pln} {nf:Nat} {x:Prt} (hk:k<(fJ p).length) (h:(rW p).getD k []=arP x):(x.sec.take 3).length<=arL (mkP (rW p) nf k x) (mkP (rW p) nf k x).own:=by
 show _<=((rW p).getD k []).length;rw [h,RX,dJ];omega
theorem XX (M:Mk) (n:Nat):∀ (l:List Cd) (k:Nat),BV { M with params:=n } k l=BV M k l
 | [],_=>rfl
 | c::r,k=>by rw [BV,BV,XX M n r (k+1)];rfl
variable {v:Value}
theorem cD4 {l:List Cd} (h:Rep H (.seq 3 ((BV { M with params:=n } 0 l).map (dHd .i64))) [v]):Rep H (dVs .i64 (BV M 0 l)) [v]:=by rwa [XX] at h
set_option maxHeartbeats 8000000 in
theorem aX5 (H:Hp) (p:Pln) (cs:List Value) (w:World) (h:Rep H (aX1 p) cs) (hA:Agr H w):Calls prg 36 #[.agg cs.toArray] w λr w'=>∃ (v:List Value) (H':Hp),Rep H' (dFt .i64 (mX p)) v/\r=.returned (.agg v.toArray)/\BX H w H' w':=by
 obtain ⟨p1,c1,p2,c2,rfl,h1,h2⟩:=SR h;have hcap1:=h1.cap;have hcap2:=h2.cap;refine Sx.enter (H:=H) func36 rfl ntmps36 rfl hA ?_;refine .sr<|.bx Z Z Z λb1=>.al zK Z λb2=>.ns<|.fA Z NI<|.lD Z aT4 dN Z<|.yw (.lenSl IZ Z)<|.yw (.call JF Z (λW s=>IR H p.comps.length 3 W s.agr))<|.a Z Z<|.ns<|.fA Z NI<|.lD Z aT4 dN Z<|.mv Z<|.yw (.cutHi2 IZ Z Z (h:=min p.comps.length 3) Z (by have:=h2.len.2.1;omega))<|.aq Z<|.cu (X:=Nat × Hp × Value) [(1,_),(2,_)] ⟨Z,Z,Jt⟩ (λz=>[(3,iN z.1),(4,z.2.2)]) (λz=>z.2.1) (λz=>[.box b1 [.int .u8 p.flags.toNat,.slice p1 p.links.length c1,.slice p2 p.comps.length c2] 43,.box b2 [.string ⟨#[]⟩,.slice none 0 0,.slice none 0 0,.slice none 0 0] 85]) (λz=>z.1=(fJ p).length/\HUp w H z.2.1/\Rep z.2.1 (.seq 4 ((fJ p).map QX)) [z.2.2]) ?_ λz hC=>?_
 ·
  refine .sm Z<|.yw (.eql Z Z)<|.nt<|.ce Z (λh31=>?_) (λh31=>?_)
  ·have h0:p.comps.length=0:=by omega
   refine .rg<|.yw (.build Z bU4)<|.bl Z (bC3 _ _ _ _) Z λb33=>?_
   refine dD λH1 u1 m1=>?_;exact .a Z Z<|.aq Z<|.me (1,H1,_) ⟨Z,Z,Jt⟩ ⟨Z,Z,Jt⟩ (λ_ s=>s.pick [1,0] [_,_] Z Z) ⟨by rw [fJ,aE h0];rfl,u1,by rw [fJ,aE h0];exact Rep.mk (n:=1) (c:=1) m1 (.single (bZ6 (x:=⟨0,0,[],[]⟩) (Rep.empty (by decide)) (Rep.empty (by decide))) Z) Z (aK _) (by decide)⟩
  have h0:¬ p.comps.length=0:=by omega
  exact .sk<|.tN<|.me (min p.comps.length 3,H,_) ⟨Z,Z,Jt⟩ ⟨Z,Z,Jt⟩ (λ_ s=>s.pick [1,0] [_,_] Z Z) ⟨by rw [fJ,aA h0,dJ];exact Nat.min_comm _ _,.refl,by rw [fJ,aA h0,qE];have:=ET h2 (hi:=min p.comps.length 3) (by omega);rw [NV] at this;exact this⟩
 obtain ⟨N,H1,pv⟩:=z;dsimp only at hC|-;obtain ⟨hN,u1,hps⟩:=hC;obtain ⟨pp,cp,e,_⟩:=hps.sl;simp only [aT,bV,aJ] at e;subst e;subst hN;have hpos:=IJ p;have hl1:=h1.up u1.up;have hpcap:=hps.cap;have hf3:p.flags.toNat % 3<=2:=by omega
 refine .sr<|.yw (.build Z (bC8 _))<|.al zK Z λb5=>.sX .head Z Z yH Z<|.nt<|.sq<|.sr<|.fA Z NJ<|.lD Z xP dN Z<|.yw (.rem Z Z (by decide) (c:=((p.flags.toNat % 3:Nat):Int)) (by rw [dV (by omega)];omega))<|.yw (.conv Z xN tD (c:=((p.flags.toNat % 3:Nat):Int)) (w6 (by omega)))<|.ct (X:=Value) qT Z (λW s=>qS H1 102 (p.flags.toNat % 3) (by omega) W s.agr) Z λv39 H39 hn39 u39=>?_
 obtain ⟨pn39,cn39,e39,_⟩:=hn39.sl;simp only [aT,bV,aJ,lK] at e39;subst e39;refine .yw (.lenSl dR Z)<|.mv Z<|?_
 refine Sx.row0 141 2 ?_;refine .nt<|.bk<|.lp (X:=Nat × Value × List Value) [(1,_),(2,_),(3,_),(4,_),(5,_),(39,_),(40,_)] ⟨Z,Z,Z,Z,Z,Z,Z,Jt⟩ [_,_] (λz=>[(41,iN z.1)]) (λz=>H39) (λz=>[.row 141 2 z.2.1 z.1 z.2.2,.box b5 [cJ FU,z.2.1,.slice none 0 0,.slice none 0 0] 85]) (λz=>z.1<=(p.flags.toNat % 3)/\dA H39 2 ((MX p.flags z.1).map dFg) z.2.2) (λz=>(p.flags.toNat % 3) - z.1) (0,.slice none 0 0,[]) (λ_ s=>s) ⟨Z,Jt⟩ ⟨by simp,dA.nil⟩ λz hC=>?_
 obtain ⟨k,r,xs⟩:=z;dsimp only at hC|-;obtain ⟨hk0,hz⟩:=hC;refine .sr<|.yw (.lss Z Z)<|.nt<|.sq<|.ce Z (λh42=>?_) (λh42=>?_)
 ·have hk:k<(p.flags.toNat % 3):=by omega
  obtain ⟨bE,oE,hpE,mE⟩:=yO hn39 (k:=k) hk;subst hpE;exact .sk<|.tN<|.sq<|.bk<|.sm Z<|.yw (.indexSl dR Z Z (i:=k) Z (by omega) (q:=oE+k * 1) Z)<|.yw (.loadM Z bZ mE (k:=0) Z Z)<|.a Z Z<|.aq Z<|.fL 12 [(0,0),(1,0),(2,0),(3,0),(4,0),(5,0),(6,0),(7,0),(8,0),(9,0),(10,0),(11,1)]<|.fA Z vY<|.lD Z NS dN Z<|.mv Z<|.fA Z NJ<|.lD Z xP fN Z<|.mv Z<|.yw (.add Z Z (c:=((4+k:Nat):Int)) ((w6 (by omega)).trans (by omega)))<|.yw (.shr Z Z (m:=4+k) Z (by show 4+k<=8;omega) (c:=((p.flags.toNat / 2 ^ (4+k):Nat):Int)) (fd2 _ _))<|.yw (.rem Z Z (by decide) (c:=((p.flags.toNat / 2 ^ (4+k) % 2:Nat):Int)) (tm2 _ 2))<|.yw (.eql Z Z)<|.yw (.build Z (WS _ _))<|.bl Z (VD _ _) Z λb57=>.fn (tl:=[_,_,_]) Z<|.ap (news:=[cJ (nmB 102 k),.bool (bN7 p.flags k).init]) aQ6 Z (λ_=>fG) Z (.box Hm z0) Z (by simp [Value.oneCell',cJ,yK]) (by simp [maxLen];omega) (by omega) Z λr58 _=>.ra dN λp58 c58 e58=>.fA Z vY<|.st fU Z Z YX (by rw [e58];rfl) (nb Z) Z<|.nl<|.bN<|.tN<|.rg<|.yw (.add Z Z w7)<|.mv Z<|.nt<|.ag (x:=(k,r,xs)) (k+1,r58,xs++[cJ (nmB 102 k),.bool (bN7 p.flags k).init]) ⟨Z,Jt⟩ ⟨Z,Z,Z,Z,Z,Z,Z,Jt⟩ (λ_ s=>(s.pick [1,2,3,4] _ Z Z)) ⟨by dsimp only;omega,by dsimp only;rw [aW7,aV];exact hz.snoc (RW (x:=bN7 p.flags k) (by simp [bN7,nmB])) Z⟩ (by dsimp only;omega)
 obtain rfl:k=(p.flags.toNat % 3):=by omega
 refine dC (ds:=(MX p.flags (p.flags.toNat % 3)).map dFg) (by simp [OM]) hz λH4 p4 c4 u4 e4 hfl=>?_;subst e4;refine .ex<|.eb<|.sr<|.bl Z (qK _ _ _) Z λb61=>?_
 refine dD λH5 u5 m5=>?_;refine .aq Z<|.sq<|.sr<|.a Z Z<|?_
 refine Sx.row0 142 3 ?_;have hl5:=h1.up (u1.trans (u39.trans (u4.trans u5))).up;obtain ⟨NN,hNN⟩:∃ NN,NN=(fJ p).length * (fJ p).length:=⟨_,Z⟩;have hN9:NN<=9:=by rw [hNN];exact yU hpos.2 hpos.2
 refine .nt<|.bk<|.lp (X:=Nat × Nat × Value × List Value) [(1,_),(2,_),(3,_),(4,_),(5,_),(8,_)] ⟨Z,Z,Z,Z,Z,Z,Jt⟩ [_,_] (λz=>[(9,iN z.1)]) (λz=>H5) (λz=>[.row 142 3 z.2.2.1 z.2.1 z.2.2.2,.box b5 [cJ FU,.slice p4 (p.flags.toNat % 3) c4,z.2.2.1,.slice none 0 0] 85]) (λz=>z.1<=p.links.length/\z.1<=NN/\z.2.1=(EW (fJ p).length p.links z.1).length/\dA H5 3 ((EW (fJ p).length p.links z.1).map dLk) z.2.2.2) (λz=>p.links.length - z.1) (0,0,.slice none 0 0,[]) (λ_ s=>s) ⟨Z,Jt⟩ ⟨by simp,by simp,Z,dA.nil⟩ λz hC=>?_
 obtain ⟨k,m,r,xs⟩:=z;dsimp only at hC|-;obtain ⟨hk0,hk1,hm,hz⟩:=hC;have hmk:=IP (fJ p).length p.links k;refine .sq<|.cu (X:=Bool) [(1,_),(2,_),(3,_),(4,_),(5,_),(8,_),(9,_)] ⟨Z,Z,Z,Z,Z,Z,Z,Jt⟩ (λz=>[(73,.bool z)]) (λz=>H5) (λz=>[.row 142 3 r m xs,.box b5 [cJ FU,.slice p4 (p.flags.toNat % 3) c4,r,.slice none 0 0] 85,.box b2 [.string ⟨#[]⟩,.slice none 0 0,.slice none 0 0,.slice none 0 0] 85,.box b1 [.int .u8 p.flags.toNat,.slice p1 p.links.length c1,.slice p2 p.comps.length c2] 43]) (λz=>z=decide (k<p.links.length/\k<NN)) ?_ λz hC=>?_
 ·
  refine .rg<|.mv Z<|.fA Z GE<|.lD Z sK fN Z<|.yw (.lenSl AE Z)<|.yw (.lss Z Z)<|.mv Z<|.e2 (λh67=>?_) (λh67=>?_)
  ·exact .gy (.move Z)<|.gy (.move Z)<|.gy (.move Z)<|.gy (.mul Z Z (c:=((NN:Nat):Int)) (by rw [hNN];exact dE7 hpos.2))<|.gy (.lss Z Z)<|.yw (.pickT Z Z)<|.nt<|.me _ ⟨Z,Jt⟩ ⟨Z,Z,Z,Z,Z,Z,Z,Jt⟩ (λ_ s=>s.pick [0,1,3,2] [_,_,_,_] Z Z) (by rw [bD,aB];first | (rw [aB];omega) | exact ⟨λ_=>by omega,λ_=>rfl⟩ | exact ⟨λh=>(by cases h),λh=>by omega⟩)
  exact .gG<|.gG<|.gG<|.gG<|.gG<|.yw (.pickF Z Z)<|.nt<|.me _ ⟨Z,Jt⟩ ⟨Z,Z,Z,Z,Z,Z,Z,Jt⟩ (λ_ s=>s.pick [0,1,3,2] [_,_,_,_] Z Z) (by rw [bD,aB];first | (rw [aB];omega) | exact ⟨λ_=>by omega,λ_=>rfl⟩ | exact ⟨λh=>(by cases h),λh=>by omega⟩)
 have e73:=hC;refine .cd Z (λh73=>?_) (λh73=>?_)
 ·have q73:k<p.links.length/\k<NN:=by rw [h73] at e73;exact dF e73.symm
  obtain ⟨hkl,hkn⟩:=q73;obtain ⟨bE,oE,cE,hpE,rE,lE,mE⟩:=hl5.elem (eL (f:=dU8) hkl);cases hpE;obtain rfl:=bD3 rE
  have hdv:k / (fJ p).length<3:=by rw [xI hpos.1];calc k<NN:=hkn
   _=(fJ p).length * (fJ p).length:=hNN
   _<=3 * (fJ p).length:=sM _ hpos.2
  have hmd:k % (fJ p).length<3:=jO (xH _ hpos.1) hpos.2;refine .sk<|.tN<|.sq<|.bk<|.sr<|.fA Z GE<|.lD Z sK oU Z<|.mv Z<|.yw (.indexSl AE Z Z (i:=k) Z (by omega) (q:=oE+k * 1) Z)<|.yw (.loadM Z xP mE (k:=0) Z Z)<|.yw (.rem Z Z (by decide) (c:=((p.links[k].toNat % 4:Nat):Int)) (by rw [dV (by omega)];omega))<|.yw (.gtr Z Z)<|.nt<|.ce Z (λh82=>?_) (λh82=>?_)
  ·have hq:0<p.links[k].toNat % 4:=by omega
   exact .fL 23 [(0,0),(1,0),(2,0),(3,0),(4,0),(5,0),(6,0),(7,0),(8,0),(9,0),(10,0),(11,0),(12,0),(13,0),(14,0),(15,0),(16,0),(17,0),(18,0),(19,0),(20,0),(21,0),(22,1)]<|.fA Z yR<|.lD Z VL dN Z<|.mv Z<|.mv Z<|.mv Z<|.yw (.quo Z Z (by omega) (c:=((k / (fJ p).length:Nat):Int)) (dE4 hdv))<|.yw (.indexSl dR Z Z (i:=k / (fJ p).length) Z hdv (q:=k / (fJ p).length) (by omega))<|.yw (.loadM Z bZ m5 (k:=k / (fJ p).length) (by omega) (HQ hdv))<|.mv Z<|.mv Z<|.mv Z<|.yw (.rem Z Z (by omega) (c:=((k % (fJ p).length:Nat):Int)) (tm2 _ _))<|.yw (.indexSl dR Z Z (i:=k % (fJ p).length) Z hmd (q:=k % (fJ p).length) (by omega))<|.yw (.loadM Z bZ m5 (k:=k % (fJ p).length) (by omega) (HQ hmd))<|.fA Z GE<|.lD Z sK oU Z<|.mv Z<|.yw (.indexSl AE Z Z (i:=k) Z (by omega) (q:=oE+k * 1) Z)<|.yw (.loadM Z xP mE (k:=0) Z Z)<|.yw (.rem Z Z (by decide) (c:=((p.links[k].toNat % 4:Nat):Int)) (by rw [dV (by omega)];omega))<|.yw (.conv Z xN tD (c:=((p.links[k].toNat % 4:Nat):Int)) (w6 (by omega)))<|.yw (.build Z (RB _ _ _))<|.bl Z (VC _ _ _) Z λb105=>.fn (tl:=[_,_,_]) Z<|.ap (news:=[cJ (yK (k / (fJ p).length)),cJ (yK (k % (fJ p).length)),iN (p.links[k].toNat % 4)]) aQ5 Z (λ_=>fG) Z (.box Hm z0) Z (by simp [Value.oneCell',cJ,yK]) (by simp [maxLen];omega) (by omega) Z λr106 _=>.ra dN λp106 c106 e106=>.fA Z yR<|.st fU Z Z YW (by rw [e106];rfl) (nb Z) Z<|.nl<|.bN<|.tN<|.rg<|.mv Z<|.yw (.add Z Z w7)<|.aq Z<|.ag (x:=(k,m,r,xs)) (k+1,m+1,r106,xs++[cJ (yK (k / (fJ p).length)),cJ (yK (k % (fJ p).length)),iN (p.links[k].toNat % 4)]) ⟨Z,Jt⟩ ⟨Z,Z,Z,Z,Z,Z,Jt⟩ (λ_ s=>(s.pick [1,2,4,3] _ Z Z)) (by have hL:=cC0 (n:=(fJ p).length) hkl hq;exact ⟨by dsimp only;omega,by dsimp only;omega,by dsimp only;rw [CM,hL];simp [hm],by dsimp only;rw [CM,hL,aV];exact hz.snoc (cC1 _ _ (by omega)) Z⟩) (by dsimp only;omega)
  have hq:¬ 0<p.links[k].toNat % 4:=by omega
  exact .sk<|.bN<|.tN<|.rg<|.mv Z<|.yw (.add Z Z w7)<|.aq Z<|.ag (x:=(k,m,r,xs)) (k+1,m,r,xs) ⟨Z,Jt⟩ ⟨Z,Z,Z,Z,Z,Z,Jt⟩ (λ_ s=>(s.pick [0,1,3,2] _ Z Z)) (by have hL:=cN7 (n:=(fJ p).length) hkl hq;exact ⟨by dsimp only;omega,by dsimp only;omega,by dsimp only;rw [CM,hL,aX];exact hm,by dsimp only;rw [CM,hL,aX];exact hz⟩) (by dsimp only;omega)
 have q73:¬ (k<p.links.length/\k<NN):=by rw [h73] at e73;exact cY e73.symm
 have hkm:k=min p.links.length ((fJ p).length * (fJ p).length):=by rw [<-hNN];omega
 subst hkm;subst hm;refine dC (ds:=(EW (fJ p).length p.links (min p.links.length ((fJ p).length * (fJ p).length))).map dLk) (by simp) hz λH6 p6 c6 u6 e6 hlk=>?_;subst e6;have hfl6:=hfl.up (u5.trans u6).up;have hps6:=hps.up (u39.trans (u4.trans (u5.trans u6))).up;have m56:=m5.up u6.up;refine .ex<|.eb<|.sr<|.a Z Z<|?_
 refine Sx.row0 129 1 ?_;refine .nt<|.sq<|.sm Z<|.yw (.lenSl IZ Z)<|.mv Z<|.nt<|.bk<|.lp (X:=Nat × Hp × Value × List Value) [(2,_),(4,_),(5,_),(8,_),(108,_),(109,_)] ⟨Z,Z,Z,Z,Z,Z,Jt⟩ [_,_,_] (λz=>[(10,z.2.2.1),(110,iN z.1)]) (λz=>z.2.1) (λz=>[.row 129 1 z.2.2.1 z.1 z.2.2.2]) (λz=>z.1<=(fJ p).length/\HUp w H6 z.2.1/\dA z.2.1 1 ((((fJ p).take z.1).map arP).map dAr) z.2.2.2) (λz=>(fJ p).length - z.1) (0,H6,.slice none 0 0,[]) (λ_ s=>s) ⟨Z,Z,Jt⟩ ⟨by simp,.refl,dA.nil⟩ λz hC=>?_
 obtain ⟨k,H2,r,xs⟩:=z;dsimp only at hC|-;obtain ⟨hk0,u2,hz⟩:=hC;refine .sr<|.yw (.lss Z Z)<|.nt<|.sq<|.ce Z (λh111=>?_) (λh111=>?_)
 ·have hk:k<(fJ p).length:=by omega
  obtain ⟨bE,oE,cE,hpE,rE,lE,mE⟩:=(hps6.up u2.up).elem (eL (f:=QX) hk);cases hpE;refine .sk<|.tN<|.sq<|.bk<|.sr<|.yw (.indexSl IZ Z Z Z (by omega) (q:=oE+k * 4) Z)<|.yw (.loadMW Z PR mE lE)<|.al UB Z λb12=>.sV .head Z Z UF lE rE.one Z<|.nt<|.rg<|.mv Z<|.yw (.loadW Z PR Hm lE)<|.ct (X:=Value) bR9 Z (λW s=>bP1 H2 _ cE W rE s.agr) Z λv116 H116 hn116 u116=>?_
  obtain ⟨pn116,cn116,e116,_⟩:=hn116.sl;simp only [aT,bV,aJ] at e116;subst e116;exact .bl Z (aR5 _ _ _) Z λb117=>.ap (news:=[.slice pn116 (arP (fJ p)[k]).length cn116]) bQ0 Z (λ_=>fU) Z (.box Hm z0) Z (by simp [Value.oneCell']) (by simp [maxLen];omega) (by omega) Z λr118 _=>.a Z Z<|.nl<|.bN<|.tN<|.rg<|.yw (.add Z Z w7)<|.mv Z<|.nt<|.ag (x:=(k,H2,r,xs)) (k+1,H116,r118,xs++[.slice pn116 (arP (fJ p)[k]).length cn116]) ⟨Z,Z,Jt⟩ ⟨Z,Z,Z,Z,Z,Z,Jt⟩ (λ_ s=>(s.pick [2,3,4,5] _ Z Z)) ⟨by dsimp only;omega,u2.trans u116,by dsimp only;rw [gC hk,aV,aV];exact (hz.up u116.up).snoc hn116 Z⟩ (by dsimp only;omega)
 obtain rfl:k=(fJ p).length:=by omega
 rw [aI] at hz;refine dC (ds:=((fJ p).map arP).map dAr) (by simp) hz λH7 p7 c7 u7 e7 har=>?_;subst e7;have u67:=u2.trans u7;have hfl7:=hfl6.up u67.up;have hlk7:=hlk.up u67.up;have hps7:=hps6.up u67.up;have m57:=m56.up u67.up;refine .ex<|.eb<|.sq<|.sm Z<|.yw (.lenSl IZ Z)<|.mv Z<|?_
 refine Sx.row0 146 3 ?_;refine .nt<|.bk<|.lp (X:=Nat × Hp × Value × List Value) [(2,_),(5,_),(8,_),(10,_),(120,_),(121,_)] ⟨Z,Z,Z,Z,Z,Z,Jt⟩ [_,_] (λz=>[(122,iN z.1)]) (λz=>z.2.1) (λz=>[.row 146 3 z.2.2.1 z.1 z.2.2.2,.box b5 [cJ FU,.slice p4 (p.flags.toNat % 3) c4,.slice p6 (EW (fJ p).length p.links (min p.links.length ((fJ p).length * (fJ p).length))).length c6,z.2.2.1] 85]) (λz=>z.1<=(fJ p).length/\HUp w H7 z.2.1/\dA z.2.1 3 ((JY (rW p) (p.flags.toNat % 3) ((fJ p).take z.1)).map (dCp .i64)) z.2.2.2) (λz=>(fJ p).length - z.1) (0,H7,.slice none 0 0,[]) (λ_ s=>s) ⟨Z,Jt⟩ ⟨by simp,.refl,dA.nil⟩ λz hC=>?_
 obtain ⟨k,H2,rc,xs⟩:=z;dsimp only at hC|-;obtain ⟨hk0,u2,hz⟩:=hC;refine .sr<|.yw (.lss Z Z)<|.nt<|.sq<|.ce Z (λh123=>?_) (λh123=>?_)
 ·have hk:k<(fJ p).length:=by omega
  obtain ⟨bE,oE,cE,hpE,rE,lE,mE⟩:=(hps7.up u2.up).elem (eL (f:=QX) hk);cases hpE;have hpa:(rW p).getD k []=arP (fJ p)[k]:=by unfold rW;simp [hk]
  generalize hx:(fJ p)[k]=x at rE hpa;obtain ⟨q1,d1,q2,d2,rfl,g1,g2⟩:=aK2 rE;have hcap1:=g1.cap;have hcap2:=g2.cap;have hints:0<sF x/\sF x<=3:=by unfold sF;omega
  have htabs:yD x<=1:=by unfold yD;omega
  have m52:=m57.up u2.up;have k3:k<3:=by omega
  refine .sk<|.tN<|.sq<|.bk<|.sm Z<|.yw (.indexSl IZ Z Z Z (by omega) (q:=oE+k * 4) Z)<|.yw (.loadMW Z PR mE Z)<|.al UB Z λb14=>.a Z Z<|.sX .head Z Z UF Z<|.ns<|.mv Z<|.mv Z<|.yw (.indexSl dR Z Z (i:=k) Z k3 (q:=k) (by omega))<|.yw (.loadM Z bZ m52 (k:=k) (by omega) (HQ k3))<|.yw (.build Z (QR _))<|.al FY Z λb15=>.sX .head Z Z CW Z<|.nt<|.sq<|.sr<|.fA Z KI<|.lD Z xP dN Z<|.yw (.rem Z Z (by decide) (c:=((x.ints.toNat % 3:Nat):Int)) (by rw [dV (by omega)];omega))<|.yw (.conv Z xN tD (c:=((x.ints.toNat % 3:Nat):Int)) (w6 (by omega)))<|.yw (.add Z Z (c:=((sF x:Nat):Int)) ((w6 (by omega)).trans (by unfold sF;omega)))<|.ct (X:=Value) qT Z (λW s=>qS H2 120 (sF x) (by omega) W s.agr) Z λv137 H137 hn137 u137=>?_
  obtain ⟨pn137,cn137,e137,_⟩:=hn137.sl;simp only [aT,bV,aJ,lK] at e137;subst e137;refine .yw (.lenSl dR Z)<|.mv Z<|?_
  refine Sx.row0 148 3 ?_;refine .nt<|.bk<|.lp (X:=Nat × Value × List Value) [(2,_),(5,_),(8,_),(10,_),(13,_),(14,_),(15,_),(120,_),(121,_),(122,_),(137,_),(138,_)] ⟨Z,Z,Z,Z,Z,Z,Z,Z,Z,Z,Z,Z,Jt⟩ [_,_,_,_,_] (λz=>[(139,iN z.1)]) (λz=>H137) (λz=>[.row 148 3 z.2.1 z.1 z.2.2,.box b15 [cJ (yK k),z.2.1,.slice none 0 0] 146]) (λz=>z.1<=sF x/\dA H137 3 ((aA7 z.1).map (dVr .i64)) z.2.2) (λz=>sF x - z.1) (0,.slice none 0 0,[]) (λ_ s=>s) ⟨Z,Jt⟩ ⟨by simp,dA.nil⟩ λz hC=>?_
  obtain ⟨j,rv,ys⟩:=z;dsimp only at hC|-;obtain ⟨hj0,hzv⟩:=hC;refine .sr<|.yw (.lss Z Z)<|.nt<|.sq<|.ce Z (λh140=>?_) (λh140=>?_)
  ·have hj:j<sF x:=by omega
   obtain ⟨bN,oN,hpN,mN⟩:=yO hn137 (k:=j) hj;subst hpN;exact .sk<|.tN<|.sq<|.bk<|.sm Z<|.yw (.indexSl dR Z Z (i:=j) Z (by omega) (q:=oN+j * 1) Z)<|.yw (.loadM Z bZ mN (k:=0) Z Z)<|.a Z Z<|.aq Z<|.rg<|.fA Z mW<|.lD Z CE dN Z<|.mv Z<|.mv Z<|.yw (.build Z (BI _ _ _))<|.bl Z (DV _ _ _) Z λb149=>.ap (news:=[cJ (nmB 120 j),.int .i64 1,iN j]) JD Z (λ_=>fG) Z (.box Hm z0) Z (by simp [Value.oneCell',cJ,yK]) (by simp [maxLen];omega) (by omega) Z λr150 _=>.ra dN λp150 c150 e150=>.fA Z mW<|.st fU Z Z GA (by rw [e150];rfl) (nb Z) Z<|.nl<|.bN<|.tN<|.rg<|.yw (.add Z Z w7)<|.mv Z<|.nt<|.ag (x:=(j,rv,ys)) (j+1,r150,ys++[cJ (nmB 120 j),.int .i64 1,iN j]) ⟨Z,Jt⟩ ⟨Z,Z,Z,Z,Z,Z,Z,Z,Z,Z,Z,Z,Jt⟩ (λ_ s=>(s.pick [1,2,3,4,5,6,7] _ Z Z)) ⟨by dsimp only;omega,by dsimp only;rw [bJ2,aV];exact hzv.snoc (bV9 (by omega)) Z⟩ (by dsimp only;omega)
  obtain rfl:j=sF x:=by omega
  refine .ex<|.eb<|.sr<|.fA Z mW<|.lD Z CE dN Z<|.yw (.build Z (BI _ _ _))<|.bl Z (DV _ _ _) Z λb156=>.ap (news:=[cJ [98,48],.int .i64 2,.int .i64 0]) JD Z (λ_=>fG) Z (.box Hm z0) Z (by simp [Value.oneCell',cJ,yK]) (by simp [maxLen];omega) (by omega) Z λr157 _=>.ra dN λp157 c157 e157=>.fA Z mW<|.st fU Z Z GA (by rw [e157];rfl) (nb Z) Z<|.nt<|.sq<|.sr<|.fA Z KH<|.lD Z xP oU Z<|.yw (.rem Z Z (by decide) (c:=((x.tables.toNat % 2:Nat):Int)) (by rw [dV (by omega)];omega))<|.yw (.conv Z xN tD (c:=((yD x:Nat):Int)) ((w6 (by omega)).trans (by unfold yD;omega)))<|.ct (X:=Value) qT Z (λW s=>qS H137 116 (yD x) (by omega) W s.agr) Z λv163 H163 hn163 u163=>?_
  obtain ⟨pn163,cn163,e163,_⟩:=hn163.sl;simp only [aT,bV,aJ,lK] at e163;subst e163;refine .yw (.lenSl dR Z)<|.mv Z<|.nt<|.bk<|.pm [1,2,0,3,4,5,6,7] [_,_,_,_,_,_,_,_] Z Z<|.lp (X:=Nat × Value × List Value) [(2,_),(5,_),(8,_),(10,_),(13,_),(14,_),(15,_),(120,_),(121,_),(122,_),(163,_),(164,_)] ⟨Z,Z,Z,Z,Z,Z,Z,Z,Z,Z,Z,Z,Jt⟩ [_,_,_,_,_,_] (λz=>[(165,iN z.1)]) (λz=>H163) (λz=>[.row 148 3 z.2.1 (sF x+1+z.1) z.2.2,.box b15 [cJ (yK k),z.2.1,.slice none 0 0] 146]) (λz=>z.1<=yD x/\dA H163 3 ((aA7 (sF x)++[vrB]++aA6 z.1).map (dVr .i64)) z.2.2) (λz=>yD x - z.1) (0,r157,ys++[cJ [98,48],.int .i64 2,.int .i64 0]) (λ_ s=>s) ⟨Z,Jt⟩ ⟨by simp,by dsimp only;rw [show aA6 0=[] from Z,aX,aV];exact (hzv.up u163.up).snoc (HX (x:=vrB) (by decide)) Z⟩ λz hC=>?_
  obtain ⟨i,rv2,zs⟩:=z;dsimp only at hC|-;obtain ⟨hi0,hzt⟩:=hC;refine .sr<|.yw (.lss Z Z)<|.nt<|.sq<|.ce Z (λh166=>?_) (λh166=>?_)
  ·have hi:i<yD x:=by omega
   obtain ⟨bN,oN,hpN,mN⟩:=yO hn163 (k:=i) hi;subst hpN;exact .sk<|.tN<|.sq<|.bk<|.sr<|.yw (.indexSl dR Z Z (i:=i) Z (by omega) (q:=oN+i * 1) Z)<|.yw (.loadM Z bZ mN (k:=0) Z Z)<|.aq Z<|.rg<|.fA Z mW<|.lD Z CE dN Z<|.mv Z<|.yw (.build Z (BI _ _ _))<|.bl Z (DV _ _ _) Z λb173=>.ap (news:=[cJ (nmB 116 i),.int .i64 3,.int .i64 0]) JD Z (λ_=>fG) Z (.box Hm z0) Z (by simp [Value.oneCell',cJ,yK]) (by simp [maxLen];omega) (by omega) Z λr174 _=>.ra dN λp174 c174 e174=>.fA Z mW<|.st fU Z Z GA (by rw [e174];rfl) (nb Z) Z<|.nl<|.bN<|.tN<|.rg<|.yw (.add Z Z w7)<|.mv Z<|.nt<|.ag (x:=(i,rv2,zs)) (i+1,r174,zs++[cJ (nmB 116 i),.int .i64 3,.int .i64 0]) ⟨Z,Jt⟩ ⟨Z,Z,Z,Z,Z,Z,Z,Z,Z,Z,Z,Z,Jt⟩ (λ_ s=>(s.pick [1,2,3,4,5,6,7,8] _ Z Z)) ⟨by dsimp only;omega,by dsimp only;rw [bJ1,<-aQ,aV];exact hzt.snoc (HX (x:=cJ6 i) (by simp [cJ6,nmB])) Z⟩ (by dsimp only;omega)
  obtain rfl:i=yD x:=by omega
  refine dC (ds:=(PU x).map (dVr .i64)) (by simp [PU,SB,SA];omega) hzt λH8 pV cV u8 e8 hV=>?_;subst e8;have uB:=u137.trans (u163.trans u8);have g1b:=g1.up uB.up;have g2b:=g2.up uB.up;have harb:=har.up (u2.trans uB).up;refine .ex<|.eb<|.sr<|.fA Z KI<|.lD Z xP fN Z<|.yw (.rem Z Z (by decide) (c:=((x.ints.toNat % 3:Nat):Int)) (by rw [dV (by omega)];omega))<|.yw (.conv Z xN tD (c:=((x.ints.toNat % 3:Nat):Int)) (w6 (by omega)))<|.yw (.add Z Z (c:=((sF x:Nat):Int)) ((w6 (by omega)).trans (by unfold sF;omega)))<|.fA Z KH<|.lD Z xP fN Z<|.yw (.rem Z Z (by decide) (c:=((x.tables.toNat % 2:Nat):Int)) (by rw [dV (by omega)];omega))<|.yw (.conv Z xN tD (c:=((yD x:Nat):Int)) ((w6 (by omega)).trans (by unfold yD;omega)))<|.fA Z vY<|.lD Z NS QV Z<|.yw (.lenSl aF9 Z)<|.mv Z<|.mv Z<|.yw (.build Z (JQ _ _ _ _ _ _ _))<|.al aY4 Z λb20=>.sX .head Z Z aY8 Z<|.nt<|.sq<|.fL 7 [(0,0),(1,0),(2,0),(3,0),(4,0),(5,0),(6,0)]<|.fA Z AI<|.lD Z wA oU Z<|.fA Z AI<|.lD Z wA oU Z<|.yw (.lenSl tQ Z)<|.yw (.call JF Z (λW s=>IR H8 x.hs.length 3 W s.agr))<|.yw (.cutHi2 tQ Z Z (h:=min x.hs.length 3) Z (by have:=g1b.len.2.1;omega))<|.fn (tl:=[_]) Z<|.aq Z<|.cu (X:=Hp × Value) [(2,_),(5,_),(8,_),(10,_),(14,_),(15,_),(20,_),(120,_),(121,_),(122,_)] ⟨Z,Z,Z,Z,Z,Z,Z,Z,Z,Z,Jt⟩ (λz=>[(21,z.2)]) (λz=>z.1) (λz=>[.box b20 (mkC (mkP (rW p) (p.flags.toNat % 3) k x) (.slice p7 (fJ p).length c7) (.slice none 0 0) 0) 172,.box b15 [cJ (yK k),.slice pV (sF x+1+yD x) cV,.slice none 0 0] 146,.box b14 [.int .u8 x.ints.toNat,.int .u8 x.tables.toNat,.slice q1 x.hs.length d1,.slice q2 x.sec.length d2] 167,.row 146 3 rc k xs,.box b5 [cJ FU,.slice p4 (p.flags.toNat % 3) c4,.slice p6 (EW (fJ p).length p.links (min p.links.length ((fJ p).length * (fJ p).length))).length c6,rc] 85,.box b2 [.string ⟨#[]⟩,.slice none 0 0,.slice none 0 0,.slice none 0 0] 85,.box b1 [.int .u8 p.flags.toNat,.slice p1 p.links.length c1,.slice p2 p.comps.length c2] 43]) (λz=>HUp w H8 z.1/\Rep z.1 (.seq 2 ((VV x).map dCd)) [z.2]) ?_ λz hC=>?_
  ·
   refine .sm Z<|.yw (.lenSl tQ Z)<|.yw (.eql Z Z)<|.nt<|.ce Z (λh201=>?_) (λh201=>?_)
   ·have h0:x.hs.length=0:=by omega
    refine .rg<|.yw (.build Z (aS1 _))<|.bl Z (aR6 _ _) Z λb203=>?_
    refine dD λH9 u9 m9=>?_;exact .aq Z<|.me (H9,_) ⟨Z,Jt⟩ ⟨Z,Z,Z,Z,Z,Z,Z,Z,Z,Z,Jt⟩ (λ_ s=>s.pick [0,1,3,4,5,6,7] [_,_,_,_,_,_,_] Z Z) ⟨u9,by rw [VV,aE h0];exact Rep.mk (n:=1) (c:=1) m9 (.single (cQ8 (x:=⟨1,[]⟩) (Rep.empty (by decide))) Z) Z (aK _) (by decide)⟩
   have h0:¬ x.hs.length=0:=by omega
   exact .sk<|.tN<|.me (H8,_) ⟨Z,Jt⟩ ⟨Z,Z,Z,Z,Z,Z,Z,Z,Z,Z,Jt⟩ (λ_ s=>s.pick [0,1,3,4,5,6,7] [_,_,_,_,_,_,_] Z Z) ⟨.refl,by rw [VV,aA h0,qE];have:=ET g1b (hi:=min x.hs.length 3) (by omega);rwa [NV] at this⟩
  obtain ⟨H9,fv⟩:=z;dsimp only at hC|-;obtain ⟨u9,hfs⟩:=hC;have hoB:okB (mkP (rW p) (p.flags.toNat % 3) k x):=cW7 hk hf3 hpos hints;have hfl3:=cO8 (nf:=p.flags.toNat % 3) hk hpa;have hsl3:=cL2 (nf:=p.flags.toNat % 3) hk hpa;have g2c:=g2b.up u9.up;refine Sx.row0 152 1 ?_;refine .sq<|.fL 5 [(0,0),(1,0),(2,0),(3,3),(4,1)]<|.fA Z fX<|.lD Z nO fN Z<|.mv Z<|.c3 (X:=Value × Nat × Hp × Value × Int) ZO Z (λW s=>QF (mkP (rW p) (p.flags.toNat % 3) k x) hoB (VV x) hfl3 H9 w W _ b20 _ _ _ _  hfs (by simpa [mkP,rW] using harb.up u9.up) (s.pick [1,0,2,3,4,5,6,7] [_,_,_,_,_,_,_,_] Z Z)) Z (λz207 hz207=>(.dn<|.yv (.load Z nO fN Z)<|.yv (.fieldAddr Z fX)<|.nl)) λz207 hz207=>?_
  obtain ⟨v207,pv207,H207,bv207,lf207⟩:=z207;obtain ⟨u207,rr207⟩:=hz207;dsimp only at u207 rr207|-;obtain ⟨pn207,cn207,e207,_⟩:=rr207.sl;simp only [aT,bV,aJ,AV] at e207;subst e207;refine .bl Z (vK _ _ _) Z λb208=>.fn (tl:=[_,_,_]) Z<|.ap (news:=[.slice pn207 (VV x).length cn207]) zS Z (λ_=>fU) Z (.box Hm z0) Z (by simp [Value.oneCell']) (by simp [maxLen]) (by omega) Z λr209 _=>.ra fN λp209 c209 e209=>.fA Z fX<|.st oB Z Z xX (by rw [e209];rfl) (nb Z) Z<|.nt<|.cu (X:=Hp × Value × List Value) [(2,_),(5,_),(8,_),(10,_),(15,_),(120,_),(121,_),(122,_)] ⟨Z,Z,Z,Z,Z,Z,Z,Z,Jt⟩ (λz=>[]) (λz=>z.1) (λz=>[.row 152 1 z.2.1 (EN (mkP (rW p) (p.flags.toNat % 3) k x) x).length z.2.2,.box b15 [cJ (yK k),.slice pV (sF x+1+yD x) cV,z.2.1] 146,.row 146 3 rc k xs,.box b5 [cJ FU,.slice p4 (p.flags.toNat % 3) c4,.slice p6 (EW (fJ p).length p.links (min p.links.length ((fJ p).length * (fJ p).length))).length c6,rc] 85,.box b2 [.string ⟨#[]⟩,.slice none 0 0,.slice none 0 0,.slice none 0 0] 85,.box b1 [.int .u8 p.flags.toNat,.slice p1 p.links.length c1,.slice p2 p.comps.length c2] 43]) (λz=>HUp w H9 z.1/\dA z.1 1 ((EN (mkP (rW p) (p.flags.toNat % 3) k x) x).map (dVs .i64)) z.2.2) ?_ λz hC=>?_
  ·
   refine .sr<|.fA Z wW<|.lD Z wA QV Z<|.yw (.lenSl tQ Z)<|.yw (.gtr Z Z)<|.nt<|.ce Z (λh214=>?_) (λh214=>?_)
   ·have hsc:0<x.sec.length:=by omega
    refine .fL 11 [(0,0),(1,0),(2,0),(3,0),(4,0),(5,0),(6,0),(7,0),(8,0),(9,3),(10,1)]<|.fA Z fX<|.lD Z nO oU Z<|.fA Z wW<|.lD Z wA QV Z<|.fA Z wW<|.lD Z wA QV Z<|.yw (.lenSl tQ Z)<|.yw (.call JF Z (λW s=>IR H207 x.sec.length 3 W s.agr))<|.yw (.cutHi2 tQ Z Z (h:=min x.sec.length 3) Z (by have:=g2c.len.2.1;omega))<|.c3 (X:=Value × Nat × Hp × Value × Int) ZO Z (λW s=>QF { (mkP (rW p) (p.flags.toNat % 3) k x) with params:=pv207 } hoB (x.sec.take 3) hsl3 H207 w W _ b20 _ _ _ _  (by have:=ET (g2c.up u207.up) (hi:=min x.sec.length 3) (by omega);rw [NV,<-qE] at this;exact this) (by simpa [mkP,rW] using harb.up (u9.trans u207).up) (s.pick [1,0,2,3,4,5,6,7,8] [_,_,_,_,_,_,_,_,_] Z Z)) Z (λz224 hz224=>(.d4<|.d3<|.yv (.load Z nO oU Z)<|.yv (.fieldAddr Z fX)<|.nl)) λz224 hz224=>?_
    obtain ⟨v224,pv224,H224,bv224,lf224⟩:=z224;obtain ⟨u224,rr224⟩:=hz224;dsimp only at u224 rr224|-;obtain ⟨pn224,cn224,e224,_⟩:=rr224.sl;simp only [aT,bV,aJ,AV] at e224;subst e224;exact .bl Z (vK _ _ _) Z λb225=>.fn (tl:=[_,_,_]) Z<|.ap (news:=[.slice pn224 (x.sec.take 3).length cn224]) zS Z (λ_=>oB) Z (.box Hm z0) Z (by simp [Value.oneCell']) (by simp [maxLen]) (by omega) Z λr226 _=>.ra oU λp226 c226 e226=>.fA Z fX<|.st QS Z Z xX (by rw [e226];rfl) (nb Z) Z<|.nt<|.me (H224,r226,_) trivial ⟨Z,Z,Z,Z,Z,Z,Z,Z,Jt⟩ (λ_ s=>by rw [show (EN (mkP (rW p) (p.flags.toNat % 3) k x) x).length=0+1+1 by rw [EN,aE hsc];rfl];exact (s.pick [3,4,6,7,8,9] _ Z Z)) ⟨u207.trans u224,by rw [EN,aE hsc];exact dA.app (.single (rr207.up u224.up) Z) (.single (cD4 rr224) Z)⟩
   have hsc:¬ 0<x.sec.length:=by omega
   exact .sk<|.tN<|.me (H207,r209,_) trivial ⟨Z,Z,Z,Z,Z,Z,Z,Z,Jt⟩ (λ_ s=>by rw [show (EN (mkP (rW p) (p.flags.toNat % 3) k x) x).length=0+1 by rw [EN,aA hsc];rfl];exact (s.pick [2,3,5,6,7,8] _ Z Z)) ⟨u207,by rw [EN,aA hsc];exact .single rr207 Z⟩
  obtain ⟨H10,rs,ws⟩:=z;dsimp only at hC|-;obtain ⟨u10,hzs⟩:=hC;refine dC (ds:=(EN (mkP (rW p) (p.flags.toNat % 3) k x) x).map (dVs .i64)) (by simp) hzs λHE pS cS u11 e11 hSE=>?_;subst e11;have uE:=uB.trans (u9.trans (u10.trans u11));have hVE:=hV.up (u9.trans (u10.trans u11)).up;exact .rg<|.fA Z vX<|.lD Z NR fN Z<|.yw (.loadW Z CD Hm Z)<|.bl Z (VB _ _ _) Z λb231=>.ap (news:=[cJ (yK k),.slice pV (sF x+1+yD x) cV,.slice pS (EN (mkP (rW p) (p.flags.toNat % 3) k x) x).length cS]) aQ4 Z (λ_=>fU) Z (.box Hm z0) Z (by simp [Value.oneCell',cJ,yK]) (by simp [maxLen];omega) (by omega) Z λr232 _=>.ra fN λp232 c232 e232=>.fA Z vX<|.st oB Z Z YV (by rw [e232];rfl) (nb Z) Z<|.nl<|.bN<|.tN<|.rg<|.yw (.add Z Z w7)<|.mv Z<|.nt<|.ag (x:=(k,H2,rc,xs)) (k+1,HE,r232,xs++[cJ (yK k),.slice pV (sF x+1+yD x) cV,.slice pS (EN (mkP (rW p) (p.flags.toNat % 3) k x) x).length cS]) ⟨Z,Jt⟩ ⟨Z,Z,Z,Z,Z,Z,Jt⟩ (λ_ s=>(s.pick [2,3,4,5] _ Z Z)) ⟨by dsimp only;omega,u2.trans uE,by dsimp only;rw [aX2 hk,hx,aV];exact (hz.up uE.up).snoc (IU (x:=aE7 (rW p) (p.flags.toNat % 3) k x) (by simp [aE7,yK]) hVE hSE) Z⟩ (by dsimp only;omega)
 obtain rfl:k=(fJ p).length:=by omega
 rw [aI] at hz;refine dC (ds:=(JY (rW p) (p.flags.toNat % 3) (fJ p)).map (dCp .i64)) (by simp [IW]) hz λHF pc cc uF eF hcs=>?_;subst eF;have uZ:=u2.trans uF;refine .ex<|.eb<|.sr<|.yw (.loadW Z AY Hm Z)<|.sX fG Z Z yH Z<|.nt<|.rt<|?_
 exact y8 Z (.cell Z AY dN rfl) λW t=>⟨_,HF,MV (x:=mX p) (show FU.length<=1000000 by decide) (hfl7.up uZ.up) (hlk7.up uZ.up) hcs,Z,((((u1.trans (u39.trans (u4.trans (u5.trans u6)))).trans u67).trans uZ).grow t)⟩
theorem aT3:jP prg 43=some (some 3):=by kernel_rfl
theorem bU0:cU prg 21=true:=by kernel_rfl
theorem bT4:cU prg 36=true:=by kernel_rfl
theorem LL:(∀ a b:Str,(a++b).length=a.length+b.length)/\(∀ (x:UInt8) (l:Str),(x::l).length=l.length+1)/\([]:Str).length=0/\(∀ n p,(kB n p).length=2 * n+p.flatten.length+1)/\(∀ (x:Str) (l:List Str),(x::l).flatten=x++l.flatten)/\([]:List Str).flatten=[] :=
 ⟨λ_ _=>aD,λ_ _=>rfl,Z,mJ,λ_ _=>rfl,Z⟩
theorem YL (q:Bool):(QJ q).length<=5:=by cases q <;> decide
theorem bW8 (op:UInt8) (nm:Str) (n:Int64) (ls:List (Nat × Str)) (A:Nat) (hA:2<=A) (hn:nm.length<=12) (h:∀ x∈ls,x.2.length<=A):(txt op nm n ls).length<=2 * A+22:=by
 have hg:∀ i,(ls.getD i (0,[])).2.length<=A:=λi=>by
  rw [List.getD_eq_getElem?_getD];cases e:ls[i]? with
  | none=>simp
  | some x=>simpa using h x (Al_List_mem_of_getElem? e)
 have h0:=hg 0;have h1:=hg 1;have ht:=EP op;have hi:=MQ n;have o1:=BT (cW op).lv (ls.getD 0 (0,[]));have o2:=BT (JO (cW op).lv) (ls.getD 0 (0,[]));have o3:=BT ((cW op).lv+1) (ls.getD 1 (0,[]));unfold txt
 split
 ·omega
 split
 ·simp only [aD];omega
 split
 ·simp only [aD,aH,aS];omega
 split
 ·simp only [aD];omega
 split
 ·omega
 ·simp only [aD];omega
theorem bK0 (e:Ex):∀ d,e.depth<=d->Ex.all wS e=true->Ex.all lP e=true->e.text.length+22<=46 * 2 ^ d:=by
 induction e using Ex.ind with | _ op nm n args ih
 intro d hd h1 h2;rw [sH] at hd;rw [nK,aF] at h1 h2;obtain ⟨d,rfl⟩:∃ k,d=k+1:=⟨d - 1,by omega⟩;have hp:0<2 ^ d:=Nat.pow_pos (by omega)
 have h:=bW8 op nm n (args.map λe=>((cW e.op).lv,Ex.text e)) (46 * 2 ^ d - 22) (by omega) (cB2 h1.1 h2.1) λx hx=>by
  obtain ⟨a,ha,rfl⟩:=jC.1 hx;have:=OS ha;have:=ih a ha d (by omega) (iV ha h1.2) (iV ha h2.2);dsimp only;omega
 rw [gN,Nat.pow_succ];omega
theorem TG {M:Nat} :∀ (l:List Str),(∀ x∈l,x.length<=M)->(wH l).length<=(M+2) * l.length
 | [],_=>by simp [wH,Lib.join_nil]
 | a::r,h=>by
  unfold wH;rw [Lib.join_cons,aD,Lib.joinTail_length];have h1:=h a Hm
  have h2:Lib.lens r<=M * r.length:=by
   have h3:∀ x∈r,x.length<=M:=λx hx=>h x (.tail _ hx);clear h h1;induction r with
   | nil=>simp [Lib.lens]
   | cons b t ih =>
    have h4:=h3 b Hm;have h5:=ih λx hx=>h3 x (.tail _ hx);simp only [Lib.lens,dT,List.sum_cons,aH,vO] at h5|-;omega
  simp only [aH,aS,vO,yV];omega
theorem aN8 {es:List Str} {A:Nat} (h:∀ x∈es,x.length<=A) (i:Nat):(es.getD i []).length<=A:=by
 rw [List.getD_eq_getElem?_getD];cases e:es[i]? with
 | none=>simp
 | some x=>simpa using h x (Al_List_mem_of_getElem? e)
theorem cK8 (n:Nat) (kd:UInt8) (nm hd:Str) (es:List Str) (T:Str) (q:Bool) (E:Str) (A:Nat) (h1:nm.length<=12) (h2:hd.length<=12) (h3:es.length<=5) (h4:∀ x∈es,x.length<=A):(stT n kd nm hd es T q E).length<=T.length+E.length+6 * n+6 * A+200:=by
 have g0:=aN8 h4 0;have g1:=aN8 h4 1;have j1:=TG es h4;have j2:=TG (es.drop 1) (λx hx=>h4 x (List.mem_of_mem_drop hx));rw [dK] at j2;have j3:(A+2) * es.length<=(A+2) * 5:=nB _ h3;have j4:(A+2) * (es.length - 1)<=(A+2) * 5:=nB _ (by omega);have j5:(A+2) * 5=5 * A+10:=by omega
 unfold stT
 repeat' split
 all_goals (try unfold AW)
 all_goals (try split)
 all_goals (simp only [LL];omega)
def gdq (s:Sm):Bool:=(GQ s && vB s) && BE s
theorem bN5 {kd:UInt8} {nm hd:Str} {ex:List Ex} {th el:List Sm} (h1:vB (.mk kd nm hd ex th el)=true) (h2:BE (.mk kd nm hd ex th el)=true):nm.length<=12/\hd.length<=12:=by
 simp only [vB,aF,cO,dY] at h1;simp only [BE,aF,cO,aB] at h2;obtain ⟨⟨⟨⟨_,k1⟩,k2⟩,_⟩,_⟩:=(⟨⟨⟨⟨h2.1.1.1.1.1.1,h2.1.1.1.1.2⟩,h2.1.1.1.2⟩,h2.1.1.2⟩,h2.2⟩:((((_/\_)/\_)/\_)/\_))
 constructor
 ·rcases h1.1.1 with h | h
  ·rcases k1 with k | k
   ·rw [h] at k;cases k
   ·simp [k]
  ·exact tO h
 ·rcases h1.1.2 with h | h
  ·rcases k2 with k | k
   ·rw [h] at k;cases k
   ·simp [k]
  ·exact tO h
theorem bJ8:∀ (l:List Sm) (n:Nat),Sm.alls gdq l=true->n+Sm.deeps l<=100->(Sm.texts n l).length<=80000 * Sm.counts l:=by
 refine Sm.lists λl ih=>?_;induction l with
 | nil=>intro n _ _;simp [Sm.texts]
 | cons s t iht =>
  intro n hl hn;obtain ⟨kd,nm,hd,ex,th,el⟩:=s;have h0:=ih _ Hm;simp only [Sm.th,Sm.el] at h0;simp only [Sm.alls,oM,aF] at hl;obtain ⟨⟨⟨hg,h1⟩,h2⟩,h3⟩:=hl;simp only [gdq,aF] at hg;obtain ⟨⟨k1,k2⟩,k3⟩:=hg;have hnm:=bN5 k2 k3;obtain ⟨_,_,k4,k5⟩:=aE1 k3;have k6:=bH3 kd;simp only [Sm.deeps,yF] at hn;have q1:=h0.1 (n+1) h1 (by omega);have q2:=h0.2 (n+1) h2 (by omega);have q3:=iht (λx hx=>ih x (.tail _ hx)) n h3 (by omega)
  have hE:∀ x∈ex.map Ex.text,x.length<=11754:=λx hx=>by
   obtain ⟨a,ha,rfl⟩:=jC.1 hx;simp only [GQ,aP,aB] at k1;simp only [vB,aF] at k2;have:=bK0 a 8 (k1 a ha) (iV ha k2.2) (iV ha k5);omega
  have q4:=cK8 n kd nm hd (ex.map Ex.text) (Sm.texts (n+1) th) (decide (el.length=0)) (Sm.texts (n+1) el) 11754 hnm.1 hnm.2 (by rw [aJ];omega) hE;simp only [Sm.texts,bW,aD,Sm.counts,iG];omega
theorem FB {α:Type} {g:α->Str} {M:Nat}:∀ (l:List α),(∀ x∈l,(g x).length<=M)->((l.map g).flatten).length<=M * l.length
 | [],_=>by simp
 | a::r,h=>by
  have h1:=h a Hm;have h2:=FB r λx hx=>h x (.tail _ hx);simp only [dT,eY,aD,aH,vO,Nat.mul_one];omega
variable {h:Hd}
theorem bY9 (h1:DH h=true) (h2:BU h=true) (h3:HG h=true):Sm.alls gdq h.body=true:=by
 simp only [DH,aF] at h1;simp only [BU,aF] at h2;exact II _ (II _ h1.2 h2.2) h3
theorem cO5 (n:Nat) (hn:n<=10) (h1:DH h=true) (h2:BU h=true) (h3:HG h=true):(hdT n h).length<=3300000:=by
 have hg:=bY9 h1 h2 h3;simp only [DH,aF,dY,mO,bM] at h1;simp only [BU,aF,aP] at h2;have k1:=tO h2.1.1;have k2:=TG h.ps (λx hx=>tO (h2.1.2 x hx));have k3:=bJ8 h.body (n+1) hg (by omega);have k4:80000 * Sm.counts h.body<=80000 * 40:=nB _ (by omega);have k5:(12+2) * h.ps.length<=(12+2) * 4:=nB _ (by omega);simp only [hdT,aD,mJ,eY,jS,aS,aH];omega
variable {N:Nat}
theorem aN6 {v:List Hd} (n:Nat) (hn:n<=10) (hN:v.length<=N) (h1:v.all DH=true) (h2:v.all BU=true) (h3:v.all HG=true):(KZ n v).length<=3300000 * N :=
 cN (FB v λx hx=>cO5 n hn (aP.1 h1 x hx) (aP.1 h2 x hx) (aP.1 h3 x hx)) (nB _ hN)
theorem aH3 {N:Nat}:∀ (l:List (List Hd)) (i:Nat),i+l.length<=1000->(∀ v∈l,v.length<=N/\v.all DH=true/\v.all BU=true/\v.all HG=true)->(DG 2 i l).length<=(3300000 * N+200) * l.length
 | [],_,_,_=>by simp [DG]
 | v::r,i,hi,h=>by
  obtain ⟨k0,k1,k2,k3⟩:=h v Hm;simp only [aH] at hi;have h2:=aH3 r (i+1) (by omega) λx hx=>h x (.tail _ hx)
  have h3:(vsT 2 i v).length<=3300000 * N+200:=by
   have a1:=aN6 (N:=N) 2 (by omega) k0 k1 k2 k3;have a2:=aN6 (N:=N) 3 (by omega) k0 k1 k2 k3;have a3:=Lib.itoa_length_le ((i+1:Nat):Int) (by omega) (by omega);unfold vsT
   split
   ·omega
   ·simp only [show (2:Nat)+1=3 from rfl,aD,mJ,eY,jS,aS,aH];omega
  simp only [DG,aD,aH,vO,Nat.mul_one];omega
theorem cJ5 {v:Vr} (h1:fK v.nm=true) (h2:vS v=true):(vrT 2 v).length<=100:=by
 have k1:=tO h1;have k2:=MQ v.init;have k3:=YL (decide (v.init.toInt=1));unfold vrT
 split
 ·simp only [LL];omega
 split
 ·simp only [LL];omega
 split
 ·simp only [LL];omega
 ·simp
theorem aP4 {f:Ft} (h:kA f=0):uW f=true/\QU f=true/\FA f=true:=by
 unfold kA at h
 split at h
 ·cases h
 split at h
 ·cases h
 split at h
 ·cases h
 rename_i h1 h2 h3;exact ⟨by simpa using h1,by simpa using h2,by simpa using h3⟩
theorem cO7 {f:Ft} (hok:bX6 100 f) (h:kA f=0):(ftT f).length<=100000000000:=by
 obtain ⟨h1,h2,h3⟩:=aP4 h;simp only [uW,tB,QU,FA,aF,aB,aP] at h1 h2 h3;have k1:=h1.2.2;have k2:=h2.2;have k3:=h3.2;rw [HM] at k1 k2 k3;simp only [FC,aP] at k1 k2 k3;have n0:=tO h2.1.1.1.1
 have n1:=FB (g:=fgT) (M:=100) f.flags λx hx=>by
  have:=tO (h2.1.1.1.2 x hx);have:=YL x.init;simp only [fgT,mJ,eY,jS,aD,aS,aH];omega
 have n2:=FB (g:=lkT) (M:=200) f.links λx hx=>by
  have a:=h2.1.1.2 x hx;have a1:=tO a.1;have a2:=tO a.2;have:=MQ x.lat;simp only [lkT,mJ,eY,jS,aD,aS,aH];omega
 have n3:=FB (g:=cpT) (M:=2000000000) f.comps λc hc=>by
  have a:=h2.1.2 c hc;have a1:=tO a.1;have b:=h1.2.1 c hc;simp only [BP,aF,aB] at b;have a2:=FB (g:=vrT 2) (M:=100) c.vars λv hv=>cJ5 (a.2 v hv) (h3.1.2 c hc v hv);have a3:=aH3 (N:=100) c.vers 0 (by omega) λv hv=>⟨((hok.all c hc).all v hv).len,aP.2 (k1 c hc v hv),aP.2 (k2 c hc v hv),aP.2 (k3 c hc v hv)⟩;simp only [cpT,mJ,eY,jS,aD,aS,aH];omega
 simp only [ftT,mJ,eY,jS,aD,aS,aH];omega
theorem cM3:∀ s,QT N s=true->SW s=true
 | .mk _ _ _ ex _ _,h=>by
  simp only [QT,aF,aP] at h;simp only [SW,aP,aB];intro e he;have:=h.2 e he;simp only [okE,aF,aB] at this;omega
theorem cZ3 (hN:N<=1000000) {f:Ft} (h:aL4 N f):evH okH f=true:=by
 simp only [evH,aP];intro c hc v hv x hx;have k:=((h.all c hc).all v hv).all x hx;have k1:=k.body.cnt;have k2:=k.body.dep;simp only [okH,aF,aB];exact ⟨⟨by omega,by omega⟩,tW cM3 _ k.body.all⟩
theorem TW (p:Pln):(ftT (mX p)).length<=100000000000:=cO7 (OU p).sy (HN p)
theorem aU6 (H:Hp) (G:Gl H) (g:Gt H) (p:Pln) (cs:List Value) (h:Rep H (aX1 p) cs) (w:World) (hA:Agr H w) :
 Calls prg 17 #[.agg cs.toArray] w λr w'=>∃ (y:List Value) (H':Hp),Rep H' (dFt .u8 (mX p)) y/\r=.returned (.tuple #[cJ (ftT (mX p)),.agg y.toArray])/\BX H w H' w':=by
 obtain ⟨p1,c1,p2,c2,rfl,_,_⟩:=SR h;refine Sx.enter (H:=H) func17 rfl ntmps17 rfl hA ?_;refine .sr<|.bx Z Z Z λb1=>.a Z Z<|.al vW Z λb3=>.ns<|.yw (.loadW Z aT3 dN Z)<|.ct (X:=List Value) bT4 Z (λW t=>aX5 H p _ W h t.agr) Z λx1 H1 hx1 u1=>.ct (X:=List Value) ZS Z (λW t=>aU4 100 (by decide) H1 (mX p) (OU p) x1 W hx1 t.agr) Z λx2 H2 hx2 u2=>?_
 obtain ⟨z2,z3,z4,rfl⟩:=IS hx2;refine .al vW Z λb4=>.sW .head Z Z sJ (Rep.one hx2) Z<|.nt<|.sq<|.fL 4 [(0,0),(1,0),(2,0),(3,0)]<|.yw (.loadW Z lJ Hm Z)<|.yw (.cast (v':=cJ (ftT (mX p))) (.call bU0 Z (λW t=>bL4 H2 ((G.up u1.up).up u2.up) ((g.up u1.up).up u2.up) (mX p) _ hx2 (cZ3 (N:=100) (by decide) (OU p)) (λ_=>cN (TW p) (by decide)) W t.agr)) (by rw [aE (HN p)]))<|.yw (.loadW Z lJ Hm Z)<|.a Z Z<|.fn (tl:=[_]) Z<|.sW fG Z Z sJ (Rep.one hx2) Z<|.nt<|.rt<|?_
 exact y7 Z (.cons (.tmp Z) (.cons (.cell Z lJ dN rfl) .nil)) rfl λW s=>⟨_,H2,hx2,Z,(u1.trans u2).grow s⟩
theorem bU2:cU prg 17=true:=by kernel_rfl
theorem bU1:cU prg 18=true:=by kernel_rfl
theorem aQ9:QW prg 44=some Go.IntKind.u16:=by kernel_rfl
theorem aT2:jP prg 44=some none:=by kernel_rfl
theorem cI8:jP prg 62=some (some 3):=by kernel_rfl
theorem NH:dL prg 62 0=some 0:=by kernel_rfl
theorem aG2:dL prg 62 1=some 1:=by kernel_rfl
theorem NG:dL prg 62 2=some 2:=by kernel_rfl
theorem bP9:gH prg 62=some 3:=by kernel_rfl
theorem bI7:slN prg 60=some 3:=by kernel_rfl
theorem bP4:mD prg 62=some
 [Go.Value.int Go.IntKind.u16 (Int.ofNat 0),Go.Value.int Go.IntKind.u8 (Int.ofNat 0),
  Go.Value.string { data:={ toList:=[] } }]:=by kernel_rfl
end Go.Proofs.YthhoebdlfjffkaaGreatDoor
