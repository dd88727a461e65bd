/- Texts of the proof, one behind the other. -/
import Derived.Test.YtidclioghdbphaaGreatDoorMg
set_option linter.all false
set_option maxRecDepth 100000
namespace Go.Proofs.YtidclioghdbphaaGreatDoor
open Go.RowKit Go.Par Go.Sx Tryz
variable {H H':Hp}
theorem aR6 {x:TkS} {l:List Value} (h:eR H 3 [dTk .u8 x.1] l):eR H' 3 (List.map (dTk .u8) (List.map (·.1) [x])) l:=by
 unfold eR at h;obtain ⟨a,y,rfl,_,h1,h2⟩:=h;unfold eR at h2;subst h2;rw [dU];obtain ⟨rfl,_⟩:=JR h1;exact .single (JQ x.2) Z
theorem GX (H:Hp):Rep H (dFm .u8 zF) [.int .u8 0,.string ⟨#[]⟩,.string ⟨#[]⟩,.int .i64 0,.int .i64 0,.slice none 0 0,.slice none 0 0]:=CP (op:=0) (nm:=[]) (fd:=[]) (a:=0) (b:=0) (ex:=[]) (args:=[]) (by decide) (by decide) Rep.nil4 Rep.nil4
def muF (l:Tks) (q:Ps):Nat:=if q.fin then 0 else l.length - q.c.i
theorem aD0 {l:Tks} {q q':Ps} (h:¬ q.fin) (g:q'.fin\/q.c.i<q'.c.i) (hi:q.c.i<l.length):muF l q'<muF l q:=by
 unfold muF;rw [aG h]
 split
 ·omega
 ·rename_i h2;rcases g with g | g
  ·exact absurd g h2
  ·omega
section
variable {c:Rq} {op:List Ov} {v:Vl} {V:List Vl} {bd rd dn:Bool} {x:Vb}
theorem bB2 (h:¬ c.er=0):MH ⟨c,op,x,rd,dn⟩=(zF,c.off,c.er):=by unfold MH;exact aO h
theorem aF2 (h:c.er=0) (hb:(bd || v.noF)=true):MH ⟨c,op,(v::V,bd),rd,dn⟩=(zF,0,6):=by
 unfold MH;rw [aG (show ¬ ¬ c.er=0 by rw [h];decide),aO (show (fS (v::V,bd)).2=true from hb)]
theorem aF1 (h:c.er=0) (hb:(bd || v.noF)=false) (hc:¬ fO v.fm=0):MH ⟨c,op,(v::V,bd),rd,dn⟩=(zF,0,fO v.fm):=by
 unfold MH;rw [aG (show ¬ ¬ c.er=0 by rw [h];decide),aG (show ¬ (fS (v::V,bd)).2=true by rw [show (fS (v::V,bd)).2=false from hb];decide)];exact aO hc
theorem bB1 (h:c.er=0) (hb:(bd || v.noF)=false) (hc:fO v.fm=0):MH ⟨c,op,(v::V,bd),rd,dn⟩=(v.fm,0,0):=by
 unfold MH;rw [aG (show ¬ ¬ c.er=0 by rw [h];decide),aG (show ¬ (fS (v::V,bd)).2=true by rw [show (fS (v::V,bd)).2=false from hb];decide)];exact aG (show ¬ ¬ fO v.fm=0 by rw [hc];decide)
end
set_option maxHeartbeats 4000000 in
theorem YH (H:Hp) (G:Gl H) (Gt:Gf H) (t:Str) (hl:t.length<=400000) (w:World) (hA:Agr H w) :
 Calls prg 26 #[cH t] w λe W'=>∃ (cs:List Value) (H':Hp),Rep H' (dFm .u8 (NQ (tD t)).1) cs/\e=.returned (.tuple #[.agg cs.toArray,iN ((NQ (tD t)).2.1),iN ((NQ (tD t)).2.2)])/\xD H w H' W':=by
 refine Sx.enterM (H:=H) func26 rfl ntmps26 rfl hA ?_;refine .sr<|.al fV Z λb2=>.a Z Z<|.a Z Z<|.ns<|.yw (.build Z (EZ _))<|.blR (z:=11) Z (EY _ _ _ _ _ _ _ _ _ _ _) Z Z (by simp [maxLen]) λb10=>.yw (.build Z (WV _ _ _))<|.bx Z Z Z λb12=>.al aM4 Z λb5=>.st .head Z Z aM6 Z (nb Z) Z<|.nt<|.sq<|.sm Z<|.ct (X:=Nat) aO1 Z (λW s=>bI8 H t W s.agr) Z λb1 H1 m1 u1=>.nt<|.bk<|?_
 refine Sx.row0 108 3 ?_;refine At.pm [0,2,1,3,4] [_,_,_,_,_] rfl rfl ?_
 refine At.rfB (α:=TkS) (Z:=Value × Nat × List Value) (N:=t.length+1) (e:=108) (T:=102) (TX:=108) (size:=3) (p:=b12) (fx:=[.box b5 [.pointer (some ⟨b12,0,none⟩)] 94,.row 97 11 (.slice (some ⟨b10,0,none⟩) 1 1) 1 [.int .u8 1,.int .i64 0,.bool false,.int .u8 0,.int .u8 0,.string ⟨#[]⟩,.string ⟨#[]⟩,.int .i64 0,.int .i64 0,.slice none 0 0,.slice none 0 0],.box b2 [.int .u8 0,.string ⟨#[]⟩,.string ⟨#[]⟩,.int .i64 0,.int .i64 0,.slice none 0 0,.slice none 0 0] 35]) (enc:=λx:TkS=>.agg (cTk .u8 x.1).toArray) (S:=λxs=>xs.map (·.1)=qL t)
  (λpre z=>z.2.1=pre.length/\eR H1 3 ((pre.map (·.1)).map (dTk .u8)) z.2.2) (λz=>z.1) (λz=>z.2.1) (λz=>z.2.2) (λ_=>[.int .i64 0,.slice (some ⟨b10,0,none⟩) 1 1,.slice none 0 0,.bool false,.bool false,.bool false,.int .i64 0,.int .i64 0]) (.slice none 0 0,0,[])
  (λ_ b=>[(0,cH t),(5,.pointer (some ⟨b5,0,none⟩)),(6,.pointer (some ⟨b,0,none⟩))]) (λx=>cTk .u8 x.1) rfl (λ_ _=>zQ aN1) rfl (λw hA=>bI7 H1 (G.up u1.up) t (by omega) (λx hx=>bH (JC t x hx) (by omega)) b1 m1 w hA) ⟨rfl,eR.nil⟩ rfl rfl ?_ ?_ ?_
 ·intro l x bs' K h;exact .rgI<|.alI xF Z λb=>.sWI .head Z Z xH (by simp [cTk,Value.oneCell',cH]) Z<|.nlI<|.tN<|λa W f s=>h b a W (f.sub ⟨rfl,rfl,rfl,trivial⟩) s
 ·intro l' pre x z tl b H2 hC hlen u2 m2;obtain ⟨v,k,xs⟩:=z;obtain ⟨hk,hz⟩:=hC;dsimp only at hk hz|-;change At [] _ _ H2 w (.row 108 3 v k xs::.box b12 (v::[.int .i64 0,.slice (some ⟨b10,0,none⟩) 1 1,.slice none 0 0,.bool false,.bool false,.bool false,.int .i64 0,.int .i64 0]) 102::.box b5 [.pointer (some ⟨b12,0,none⟩)] 94::.row 97 11 (.slice (some ⟨b10,0,none⟩) 1 1) 1 [.int .u8 1,.int .i64 0,.bool false,.int .u8 0,.int .u8 0,.string ⟨#[]⟩,.string ⟨#[]⟩,.int .i64 0,.int .i64 0,.slice none 0 0,.slice none 0 0]::.box b2 [.int .u8 0,.string ⟨#[]⟩,.string ⟨#[]⟩,.int .i64 0,.int .i64 0,.slice none 0 0,.slice none 0 0] 35::tl) _;refine At.ra Hm λpv cv ev=>?_;subst ev;refine .bkI<|.flI (trip:=[(_,_,_),(_,_,_),(_,_,_),(_,_,_),(_,_,_),(_,_,_),(_,_,_),(_,_,_)]) 8 [(0,0),(1,0),(2,0),(3,0),(4,0),(5,0),(6,1),(7,3)] (by kernel_rfl) (by kernel_rfl) (by kernel_rfl) Z<|.lD Z iD nL Z<|.lD Z iD nL Z<|.nC Z<|.fA Z pT<|.lD Z GW dC Z<|.yw (.loadMW Z IM m2 Z)<|.blF Z (NG _ _ _) Z λb22 H3 u3 m3=>.apD WM Z (λ_ _=>.head) Z (Rep.mk (n:=1) (c:=1) (ds:=[dTk .u8 x.1]) m3 (.single (JQ x.2) Z) Z (bK _) (by decide)) (by simp [maxLen];omega) (by omega) Z (λ_ _=>(.d3<|.d2<|.yv (.load Z iD nL Z)<|.nl)) λxs26 p26 c26 hz26=>.fn (tl:=[_,_,_]) Z<|.nC Z<|.fA Z pT<|.st mD Z Z QA Z (nb Z) Z<|.nlQ<|.bN<|?_
  refine At.rE ((.slice p26 (k+1) c26,k+1,xs++xs26):Value × Nat × List Value) (u2.trans u3.up) ?_ rfl;exact ⟨by simp [hk],by rw [cL,cL];exact hz.app (aR6 hz26)⟩
 intro D ys z hS hC;obtain ⟨v,k,xs⟩:=z;obtain ⟨hk,hz⟩:=hC;dsimp only at hk hz|-;change At _ _ _ H1 w (.obj D (.deferred (some []))::.row 108 3 v k xs::.box b12 (v::[.int .i64 0,.slice (some ⟨b10,0,none⟩) 1 1,.slice none 0 0,.bool false,.bool false,.bool false,.int .i64 0,.int .i64 0]) 102::.box b5 [.pointer (some ⟨b12,0,none⟩)] 94::.row 97 11 (.slice (some ⟨b10,0,none⟩) 1 1) 1 [.int .u8 1,.int .i64 0,.bool false,.int .u8 0,.int .u8 0,.string ⟨#[]⟩,.string ⟨#[]⟩,.int .i64 0,.int .i64 0,.slice none 0 0,.slice none 0 0]::.box b2 [.int .u8 0,.string ⟨#[]⟩,.string ⟨#[]⟩,.int .i64 0,.int .i64 0,.slice none 0 0,.slice none 0 0] 35::[]) _;refine At.ra dC λpv cv ev=>?_;subst ev;have hkl:k<=t.length:=by have:=VD t;rw [<-hS,bJ] at this;omega
 refine .bN<|.tN<|.sq<|.fL 10 [(0,0),(1,0),(2,0),(3,0),(4,0),(5,0),(6,0),(7,0),(8,1),(9,3)]<|.lD Z iD rY Z<|.lD Z iD rY Z<|.nC Z<|.fA Z pT<|.lD Z GW nL Z<|.mv Z<|.yw (.lenS dI Z)<|.yw (.build Z (WU _))<|.blF Z (NG _ _ _) Z λb34 H3 u3 m3=>.apD WM Z (λ_ _=>mD) Z (Rep.mk (n:=1) (c:=1) (ds:=[dTk .u8 (bV1 t)]) m3 (.single (JQ (x:=bV1 t) (aR _)) Z) Z (bK _) (by decide)) (by simp [maxLen];omega) (by omega) Z (λ_ _=>(.d4<|.d3<|.yv (.load Z iD rY Z)<|.nl)) λxs35 p35 c35 hz35=>.fn (tl:=[_,_,_]) Z<|.nC Z<|.fA Z pT<|.st oV Z Z QA Z (nb Z) Z<|?_
 refine At.pm [1,0,2,3,4,5] [_,_,_,_,_,_] rfl rfl ?_
 have hz2:eR H3 3 ((tD t).map (dTk .u8)) (xs++xs35):=by
  unfold tD;rw [cL,<-hS];exact (hz.up u3.up).app hz35
 have hlen:((tD t).map (dTk .u8)).length=k+1:=by rw [bJ,yN,<-hS,bJ,hk]
 refine lY hlen hz2 λH4 p4 c4 u4 e4 h4=>?_;injection e4 with e5 _ e6
 subst e5 e6;rw [bJ] at hlen;rw [<-hlen]
 have K:Tkf H4 (tD t) p35 c35:=⟨by rw [hlen];exact h4,bQ0 t,λx hx=>by
  rcases cV.1 hx with hx | hx
  ·exact bH (JC t x hx) hl
  ·rw [cI.1 hx];exact aR _,by rw [yN];have:=VD t;omega,λx hx hk=>by
  rcases cV.1 hx with hx | hx
  ·exact ⟨aJ4 t x hx hk,(PH t x hx).2.2⟩
  ·rw [cI.1 hx] at hk;exact (by cases hk)⟩
 obtain ⟨p4,hp4⟩:∃ p,p=p35:=⟨_,rfl⟩;obtain ⟨c4,hc4⟩:∃ c,c=c35:=⟨_,rfl⟩;subst hp4 hc4;have G4:=((G.up u1.up).up u3.up).up u4.up;have GT4:=((Gt.up u1.up).up u3.up).up u4.up;refine Sx.row0 179 13 ?_;refine .nt<|.sq<|.bk<|.pm [2,4,0,1,3,5] [_,_,_,_,_,_] Z Z<|.lp (X:=Hp × Value × Value × List Value × List Value × List Res × Ps) [(2,_),(5,_)] ⟨rfl,rfl,trivial⟩ [_,_,_] (λz=>[]) (λz=>z.1) (λz=>[.box b12 [.slice p4 (tD t).length c4,iN z.2.2.2.2.2.2.c.i,z.2.1,z.2.2.1,.bool z.2.2.2.2.2.2.rd,.bool z.2.2.2.2.2.2.dn,.bool z.2.2.2.2.2.2.x.2,iN z.2.2.2.2.2.2.c.off,iN z.2.2.2.2.2.2.c.er] 102,.row 97 11 (z.2.1) (z.2.2.2.2.2.2.op.length) (z.2.2.2.1),.row 179 13 (z.2.2.1) (z.2.2.2.2.2.2.x.1.length) (z.2.2.2.2.1)]++z.2.2.2.2.2.1) (λz=>HUp w H4 z.1/\Sq z.1 z.2.2.2.2.2.2 z.2.2.2.1 z.2.2.2.2.1 z.2.2.2.2.2.1/\Fwf (tD t) z.2.2.2.2.2.2/\Fex z.2.2.2.2.2.2/\Fbd 600000 z.2.2.2.2.2.2/\Rch (tD t) YF z.2.2.2.2.2.2/\Dnr z.2.2.2.2.2.2) (λz=>muF (tD t) z.2.2.2.2.2.2) (H4,.slice (some ⟨b10,0,none⟩) 1 1,.slice none 0 0,[.int .u8 1,.int .i64 0,.bool false,.int .u8 0,.int .u8 0,.string ⟨#[]⟩,.string ⟨#[]⟩,.int .i64 0,.int .i64 0,.slice none 0 0,.slice none 0 0],[],[],YF) (λ_ s=>s) trivial ⟨.refl,⟨Ops.cons (xo:=[]) (AR:=[]) .nil (by decide) (FmR.zero Z Z (aR _) (aR _)),.nil⟩,XA (by rw [yN];exact Nat.succ_pos _),(λo ho=>by rw [cI.1 ho];exact aR _),bK9,.refl,.inl Z⟩ λz hC=>?_
 obtain ⟨H5,ro,rv,xo,xv,AR,q1⟩:=z;obtain ⟨u5,S,Wq,FE,FB,RC,DR⟩:=hC;dsimp only at u5 S Wq FE FB RC DR|-;have K5:=K.up u5.up;refine Sx.reSt (λW s=>St.mid (a:=[_,_,_]) (d:=AR) (c:=[_,_,_]) (e:=[]) s) ?_;obtain ⟨q,op,x,rd,dn⟩:=q1;dsimp only;refine .sq<|.sr<|.lD Z iD vT Z<|.nC Z<|.fA Z EB<|.lD Z jO Hm Z<|.yw (.not Z)<|.mv Z<|.b2 (λh43=>?_) (λh43=>?_)
 ·have hd:dn=false:=by simpa using h43
  refine .gy (.load Z iD vT Z)<|.gy (.nilCheck Z)<|.gy (.fieldAddr Z iW)<|.gy (.load Z qT Hm Z)<|.gy (.eql Z Z)<|.yw (.pickT Z Z)<|.nt<|.cd Z (λh49=>?_) (λh49=>?_)
  ·have h0:q.er=0:=by have:=aJ h49;omega
   have hnf:¬ (Ps.fin ⟨q,op,x,rd,dn⟩):=λe=>by
    rcases e with e | e
    ·rw [show dn=true from e] at hd;cases hd
    ·exact e h0
   have ST:=UC K.gd.last Wq hnf;have RS:=RC.trans (.one h0 hd rfl);have DS:=bB3 (l:=tD t) (q:=⟨q,op,x,rd,dn⟩) hd;have FS:=bA5 (l:=tD t) (by decide) FB FE (eU Wq.i K.few);have FT:=aZ8 (l:=tD t) FE;refine .sk<|.tN<|.bk<|.sr<|.lD Z iD vT Z<|.nC Z<|.fA Z lV<|.lD Z jO Hm Z<|.nt<|.cd Z (λh53=>?_) (λh53=>?_)
   ·have hr:rd=true:=h53;subst hr;refine .rg<|.lD Z iD vT Z<|.cs (X:=Hp × Value × Value × List Value × List Value × List Res) aO0 Z (λW s=>XX K5 Wq S (GT4.up u5.up) h0 FE (St.mid (a:=[_,_,_]) (d:=[_,_,_]) (s.pickT (hd:=[_,_,_,_,_,_]) (tl:=(AR++[])) (hd':=[_,_,_,_,_,_]) [0,1,2,3,4,5] Z Z))) Z λz9 hz9=>?_
    obtain ⟨H6,ro6,rv6,xo6,xv6,AR6⟩:=z9;obtain ⟨u6,S⟩:=hz9;dsimp only at u6 S|-;refine Sx.reSt (λW s=>St.mid (a:=[_,_,_]) (d:=AR6) (c:=[_,_,_]) s) ?_;exact .nl<|.bN<|.tN<|.ag (x:=((H5,ro,rv,xo,xv,AR,(⟨q,op,x,true,dn⟩:Ps)):Hp × Value × Value × List Value × List Value × List Res × Ps)) (H6,ro6,rv6,xo6,xv6,AR6,AW (tD t) ⟨q,op,x,true,dn⟩) trivial ⟨rfl,rfl,trivial⟩ (λ_ s=>St.mid (a:=[_,_,_]) (d:=[_,_,_]) (c:=AR6) (e:=[]) s) ⟨u5.trans u6,S,ST.wf,FT,FS,RS,DS⟩ (aD0 hnf ST.go Wq.i)
   have hr:rd=false:=h53;subst hr;refine .rg<|.lD Z iD vT Z<|.cs (X:=Hp × Value × Value × List Value × List Value × List Res) aN9 Z (λW s=>aI3 K5 Wq S (St.mid (a:=[_,_,_]) (d:=[_,_,_]) (s.pickT (hd:=[_,_,_,_,_,_]) (tl:=(AR++[])) (hd':=[_,_,_,_,_,_]) [0,1,2,3,4,5] Z Z))) Z λz9 hz9=>?_
   obtain ⟨H6,ro6,rv6,xo6,xv6,AR6⟩:=z9;obtain ⟨u6,S⟩:=hz9;dsimp only at u6 S|-;refine Sx.reSt (λW s=>St.mid (a:=[_,_,_]) (d:=AR6) (c:=[_,_,_]) s) ?_;exact .nl<|.bN<|.tN<|.ag (x:=((H5,ro,rv,xo,xv,AR,(⟨q,op,x,false,dn⟩:Ps)):Hp × Value × Value × List Value × List Value × List Res × Ps)) (H6,ro6,rv6,xo6,xv6,AR6,AW (tD t) ⟨q,op,x,false,dn⟩) trivial ⟨rfl,rfl,trivial⟩ (λ_ s=>St.mid (a:=[_,_,_]) (d:=[_,_,_]) (c:=AR6) (e:=[]) s) ⟨u5.trans u6,S,ST.wf,FT,FS,RS,DS⟩ (aD0 hnf ST.go Wq.i)
  have hfin:(Ps.fin ⟨q,op,x,rd,dn⟩):=.inr (λe=>aP h49 (by rw [show q.er=0 from e];rfl));refine .ex<|.eb<|.sq<|.sq<|?_
  have EP:NQ (tD t)=MH ⟨q,op,x,rd,dn⟩:=by unfold NQ;rw [LA RC hfin (RK K.gd.last (tD t).length YF (XA (by rw [yN];exact Nat.succ_pos _)) (by show _<=0+_;omega)).1]
  refine .rg<|.lD Z iD vT Z<|.nC Z<|.fA Z iW<|.lD Z qT Hm Z<|.yw (.neq Z Z)<|.nt<|.cd Z (λh62=>?_) (λh62=>?_)
  ·have hne:¬ q.er=0:=λe=>aJ h62 (by rw [e];rfl);refine .sq<|.fL 11 [(0,0),(1,0),(2,0),(3,0),(4,0),(5,0),(6,0),(7,0),(8,0),(9,3),(10,0)]<|.yw (.build Z zG)<|.lD Z iD vT Z<|.nC Z<|.fA Z sE<|.lD Z cC Hm Z<|.lD Z iD vT Z<|.nC Z<|.fA Z iW<|.lD Z qT Hm Z<|.sW bW7 Z Z dM (by simp [Value.oneCell',cH]) Z ((.yv (.load Z qT Hm Z)<|.yv (.fieldAddr Z iW)<|.yv (.nilCheck Z)<|.yv (.load Z iD vT Z)<|.yv (.load Z cC Hm Z)<|.yv (.fieldAddr Z sE)<|.yv (.nilCheck Z)<|.yv (.load Z iD vT Z)<|.dn<|.nl))<|.a Z Z<|.fn (tl:=[_]) Z<|.az Z<|.tR<|?_
   refine Sx.retM (.inl rfl) qF ?_;refine y7 Z (.cons (.cell rfl cQ aJ2 rfl) (.cons (.tmp rfl) (.cons (.tmp rfl) .nil))) rfl λW s=>?_;rw [EP,bB2 hne];exact ⟨[.int .u8 0,.string ⟨#[]⟩,.string ⟨#[]⟩,.int .i64 0,.int .i64 0,.slice none 0 0,.slice none 0 0],H5,GX _,rfl,(((u1.trans u3).trans u4).trans u5).grow s⟩
  have he0:q.er=0:=by have:=aP h62;omega
  have hd:dn=true:=by
   rcases hfin with e | e
   ·exact e
   ·exact (e he0).elim
  have hr:rd=true:=by
   rcases DR with e | e
   ·rw [show dn=false from e] at hd;cases hd
   ·exact e
  subst hr;have hv1:1<=x.1.length:=by have:=Wq.vs;dsimp only at this;rw [this];exact Nat.le_add_left _ _
  obtain ⟨hn1,hn2⟩:=oU Wq K.few;dsimp only at hn1 hn2;obtain ⟨vs,bd⟩:=x;dsimp only at hv1 hn2;obtain ⟨v,V,rfl⟩:=BQ hv1;dsimp only [List.length_cons] at hn2;obtain ⟨yr,t0,t1,t2,e8,VS1,V1⟩:=VR.inv S.vls;try dsimp only at e8
  subst e8;have l1:=VS1.len;obtain ⟨q1,q2,ef,FR⟩:=HM V1;have FBv:=HA FB.x;dsimp only;refine .sk<|.tN<|.sr<|.lD Z iD vT Z<|.cs (X:=Nat × Nat) wP Z (λW s=>wM K5 Wq.i V1.one V1.e.nm (by omega) l1 (s.pickT (hd:=[_,_,_,_,_,_]) (tl:=(AR++[])) (hd':=[_,_,_,_,_,_]) [0,2,1,3,4,5] Z Z)) Z λp1 _=>?_
  rw [ef];refine .al fV Z λb7=>.sW .head Z Z dM (by intro a ha;exact Rep.one FR.rep a ha) Z<|.nt<|.sq<|.sr<|.lD Z iD aJ2 Z<|.nC Z<|.fA Z nN<|.lD Z jO dC Z<|.nt<|.cd Z (λh77=>?_) (λh77=>?_)
  ·have hbd:(bd || v.noF)=true:=h77;refine .sr<|.yw (.build Z zG)<|.sX aG6 Z Z dM Z<|.a Z Z<|.az Z<|.tR<|?_
   refine Sx.retM (.inl rfl) XE ?_;refine y7 Z (.cons (.cell rfl cQ aJ1 rfl) (.cons (.tmp rfl) (.cons (.tmp rfl) .nil))) rfl λW s=>?_;rw [EP,aF2 he0 hbd];exact ⟨[.int .u8 0,.string ⟨#[]⟩,.string ⟨#[]⟩,.int .i64 0,.int .i64 0,.slice none 0 0,.slice none 0 0],H5,GX _,rfl,(((u1.trans u3).trans u4).trans u5).grow s⟩
  have hbd:(bd || v.noF)=false:=h77;refine .sk<|.tN<|.sq<|.sr<|.yw (.loadW Z cQ Hm Z)<|.yw (.call II Z (λW s=>EN H5 (G4.up u5.up) (GT4.up u5.up) v.fm FBv _ W FR.rep s.agr))<|.a Z Z<|.ns<|.mv Z<|.yw (.neq Z Z)<|.nt<|.cd Z (λh82=>?_) (λh82=>?_)
  ·have hck:¬ fO v.fm=0:=λe=>aJ h82 (by rw [e];rfl);refine .sr<|.yw (.build Z zG)<|.mv Z<|.sX aG6 Z Z dM Z<|.a Z Z<|.az Z<|.tR<|?_
   refine Sx.retM (.inl rfl) XE ?_;refine y7 Z (.cons (.cell rfl cQ aJ1 rfl) (.cons (.tmp rfl) (.cons (.tmp rfl) .nil))) rfl λW s=>?_;rw [EP,aF1 he0 hbd hck];exact ⟨[.int .u8 0,.string ⟨#[]⟩,.string ⟨#[]⟩,.int .i64 0,.int .i64 0,.slice none 0 0,.slice none 0 0],H5,GX _,rfl,(((u1.trans u3).trans u4).trans u5).grow s⟩
  have hck:fO v.fm=0:=by have:=aP h82;omega
  refine .sk<|.tN<|.sr<|.yw (.loadW Z cQ Hm Z)<|.sW aG6 Z Z dM (by intro a ha;exact Rep.one FR.rep a ha) Z<|.a Z Z<|.az Z<|?_
  refine Sx.retM (.inl rfl) XE ?_;refine y7 Z (.cons (.cell rfl cQ aJ1 rfl) (.cons (.tmp rfl) (.cons (.tmp rfl) .nil))) rfl λW s=>?_;rw [EP,bB1 he0 hbd hck];exact ⟨cFm .u8 v.fm.op v.fm.nm v.fm.fd v.fm.a v.fm.b q1 q2,H5,FR.rep,rfl,(((u1.trans u3).trans u4).trans u5).grow s⟩
 have hd:dn=true:=by simpa using h43
 have hfin:(Ps.fin ⟨q,op,x,rd,dn⟩):=.inl hd;refine .gG<|.gG<|.gG<|.gG<|.gG<|.yw (.pickF Z Z)<|.nt<|.cF Z<|.ex<|.eb<|.sq<|.sq<|?_
 have EP:NQ (tD t)=MH ⟨q,op,x,rd,dn⟩:=by unfold NQ;rw [LA RC hfin (RK K.gd.last (tD t).length YF (XA (by rw [yN];exact Nat.succ_pos _)) (by show _<=0+_;omega)).1]
 refine .rg<|.lD Z iD vT Z<|.nC Z<|.fA Z iW<|.lD Z qT Hm Z<|.yw (.neq Z Z)<|.nt<|.cd Z (λh62=>?_) (λh62=>?_)
 ·have hne:¬ q.er=0:=λe=>aJ h62 (by rw [e];rfl);refine .sq<|.fL 11 [(0,0),(1,0),(2,0),(3,0),(4,0),(5,0),(6,0),(7,0),(8,0),(9,3),(10,0)]<|.yw (.build Z zG)<|.lD Z iD vT Z<|.nC Z<|.fA Z sE<|.lD Z cC Hm Z<|.lD Z iD vT Z<|.nC Z<|.fA Z iW<|.lD Z qT Hm Z<|.sW bW7 Z Z dM (by simp [Value.oneCell',cH]) Z ((.yv (.load Z qT Hm Z)<|.yv (.fieldAddr Z iW)<|.yv (.nilCheck Z)<|.yv (.load Z iD vT Z)<|.yv (.load Z cC Hm Z)<|.yv (.fieldAddr Z sE)<|.yv (.nilCheck Z)<|.yv (.load Z iD vT Z)<|.dn<|.nl))<|.a Z Z<|.fn (tl:=[_]) Z<|.az Z<|.tR<|?_
  refine Sx.retM (.inl rfl) qF ?_;refine y7 Z (.cons (.cell rfl cQ aJ2 rfl) (.cons (.tmp rfl) (.cons (.tmp rfl) .nil))) rfl λW s=>?_;rw [EP,bB2 hne];exact ⟨[.int .u8 0,.string ⟨#[]⟩,.string ⟨#[]⟩,.int .i64 0,.int .i64 0,.slice none 0 0,.slice none 0 0],H5,GX _,rfl,(((u1.trans u3).trans u4).trans u5).grow s⟩
 have he0:q.er=0:=by have:=aP h62;omega
 have hd:dn=true:=by
  rcases hfin with e | e
  ·exact e
  ·exact (e he0).elim
 have hr:rd=true:=by
  rcases DR with e | e
  ·rw [show dn=false from e] at hd;cases hd
  ·exact e
 subst hr;have hv1:1<=x.1.length:=by have:=Wq.vs;dsimp only at this;rw [this];exact Nat.le_add_left _ _
 obtain ⟨hn1,hn2⟩:=oU Wq K.few;dsimp only at hn1 hn2;obtain ⟨vs,bd⟩:=x;dsimp only at hv1 hn2;obtain ⟨v,V,rfl⟩:=BQ hv1;dsimp only [List.length_cons] at hn2;obtain ⟨yr,t0,t1,t2,e8,VS1,V1⟩:=VR.inv S.vls;try dsimp only at e8
 subst e8;have l1:=VS1.len;obtain ⟨q1,q2,ef,FR⟩:=HM V1;have FBv:=HA FB.x;dsimp only;refine .sk<|.tN<|.sr<|.lD Z iD vT Z<|.cs (X:=Nat × Nat) wP Z (λW s=>wM K5 Wq.i V1.one V1.e.nm (by omega) l1 (s.pickT (hd:=[_,_,_,_,_,_]) (tl:=(AR++[])) (hd':=[_,_,_,_,_,_]) [0,2,1,3,4,5] Z Z)) Z λp1 _=>?_
 rw [ef];refine .al fV Z λb7=>.sW .head Z Z dM (by intro a ha;exact Rep.one FR.rep a ha) Z<|.nt<|.sq<|.sr<|.lD Z iD aJ2 Z<|.nC Z<|.fA Z nN<|.lD Z jO dC Z<|.nt<|.cd Z (λh77=>?_) (λh77=>?_)
 ·have hbd:(bd || v.noF)=true:=h77;refine .sr<|.yw (.build Z zG)<|.sX aG6 Z Z dM Z<|.a Z Z<|.az Z<|.tR<|?_
  refine Sx.retM (.inl rfl) XE ?_;refine y7 Z (.cons (.cell rfl cQ aJ1 rfl) (.cons (.tmp rfl) (.cons (.tmp rfl) .nil))) rfl λW s=>?_;rw [EP,aF2 he0 hbd];exact ⟨[.int .u8 0,.string ⟨#[]⟩,.string ⟨#[]⟩,.int .i64 0,.int .i64 0,.slice none 0 0,.slice none 0 0],H5,GX _,rfl,(((u1.trans u3).trans u4).trans u5).grow s⟩
 have hbd:(bd || v.noF)=false:=h77;refine .sk<|.tN<|.sq<|.sr<|.yw (.loadW Z cQ Hm Z)<|.yw (.call II Z (λW s=>EN H5 (G4.up u5.up) (GT4.up u5.up) v.fm FBv _ W FR.rep s.agr))<|.a Z Z<|.ns<|.mv Z<|.yw (.neq Z Z)<|.nt<|.cd Z (λh82=>?_) (λh82=>?_)
 ·have hck:¬ fO v.fm=0:=λe=>aJ h82 (by rw [e];rfl);refine .sr<|.yw (.build Z zG)<|.mv Z<|.sX aG6 Z Z dM Z<|.a Z Z<|.az Z<|.tR<|?_
  refine Sx.retM (.inl rfl) XE ?_;refine y7 Z (.cons (.cell rfl cQ aJ1 rfl) (.cons (.tmp rfl) (.cons (.tmp rfl) .nil))) rfl λW s=>?_;rw [EP,aF1 he0 hbd hck];exact ⟨[.int .u8 0,.string ⟨#[]⟩,.string ⟨#[]⟩,.int .i64 0,.int .i64 0,.slice none 0 0,.slice none 0 0],H5,GX _,rfl,(((u1.trans u3).trans u4).trans u5).grow s⟩
 have hck:fO v.fm=0:=by have:=aP h82;omega
 refine .sk<|.tN<|.sr<|.yw (.loadW Z cQ Hm Z)<|.sW aG6 Z Z dM (by intro a ha;exact Rep.one FR.rep a ha) Z<|.a Z Z<|.az Z<|?_
 refine Sx.retM (.inl rfl) XE ?_;refine y7 Z (.cons (.cell rfl cQ aJ1 rfl) (.cons (.tmp rfl) (.cons (.tmp rfl) .nil))) rfl λW s=>?_;rw [EP,bB1 he0 hbd hck];exact ⟨cFm .u8 v.fm.op v.fm.nm v.fm.fd v.fm.a v.fm.b q1 q2,H5,FR.rep,rfl,(((u1.trans u3).trans u4).trans u5).grow s⟩
def bD2:Str:=[111,110,99,101,91,48,44,32,53,93,32,40,97,114,114,105,118,101,115,32,102,114,111,110,116,46,103,101,116,40,95,44,32,55,41,32,97,110,100,32,110,111,116,32,102,108,97,103,32,115,108,111,119,41]
def cA5:Str:=[40,97,46,120,32,43,32,49,41,32,42,32,50,32,62,32,110,111,119]
def bD3:Fm:=.mk 13 [] [] 0 5 [] [.mk 9 [] [] 0 0 [] [.mk 7 [102,114,111,110,116] [103,101,116] 0 0 [.mk 0 [] 0 [],.mk 1 [] 7 []] [],.mk 8 [] [] 0 0 [] [.mk 6 [115,108,111,119] [] 0 0 [] []]]]
def cA6:Fm:=.mk 3 [] [] 0 0 [.mk 20 [] 0 [.mk 11 [] 0 [.mk 14 [] 0 [.mk 5 [97,46,120] 0 [],.mk 1 [] 1 []],.mk 1 [] 2 []],.mk 4 [] 0 []]] []
theorem bD1:NQ (tD bD2)=(bD3,0,0):=by kernel_rfl
theorem bC9:NQ (tD cA5)=(cA6,0,0):=by kernel_rfl
theorem bD0:IR bD3=bD2:=by kernel_rfl
theorem PM (H:Hp) (GL:Gl H) (G:Gf H) (t:Str) (f:Fm) (hl:t.length<=400000) (hp:NQ (tD t)=(f,0,0)) (w:World) (hA:Agr H w) :
 Calls prg 26 #[cH t] w λe W'=>∃ (cs:List Value) (H':Hp),Rep H' (dFm .u8 f) cs/\e=.returned (.tuple #[.agg cs.toArray,.int .i64 0,.int .i64 0])/\xD H w H' W':=by
 have h:=YH H GL G t hl w hA;rw [hp] at h;exact h
theorem aL9 (H:Hp) (GL:Gl H) (G:Gf H) (gq:Gq H) (cs:List Value) (w:World) (h:Rep H (dFm .u8 bD3) cs) (hA:Agr H w):Calls prg 19 #[.agg cs.toArray] w λr w'=>r=.returned (cH bD2)/\Ext w w':=by
 have h1:=HP H GL G gq bD3 (by decide +kernel) cs w h hA;rw [bD0] at h1;exact h1
theorem aM0 (H:Hp) (GL:Gl H) (G:Gf H) (gq:Gq H) (w:World) (hA:Agr H w):Calls prg 13 #[] w λr w'=>r=.returned (.bool true)/\Ext w w':=by
 refine Sx.enter (H:=H) func13 rfl ntmps13 rfl hA ?_;refine .sr<|.a Z Z<|.ns<|.ct (X:=List Value) QS Z (λW s=>PM H GL G bD2 bD3 (by decide) bD1 W s.agr) Z λx1 H1 r1 u1=>?_
 have r1f:Rep H1 (dFm .u8 (Fm.mk 13 [] [] 0 5 [] [.mk 9 [] [] 0 0 [] [.mk 7 [102,114,111,110,116] [103,101,116] 0 0 [.mk 0 [] 0 [],.mk 1 [] 7 []] [],.mk 8 [] [] 0 0 [] [.mk 6 [115,108,111,119] [] 0 0 [] []]]])) x1:=r1;obtain ⟨p1,c1,p2,c2,rfl,hs1,hs2,_,_⟩:=gR r1f;obtain ⟨bE,oE,cE,hpE,rE,lE,mE⟩:=hs2.elem (i:=0) (d:=dFm .u8 (Fm.mk 9 [] [] 0 0 [] [.mk 7 [102,114,111,110,116] [103,101,116] 0 0 [.mk 0 [] 0 [],.mk 1 [] 7 []] [],.mk 8 [] [] 0 0 [] [.mk 6 [115,108,111,119] [] 0 0 [] []]])) rfl;cases hpE;obtain ⟨q1,d1,q2,d2,rfl,g1,g2,_,_⟩:=gR rE;refine .mv Z<|.yw (.extract Z Z)<|.yw (.extract Z Z)<|.yw (.extract Z Z)<|.al fV Z λb1=>.sW .head Z Z dM (Rep.one r1) Z<|.a Z Z<|.aq Z<|.sq<|.sm Z<|.yw (.cast (.neq Z Z) (congrArg Value.bool (aM (λh=>h Z))))<|.mv Z<|.gy (.move Z)<|.gy (.cast (.neq Z Z) (congrArg Value.bool (aM (λh=>h Z))))<|.yw (.pickF Z Z)<|.mv Z<|.gy (.fieldAddr Z gC)<|.gy (.load Z kX Hm Z)<|.gy (.cast (.neq Z Z) (congrArg Value.bool (aM (λh=>h Z))))<|.yw (.pickF Z Z)<|.mv Z<|.gy (.fieldAddr Z hP)<|.gy (.load Z cC Hm Z)<|.gy (.cast (.neq Z Z) (congrArg Value.bool (aM (λh=>h Z))))<|.yw (.pickF Z Z)<|.mv Z<|.gy (.fieldAddr Z hI)<|.gy (.load Z qS Hm Z)<|.gy (.lenSl qD Z)<|.gy (.cast (.neq Z Z) (congrArg Value.bool (aM (λh=>h Z))))<|.yw (.pickF Z Z)<|.mv Z<|.gy (.fieldAddr Z hI)<|.gy (.load Z qS Hm Z)<|.gy (.indexSl qD Z Z (i:=0) Z (by decide) (q:=oE+0 * 7) Z)<|.gy (.fieldAddr Z gC)<|.gy (.loadM Z kX mE (k:=0) Z Z)<|.gy (.cast (.neq Z Z) (congrArg Value.bool (aM (λh=>h Z))))<|.yw (.pickF Z Z)<|.mv Z<|.gy (.loadW Z cQ Hm Z)<|.gy (.call (v:=cH bD2) IG Z (λW s=>aL9 H1 (GL.up u1.up) (G.up u1.up) (gq.up u1.up) _ W r1 s.agr))<|.gy (.cast (.neS Z Z) (congrArg Value.bool (aM (λh=>h Z))))<|.yw (.pickF Z Z)<|.nt<|.cF Z<|.sk<|.tN<|.sr<|.ct (X:=List Value) QS Z (λW s=>PM H1 (GL.up u1.up) (G.up u1.up) cA5 cA6 (by decide) bC9 W s.agr) Z λx2 H2 r2 u2=>?_
 have r2f:Rep H2 (dFm .u8 (Fm.mk 3 [] [] 0 0 [(Ex.mk 20 [] 0 [(Ex.mk 11 [] 0 [.mk 14 [] 0 [.mk 5 [97,46,120] 0 [],.mk 1 [] 1 []],.mk 1 [] 2 []]),.mk 4 [] 0 []])] [])) x2:=r2;obtain ⟨p3,c3,p4,c4,rfl,hs3,hs4,_,_⟩:=gR r2f;obtain ⟨bF,oF,cF,hpF,rF,lF,mF⟩:=hs3.elem (i:=0) (d:=dEx .u8 (Ex.mk 20 [] 0 [(Ex.mk 11 [] 0 [.mk 14 [] 0 [.mk 5 [97,46,120] 0 [],.mk 1 [] 1 []],.mk 1 [] 2 []]),.mk 4 [] 0 []])) rfl;cases hpF;obtain ⟨p5,c5,rfl,hs5,_⟩:=fX rF;obtain ⟨bG,oG,cG,hpG,rG,lG,mG⟩:=hs5.elem (i:=0) (d:=dEx .u8 (Ex.mk 11 [] 0 [.mk 14 [] 0 [.mk 5 [97,46,120] 0 [],.mk 1 [] 1 []],.mk 1 [] 2 []])) rfl;cases hpG;obtain ⟨p6,c6,rfl,hs6,_⟩:=fX rG;refine .mv Z<|.yw (.extract Z Z)<|.yw (.extract Z Z)<|.yw (.extract Z Z)<|.al fV Z λb4=>.sW .head Z Z dM (Rep.one r2) Z<|.a Z Z<|.a Z Z<|.ns<|.mv Z<|.yw (.cast (.eql Z Z) (congrArg Value.bool (aK Z)))<|.mv Z<|.gy (.fieldAddr Z gC)<|.gy (.load Z kX Hm Z)<|.gy (.cast (.eql Z Z) (congrArg Value.bool (aK Z)))<|.yw (.pickT Z Z)<|.mv Z<|.gy (.fieldAddr Z cY)<|.gy (.load Z dQ Hm Z)<|.gy (.lenSl dW Z)<|.gy (.cast (.eql Z Z) (congrArg Value.bool (aK Z)))<|.yw (.pickT Z Z)<|.mv Z<|.gy (.fieldAddr Z cY)<|.gy (.load Z dQ Hm Z)<|.gy (.indexSl dW Z Z (i:=0) Z (by decide) (q:=oF+0 * 4) Z)<|.gy (.fieldAddr Z iI)<|.gy (.loadM Z kW mF (k:=0) Z Z)<|.gy (.cast (.eql Z Z) (congrArg Value.bool (aK Z)))<|.yw (.pickT Z Z)<|.mv Z<|.gy (.fieldAddr Z cY)<|.gy (.load Z dQ Hm Z)<|.gy (.indexSl dW Z Z (i:=0) Z (by decide) (q:=oF+0 * 4) Z)<|.gy (.fieldAddr Z eJ)<|.gy (.loadM Z dQ mF (k:=3) Z Z)<|.gy (.indexSl dW Z Z (i:=0) Z (by decide) (q:=oG+0 * 4) Z)<|.gy (.fieldAddr Z iI)<|.gy (.loadM Z kW mG (k:=0) Z Z)<|.gy (.cast (.eql Z Z) (congrArg Value.bool (aK Z)))<|.yw (.pickT Z Z)<|.az Z<|?_
 exact y9 Z Z λW s=>⟨Z,s.ext⟩
theorem aP2:cZ prg 13=true:=by kernel_rfl
theorem aP1:cZ prg 14=true:=by kernel_rfl
theorem aO9:cZ prg 21=true:=by kernel_rfl
variable {N:Nat}
theorem bT9 (hN:3<=N) (e:Ex) (h:Ex.all vS e=true):blE N e=true:=by
 induction e using Ex.ind with | _ op nm n args ih
 rw [lS,uL,aF,aD,lC,bC] at h;exact SZ.2 ⟨by omega,λa ha=>ih a ha (h.2 a ha)⟩
theorem aY6 (hN:4<=N) (f:Fm) (h:gdF f=true):blF N f=true:=by
 induction f using Fm.ind with | _ op nm fd a b ex args ih
 obtain ⟨⟨_,h1,h2,h3⟩,h4⟩:=SJ.1 h;exact AG.2 ⟨⟨by omega,by omega,λe he=>bT9 (by omega) e (aE1 (h3 e he))⟩,λg hg=>ih g hg (h4 g hg)⟩
theorem iB {a b:Bool} (h:a=b):Ending.returned (.bool a)=.returned (.bool b):=by rw [h]
theorem AF {op:UInt8} (k:Nat) {i:Int} (hk:k<256) (hi:i=(k:Int)):decide (op=UInt8.ofNat k)=decide (((op.toNat:Nat):Int)=i):=by
 subst hi;rw [aU,aD,aD]
 constructor
 ·rintro rfl;rw [eW hk]
 ·intro h;exact aS.1 (by rw [eW hk];omega)
theorem d_n {n:Int64} :decide (n=0)=decide (n.toInt=0):=by
 rw [aU,aD,aD];exact ⟨λh=>by rw [h];rfl,λh=>jY.1 h⟩
variable {n:Nat}
theorem bO5 (k:Nat) {i:Int} (hi:i=(k:Int)):decide (n=k)=decide (((n:Nat):Int)=i):=by
 subst hi;rw [aU,aD,aD];omega
theorem DI {op:UInt8} {nm:Str} {n:Int64} {args:List Ex} :BG (.mk op nm n args)=(decide (((op.toNat:Nat):Int)=0) && decide (nm=[]) && decide (n.toInt=0) && decide (((args.length:Nat):Int)=0)):=by
 rw [<-AF 0 (i:=0) (by decide) rfl,<-d_n,<-bO5 0 (i:=0) rfl];rfl
theorem LE (H:Hp) (e:Ex) (cs:List Value) (w:World) (h:Rep H (dEx .i64 e) cs) (hA:Agr H w):Calls prg 88 #[.agg cs.toArray] w λr w'=>r=.returned (.bool (BG e))/\Ext w w':=by
 obtain ⟨op,nm,nn,args⟩:=e;obtain ⟨pp,c,rfl,hs,hnm⟩:=fX h;have hcap:=hs.cap;refine Sx.enter (H:=H) func88 rfl ntmps88 rfl hA ?_;refine .sr<|.bx Z Z Z λb1=>.a Z Z<|.ns<|.fA Z cO<|.lD Z cC Hm Z<|.yw (.eql Z Z)<|.mv Z<|.e2 (λh6=>?_) (λh6=>?_)
 ·refine .gy (.fieldAddr Z dD)<|.gy (.load Z cP Hm Z)<|.gy (.eqS Z Z)<|.yw (.pickT Z Z)<|.mv Z<|.e2 (λh11=>?_) (λh11=>?_)
  ·refine .gy (.fieldAddr Z dO)<|.gy (.load Z eS Hm Z)<|.gy (.eql Z Z)<|.yw (.pickT Z Z)<|.mv Z<|.e2 (λh16=>?_) (λh16=>?_)
   ·refine .gy (.fieldAddr Z fG)<|.gy (.load Z eQ Hm Z)<|.gy (.lenSl eL Z)<|.gy (.eql Z Z)<|.yw (.pickT Z Z)<|.az Z<|?_
    refine y9 Z Z λW s=>⟨iB ?_,s.ext⟩
    first
     | (rw [DI,aK h6,aK h11,aK h16];simp;done)
     | (rw [DI,aK h6,aK h11,aM h16];simp;done)
     | (rw [DI,aK h6,aM h11];simp;done)
     | (rw [DI,aM h6];simp;done)
   refine .gG<|.gG<|.gG<|.gG<|.yw (.pickF Z Z)<|.az Z<|?_
   refine y9 Z Z λW s=>⟨iB ?_,s.ext⟩
   first
    | (rw [DI,aK h6,aK h11,aK h16];simp;done)
    | (rw [DI,aK h6,aK h11,aM h16];simp;done)
    | (rw [DI,aK h6,aM h11];simp;done)
    | (rw [DI,aM h6];simp;done)
  refine .gG<|.gG<|.gG<|.yw (.pickF Z Z)<|.mv Z<|.gG<|.gG<|.gG<|.gG<|.yw (.pickF Z Z)<|.az Z<|?_
  refine y9 Z Z λW s=>⟨iB ?_,s.ext⟩
  first
   | (rw [DI,aK h6,aK h11,aK h16];simp;done)
   | (rw [DI,aK h6,aK h11,aM h16];simp;done)
   | (rw [DI,aK h6,aM h11];simp;done)
   | (rw [DI,aM h6];simp;done)
 refine .gG<|.gG<|.gG<|.yw (.pickF Z Z)<|.mv Z<|.gG<|.gG<|.gG<|.yw (.pickF Z Z)<|.mv Z<|.gG<|.gG<|.gG<|.gG<|.yw (.pickF Z Z)<|.az Z<|?_
 refine y9 Z Z λW s=>⟨iB ?_,s.ext⟩
 first
  | (rw [DI,aK h6,aK h11,aK h16];simp;done)
  | (rw [DI,aK h6,aK h11,aM h16];simp;done)
  | (rw [DI,aK h6,aM h11];simp;done)
  | (rw [DI,aM h6];simp;done)
theorem SX {c:UInt8} (h:(c.toNat:Int)=32\/(c.toNat:Int)=9\/(c.toNat:Int)=10\/(c.toNat:Int)=13):kZ c=true:=by
 simp only [kZ,aT,aD,<-aS];rcases h with h | h | h | h
 ·exact .inl (.inl (.inl (by show c.toNat=32;omega)))
 ·exact .inl (.inl (.inr (by show c.toNat=9;omega)))
 ·exact .inl (.inr (by show c.toNat=10;omega))
 ·exact .inr (by show c.toNat=13;omega)
theorem sH {c:UInt8} (h:¬ ((c.toNat:Int)=32\/(c.toNat:Int)=9\/(c.toNat:Int)=10\/(c.toNat:Int)=13)):kZ c=false:=by
 cases e:kZ c with
 | false=>rfl
 | true =>
  refine absurd ?_ h;simp only [kZ,aT,aD] at e;rcases e with ((e | e) | e) | e <;> subst e <;> simp
variable {s:Str} {k:Nat}
theorem FN {R:Str} (hk:k<s.length) (hb:kZ s[k]=true) (h:eG false (s.drop k)=R):eG false (s.drop (k+1))=R:=by
 rw [fH hk,OV hb] at h;exact h
theorem bG4 {R:Str} (hk:k+1<s.length) (h1:(s[k].toNat:Int)=47) (h2:(s[k+1].toNat:Int)=47) (h:eG false (s.drop k)=R):eG true (s.drop k)=R:=by
 have e1:s[k]=47:=aS.1 (by show s[k].toNat=47;omega);have e2:s[k+1]=47:=aS.1 (by show s[k+1].toNat=47;omega);rw [fH (show k<s.length by omega),fH hk,e1,e2] at h|-;rw [<-OS];exact h
theorem aT7 {R:Str} (hk:k<s.length) (hb:¬ (s[k].toNat:Int)=10) (h:eG true (s.drop k)=R):eG true (s.drop (k+1))=R:=by
 rw [fH hk,OU (λe=>hb (by rw [e];rfl))] at h;exact h
theorem OQ {R:Str} (hk:s.length<=k) (h:eG true (s.drop k)=R):eG false (s.drop k)=R:=by
 rw [fI hk,sQ] at h|-;exact h
theorem OP {R:Str} (hk:k<s.length) (hb:(s[k].toNat:Int)=10) (h:eG true (s.drop k)=R):eG false (s.drop k)=R:=by
 have e1:s[k]=10:=aS.1 (by show s[k].toNat=10;omega);rw [fH hk,e1] at h|-;rw [<-OT];exact h
theorem sF (hk:k<s.length) (hb:kZ s[k]=false) (h:¬ (s[k].toNat:Int)=47\/¬ k+1<s.length\/∃ h:k+1<s.length,¬ (s[k+1].toNat:Int)=47):eG false (s.drop k)=s.drop k:=by
 rw [fH hk];refine oW hb ?_;rintro ⟨e1,e2⟩;rcases h with h | h | ⟨h0,h⟩
 ·exact h (by rw [e1];rfl)
 ·rw [fI (by omega)] at e2;cases e2
 ·rw [fH h0] at e2;exact h (by rw [bL e2];rfl)
theorem FK (hk:s.length<=k):eG false (s.drop k)=s.drop k:=by rw [fI hk,sQ]
theorem lO {R:Str} (hk:k<=s.length) (h:eG false (s.drop k)=R) (h2:eG false (s.drop k)=s.drop k):s.length - R.length=k:=by
 rw [<-h,h2,cM];omega
theorem UF (s:Str) (hl:s.length<=1000000) (o:Nat) (ho:o<=s.length) (w:World) :
 Calls prg 67 #[cH s,iN o] w λr w'=>r=.returned (.int .i64 ((s.length - (eG false (s.drop o)).length:Nat):Int))/\Ext w w':=by
 refine y6 func67 Z ntmps67 Z ?_;refine .sr<|.aq Z<|.sq<|.bk<|.lp (X:=Nat) [(0,_)] ⟨Z,Jt⟩ [] (λk=>[(1,iN k)]) (λk=>(⟨λ_=>none,0⟩:Hp)) (λk=>[]) (λk=>k<=s.length/\eG false (s.drop k)=eG false (s.drop o)) (λk=>s.length - k) o (λ_ s=>s) ⟨Z,Jt⟩ ⟨ho,Z⟩ λk hC=>?_
 obtain ⟨hk0,hC2⟩:=hC;refine .sq<|.sm Z<|.mv Z<|.yw (.lenS dI Z)<|.yw (.lss Z Z)<|.nt<|.ce Z (λh8=>?_) (λh8=>?_)
 ·have hk:k<s.length:=by omega
  refine .sk<|.tN<|.bk<|.sm Z<|.mv Z<|.yw (.idxS dI Z Z Z (b:=s[k]) (j:=k) (List.getElem?_eq_getElem hk))<|.yw (.eql Z Z)<|.mv Z<|.e2 (λh13=>?_) (λh13=>?_)
  ·exact .gG<|.gG<|.gG<|.gG<|.yw (.pickT Z Z)<|.mv Z<|.gG<|.gG<|.gG<|.gG<|.yw (.pickT Z Z)<|.mv Z<|.gG<|.gG<|.gG<|.gG<|.yw (.pickT Z Z)<|.nt<|.cT Z<|.rg<|.mv Z<|.yw (.add Z Z w7)<|.a Z Z<|.nl<|.bN<|.tN<|.ag (k+1) ⟨Z,Jt⟩ ⟨Z,Jt⟩ (λ_ s=>s) ⟨by omega,FN (by omega) (SX (by omega)) hC2⟩ (by first | omega | (have:j≠k:=λe=>by subst e;omega);omega)
  refine .gy (.move Z)<|.gy (.move Z)<|.gy (.idxS dI Z Z Z (b:=s[k]) (j:=k) (List.getElem?_eq_getElem hk))<|.gy (.eql Z Z)<|.yw (.pickF Z Z)<|.mv Z<|.e2 (λh19=>?_) (λh19=>?_)
  ·exact .gG<|.gG<|.gG<|.gG<|.yw (.pickT Z Z)<|.mv Z<|.gG<|.gG<|.gG<|.gG<|.yw (.pickT Z Z)<|.nt<|.cT Z<|.rg<|.mv Z<|.yw (.add Z Z w7)<|.a Z Z<|.nl<|.bN<|.tN<|.ag (k+1) ⟨Z,Jt⟩ ⟨Z,Jt⟩ (λ_ s=>s) ⟨by omega,FN (by omega) (SX (by omega)) hC2⟩ (by first | omega | (have:j≠k:=λe=>by subst e;omega);omega)
  refine .gy (.move Z)<|.gy (.move Z)<|.gy (.idxS dI Z Z Z (b:=s[k]) (j:=k) (List.getElem?_eq_getElem hk))<|.gy (.eql Z Z)<|.yw (.pickF Z Z)<|.mv Z<|.e2 (λh25=>?_) (λh25=>?_)
  ·exact .gG<|.gG<|.gG<|.gG<|.yw (.pickT Z Z)<|.nt<|.cT Z<|.rg<|.mv Z<|.yw (.add Z Z w7)<|.a Z Z<|.nl<|.bN<|.tN<|.ag (k+1) ⟨Z,Jt⟩ ⟨Z,Jt⟩ (λ_ s=>s) ⟨by omega,FN (by omega) (SX (by omega)) hC2⟩ (by first | omega | (have:j≠k:=λe=>by subst e;omega);omega)
  refine .gy (.move Z)<|.gy (.move Z)<|.gy (.idxS dI Z Z Z (b:=s[k]) (j:=k) (List.getElem?_eq_getElem hk))<|.gy (.eql Z Z)<|.yw (.pickF Z Z)<|.nt<|.ce Z (λh30=>?_) (λh30=>?_)
  ·exact .rg<|.mv Z<|.yw (.add Z Z w7)<|.a Z Z<|.nl<|.bN<|.tN<|.ag (k+1) ⟨Z,Jt⟩ ⟨Z,Jt⟩ (λ_ s=>s) ⟨by omega,FN (by omega) (SX (by omega)) hC2⟩ (by first | omega | (have:j≠k:=λe=>by subst e;omega);omega)
  refine .sm Z<|.yw (.add Z Z w7)<|.mv Z<|.yw (.lenS dI Z)<|.yw (.lss Z Z)<|.mv Z<|.e2 (λh38=>?_) (λh38=>?_)
  ·have hk1:k+1<s.length:=by omega
   refine .gy (.move Z)<|.gy (.move Z)<|.gy (.idxS dI Z Z Z (b:=s[k]) (j:=k) (List.getElem?_eq_getElem hk))<|.gy (.eql Z Z)<|.yw (.pickT Z Z)<|.mv Z<|.e2 (λh44=>?_) (λh44=>?_)
   ·refine .gy (.move Z)<|.gy (.move Z)<|.gy (.add Z Z w7)<|.gy (.idxS dI Z Z (by omega) (b:=s[(k+1)]) (j:=(k+1)) (List.getElem?_eq_getElem hk1))<|.gy (.eql Z Z)<|.yw (.pickT Z Z)<|.nt<|.ce Z (λh50=>?_) (λh50=>?_)
    ·refine .bk<|.lp (X:=Nat) [(0,_)] ⟨Z,Jt⟩ [] (λj=>[(1,iN j)]) (λj=>(⟨λ_=>none,0⟩:Hp)) (λj=>[]) (λj=>k<=j/\j<=s.length/\eG true (s.drop j)=eG false (s.drop o)) (λj=>s.length - j) k (λ_ s=>s) ⟨Z,Jt⟩ ⟨by omega,by omega,bG4 (by omega) (by omega) (by omega) hC2⟩ λj hC=>?_
     obtain ⟨hj0,hj1,hC3⟩:=hC;refine .sq<|.sm Z<|.mv Z<|.yw (.lenS dI Z)<|.yw (.lss Z Z)<|.mv Z<|.e2 (λh55=>?_) (λh55=>?_)
     ·have hj:j<s.length:=by omega
      refine .gy (.move Z)<|.gy (.move Z)<|.gy (.idxS dI Z Z Z (b:=s[j]) (j:=j) (List.getElem?_eq_getElem hj))<|.gy (.neq Z Z)<|.yw (.pickT Z Z)<|.nt<|.ce Z (λh60=>?_) (λh60=>?_)
      ·exact .sk<|.tN<|.bk<|.rg<|.mv Z<|.yw (.add Z Z w7)<|.a Z Z<|.nl<|.bN<|.tN<|.ag (j+1) ⟨Z,Jt⟩ ⟨Z,Jt⟩ (λ_ s=>s) ⟨by omega,by omega,aT7 (by omega) (by omega) hC3⟩ (by omega)
      exact .ex<|.tE<|.tE<|.bE<|.bN<|.tN<|.ag j ⟨Z,Jt⟩ ⟨Z,Jt⟩ (λ_ s=>s) ⟨by omega,by first | exact OQ (by omega) hC3 | exact OP (show j<s.length by omega) (by omega) hC3⟩ (by first | omega | (have:j≠k:=λe=>by subst e;omega);omega)
     exact .gG<|.gG<|.gG<|.gG<|.yw (.pickF Z Z)<|.nt<|.cF Z<|.ex<|.tE<|.tE<|.bE<|.bN<|.tN<|.ag j ⟨Z,Jt⟩ ⟨Z,Jt⟩ (λ_ s=>s) ⟨by omega,by first | exact OQ (by omega) hC3 | exact OP (show j<s.length by omega) (by omega) hC3⟩ (by first | omega | (have:j≠k:=λe=>by subst e;omega);omega)
    refine .sm Z<|.az Z<|.bR<|.tR<|.bR<|.tR<|?_
    refine y9 Z Z λW s=>⟨?_,s.ext⟩
    first
     | (rw [lO hk0 hC2 (sF hk (sH (by omega)) (.inl (by omega)))])
     | (rw [lO hk0 hC2 (sF hk (sH (by omega)) (.inr (.inl (by omega))))])
     | (rw [lO hk0 hC2 (sF hk (sH (by omega)) (.inr (.inr ⟨hk1,by omega⟩)))])
     | (rw [lO hk0 hC2 (FK (by omega))])
   refine .gG<|.gG<|.gG<|.gG<|.gG<|.yw (.pickF Z Z)<|.nt<|.cF Z<|.sm Z<|.az Z<|.bR<|.tR<|.bR<|.tR<|?_
   refine y9 Z Z λW s=>⟨?_,s.ext⟩
   first
    | (rw [lO hk0 hC2 (sF hk (sH (by omega)) (.inl (by omega)))])
    | (rw [lO hk0 hC2 (sF hk (sH (by omega)) (.inr (.inl (by omega))))])
    | (rw [lO hk0 hC2 (sF hk (sH (by omega)) (.inr (.inr ⟨hk1,by omega⟩)))])
    | (rw [lO hk0 hC2 (FK (by omega))])
  refine .gG<|.gG<|.gG<|.gG<|.yw (.pickF Z Z)<|.mv Z<|.gG<|.gG<|.gG<|.gG<|.gG<|.yw (.pickF Z Z)<|.nt<|.cF Z<|.sm Z<|.az Z<|.bR<|.tR<|.bR<|.tR<|?_
  refine y9 Z Z λW s=>⟨?_,s.ext⟩
  first
   | (rw [lO hk0 hC2 (sF hk (sH (by omega)) (.inl (by omega)))])
   | (rw [lO hk0 hC2 (sF hk (sH (by omega)) (.inr (.inl (by omega))))])
   | (rw [lO hk0 hC2 (sF hk (sH (by omega)) (.inr (.inr ⟨hk1,by omega⟩)))])
   | (rw [lO hk0 hC2 (FK (by omega))])
 obtain rfl:k=s.length:=by omega
 refine .ex<|.eb<|.sm Z<|.az Z<|?_
 refine y9 Z Z λW s=>⟨?_,s.ext⟩
 first
  | (rw [lO hk0 hC2 (sF hk (sH (by omega)) (.inl (by omega)))])
  | (rw [lO hk0 hC2 (sF hk (sH (by omega)) (.inr (.inl (by omega))))])
  | (rw [lO hk0 hC2 (sF hk (sH (by omega)) (.inr (.inr ⟨hk1,by omega⟩)))])
  | (rw [lO hk0 hC2 (FK (by omega))])
theorem NT (H:Hp) (w:World) (hA:Agr H w):Calls prg 126 #[] w λr w'=>∃ (b:Nat) (H':Hp),kU H' b 0 (words.map cH)/\r=.returned (.slice (some ⟨b,0,none⟩) 39 39)/\xD H w H' w':=by
 refine Sx.enter (H:=H) func126 rfl ntmps126 rfl hA ?_;refine .sr<|.a Z Z<|.ns<|.bl Z (WQ _ _ _ _ _ _ _ _ _ _ _ _ _ _ _ _ _ _ _ _ _ _ _ _ _ _ _ _ _ _ _ _ _ _ _ _ _ _ _) Z λb1=>?_
 refine yW λH1 u1 m1=>?_;refine .az Z<|?_
 exact y9 Z Z λW s=>⟨b1,H1,m1,Z,u1.grow s⟩
theorem RE (H:Hp) (w:World) (hA:Agr H w):Calls prg 127 #[] w λr w'=>∃ (b:Nat) (H':Hp),kU H' b 0 (symbols.map cH)/\r=.returned (.slice (some ⟨b,0,none⟩) 25 25)/\xD H w H' w':=by
 refine Sx.enter (H:=H) func127 rfl ntmps127 rfl hA ?_;refine .sr<|.a Z Z<|.ns<|.bl Z (WR _ _ _ _ _ _ _ _ _ _ _ _ _ _ _ _ _ _ _ _ _ _ _ _ _) Z λb1=>?_
 refine yW λH1 u1 m1=>?_;refine .az Z<|?_
 exact y9 Z Z λW s=>⟨b1,H1,m1,Z,u1.grow s⟩
theorem HH {c:UInt8} (h:mW c=true\/iA c=true\/(c.toNat:Int)=95):iC c=true:=by
 simp only [iC,aT,aD];rcases h with h | h | h
 ·exact .inl (.inl h)
 ·exact .inl (.inr h)
 ·exact .inr (by omega)
theorem JY {c:UInt8} (h1:mW c=false) (h2:iA c=false) (h3:¬ (c.toNat:Int)=95):iC c=false:=by
 simp only [iC,lK,dP];exact ⟨⟨h1,h2⟩,by omega⟩
theorem JW {q:UInt8->Bool} {l:Str} (h:k<=pre q l) (hk:¬ k<l.length):k=pre q l:=by
 have:=tQ q l;omega
theorem GE (s:Str) (o n:Nat):(s.take (o+n)).drop o=(s.drop o).take n:=by
 rw [uD,iU]
theorem vI {l x:Str} (h:symbols.find? (λx=>x.isPrefixOf l)=some x):l.take x.length=x:=by
 have h1:=List.find?_some (p:=λ(x:Str)=>x.isPrefixOf l) h;obtain ⟨t,ht⟩:=gW.1 h1;rw [<-ht,jG]
theorem bE8 {l:Str} (hk:k<39) (h:words.getD k []=l):words.contains l=true:=by
 rw [fR,<-h,zZ (show k<words.length from hk)];exact bI _
theorem bE7 {l:Str} (h:∀ j,j<39->words.getD j []≠l):words.contains l=false:=by
 rw [Bool.eq_false_iff,Ne,fR];intro hm;obtain ⟨j,hj,e⟩:=oO.1 hm;exact h j hj (by rw [zZ hj];exact e)
theorem aW1 (H:Hp) (s:Str) (hl:s.length<=1000000) (o:Nat) (ho:o<s.length) (w:World) (hA:Agr H w) :
 Calls prg 68 #[cH s,iN o] w λr w'=>r=.returned (.agg [iN ((bU (s.drop o)).1.toNat),cH ((s.drop o).take (bU (s.drop o)).2),iN o].toArray)/\Ext w w':=by
 obtain ⟨l,hm⟩:∃ l,l=s.drop o:=⟨_,Z⟩;rw [<-hm];have hlen:o+l.length=s.length:=by rw [hm,cM];omega
 have hget:∀ k (h:k<l.length),s[o+k]? = some l[k]:=λk h=>by rw [<-List.getElem?_drop,<-hm,List.getElem?_eq_getElem h]
 cases l with
 | nil=>simp only [aL] at hlen;omega
 | cons c m =>
 have hlen2:(c::m).length=m.length+1:=rfl;refine Sx.enter (H:=H) func68 rfl ntmps68 rfl hA ?_;refine .sr<|.al PZ Z λb4=>.ns<|.mv Z<|.aq Z<|.sq<|.sm Z<|.mv Z<|.yw (.idxS dI Z Z Z (b:=c) (j:=o) (by rw [<-jP o];exact hget 0 (by simp)))<|.yw (.call NB Z (λW s=>IV _ W))<|.nt<|.cd Z (λh15=>?_) (λh15=>?_)
 ·refine .cu (X:=Unit) [(0,_),(1,_),(4,_)] ⟨Z,Z,Z,Jt⟩ (λz=>[(5,.int .i64 ((o+pre iC (c::m):Nat):Int))]) (λz=>H) (λz=>[.box b4 [.int .i64 0,.string ⟨#[]⟩,.int .i64 0] 70]) (λz=>True) ?_ λz hC=>?_
  ·
   refine .bk<|.lp (X:=Nat) [(0,_),(1,_),(4,_)] ⟨Z,Z,Z,Jt⟩ [_] (λk=>[(5,.int .i64 ((o+k:Nat):Int))]) (λk=>H) (λk=>[]) (λk=>k<=pre iC (c::m)) (λk=>pre iC (c::m) - k) 0 (λ_ s=>s) ⟨Z,Jt⟩ (by omega) λk hC=>?_
   refine .sq<|.sm Z<|.mv Z<|.yw (.lenS dI Z)<|.yw (.lss Z Z)<|.mv Z<|.e2 (λh20=>?_) (λh20=>?_)
   ·have hk:k<(c::m).length:=by omega
    refine .gy (.move Z)<|.gy (.move Z)<|.gy (.idxS dI Z Z Z (b:=(c::m)[k]) (j:=o+k) (hget k hk))<|.gy (.call NB Z (λW s=>IV _ W))<|.gy (.move Z)<|.b2 (λh25=>?_) (λh25=>?_)
    ·exact .gG<|.gG<|.gG<|.gG<|.gy (.pickT Z Z)<|.gy (.move Z)<|.gG<|.gG<|.gG<|.gG<|.gy (.pickT Z Z)<|.yw (.pickT Z Z)<|.nt<|.cT Z<|.sk<|.tN<|.bk<|.rg<|.mv Z<|.yw (.add Z Z (c:=((o+(k+1):Nat):Int)) ((w6 (by omega)).trans (by omega)))<|.a Z Z<|.nl<|.bN<|.tN<|.ag (k+1) ⟨Z,Jt⟩ ⟨Z,Z,Z,Jt⟩ (λ_ s=>s) (qK hk hC (HH (by first | exact .inl (by assumption) | exact .inr (.inl (by assumption)) | exact .inr (.inr (by omega))))) (by have:=qK hk hC (HH (by first | exact .inl (by assumption) | exact .inr (.inl (by assumption)) | exact .inr (.inr (by omega))));omega)
    refine .gy (.move Z)<|.gy (.move Z)<|.gy (.idxS dI Z Z Z (b:=(c::m)[k]) (j:=o+k) (hget k hk))<|.gy (.call EW Z (λW s=>EG _ W))<|.gy (.pickF Z Z)<|.gy (.move Z)<|.b2 (λh31=>?_) (λh31=>?_)
    ·exact .gG<|.gG<|.gG<|.gG<|.gy (.pickT Z Z)<|.yw (.pickT Z Z)<|.nt<|.cT Z<|.sk<|.tN<|.bk<|.rg<|.mv Z<|.yw (.add Z Z (c:=((o+(k+1):Nat):Int)) ((w6 (by omega)).trans (by omega)))<|.a Z Z<|.nl<|.bN<|.tN<|.ag (k+1) ⟨Z,Jt⟩ ⟨Z,Z,Z,Jt⟩ (λ_ s=>s) (qK hk hC (HH (by first | exact .inl (by assumption) | exact .inr (.inl (by assumption)) | exact .inr (.inr (by omega))))) (by have:=qK hk hC (HH (by first | exact .inl (by assumption) | exact .inr (.inl (by assumption)) | exact .inr (.inr (by omega))));omega)
    refine .gy (.move Z)<|.gy (.move Z)<|.gy (.idxS dI Z Z Z (b:=(c::m)[k]) (j:=o+k) (hget k hk))<|.gy (.eql Z Z)<|.gy (.pickF Z Z)<|.yw (.pickT Z Z)<|.nt<|.ce Z (λh37=>?_) (λh37=>?_)
    ·exact .sk<|.tN<|.bk<|.rg<|.mv Z<|.yw (.add Z Z (c:=((o+(k+1):Nat):Int)) ((w6 (by omega)).trans (by omega)))<|.a Z Z<|.nl<|.bN<|.tN<|.ag (k+1) ⟨Z,Jt⟩ ⟨Z,Z,Z,Jt⟩ (λ_ s=>s) (qK hk hC (HH (by first | exact .inl (by assumption) | exact .inr (.inl (by assumption)) | exact .inr (.inr (by omega))))) (by have:=qK hk hC (HH (by first | exact .inl (by assumption) | exact .inr (.inl (by assumption)) | exact .inr (.inr (by omega))));omega)
    exact .ex<|.eb<|.me () ⟨(by first | (rw [<-JW hC (by omega)];rfl) | (rw [<-wW hk hC (by first | exact JY (by assumption) (by assumption) (by omega) | assumption)];rfl)),Jt⟩ ⟨Z,Z,Z,Jt⟩ (λ_ s=>s) trivial
   exact .gG<|.gG<|.gG<|.gG<|.gG<|.gV<|.gV<|.gV<|.gV<|.gG<|.gG<|.gV<|.gV<|.gV<|.gV<|.gG<|.yw (.pickF Z Z)<|.nt<|.cF Z<|.ex<|.eb<|.me () ⟨(by first | (rw [<-JW hC (by omega)];rfl) | (rw [<-wW hk hC (by first | exact JY (by assumption) (by assumption) (by omega) | assumption)];rfl)),Jt⟩ ⟨Z,Z,Z,Jt⟩ (λ_ s=>s) trivial
  refine .sm Z<|.mv Z<|.mv Z<|.yw (.cast (.midS dI Z Z Z Z Z (by omega) (by have:=tQ iC (c::m);omega)) (by rw [GE,<-hm]))<|.aq Z<|.sq<|.sr<|.ct (X:=Nat) ZO Z (λW s=>NT H W s.agr) Z λb44 H1 m1 u1=>.yw (.lenSl xX Z)<|.mv Z<|.nt<|.bk<|.lp (X:=Nat) [(0,_),(1,_),(4,_),(5,_),(6,_),(44,_),(45,_)] ⟨Z,Z,Z,Z,Z,Z,Z,Jt⟩ [_] (λk=>[(46,iN k)]) (λk=>H1) (λk=>[]) (λk=>k<=39/\∀ j,j<k->words.getD j []≠((c::m).take (pre iC (c::m)))) (λk=>39 - k) 0 (λ_ s=>s) ⟨Z,Jt⟩ ⟨by omega,λj hj=>by omega⟩ λk hC=>?_
  obtain ⟨hk0,hne⟩:=hC;refine .sr<|.yw (.lss Z Z)<|.nt<|.sq<|.ce Z (λh47=>?_) (λh47=>?_)
  ·refine .sk<|.tN<|.sq<|.bk<|.sr<|.yw (.indexSl xX Z Z Z (by omega) (q:=k) (by omega))<|.yw (.loadM Z cP m1 (k:=k) (by omega) (uV (by show k<39;omega) []))<|.a Z Z<|.ns<|.mv Z<|.mv Z<|.yw (.eqS Z Z)<|.nt<|.ce Z (λh52=>?_) (λh52=>?_)
   ·have hw:=bE8 (by omega) h52;refine .sm Z<|.mv Z<|.yw (.build Z (kV _ _ _))<|.sX .head Z Z rH Z<|.zR<|.tR<|.bR<|.tR<|.tR<|?_
    refine y8 Z (.cell Z uA Hm rfl) λW s=>⟨?_,(u1.grow s).ext⟩
    first
     | (simp only [bU,aN,h15,hw,aY,aW,aE];rfl)
     | (simp only [bU,aN,h15,hw,aY,aW,aE,aZ];rfl)
     | (simp only [bU,aN,h15,hw,hw9,aY,aW,aE];rfl)
     | (simp only [bU,aN,h15,hw,hw9,aY,aW,aE,aZ];rfl)
     | (simp only [bU,aN,h15,h71,hor,aY,aW,aE];rfl)
     | (simp only [bU,aN,h15,h71,hor,aY,aW,aE,aZ];rfl)
     | (simp only [bU,aN,h15,h71,hfind,aY,aW,aE];rfl)
     | (simp only [bU,aN,h15,h71,hfind,aY,aW,aE,aZ];rfl)
     | (simp only [bU,aN,h15,h71,hfind,aY,aW,aE,vI hfind];rfl)
     | (simp only [bU,aN,h15,h71,hfind,aY,aW,aE,aZ];rfl)
   exact .sk<|.bN<|.tN<|.rg<|.yw (.add Z Z w7)<|.mv Z<|.nt<|.ag (k+1) ⟨Z,Jt⟩ ⟨Z,Z,Z,Z,Z,Z,Z,Jt⟩ (λ_ s=>s) ⟨by omega,λj hj=>by
   by_cases e:j=k
   ·subst e;exact h52
   ·exact hne j (by omega)⟩ (by omega)
  have hw:=bE7 (λj hj=>hne j (by omega));refine .ex<|.eb<|.sq<|.sm Z<|.yw (.lenS dI Z)<|.yw (.leq Z Z)<|.nt<|.ce Z (λh59=>?_) (λh59=>?_)
  ·have hw9:pre iC (c::m)<=12:=by have:=tQ iC (c::m);rw [dT] at h59;omega
   refine .sm Z<|.mv Z<|.yw (.build Z (kV _ _ _))<|.sX .head Z Z rH Z<|.nt<|.rt<|.tR<|.tR<|?_
   refine y8 Z (.cell Z uA Hm rfl) λW s=>⟨?_,(u1.grow s).ext⟩
   first
    | (simp only [bU,aN,h15,hw,aY,aW,aE];rfl)
    | (simp only [bU,aN,h15,hw,aY,aW,aE,aZ];rfl)
    | (simp only [bU,aN,h15,hw,hw9,aY,aW,aE];rfl)
    | (simp only [bU,aN,h15,hw,hw9,aY,aW,aE,aZ];rfl)
    | (simp only [bU,aN,h15,h71,hor,aY,aW,aE];rfl)
    | (simp only [bU,aN,h15,h71,hor,aY,aW,aE,aZ];rfl)
    | (simp only [bU,aN,h15,h71,hfind,aY,aW,aE];rfl)
    | (simp only [bU,aN,h15,h71,hfind,aY,aW,aE,aZ];rfl)
    | (simp only [bU,aN,h15,h71,hfind,aY,aW,aE,vI hfind];rfl)
    | (simp only [bU,aN,h15,h71,hfind,aY,aW,aE,aZ];rfl)
  have hw9:¬ pre iC (c::m)<=12:=by have:=tQ iC (c::m);rw [dT] at h59;omega
  refine .sk<|.tN<|.sm Z<|.mv Z<|.yw (.cast (.dropS dI Z Z Z (by omega)) (by rw [<-hm]))<|.mv Z<|.yw (.build Z (kV _ _ _))<|.sX .head Z Z rH Z<|.nt<|.rt<|.tR<|?_
  refine y8 Z (.cell Z uA Hm rfl) λW s=>⟨?_,(u1.grow s).ext⟩
  first
   | (simp only [bU,aN,h15,hw,aY,aW,aE];rfl)
   | (simp only [bU,aN,h15,hw,aY,aW,aE,aZ];rfl)
   | (simp only [bU,aN,h15,hw,hw9,aY,aW,aE];rfl)
   | (simp only [bU,aN,h15,hw,hw9,aY,aW,aE,aZ];rfl)
   | (simp only [bU,aN,h15,h71,hor,aY,aW,aE];rfl)
   | (simp only [bU,aN,h15,h71,hor,aY,aW,aE,aZ];rfl)
   | (simp only [bU,aN,h15,h71,hfind,aY,aW,aE];rfl)
   | (simp only [bU,aN,h15,h71,hfind,aY,aW,aE,aZ];rfl)
   | (simp only [bU,aN,h15,h71,hfind,aY,aW,aE,vI hfind];rfl)
   | (simp only [bU,aN,h15,h71,hfind,aY,aW,aE,aZ];rfl)
 refine .sk<|.tN<|.sq<|.sm Z<|.mv Z<|.yw (.idxS dI Z Z Z (b:=c) (j:=o) (by rw [<-jP o];exact hget 0 (by simp)))<|.yw (.call EW Z (λW s=>EG _ W))<|.nt<|.cd Z (λh71=>?_) (λh71=>?_)
 ·refine .cu (X:=Unit) [(0,_),(1,_),(4,_)] ⟨Z,Z,Z,Jt⟩ (λz=>[(5,.int .i64 ((o+pre iA (c::m):Nat):Int))]) (λz=>H) (λz=>[.box b4 [.int .i64 0,.string ⟨#[]⟩,.int .i64 0] 70]) (λz=>True) ?_ λz hC=>?_
  ·
   refine .bk<|.lp (X:=Nat) [(0,_),(1,_),(4,_)] ⟨Z,Z,Z,Jt⟩ [_] (λk=>[(5,.int .i64 ((o+k:Nat):Int))]) (λk=>H) (λk=>[]) (λk=>k<=pre iA (c::m)) (λk=>pre iA (c::m) - k) 0 (λ_ s=>s) ⟨Z,Jt⟩ (by omega) λk hC=>?_
   refine .sq<|.sm Z<|.mv Z<|.yw (.lenS dI Z)<|.yw (.lss Z Z)<|.mv Z<|.e2 (λh76=>?_) (λh76=>?_)
   ·have hk:k<(c::m).length:=by omega
    refine .gy (.move Z)<|.gy (.move Z)<|.gy (.idxS dI Z Z Z (b:=(c::m)[k]) (j:=o+k) (hget k hk))<|.gy (.call EW Z (λW s=>EG _ W))<|.yw (.pickT Z Z)<|.nt<|.cd Z (λh81=>?_) (λh81=>?_)
    ·exact .sk<|.tN<|.bk<|.rg<|.mv Z<|.yw (.add Z Z (c:=((o+(k+1):Nat):Int)) ((w6 (by omega)).trans (by omega)))<|.a Z Z<|.nl<|.bN<|.tN<|.ag (k+1) ⟨Z,Jt⟩ ⟨Z,Z,Z,Jt⟩ (λ_ s=>s) (qK hk hC (by assumption)) (by have:=qK hk hC (by assumption);omega)
    exact .ex<|.eb<|.me () ⟨(by first | (rw [<-JW hC (by omega)];rfl) | (rw [<-wW hk hC (by first | exact JY (by assumption) (by assumption) (by omega) | assumption)];rfl)),Jt⟩ ⟨Z,Z,Z,Jt⟩ (λ_ s=>s) trivial
   exact .gG<|.gG<|.gG<|.gG<|.yw (.pickF Z Z)<|.nt<|.cF Z<|.ex<|.eb<|.me () ⟨(by first | (rw [<-JW hC (by omega)];rfl) | (rw [<-wW hk hC (by first | exact JY (by assumption) (by assumption) (by omega) | assumption)];rfl)),Jt⟩ ⟨Z,Z,Z,Jt⟩ (λ_ s=>s) trivial
  refine .sq<|.sm Z<|.mv Z<|.yw (.idxS dI Z Z Z (b:=c) (j:=o) (by rw [<-jP o];exact hget 0 (by simp)))<|.yw (.eql Z Z)<|.mv Z<|.e2 (λh88=>?_) (λh88=>?_)
  ·have h48:c=48:=aS.1 (by show c.toNat=48;omega);refine .gy (.move Z)<|.gy (.move Z)<|.gy (.add Z Z w7)<|.gy (.gtr Z Z)<|.yw (.pickT Z Z)<|.nt<|.ce Z (λh93=>?_) (λh93=>?_)
   ·have hor:¬ (pre iA (c::m)=1\/c≠48):=by
     rintro (h | h)
     ·omega
     ·exact h h48
    refine .sm Z<|.mv Z<|.yw (.cast (.dropS dI Z Z Z (by omega)) (by rw [<-hm]))<|.mv Z<|.yw (.build Z (kV _ _ _))<|.sX .head Z Z rH Z<|.nt<|.rt<|.tR<|.tR<|?_
    refine y8 Z (.cell Z uA Hm rfl) λW s=>⟨?_,(s.ext)⟩
    first
     | (simp only [bU,aN,h15,hw,aY,aW,aE];rfl)
     | (simp only [bU,aN,h15,hw,aY,aW,aE,aZ];rfl)
     | (simp only [bU,aN,h15,hw,hw9,aY,aW,aE];rfl)
     | (simp only [bU,aN,h15,hw,hw9,aY,aW,aE,aZ];rfl)
     | (simp only [bU,aN,h15,h71,hor,aY,aW,aE];rfl)
     | (simp only [bU,aN,h15,h71,hor,aY,aW,aE,aZ];rfl)
     | (simp only [bU,aN,h15,h71,hfind,aY,aW,aE];rfl)
     | (simp only [bU,aN,h15,h71,hfind,aY,aW,aE,aZ];rfl)
     | (simp only [bU,aN,h15,h71,hfind,aY,aW,aE,vI hfind];rfl)
     | (simp only [bU,aN,h15,h71,hfind,aY,aW,aE,aZ];rfl)
   have hp1:=qK (l:=c::m) (k:=0) (by simp) (aR _) h71;have hor:(pre iA (c::m)=1\/c≠48):=.inl (by omega);refine .sk<|.tN<|.sm Z<|.mv Z<|.mv Z<|.yw (.cast (.midS dI Z Z Z Z Z (by omega) (by have:=tQ iA (c::m);omega)) (by rw [GE,<-hm]))<|.mv Z<|.yw (.build Z (kV _ _ _))<|.sX .head Z Z rH Z<|.nt<|.rt<|.tR<|?_
   refine y8 Z (.cell Z uA Hm rfl) λW s=>⟨?_,(s.ext)⟩
   first
    | (simp only [bU,aN,h15,hw,aY,aW,aE];rfl)
    | (simp only [bU,aN,h15,hw,aY,aW,aE,aZ];rfl)
    | (simp only [bU,aN,h15,hw,hw9,aY,aW,aE];rfl)
    | (simp only [bU,aN,h15,hw,hw9,aY,aW,aE,aZ];rfl)
    | (simp only [bU,aN,h15,h71,hor,aY,aW,aE];rfl)
    | (simp only [bU,aN,h15,h71,hor,aY,aW,aE,aZ];rfl)
    | (simp only [bU,aN,h15,h71,hfind,aY,aW,aE];rfl)
    | (simp only [bU,aN,h15,h71,hfind,aY,aW,aE,aZ];rfl)
    | (simp only [bU,aN,h15,h71,hfind,aY,aW,aE,vI hfind];rfl)
    | (simp only [bU,aN,h15,h71,hfind,aY,aW,aE,aZ];rfl)
  have hor:(pre iA (c::m)=1\/c≠48):=.inr (λe=>h88 (by rw [e];rfl));refine .gG<|.gG<|.gG<|.gG<|.yw (.pickF Z Z)<|.nt<|.cF Z<|.sk<|.tN<|.sm Z<|.mv Z<|.mv Z<|.yw (.cast (.midS dI Z Z Z Z Z (by omega) (by have:=tQ iA (c::m);omega)) (by rw [GE,<-hm]))<|.mv Z<|.yw (.build Z (kV _ _ _))<|.sX .head Z Z rH Z<|.nt<|.rt<|.tR<|?_
  refine y8 Z (.cell Z uA Hm rfl) λW s=>⟨?_,(s.ext)⟩
  first
   | (simp only [bU,aN,h15,hw,aY,aW,aE];rfl)
   | (simp only [bU,aN,h15,hw,aY,aW,aE,aZ];rfl)
   | (simp only [bU,aN,h15,hw,hw9,aY,aW,aE];rfl)
   | (simp only [bU,aN,h15,hw,hw9,aY,aW,aE,aZ];rfl)
   | (simp only [bU,aN,h15,h71,hor,aY,aW,aE];rfl)
   | (simp only [bU,aN,h15,h71,hor,aY,aW,aE,aZ];rfl)
   | (simp only [bU,aN,h15,h71,hfind,aY,aW,aE];rfl)
   | (simp only [bU,aN,h15,h71,hfind,aY,aW,aE,aZ];rfl)
   | (simp only [bU,aN,h15,h71,hfind,aY,aW,aE,vI hfind];rfl)
   | (simp only [bU,aN,h15,h71,hfind,aY,aW,aE,aZ];rfl)
 refine .sk<|.tN<|.sq<|.sr<|.ct (X:=Nat) ZN Z (λW s=>RE H W s.agr) Z λb105 H1 m1 u1=>.yw (.lenSl xX Z)<|.mv Z<|.nt<|.bk<|.lp (X:=Nat) [(0,_),(1,_),(4,_),(105,_),(106,_)] ⟨Z,Z,Z,Z,Z,Jt⟩ [_] (λk=>[(107,iN k)]) (λk=>H1) (λk=>[]) (λk=>k<=25/\∀ j,j<k->xO (c::m) (symbols.getD j [])=false) (λk=>25 - k) 0 (λ_ s=>s) ⟨Z,Jt⟩ ⟨by omega,λj hj=>by omega⟩ λk hC=>?_
 obtain ⟨hk0,hne⟩:=hC;refine .sr<|.yw (.lss Z Z)<|.nt<|.sq<|.ce Z (λh108=>?_) (λh108=>?_)
 ·refine .sk<|.tN<|.sq<|.bk<|.sr<|.yw (.indexSl xX Z Z Z (by omega) (q:=k) (by omega))<|.yw (.loadM Z cP m1 (k:=k) (by omega) (uV (by show k<25;omega) []))<|.a Z Z<|.ns<|.mv Z<|.yw (.lenS dI Z)<|.mv Z<|.yw (.sub Z Z (w6 (by omega)))<|.mv Z<|.yw (.lenS dI Z)<|.yw (.geq Z Z)<|.mv Z<|.e2 (λh118=>?_) (λh118=>?_)
  ·refine .gy (.move Z)<|.gy (.move Z)<|.gy (.move Z)<|.gy (.move Z)<|.gy (.lenS dI Z)<|.gy (.add Z Z w7)<|.gy (.cast (.midS dI Z Z Z Z (hi:=o+(symbols.getD k []).length) (by omega) (by omega) (by omega)) (by rw [GE,<-hm]))<|.gy (.move Z)<|.gy (.eqS Z Z)<|.yw (.pickT Z Z)<|.nt<|.ce Z (λh128=>?_) (λh128=>?_)
   ·have hfind:=UB (l:=c::m) (by omega) hne (by simp only [xO,aF,aD] at *;exact ⟨by omega,by assumption⟩);refine .sm Z<|.mv Z<|.yw (.build Z (kV _ _ _))<|.sX .head Z Z rH Z<|.zR<|.tR<|.bR<|.tR<|?_
    refine y8 Z (.cell Z uA Hm rfl) λW s=>⟨?_,(u1.grow s).ext⟩
    first
     | (simp only [bU,aN,h15,hw,aY,aW,aE];rfl)
     | (simp only [bU,aN,h15,hw,aY,aW,aE,aZ];rfl)
     | (simp only [bU,aN,h15,hw,hw9,aY,aW,aE];rfl)
     | (simp only [bU,aN,h15,hw,hw9,aY,aW,aE,aZ];rfl)
     | (simp only [bU,aN,h15,h71,hor,aY,aW,aE];rfl)
     | (simp only [bU,aN,h15,h71,hor,aY,aW,aE,aZ];rfl)
     | (simp only [bU,aN,h15,h71,hfind,aY,aW,aE];rfl)
     | (simp only [bU,aN,h15,h71,hfind,aY,aW,aE,aZ];rfl)
     | (simp only [bU,aN,h15,h71,hfind,aY,aW,aE,vI hfind];rfl)
     | (simp only [bU,aN,h15,h71,hfind,aY,aW,aE,aZ];rfl)
   exact .sk<|.bN<|.tN<|.rg<|.yw (.add Z Z w7)<|.mv Z<|.nt<|.ag (k+1) ⟨Z,Jt⟩ ⟨Z,Z,Z,Z,Z,Jt⟩ (λ_ s=>s) ⟨by omega,λj hj=>by
   by_cases e:j=k
   ·subst e;simp only [xO,nT,dP] at *;first | exact .inl (by omega) | exact .inr (by assumption)
   ·exact hne j (by omega)⟩ (by omega)
  exact .gG<|.gG<|.gG<|.gG<|.gG<|.gG<|.gG<|.gG<|.gG<|.yw (.pickF Z Z)<|.nt<|.cF Z<|.sk<|.bN<|.tN<|.rg<|.yw (.add Z Z w7)<|.mv Z<|.nt<|.ag (k+1) ⟨Z,Jt⟩ ⟨Z,Z,Z,Z,Z,Jt⟩ (λ_ s=>s) ⟨by omega,λj hj=>by
   by_cases e:j=k
   ·subst e;simp only [xO,nT,dP] at *;first | exact .inl (by omega) | exact .inr (by assumption)
   ·exact hne j (by omega)⟩ (by omega)
 have hfind:=UA (l:=c::m) (λj hj=>hne j (by omega));refine .ex<|.eb<|.sm Z<|.mv Z<|.yw (.cast (.dropS dI Z Z Z (by omega)) (by rw [<-hm]))<|.mv Z<|.yw (.build Z (kV _ _ _))<|.sX .head Z Z rH Z<|.nt<|.rt<|?_
 refine y8 Z (.cell Z uA Hm rfl) λW s=>⟨?_,(u1.grow s).ext⟩
 first
  | (simp only [bU,aN,h15,hw,aY,aW,aE];rfl)
  | (simp only [bU,aN,h15,hw,aY,aW,aE,aZ];rfl)
  | (simp only [bU,aN,h15,hw,hw9,aY,aW,aE];rfl)
  | (simp only [bU,aN,h15,hw,hw9,aY,aW,aE,aZ];rfl)
  | (simp only [bU,aN,h15,h71,hor,aY,aW,aE];rfl)
  | (simp only [bU,aN,h15,h71,hor,aY,aW,aE,aZ];rfl)
  | (simp only [bU,aN,h15,h71,hfind,aY,aW,aE];rfl)
  | (simp only [bU,aN,h15,h71,hfind,aY,aW,aE,aZ];rfl)
  | (simp only [bU,aN,h15,h71,hfind,aY,aW,aE,vI hfind];rfl)
  | (simp only [bU,aN,h15,h71,hfind,aY,aW,aE,aZ];rfl)
variable {m:Str}
theorem aX0 {o:Nat} (hm:m=s.drop o) (h:o<s.length) (hsl:(eG false (m.drop (bU m).2)).length<=m.length - (bU m).2) :
 eG false (m.drop (bU m).2)=s.drop (o+(m.length - (eG false (m.drop (bU m).2)).length)):=by
 have h1:=zP false (m.drop (bU m).2);rw [cM,eX] at h1
 by_cases h0:(bU m).2<=m.length
 ·rw [show (bU m).2+(m.length - (bU m).2 - (eG false (m.drop (bU m).2)).length)=m.length - (eG false (m.drop (bU m).2)).length by omega] at h1;rw [<-eX,<-hm];exact h1.symm
 ·have e:m.drop (bU m).2=[]:=fI (by omega);rw [e,sQ,<-eX,<-hm];simp
theorem bS2 (H:Hp) (s:Str) (hl:s.length<=1000000) (o:Nat) (ho:o<s.length) (m:Str) (hm:m=s.drop o) (w:World) (hA:Agr H w) :
 Calls prg 68 #[cH s,iN o] w λr w'=>r=.returned (.agg (cTk .i64 ⟨(bU m).1,m.take (bU m).2,o⟩).toArray)/\Ext w w':=by
 subst hm;exact aW1 H s hl o ho w hA
theorem aX2 (H:Hp) (s:Str) (hl:s.length<=1000000) (w:World) (hA:Agr H w) :
 Calls prg 32 #[cH s] w λr w'=>∃ (v:Value) (H':Hp),Rep H' (.seq 3 ((qL s).map (dTk .i64))) [v]/\r=.returned v/\xD H w H' w':=by
 refine Sx.enter (H:=H) func32 rfl ntmps32 rfl hA ?_;refine .sr<|.a Z Z<|.ns<|.a Z Z<|?_
 refine Sx.row0 70 3 ?_;refine .ns<|.mv Z<|.yw (.call QK Z (λW _=>UF s hl 0 (by omega) W))<|.aq Z<|.sq<|.bk<|.lp (X:=Nat × Nat × Value × List Value) [(0,_)] ⟨Z,Jt⟩ [] (λz=>[(3,z.2.2.1),(4,iN z.1)]) (λz=>H) (λz=>[.row 70 3 z.2.2.1 z.2.1 z.2.2.2]) (λz=>z.1<=s.length/\z.2.1<=z.1/\∃ tk:List Tk,tk.length=z.2.1/\eR H 3 (tk.map (dTk .i64)) z.2.2.2/\tk++BJ (s.length+1) z.1 (s.drop z.1)=qL s) (λz=>s.length - z.1) (s.length - (eG false s).length,0,.slice none 0 0,[]) (λ_ s=>s) ⟨Z,Z,Jt⟩ ⟨by dsimp only;omega,by dsimp only;omega,[],Z,eR.nil,by rw [zP];rfl⟩ λz hC=>?_
 obtain ⟨o,n,r,xs⟩:=z;dsimp only at hC|-;obtain ⟨ho,hn,tk,hk,hz,htk⟩:=hC;refine .sq<|.sm Z<|.mv Z<|.yw (.lenS dI Z)<|.yw (.lss Z Z)<|.nt<|.ce Z (λh11=>?_) (λh11=>?_)
 ·have hlt:o<s.length:=by omega
  obtain ⟨m,hm⟩:∃ m,m=s.drop o:=⟨_,Z⟩;have hml:m.length=s.length - o:=by rw [hm,cM]
  have hm0:m≠[]:=by intro e;rw [e] at hml;simp at hml;omega
  have hrk:=sT hm0;have htl:(m.take (bU m).2).length=(bU m).2:=by rw [dT];omega
  rw [<-hm] at htk;have hsl:=nY false (m.drop (bU m).2);rw [cM] at hsl;exact .sk<|.tN<|.bk<|.sm Z<|.mv Z<|.yw (.call aN8 Z (λW t=>bS2 H s hl o hlt m hm W t.agr))<|.al PZ Z λb5=>.sW .head Z Z rH (by simp [cTk,Value.oneCell',cH]) Z<|.ns<|.mv Z<|.yw (.loadW Z uA Hm Z)<|.bl Z (ZS _ _ _) Z λb17=>.ap (news:=cTk .i64 ⟨(bU m).1,m.take (bU m).2,o⟩) bE4 Z (λ_=>oV) Z (.box Hm z0) Z (by simp [cTk,Value.oneCell',cH]) (by simp [maxLen];omega) (by omega) Z λr18 _=>.aq Z<|.rg<|.mv Z<|.mv Z<|.fA Z GU<|.lD Z cP dC Z<|.yw (.lenS dI Z)<|.yw (.add Z Z (c:=((o+(bU m).2:Nat):Int)) (by rw [htl];exact (w6 (by omega)).trans (by omega)))<|.yw (.cast (.call QK Z (λW _=>UF s hl (o+(bU m).2) (by omega) W)) (by rw [<-eX,<-hm,show s.length - (eG false (m.drop (bU m).2)).length=o+(m.length - (eG false (m.drop (bU m).2)).length) by omega]))<|.a Z Z<|.nl<|.bN<|.tN<|.ag (x:=(o,n,r,xs)) (o+(m.length - (eG false (m.drop (bU m).2)).length),n+1,r18,xs++cTk .i64 ⟨(bU m).1,m.take (bU m).2,o⟩) ⟨Z,Z,Jt⟩ ⟨Z,Jt⟩ (λ_ s=>(s.pick [2] _ Z Z)) ⟨by dsimp only;omega,by dsimp only;omega,tk++[⟨(bU m).1,m.take (bU m).2,o⟩],by simp;omega,by dsimp only;rw [cL];exact hz.snoc (JQ (by rw [htl];omega)) Z,by dsimp only;rw [<-htk,aX,<-aX0 hm hlt hsl,nX hm0,bT,cU,CH (s.length+1) s.length _ _ (by omega) (by omega)]⟩ (by dsimp only;omega)
 obtain rfl:o=s.length:=by omega
 rw [List.drop_length,qH,dU] at htk;refine .ex<|.eb<|.sm Z<|.az Z<|?_
 refine At.pm [0] [_] rfl rfl ?_;refine lY (ds:=(qL s).map (dTk .i64)) (by rw [<-htk];simp;omega) (by rw [<-htk];exact hz) λH3 p3 c3 u3 hr3 hs3=>?_;exact y9 Z Z λW t=>⟨r,H3,hs3,Z,u3.grow t⟩
theorem aV5 {x:Tk} (h:(qL s).length=1) (hx:(qL s)[0]=x):qL s=[x]:=by
 match e:qL s,h with
 | [y],_=>simp only [e,List.getElem_cons_zero] at hx;rw [hx]
theorem aW3 (h:¬ (qL s).length=1):eN s=false:=by
 rw [Bool.eq_false_iff,Ne,LQ];rintro ⟨o,e⟩;rw [e] at h;exact h rfl
theorem aW2 {x:Tk} (h:(qL s).length=1) (hx:(qL s)[0]=x) (hk:¬ x.k=1):eN s=false:=by
 rw [Bool.eq_false_iff,Ne,LQ];rintro ⟨o,e⟩;rw [aV5 h hx] at e;injection e with e _
 exact hk (by rw [e])
theorem RZ {x:Tk} (h:(qL s).length=1) (hx:(qL s)[0]=x) (hk:x.k=1):eN s=decide (x.t=s):=by
 rw [aU,LQ,aD,aV5 h hx];obtain ⟨k,t,o⟩:=x
 constructor
 ·rintro ⟨o,e⟩;injection e with e _
  injection e
 ·intro e;dsimp only at hk e;exact ⟨o,by rw [hk,e]⟩
theorem qM (H:Hp) (s:Str) (hl:s.length<=1000000) (w:World) (hA:Agr H w) :
 Calls prg 83 #[cH s] w λr w'=>r=.returned (.bool (eN s))/\Ext w w':=by
 refine Sx.enter (H:=H) func83 rfl ntmps83 rfl hA ?_;refine .sr<|.a Z Z<|.ns<|.mv Z<|.ct (X:=Value) aO8 Z (λW t=>aX2 H s hl W t.agr) Z λv H1 hsq u1=>?_
 obtain ⟨p,c,e,_⟩:=hsq.sl;simp only [gD,qV] at e;subst e;refine .a Z Z<|.ns<|.mv Z<|.yw (.lenSl TE Z)<|.yw (.eql Z Z)<|.mv Z<|.e2 (λh9=>?_) (λh9=>?_)
 ·have hl1:(qL s).length=1:=by simp only [bJ] at *;omega
  obtain ⟨bE,oE,cE,hpE,rE,lE,mE⟩:=hsq.elem (fW (f:=dTk .i64) (show 0<(qL s).length by omega));subst hpE;generalize hx:(qL s)[0]=x at rE;obtain ⟨rfl,hxt⟩:=JR rE;refine .gy (.move Z)<|.gy (.indexSl TE Z Z (i:=0) Z (by omega) (q:=oE+0 * 3) (by omega))<|.gy (.fieldAddr Z TG)<|.gy (.loadM Z cC mE (k:=0) Z Z)<|.gy (.eql Z Z)<|.yw (.pickT Z Z)<|.mv Z<|.e2 (λh16=>?_) (λh16=>?_)
  ·have hk1:x.k=1:=aS.1 (by show x.k.toNat=1;omega);refine .gy (.move Z)<|.gy (.indexSl TE Z Z (i:=0) Z (by omega) (q:=oE+0 * 3) (by omega))<|.gy (.fieldAddr Z GU)<|.gy (.loadM Z cP mE (k:=1) Z Z)<|.gy (.move Z)<|.gy (.eqS Z Z)<|.yw (.pickT Z Z)<|.az Z<|?_
   refine y9 Z Z λW t=>⟨?_,(u1.grow t).ext⟩
   first
    | (rw [hno])
    | (rw [RZ hl1 hx hk1])
  have hno:eN s=false:=aW2 hl1 hx (λe=>h16 (by rw [e];rfl));refine .gG<|.gG<|.gG<|.gG<|.gG<|.gG<|.yw (.pickF Z Z)<|.az Z<|?_
  refine y9 Z Z λW t=>⟨?_,(u1.grow t).ext⟩
  first
   | (rw [hno])
   | (rw [RZ hl1 hx hk1])
 have hno:eN s=false:=aW3 (by simp only [bJ] at *;omega);refine .gG<|.gG<|.gG<|.gG<|.gG<|.yw (.pickF Z Z)<|.mv Z<|.gG<|.gG<|.gG<|.gG<|.gG<|.gG<|.yw (.pickF Z Z)<|.az Z<|?_
 refine y9 Z Z λW t=>⟨?_,(u1.grow t).ext⟩
 first
  | (rw [hno])
  | (rw [RZ hl1 hx hk1])
theorem KI (h:¬ n<10):Lib.decDigits n=Lib.decDigits (n / 10)++Lib.decDigits (n % 10):=by
 rw [Lib.decDigits_one (vE n (by omega))]
 conv=>lhs;rw [Lib.decDigits,FD h]
def aF4:Str:=[48,49,50,51,52,53,54,55,56,57]
theorem yZ (h:n<10):(aF4.take (n+1)).drop n=Lib.decDigits n:=by
 rw [Lib.decDigits_one h];have key:∀ i∈List.range 10,(aF4.take (i+1)).drop i=[UInt8.ofNat (48+i)]:=by decide
 exact key n (cD.2 h)
theorem zA (h:n<=9223372036854775807):(Lib.decDigits n).length<=21:=by
 have:=Lib.itoa_length_le (n:Int) (by omega) (by omega)
 rwa [Lib.itoa,aG (by omega),Int.toNat_natCast] at this
def lvR (k:Nat):Nat:=if k=23 then 1 else if k=22 then 2 else if 16<=k then 3 else if 14<=k then 4 else if 11<=k then 5 else if 9<=k then 6 else 7
theorem aW7 {op:UInt8} (h:GA op=true):lvR op.toNat=(cK op).lv:=by
 have key:∀ i∈List.range 256,GA (UInt8.ofNat i)=true->lvR i=(cK (UInt8.ofNat i)).lv:=by decide +kernel
 have h2:=key op.toNat (cD.2 op.toNat_lt);rw [fC] at h2;exact h2 h
def ON:List Str:=[[42],[47],[37],[43],[45],[61,61],[33,61],[60],[60,61],[62],[62,61],[97,110,100],[111,114]]
theorem bQ1 {op:UInt8} (h1:11<=op.toNat) (h2:op.toNat<=23):(cK op).tx=[32]++ON.getD (op.toNat - 11) []++[32]:=by
 have key:∀ i∈List.range 256,11<=i->i<=23->(cK (UInt8.ofNat i)).tx=[32]++ON.getD (i - 11) []++[32]:=by decide +kernel
 have h:=key op.toNat (cD.2 op.toNat_lt);rw [fC] at h;exact h h1 h2
theorem IZ (H:Hp) (n:Nat):n<=9223372036854775807->∀ (w:World),Agr H w->Calls prg 134 #[.int .i64 (n:Nat)] w λr w'=>r=.returned (cH (Lib.decDigits n))/\Ext w w':=by
 induction n using Nat.strongRecOn with | _ n ih
 intro hn w hA;refine Sx.enter (H:=H) func134 rfl ntmps134 rfl hA ?_;refine .sr<|.aq Z<|.sq<|.sm Z<|.yw (.lss Z Z)<|.nt<|.ce Z (λh4=>?_) (λh4=>?_)
 ·exact absurd (by omega:False) id
 refine .sk<|.tN<|.sq<|.sm Z<|.yw (.lss Z Z)<|.nt<|.ce Z (λh10=>?_) (λh10=>?_)
 ·refine .sm Z<|.mv Z<|.yw (.add Z Z (c:=((n+1:Nat):Int)) ((w6 (by omega)).trans (by omega)))<|.yw (.cast (.midS (l:=aF4) dI Z Z Z (lo:=n) (hi:=n+1) Z Z (by omega) (by show n+1<=10;omega)) (by rw [yZ (by omega)]))<|.az Z<|.tR<|?_
  refine y9 Z Z λW s=>⟨?_,s.ext⟩
  first
   | (rfl)
   | (rw [KI (n:=n) (by omega)];rfl)
   | (rw [yZ (by omega)])
 refine .sk<|.tN<|.sm Z<|.yw (.quo Z Z (by decide) (c:=((n / 10:Nat):Int)) (by rw [jH (by omega)];exact (w6 (by omega)).trans (by omega)))<|.yw (.call AN Z (λW s=>ih (n / 10) (by omega) (by omega) W s.agr))<|.mv Z<|.yw (.rem Z Z (by decide) (c:=((n % 10:Nat):Int)) (by rw [cW (by omega)];omega))<|.yw (.call AN Z (λW s=>ih (n % 10) (by omega) (by omega) W s.agr))<|.yw (.app Z Z (by have:=zA (n:=n / 10) (by omega);have:=zA (n:=n % 10) (by omega);omega))<|.az Z<|?_
 refine y9 Z Z λW s=>⟨?_,s.ext⟩
 first
  | (rfl)
  | (rw [KI (n:=n) (by omega)];rfl)
  | (rw [yZ (by omega)])
variable {L:Sl} {w0:World} {bs:List Res} {T:TypeId}
theorem _root_.Go.Sx.Yl.neg64 {P:Program} {d:Option Tmp} {ty:TypeId} {pos:String} {aft:Array Edge} {g:Option (Nat × Bool)} {x:Operand} {i c:Int} (hx:ev L x=some (.int .i64 i)) (hc:c=-i) (h1:-9223372036854775808<=c) (h2:c<=9223372036854775807):Yl P L H w0 bs ⟨d,.unOp .neg T x,ty,pos,aft,g⟩ (.int .i64 c):=.of_run λa W f _=>by
 subst hc;have hw:IntKind.i64.wrap (-i)=-i:=w64 h1 h2;unfold execOp;simp [f x _ hx,Op.unary,Op.intArith,hw,Result.andThen]
theorem YA (H:Hp) (n:Int) (h1:-9223372036854775808<n) (h2:n<=9223372036854775807) (w:World) (hA:Agr H w):Calls prg 134 #[.int .i64 n] w λr w'=>r=.returned (cH (Lib.itoa n))/\Ext w w':=by
 by_cases h0:0<=n
 ·have h:=IZ H n.toNat (by omega) w hA;rw [show ((n.toNat:Nat):Int)=n by omega] at h;rw [Lib.itoa,aG (by omega)];exact h
 refine Sx.enter (H:=H) func134 rfl ntmps134 rfl hA ?_;refine .sr<|.aq Z<|.sq<|.sm Z<|.yw (.lss Z Z)<|.nt<|.ce Z (λh4=>?_) (λh4=>?_)
 ·refine .sm Z<|.yw (.neg64 Z (c:=((n.natAbs:Nat):Int)) (by omega) (by omega) (by omega))<|.yw (.call AN Z (λW s=>IZ H n.natAbs (by omega) W s.agr))<|.yw (.app Z Z (by have:=zA (n:=n.natAbs) (by omega);simp only [aI,aL];omega))<|.az Z<|.tR<|?_
  refine y9 Z Z λW s=>⟨?_,s.ext⟩
  first
   | (rw [Lib.itoa,aO (by omega)];rfl)
 exact absurd (by omega:False) id
theorem PI (H:Hp) (k:Nat) (w:World) (hA:Agr H w):Calls prg 136 #[iN k] w λr w'=>r=.returned (iN (lvR k))/\Ext w w':=by
 refine Sx.enter (H:=H) func136 rfl ntmps136 rfl hA ?_;refine .sr<|.aq Z<|.sq<|.bk<|.sm Z<|.yw (.eql Z Z)<|.aq Z<|.ce Z (λh3=>?_) (λh3=>?_)
 ·refine .sr<|.az Z<|.bR<|.tR<|?_
  refine y9 Z Z λW s=>⟨?_,s.ext⟩
  first
   | (rw [lvR];(try simp only [aD,dP] at *);first | (rw [aO (by omega)];rfl) | (rw [aG (by omega),aO (by omega)];rfl) | (rw [aG (by omega),aG (by omega),aO (by omega)];rfl) | (rw [aG (by omega),aG (by omega),aG (by omega),aO (by omega)];rfl) | (rw [aG (by omega),aG (by omega),aG (by omega),aG (by omega),aO (by omega)];rfl) | (rw [aG (by omega),aG (by omega),aG (by omega),aG (by omega),aG (by omega),aO (by omega)];rfl) | (rw [aG (by omega),aG (by omega),aG (by omega),aG (by omega),aG (by omega),aG (by omega)];rfl))
 refine .sm Z<|.yw (.eql Z Z)<|.aq Z<|.ce Z (λh6=>?_) (λh6=>?_)
 ·refine .sr<|.az Z<|.bR<|.tR<|?_
  refine y9 Z Z λW s=>⟨?_,s.ext⟩
  first
   | (rw [lvR];(try simp only [aD,dP] at *);first | (rw [aO (by omega)];rfl) | (rw [aG (by omega),aO (by omega)];rfl) | (rw [aG (by omega),aG (by omega),aO (by omega)];rfl) | (rw [aG (by omega),aG (by omega),aG (by omega),aO (by omega)];rfl) | (rw [aG (by omega),aG (by omega),aG (by omega),aG (by omega),aO (by omega)];rfl) | (rw [aG (by omega),aG (by omega),aG (by omega),aG (by omega),aG (by omega),aO (by omega)];rfl) | (rw [aG (by omega),aG (by omega),aG (by omega),aG (by omega),aG (by omega),aG (by omega)];rfl))
 refine .sm Z<|.yw (.geq Z Z)<|.aq Z<|.ce Z (λh9=>?_) (λh9=>?_)
 ·refine .sr<|.az Z<|.bR<|.tR<|?_
  refine y9 Z Z λW s=>⟨?_,s.ext⟩
  first
   | (rw [lvR];(try simp only [aD,dP] at *);first | (rw [aO (by omega)];rfl) | (rw [aG (by omega),aO (by omega)];rfl) | (rw [aG (by omega),aG (by omega),aO (by omega)];rfl) | (rw [aG (by omega),aG (by omega),aG (by omega),aO (by omega)];rfl) | (rw [aG (by omega),aG (by omega),aG (by omega),aG (by omega),aO (by omega)];rfl) | (rw [aG (by omega),aG (by omega),aG (by omega),aG (by omega),aG (by omega),aO (by omega)];rfl) | (rw [aG (by omega),aG (by omega),aG (by omega),aG (by omega),aG (by omega),aG (by omega)];rfl))
 refine .sm Z<|.yw (.geq Z Z)<|.aq Z<|.ce Z (λh12=>?_) (λh12=>?_)
 ·refine .sr<|.az Z<|.bR<|.tR<|?_
  refine y9 Z Z λW s=>⟨?_,s.ext⟩
  first
   | (rw [lvR];(try simp only [aD,dP] at *);first | (rw [aO (by omega)];rfl) | (rw [aG (by omega),aO (by omega)];rfl) | (rw [aG (by omega),aG (by omega),aO (by omega)];rfl) | (rw [aG (by omega),aG (by omega),aG (by omega),aO (by omega)];rfl) | (rw [aG (by omega),aG (by omega),aG (by omega),aG (by omega),aO (by omega)];rfl) | (rw [aG (by omega),aG (by omega),aG (by omega),aG (by omega),aG (by omega),aO (by omega)];rfl) | (rw [aG (by omega),aG (by omega),aG (by omega),aG (by omega),aG (by omega),aG (by omega)];rfl))
 refine .sm Z<|.yw (.geq Z Z)<|.aq Z<|.ce Z (λh15=>?_) (λh15=>?_)
 ·refine .sr<|.az Z<|.bR<|.tR<|?_
  refine y9 Z Z λW s=>⟨?_,s.ext⟩
  first
   | (rw [lvR];(try simp only [aD,dP] at *);first | (rw [aO (by omega)];rfl) | (rw [aG (by omega),aO (by omega)];rfl) | (rw [aG (by omega),aG (by omega),aO (by omega)];rfl) | (rw [aG (by omega),aG (by omega),aG (by omega),aO (by omega)];rfl) | (rw [aG (by omega),aG (by omega),aG (by omega),aG (by omega),aO (by omega)];rfl) | (rw [aG (by omega),aG (by omega),aG (by omega),aG (by omega),aG (by omega),aO (by omega)];rfl) | (rw [aG (by omega),aG (by omega),aG (by omega),aG (by omega),aG (by omega),aG (by omega)];rfl))
 refine .sm Z<|.yw (.geq Z Z)<|.aq Z<|.ce Z (λh18=>?_) (λh18=>?_)
 ·refine .sr<|.az Z<|.bR<|.tR<|?_
  refine y9 Z Z λW s=>⟨?_,s.ext⟩
  first
   | (rw [lvR];(try simp only [aD,dP] at *);first | (rw [aO (by omega)];rfl) | (rw [aG (by omega),aO (by omega)];rfl) | (rw [aG (by omega),aG (by omega),aO (by omega)];rfl) | (rw [aG (by omega),aG (by omega),aG (by omega),aO (by omega)];rfl) | (rw [aG (by omega),aG (by omega),aG (by omega),aG (by omega),aO (by omega)];rfl) | (rw [aG (by omega),aG (by omega),aG (by omega),aG (by omega),aG (by omega),aO (by omega)];rfl) | (rw [aG (by omega),aG (by omega),aG (by omega),aG (by omega),aG (by omega),aG (by omega)];rfl))
 refine .sk<|.bN<|.tN<|.sr<|.az Z<|?_
 refine y9 Z Z λW s=>⟨?_,s.ext⟩
 first
  | (rw [lvR];(try simp only [aD,dP] at *);first | (rw [aO (by omega)];rfl) | (rw [aG (by omega),aO (by omega)];rfl) | (rw [aG (by omega),aG (by omega),aO (by omega)];rfl) | (rw [aG (by omega),aG (by omega),aG (by omega),aO (by omega)];rfl) | (rw [aG (by omega),aG (by omega),aG (by omega),aG (by omega),aO (by omega)];rfl) | (rw [aG (by omega),aG (by omega),aG (by omega),aG (by omega),aG (by omega),aO (by omega)];rfl) | (rw [aG (by omega),aG (by omega),aG (by omega),aG (by omega),aG (by omega),aG (by omega)];rfl))
theorem XN (H:Hp) (k:Nat) (h1:11<=k) (h2:k<=23) (w:World) (hA:Agr H w):Calls prg 137 #[iN k] w λr w'=>r=.returned (cH (ON.getD (k - 11) []))/\Ext w w':=by
 refine Sx.enter (H:=H) func137 rfl ntmps137 rfl hA ?_;refine .sr<|.a Z Z<|.ns<|.bl Z (WS _ _ _ _ _ _ _ _ _ _ _ _ _) Z λb3=>.mv Z<|.yw (.sub Z Z (c:=((k - 11:Nat):Int)) ((w6 (by omega)).trans (by omega)))<|.yw (.indexSl xX Z Z (i:=k - 11) Z (by omega) (q:=k - 11) (by omega))<|.yw (.load (v:=cH (ON.getD (k - 11) [])) Z cP Hm (aA4 (es:=ON) (by show k - 11<13;omega)))<|.az Z<|?_
 exact y9 Z Z λW s=>⟨Z,s.ext⟩
def aG2 (H:Hp) (e:Ex):Prop:=∀ (cs:List Value) (w:World),Rep H (dEx .i64 e) cs->Ex.all oZ e=true->e.text.length<=1000000000->Agr H w ->
 Calls prg 87 #[.agg cs.toArray] w λr w'=>r=.returned (cH e.text)/\Ext w w'
theorem zW (H:Hp) (e:Ex) (ht:aG2 H e) (cs:List Value) (h:Rep H (dEx .i64 e) cs) (hf:Ex.all oZ e=true) (hl:e.text.length<=1000000000) (k:Nat) (w:World) (hA:Agr H w) :
 Calls prg 135 #[.agg cs.toArray,iN k] w λr w'=>r=.returned (cH (opT (k+1) ((cK e.op).lv,e.text)))/\Ext w w':=by
 obtain ⟨op,nm,nn,args⟩:=e;obtain ⟨p,c,rfl,hs,hnm⟩:=fX h;have hlv:=aW7 (op:=op) (by have:=hf;rw [lS,aF] at this;have:=this.1;simp only [oZ,aF] at this;exact this.1.1.1);refine Sx.enter (H:=H) func135 rfl ntmps135 rfl hA ?_;refine .sr<|.bx Z Z Z λb2=>.aq Z<|.sq<|.sr<|.fA Z cO<|.lD Z cC Hm Z<|.yw (.cast (.call MY Z (λW s=>PI H op.toNat W s.agr)) (by rw [hlv]))<|.mv Z<|.yw (.leq Z Z)<|.nt<|.ce Z (λh9=>?_) (λh9=>?_)
 ·refine .sr<|.yw (.loadW Z dH Hm Z)<|.yw (.call tA Z (λW s=>ht _ W h hf hl s.agr))<|.yw (.app Z Z (by (try simp only [aH,aI,aL]);omega))<|.yw (.app Z Z (by (try simp only [aH,aI,aL]);omega))<|.az Z<|.tR<|?_
  refine y9 Z Z λW s=>⟨?_,s.ext⟩
  first
   | (rw [opT,aO (by show (cK op).lv<k+1;omega)] <;> rfl)
   | (rw [opT,aG (by show ¬ (cK op).lv<k+1;omega)] <;> rfl)
 refine .sk<|.tN<|.sr<|.yw (.loadW Z dH Hm Z)<|.yw (.call tA Z (λW s=>ht _ W h hf hl s.agr))<|.az Z<|?_
 refine y9 Z Z λW s=>⟨?_,s.ext⟩
 first
  | (rw [opT,aO (by show (cK op).lv<k+1;omega)] <;> rfl)
  | (rw [opT,aG (by show ¬ (cK op).lv<k+1;omega)] <;> rfl)
theorem NR (H:Hp) (e:Ex) (ht:aG2 H e) (cs:List Value) (h:Rep H (dEx .i64 e) cs) (hf:Ex.all oZ e=true) (hl:e.text.length<=1000000000) (k m:Nat) (hk:k+1=m) (w:World) (hA:Agr H w) :
 Calls prg 135 #[.agg cs.toArray,iN k] w λr w'=>r=.returned (cH (opT m ((cK e.op).lv,e.text)))/\Ext w w':=by
 subst hk;exact zW H e ht cs h hf hl k w hA
theorem DL (H:Hp) (e:Ex) (ht:aG2 H e) (cs:List Value) (h:Rep H (dEx .i64 e) cs) (hf:Ex.all oZ e=true) (hl:e.text.length<=1000000000) (w:World) (hA:Agr H w) :
 Calls prg 135 #[.agg cs.toArray,.int .i64 5] w λr w'=>r=.returned (cH (opT 6 ((cK e.op).lv,e.text)))/\Ext w w':=zW H e ht cs h hf hl 5 w hA
theorem bP6 {nm:Str} {n:Int64} {ls:List (Nat × Str)} :txt 6 nm n ls=nm++([91]:Str)++(ls.getD 0 (0,[])).2++([93]:Str):=by rw [txt,aG (by decide),aG (by decide),aO (by decide),show (cK 6).tx=[] from rfl,cU]
theorem bP5 {nm:Str} {n:Int64} {ls:List (Nat × Str)} :txt 7 nm n ls=([104,97,115,32]:Str)++nm++([91]:Str)++(ls.getD 0 (0,[])).2++([93]:Str):=by rw [txt,aG (by decide),aG (by decide),aO (by decide),show (cK 7).tx=[104,97,115,32] from rfl]
theorem bP4 {nm:Str} {n:Int64} {ls:List (Nat × Str)} :txt 9 nm n ls=([45]:Str)++opT 6 (ls.getD 0 (0,[])):=by rw [txt,aG (by decide),aG (by decide),aG (by decide),aO (by decide),show (cK 9).tx=[45] from rfl,show (cK 9).lv=6 from rfl]
theorem bF0 {nm:Str} {n:Int64} {ls:List (Nat × Str)} :txt 10 nm n ls=([110,111,116,32]:Str)++opT 6 (ls.getD 0 (0,[])):=by rw [txt,aG (by decide),aG (by decide),aG (by decide),aO (by decide),show (cK 10).tx=[110,111,116,32] from rfl,show (cK 10).lv=6 from rfl]
theorem OW {op:UInt8} (h1:11<=op.toNat) (h2:op.toNat<=23):(cK op).n=2:=by
 have key:∀ i∈List.range 256,11<=i->i<=23->(cK (UInt8.ofNat i)).n=2:=by decide +kernel
 have h:=key op.toNat (cD.2 op.toNat_lt);rw [fC] at h;exact h h1 h2
theorem aH4 {op:UInt8} (h1:11<=op.toNat) (h2:op.toNat<=23):1<=(cK op).lv/\(cK op).lv<=5:=by
 have key:∀ i∈List.range 256,11<=i->i<=23->1<=(cK (UInt8.ofNat i)).lv/\(cK (UInt8.ofNat i)).lv<=5:=by decide +kernel
 have h:=key op.toNat (cD.2 op.toNat_lt);rw [fC] at h;exact h h1 h2
theorem aW9 {l:Nat} (h:1<=l/\l<=5):xN l - 1+1=xN l:=by unfold xN;split <;> omega
theorem aS5 {op:UInt8} {nm:Str} {n:Int64} {args:List Ex} (h1:11<=op.toNat) (h2:op.toNat<=23) (k0:0<args.length) (k1:1<args.length):Ex.text (.mk op nm n args) =
 opT (xN (cK op).lv) ((cK args[0].op).lv,args[0].text)++([32]:Str)++ON.getD (op.toNat - 11) []++([32]:Str)++opT ((cK op).lv+1) ((cK args[1].op).lv,args[1].text):=by
 have e:∀ v:UInt8,v.toNat<=10->¬ op=v:=λv hv e=>by rw [e] at h1;omega
 have e2:=OW h1 h2;rw [jF,txt,aG (e 1 (by decide)),aG (rK.2 ⟨e 5 (by decide),e 8 (by decide)⟩),aG (rK.2 ⟨e 6 (by decide),e 7 (by decide)⟩),aG (rK.2 ⟨e 9 (by decide),e 10 (by decide)⟩),aG (by omega),yV k0,yV k1,bQ1 h1 h2];simp only [aX]
theorem tP (H:Hp) (e:Ex):aG2 H e:=by
 induction e using Ex.ind with | _ op nm nn args ih
 intro cs w h hf hl hA;obtain ⟨p,c,rfl,hs,hnm⟩:=fX h;rw [lS,aF] at hf;obtain ⟨hf1,hf2⟩:=hf;simp only [oZ,aF,aD] at hf1;obtain ⟨⟨⟨hok,har⟩,_⟩,hN⟩:=hf1;have hok0:=hok;refine Sx.enter (H:=H) func87 rfl ntmps87 rfl hA ?_;refine .sr<|.bx Z Z Z λb1=>.aq Z<|.sq<|.sr<|.fA Z cO<|.lD Z cC Hm Z<|.nt<|.bk<|.sr<|.yw (.eql Z Z)<|.aq Z<|.ce Z (λh7=>?_) (λh7=>?_)
 ·have e1:op=1:=aS.1 (by show op.toNat=1;omega);subst e1;have hn:args.length=0:=har.trans (by decide);have h1n:0<=nn.toInt:=by simpa using hN
  refine .sr<|.fA Z dO<|.lD Z eS Hm Z<|.yw (.call AN Z (λW s=>YA H nn.toInt (by have:=nn.le_toInt;omega) (by have:=nn.toInt_lt;omega) W s.agr))<|.az Z<|.bR<|.tR<|?_
  refine y9 Z Z λW s=>⟨?_,s.ext⟩
  first
   | (rfl)
   | (rw [jF,txt];rfl)
   | (simp only [aX];rfl)
 have n1:¬ op.toNat=1:=by omega
 refine .sr<|.yw (.eql Z Z)<|.aq Z<|.ce Z (λh12=>?_) (λh12=>?_)
 ·have e2:op=2:=aS.1 (by show op.toNat=2;omega);subst e2;have hn:args.length=0:=har.trans (by decide);refine .sr<|.az Z<|.bR<|.tR<|?_
  refine y9 Z Z λW s=>⟨?_,s.ext⟩
  first
   | (rfl)
   | (rw [jF,txt];rfl)
   | (simp only [aX];rfl)
 have n2:¬ op.toNat=2:=by omega
 refine .sr<|.yw (.eql Z Z)<|.aq Z<|.ce Z (λh14=>?_) (λh14=>?_)
 ·have e3:op=3:=aS.1 (by show op.toNat=3;omega);subst e3;have hn:args.length=0:=har.trans (by decide);refine .sr<|.az Z<|.bR<|.tR<|?_
  refine y9 Z Z λW s=>⟨?_,s.ext⟩
  first
   | (rfl)
   | (rw [jF,txt];rfl)
   | (simp only [aX];rfl)
 have n3:¬ op.toNat=3:=by omega
 refine .sr<|.yw (.eql Z Z)<|.aq Z<|.ce Z (λh16=>?_) (λh16=>?_)
 ·have e4:op=4:=aS.1 (by show op.toNat=4;omega);subst e4;have hn:args.length=0:=har.trans (by decide);refine .sr<|.az Z<|.bR<|.tR<|?_
  refine y9 Z Z λW s=>⟨?_,s.ext⟩
  first
   | (rfl)
   | (rw [jF,txt];rfl)
   | (simp only [aX];rfl)
 have n4:¬ op.toNat=4:=by omega
 refine .sr<|.yw (.eql Z Z)<|.aq Z<|.ce Z (λh18=>?_) (λh18=>?_)
 ·have e5:op=5:=aS.1 (by show op.toNat=5;omega);subst e5;have hn:args.length=0:=har.trans (by decide);refine .sr<|.fA Z dD<|.lD Z cP Hm Z<|.az Z<|.bR<|.tR<|?_
  refine y9 Z Z λW s=>⟨?_,s.ext⟩
  first
   | (rfl)
   | (rw [jF,txt];rfl)
   | (simp only [aX];rfl)
 have n5:¬ op.toNat=5:=by omega
 refine .sr<|.yw (.eql Z Z)<|.aq Z<|.ce Z (λh22=>?_) (λh22=>?_)
 ·have e6:op=6:=aS.1 (by show op.toNat=6;omega);subst e6;have hn:args.length=1:=har.trans (by decide);have h0:0<args.length:=by omega
  obtain ⟨b0,o0,c0,hp0,r0,l0,m0⟩:=hs.elem (fW h0);cases hp0;have hf0:=tT h0 hf2;have htx:Ex.text (.mk 6 nm nn args)=nm++([91]:Str)++Ex.text args[0]++([93]:Str):=by rw [jF,bP6,yV h0]
  rw [htx] at hl|-;have hO:=CN 6 ((cK args[0].op).lv,Ex.text args[0]);dsimp only at hO;simp only [aH] at hl;refine .sq<|.fL 10 [(0,0),(1,0),(2,0),(3,0),(4,0),(5,0),(6,0),(7,0),(8,0),(9,0)]<|.fA Z dD<|.lD Z cP Hm Z<|.yw (.app Z Z (by (try simp only [aH]);(try simp only [aI,aL]);omega))<|.fA Z fG<|.lD Z eQ Hm Z<|.yw (.indexSl eL Z Z (i:=0) Z (by omega) (q:=o0+0 * 4) Z)<|.yw (.loadMW Z dH m0 l0)<|.yw (.call tA Z (λW s=>ih _ (bI h0) _ W r0 hf0 (by omega) s.agr))<|.yw (.app Z Z (by (try simp only [aH]);(try simp only [aI,aL]);omega))<|.yw (.app Z Z (by (try simp only [aH]);(try simp only [aI,aL]);omega))<|.fn (tl:=[_]) Z<|.az Z<|.bR<|.tR<|?_
  refine y9 Z Z λW s=>⟨?_,s.ext⟩
  first
   | (rfl)
   | (rw [jF,txt];rfl)
   | (simp only [aX];rfl)
 have n6:¬ op.toNat=6:=by omega
 refine .sr<|.yw (.eql Z Z)<|.aq Z<|.ce Z (λh34=>?_) (λh34=>?_)
 ·have e7:op=7:=aS.1 (by show op.toNat=7;omega);subst e7;have hn:args.length=1:=har.trans (by decide);have h0:0<args.length:=by omega
  obtain ⟨b0,o0,c0,hp0,r0,l0,m0⟩:=hs.elem (fW h0);cases hp0;have hf0:=tT h0 hf2;have htx:Ex.text (.mk 7 nm nn args)=([104,97,115,32]:Str)++nm++([91]:Str)++Ex.text args[0]++([93]:Str):=by rw [jF,bP5,yV h0]
  rw [htx] at hl|-;have hO:=CN 6 ((cK args[0].op).lv,Ex.text args[0]);dsimp only at hO;simp only [aH] at hl;refine .sq<|.fL 11 [(0,0),(1,0),(2,0),(3,0),(4,0),(5,0),(6,0),(7,0),(8,0),(9,0),(10,0)]<|.fA Z dD<|.lD Z cP Hm Z<|.yw (.app Z Z (by (try simp only [aH]);(try simp only [aI,aL]);omega))<|.yw (.app Z Z (by (try simp only [aH]);(try simp only [aI,aL]);omega))<|.fA Z fG<|.lD Z eQ Hm Z<|.yw (.indexSl eL Z Z (i:=0) Z (by omega) (q:=o0+0 * 4) Z)<|.yw (.loadMW Z dH m0 l0)<|.yw (.call tA Z (λW s=>ih _ (bI h0) _ W r0 hf0 (by omega) s.agr))<|.yw (.app Z Z (by (try simp only [aH]);(try simp only [aI,aL]);omega))<|.yw (.app Z Z (by (try simp only [aH]);(try simp only [aI,aL]);omega))<|.fn (tl:=[_]) Z<|.az Z<|.bR<|.tR<|?_
  refine y9 Z Z λW s=>⟨?_,s.ext⟩
  first
   | (rfl)
   | (rw [jF,txt];rfl)
   | (simp only [aX];rfl)
 have n7:¬ op.toNat=7:=by omega
 refine .sr<|.yw (.eql Z Z)<|.aq Z<|.ce Z (λh47=>?_) (λh47=>?_)
 ·have e8:op=8:=aS.1 (by show op.toNat=8;omega);subst e8;have hn:args.length=0:=har.trans (by decide);refine .sr<|.fA Z dD<|.lD Z cP Hm Z<|.yw (.app Z Z (by (try simp only [aH]);(try simp only [aI,aL]);omega))<|.az Z<|.bR<|.tR<|?_
  refine y9 Z Z λW s=>⟨?_,s.ext⟩
  first
   | (rfl)
   | (rw [jF,txt];rfl)
   | (simp only [aX];rfl)
 have n8:¬ op.toNat=8:=by omega
 refine .sr<|.yw (.eql Z Z)<|.aq Z<|.ce Z (λh52=>?_) (λh52=>?_)
 ·have e9:op=9:=aS.1 (by show op.toNat=9;omega);subst e9;have hn:args.length=1:=har.trans (by decide);have h0:0<args.length:=by omega
  obtain ⟨b0,o0,c0,hp0,r0,l0,m0⟩:=hs.elem (fW h0);cases hp0;have hf0:=tT h0 hf2;have htx:Ex.text (.mk 9 nm nn args)=([45]:Str)++opT 6 ((cK args[0].op).lv,Ex.text args[0]):=by rw [jF,bP4,yV h0]
  rw [htx] at hl|-;have hO:=CN 6 ((cK args[0].op).lv,Ex.text args[0]);dsimp only at hO;simp only [aH] at hl;refine .sr<|.fA Z fG<|.lD Z eQ Hm Z<|.yw (.indexSl eL Z Z (i:=0) Z (by omega) (q:=o0+0 * 4) Z)<|.yw (.loadMW Z dH m0 l0)<|.yw (.call AM Z (λW s=>DL H _ (ih _ (bI h0)) _ r0 hf0 (by omega) W s.agr))<|.yw (.app Z Z (by (try simp only [aH]);(try simp only [aI,aL]);omega))<|.az Z<|.bR<|.tR<|?_
  refine y9 Z Z λW s=>⟨?_,s.ext⟩
  first
   | (rfl)
   | (rw [jF,txt];rfl)
   | (simp only [aX];rfl)
 have n9:¬ op.toNat=9:=by omega
 refine .sr<|.yw (.eql Z Z)<|.aq Z<|.ce Z (λh60=>?_) (λh60=>?_)
 ·have e10:op=10:=aS.1 (by show op.toNat=10;omega);subst e10;have hn:args.length=1:=har.trans (by decide);have h0:0<args.length:=by omega
  obtain ⟨b0,o0,c0,hp0,r0,l0,m0⟩:=hs.elem (fW h0);cases hp0;have hf0:=tT h0 hf2;have htx:Ex.text (.mk 10 nm nn args)=([110,111,116,32]:Str)++opT 6 ((cK args[0].op).lv,Ex.text args[0]):=by rw [jF,bF0,yV h0]
  rw [htx] at hl|-;have hO:=CN 6 ((cK args[0].op).lv,Ex.text args[0]);dsimp only at hO;simp only [aH] at hl;refine .sr<|.fA Z fG<|.lD Z eQ Hm Z<|.yw (.indexSl eL Z Z (i:=0) Z (by omega) (q:=o0+0 * 4) Z)<|.yw (.loadMW Z dH m0 l0)<|.yw (.call AM Z (λW s=>DL H _ (ih _ (bI h0)) _ r0 hf0 (by omega) W s.agr))<|.yw (.app Z Z (by (try simp only [aH]);(try simp only [aI,aL]);omega))<|.az Z<|.bR<|.tR<|?_
  refine y9 Z Z λW s=>⟨?_,s.ext⟩
  first
   | (rfl)
   | (rw [jF,txt];rfl)
   | (simp only [aX];rfl)
 have n10:¬ op.toNat=10:=by omega
 simp only [GA,aF,aD] at hok;have hop:11<=op.toNat:=by omega
 have hn2:args.length=2:=har.trans (OW hop hok.2);have h0:0<args.length:=by omega
 obtain ⟨b0,o0,c0,hp0,r0,l0,m0⟩:=hs.elem (fW h0);cases hp0;have hf0:=tT h0 hf2;have h1:1<args.length:=by omega
 obtain ⟨b1x,o1,c1,hp1,r1,l1,m1⟩:=hs.elem (fW h1);cases hp1;have hf1:=tT h1 hf2;have htx:=aS5 (op:=op) (nm:=nm) (n:=nn) (args:=args) hop hok.2 h0 h1;rw [htx] at hl|-;simp only [aH] at hl;have ho:=CN (xN (cK op).lv) ((cK args[0].op).lv,args[0].text);have ho1:=CN ((cK op).lv+1) ((cK args[1].op).lv,args[1].text);have hlv1:=aH4 hop hok.2;dsimp only at ho ho1;refine .sk<|.bN<|.tN<|.sr<|.fA Z cO<|.lD Z cC Hm Z<|.yw (.cast (.call MY Z (λW s=>PI H op.toNat W s.agr)) (by rw [aW7 hok0]))<|.a Z Z<|.ns<|.mv Z<|.yw (.sub Z Z (c:=(((cK op).lv - 1:Nat):Int)) ((w6 (by omega)).trans (by omega)))<|.aq Z<|.cu (X:=Unit) [(1,_),(3,_)] ⟨Z,Z,Jt⟩ (λz=>[(4,iN (xN (cK op).lv - 1))]) (λz=>H) (λz=>[.box b1 [.int .i64 op.toNat,cH nm,.int .i64 nn.toInt,.slice (some ⟨b0,o0,none⟩) args.length c] 83]) (λz=>True) ?_ λz hC=>?_
 ·
  refine .sm Z<|.yw (.eql Z Z)<|.nt<|.ce Z (λh74=>?_) (λh74=>?_)
  ·exact .rg<|.aq Z<|.me () ⟨(by first | (rw [xN,aO (by omega),show (cK op).lv+1 - 1=3 by omega];rfl) | (rw [xN,aG (by omega)];rfl)),Jt⟩ ⟨Z,Z,Jt⟩ (λ_ s=>s) trivial
  exact .sk<|.tN<|.me () ⟨(by first | (rw [xN,aO (by omega),show (cK op).lv+1 - 1=3 by omega];rfl) | (rw [xN,aG (by omega)];rfl)),Jt⟩ ⟨Z,Z,Jt⟩ (λ_ s=>s) trivial
 refine .sq<|.fL 19 [(0,0),(1,0),(2,0),(3,0),(4,0),(5,0),(6,0),(7,0),(8,0),(9,0),(10,0),(11,0),(12,0),(13,0),(14,0),(15,0),(16,0),(17,0),(18,0)]<|.fA Z fG<|.lD Z eQ Hm Z<|.yw (.indexSl eL Z Z (i:=0) Z (by omega) (q:=o0+0 * 4) Z)<|.yw (.loadMW Z dH m0 l0)<|.mv Z<|.yw (.call AM Z (λW s=>NR H _ (ih _ (bI h0)) _ r0 hf0 (by omega) (xN (cK op).lv - 1) (xN (cK op).lv) (aW9 hlv1) W s.agr))<|.yw (.app Z Z (by (try simp only [aH]);(try simp only [aI,aL]);omega))<|.fA Z cO<|.lD Z cC Hm Z<|.yw (.call ZL Z (λW s=>XN H op.toNat hop hok.2 W s.agr))<|.yw (.app Z Z (by (try simp only [aH]);(try simp only [aI,aL]);omega))<|.yw (.app Z Z (by (try simp only [aH]);(try simp only [aI,aL]);omega))<|.fA Z fG<|.lD Z eQ Hm Z<|.yw (.indexSl eL Z Z (i:=1) Z (by omega) (q:=o0+1 * 4) Z)<|.yw (.loadMW Z dH m1 l1)<|.mv Z<|.yw (.call AM Z (λW s=>zW H _ (ih _ (bI h1)) _ r1 hf1 (by omega) (cK op).lv W s.agr))<|.yw (.app Z Z (by (try simp only [aH]);(try simp only [aI,aL]);omega))<|.fn (tl:=[_]) Z<|.az Z<|?_
 refine y9 Z Z λW s=>⟨?_,s.ext⟩
 first
  | (rfl)
  | (rw [jF,txt];rfl)
  | (simp only [aX];rfl)
def gX (lv:Nat):Pz Ex:=pX lv
def gL (lv:Nat) (a:Ex):Pz Ex:=pL lv a
theorem Cz.ex (lv:Nat):Cz (gX lv):=by
 have prim:∀ rec:List Tk->Rs Ex,(∀ r r' c,rec r=.er r' c->c≠0)->∀ r r' c,rM rec r=.er r' c->c≠0:=by
  intro rec hr r r' c e
  have nd:∀ {α:Type} (w:Str) (r:List Tk) (f:List Tk->Rs α),(∀ r r' c,f r=.er r' c->c≠0)->∀ r' c,sU w r f=.er r' c->c≠0:=by
   intro α w r f hf r' c e;unfold sU at e
   split at e
   ·exact hf _ _ _ e
   ·injection e with _ e;omega
  have nm:∀ {α:Type} (r:List Tk) (f:Str->List Tk->Rs α),(∀ s r r' c,f s r=.er r' c->c≠0)->∀ r' c,AX r f=.er r' c->c≠0:=by
   intro α r f hf r' c e;unfold AX at e
   split at e
   ·injection e with _ e;omega
   ·split at e
    ·exact hf _ _ _ _ e
    ·injection e with _ e;omega
  have rb:∀ (r:List Tk) (f:Ex->List Tk->Rs Ex),(∀ x r r' c,f x r=.er r' c->c≠0)->∀ r' c,(rec r).bind f=.er r' c->c≠0:=by
   intro r f hf r' c e;rcases Rs.bind_er e with e | ⟨a,q,_,e⟩
   ·exact hr _ _ _ e
   ·exact hf _ _ _ _ e
  unfold rM at e
  split at e
  ·injection e with _ e;omega
  ·split at e
   ·split at e
    ·cases e
    ·injection e with _ e;omega
   split at e
   ·cases e
   split at e
   ·cases e
   split at e
   ·cases e
   split at e
   ·exact nm _ _ (λs r r' c e=>by cases e) _ _ e
   split at e
   ·exact rb _ _ (λx r r' c e=>nd _ _ _ (λr r' c e=>by cases e) _ _ e) _ _ e
   split at e
   ·exact nm _ _ (λs r r' c e=>nd _ _ _ (λr r' c e=>rb _ _ (λx r r' c e=>nd _ _ _ (λr r' c e=>by cases e) _ _ e) _ _ e) _ _ e) _ _ e
   split at e
   ·split at e
    ·exact rb _ _ (λx r r' c e=>nd _ _ _ (λr r' c e=>by cases e) _ _ e) _ _ e
    ·cases e
   ·injection e with _ e;omega
 have key:∀ f,(∀ lv r r' c,pE f (.ex lv) r=.er r' c->c≠0)/\(∀ lv a r r' c,pE f (.lp lv a) r=.er r' c->c≠0):=by
  intro f;induction f with
  | zero=>exact ⟨λlv r r' c e=>by unfold pE at e;injection e with _ e;omega,λlv a r r' c e=>by unfold pE at e;injection e with _ e;omega⟩
  | succ f ih =>
   obtain ⟨ih1,ih2⟩:=ih;refine ⟨λlv r r' c e=>?_,λlv a r r' c e=>?_⟩
   ·rw [UT] at e
    split at e
    ·rcases Rs.bind_er e with e | ⟨a,q,_,e⟩
     ·exact ih1 _ _ _ _ e
     ·exact ih2 _ _ _ _ _ e
    split at e
    ·rcases Rs.bind_er e with e | ⟨a,q,_,e⟩
     ·exact ih1 _ _ _ _ e
     ·cases e
    split at e
    ·rcases Rs.bind_er e with e | ⟨a,q,_,e⟩
     ·exact ih1 _ _ _ _ e
     ·cases e
    ·exact prim _ (λr r' c e=>ih1 _ _ _ _ e) _ _ _ e
   ·rw [US] at e
    split at e
    ·cases e
    ·rcases Rs.bind_er e with e | ⟨b,q,_,e⟩
     ·exact ih1 _ _ _ _ e
     ·split at e
      ·cases e
      ·exact ih2 _ _ _ _ _ e
 exact λr r' c e=>(key _).1 _ _ _ _ e
theorem Shs.gx (lv:Nat):Shs (gX lv):=λr a r' e=>(BO _).1 _ _ _ _ e
theorem aY7 {lv:Nat} (h:lv<5):gX lv=dJ (gX (lv+1)) (gL lv):=funext λ_=>RP h
theorem bO2:gX 5=kY [45] (dJ (gX 5) λx=>gA (opE 9 [x])) (kY [110,111,116] (dJ (gX 5) λx=>gA (opE 10 [x])) (rM (gX 0))):=funext λ_=>DK
def gK (lv:Nat) (op:UInt8) (a:Ex) (b:Ex):Pz Ex:=if lv=2 then gA (opE op [a,b]) else gL lv (opE op [a,b])
def bJ5 (op:UInt8) (nm:Str):Pz Ex:=dJ (gX 0) λx=>dJ (gNd [93]) λ_=>gA (.mk op nm 0 [x])
def bJ4:Pz Ex:=dJ gNu λv=>gA (.mk 1 [] v [])
def aK1:Pz Ex:=dJ gNm λs=>kY [91] (bJ5 6 s) (gA (.mk 5 s 0 []))
def aD8:List Tk->Bool
 | []=>false
 | t::_=>decide (t.k=3)
def MA:Pz Ex:=λr=>if aD8 r then bJ4 r else aK1 r
def PK:Pz Ex :=
 kY [116,114,117,101] (gA (opE 2 []))<|kY [102,97,108,115,101] (gA (opE 3 []))<|kY [110,111,119] (gA (opE 4 []))<|kY [115,105,122,101] (dJ gNm λs=>gA (.mk 8 s 0 []))<|kY [104,97,115] (dJ gNm λs=>dJ (gNd [91]) λ_=>bJ5 7 s)<|kY [40] (dJ (gX 0) λx=>dJ (gNd [41]) λ_=>gA x) MA
theorem VA {α:Type} (r:List Tk) (f:Str->Pz α):(AX r λs q=>f s q)=dJ gNm f r:=by
 unfold AX dJ gNm;cases r with
 | nil=>rfl
 | cons t q =>
  simp only
  split <;> rfl
theorem GC {α:Type} (w:Str) (r:List Tk) (f:Pz α):(sU w r λq=>f q)=dJ (gNd w) (λ_=>f) r:=by
 unfold sU dJ gNd
 split <;> rfl
variable {w:Str}
theorem aY1 {t:Tk} {q:List Tk} (h:isT w (t::q)=true):(t.k=2\/t.k=4)/\t.t=w:=by
 unfold isT at h;rw [aF,aD,aT,dL,dL] at h;exact h
theorem bT2 {t:Tk} {q:List Tk} (h:t.k=3):isT w (t::q)=false:=by
 cases e:isT w (t::q) with
 | false=>rfl
 | true =>
  have:=(aY1 e).1;rw [h] at this
  revert this
  decide
theorem aC2:rM (gX 0)=PK:=funext λr=>by
 cases r with
 | nil=>rfl
 | cons t q =>
  by_cases h3:t.k=3
  ·have e:PK (t::q)=bJ4 (t::q):=by
    unfold PK kY MA aD8;simp only [bT2 h3,aE,aW,h3,decide_true,aY]
   rw [e];unfold rM bJ4 dJ gNu;simp only [h3,aY]
   split <;> rfl
  ·have hl:MA (t::q)=aK1 (t::q):=by
    unfold MA aD8;simp only [h3,vW,aE,aW]
   unfold rM;simp only [h3,aW];unfold PK kY;refine ifC rfl (ifC rfl (ifC rfl (ifC ?_ ?_)))
   ·exact VA q λs=>gA _
   by_cases hp:isT [40] (t::q)=true
   ·have hn:isT [104,97,115] (t::q)=false:=by
     cases e:isT [104,97,115] (t::q) with
     | false=>rfl
     | true =>
      have h1:=(aY1 hp).2;have h2:=(aY1 e).2;rw [h1] at h2
      revert h2
      decide
    simp only [hp,hn,aY,aE,aW];refine Rs.bind_congr rfl λx r2 _=>?_;exact GC [41] r2 (gA x)
   ·simp only [hp,aE,aW];refine ifC ?_ ?_
    ·rw [xZ,<-VA];unfold AX;cases q with
     | nil=>rfl
     | cons t2 q2 =>
      simp only;refine ifC ?_ rfl;rw [<-GC];unfold sU;refine ifC ?_ rfl;refine Rs.bind_congr rfl λx r4 _=>?_;exact GC [93] r4 (gA _)
    ·rw [hl];unfold aK1 dJ gNm;simp only
     by_cases h1:t.k=1
     ·simp only [h1,aY];show _=kY [91] (bJ5 6 t.t) (gA (.mk 5 t.t 0 [])) q;unfold kY;refine ifC ?_ rfl;refine Rs.bind_congr rfl λx r4 _=>?_;exact GC [93] r4 (gA _)
     ·simp only [h1,aW]
      rfl
section
variable {α β:Type}
end
theorem Cz.st {b:Pz (List Sm)} (h:Cz b):Cz (gSt b):=by
 have hx:Cz gEx:=Cz.ex 0;have blk:Cz (HJ b):=.bind (.nd _) λ_=>.bind h λ_=>.bind (.nd _) λ_=>.pure _;have els:Cz (aK2 b):=.alt blk (.pure _);have oth:Cz (VM b):=.alt blk (.bind (.nd _) λ_=>.pure _);have lst:Cz (BV gEx):=.bind (.nd _) λ_=>.alt (.pure _) (.bind hx λ_=>.bind (.many hx) λ_=>.bind (.nd _) λ_=>.pure _)
 exact .alt (.bind hx λ_=>.bind blk λ_=>.bind els λ_=>.pure _)<|.alt (.bind hx λ_=>.bind blk λ_=>.pure _)<|.alt (.bind hx λ_=>.bind (.nd _) λ_=>.bind hx λ_=>.bind oth λ_=>.pure _)<|.alt (.bind .nm λ_=>.bind (.nd _) λ_=>.bind hx λ_=>.bind oth λ_=>.pure _)<|.alt (.bind .nm λ_=>.bind (.nd _) λ_=>.bind .nm λ_=>.bind lst λ_=>.bind (.nd _) λ_=>.pure _)<|.alt (.bind hx λ_=>.bind (.nd _) λ_=>.bind .nm λ_=>.bind lst λ_=>.bind (.nd _) λ_=>.pure _)<|.alt (.bind (.nd _) λ_=>.pure _)<|.alt (.bind .nm λ_=>.bind (.nd _) λ_=>.bind hx λ_=>.bind (.nd _) λ_=>.bind (.nd _) λ_=>.pure _)<|.bind .nm λ_=>.alt (.bind hx λ_=>.bind (.nd _) λ_=>.bind (.nd _) λ_=>.bind hx λ_=>.bind (.nd _) λ_=>.pure _)
  (.bind (.nd _) λ_=>.bind hx λ_=>.bind (.nd _) λ_=>.pure _)
theorem Cz.bF:∀ f,Cz (gBF f)
 | 0=>λr r' c e=>by unfold gBF at e;injection e with _ e;omega
 | f+1=>λr r' c e=>by
  unfold gBF at e
  split at e
  ·cases e
  ·rcases Rs.bind_er e with e | ⟨a,q,_,e⟩
   ·exact Cz.st (Cz.bF f) _ _ _ e
   ·rcases Rs.bind_er e with e | ⟨l,q2,_,e⟩
    ·exact Cz.bF f _ _ _ e
    ·cases e
theorem Cz.b:Cz gB:=λr r' c e=>Cz.bF _ _ _ _ e
section
variable {α:Type}
theorem Cz.blk:Cz (HJ gB):=.bind (.nd _) λ_=>.bind Cz.b λ_=>.bind (.nd _) λ_=>.pure _
theorem Cz.list {p:Pz α} (h:Cz p):Cz (BV p):=.bind (.nd _) λ_=>.alt (.pure _) (.bind h λ_=>.bind (.many h) λ_=>.bind (.nd _) λ_=>.pure _)
theorem Cz.int:Cz aY8:=.alt (.bind .nu λ_=>.pure _) .nu
theorem Cz.hd:Cz gHd:=.bind .nm λ_=>.bind (.list .nm) λ_=>.bind .blk λ_=>.pure _
end
theorem Shr.int:Shr aY8:=.alt (.bind Shs.nu.le λ_=>.pure _) Shs.nu.le
section
variable {α β:Type}
def En (p:Pz α):Prop:=p []=.er [] 8\/∃ b,p []=.ok b []
def Pf (N:Nat) (p:Pz α):Prop:=∀ r a q,r.length<=N->p r=.ok a q->∃ u,r=u++q/\(∀ v w,u=v++w->p v=.er [] 8\/∃ b,p v=.ok b [])/\(∀ v,v≠[]->v.head? = q.head? -> p (u++v)=.ok a v)
theorem Pf.le {N M:Nat} {p:Pz α} (h:Pf N p) (k:M<=N):Pf M p:=λr a q hr e=>h r a q (bH hr k) e
theorem Pf.zero {p:Pz α} (h:Shr p):Pf 0 p:=λr a q hr e=>by
 obtain rfl:r=[]:=bQ (by omega);have:=h _ _ _ e;obtain rfl:q=[]:=bQ (by simpa using this);refine ⟨[],Z,λv w h=>?_,λv hv h=>?_⟩
 ·obtain rfl:=(fZ.1 h.symm).1;exact .inr ⟨a,e⟩
 ·cases v with
  | nil=>exact absurd rfl hv
  | cons x v=>cases h
theorem En.pure (a:α):En (gA a):=.inr ⟨a,Z⟩
theorem En.bind {p:Pz α} {f:α->Pz β} (h:En p) (k:∀ a,En (f a)):En (dJ p f):=by
 rcases h with h | ⟨b,h⟩
 ·exact .inl (by unfold dJ;rw [h];rfl)
 ·have e:dJ p f []=f b []:=by unfold dJ;rw [h];rfl
  rcases k b with k | ⟨c,k⟩
  ·exact .inl (e.trans k)
  ·exact .inr ⟨c,e.trans k⟩
theorem En.nd (w:Str):En (gNd w):=.inl rfl
theorem En.nm:En gNm:=.inl rfl
theorem En.nu:En gNu:=.inl rfl
theorem En.alt {w:Str} {p q:Pz α} (h:En q):En (kY w p q):=h
theorem En.many {w:Str} {p:Pz α}:En (AZ w p):=.inr ⟨[],Z⟩
theorem Pf.pure {N:Nat} (a:α):Pf N (gA a):=λr b q _ e=>by
 injection e with e1 e2
 subst e1;subst e2;refine ⟨[],Z,λv w h=>?_,λv _ _=>rfl⟩;obtain rfl:=(fZ.1 h.symm).1;exact .inr ⟨a,Z⟩
theorem Pf.bindS {N M:Nat} {p:Pz α} {f:α->Pz β} (hp:Pf N p) (hM:∀ r a q,r.length<=N->p r=.ok a q->q.length<=M) (hf:∀ a,Pf M (f a)) (he:∀ a,En (f a)):Pf N (dJ p f):=by
 intro r b q' hr e;obtain ⟨a,q,h1,h2⟩:=Rs.bind_ok e;obtain ⟨u1,rfl,A1,B1⟩:=hp _ _ _ hr h1;obtain ⟨u2,rfl,A2,B2⟩:=hf a _ _ _ (hM _ _ _ hr h1) h2;have go:∀ x c y,p x=.ok c y->dJ p f x=f c y:=λx c y h=>by unfold dJ;rw [h];rfl
 have fst:∀ v w,u1=v++w->dJ p f v=.er [] 8\/∃ b,dJ p f v=.ok b []:=λv w h=>by
  rcases A1 v w h with h3 | ⟨b',h3⟩
  ·exact .inl (by unfold dJ;rw [h3];rfl)
  ·rw [go _ _ _ h3];exact he b'
 have hd:∀ (x y z:List Tk),(y.head? = z.head?)->(x++y).head? = (x++z).head? := λx y z h=>by
  cases x with
  | nil=>exact h
  | cons t x=>rfl
 refine ⟨u1++u2,(aX ..).symm,λv w h=>?_,λv hv h=>?_⟩
 ·rcases List.append_eq_append_iff.1 h with ⟨a',rfl,rfl⟩ | ⟨c,rfl,rfl⟩
  ·cases a' with
   | nil =>
    rw [dU];exact fst u1 [] (dU _).symm
   | cons t a' =>
    rw [go _ _ _ (B1 (t::a') (by simp) rfl)];exact A2 (t::a') w rfl
  ·exact fst v c rfl
 ·rw [aX,go _ _ _ (B1 (u2++v) (λk=>hv (fZ.1 k).2) (hd _ _ _ h))];exact B2 v hv h
theorem Pf.bind {N:Nat} {p:Pz α} {f:α->Pz β} (hp:Pf N p) (hf:∀ a,Pf N (f a)) (he:∀ a,En (f a)):Pf N (dJ p f):=.bindS hp (λr a q hr e=>by
 obtain ⟨u,rfl,_⟩:=hp r a q hr e;rw [aH] at hr;omega) hf he
theorem Pf.one {N:Nat} {p:Pz α} (h0:p []=.er [] 8) (h1:∀ t,(∃ a,∀ r,p (t::r)=.ok a r)\/∀ r,∃ r' c,p (t::r)=.er r' c):Pf N p:=by
 intro r a q _ e;cases r with
 | nil=>rw [h0] at e;cases e
 | cons t r =>
  rcases h1 t with ⟨b,h⟩ | h
  ·rw [h] at e;injection e with e1 e2
   subst e1;subst e2;refine ⟨[t],Z,λv w hv=>?_,λv _ _=>h v⟩;cases v with
   | nil=>exact .inl h0
   | cons x v =>
    injection hv with hx hv
    subst hx;obtain rfl:=(fZ.1 hv.symm).1;exact .inr ⟨b,h []⟩
  ·obtain ⟨r',c,h⟩:=h r;rw [h] at e;cases e
theorem Pf.nd {N:Nat} (w:Str):Pf N (gNd w):=.one rfl λt=>by
 cases e:isT w [t] with
 | true=>exact .inl ⟨(),λr=>by show (if isT w [t]=true then _ else _)=_;rw [aO e];rfl⟩
 | false=>exact .inr λr=>⟨_,_,by show (if isT w [t]=true then _ else _)=_;rw [aG (by rw [e];decide)]⟩
theorem Pf.nm {N:Nat}:Pf N gNm:=.one rfl λt=>by
 by_cases e:t.k=1
 ·exact .inl ⟨t.t,λr=>by unfold gNm;simp only [e,aY]⟩
 ·exact .inr λr=>⟨t::r,8,by unfold gNm;simp only [e,aW]⟩
theorem Pf.nu {N:Nat}:Pf N gNu:=.one rfl λt=>by
 by_cases e:t.k=3
 ·by_cases e2:oQ t.t<=9223372036854775807
  ·exact .inl ⟨Int64.ofNat (oQ t.t),λr=>by unfold gNu;simp only [e,e2,aY]⟩
  ·exact .inr λr=>⟨t::r,2,by unfold gNu;simp only [e,e2,aY,aW]⟩
 ·exact .inr λr=>⟨t::r,8,by unfold gNu;simp only [e,aW]⟩
theorem Pf.choice {N:Nat} {c:List Tk->Bool} {p:Tk->Pz α} {q g:Pz α} (hc0:c []=false) (hc:∀ t r r',c (t::r)=c (t::r')) (hT:∀ t r,c (t::r)=true->g (t::r)=p t r) (hF:∀ r,c r=false->g r=q r)
 (hp:∀ t M,M+1<=N->Pf M (p t)) (hq:Pf N q) (he:En q):Pf N g:=by
 intro r a z hr e;cases h:c r with
 | true =>
  cases r with
  | nil=>rw [hc0] at h;cases h
  | cons t r =>
   rw [hT _ _ h] at e;obtain ⟨u,rfl,A,B⟩:=hp t r.length (by simpa using hr) _ _ _ (bK _) e;refine ⟨t::u,Z,λv w hv=>?_,λv hn hv=>?_⟩
   ·cases v with
    | nil=>rw [hF _ hc0];exact he
    | cons x v =>
     injection hv with hx hv
     subst hx;rw [hT _ _ ((hc ..).trans h)];exact A v w hv
   ·show g (t::(u++v))=_;rw [hT _ _ ((hc ..).trans h)];exact B v hn hv
 | false =>
  rw [hF _ h] at e;obtain ⟨u,rfl,A,B⟩:=hq _ _ _ hr e
  have pre:∀ v,(v=[]\/v.head? = (u++z).head?)->c v=false:=λv hv=>by
   cases v with
   | nil=>exact hc0
   | cons x v =>
    rcases hv with hv | hv
    ·cases hv
    ·cases k:u++z with
     | nil=>rw [k] at hv;cases hv
     | cons y s =>
      rw [k] at hv h;injection hv with hv
      subst hv;exact (hc x v s).trans h
  refine ⟨u,Z,λv w hv=>?_,λv hn hv=>?_⟩
  ·rw [hF _ (pre v (by rw [hv];cases v <;> simp))];exact A v w hv
  ·rw [hF _ (pre (u++v) (.inr (by cases u <;> first | exact hv | rfl)))];exact B v hn hv
theorem Pf.look {N:Nat} {c:List Tk->Bool} {p q g:Pz α} (hc0:c []=false) (hc:∀ t r r',c (t::r)=c (t::r')) (hT:∀ r,c r=true->g r=p r) (hF:∀ r,c r=false->g r=q r)
 (hp:Pf N p) (hq:Pf N q) (he:En q):Pf N g:=by
 intro r a z hr e
 have pre:∀ (x:Bool) (v:List Tk),v≠[]->v.head? = r.head? -> c r=x->c v=x:=λx v hn h2 h3=>by
  cases v with
  | nil=>exact absurd rfl hn
  | cons y v =>
   cases r with
   | nil=>cases h2
   | cons t r =>
    injection h2 with h2
    subst h2;exact (hc ..).trans h3
 have h1:∀ (u v w:List Tk),r=u++z->u=v++w->v≠[]->v.head? = r.head? := λu v w h2 h3 hn=>by
  cases v with
  | nil=>exact absurd rfl hn
  | cons y v=>rw [h2,h3];rfl
 have h2:∀ (u v:List Tk),r=u++z->v.head? = z.head? -> (u++v).head? = r.head? := λu v h3 h4=>by
  rw [h3];cases u with
  | nil=>exact h4
  | cons y u=>rfl
 cases h:c r with
 | true =>
  rw [hT _ h] at e;obtain ⟨u,hu,A,B⟩:=hp _ _ _ hr e;refine ⟨u,hu,λv w hv=>?_,λv hn hv=>?_⟩
  ·by_cases hn:v=[]
   ·subst hn;rw [hF _ hc0];exact he
   ·rw [hT _ (pre _ v hn (h1 u v w hu hv hn) h)];exact A v w hv
  ·rw [hT _ (pre _ (u++v) (λk=>hn (fZ.1 k).2) (h2 u v hu hv) h)];exact B v hn hv
 | false =>
  rw [hF _ h] at e;obtain ⟨u,hu,A,B⟩:=hq _ _ _ hr e;refine ⟨u,hu,λv w hv=>?_,λv hn hv=>?_⟩
  ·by_cases hn:v=[]
   ·subst hn;rw [hF _ hc0];exact he
   ·rw [hF _ (pre _ v hn (h1 u v w hu hv hn) h)];exact A v w hv
  ·rw [hF _ (pre _ (u++v) (λk=>hn (fZ.1 k).2) (h2 u v hu hv) h)];exact B v hn hv
theorem Pf.alt {N:Nat} {w:Str} {p q:Pz α} (hp:∀ M,M+1<=N->Pf M p) (hq:Pf N q) (he:En q):Pf N (kY w p q) :=
 .choice (c:=isT w) (p:=λ_=>p) rfl (λ_ _ _=>rfl) (λt r h=>by unfold kY;rw [aO h];rfl) (λr h=>by unfold kY;rw [aG (by rw [h];decide)]) (λ_=>hp) hq he
theorem Pf.many {w:Str} {p:Pz α} (hs:Shr p):∀ (N:Nat),(∀ M,M+1<=N->Pf M p)->Pf N (AZ w p)
 | 0,_=>.zero (.many hs)
 | N+1,h=>by
  rw [LZ hs];refine .alt (λM hM=>?_) (.pure _) (.pure _);exact .bind (h M hM) (λa=>.bind ((Pf.many hs N λM hM=>h M (by omega)).le (by omega)) (λ_=>.pure _) (λ_=>.pure _)) (λa=>.bind .many λ_=>.pure _)
end
section
variable {α β:Type}
structure PE (N:Nat) (p:Pz α):Prop where
 pf:Pf N p
 en:En p
theorem PE.le {N M:Nat} {p:Pz α} (h:PE N p) (k:M<=N):PE M p:=⟨h.pf.le k,h.en⟩
theorem PE.pure {N:Nat} (a:α):PE N (gA a):=⟨.pure a,.pure a⟩
theorem PE.bind {N:Nat} {p:Pz α} {f:α->Pz β} (hp:PE N p) (hf:∀ a,PE N (f a)):PE N (dJ p f):=⟨.bind hp.pf (λa=>(hf a).pf) (λa=>(hf a).en),.bind hp.en λa=>(hf a).en⟩
theorem PE.nd {N:Nat} (w:Str):PE N (gNd w):=⟨.nd w,.nd w⟩
theorem PE.nm {N:Nat}:PE N gNm:=⟨.nm,.nm⟩
theorem PE.nu {N:Nat}:PE N gNu:=⟨.nu,.nu⟩
theorem PE.alt {N:Nat} {w:Str} {p q:Pz α} (hp:∀ M,M+1<=N->PE M p) (hq:PE N q):PE N (kY w p q):=⟨.alt (λM h=>(hp M h).pf) hq.pf hq.en,.alt hq.en⟩
theorem PE.many {N:Nat} {w:Str} {p:Pz α} (hs:Shr p) (hp:∀ M,M+1<=N->PE M p):PE N (AZ w p):=⟨.many hs N λM h=>(hp M h).pf,.many⟩
theorem PE.list {N:Nat} {p:Pz α} (hs:Shr p) (hp:∀ M,M<=N->PE M p):PE N (BV p):=.bind (.nd _) λ_=>.alt (λM _=>.pure _) (.bind (hp N (bK _)) λ_=>.bind (.many hs λM h=>hp M (by omega)) λ_=>.bind (.nd _) λ_=>.pure _)
end
theorem UV (lv:Nat):opAt lv []=none:=by
 have h:(bR2 lv).find? (λx=>isT x.1 [])=none:=List.find?_eq_none.2 (λx _=>Bool.false_ne_true);unfold opAt;rw [h]
 rfl
theorem En.l (lv:Nat) (a:Ex):En (gL lv a):=.inr ⟨a,CM (UV lv)⟩
theorem En.nam:En aK1:=.bind .nm λ_=>.alt (.pure _)
theorem En.prim:En PK:=.alt<|.alt<|.alt<|.alt<|.alt<|.alt En.nam
theorem En.x:∀ (d lv:Nat),lv+d=5->En (gX lv)
 | 0,lv,h=>by
  obtain rfl:lv=5:=by omega
  rw [bO2,aC2];exact .alt (.alt En.prim)
 | d+1,lv,h=>by
  rw [aY7 (by omega)];exact .bind (En.x d (lv+1) (by omega)) λa=>En.l lv a
theorem Shr.l (lv:Nat) (a:Ex):Shr (gL lv a):=λr b r' e=>(BO _).2 _ _ _ _ _ e
theorem Pf.xl:∀ (N:Nat),(∀ lv,lv<=5->Pf N (gX lv))/\(∀ lv,lv<=4->∀ a,Pf N (gL lv a))
 | 0=>⟨λlv _=>.zero (Shs.gx lv).le,λlv _ a=>.zero (Shr.l lv a)⟩
 | N+1=>by
  obtain ⟨ih1,ih2⟩:=Pf.xl N;have x:∀ lv,lv<=5->∀ M,M+1<=N+1->PE M (gX lv):=λlv h M hM=>⟨(ih1 lv h).le (by omega),En.x (5 - lv) lv (by omega)⟩
  have hk:∀ lv op a b,lv<=4->∀ M,M+1<=N+1->PE M (gK lv op a b):=λlv op a b h M hM=>by
   unfold gK
   split
   ·exact .pure _
   ·exact ⟨(ih2 lv h _).le (by omega),En.l lv _⟩
  have hl:∀ lv,lv<=4->∀ a,Pf (N+1) (gL lv a):=λlv h a=>by
   refine .choice (c:=λr=>(opAt lv r).isSome) (p:=λt=>match opAt lv [t] with | some op=>dJ (gX (lv+1)) (gK lv op a) | none=>gA a) (q:=gA a) ?_ (λ_ _ _=>rfl) ?_ ?_ ?_ (.pure _) (.pure _)
   ·show (opAt lv []).isSome=false;rw [UV]
    rfl
   ·intro t r e;obtain ⟨op,e⟩:=qE.1 e;have e2:opAt lv [t]=some op:=e;simp only [e2];show pL lv a (t::r)=_;rw [aC3 h e];refine Rs.bind_congr rfl λb q _=>?_;unfold gK
    split <;> rfl
   ·intro r e
    have e2:opAt lv r=none:=by
     cases k:opAt lv r with
     | none=>rfl
     | some op=>rw [k] at e;cases e
    exact CM e2
   ·intro t M hM;show Pf M (match opAt lv [t] with | some op=>dJ (gX (lv+1)) (gK lv op a) | none=>gA a);cases opAt lv [t] with
    | none=>exact .pure _
    | some op=>exact (PE.bind (x (lv+1) (by omega) M hM) λb=>hk lv op a b h M hM).pf
  have key:∀ op nm M,M+1<=N+1->PE M (bJ5 op nm):=λop nm M hM=>.bind (x 0 (by omega) M hM) λ_=>.bind (.nd _) λ_=>.pure _;have nam:PE (N+1) aK1:=.bind .nm λs=>.alt (λM hM=>key 6 s M hM) (.pure _);have last:PE (N+1) MA:=⟨.look (c:=aD8) (p:=bJ4) (q:=aK1) rfl (λ_ _ _=>rfl) (λr h=>by unfold MA;rw [aO h]) (λr h=>by unfold MA;rw [aG (by rw [h];decide)]) (PE.bind .nu λ_=>.pure _).pf nam.pf nam.en,nam.en⟩;have prim:PE (N+1) PK:=.alt (λ_ _=>.pure _)<|.alt (λ_ _=>.pure _)<|.alt (λ_ _=>.pure _)<|.alt (λ_ _=>.bind .nm λ_=>.pure _)<|.alt (λM hM=>.bind .nm λs=>.bind (.nd _) λ_=>key 7 s M hM)<|.alt (λM hM=>.bind (x 0 (by omega) M hM) λ_=>.bind (.nd _) λ_=>.pure _) last
  have h5:PE (N+1) (gX 5):=by
   rw [bO2,aC2];exact .alt (λM hM=>.bind (x 5 (by omega) M hM) λ_=>.pure _)<|.alt (λM hM=>.bind (x 5 (by omega) M hM) λ_=>.pure _) prim
  have all:∀ d lv,lv+d=5->PE (N+1) (gX lv):=λd=>by
   induction d with
   | zero =>
    intro lv h;obtain rfl:lv=5:=by omega
    exact h5
   | succ d ih =>
    intro lv h;rw [aY7 (by omega)];exact .bind (ih (lv+1) (by omega)) λa=>⟨hl lv (by omega) a,En.l lv a⟩
  exact ⟨λlv h=>(all (5 - lv) lv (by omega)).pf,hl⟩
theorem PE.ex:PE N gEx:=⟨(Pf.xl N).1 0 (by omega),En.x 5 0 rfl⟩
theorem PE.st {b:Pz (List Sm)} (hb:∀ M,M+1<=N->PE M b):PE N (gSt b):=by
 have blk:∀ M,M+1<=N->PE M (HJ b):=λM h=>.bind (.nd _) λ_=>.bind (hb M h) λ_=>.bind (.nd _) λ_=>.pure _;have els:∀ M,M+1<=N->PE M (aK2 b):=λM h=>.alt (λM' h'=>blk M' (by omega)) (.pure _);have oth:∀ M,M+1<=N->PE M (VM b):=λM h=>.alt (λM' h'=>blk M' (by omega)) (.bind (.nd _) λ_=>.pure _);have lst:∀ M,PE M (BV gEx):=λM=>.list Shs.ex.le λ_ _=>.ex
 exact .alt (λM h=>.bind .ex λ_=>.bind (blk M h) λ_=>.bind (els M h) λ_=>.pure _)<|.alt (λM h=>.bind .ex λ_=>.bind (blk M h) λ_=>.pure _)<|.alt (λM h=>.bind .ex λ_=>.bind (.nd _) λ_=>.bind .ex λ_=>.bind (oth M h) λ_=>.pure _)<|.alt (λM h=>.bind .nm λ_=>.bind (.nd _) λ_=>.bind .ex λ_=>.bind (oth M h) λ_=>.pure _)<|.alt (λM h=>.bind .nm λ_=>.bind (.nd _) λ_=>.bind .nm λ_=>.bind (lst M) λ_=>.bind (.nd _) λ_=>.pure _)<|.alt (λM h=>.bind .ex λ_=>.bind (.nd _) λ_=>.bind .nm λ_=>.bind (lst M) λ_=>.bind (.nd _) λ_=>.pure _)<|.alt (λM h=>.bind (.nd _) λ_=>.pure _)<|.alt (λM h=>.bind .nm λ_=>.bind (.nd _) λ_=>.bind .ex λ_=>.bind (.nd _) λ_=>.bind (.nd _) λ_=>.pure _)<|.bind .nm λ_=>.alt (λM h=>.bind .ex λ_=>.bind (.nd _) λ_=>.bind (.nd _) λ_=>.bind .ex λ_=>.bind (.nd _) λ_=>.pure _)
  (.bind (.nd _) λ_=>.bind .ex λ_=>.bind (.nd _) λ_=>.pure _)
theorem En.b:En gB:=.inl (by rw [VO];rfl)
theorem PE.b:∀ N,PE N gB
 | 0=>⟨.zero Shr.b,En.b⟩
 | N+1=>by
  have st:PE (N+1) (gSt gB):=.st λM h=>(PE.b N).le (by omega);have rest:∀ a:Sm,PE N (dJ gB λl=>gA (a::l)):=λa=>.bind (PE.b N) λ_=>.pure _
  refine ⟨.look (c:=isT [125]) (p:=gA []) (q:=dJ (gSt gB) λs=>dJ gB λl=>gA (s::l)) rfl (λ_ _ _=>rfl) (λr h=>?_) (λr h=>?_) (.pure _)
   (.bindS st.pf (λr a q hr e=>?_) (λa=>(rest a).pf) (λa=>(rest a).en)) (.bind st.en λa=>(rest a).en),En.b⟩
  ·rw [VO,aO h]
   rfl
  ·rw [VO,aG (by rw [h];decide)]
   rfl
  ·have:=Shs.st Shr.b _ _ _ e;omega
theorem PE.blk:PE N (HJ gB):=.bind (.nd _) λ_=>.bind (.b N) λ_=>.bind (.nd _) λ_=>.pure _
theorem PE.int:PE N aY8:=.alt (λ_ _=>.bind .nu λ_=>.pure _) .nu
theorem PE.hd:PE N gHd:=.bind .nm λ_=>.bind (.list Shs.nm.le λ_ _=>.nm) λ_=>.bind .blk λ_=>.pure _
structure Xf {α:Type} (p:Pz α):Prop where
 no:p []=.er [] 8
 go:∀ r a q w,p r=.ok a q->p (r++w)=.ok a (q++w)
theorem Xf.nd (w:Str):Xf (gNd w):=⟨Z,λr a q z e=>by
 cases r with
 | nil=>cases e
 | cons t r =>
  unfold gNd at e
  split at e
  ·rename_i h;injection e with _ e
   subst e;show (if isT w (t::(r++z))=true then _ else _)=_;have h2:isT w (t::(r++z))=true:=h;rw [aO h2]
   rfl
  ·cases e⟩
theorem Xf.pure {α β:Type} {p:Pz α} {f:α->β} (h:Xf p):Xf (dJ p λa=>gA (f a)):=⟨by unfold dJ;rw [h.no];rfl,λr b q w e=>by
 obtain ⟨a,q1,h1,h2⟩:=Rs.bind_ok e;injection h2 with h2 h3
 subst h2;subst h3;unfold dJ;rw [h.go r a q1 w h1]
 rfl⟩
theorem Xf.bind {α β:Type} {p:Pz α} {f:α->Pz β} (hp:∀ N,PE N p) (hf:∀ a,Xf (f a)):Xf (dJ p f):=⟨by
 unfold dJ;rcases (hp 0).en with h | ⟨b,h⟩
 ·rw [h];rfl
 ·rw [h];exact (hf b).no,λr b q' w e=>by
 obtain ⟨a,q,h1,h2⟩:=Rs.bind_ok e
 have hq:q≠[]:=λk=>by
  subst k;rw [(hf a).no] at h2;cases h2
 obtain ⟨u,rfl,_,B⟩:=(hp r.length).pf _ _ _ (bK _) h1;have h3:=B (q++w) (λk=>hq (fZ.1 k).1) (by cases q with | nil=>exact absurd rfl hq | cons t q=>rfl);unfold dJ;rw [aX,h3];exact (hf a).go q b q' w h2⟩
def RO (ks:List Kt):List Kt:=(4,[40])::(ks++[(4,[41])])
def RdK (ks:List Kt) (e:Ex):Prop:=∀ le r,le.map kt=ks->Stp 0 r->pX 0 (le++r)=.ok e r
variable {ks:List Kt}
theorem RdK.par {e:Ex} (h:RdK ks e) {le r:List Tk} (hk:le.map kt=RO ks):pX 5 (le++r)=.ok e r:=by
 unfold RO at hk;obtain ⟨t,l1,rfl,ht,hk⟩:=cR.1 hk;obtain ⟨l2,l3,rfl,h2,h3⟩:=gY.1 hk;obtain ⟨t2,l4,rfl,ht2,h4⟩:=cR.1 h3;obtain rfl:=fB.1 h4;simp only [bT,aX,cU];have hf:=h l2 (t2::r) h2 (.of (by rw [ht2];decide) (by rw [ht2];decide));rw [DK,fK,fK,ht,aG (by decide),aG (by decide),rM];have hk0:t.k=4:=congrArg Prod.fst ht;simp only [fK,ht];rw [aG (by rw [hk0];decide),aG (by decide),aG (by decide),aG (by decide),aG (by decide),aO (by decide),hf];show sU [41] (t2::r) _=_;rw [sU,fK,ht2,aO (by decide)]
 rfl
end Go.Proofs.YtidclioghdbphaaGreatDoor
/- Plain: expressions with all parentheses are read back: the cases beside two operands. -/
namespace Go.Proofs.YtidclioghdbphaaGreatDoor
mutual
def VP:Ex->List Kt
 | .mk op nm n args=>match aZ0 args with
  | []=>ktE (.mk op nm n [])
  | [b]=>if op=6 then (1,nm)::(4,[91])::(b++[(4,[93])]) else if op=7 then (2,[104,97,115])::(1,nm)::(4,[91])::(b++[(4,[93])])
   else if op=9 then (4,[45])::RO b else (2,[110,111,116])::RO b
  | a::b::_=>RO a++EF op::RO b
def aZ0:List Ex->List (List Kt)
 | []=>[]
 | e::r=>VP e::aZ0 r
end
mutual
def aE2:Ex->Str
 | .mk op nm n args=>match aY9 args with
  | []=>Ex.text (.mk op nm n [])
  | [b]=>if op=6 then nm++91::(b++[93]) else if op=7 then [104,97,115]++32::(nm++91::(b++[93]))
   else if op=9 then 45::32::40::(b++[41]) else [110,111,116]++32::40::(b++[41])
  | a::b::_=>40::(a++41::((cK op).tx++40::(b++[41])))
def aY9:List Ex->List Str
 | []=>[]
 | e::r=>aE2 e::aY9 r
end
def LxF (e:Ex):Prop:=∀ r ks,vR r->Lx r ks->Lx (aE2 e++r) (VP e++ks)/\hdB (aE2 e++r)
variable {r:Str} {ks:List Kt}
theorem LxF.par {e:Ex} (h:LxF e) (hr:hdB r) (hk:Lx r ks):Lx (40::(aE2 e++41::r)) (RO (VP e)++ks):=by
 obtain ⟨k1,k2⟩:=h (41::r) ((4,[41])::ks) YS (.sy (by decide) hr hk);have e2:RO (VP e)++ks=(4,[40])::(VP e++(4,[41])::ks):=by simp [RO]
 rw [e2];exact .sy (by decide) k2 k1
variable {n:Nat}
theorem UM {c:UInt8} {k:UInt8} (h:bU (c::r)=(k,n)) (h5:k≠5) :
 (mW c=true/\n=pre iC (c::r)/\(if words.contains ((c::r).take n) then (2:UInt8) else if n<=12 then 1 else 5)=k) \/
 (mW c=false/\iA c=true/\n=pre iA (c::r)/\(n=1\/c≠48)/\k=3) \/
 (mW c=false/\iA c=false/\k=4/\∃ y,symbols.find? (λx=>x.isPrefixOf (c::r))=some y/\n=y.length):=by
 cases h1:mW c with
 | true =>
  refine .inl ⟨Z,?_⟩;cases h4:words.contains ((c::r).take (pre iC (c::r))) with
  | true =>
   simp only [bU,aN,h1,h4,aY,jC] at h;obtain ⟨rfl,rfl⟩:=h;exact ⟨Z,by rw [h4];rfl⟩
  | false =>
   by_cases h6:pre iC (c::r)<=12
   ·simp only [bU,aN,h1,h4,h6,aY,aE,aW,jC] at h;obtain ⟨rfl,rfl⟩:=h;exact ⟨Z,by rw [h4,aG (by decide),aO h6]⟩
   ·simp only [bU,aN,h1,h4,h6,aY,aE,aW,jC] at h;exact absurd h.1.symm h5
 | false =>
  cases h4:iA c with
  | true =>
   by_cases h6:pre iA (c::r)=1\/c≠48
   ·simp only [bU,aN,h1,h4,h6,aY,aE,aW,jC] at h;obtain ⟨rfl,rfl⟩:=h;exact .inr (.inl ⟨Z,Z,Z,h6,Z⟩)
   ·simp only [bU,aN,h1,h4,h6,aY,aE,aW,jC] at h;exact absurd h.1.symm h5
  | false =>
   cases hx:symbols.find? (λx=>x.isPrefixOf (c::r)) with
   | none =>
    simp only [bU,aN,h1,h4,hx,aE,aW,jC] at h;exact absurd h.1.symm h5
   | some y =>
    simp only [bU,aN,h1,h4,hx,aE,aW,jC] at h;obtain ⟨rfl,rfl⟩:=h;exact .inr (.inr ⟨Z,Z,Z,y,Z,Z⟩)
theorem bF3 {c:UInt8} {t:Str} (hsh:(c::t).length<=1000000) (hall:(c::t).all iA=true) (h2:t=[]\/c≠48) (hr:∀ d,r.head? = some d->iA d=false):Tok (3,c::t) r:=by
 have hp:pre iA ((c::t)++r)=(c::t).length:=zT hall hr;rw [eY,aF] at hall;have hb:=SU c hall.1;refine ⟨by simp,?_,oW hb.1 (λe=>hb.2.1 e.1),(show (3:UInt8)≠5 by decide),hsh⟩;show bU ((c::t)++r)=(3,(c::t).length);unfold bU;simp only;rw [show ((c::t)++r).headD 0=c from rfl,hb.2.2.2.2.2,aG (by decide),hall.1,aO rfl,hp];refine aO ?_;rcases h2 with rfl | h2
 ·exact .inl Z
 ·exact .inr h2
variable {w:Str}
theorem FV {q:UInt8->Bool} (h:pre q (w++r)=w.length):w.all q=true/\∀ d,r.head? = some d->q d=false:=by
 induction w with
 | nil =>
  refine ⟨Z,λd hd=>?_⟩;cases r with
  | nil=>cases hd
  | cons e r =>
   obtain rfl:e=d:=bL hd;cases hq:q e with
   | false=>rfl
   | true =>
    rw [cU] at h;unfold pre at h;rw [eA,hq] at h;simp at h
 | cons a w ih =>
  rw [bT] at h;unfold pre at h;rw [eA] at h;cases hq:q a with
  | false=>rw [hq] at h;simp at h
  | true =>
   rw [hq] at h;have:=ih (by unfold pre;simpa using h);exact ⟨by rw [eY,hq,this.1];rfl,this.2⟩
theorem WA {α:Type} {p q:α->Bool}:∀ {l:List α},(∀ x∈l,p x=q x)->l.find? p=l.find? q
 | [],_=>rfl
 | a::l,h=>by
  rw [List.find?_cons,List.find?_cons,h a (by simp),WA λx hx=>h x (bZ _ hx)]
theorem aG9:∀ w∈symbols,w≠[]/\mW (w.headD 0)=false/\iA (w.headD 0)=false/\kZ (w.headD 0)=false/\w.take 2≠[47,47]/\w.all (λc=>!kZ c)=true/\w.length<=2/\symbols.find? (λx=>x.isPrefixOf w)=some w:=by decide +kernel
theorem XV {z a b:Str} (hz:z.length<=2) (h:a.take 2=b.take 2):z.isPrefixOf a=z.isPrefixOf b:=by
 have key:∀ (m:Str),z.isPrefixOf m=z.isPrefixOf (m.take 2):=by
  intro m
  match z,hz,m with
  | [],_,m=>simp [List.isPrefixOf]
  | [x],_,[]=>rfl
  | [x],_,[y]=>rfl
  | [x],_,y::u::m=>rfl
  | [x,x'],_,[]=>rfl
  | [x,x'],_,[y]=>rfl
  | [x,x'],_,y::u::m=>rfl
 rw [key a,key b,h]
theorem Tok.tail {x:Kt} {d:UInt8} {r':Str} (h:Tok x (d::r)):Tok x (d::r'):=by
 obtain ⟨k,w⟩:=x;have hne:=h.ne
 match w,hne with
 | c::t,hne =>
  have hrd:bU (c::(t++d::r))=(k,(c::t).length):=h.read;have htk:(c::(t++d::r)).take (c::t).length=c::t:=by rw [<-bT,jG]
  have h2t:((c::t)++d::r).take 2=((c::t)++d::r').take 2:=by
   cases t with
   | nil=>rfl
   | cons b t=>rfl
  have hsk:eG false ((c::t)++d::r')=(c::t)++d::r':=by
   have h0:eG false (c::(t++d::r))=c::(t++d::r):=h.skip;rw [eG] at h0
   have hb:kZ c=false:=by
    cases e:kZ c with
    | false=>rfl
    | true =>
     rw [aO e] at h0;have h1:=congrArg List.length h0;have h2:=nY false (t++d::r);rw [aI] at h1;omega
   rw [aG (by rw [hb];decide)] at h0;refine oW hb λe=>?_;have e2:(t++d::r').head? = (t++d::r).head? := by cases t <;> rfl
   have e1:c=47/\(t++d::r').head? = some 47:=e;rw [e2] at e1;rw [aO e1] at h0;have h1:=congrArg List.length h0;have h2:=nY true (t++d::r);rw [aI] at h1;omega
  refine ⟨h.ne,?_,hsk,h.k5,h.sh⟩;show bU ((c::t)++d::r')=(k,(c::t).length);rcases UM hrd h.k5 with ⟨h1,h2,h3⟩ | ⟨h1,h2,h3,h4,h5⟩ | ⟨h1,h2,h3,y,h4,h5⟩
  ·have ha:=FV (w:=c::t) (r:=d::r) h2.symm;have hp:pre iC ((c::t)++d::r')=(c::t).length:=zT ha.1 λe he=>ha.2 e he;rw [htk] at h3;unfold bU;simp only;rw [show ((c::t)++d::r').headD 0=c from rfl,h1,aO rfl,hp,jG]
   split at h3
   ·rename_i e;rw [aO e,<-h3]
   ·rename_i e;rw [aG e]
    split at h3
    ·rename_i e2;rw [aO e2,<-h3]
    ·exact absurd h3.symm h.k5
  ·obtain rfl:k=3:=h5;have ha:=FV (w:=c::t) (r:=d::r) h3.symm;have hp:pre iA ((c::t)++d::r')=(c::t).length:=zT ha.1 λe he=>ha.2 e he;unfold bU;simp only;rw [show ((c::t)++d::r').headD 0=c from rfl,h1,aG (by decide),h2,aO rfl,hp];exact aO h4
  ·obtain rfl:k=4:=h3
   have hf:symbols.find? (λx=>x.isPrefixOf ((c::t)++d::r'))=some y:=by
    rw [<-h4];exact WA λx hx=>XV (aG9 x hx).2.2.2.2.2.2.1 h2t.symm
   unfold bU;simp only;rw [show ((c::t)++d::r').headD 0=c from rfl,h1,h2,hf];simp [<-h5]
variable {s:Str}
theorem Lx.size {k:List Kt} (h:Lx s k):(k.map λx=>x.2.length).sum<=s.length/\k.length<=(k.map λx=>x.2.length).sum:=by
 induction h with
 | nil=>simp
 | blk _ _ ih=>simp only [aI];omega
 | @tok x s k ht _ ih =>
  have:=AU.2 ht.ne;simp only [dE,List.sum_cons,aI,aH];omega
end Go.Proofs.YtidclioghdbphaaGreatDoor
namespace Go.Proofs.YtidclioghdbphaaGreatDoor
open Go.RowKit Go.Par Go.Sx
def tqN (n:Str):List Kt:=match fD n with | some (a,b)=>[(1,a),(4,[46]),(1,b)] | none=>[(1,n)]
def nmQ (n:Str):Bool:=match fD n with | some (a,b)=>eN a && eN b | none=>eN n
theorem IS:∀ {n a b:Str},fD n=some (a,b)->n=a++([46]:Str)++b
 | [],_,_,h=>by cases h
 | c::r,a,b,h=>by
  rw [fD] at h
  split at h
  ·rename_i hc;cases h;rw [hc];rfl
  ·cases hs:fD r with
   | none=>rw [hs] at h;cases h
   | some x =>
    obtain ⟨y,z⟩:=x;rw [hs] at h;cases h;rw [IS hs];rfl
variable {r:Str}
theorem aR7 {u:Nat} (hu:u<=9223372036854775808) (hr:∀ d,r.head? = some d->iA d=false):Tok (3,Lib.decDigits u) r:=by
 have hdl:=aF5 hu;obtain ⟨c,t,e,h2,_⟩:=HT u
 have hall:(Lib.decDigits u).all iA=true:=bC.2 λd hd=>by
  have:=Plain.digits_are u d hd;simp only [iA,aF,aD];exact this
 rw [e] at hall hdl|-;exact bF3 (by omega) hall h2 hr
theorem Lx.nd {u:Nat} {k:List Kt} (hu:u<=9223372036854775808) (hr:∀ d,r.head? = some d->iA d=false) (h:Lx r k):Lx (Lib.decDigits u++r) ((3,Lib.decDigits u)::k):=.tok (x:=(3,Lib.decDigits u)) (aR7 hu hr) h
def LxN (s:Str) (q:List Kt):Prop:=∀ r ks,vR r->Lx r ks->Lx (s++r) (q++ks)/\hdB (s++r)
theorem YD {op:UInt8} {nm:Str} {n:Int64} {args:List Ex} (h:pI (.mk op nm n args)=false):(op=5\/op=6\/op=8->nmQ nm=true)/\(op=6\/op=8->(fD nm).isSome=true)/\∀ a∈args,pI a=false:=by
 rw [aD1,aS0,lK] at h;obtain ⟨h1,h2⟩:=h;rw [Bool.not_eq_false'] at h1;unfold tnB at h1;refine ⟨λho=>?_,λho=>?_,λa ha=>?_⟩
 ·rw [aO ho] at h1;unfold nmQ;cases hs:fD nm with
  | none=>rw [hs] at h1;simp only [aF] at h1;exact h1.2
  | some x=>rw [hs] at h1;exact h1
 ·rw [aO (.inr ho)] at h1;cases hs:fD nm with
  | none=>rw [hs] at h1;rcases ho with rfl | rfl <;> simp at h1
  | some x=>rfl
 ·cases hm:pI a with
  | false=>rfl
  | true=>rw [fM.2 ⟨a,ha,hm⟩] at h2;cases h2
theorem XF {op:UInt8} {nm:Str} {n:Int64} {args:List Ex} (h:dS (.mk op nm n args)=true) :
 (op=1/\nm=[]/\0<=n.toInt/\args=[])\/(op=4/\nm=[]/\n=0/\args=[])\/((op=5\/op=8)/\n=0/\args=[])\/(op=6/\n=0/\∃ a,args=[a]/\dS a=true)\/(op=9/\nm=[]/\n=0/\∃ a,args=[a]/\dS a=true) \/
 (op∈([11,12,13,14,15]:List UInt8)/\nm=[]/\n=0/\∃ a b,args=[a,b]/\dS a=true/\dS b=true):=by
 rw [dS] at h
 split at h
 ·rename_i e;simp only [aF,aD] at h;exact .inl ⟨e,h.1.1,h.1.2,bQ h.2⟩
 split at h
 ·rename_i e;simp only [aF,aD] at h;exact .inr (.inl ⟨e,h.1.1,h.1.2,bQ h.2⟩)
 split at h
 ·rename_i e;simp only [aF,aD] at h;exact .inr (.inr (.inl ⟨e,h.1,bQ h.2⟩))
 split at h
 ·rename_i e;simp only [aF,aD,sI] at h;obtain ⟨a,rfl⟩:=xW h.2.2;exact .inr (.inr (.inr (.inl ⟨e,h.1,a,Z,by simpa using h.2.1⟩)))
 split at h
 ·rename_i e;simp only [aF,aD,sI] at h;obtain ⟨a,rfl⟩:=xW h.2.2;exact .inr (.inr (.inr (.inr (.inl ⟨e,h.1.1,h.1.2,a,Z,by simpa using h.2.1⟩))))
 split at h
 ·rename_i e;simp only [aF,aD,sI] at h;obtain ⟨a,b,rfl⟩:=qC (l:=args) h.2.2;refine .inr (.inr (.inr (.inr (.inr ⟨?_,h.1.1,h.1.2,a,b,Z,?_⟩))))
  ·simpa using e
  ·simpa using h.2.1
 ·cases h
def bnW (a b:Int64):Prop:=(a=0/\b=-1)\/(0<=a.toInt/\a.toInt<=b.toInt/\b.toInt<=200)
inductive Fg7:Fm->Prop
 | tf {op:UInt8} (h:op=1\/op=2):Fg7 (.mk op [] [] 0 0 [] [])
 | cmp {o:UInt8} {x y:Ex} (h:o∈([16,17,18,19,20,21]:List UInt8)) (hx:dS x=true) (hy:dS y=true):Fg7 (.mk 3 [] [] 0 0 [.mk o [] 0 [x,y]] [])
 | var {nm fd:Str}:Fg7 (.mk 4 nm fd 0 0 [] [])
 | has {nm fd:Str} {x:Ex} (hx:dS x=true):Fg7 (.mk 5 nm fd 0 0 [x] [])
 | flg {nm:Str}:Fg7 (.mk 6 nm [] 0 0 [] [])
 | arr {nm fd:Str} {ex:List Ex} (hl:ex.length<=4) (hx:∀ x∈ex,x=zE\/dS x=true):Fg7 (.mk 7 nm fd 0 0 ex [])
 | un {op:UInt8} {g:Fm} (h:op=8\/op=12):Fg7 (.mk op [] [] 0 0 [] [g])
 | win {op:UInt8} {a b:Int64} {g:Fm} (h:op=13\/op=14) (hw:bnW a b):Fg7 (.mk op [] [] a b [] [g])
 | amo {op:UInt8} {nm:Str} {a b:Int64} {g:Fm} (h:op=16\/op=17) (ha:-1000000<=a.toInt) (hb:-1000000<=b.toInt):Fg7 (.mk op nm [] a b [] [g])
 | cnt {nm:Str} {a b n:Int64} {g:Fm} (ha:-1000000<=a.toInt) (hb:-1000000<=b.toInt) (hn:0<=n.toInt):Fg7 (.mk 18 nm [] a b [.mk 1 [] n []] [g])
 | bin {op:UInt8} {g h:Fm} (ho:op=9\/op=10\/op=11):Fg7 (.mk op [] [] 0 0 [] [g,h])
 | snc {a b:Int64} {g h:Fm} (hw:bnW a b):Fg7 (.mk 15 [] [] a b [] [g,h])
theorem cC5 {op:UInt8} (h:op.toNat<=18):op∈([0,1,2,3,4,5,6,7,8,9,10,11,12,13,14,15,16,17,18]:List UInt8):=by
 revert h
 exact oD (q:=λop=>op.toNat<=18->op∈([0,1,2,3,4,5,6,7,8,9,10,11,12,13,14,15,16,17,18]:List UInt8)) (by decide +kernel) op
theorem bR3 {op:UInt8} (h:16<=op.toNat/\op.toNat<=21):op∈([16,17,18,19,20,21]:List UInt8):=by
 revert h
 exact oD (q:=λop=>16<=op.toNat/\op.toNat<=21->op∈([16,17,18,19,20,21]:List UInt8)) (by decide +kernel) op
theorem YY {e:Ex} (h:BG e=true):e=zE:=by
 obtain ⟨op,nm,n,args⟩:=e;simp only [BG,aF,aD] at h;obtain ⟨⟨⟨rfl,rfl⟩,rfl⟩,h⟩:=h;rw [bQ h];rfl
theorem NS {α:Type} {l:List α} (h:l.length=1):∃ a,l=[a]:=List.length_eq_one_iff.1 h
theorem aX3 {α:Type} {l:List α} (h:l.length=2):∃ a b,l=[a,b]:=by
 match l,h with
 | [a,b],_=>exact ⟨a,b,Z⟩
variable {a:Int64}
theorem cA4 {op:UInt8} {nm fd:Str} {b:Int64} {ex:List Ex} {args:List Fm} (h:CB (.mk op nm fd a b ex args)=true):(((cS op).wn=true/\bnW a b)\/((cS op).wn=false/\(cS op).am=true/\-1000000<=a.toInt/\-1000000<=b.toInt))\/((cS op).wn=false/\(cS op).am=false/\a=0/\b=0):=by
 replace h:(if (cS op).wn=true then (decide (a=0) && decide (b.toInt=-1)) || (decide (0<=a.toInt) && decide (a.toInt<=b.toInt) && decide (b.toInt<=200))
  else if (cS op).am=true then decide (-1000000<=a.toInt) && decide (a.toInt<=b.toInt) && decide (b.toInt<=1000000) && decide (b.toInt - a.toInt<32)
  else decide (a=0) && decide (b=0))=true:=h
 cases hw:(cS op).wn with
 | true =>
  rw [aO hw] at h;simp only [aT,aF,aD] at h;refine .inl (.inl ⟨Z,?_⟩);rcases h with h | h
  ·exact .inl ⟨h.1,jY.1 h.2⟩
  ·exact .inr ⟨h.1.1,h.1.2,h.2⟩
 | false =>
  rw [aG (by rw [hw];decide)] at h;cases ha:(cS op).am with
  | true =>
   rw [aO ha] at h;simp only [aF,aD] at h;exact .inl (.inr ⟨Z,Z,by omega,by omega⟩)
  | false =>
   rw [aG (by rw [ha];decide)] at h;simp only [aF,aD] at h;exact .inr ⟨Z,Z,h.1,h.2⟩
theorem bV5 {e:Ex} (h:HV e=true):∃ o x y,e=.mk o [] 0 [x,y]/\o∈([16,17,18,19,20,21]:List UInt8)/\dS x=true/\dS y=true:=by
 obtain ⟨o,nm,n,args⟩:=e;simp only [HV,aF,aD,sI] at h;obtain ⟨⟨⟨⟨h1,h2⟩,rfl⟩,rfl⟩,h3,h4⟩:=h;obtain ⟨x,y,rfl⟩:=aX3 h4;have h3':dS x=true/\dS y=true:=by simpa using h3
 exact ⟨o,x,y,Z,bR3 ⟨h1,h2⟩,h3'.1,h3'.2⟩
theorem SP {op:UInt8} {nm fd:Str} {b:Int64} {ex:List Ex} {args:List Fm} (h:jQ (.mk op nm fd a b ex args)=true):Fg7 (.mk op nm fd a b ex args):=by
 have hop:=cC5 (SN h);have hB:=cA4 (lL h).2.2.2;have hE:=(lL h).2.2.1;have hA:=(lL h).2.1;have hL:=(lL h).1
 have hN:((cS op).nm=false->nm=[])/\((cS op).fd=false->fd=[]):=by
  unfold jQ at h;rw [aF,aF,aF,aF,aF,aT,aT] at h;exact ⟨λe=>aJ (h.1.1.1.1.2.resolve_left (by show ¬ (cS op).nm=true;rw [e];decide)),λe=>aJ (h.1.1.1.2.resolve_left (by show ¬ (cS op).fd=true;rw [e];decide))⟩
 clear h
 replace hE:(if op=7 then decide (ex.length<=4) && ex.all λe=>BG e || dS e
  else decide (ex.length=(cS op).ex) && (if op=3 then HV (ex.headD (.mk 0 [] 0 [])) else if op=5 then dS (ex.headD (.mk 0 [] 0 []))
  else if op=18 then decide ((ex.headD (.mk 0 [] 0 [])).op=1) && dS (ex.headD (.mk 0 [] 0 [])) && decide ((ex.headD (.mk 0 [] 0 [])).n.toInt<=32) else true))=true:=hE
 have ab:(cS op).wn=false->(cS op).am=false->a=0/\b=0:=λh1 h2=>by
  rcases hB with (⟨e,_⟩ | ⟨_,e,_⟩) | ⟨_,_,e⟩
  ·rw [h1] at e;cases e
  ·rw [h2] at e;cases e
  ·exact e
 have aw:(cS op).wn=true->bnW a b:=λh1=>by
  rcases hB with (⟨_,e⟩ | ⟨e,_⟩) | ⟨e,_⟩
  ·exact e
  ·rw [h1] at e;cases e
  ·rw [h1] at e;cases e
 have am:(cS op).wn=false->(cS op).am=true->-1000000<=a.toInt/\-1000000<=b.toInt:=λh1 h2=>by
  rcases hB with (⟨e,_⟩ | ⟨_,_,e⟩) | ⟨_,e,_⟩
  ·rw [h1] at e;cases e
  ·exact e
  ·rw [h2] at e;cases e
 clear hB;simp only [bV,List.not_mem_nil,or_false] at hop
 have e0 {op:UInt8} (h7:¬ op=7) (h3:¬ op=3) (h5:¬ op=5) (h18:¬ op=18) (k:(cS op).ex=0) (hE:(if op=7 then decide (ex.length<=4) && ex.all λe=>BG e || dS e
  else decide (ex.length=(cS op).ex) && (if op=3 then HV (ex.headD (.mk 0 [] 0 [])) else if op=5 then dS (ex.headD (.mk 0 [] 0 []))
  else if op=18 then decide ((ex.headD (.mk 0 [] 0 [])).op=1) && dS (ex.headD (.mk 0 [] 0 [])) && decide ((ex.headD (.mk 0 [] 0 [])).n.toInt<=32) else true))=true):ex=[]:=by
  rw [aG h7,aG h3,aG h5,aG h18,aC,aD,k] at hE;exact bQ hE
 rcases hop with rfl | rfl | rfl | rfl | rfl | rfl | rfl | rfl | rfl | rfl | rfl | rfl | rfl | rfl | rfl | rfl | rfl | rfl | rfl
 ·exact absurd rfl hL
 ·obtain ⟨rfl,rfl⟩:=ab rfl rfl;obtain rfl:=hN.1 rfl;obtain rfl:=hN.2 rfl;obtain rfl:=e0 (by decide) (by decide) (by decide) (by decide) rfl hE;obtain rfl:=bQ hA;exact .tf (.inl Z)
 ·obtain ⟨rfl,rfl⟩:=ab rfl rfl;obtain rfl:=hN.1 rfl;obtain rfl:=hN.2 rfl;obtain rfl:=e0 (by decide) (by decide) (by decide) (by decide) rfl hE;obtain rfl:=bQ hA;exact .tf (.inr Z)
 ·obtain ⟨rfl,rfl⟩:=ab rfl rfl;obtain rfl:=hN.1 rfl;obtain rfl:=hN.2 rfl;obtain rfl:=bQ hA;rw [aG (by decide),aO rfl,aF,aD] at hE;obtain ⟨e,rfl⟩:=NS hE.1;obtain ⟨o,x,y,rfl,h1,h2,h3⟩:=bV5 hE.2;exact .cmp h1 h2 h3
 ·obtain ⟨rfl,rfl⟩:=ab rfl rfl;obtain rfl:=e0 (by decide) (by decide) (by decide) (by decide) rfl hE;obtain rfl:=bQ hA;exact .var
 ·obtain ⟨rfl,rfl⟩:=ab rfl rfl;obtain rfl:=bQ hA;rw [aG (by decide),aG (by decide),aO rfl,aF,aD] at hE;obtain ⟨e,rfl⟩:=NS hE.1;exact .has hE.2
 ·obtain ⟨rfl,rfl⟩:=ab rfl rfl;obtain rfl:=hN.2 rfl;obtain rfl:=e0 (by decide) (by decide) (by decide) (by decide) rfl hE;obtain rfl:=bQ hA;exact .flg
 ·obtain ⟨rfl,rfl⟩:=ab rfl rfl;obtain rfl:=bQ hA;rw [aO rfl,aF,aD] at hE;refine .arr hE.1 λx hx=>?_;have:=bC.1 hE.2 x hx;rw [aT] at this;exact this.imp YY id
 ·obtain ⟨rfl,rfl⟩:=ab rfl rfl;obtain rfl:=hN.1 rfl;obtain rfl:=hN.2 rfl;obtain rfl:=e0 (by decide) (by decide) (by decide) (by decide) rfl hE;obtain ⟨g,rfl⟩:=NS hA;exact .un (.inl Z)
 ·obtain ⟨rfl,rfl⟩:=ab rfl rfl;obtain rfl:=hN.1 rfl;obtain rfl:=hN.2 rfl;obtain rfl:=e0 (by decide) (by decide) (by decide) (by decide) rfl hE;obtain ⟨g,h,rfl⟩:=aX3 hA;exact .bin (.inl Z)
 ·obtain ⟨rfl,rfl⟩:=ab rfl rfl;obtain rfl:=hN.1 rfl;obtain rfl:=hN.2 rfl;obtain rfl:=e0 (by decide) (by decide) (by decide) (by decide) rfl hE;obtain ⟨g,h,rfl⟩:=aX3 hA;exact .bin (.inr (.inl Z))
 ·obtain ⟨rfl,rfl⟩:=ab rfl rfl;obtain rfl:=hN.1 rfl;obtain rfl:=hN.2 rfl;obtain rfl:=e0 (by decide) (by decide) (by decide) (by decide) rfl hE;obtain ⟨g,h,rfl⟩:=aX3 hA;exact .bin (.inr (.inr Z))
 ·obtain ⟨rfl,rfl⟩:=ab rfl rfl;obtain rfl:=hN.1 rfl;obtain rfl:=hN.2 rfl;obtain rfl:=e0 (by decide) (by decide) (by decide) (by decide) rfl hE;obtain ⟨g,rfl⟩:=NS hA;exact .un (.inr Z)
 ·obtain rfl:=hN.1 rfl;obtain rfl:=hN.2 rfl;obtain rfl:=e0 (by decide) (by decide) (by decide) (by decide) rfl hE;obtain ⟨g,rfl⟩:=NS hA;exact .win (.inl Z) (aw Z)
 ·obtain rfl:=hN.1 rfl;obtain rfl:=hN.2 rfl;obtain rfl:=e0 (by decide) (by decide) (by decide) (by decide) rfl hE;obtain ⟨g,rfl⟩:=NS hA;exact .win (.inr Z) (aw Z)
 ·obtain rfl:=hN.1 rfl;obtain rfl:=hN.2 rfl;obtain rfl:=e0 (by decide) (by decide) (by decide) (by decide) rfl hE;obtain ⟨g,h,rfl⟩:=aX3 hA;exact .snc (aw Z)
 ·obtain rfl:=hN.2 rfl;obtain rfl:=e0 (by decide) (by decide) (by decide) (by decide) rfl hE;obtain ⟨g,rfl⟩:=NS hA;exact .amo (.inl Z) (am Z Z).1 (am Z Z).2
 ·obtain rfl:=hN.2 rfl;obtain rfl:=e0 (by decide) (by decide) (by decide) (by decide) rfl hE;obtain ⟨g,rfl⟩:=NS hA;exact .amo (.inr Z) (am Z Z).1 (am Z Z).2
 ·obtain rfl:=hN.2 rfl;obtain ⟨g,rfl⟩:=NS hA;rw [aG (by decide),aG (by decide),aG (by decide),aO rfl,aF,aD] at hE;obtain ⟨e,rfl⟩:=NS hE.1;have hE2:=hE.2;simp only [aN,aF,aD] at hE2;obtain ⟨o,m,n,al⟩:=e;obtain ⟨⟨ho,ht⟩,_⟩:=hE2;obtain rfl:o=1:=by first | exact ho | exact aJ ho
  rcases XF ht with ⟨_,rfl,h3,rfl⟩ | ⟨k,_⟩ | ⟨k,_⟩ | ⟨k,_⟩ | ⟨k,_⟩ | ⟨k,_⟩
  ·exact .cnt (am Z Z).1 (am Z Z).2 h3
  ·cases k
  ·rcases k with k | k <;> cases k
  ·cases k
  ·cases k
  ·exact absurd k (by decide)
theorem aC9 {op:UInt8} {nm fd:Str} {b:Int64} {ex:List Ex} {args:List Fm} (h:rU (.mk op nm fd a b ex args)=true):((cS op).nm=true->eN nm=true)/\((cS op).fd=true->eN fd=true)/\∀ e∈ex,pI e=false:=by
 replace h:(!((cS op).nm && !eN nm || (cS op).fd && !eN fd) && !JB ex)=true:=h;simp only [aF,eT,lK,nT,Bool.not_eq_false'] at h;obtain ⟨⟨h1,h2⟩,h3⟩:=h;refine ⟨λe=>h1.resolve_left (by rw [e];decide),λe=>h2.resolve_left (by rw [e];decide),λe he=>?_⟩;rw [HG] at h3;cases hm:pI e with
 | false=>rfl
 | true=>rw [fM.2 ⟨e,he,hm⟩] at h3;cases h3
section
variable {l:Tks} {r r' r1 r2 ra:Rq} {w w':Str} {k:UInt8} {N x n:Fn} {m:Bool} {i j b:Nat}
theorem cC8 {t:Tk} (h:kt t=(k,w)):t.t=w:=congrArg Prod.snd h
theorem cD9 (h:r.er=0/\kt (tkf l r.i)=(k,w)) (hn:¬ w=w'):r.ac l w'=false:=by
 unfold Rq.ac Rq.is;rw [cC8 h.2,aM hn,Bool.and_false,Bool.and_false]
def bZ3:List Str:=[[91],[41],[95]]
def bN3:List Str:=[[110,111,116],[112,114,101,118,105,111,117,115],[111,110,99,101],[97,108,119,97,121,115],[102,111,114,97,108,108],[101,120,105,115,116,115],[99,111,117,110,116]]
theorem mP {L:List Str} (h:r.ac l w=true) (hn:∀ x∈L,w≠x):∀ x∈L,r.ac l x=false:=λx hx=>xC h (hn x hx)
theorem aY5 {nt:Nt} (g:Gd l nt r n m r'):∀ k,nt=.lev k->r'.er=0->(∀ x∈bZ3,r.ac l x=false)/\(6<=k->∀ x∈bN3,r.ac l x=false)/\(k=10->r.ac l [45]=false):=by
 have b0:∀ {nt:Nt} {r r':Rq} {n:Fn} {m:Bool},Gd l nt r n m r'->r'.er=0->r.er=0:=λg e=>Classical.byContradiction λh=>h (by rw [<-bY8 g h];exact e);induction g with
 | seq hk h1 h2 i1 i2 =>
  rintro k' e e2;cases e;obtain ⟨a,b,_⟩:=i1 _ rfl (b0 h2 e2);exact ⟨a,λh=>b (by omega),λh=>by omega⟩
 | outJ=>rintro _ e _;cases e
 | outA=>rintro _ e _;cases e
 | join=>rintro _ e _;cases e
 | ari=>rintro _ e _;cases e
 | @pre w op r r1 x m hp h h1 =>
  rintro k' e e2;cases e;refine ⟨mP h ?_,λh=>by omega,λh=>by omega⟩;have:∀ p∈RM,∀ x∈bZ3,p.1≠x:=by decide
  exact this _ hp
 | cnt h =>
  rintro k' e e2;cases e;exact ⟨mP h (by decide),λh=>by omega,λh=>by omega⟩
 | cmp0 hp hc h1 i1 =>
  rintro k' e e2;cases e;exact ⟨(i1 _ rfl e2).1,λh=>by omega,λh=>by omega⟩
 | cm0 h1 h i1 =>
  rintro k' e e2;cases e;exact ⟨(i1 _ rfl e2).1,λ_=>(i1 _ rfl e2).2.1 (by decide),λh=>by omega⟩
 | cm1 hi h1 h h2 i1 i2 =>
  rintro k' e e2;cases e;have e1:=vU h;exact ⟨(i1 _ rfl e1).1,λ_=>(i1 _ rfl e1).2.1 (by decide),λh=>by omega⟩
 | neg h =>
  rintro k' e e2;cases e;exact ⟨mP h (by decide),λ_=>mP h (by decide),λh=>by omega⟩
 | pri h h1 i1 =>
  rintro k' e e2;cases e;exact ⟨(i1 _ rfl e2).1,λ_=>(i1 _ rfl e2).2.1 (by decide),λh=>by omega⟩
 | bad h=>rintro k' e e2;exact absurd e2 h
 | num h hk =>
  rintro k' e e2;have:=λw=>aJ5 (l:=l) (w:=w) (by rw [hk];decide);exact ⟨λx _=>this x,λ_ x _=>this x,λ_=>this _⟩
 | now h=>rintro k' e e2;exact ⟨mP h (by decide),λ_=>mP h (by decide),λ_=>xC h (by decide)⟩
 | tru h=>rintro k' e e2;exact ⟨mP h (by decide),λ_=>mP h (by decide),λ_=>xC h (by decide)⟩
 | fal h=>rintro k' e e2;exact ⟨mP h (by decide),λ_=>mP h (by decide),λ_=>xC h (by decide)⟩
 | flg h=>rintro k' e e2;exact ⟨mP h (by decide),λ_=>mP h (by decide),λ_=>xC h (by decide)⟩
 | has h=>rintro k' e e2;exact ⟨mP h (by decide),λ_=>mP h (by decide),λ_=>xC h (by decide)⟩
 | arr0 h=>rintro k' e e2;exact ⟨mP h (by decide),λ_=>mP h (by decide),λ_=>xC h (by decide)⟩
 | arr h=>rintro k' e e2;exact ⟨mP h (by decide),λ_=>mP h (by decide),λ_=>xC h (by decide)⟩
 | siz h=>rintro k' e e2;exact ⟨mP h (by decide),λ_=>mP h (by decide),λ_=>xC h (by decide)⟩
 | par h=>rintro k' e e2;exact ⟨mP h (by decide),λ_=>mP h (by decide),λ_=>xC h (by decide)⟩
 | nam0 h hk =>
  rintro k' e e2;have:=λw=>aJ5 (l:=l) (w:=w) (by rw [hk];decide);exact ⟨λx _=>this x,λ_ x _=>this x,λ_=>this _⟩
 | nam1 h hk =>
  rintro k' e e2;have:=λw=>aJ5 (l:=l) (w:=w) (by rw [hk];decide);exact ⟨λx _=>this x,λ_ x _=>this x,λ_=>this _⟩
 | get h hk =>
  rintro k' e e2;have:=λw=>aJ5 (l:=l) (w:=w) (by rw [hk];decide);exact ⟨λx _=>this x,λ_ x _=>this x,λ_=>this _⟩
 | non=>rintro k' e e2;exact absurd e2 (SQ (by decide))
 | arU=>rintro _ e _;cases e
 | arT=>rintro _ e _;cases e
 | afC=>rintro _ e _;cases e
 | afE=>rintro _ e _;cases e
def cuL:List (Nat × Str):=[(20,[46]),(20,[91]),(1,[105,109,112,108,105,101,115]),(2,[111,114]),(3,[97,110,100]),(4,[115,105,110,99,101]),(6,[61,61]),(6,[33,61]),(6,[60]),(6,[60,61]),(6,[62]),(6,[62,61]),(7,[43]),(7,[45]),(8,[42]),(8,[47]),(8,[37])]
def Nx (l:Tks) (k:Nat) (r:Rq):Prop:=∀ x∈cuL,k<=x.1->r.ac l x.2=false
theorem Nx.up (h:Nx l i r) (hj:i<=j):Nx l j r:=λx hx hk=>h x hx (bH hj hk)
theorem Nx.tok (h:r.er=0/\kt (tkf l r.i)=(k,w)) (hn:∀ x∈cuL,j<=x.1->¬ w=x.2):Nx l j r:=λx hx hk=>cD9 h (hn x hx hk)
def lpB (j:Nat):Prop:=(1<=j/\j<=4)\/j=7\/j=8
theorem bS8 (h:1<=j/\j<=4):(j,joW j)∈cuL:=by
 have:j=1\/j=2\/j=3\/j=4:=by omega
 rcases this with rfl | rfl | rfl | rfl <;> decide
theorem bM4 (h:bV9 j i):(j,xB.getD i [])∈cuL:=by
 rcases h with ⟨rfl,rfl | rfl⟩ | ⟨rfl,rfl | rfl | rfl⟩ <;> decide
theorem bL8 (h:16<=i) (h2:i<=21):(6,xB.getD i [])∈cuL:=by
 have:i=16\/i=17\/i=18\/i=19\/i=20\/i=21:=by omega
 rcases this with rfl | rfl | rfl | rfl | rfl | rfl <;> decide
def Rl (l:Tks) (j:Nat) (r:Rq) (N:Fn) (r':Rq):Prop:=(lpB j->∀ n m r2,Gd l (.lp j N) r' n m r2->Gd l (.lev j) r n m r2)/\(¬ lpB j->Gd l (.lev j) r N false r')
theorem Rl.full (h:Rl l j r N r') (hx:Nx l j r'):Gd l (.lev j) r N false r':=by
 by_cases hj:lpB j
 ·refine h.1 hj _ _ _ ?_;rcases hj with hj | hj
  ·exact .outJ hj (hx _ (bS8 hj) (bK _))
  ·exact .outA hj λi hi=>hx _ (bM4 hi) (bK _)
 ·exact h.2 hj
theorem Rl.dn (h:Gd l (.lev (j+1)) r N false r') (e:r'.er=0) (hj:1<=j/\j<=9) (hx:j=6->Nx l 6 r'):Rl l j r N r':=by
 refine ⟨λhl n m r2 g=>?_,λhl=>?_⟩
 ·exact Gd.seq hl h g
 ·obtain ⟨f1,f2,f3⟩:=aY5 h _ rfl e;have:j=5\/j=6\/j=9:=by unfold lpB at hl;omega
  rcases this with rfl | rfl | rfl
  ·have f2:=f2 (by decide);refine .cmp0 (λw op hw=>f2 w ?_) (f2 _ (by decide)) h;have:∀ p∈RM,p.1∈bN3:=by decide
   exact this _ hw
  ·exact .cm0 h λi h1 h2=>hx Z _ (bL8 h1 h2) (bK _)
  ·exact .pri (f3 Z) h
theorem Rl.go:∀ {d j:Nat},Rl l (j+d) r N r'->r'.er=0->1<=j->j+d<=10->Nx l (j+1) r'->(j<=6->Nx l 6 r')->Rl l j r N r'
 | 0,_,h,_,_,_,_,_=>h
 | d+1,j,h,e,h1,hb,hx,h6=>by
  have k:=Rl.go (j:=j+1) (d:=d) (by rw [show j+1+d=j+(d+1) by omega];exact h) e (by omega) (by omega) (hx.up (by omega)) (λhj=>h6 (by omega));exact .dn (k.full hx) e ⟨h1,by omega⟩ (λe=>h6 (by omega))
theorem Rl.to (h:Rl l b r N r') (e:r'.er=0) (h1:1<=j) (hj:j<=b) (hb:b<=10) (hx:Nx l (j+1) r') (h6:j<=6->Nx l 6 r'):Rl l j r N r':=by
 obtain ⟨d,rfl⟩:∃ d,b=j+d:=⟨b - j,by omega⟩;exact h.go e h1 hb hx h6
theorem Rl.at (h:Rl l b r N r') (e:r'.er=0) (h1:1<=j) (hj:j<=b) (hb:b<=10) (hx:Nx l j r'):Gd l (.lev j) r N false r':=(h.to e h1 hj hb (hx.up (by omega)) (λk=>hx.up k)).full hx
end
section
variable {l:Tks} {r r' ra m:Rq} {w w':Str} {i j:Nat}
theorem aS4 (op:UInt8):4<=tlv op:=by
 unfold tlv
 split
 ·omega
 split
 ·omega
 split <;> omega
end
variable {ks:List Kt}
variable {s:Str}
theorem LxN.app {q:List Kt} (h:LxN s q) (hr:vR r) (hk:Lx r ks):Lx (s++r) (q++ks):=(h r ks hr hk).1
section
variable {l:Tks} {r r' ra m:Rq} {w w':Str} {i j:Nat}
theorem bS5 (op:UInt8):(cS op).lv<=6:=oD (q:=λop=>(cS op).lv<=6) (by decide +kernel) op
end
variable {f:Fm}
theorem aK7 (h:fO f=0):f.count<=60/\Fm.all oS f=true/\Fm.all rU f=true/\Fm.all jQ f=true:=by
 unfold fO at h
 split at h
 ·cases h
 rename_i h1
 split at h
 ·cases h
 rename_i h2
 split at h
 ·cases h
 rename_i h3;rw [rK] at h1;exact ⟨by omega,by simpa using h1.2,by simpa using h2,by simpa using h3⟩
def nsE (e:Ex):Bool:=Ex.all (λe=>decide (e.nm.length<=30)) e
theorem CI (e:Ex) (hn:nsE e=true):(tmT e).length<=130 * e.count:=by
 induction e using Ex.ind with | _ op nm n args ih
 unfold nsE at hn;rw [lS,lC,aF,aD,bC] at hn;obtain ⟨hn,ha⟩:=hn;have hn':nm.length<=30:=hn
 have hx:∀ (l:List (UInt8 × Str)),l=args.map (λe=>(e.op,tmT e))->(l.headD (0,[])).2.length+((l.drop 1).headD (0,[])).2.length<=130 * Ex.counts args:=by
  rintro l rfl
  match args,ih,ha with
  | [],_,_=>exact aR _
  | [a],ih,ha =>
   have:=ih a (bD ..) (ha a (bD ..));rw [Ex.counts,Ex.counts];show (tmT a).length+0<=_;omega
  | a::b::r,ih,ha =>
   have h1:=ih a (bD ..) (ha a (bD ..));have h2:=ih b (bZ _ (bD ..)) (ha b (bZ _ (bD ..)));rw [Ex.counts,Ex.counts];show (tmT a).length+(tmT b).length<=_;omega
 have hx:=hx _ rfl;rw [kC,vZ];unfold aG8;generalize args.map (λe=>(e.op,tmT e))=l at hx|-;have hi:=kR n;have p1:=(lP (decide (tlv (l.headD (0,[])).1<6)) (l.headD (0,[])).2).2;have p2:=(lP (decide (tlv (l.headD (0,[])).1<tlv op)) (l.headD (0,[])).2).2;have p3:=(lP (decide (tlv ((l.drop 1).headD (0,[])).1<tlv op+1)) ((l.drop 1).headD (0,[])).2).2;have p4:=wS op;generalize Ex.counts args=C at hx|-
 repeat' split
 all_goals (try simp only [aH,aI,aL]);omega
def nsF (f:Fm):Bool:=Fm.all (λf=>decide (f.nm.length<=30) && decide (f.fd.length<=30) && f.ex.all nsE) f
theorem TZ:∀ l:List Ex,(∀ e∈l,nsE e=true)->((l.map tmT).map List.length).sum<=130 * Ex.counts l
 | [],_=>aR _
 | e::r,h=>by
  rw [dE,dE,List.sum_cons,Ex.counts];have h1:=CI e (h e (bD ..));have h2:=TZ r λx hx=>h x (bZ _ hx);omega
theorem aS3 (e:Ex) (h:nsE e=true):(tmT (ex0 e)).length+(tmT (ex1 e)).length<=130 * e.count:=by
 obtain ⟨op,nm,n,args⟩:=e;unfold nsE at h;rw [lS,lC,aF,bC] at h;rw [kC];have hz:tmT zE=[95]:=vZ
 match args,h.2 with
 | [],_=>show (tmT zE).length+(tmT zE).length<=_;rw [hz,Ex.counts];decide
 | [x],h =>
  have:=CI x (h x (bD ..));show (tmT x).length+(tmT zE).length<=_;rw [hz,Ex.counts,Ex.counts];show _+1<=_;omega
 | x::y::r,h =>
  have h1:=CI x (h x (bD ..));have h2:=CI y (h y (bZ _ (bD ..)));show (tmT x).length+(tmT y).length<=_;rw [Ex.counts,Ex.counts];omega
theorem aZ5 (F:Fm) (l:List (UInt8 × Str)) (C D:Nat) (h1:F.nm.length<=30) (h2:F.fd.length<=30) (he:(tmT (exH F)).length+(tmT (ex0 (exH F))).length+(tmT (ex1 (exH F))).length<=260 * D+3)
 (hj:(tF ([44,32]:Str) (F.ex.map tmT)).length<=132 * D) (hx:(l.headD (0,[])).2.length+((l.drop 1).headD (0,[])).2.length<=400 * C) (w1:(BH F).length<=46) (w2:(MP F).length<=F.nm.length+49):(MG F l).length<=400 * (D+C+1):=by
 have w3:=GY F.op;have w4:=wS (exH F).op;have p1:=(lP (decide ((cS (l.headD (0,[])).1).lv<5)) (l.headD (0,[])).2).2;have p2:=(lP (decide ((cS (l.headD (0,[])).1).lv<(cS F.op).lv)) (l.headD (0,[])).2).2;have p3:=(lP (decide ((cS ((l.drop 1).headD (0,[])).1).lv<(cS F.op).lv+1)) ((l.drop 1).headD (0,[])).2).2;unfold MG
 repeat' split
 all_goals (try simp only [aH,aI,aL]);omega
theorem bJ8 (f:Fm) (hn:nsF f=true):(fmT f).length<=400 * f.count:=by
 induction f using Fm.ind with | _ op nm fd a b ex args ih
 unfold nsF at hn;rw [fJ,aF,aF,aF,aD,aD,bC,bC] at hn;obtain ⟨⟨⟨hn,hf⟩,he⟩,ha⟩:=hn;have hn':nm.length<=30:=hn;have hf':fd.length<=30:=hf;have he':∀ e∈ex,nsE e=true:=he
 have hx:∀ (l:List (UInt8 × Str)),l=args.map (λf=>(f.op,fmT f))->(l.headD (0,[])).2.length+((l.drop 1).headD (0,[])).2.length<=400 * Fm.counts args:=by
  rintro l rfl
  match args,ih,ha with
  | [],_,_=>exact aR _
  | [a],ih,ha =>
   have:=ih a (bD ..) (ha a (bD ..));rw [Fm.counts,Fm.counts];show (fmT a).length+0<=_;omega
  | a::b::r,ih,ha =>
   have h1:=ih a (bD ..) (ha a (bD ..));have h2:=ih b (bZ _ (bD ..)) (ha b (bZ _ (bD ..)));rw [Fm.counts,Fm.counts];show (fmT a).length+(fmT b).length<=_;omega
 have hx:=hx _ rfl
 have he0:(tmT (exH (.mk op nm fd a b ex args))).length+(tmT (ex0 (exH (.mk op nm fd a b ex args)))).length+(tmT (ex1 (exH (.mk op nm fd a b ex args)))).length<=260 * Ex.counts ex+3:=by
  have hz:tmT zE=[95]:=vZ
  match ex,he' with
  | [],_ =>
   show (tmT zE).length+(tmT zE).length+(tmT zE).length<=_;rw [hz];show 3<=_;omega
  | e::r,h =>
   have h1:=CI e (h e (bD ..));have h2:=aS3 e (h e (bD ..));show (tmT e).length+(tmT (ex0 e)).length+(tmT (ex1 e)).length<=_;rw [Ex.counts];omega
 have hj:=KB ([44,32]:Str) (ex.map tmT);have hs:=TZ ex he';have hl2:=YO ex;rw [bJ] at hj;rw [pJ,tU];have e2:([44,32]:Str).length=2:=rfl;rw [e2] at hj;exact aZ5 _ _ _ _ hn' hf' he0 (bH hj (by omega)) hx QY KM
theorem LP (e:Ex):pI e=false->dS e=true->nsE e=true:=by
 induction e using Ex.ind with | _ op nm n args ih
 intro h ht;obtain ⟨m1,_,m3⟩:=YD h;unfold nsE;rw [lS,lC,aF,aD,bC]
 have nm30:(op=5\/op=6\/op=8)->nm.length<=30:=λho=>by
  have k:=m1 ho;unfold nmQ at k;cases hs:fD nm with
  | none=>rw [hs] at k;have:=(mV k).2.2.2.2;omega
  | some x =>
   obtain ⟨a,b⟩:=x;rw [hs] at k;simp only [aF] at k;have k1:=(mV k.1).2.2.2.2;have k2:=(mV k.2).2.2.2.2;rw [IS hs,aH,aH];show a.length+1+b.length<=30;omega
 show nm.length<=30/\_;rcases XF ht with ⟨rfl,rfl,_,rfl⟩ | ⟨rfl,rfl,_,rfl⟩ | ⟨ho,_,rfl⟩ | ⟨rfl,_,a,rfl,ha⟩ | ⟨rfl,rfl,_,a,rfl,ha⟩ | ⟨_,rfl,_,a,b,rfl,ha,hb⟩
 ·exact ⟨by decide,λx hx=>(by cases hx)⟩
 ·exact ⟨by decide,λx hx=>(by cases hx)⟩
 ·exact ⟨nm30 (by rcases ho with h | h <;> simp [h]),λx hx=>(by cases hx)⟩
 ·exact ⟨nm30 (by simp),λx hx=>by rw [cI.1 hx];exact ih a (by simp) (m3 a (by simp)) ha⟩
 ·exact ⟨by decide,λx hx=>by rw [cI.1 hx];exact ih a (by simp) (m3 a (by simp)) ha⟩
 ·refine ⟨by decide,λx hx=>?_⟩;simp only [bV,List.not_mem_nil,or_false] at hx;rcases hx with rfl | rfl
  ·exact ih _ (by simp) (m3 _ (by simp)) ha
  ·exact ih _ (by simp) (m3 _ (by simp)) hb
theorem bJ2 (f:Fm):Fm.all jQ f=true->Fm.all rU f=true->nsF f=true:=by
 induction f using Fm.ind with | _ op nm fd a b ex args ih
 intro hf hn;obtain ⟨hf,hfs⟩:=GI hf;rw [fJ,aF,bC] at hn;obtain ⟨hn,hns⟩:=hn;obtain ⟨n1,n2,n3⟩:=aC9 hn;unfold nsF;rw [fJ,aF,bC];refine ⟨?_,λg hg=>ih g hg (hfs g hg) (hns g hg)⟩;have hg:=SP hf;rw [aF,aF,aD,aD,bC];show (nm.length<=30/\fd.length<=30)/\∀ x∈ex,nsE x=true;have l1:eN nm=true->nm.length<=30:=λk=>by have:=(mV k).2.2.2.2;omega
 have l2:eN fd=true->fd.length<=30:=λk=>by have:=(mV k).2.2.2.2;omega
 have z:∀ x∈([]:List Ex),nsE x=true:=λx hx=>(by cases hx);have nz:([]:Str).length<=30:=by decide
 have z0:nsE zE=true:=by decide
 cases hg with
 | tf=>exact ⟨⟨nz,nz⟩,z⟩
 | @cmp o x y h hx hy =>
  refine ⟨⟨nz,nz⟩,λe he=>?_⟩;rw [cI.1 he];have m3:=(YD (n3 _ (cI.2 rfl))).2.2;unfold nsE;rw [lS,lC,aF,aD,bC];refine ⟨nz,λe he=>?_⟩;simp only [bV,List.not_mem_nil,or_false] at he;rcases he with rfl | rfl
  ·exact LP _ (m3 _ (by simp)) hx
  ·exact LP _ (m3 _ (by simp)) hy
 | var=>exact ⟨⟨l1 (n1 rfl),l2 (n2 rfl)⟩,z⟩
 | has hx=>exact ⟨⟨l1 (n1 rfl),l2 (n2 rfl)⟩,λe he=>by rw [cI.1 he];exact LP _ (n3 _ (by simp)) hx⟩
 | flg=>exact ⟨⟨l1 (n1 rfl),nz⟩,z⟩
 | arr hl hx =>
  refine ⟨⟨l1 (n1 rfl),l2 (n2 rfl)⟩,λe he=>?_⟩;rcases hx e he with rfl | h
  ·exact z0
  ·exact LP _ (n3 e he) h
 | un=>exact ⟨⟨nz,nz⟩,z⟩
 | win=>exact ⟨⟨nz,nz⟩,z⟩
 | amo h=>exact ⟨⟨l1 (n1 (by rcases h with rfl | rfl <;> rfl)),nz⟩,z⟩
 | cnt=>exact ⟨⟨l1 (n1 rfl),nz⟩,λe he=>by rw [cI.1 he];rfl⟩
 | bin=>exact ⟨⟨nz,nz⟩,z⟩
 | snc=>exact ⟨⟨nz,nz⟩,z⟩
theorem aS6 (h:fO f=0):IR f=fmT f:=aO h
theorem aS7 (h:¬ fO f=0):IR f=[]:=aG h
theorem FY (k lv:Nat) (s:Str):opT k (lv,s)=yF (decide (lv<k)) s:=by
 unfold opT yF
 by_cases h:lv<k
 ·rw [aO h,aK h];rfl
 ·rw [aG h,aM h];rfl
theorem bV7:∀ op∈([11,12,13,14,15]:List UInt8),GA op=true/\(cK op).n=2/\(cK op).nm=false/\(cK op).lv=tlv op/\xN (cK op).lv=tlv op/\(cK op).tx=[32]++(JI op++[32])/\¬ op=1/\¬ (op=5\/op=8)/\¬ (op=6\/op=7)/\¬ (op=9\/op=10):=by decide +kernel
theorem bV4:∀ op∈([16,17,18,19,20,21]:List UInt8),GA op=true/\(cK op).n=2/\(cK op).nm=false/\(cK op).lv=3/\xN (cK op).lv=4/\(cK op).tx=[32]++(JI op++[32])/\¬ op=1/\¬ (op=5\/op=8)/\¬ (op=6\/op=7)/\¬ (op=9\/op=10):=by decide +kernel
theorem aR4 {op:UInt8} {a b:Ex} {nm:Str} {n:Int64} (h2:(cK op).n=2) (h1:¬ op=1) (h5:¬ (op=5\/op=8)) (h6:¬ (op=6\/op=7)) (h9:¬ (op=9\/op=10)) :
 Ex.text (.mk op nm n [a,b])=opT (xN (cK op).lv) ((cK a.op).lv,a.text)++(cK op).tx++opT ((cK op).lv+1) ((cK b.op).lv,b.text):=by
 rw [jF,txt,aG h1,aG h5,aG h6,aG h9,aG (by omega)];rfl
theorem FG (e:Ex):dS e=true->e.text=tmT e/\Ex.all oZ e=true/\(cK e.op).lv=tlv e.op:=by
 induction e using Ex.ind with | _ op nm n args ih
 intro h;rw [lS,aF,lC,bC];rcases XF h with ⟨rfl,rfl,hn,rfl⟩ | ⟨rfl,rfl,rfl,rfl⟩ | ⟨ho,rfl,rfl⟩ | ⟨rfl,rfl,a,rfl,ha⟩ | ⟨rfl,rfl,rfl,a,rfl,ha⟩ | ⟨ho,rfl,rfl,a,b,rfl,ha,hb⟩
 ·exact ⟨Z,⟨by simp only [oZ,aY];rw [aK hn];rfl,λx hx=>(by cases hx)⟩,Z⟩
 ·exact ⟨Z,⟨Z,λx hx=>(by cases hx)⟩,Z⟩
 ·rcases ho with rfl | rfl
  ·exact ⟨by rw [tm5 rfl,jF];rfl,⟨Z,λx hx=>(by cases hx)⟩,Z⟩
  ·exact ⟨by rw [tm8 rfl,jF];rfl,⟨Z,λx hx=>(by cases hx)⟩,Z⟩
 ·obtain ⟨e1,e2,_⟩:=ih a (by simp) ha;refine ⟨?_,⟨Z,λx hx=>by rw [cI.1 hx];exact e2⟩,Z⟩;rw [tm6 rfl (by simp),jF];show ([]:Str)++nm++[91]++a.text++[93]=nm++[91]++tmT a++[93];rw [e1,cU]
 ·obtain ⟨e1,e2,e3⟩:=ih a (by simp) ha;refine ⟨?_,⟨Z,λx hx=>by rw [cI.1 hx];exact e2⟩,Z⟩;rw [tm9 rfl (by simp),jF];show [45]++opT 6 ((cK a.op).lv,a.text)=[45]++yF (decide (tlv a.op<6)) (tmT a);rw [FY,e1,e3]
 ·obtain ⟨e1,e2,e3⟩:=ih a (by simp) ha;obtain ⟨f1,f2,f3⟩:=ih b (by simp) hb;obtain ⟨b1,b2,b3,b4,b5,b6,b7,b8,b9,b10⟩:=bV7 op ho;have ho2:op=11\/op=12\/op=13\/op=14\/op=15:=by simpa using ho
  refine ⟨?_,⟨?_,λx hx=>?_⟩,b4⟩
  ·rw [aR4 b2 b7 b8 b9 b10,tmb ho2 (by simp) (by simp),FY,FY,b5,b6,b4,e3,f3,e1,f1];show _=yF (decide (tlv a.op<tlv op)) (tmT a)++[32]++JI op++[32]++yF (decide (tlv b.op<tlv op+1)) (tmT b);simp only [aX]
  ·simp only [oZ,b1,b2,b3,aG b7];rfl
  ·simp only [bV,List.not_mem_nil,or_false] at hx;rcases hx with rfl | rfl
   ·exact e2
   ·exact f2
theorem bC3 {o:UInt8} {x y:Ex} (ho:o∈([16,17,18,19,20,21]:List UInt8)) (hx:dS x=true) (hy:dS y=true):Ex.text (.mk o [] 0 [x,y])=tmT x++([32]:Str)++JI o++([32]:Str)++tmT y/\Ex.all oZ (.mk o [] 0 [x,y])=true:=by
 obtain ⟨e1,e2,e3⟩:=FG x hx;obtain ⟨f1,f2,f3⟩:=FG y hy;obtain ⟨b1,b2,b3,b4,b5,b6,b7,b8,b9,b10⟩:=bV4 o ho;have g1:=aS4 x.op;have g2:=aS4 y.op
 constructor
 ·rw [aR4 b2 b7 b8 b9 b10,FY,FY,b5,b6,b4,e3,f3,aM (by omega),aM (by omega),e1,f1];show tmT x++([32]++(JI o++[32]))++tmT y=_;simp only [aX]
 ·rw [lS,aF,lC,bC];refine ⟨by simp only [oZ,b1,b2,b3,aG b7];rfl,λz hz=>?_⟩;simp only [bV,List.not_mem_nil,or_false] at hz;rcases hz with rfl | rfl
  ·exact e2
  ·exact f2
theorem yM {e:Ex} (h:dS e=true) (hm:pI e=false):(tmT e).length<=130 * e.count:=CI e (LP e hm h)
def wnT (f:Fm):Str:=if f.b.toInt<0 then [] else [91]++Lib.itoa f.a.toInt++[44,32]++Lib.itoa f.b.toInt++[93]
theorem aQ8 (h:(cS f.op).wn=true):BH f=wnT f:=by
 unfold BH wnT;rw [h]
 by_cases hb:f.b.toInt<0
 ·rw [aO hb,aO (by rw [aK hb];rfl)]
 ·rw [aG hb,aG (by rw [aM hb];decide)]
theorem JO (f:Fm):(wnT f).length<=46:=by
 unfold wnT
 split
 ·exact aR _
 ·have h1:=kR f.a;have h2:=kR f.b;simp only [aH,aI,aL];omega
inductive Fg2:Fm->Prop
 | two {op:UInt8} {a b:Int64} {g h:Fm} (ho:(op=9\/op=10\/op=11)/\a=0/\b=0\/op=15/\bnW a b):Fg2 (.mk op [] [] a b [] [g,h])
 | one {op:UInt8} {nm:Str} {a b:Int64} {g:Fm} (ho:((op=8\/op=12)/\a=0/\b=0)\/((op=13\/op=14)/\bnW a b)\/((op=16\/op=17)/\-1000000<=a.toInt/\-1000000<=b.toInt)):Fg2 (.mk op nm [] a b [] [g])
 | cnt {nm:Str} {a b n:Int64} {g:Fm} (ha:-1000000<=a.toInt) (hb:-1000000<=b.toInt) (hn:0<=n.toInt):Fg2 (.mk 18 nm [] a b [.mk 1 [] n []] [g])
theorem bU6 (h:Fg7 f) (h7:¬ f.op.toNat<=7):Fg2 f:=by
 cases h with
 | tf h=>rcases h with rfl | rfl <;> exact absurd (by show (_:Nat)<=7;decide) h7
 | cmp=>exact absurd (by show (3:UInt8).toNat<=7;decide) h7
 | var=>exact absurd (by show (4:UInt8).toNat<=7;decide) h7
 | has=>exact absurd (by show (5:UInt8).toNat<=7;decide) h7
 | flg=>exact absurd (by show (6:UInt8).toNat<=7;decide) h7
 | arr=>exact absurd (by show (7:UInt8).toNat<=7;decide) h7
 | un h=>exact .one (.inl ⟨h,Z,Z⟩)
 | win h hw=>exact .one (.inr (.inl ⟨h,hw⟩))
 | amo h ha hb=>exact .one (.inr (.inr ⟨h,ha,hb⟩))
 | cnt ha hb hn=>exact .cnt ha hb hn
 | bin ho=>exact .two (.inl ⟨ho,Z,Z⟩)
 | snc hw=>exact .two (.inr ⟨Z,hw⟩)
theorem bF1 {op:UInt8} {nm fd:Str} {b:Int64} {ex:List Ex} {args:List Fm} (h:Fg2 (.mk op nm fd a b ex args)) (hl:args.length=2):∃ g k,args=[g,k]/\nm=[]/\fd=[]/\ex=[]/\((op=9\/op=10\/op=11)/\a=0/\b=0\/op=15/\bnW a b):=by
 cases h with
 | two ho=>exact ⟨_,_,Z,Z,Z,Z,ho⟩
 | one=>cases hl
 | cnt=>cases hl
theorem bH6 {op:UInt8} {nm fd:Str} {b:Int64} {ex:List Ex} {args:List Fm} (h:Fg2 (.mk op nm fd a b ex args)) (hl:¬ args.length=2):∃ g,args=[g]/\fd=[]/\((ex=[]/\(((op=8\/op=12)/\a=0/\b=0)\/((op=13\/op=14)/\bnW a b)\/((op=16\/op=17)/\-1000000<=a.toInt/\-1000000<=b.toInt)))\/(op=18/\(∃ n,ex=[.mk 1 [] n []]/\0<=n.toInt)/\-1000000<=a.toInt/\-1000000<=b.toInt)):=by
 cases h with
 | two=>exact absurd rfl hl
 | one ho=>exact ⟨_,Z,Z,.inl ⟨Z,ho⟩⟩
 | cnt ha hb hn=>exact ⟨_,Z,Z,.inr ⟨Z,⟨_,Z,hn⟩,ha,hb⟩⟩
theorem fg3 {nm fd:Str} {b:Int64} {ex:List Ex} {args:List Fm} (h:Fg7 (.mk 3 nm fd a b ex args)):∃ o x y,ex=[.mk o [] 0 [x,y]]/\o∈([16,17,18,19,20,21]:List UInt8)/\dS x=true/\dS y=true:=by
 cases h with
 | cmp ho hx hy=>exact ⟨_,_,_,Z,ho,hx,hy⟩
 | tf h=>exact absurd h (by decide)
 | un h=>exact absurd h (by decide)
 | win h=>exact absurd h (by decide)
 | amo h=>exact absurd h (by decide)
 | bin h=>exact absurd h (by decide)
theorem fg5 {nm fd:Str} {b:Int64} {ex:List Ex} {args:List Fm} (h:Fg7 (.mk 5 nm fd a b ex args)):∃ x,ex=[x]/\dS x=true:=by
 cases h with
 | has hx=>exact ⟨_,Z,hx⟩
 | tf h=>exact absurd h (by decide)
 | un h=>exact absurd h (by decide)
 | win h=>exact absurd h (by decide)
 | amo h=>exact absurd h (by decide)
 | bin h=>exact absurd h (by decide)
theorem fg7 {nm fd:Str} {b:Int64} {ex:List Ex} {args:List Fm} (h:Fg7 (.mk 7 nm fd a b ex args)):ex.length<=4/\∀ x∈ex,x=zE\/dS x=true:=by
 cases h with
 | arr hl hx=>exact ⟨hl,hx⟩
 | tf h=>exact absurd h (by decide)
 | un h=>exact absurd h (by decide)
 | win h=>exact absurd h (by decide)
 | amo h=>exact absurd h (by decide)
 | bin h=>exact absurd h (by decide)
theorem oJ:∀ op∈([1,2,3,4,5,6,7,8,9,10,11,12,13,14,15,16,17,18]:List UInt8),(op.toNat<=7->(cS op).lv=6)/\(op.toNat=15->(cS op).lv=4)/\(9<=op.toNat->op.toNat<=11->(cS op).lv=12 - op.toNat)/\(7<op.toNat->¬ op.toNat=15->¬ (9<=op.toNat/\op.toNat<=11)->(cS op).lv=5):=by decide +kernel
theorem bX5 {op:UInt8} (h:1<=op.toNat) (h2:op.toNat<=18):op∈([1,2,3,4,5,6,7,8,9,10,11,12,13,14,15,16,17,18]:List UInt8):=by
 revert h h2
 exact oD (q:=λop=>1<=op.toNat->op.toNat<=18->op∈([1,2,3,4,5,6,7,8,9,10,11,12,13,14,15,16,17,18]:List UInt8)) (by decide +kernel) op
theorem YJ {op:UInt8} {nm fd:Str} {b:Int64} {ex:List Ex} {args:List Fm} (h:jQ (.mk op nm fd a b ex args)=true):1<=op.toNat/\op.toNat<=18:=by
 refine ⟨Nat.pos_of_ne_zero λe=>?_,SN h⟩;obtain rfl:op=0:=aS.1 e;exact (lL h).1 rfl
theorem KC (hf:Fm.all jQ f=true) (hn:Fm.all rU f=true) (hc:f.count<=60):(fmT f).length<=24000:=by
 have:=bJ8 f (bJ2 f hf hn);omega
theorem VI (sep x:Str):∀ l:List Str,tF sep (l++[x])=if l=[] then x else tF sep l++sep++x
 | []=>rfl
 | [y]=>rfl
 | y::z::r=>by
  have h:=VI sep x (z::r);rw [aG (by simp)] at h;rw [aG (by simp)];show y++sep++tF sep ((z::r)++[x])=(y++sep++tF sep (z::r))++sep++x;rw [h];simp only [aX]
def aQ6 (f:Fm):List Str:=[[97,110,100],[111,114],[105,109,112,108,105,101,115],[],[],[],[115,105,110,99,101]++wnT f]
def TN (f:Fm):List Str:=[[110,111,116],[],[],[],[112,114,101,118,105,111,117,115],[111,110,99,101]++wnT f,[97,108,119,97,121,115]++wnT f,[],[102,111,114,97,108,108],[101,120,105,115,116,115],[99,111,117,110,116]]
theorem MB {op:UInt8} {b:Int64} {g h:Fm} (ho:(op=9\/op=10\/op=11)/\a=0/\b=0\/op=15/\bnW a b) :
 fmT (.mk op [] [] a b [] [g,h])=(pfW (cS op).lv g++([32]:Str)++(aQ6 (.mk op [] [] a b [] [g,h])).getD (op.toNat - 9) []++([32]:Str)++pfW ((cS op).lv+1) h:Str):=by
 rcases ho with ⟨ho,rfl,rfl⟩ | ⟨rfl,_⟩
 ·rcases ho with rfl | rfl | rfl <;> (rw [fxb (by simp) (by simp) (by simp)];simp only [aX];rfl)
 ·rw [fxb (by simp) (by simp) (by simp),aQ8 (show (cS (Fm.mk 15 [] [] a b [] [g,h]).op).wn=true from rfl)];simp only [aX];rfl
theorem MC {op:UInt8} {nm:Str} {b:Int64} {g:Fm} (ho:((op=8\/op=12)/\a=0/\b=0)\/((op=13\/op=14)/\bnW a b)) :
 fmT (.mk op nm [] a b [] [g])=((TN (.mk op nm [] a b [] [g])).getD (op.toNat - 8) []++([32]:Str)++pfW 5 g:Str):=by
 rcases ho with ⟨ho,rfl,rfl⟩ | ⟨ho,_⟩
 ·rcases ho with rfl | rfl <;> (rw [fxu (by simp) (by simp)];rfl)
 ·rcases ho with rfl | rfl <;> (rw [fxu (by simp) (by simp),aQ8 rfl];rfl)
theorem ME {op:UInt8} {nm:Str} {b:Int64} {g:Fm} (ho:op=16\/op=17) :
 fmT (.mk op nm [] a b [] [g])=((TN (.mk op nm [] a b [] [g])).getD (op.toNat - 8) []++MP (.mk op nm [] a b [] [g])++([32]:Str)++pfW 5 g:Str):=by
 rcases ho with rfl | rfl <;> (rw [fxq (by simp) (by simp)];rfl)
theorem MD {nm:Str} {b n:Int64} {g:Fm} :
 fmT (.mk 18 nm [] a b [.mk 1 [] n []] [g])=((TN (.mk 18 nm [] a b [.mk 1 [] n []] [g])).getD 10 []++MP (.mk 18 nm [] a b [.mk 1 [] n []] [g])++([32,40]:Str)++fmT g++[41,32,62,61,32]++Lib.itoa n.toInt:Str):=by
 rw [JL rfl rfl (by simp)];rfl
theorem uS:cZ prg 133=true:=by kernel_rfl
theorem IB:cZ prg 88=true:=by kernel_rfl
theorem QP:cZ prg 40=true:=by kernel_rfl
theorem QN:cZ prg 42=true:=by kernel_rfl
theorem CY:cZ prg 85=true:=by kernel_rfl
theorem CX:cZ prg 86=true:=by kernel_rfl
theorem QG:cZ prg 84=true:=by kernel_rfl
theorem QO:cZ prg 41=true:=by kernel_rfl
theorem aP0:cZ prg 17=true:=by kernel_rfl
theorem DD:cZ prg 18=true:=by kernel_rfl
theorem QM:cZ prg 44=true:=by kernel_rfl
theorem tB:cZ prg 47=true:=by kernel_rfl
end Go.Proofs.YtidclioghdbphaaGreatDoor
