/- Texts of the proof, one behind the other. -/
import Derived.Test.YtidclioghdbphaaGreatDoorMg
set_option linter.all false
set_option maxRecDepth 100000
namespace Go.Proofs.YtidclioghdbphaaGreatDoor
open Go.RowKit Go.Par Go.Sx Tryz
variable {H H':Hp}
theorem aM4 {x:TkS} {l:List Value} (h:eD H 3 [dTk .u8 x.1] l):eD H' 3 (List.map (dTk .u8) (List.map (·.1) [x])) l:=by
 unfold eD at h;obtain ⟨a,y,rfl,_,h1,h2⟩:=h;unfold eD at h2;subst h2;rw [eK];obtain ⟨rfl,_⟩:=PN h1;exact .single (PM x.2) Z
theorem GN (H:Hp):Rep H (dFm .u8 zF) [.int .u8 0,.string ⟨#[]⟩,.string ⟨#[]⟩,.int .i64 0,.int .i64 0,.slice none 0 0,.slice none 0 0]:=CB (op:=0) (nm:=[]) (fd:=[]) (a:=0) (b:=0) (ex:=[]) (args:=[]) (by decide) (by decide) Rep.nil4 Rep.nil4
def muF (l:Tks) (q:Ps):Nat:=if q.fin then 0 else l.length - q.c.i
theorem ZN {l:Tks} {q q':Ps} (h:¬ q.fin) (g:q'.fin\/q.c.i<q'.c.i) (hi:q.c.i<l.length):muF l q'<muF l q:=by
 unfold muF;rw [aG h]
 split
 ·omega
 ·rename_i h2;rcases g with g | g
  ·exact absurd g h2
  ·omega
section
variable {c:Rq} {op:List Ov} {v:Vl} {V:List Vl} {bd rd dn:Bool} {x:Vb}
theorem aW8 (h:¬ c.er=0):HM ⟨c,op,x,rd,dn⟩=(zF,c.off,c.er):=by unfold HM;exact aL h
theorem aA6 (h:c.er=0) (hb:(bd || v.noF)=true):HM ⟨c,op,(v::V,bd),rd,dn⟩=(zF,0,6):=by
 unfold HM;rw [aG (show ¬ ¬ c.er=0 by rw [h];decide),aL (show (fS (v::V,bd)).2=true from hb)]
theorem aA5 (h:c.er=0) (hb:(bd || v.noF)=false) (hc:¬ fN v.fm=0):HM ⟨c,op,(v::V,bd),rd,dn⟩=(zF,0,fN v.fm):=by
 unfold HM;rw [aG (show ¬ ¬ c.er=0 by rw [h];decide),aG (show ¬ (fS (v::V,bd)).2=true by rw [show (fS (v::V,bd)).2=false from hb];decide)];exact aL hc
theorem aW6 (h:c.er=0) (hb:(bd || v.noF)=false) (hc:fN v.fm=0):HM ⟨c,op,(v::V,bd),rd,dn⟩=(v.fm,0,0):=by
 unfold HM;rw [aG (show ¬ ¬ c.er=0 by rw [h];decide),aG (show ¬ (fS (v::V,bd)).2=true by rw [show (fS (v::V,bd)).2=false from hb];decide)];exact aG (show ¬ ¬ fN v.fm=0 by rw [hc];decide)
end
set_option maxHeartbeats 4000000 in
theorem LJ (H:Hp) (G:Gl H) (Gt:Gf H) (t:Str) (hl:t.length<=400000) (w:World) (hA:Agr H w) :
 Calls prg 26 #[cH t] w λe W'=>∃ (cs:List Value) (H':Hp),Rep H' (dFm .u8 (AO (nN t)).1) cs/\e=.returned (.tuple #[.agg cs.toArray,iN ((AO (nN t)).2.1),iN ((AO (nN t)).2.2)])/\xF H w H' W':=by
 refine Sx.enterM (H:=H) func26 rfl ntmps26 rfl hA ?_;refine .sr<|.al dX Z λb2=>.a Z Z<|.a Z Z<|.ns<|.yw (.build Z (EJ _))<|.blR (z:=11) Z (EI _ _ _ _ _ _ _ _ _ _ _) Z Z (by simp [maxLen]) λb10=>.yw (.build Z (VU _ _ _))<|.bx Z Z Z λb12=>.al aI2 Z λb5=>.st .head Z Z aI4 Z (nb Z) Z<|.nt<|.sq<|.sm Z<|.ct (X:=Nat) aK0 Z (λW s=>bG5 H t W s.agr) Z λb1 H1 m1 u1=>.nt<|.bk<|?_
 refine Sx.row0 108 3 ?_;refine At.pm [0,2,1,3,4] [_,_,_,_,_] rfl rfl ?_
 refine At.rfB (α:=TkS) (Z:=Value × Nat × List Value) (N:=t.length+1) (e:=108) (T:=102) (TX:=108) (size:=3) (p:=b12) (fx:=[.box b5 [.pointer (some ⟨b12,0,none⟩)] 94,.row 97 11 (.slice (some ⟨b10,0,none⟩) 1 1) 1 [.int .u8 1,.int .i64 0,.bool false,.int .u8 0,.int .u8 0,.string ⟨#[]⟩,.string ⟨#[]⟩,.int .i64 0,.int .i64 0,.slice none 0 0,.slice none 0 0],.box b2 [.int .u8 0,.string ⟨#[]⟩,.string ⟨#[]⟩,.int .i64 0,.int .i64 0,.slice none 0 0,.slice none 0 0] 35]) (enc:=λx:TkS=>.agg (cTk .u8 x.1).toArray) (S:=λxs=>xs.map (·.1)=wM t)
  (λpre z=>z.2.1=pre.length/\eD H1 3 ((pre.map (·.1)).map (dTk .u8)) z.2.2) (λz=>z.1) (λz=>z.2.1) (λz=>z.2.2) (λ_=>[.int .i64 0,.slice (some ⟨b10,0,none⟩) 1 1,.slice none 0 0,.bool false,.bool false,.bool false,.int .i64 0,.int .i64 0]) (.slice none 0 0,0,[])
  (λ_ b=>[(0,cH t),(5,.pointer (some ⟨b5,0,none⟩)),(6,.pointer (some ⟨b,0,none⟩))]) (λx=>cTk .u8 x.1) rfl (λ_ _=>zD aI9) rfl (λw hA=>bG4 H1 (G.up u1.up) t (by omega) (λx hx=>bD (II t x hx) (by omega)) b1 m1 w hA) ⟨rfl,eD.nil⟩ rfl rfl ?_ ?_ ?_
 ·intro l x bs' K h;exact .rgI<|.alI wV Z λb=>.sWI .head Z Z wX (by simp [cTk,Value.oneCell',cH]) Z<|.nlI<|.tN<|λa W f s=>h b a W (f.sub ⟨rfl,rfl,rfl,trivial⟩) s
 ·intro l' pre x z tl b H2 hC hlen u2 m2;obtain ⟨v,k,xs⟩:=z;obtain ⟨hk,hz⟩:=hC;dsimp only at hk hz|-;change At [] _ _ H2 w (.row 108 3 v k xs::.box b12 (v::[.int .i64 0,.slice (some ⟨b10,0,none⟩) 1 1,.slice none 0 0,.bool false,.bool false,.bool false,.int .i64 0,.int .i64 0]) 102::.box b5 [.pointer (some ⟨b12,0,none⟩)] 94::.row 97 11 (.slice (some ⟨b10,0,none⟩) 1 1) 1 [.int .u8 1,.int .i64 0,.bool false,.int .u8 0,.int .u8 0,.string ⟨#[]⟩,.string ⟨#[]⟩,.int .i64 0,.int .i64 0,.slice none 0 0,.slice none 0 0]::.box b2 [.int .u8 0,.string ⟨#[]⟩,.string ⟨#[]⟩,.int .i64 0,.int .i64 0,.slice none 0 0,.slice none 0 0] 35::tl) _;refine At.ra Hm λpv cv ev=>?_;subst ev;refine .bkI<|.flI (trip:=[(_,_,_),(_,_,_),(_,_,_),(_,_,_),(_,_,_),(_,_,_),(_,_,_),(_,_,_)]) 8 [(0,0),(1,0),(2,0),(3,0),(4,0),(5,0),(6,1),(7,3)] (by kernel_rfl) (by kernel_rfl) (by kernel_rfl) Z<|.lD Z hZ lR Z<|.lD Z hZ lR Z<|.nC Z<|.fA Z pH<|.lD Z GM cP Z<|.yw (.loadMW Z HZ m2 Z)<|.blF Z (MF _ _ _) Z λb22 H3 u3 m3=>.apD VM Z (λ_ _=>.head) Z (Rep.mk (n:=1) (c:=1) (ds:=[dTk .u8 x.1]) m3 (.single (PM x.2) Z) Z (aX _) (by decide)) (by simp [maxLen];omega) (by omega) Z (λ_ _=>(.d3<|.d2<|.yv (.load Z hZ lR Z)<|.nl)) λxs26 p26 c26 hz26=>.fn (tl:=[_,_,_]) Z<|.nC Z<|.fA Z pH<|.st kP Z Z OM Z (nb Z) Z<|.nlQ<|.bN<|?_
  refine At.rE ((.slice p26 (k+1) c26,k+1,xs++xs26):Value × Nat × List Value) (u2.trans u3.up) ?_ rfl;exact ⟨by simp [hk],by rw [bV,bV];exact hz.app (aM4 hz26)⟩
 intro D ys z hS hC;obtain ⟨v,k,xs⟩:=z;obtain ⟨hk,hz⟩:=hC;dsimp only at hk hz|-;change At _ _ _ H1 w (.obj D (.deferred (some []))::.row 108 3 v k xs::.box b12 (v::[.int .i64 0,.slice (some ⟨b10,0,none⟩) 1 1,.slice none 0 0,.bool false,.bool false,.bool false,.int .i64 0,.int .i64 0]) 102::.box b5 [.pointer (some ⟨b12,0,none⟩)] 94::.row 97 11 (.slice (some ⟨b10,0,none⟩) 1 1) 1 [.int .u8 1,.int .i64 0,.bool false,.int .u8 0,.int .u8 0,.string ⟨#[]⟩,.string ⟨#[]⟩,.int .i64 0,.int .i64 0,.slice none 0 0,.slice none 0 0]::.box b2 [.int .u8 0,.string ⟨#[]⟩,.string ⟨#[]⟩,.int .i64 0,.int .i64 0,.slice none 0 0,.slice none 0 0] 35::[]) _;refine At.ra cP λpv cv ev=>?_;subst ev;have hkl:k<=t.length:=by have:=UB t;rw [<-hS,bJ] at this;omega
 refine .bN<|.tN<|.sq<|.fL 10 [(0,0),(1,0),(2,0),(3,0),(4,0),(5,0),(6,0),(7,0),(8,1),(9,3)]<|.lD Z hZ pY Z<|.lD Z hZ pY Z<|.nC Z<|.fA Z pH<|.lD Z GM lR Z<|.mv Z<|.yw (.lenS iO Z)<|.yw (.build Z (VT _))<|.blF Z (MF _ _ _) Z λb34 H3 u3 m3=>.apD VM Z (λ_ _=>kP) Z (Rep.mk (n:=1) (c:=1) (ds:=[dTk .u8 (bR8 t)]) m3 (.single (PM (x:=bR8 t) (aO _)) Z) Z (aX _) (by decide)) (by simp [maxLen];omega) (by omega) Z (λ_ _=>(.d4<|.d3<|.yv (.load Z hZ pY Z)<|.nl)) λxs35 p35 c35 hz35=>.fn (tl:=[_,_,_]) Z<|.nC Z<|.fA Z pH<|.st mD Z Z OM Z (nb Z) Z<|?_
 refine At.pm [1,0,2,3,4,5] [_,_,_,_,_,_] rfl rfl ?_
 have hz2:eD H3 3 ((nN t).map (dTk .u8)) (xs++xs35):=by
  unfold nN;rw [bV,<-hS];exact (hz.up u3.up).app hz35
 have hlen:((nN t).map (dTk .u8)).length=k+1:=by rw [bJ,wE,<-hS,bJ,hk]
 refine mM hlen hz2 λH4 p4 c4 u4 e4 h4=>?_;injection e4 with e5 _ e6
 subst e5 e6;rw [bJ] at hlen;rw [<-hlen]
 have K:Tkf H4 (nN t) p35 c35:=⟨by rw [hlen];exact h4,aN1 t,λx hx=>by
  rcases cC.1 hx with hx | hx
  ·exact bD (II t x hx) hl
  ·rw [bQ.1 hx];exact aO _,by rw [wE];have:=UB t;omega,λx hx hk=>by
  rcases cC.1 hx with hx | hx
  ·exact ⟨aF7 t x hx hk,(NT t x hx).2.2⟩
  ·rw [bQ.1 hx] at hk;exact (by cases hk)⟩
 obtain ⟨p4,hp4⟩:∃ p,p=p35:=⟨_,rfl⟩;obtain ⟨c4,hc4⟩:∃ c,c=c35:=⟨_,rfl⟩;subst hp4 hc4;have G4:=((G.up u1.up).up u3.up).up u4.up;have GT4:=((Gt.up u1.up).up u3.up).up u4.up;refine Sx.row0 179 13 ?_;refine .nt<|.sq<|.bk<|.pm [2,4,0,1,3,5] [_,_,_,_,_,_] Z Z<|.lp (X:=Hp × Value × Value × List Value × List Value × List Res × Ps) [(2,_),(5,_)] ⟨rfl,rfl,trivial⟩ [_,_,_] (λz=>[]) (λz=>z.1) (λz=>[.box b12 [.slice p4 (nN t).length c4,iN z.2.2.2.2.2.2.c.i,z.2.1,z.2.2.1,.bool z.2.2.2.2.2.2.rd,.bool z.2.2.2.2.2.2.dn,.bool z.2.2.2.2.2.2.x.2,iN z.2.2.2.2.2.2.c.off,iN z.2.2.2.2.2.2.c.er] 102,.row 97 11 (z.2.1) (z.2.2.2.2.2.2.op.length) (z.2.2.2.1),.row 179 13 (z.2.2.1) (z.2.2.2.2.2.2.x.1.length) (z.2.2.2.2.1)]++z.2.2.2.2.2.1) (λz=>HUp w H4 z.1/\Sq z.1 z.2.2.2.2.2.2 z.2.2.2.1 z.2.2.2.2.1 z.2.2.2.2.2.1/\Fwf (nN t) z.2.2.2.2.2.2/\Fex z.2.2.2.2.2.2/\Fbd 600000 z.2.2.2.2.2.2/\Rch (nN t) LB z.2.2.2.2.2.2/\Dnr z.2.2.2.2.2.2) (λz=>muF (nN t) z.2.2.2.2.2.2) (H4,.slice (some ⟨b10,0,none⟩) 1 1,.slice none 0 0,[.int .u8 1,.int .i64 0,.bool false,.int .u8 0,.int .u8 0,.string ⟨#[]⟩,.string ⟨#[]⟩,.int .i64 0,.int .i64 0,.slice none 0 0,.slice none 0 0],[],[],LB) (λ_ s=>s) trivial ⟨.refl,⟨Ops.cons (xo:=[]) (AR:=[]) .nil (by decide) (FmR.zero Z Z (aO _) (aO _)),.nil⟩,PF (by rw [wE];exact Nat.succ_pos _),(λo ho=>by rw [bQ.1 ho];exact aO _),bI5,.refl,.inl Z⟩ λz hC=>?_
 obtain ⟨H5,ro,rv,xo,xv,AR,q1⟩:=z;obtain ⟨u5,S,Wq,FE,FB,RC,DR⟩:=hC;dsimp only at u5 S Wq FE FB RC DR|-;have K5:=K.up u5.up;refine Sx.reSt (λW s=>St.mid (a:=[_,_,_]) (d:=AR) (c:=[_,_,_]) (e:=[]) s) ?_;obtain ⟨q,op,x,rd,dn⟩:=q1;dsimp only;refine .sq<|.sr<|.lD Z hZ uZ Z<|.nC Z<|.fA Z DK<|.lD Z jI Hm Z<|.yw (.not Z)<|.mv Z<|.b2 (λh43=>?_) (λh43=>?_)
 ·have hd:dn=false:=by simpa using h43
  refine .gy (.load Z hZ uZ Z)<|.gy (.nilCheck Z)<|.gy (.fieldAddr Z iT)<|.gy (.load Z qI Hm Z)<|.gy (.eql Z Z)<|.yw (.pickT Z Z)<|.nt<|.cd Z (λh49=>?_) (λh49=>?_)
  ·have h0:q.er=0:=by have:=aH h49;omega
   have hnf:¬ (Ps.fin ⟨q,op,x,rd,dn⟩):=λe=>by
    rcases e with e | e
    ·rw [show dn=true from e] at hd;cases hd
    ·exact e h0
   have ST:=SV K.gd.last Wq hnf;have RS:=RC.trans (.one h0 hd rfl);have DS:=aW9 (l:=nN t) (q:=⟨q,op,x,rd,dn⟩) hd;have FS:=aV9 (l:=nN t) (by decide) FB FE (eW Wq.i K.few);have FT:=aV0 (l:=nN t) FE;refine .sk<|.tN<|.bk<|.sr<|.lD Z hZ uZ Z<|.nC Z<|.fA Z lM<|.lD Z jI Hm Z<|.nt<|.cd Z (λh53=>?_) (λh53=>?_)
   ·have hr:rd=true:=h53;subst hr;refine .rg<|.lD Z hZ uZ Z<|.cs (X:=Hp × Value × Value × List Value × List Value × List Res) aJ9 Z (λW s=>WY K5 Wq S (GT4.up u5.up) h0 FE (St.mid (a:=[_,_,_]) (d:=[_,_,_]) (s.pickT (hd:=[_,_,_,_,_,_]) (tl:=(AR++[])) (hd':=[_,_,_,_,_,_]) [0,1,2,3,4,5] Z Z))) Z λz9 hz9=>?_
    obtain ⟨H6,ro6,rv6,xo6,xv6,AR6⟩:=z9;obtain ⟨u6,S⟩:=hz9;dsimp only at u6 S|-;refine Sx.reSt (λW s=>St.mid (a:=[_,_,_]) (d:=AR6) (c:=[_,_,_]) s) ?_;exact .nl<|.bN<|.tN<|.ag (x:=((H5,ro,rv,xo,xv,AR,(⟨q,op,x,true,dn⟩:Ps)):Hp × Value × Value × List Value × List Value × List Res × Ps)) (H6,ro6,rv6,xo6,xv6,AR6,kM (nN t) ⟨q,op,x,true,dn⟩) trivial ⟨rfl,rfl,trivial⟩ (λ_ s=>St.mid (a:=[_,_,_]) (d:=[_,_,_]) (c:=AR6) (e:=[]) s) ⟨u5.trans u6,S,ST.wf,FT,FS,RS,DS⟩ (ZN hnf ST.go Wq.i)
   have hr:rd=false:=h53;subst hr;refine .rg<|.lD Z hZ uZ Z<|.cs (X:=Hp × Value × Value × List Value × List Value × List Res) aJ8 Z (λW s=>aE7 K5 Wq S (St.mid (a:=[_,_,_]) (d:=[_,_,_]) (s.pickT (hd:=[_,_,_,_,_,_]) (tl:=(AR++[])) (hd':=[_,_,_,_,_,_]) [0,1,2,3,4,5] Z Z))) Z λz9 hz9=>?_
   obtain ⟨H6,ro6,rv6,xo6,xv6,AR6⟩:=z9;obtain ⟨u6,S⟩:=hz9;dsimp only at u6 S|-;refine Sx.reSt (λW s=>St.mid (a:=[_,_,_]) (d:=AR6) (c:=[_,_,_]) s) ?_;exact .nl<|.bN<|.tN<|.ag (x:=((H5,ro,rv,xo,xv,AR,(⟨q,op,x,false,dn⟩:Ps)):Hp × Value × Value × List Value × List Value × List Res × Ps)) (H6,ro6,rv6,xo6,xv6,AR6,kM (nN t) ⟨q,op,x,false,dn⟩) trivial ⟨rfl,rfl,trivial⟩ (λ_ s=>St.mid (a:=[_,_,_]) (d:=[_,_,_]) (c:=AR6) (e:=[]) s) ⟨u5.trans u6,S,ST.wf,FT,FS,RS,DS⟩ (ZN hnf ST.go Wq.i)
  have hfin:(Ps.fin ⟨q,op,x,rd,dn⟩):=.inr (λe=>aN h49 (by rw [show q.er=0 from e];rfl));refine .ex<|.eb<|.sq<|.sq<|?_
  have EP:AO (nN t)=HM ⟨q,op,x,rd,dn⟩:=by unfold AO;rw [zC RC hfin (JB K.gd.last (nN t).length LB (PF (by rw [wE];exact Nat.succ_pos _)) (by show _<=0+_;omega)).1]
  refine .rg<|.lD Z hZ uZ Z<|.nC Z<|.fA Z iT<|.lD Z qI Hm Z<|.yw (.neq Z Z)<|.nt<|.cd Z (λh62=>?_) (λh62=>?_)
  ·have hne:¬ q.er=0:=λe=>aH h62 (by rw [e];rfl);refine .sq<|.fL 11 [(0,0),(1,0),(2,0),(3,0),(4,0),(5,0),(6,0),(7,0),(8,0),(9,3),(10,0)]<|.yw (.build Z yT)<|.lD Z hZ uZ Z<|.nC Z<|.fA Z rY<|.lD Z cS Hm Z<|.lD Z hZ uZ Z<|.nC Z<|.fA Z iT<|.lD Z qI Hm Z<|.sW bT7 Z Z cV (by simp [Value.oneCell',cH]) Z ((.yv (.load Z qI Hm Z)<|.yv (.fieldAddr Z iT)<|.yv (.nilCheck Z)<|.yv (.load Z hZ uZ Z)<|.yv (.load Z cS Hm Z)<|.yv (.fieldAddr Z rY)<|.yv (.nilCheck Z)<|.yv (.load Z hZ uZ Z)<|.dn<|.nl))<|.a Z Z<|.fn (tl:=[_]) Z<|.az Z<|.tR<|?_
   refine Sx.retM (.inl rfl) mP ?_;refine y7 Z (.cons (.cell rfl bZ aF5 rfl) (.cons (.tmp rfl) (.cons (.tmp rfl) .nil))) rfl λW s=>?_;rw [EP,aW8 hne];exact ⟨[.int .u8 0,.string ⟨#[]⟩,.string ⟨#[]⟩,.int .i64 0,.int .i64 0,.slice none 0 0,.slice none 0 0],H5,GN _,rfl,(((u1.trans u3).trans u4).trans u5).grow s⟩
  have he0:q.er=0:=by have:=aN h62;omega
  have hd:dn=true:=by
   rcases hfin with e | e
   ·exact e
   ·exact (e he0).elim
  have hr:rd=true:=by
   rcases DR with e | e
   ·rw [show dn=false from e] at hd;cases hd
   ·exact e
  subst hr;have hv1:1<=x.1.length:=by have:=Wq.vs;dsimp only at this;rw [this];exact Nat.le_add_left _ _
  obtain ⟨hn1,hn2⟩:=oJ Wq K.few;dsimp only at hn1 hn2;obtain ⟨vs,bd⟩:=x;dsimp only at hv1 hn2;obtain ⟨v,V,rfl⟩:=BA hv1;dsimp only [List.length_cons] at hn2;obtain ⟨yr,t0,t1,t2,e8,VS1,V1⟩:=VR.inv S.vls;try dsimp only at e8
  subst e8;have l1:=VS1.len;obtain ⟨q1,q2,ef,FR⟩:=HC V1;have FBv:=GP FB.x;dsimp only;refine .sk<|.tN<|.sr<|.lD Z hZ uZ Z<|.cs (X:=Nat × Nat) wA Z (λW s=>vX K5 Wq.i V1.one V1.e.nm (by omega) l1 (s.pickT (hd:=[_,_,_,_,_,_]) (tl:=(AR++[])) (hd':=[_,_,_,_,_,_]) [0,2,1,3,4,5] Z Z)) Z λp1 _=>?_
  rw [ef];refine .al dX Z λb7=>.sW .head Z Z cV (by intro a ha;exact Rep.one FR.rep a ha) Z<|.nt<|.sq<|.sr<|.lD Z hZ aF5 Z<|.nC Z<|.fA Z nA<|.lD Z jI cP Z<|.nt<|.cd Z (λh77=>?_) (λh77=>?_)
  ·have hbd:(bd || v.noF)=true:=h77;refine .sr<|.yw (.build Z yT)<|.sX aC5 Z Z cV Z<|.a Z Z<|.az Z<|.tR<|?_
   refine Sx.retM (.inl rfl) WE ?_;refine y7 Z (.cons (.cell rfl bZ aF4 rfl) (.cons (.tmp rfl) (.cons (.tmp rfl) .nil))) rfl λW s=>?_;rw [EP,aA6 he0 hbd];exact ⟨[.int .u8 0,.string ⟨#[]⟩,.string ⟨#[]⟩,.int .i64 0,.int .i64 0,.slice none 0 0,.slice none 0 0],H5,GN _,rfl,(((u1.trans u3).trans u4).trans u5).grow s⟩
  have hbd:(bd || v.noF)=false:=h77;refine .sk<|.tN<|.sq<|.sr<|.yw (.loadW Z bZ Hm Z)<|.yw (.call yS Z (λW s=>wS H5 (G4.up u5.up) (GT4.up u5.up) v.fm FBv _ W FR.rep s.agr))<|.a Z Z<|.ns<|.mv Z<|.yw (.neq Z Z)<|.nt<|.cd Z (λh82=>?_) (λh82=>?_)
  ·have hck:¬ fN v.fm=0:=λe=>aH h82 (by rw [e];rfl);refine .sr<|.yw (.build Z yT)<|.mv Z<|.sX aC5 Z Z cV Z<|.a Z Z<|.az Z<|.tR<|?_
   refine Sx.retM (.inl rfl) WE ?_;refine y7 Z (.cons (.cell rfl bZ aF4 rfl) (.cons (.tmp rfl) (.cons (.tmp rfl) .nil))) rfl λW s=>?_;rw [EP,aA5 he0 hbd hck];exact ⟨[.int .u8 0,.string ⟨#[]⟩,.string ⟨#[]⟩,.int .i64 0,.int .i64 0,.slice none 0 0,.slice none 0 0],H5,GN _,rfl,(((u1.trans u3).trans u4).trans u5).grow s⟩
  have hck:fN v.fm=0:=by have:=aN h82;omega
  refine .sk<|.tN<|.sr<|.yw (.loadW Z bZ Hm Z)<|.sW aC5 Z Z cV (by intro a ha;exact Rep.one FR.rep a ha) Z<|.a Z Z<|.az Z<|?_
  refine Sx.retM (.inl rfl) WE ?_;refine y7 Z (.cons (.cell rfl bZ aF4 rfl) (.cons (.tmp rfl) (.cons (.tmp rfl) .nil))) rfl λW s=>?_;rw [EP,aW6 he0 hbd hck];exact ⟨cFm .u8 v.fm.op v.fm.nm v.fm.fd v.fm.a v.fm.b q1 q2,H5,FR.rep,rfl,(((u1.trans u3).trans u4).trans u5).grow s⟩
 have hd:dn=true:=by simpa using h43
 have hfin:(Ps.fin ⟨q,op,x,rd,dn⟩):=.inl hd;refine .gG<|.gG<|.gG<|.gG<|.gG<|.yw (.pickF Z Z)<|.nt<|.cF Z<|.ex<|.eb<|.sq<|.sq<|?_
 have EP:AO (nN t)=HM ⟨q,op,x,rd,dn⟩:=by unfold AO;rw [zC RC hfin (JB K.gd.last (nN t).length LB (PF (by rw [wE];exact Nat.succ_pos _)) (by show _<=0+_;omega)).1]
 refine .rg<|.lD Z hZ uZ Z<|.nC Z<|.fA Z iT<|.lD Z qI Hm Z<|.yw (.neq Z Z)<|.nt<|.cd Z (λh62=>?_) (λh62=>?_)
 ·have hne:¬ q.er=0:=λe=>aH h62 (by rw [e];rfl);refine .sq<|.fL 11 [(0,0),(1,0),(2,0),(3,0),(4,0),(5,0),(6,0),(7,0),(8,0),(9,3),(10,0)]<|.yw (.build Z yT)<|.lD Z hZ uZ Z<|.nC Z<|.fA Z rY<|.lD Z cS Hm Z<|.lD Z hZ uZ Z<|.nC Z<|.fA Z iT<|.lD Z qI Hm Z<|.sW bT7 Z Z cV (by simp [Value.oneCell',cH]) Z ((.yv (.load Z qI Hm Z)<|.yv (.fieldAddr Z iT)<|.yv (.nilCheck Z)<|.yv (.load Z hZ uZ Z)<|.yv (.load Z cS Hm Z)<|.yv (.fieldAddr Z rY)<|.yv (.nilCheck Z)<|.yv (.load Z hZ uZ Z)<|.dn<|.nl))<|.a Z Z<|.fn (tl:=[_]) Z<|.az Z<|.tR<|?_
  refine Sx.retM (.inl rfl) mP ?_;refine y7 Z (.cons (.cell rfl bZ aF5 rfl) (.cons (.tmp rfl) (.cons (.tmp rfl) .nil))) rfl λW s=>?_;rw [EP,aW8 hne];exact ⟨[.int .u8 0,.string ⟨#[]⟩,.string ⟨#[]⟩,.int .i64 0,.int .i64 0,.slice none 0 0,.slice none 0 0],H5,GN _,rfl,(((u1.trans u3).trans u4).trans u5).grow s⟩
 have he0:q.er=0:=by have:=aN h62;omega
 have hd:dn=true:=by
  rcases hfin with e | e
  ·exact e
  ·exact (e he0).elim
 have hr:rd=true:=by
  rcases DR with e | e
  ·rw [show dn=false from e] at hd;cases hd
  ·exact e
 subst hr;have hv1:1<=x.1.length:=by have:=Wq.vs;dsimp only at this;rw [this];exact Nat.le_add_left _ _
 obtain ⟨hn1,hn2⟩:=oJ Wq K.few;dsimp only at hn1 hn2;obtain ⟨vs,bd⟩:=x;dsimp only at hv1 hn2;obtain ⟨v,V,rfl⟩:=BA hv1;dsimp only [List.length_cons] at hn2;obtain ⟨yr,t0,t1,t2,e8,VS1,V1⟩:=VR.inv S.vls;try dsimp only at e8
 subst e8;have l1:=VS1.len;obtain ⟨q1,q2,ef,FR⟩:=HC V1;have FBv:=GP FB.x;dsimp only;refine .sk<|.tN<|.sr<|.lD Z hZ uZ Z<|.cs (X:=Nat × Nat) wA Z (λW s=>vX K5 Wq.i V1.one V1.e.nm (by omega) l1 (s.pickT (hd:=[_,_,_,_,_,_]) (tl:=(AR++[])) (hd':=[_,_,_,_,_,_]) [0,2,1,3,4,5] Z Z)) Z λp1 _=>?_
 rw [ef];refine .al dX Z λb7=>.sW .head Z Z cV (by intro a ha;exact Rep.one FR.rep a ha) Z<|.nt<|.sq<|.sr<|.lD Z hZ aF5 Z<|.nC Z<|.fA Z nA<|.lD Z jI cP Z<|.nt<|.cd Z (λh77=>?_) (λh77=>?_)
 ·have hbd:(bd || v.noF)=true:=h77;refine .sr<|.yw (.build Z yT)<|.sX aC5 Z Z cV Z<|.a Z Z<|.az Z<|.tR<|?_
  refine Sx.retM (.inl rfl) WE ?_;refine y7 Z (.cons (.cell rfl bZ aF4 rfl) (.cons (.tmp rfl) (.cons (.tmp rfl) .nil))) rfl λW s=>?_;rw [EP,aA6 he0 hbd];exact ⟨[.int .u8 0,.string ⟨#[]⟩,.string ⟨#[]⟩,.int .i64 0,.int .i64 0,.slice none 0 0,.slice none 0 0],H5,GN _,rfl,(((u1.trans u3).trans u4).trans u5).grow s⟩
 have hbd:(bd || v.noF)=false:=h77;refine .sk<|.tN<|.sq<|.sr<|.yw (.loadW Z bZ Hm Z)<|.yw (.call yS Z (λW s=>wS H5 (G4.up u5.up) (GT4.up u5.up) v.fm FBv _ W FR.rep s.agr))<|.a Z Z<|.ns<|.mv Z<|.yw (.neq Z Z)<|.nt<|.cd Z (λh82=>?_) (λh82=>?_)
 ·have hck:¬ fN v.fm=0:=λe=>aH h82 (by rw [e];rfl);refine .sr<|.yw (.build Z yT)<|.mv Z<|.sX aC5 Z Z cV Z<|.a Z Z<|.az Z<|.tR<|?_
  refine Sx.retM (.inl rfl) WE ?_;refine y7 Z (.cons (.cell rfl bZ aF4 rfl) (.cons (.tmp rfl) (.cons (.tmp rfl) .nil))) rfl λW s=>?_;rw [EP,aA5 he0 hbd hck];exact ⟨[.int .u8 0,.string ⟨#[]⟩,.string ⟨#[]⟩,.int .i64 0,.int .i64 0,.slice none 0 0,.slice none 0 0],H5,GN _,rfl,(((u1.trans u3).trans u4).trans u5).grow s⟩
 have hck:fN v.fm=0:=by have:=aN h82;omega
 refine .sk<|.tN<|.sr<|.yw (.loadW Z bZ Hm Z)<|.sW aC5 Z Z cV (by intro a ha;exact Rep.one FR.rep a ha) Z<|.a Z Z<|.az Z<|?_
 refine Sx.retM (.inl rfl) WE ?_;refine y7 Z (.cons (.cell rfl bZ aF4 rfl) (.cons (.tmp rfl) (.cons (.tmp rfl) .nil))) rfl λW s=>?_;rw [EP,aW6 he0 hbd hck];exact ⟨cFm .u8 v.fm.op v.fm.nm v.fm.fd v.fm.a v.fm.b q1 q2,H5,FR.rep,rfl,(((u1.trans u3).trans u4).trans u5).grow s⟩
def aY8:Str:=[111,110,99,101,91,48,44,32,53,93,32,40,97,114,114,105,118,101,115,32,102,114,111,110,116,46,103,101,116,40,95,44,32,55,41,32,97,110,100,32,110,111,116,32,102,108,97,103,32,115,108,111,119,41]
def bX8:Str:=[40,97,46,120,32,43,32,49,41,32,42,32,50,32,62,32,110,111,119]
def aY9:Fm:=.mk 13 [] [] 0 5 [] [.mk 9 [] [] 0 0 [] [.mk 7 [102,114,111,110,116] [103,101,116] 0 0 [.mk 0 [] 0 [],.mk 1 [] 7 []] [],.mk 8 [] [] 0 0 [] [.mk 6 [115,108,111,119] [] 0 0 [] []]]]
def bX9:Fm:=.mk 3 [] [] 0 0 [.mk 20 [] 0 [.mk 11 [] 0 [.mk 14 [] 0 [.mk 5 [97,46,120] 0 [],.mk 1 [] 1 []],.mk 1 [] 2 []],.mk 4 [] 0 []]] []
theorem aY7:AO (nN aY8)=(aY9,0,0):=by kernel_rfl
theorem aY5:AO (nN bX8)=(bX9,0,0):=by kernel_rfl
theorem aY6:JY aY9=aY8:=by kernel_rfl
theorem NW (H:Hp) (GL:Gl H) (G:Gf H) (t:Str) (f:Fm) (hl:t.length<=400000) (hp:AO (nN t)=(f,0,0)) (w:World) (hA:Agr H w) :
 Calls prg 26 #[cH t] w λe W'=>∃ (cs:List Value) (H':Hp),Rep H' (dFm .u8 f) cs/\e=.returned (.tuple #[.agg cs.toArray,.int .i64 0,.int .i64 0])/\xF H w H' W':=by
 have h:=LJ H GL G t hl w hA;rw [hp] at h;exact h
theorem aH5 (H:Hp) (GL:Gl H) (G:Gf H) (gq:Gq H) (cs:List Value) (w:World) (h:Rep H (dFm .u8 aY9) cs) (hA:Agr H w):Calls prg 19 #[.agg cs.toArray] w λr w'=>r=.returned (cH aY8)/\Ext w w':=by
 have h1:=HF H GL G gq aY9 (by decide +kernel) cs w h hA;rw [aY6] at h1;exact h1
theorem aH6 (H:Hp) (GL:Gl H) (G:Gf H) (gq:Gq H) (w:World) (hA:Agr H w):Calls prg 13 #[] w λr w'=>r=.returned (.bool true)/\Ext w w':=by
 refine Sx.enter (H:=H) func13 rfl ntmps13 rfl hA ?_;refine .sr<|.a Z Z<|.ns<|.ct (X:=List Value) CO Z (λW s=>NW H GL G aY8 aY9 (by decide) aY7 W s.agr) Z λx1 H1 r1 u1=>?_
 have r1f:Rep H1 (dFm .u8 (Fm.mk 13 [] [] 0 5 [] [.mk 9 [] [] 0 0 [] [.mk 7 [102,114,111,110,116] [103,101,116] 0 0 [.mk 0 [] 0 [],.mk 1 [] 7 []] [],.mk 8 [] [] 0 0 [] [.mk 6 [115,108,111,119] [] 0 0 [] []]]])) x1:=r1;obtain ⟨p1,c1,p2,c2,rfl,hs1,hs2,_,_⟩:=iB r1f;obtain ⟨bE,oE,cE,hpE,rE,lE,mE⟩:=hs2.elem (i:=0) (d:=dFm .u8 (Fm.mk 9 [] [] 0 0 [] [.mk 7 [102,114,111,110,116] [103,101,116] 0 0 [.mk 0 [] 0 [],.mk 1 [] 7 []] [],.mk 8 [] [] 0 0 [] [.mk 6 [115,108,111,119] [] 0 0 [] []]])) rfl;cases hpE;obtain ⟨q1,d1,q2,d2,rfl,g1,g2,_,_⟩:=iB rE;refine .mv Z<|.yw (.extract Z Z)<|.yw (.extract Z Z)<|.yw (.extract Z Z)<|.al dX Z λb1=>.sW .head Z Z cV (Rep.one r1) Z<|.a Z Z<|.aq Z<|.sq<|.sm Z<|.yw (.cast (.neq Z Z) (congrArg Value.bool (aP (λh=>h Z))))<|.mv Z<|.gy (.move Z)<|.gy (.cast (.neq Z Z) (congrArg Value.bool (aP (λh=>h Z))))<|.yw (.pickF Z Z)<|.mv Z<|.gy (.fieldAddr Z eH)<|.gy (.load Z iA Hm Z)<|.gy (.cast (.neq Z Z) (congrArg Value.bool (aP (λh=>h Z))))<|.yw (.pickF Z Z)<|.mv Z<|.gy (.fieldAddr Z eS)<|.gy (.load Z cS Hm Z)<|.gy (.cast (.neq Z Z) (congrArg Value.bool (aP (λh=>h Z))))<|.yw (.pickF Z Z)<|.mv Z<|.gy (.fieldAddr Z cU)<|.gy (.load Z eU Hm Z)<|.gy (.lenSl eG Z)<|.gy (.cast (.neq Z Z) (congrArg Value.bool (aP (λh=>h Z))))<|.yw (.pickF Z Z)<|.mv Z<|.gy (.fieldAddr Z cU)<|.gy (.load Z eU Hm Z)<|.gy (.indexSl eG Z Z (i:=0) Z (by decide) (q:=oE+0 * 7) Z)<|.gy (.fieldAddr Z eH)<|.gy (.loadM Z iA mE (k:=0) Z Z)<|.gy (.cast (.neq Z Z) (congrArg Value.bool (aP (λh=>h Z))))<|.yw (.pickF Z Z)<|.mv Z<|.gy (.loadW Z bZ Hm Z)<|.gy (.call (v:=cH aY8) HT Z (λW s=>aH5 H1 (GL.up u1.up) (G.up u1.up) (gq.up u1.up) _ W r1 s.agr))<|.gy (.cast (.neS Z Z) (congrArg Value.bool (aP (λh=>h Z))))<|.yw (.pickF Z Z)<|.nt<|.cF Z<|.sk<|.tN<|.sr<|.ct (X:=List Value) CO Z (λW s=>NW H1 (GL.up u1.up) (G.up u1.up) bX8 bX9 (by decide) aY5 W s.agr) Z λx2 H2 r2 u2=>?_
 have r2f:Rep H2 (dFm .u8 (Fm.mk 3 [] [] 0 0 [(Ex.mk 20 [] 0 [(Ex.mk 11 [] 0 [.mk 14 [] 0 [.mk 5 [97,46,120] 0 [],.mk 1 [] 1 []],.mk 1 [] 2 []]),.mk 4 [] 0 []])] [])) x2:=r2;obtain ⟨p3,c3,p4,c4,rfl,hs3,hs4,_,_⟩:=iB r2f;obtain ⟨bF,oF,cF,hpF,rF,lF,mF⟩:=hs3.elem (i:=0) (d:=dEx .u8 (Ex.mk 20 [] 0 [(Ex.mk 11 [] 0 [.mk 14 [] 0 [.mk 5 [97,46,120] 0 [],.mk 1 [] 1 []],.mk 1 [] 2 []]),.mk 4 [] 0 []])) rfl;cases hpF;obtain ⟨p5,c5,rfl,hs5,_⟩:=iM rF;obtain ⟨bG,oG,cG,hpG,rG,lG,mG⟩:=hs5.elem (i:=0) (d:=dEx .u8 (Ex.mk 11 [] 0 [.mk 14 [] 0 [.mk 5 [97,46,120] 0 [],.mk 1 [] 1 []],.mk 1 [] 2 []])) rfl;cases hpG;obtain ⟨p6,c6,rfl,hs6,_⟩:=iM rG;refine .mv Z<|.yw (.extract Z Z)<|.yw (.extract Z Z)<|.yw (.extract Z Z)<|.al dX Z λb4=>.sW .head Z Z cV (Rep.one r2) Z<|.a Z Z<|.a Z Z<|.ns<|.mv Z<|.yw (.cast (.eql Z Z) (congrArg Value.bool (aR Z)))<|.mv Z<|.gy (.fieldAddr Z eH)<|.gy (.load Z iA Hm Z)<|.gy (.cast (.eql Z Z) (congrArg Value.bool (aR Z)))<|.yw (.pickT Z Z)<|.mv Z<|.gy (.fieldAddr Z cK)<|.gy (.load Z dE Hm Z)<|.gy (.lenSl dO Z)<|.gy (.cast (.eql Z Z) (congrArg Value.bool (aR Z)))<|.yw (.pickT Z Z)<|.mv Z<|.gy (.fieldAddr Z cK)<|.gy (.load Z dE Hm Z)<|.gy (.indexSl dO Z Z (i:=0) Z (by decide) (q:=oF+0 * 4) Z)<|.gy (.fieldAddr Z gQ)<|.gy (.loadM Z jR mF (k:=0) Z Z)<|.gy (.cast (.eql Z Z) (congrArg Value.bool (aR Z)))<|.yw (.pickT Z Z)<|.mv Z<|.gy (.fieldAddr Z cK)<|.gy (.load Z dE Hm Z)<|.gy (.indexSl dO Z Z (i:=0) Z (by decide) (q:=oF+0 * 4) Z)<|.gy (.fieldAddr Z eA)<|.gy (.loadM Z dE mF (k:=3) Z Z)<|.gy (.indexSl dO Z Z (i:=0) Z (by decide) (q:=oG+0 * 4) Z)<|.gy (.fieldAddr Z gQ)<|.gy (.loadM Z jR mG (k:=0) Z Z)<|.gy (.cast (.eql Z Z) (congrArg Value.bool (aR Z)))<|.yw (.pickT Z Z)<|.az Z<|?_
 exact y9 Z Z λW s=>⟨Z,s.ext⟩
def gX (lv:Nat):Pz Ex:=pX lv
def gL (lv:Nat) (a:Ex):Pz Ex:=pL lv a
theorem Cz.ex (lv:Nat):Cz (gX lv):=by
 have prim:∀ rec:List Tk->Rs Ex,(∀ r r' c,rec r=.er r' c->c≠0)->∀ r r' c,qZ rec r=.er r' c->c≠0:=by
  intro rec hr r r' c e
  have nd:∀ {α:Type} (w:Str) (r:List Tk) (f:List Tk->Rs α),(∀ r r' c,f r=.er r' c->c≠0)->∀ r' c,sK w r f=.er r' c->c≠0:=by
   intro α w r f hf r' c e;unfold sK at e
   split at e
   ·exact hf _ _ _ e
   ·injection e with _ e;omega
  have nm:∀ {α:Type} (r:List Tk) (f:Str->List Tk->Rs α),(∀ s r r' c,f s r=.er r' c->c≠0)->∀ r' c,AH r f=.er r' c->c≠0:=by
   intro α r f hf r' c e;unfold AH at e
   split at e
   ·injection e with _ e;omega
   ·split at e
    ·exact hf _ _ _ _ e
    ·injection e with _ e;omega
  have rb:∀ (r:List Tk) (f:Ex->List Tk->Rs Ex),(∀ x r r' c,f x r=.er r' c->c≠0)->∀ r' c,(rec r).bind f=.er r' c->c≠0:=by
   intro r f hf r' c e;rcases Rs.bind_er e with e | ⟨a,q,_,e⟩
   ·exact hr _ _ _ e
   ·exact hf _ _ _ _ e
  unfold qZ at e
  split at e
  ·injection e with _ e;omega
  ·split at e
   ·split at e
    ·cases e
    ·injection e with _ e;omega
   split at e
   ·cases e
   split at e
   ·cases e
   split at e
   ·cases e
   split at e
   ·exact nm _ _ (λs r r' c e=>by cases e) _ _ e
   split at e
   ·exact rb _ _ (λx r r' c e=>nd _ _ _ (λr r' c e=>by cases e) _ _ e) _ _ e
   split at e
   ·exact nm _ _ (λs r r' c e=>nd _ _ _ (λr r' c e=>rb _ _ (λx r r' c e=>nd _ _ _ (λr r' c e=>by cases e) _ _ e) _ _ e) _ _ e) _ _ e
   split at e
   ·split at e
    ·exact rb _ _ (λx r r' c e=>nd _ _ _ (λr r' c e=>by cases e) _ _ e) _ _ e
    ·cases e
   ·injection e with _ e;omega
 have key:∀ f,(∀ lv r r' c,pE f (.ex lv) r=.er r' c->c≠0)/\(∀ lv a r r' c,pE f (.lp lv a) r=.er r' c->c≠0):=by
  intro f;induction f with
  | zero=>exact ⟨λlv r r' c e=>by unfold pE at e;injection e with _ e;omega,λlv a r r' c e=>by unfold pE at e;injection e with _ e;omega⟩
  | succ f ih =>
   obtain ⟨ih1,ih2⟩:=ih;refine ⟨λlv r r' c e=>?_,λlv a r r' c e=>?_⟩
   ·rw [TO] at e
    split at e
    ·rcases Rs.bind_er e with e | ⟨a,q,_,e⟩
     ·exact ih1 _ _ _ _ e
     ·exact ih2 _ _ _ _ _ e
    split at e
    ·rcases Rs.bind_er e with e | ⟨a,q,_,e⟩
     ·exact ih1 _ _ _ _ e
     ·cases e
    split at e
    ·rcases Rs.bind_er e with e | ⟨a,q,_,e⟩
     ·exact ih1 _ _ _ _ e
     ·cases e
    ·exact prim _ (λr r' c e=>ih1 _ _ _ _ e) _ _ _ e
   ·rw [TN] at e
    split at e
    ·cases e
    ·rcases Rs.bind_er e with e | ⟨b,q,_,e⟩
     ·exact ih1 _ _ _ _ e
     ·split at e
      ·cases e
      ·exact ih2 _ _ _ _ _ e
 exact λr r' c e=>(key _).1 _ _ _ _ e
theorem Shs.gx (lv:Nat):Shs (gX lv):=λr a r' e=>(AX _).1 _ _ _ _ e
theorem aT8 {lv:Nat} (h:lv<5):gX lv=dJ (gX (lv+1)) (gL lv):=funext λ_=>QM h
theorem bL9:gX 5=kQ [45] (dJ (gX 5) λx=>gH (opE 9 [x])) (kQ [110,111,116] (dJ (gX 5) λx=>gH (opE 10 [x])) (qZ (gX 0))):=funext λ_=>CW
def gK (lv:Nat) (op:UInt8) (a:Ex) (b:Ex):Pz Ex:=if lv=2 then gH (opE op [a,b]) else gL lv (opE op [a,b])
def bH1 (op:UInt8) (nm:Str):Pz Ex:=dJ (gX 0) λx=>dJ (gNd [93]) λ_=>gH (.mk op nm 0 [x])
def bH0:Pz Ex:=dJ gNu λv=>gH (.mk 1 [] v [])
def aG1:Pz Ex:=dJ gNm λs=>kQ [91] (bH1 6 s) (gH (.mk 5 s 0 []))
def ZS:List Tk->Bool
 | []=>false
 | t::_=>decide (t.k=3)
def LH:Pz Ex:=λr=>if ZS r then bH0 r else aG1 r
def NU:Pz Ex :=
 kQ [116,114,117,101] (gH (opE 2 []))<|kQ [102,97,108,115,101] (gH (opE 3 []))<|kQ [110,111,119] (gH (opE 4 []))<|kQ [115,105,122,101] (dJ gNm λs=>gH (.mk 8 s 0 []))<|kQ [104,97,115] (dJ gNm λs=>dJ (gNd [91]) λ_=>bH1 7 s)<|kQ [40] (dJ (gX 0) λx=>dJ (gNd [41]) λ_=>gH x) LH
theorem TW {α:Type} (r:List Tk) (f:Str->Pz α):(AH r λs q=>f s q)=dJ gNm f r:=by
 unfold AH dJ gNm;cases r with
 | nil=>rfl
 | cons t q =>
  simp only
  split <;> rfl
theorem FJ {α:Type} (w:Str) (r:List Tk) (f:Pz α):(sK w r λq=>f q)=dJ (gNd w) (λ_=>f) r:=by
 unfold sK dJ gNd
 split <;> rfl
variable {w:Str}
theorem aT3 {t:Tk} {q:List Tk} (h:isT w (t::q)=true):(t.k=2\/t.k=4)/\t.t=w:=by
 unfold isT at h;rw [aE,aD,bC,eT,eT] at h;exact h
theorem bP9 {t:Tk} {q:List Tk} (h:t.k=3):isT w (t::q)=false:=by
 cases e:isT w (t::q) with
 | false=>rfl
 | true =>
  have:=(aT3 e).1;rw [h] at this
  revert this
  decide
theorem ZF:qZ (gX 0)=NU:=funext λr=>by
 cases r with
 | nil=>rfl
 | cons t q =>
  by_cases h3:t.k=3
  ·have e:NU (t::q)=bH0 (t::q):=by
    unfold NU kQ LH ZS;simp only [bP9 h3,aI,bL,h3,decide_true,bS]
   rw [e];unfold qZ bH0 dJ gNu;simp only [h3,bS]
   split <;> rfl
  ·have hl:LH (t::q)=aG1 (t::q):=by
    unfold LH ZS;simp only [h3,vF,aI,bL]
   unfold qZ;simp only [h3,bL];unfold NU kQ;refine ifC rfl (ifC rfl (ifC rfl (ifC ?_ ?_)))
   ·exact TW q λs=>gH _
   by_cases hp:isT [40] (t::q)=true
   ·have hn:isT [104,97,115] (t::q)=false:=by
     cases e:isT [104,97,115] (t::q) with
     | false=>rfl
     | true =>
      have h1:=(aT3 hp).2;have h2:=(aT3 e).2;rw [h1] at h2
      revert h2
      decide
    simp only [hp,hn,bS,aI,bL];refine Rs.bind_congr rfl λx r2 _=>?_;exact FJ [41] r2 (gH x)
   ·simp only [hp,aI,bL];refine ifC ?_ ?_
    ·rw [xQ,<-TW];unfold AH;cases q with
     | nil=>rfl
     | cons t2 q2 =>
      simp only;refine ifC ?_ rfl;rw [<-FJ];unfold sK;refine ifC ?_ rfl;refine Rs.bind_congr rfl λx r4 _=>?_;exact FJ [93] r4 (gH _)
    ·rw [hl];unfold aG1 dJ gNm;simp only
     by_cases h1:t.k=1
     ·simp only [h1,bS];show _=kQ [91] (bH1 6 t.t) (gH (.mk 5 t.t 0 [])) q;unfold kQ;refine ifC ?_ rfl;refine Rs.bind_congr rfl λx r4 _=>?_;exact FJ [93] r4 (gH _)
     ·simp only [h1,bL]
      rfl
section
variable {α β:Type}
end
theorem Cz.st {b:Pz (List Sm)} (h:Cz b):Cz (gSt b):=by
 have hx:Cz gEx:=Cz.ex 0;have blk:Cz (HB b):=.bind (.nd _) λ_=>.bind h λ_=>.bind (.nd _) λ_=>.pure _;have els:Cz (aG2 b):=.alt blk (.pure _);have oth:Cz (UL b):=.alt blk (.bind (.nd _) λ_=>.pure _);have lst:Cz (BH gEx):=.bind (.nd _) λ_=>.alt (.pure _) (.bind hx λ_=>.bind (.many hx) λ_=>.bind (.nd _) λ_=>.pure _)
 exact .alt (.bind hx λ_=>.bind blk λ_=>.bind els λ_=>.pure _)<|.alt (.bind hx λ_=>.bind blk λ_=>.pure _)<|.alt (.bind hx λ_=>.bind (.nd _) λ_=>.bind hx λ_=>.bind oth λ_=>.pure _)<|.alt (.bind .nm λ_=>.bind (.nd _) λ_=>.bind hx λ_=>.bind oth λ_=>.pure _)<|.alt (.bind .nm λ_=>.bind (.nd _) λ_=>.bind .nm λ_=>.bind lst λ_=>.bind (.nd _) λ_=>.pure _)<|.alt (.bind hx λ_=>.bind (.nd _) λ_=>.bind .nm λ_=>.bind lst λ_=>.bind (.nd _) λ_=>.pure _)<|.alt (.bind (.nd _) λ_=>.pure _)<|.alt (.bind .nm λ_=>.bind (.nd _) λ_=>.bind hx λ_=>.bind (.nd _) λ_=>.bind (.nd _) λ_=>.pure _)<|.bind .nm λ_=>.alt (.bind hx λ_=>.bind (.nd _) λ_=>.bind (.nd _) λ_=>.bind hx λ_=>.bind (.nd _) λ_=>.pure _)
  (.bind (.nd _) λ_=>.bind hx λ_=>.bind (.nd _) λ_=>.pure _)
theorem Cz.bF:∀ f,Cz (gBF f)
 | 0=>λr r' c e=>by unfold gBF at e;injection e with _ e;omega
 | f+1=>λr r' c e=>by
  unfold gBF at e
  split at e
  ·cases e
  ·rcases Rs.bind_er e with e | ⟨a,q,_,e⟩
   ·exact Cz.st (Cz.bF f) _ _ _ e
   ·rcases Rs.bind_er e with e | ⟨l,q2,_,e⟩
    ·exact Cz.bF f _ _ _ e
    ·cases e
theorem Cz.b:Cz gB:=λr r' c e=>Cz.bF _ _ _ _ e
section
variable {α:Type}
theorem Cz.blk:Cz (HB gB):=.bind (.nd _) λ_=>.bind Cz.b λ_=>.bind (.nd _) λ_=>.pure _
theorem Cz.list {p:Pz α} (h:Cz p):Cz (BH p):=.bind (.nd _) λ_=>.alt (.pure _) (.bind h λ_=>.bind (.many h) λ_=>.bind (.nd _) λ_=>.pure _)
theorem Cz.int:Cz aT9:=.alt (.bind .nu λ_=>.pure _) .nu
theorem Cz.hd:Cz gHd:=.bind .nm λ_=>.bind (.list .nm) λ_=>.bind .blk λ_=>.pure _
end
theorem Shr.int:Shr aT9:=.alt (.bind Shs.nu.le λ_=>.pure _) Shs.nu.le
section
variable {α β:Type}
def En (p:Pz α):Prop:=p []=.er [] 8\/∃ b,p []=.ok b []
def Pf (N:Nat) (p:Pz α):Prop:=∀ r a q,r.length<=N->p r=.ok a q->∃ u,r=u++q/\(∀ v w,u=v++w->p v=.er [] 8\/∃ b,p v=.ok b [])/\(∀ v,v≠[]->v.head? = q.head? -> p (u++v)=.ok a v)
theorem Pf.le {N M:Nat} {p:Pz α} (h:Pf N p) (k:M<=N):Pf M p:=λr a q hr e=>h r a q (bD hr k) e
theorem Pf.zero {p:Pz α} (h:Shr p):Pf 0 p:=λr a q hr e=>by
 obtain rfl:r=[]:=bI (by omega);have:=h _ _ _ e;obtain rfl:q=[]:=bI (by simpa using this);refine ⟨[],Z,λv w h=>?_,λv hv h=>?_⟩
 ·obtain rfl:=(fE.1 h.symm).1;exact .inr ⟨a,e⟩
 ·cases v with
  | nil=>exact absurd rfl hv
  | cons x v=>cases h
theorem En.pure (a:α):En (gH a):=.inr ⟨a,Z⟩
theorem En.bind {p:Pz α} {f:α->Pz β} (h:En p) (k:∀ a,En (f a)):En (dJ p f):=by
 rcases h with h | ⟨b,h⟩
 ·exact .inl (by unfold dJ;rw [h];rfl)
 ·have e:dJ p f []=f b []:=by unfold dJ;rw [h];rfl
  rcases k b with k | ⟨c,k⟩
  ·exact .inl (e.trans k)
  ·exact .inr ⟨c,e.trans k⟩
theorem En.nd (w:Str):En (gNd w):=.inl rfl
theorem En.nm:En gNm:=.inl rfl
theorem En.nu:En gNu:=.inl rfl
theorem En.alt {w:Str} {p q:Pz α} (h:En q):En (kQ w p q):=h
theorem En.many {w:Str} {p:Pz α}:En (AJ w p):=.inr ⟨[],Z⟩
theorem Pf.pure {N:Nat} (a:α):Pf N (gH a):=λr b q _ e=>by
 injection e with e1 e2
 subst e1;subst e2;refine ⟨[],Z,λv w h=>?_,λv _ _=>rfl⟩;obtain rfl:=(fE.1 h.symm).1;exact .inr ⟨a,Z⟩
theorem Pf.bindS {N M:Nat} {p:Pz α} {f:α->Pz β} (hp:Pf N p) (hM:∀ r a q,r.length<=N->p r=.ok a q->q.length<=M) (hf:∀ a,Pf M (f a)) (he:∀ a,En (f a)):Pf N (dJ p f):=by
 intro r b q' hr e;obtain ⟨a,q,h1,h2⟩:=Rs.bind_ok e;obtain ⟨u1,rfl,A1,B1⟩:=hp _ _ _ hr h1;obtain ⟨u2,rfl,A2,B2⟩:=hf a _ _ _ (hM _ _ _ hr h1) h2;have go:∀ x c y,p x=.ok c y->dJ p f x=f c y:=λx c y h=>by unfold dJ;rw [h];rfl
 have fst:∀ v w,u1=v++w->dJ p f v=.er [] 8\/∃ b,dJ p f v=.ok b []:=λv w h=>by
  rcases A1 v w h with h3 | ⟨b',h3⟩
  ·exact .inl (by unfold dJ;rw [h3];rfl)
  ·rw [go _ _ _ h3];exact he b'
 have hd:∀ (x y z:List Tk),(y.head? = z.head?)->(x++y).head? = (x++z).head? := λx y z h=>by
  cases x with
  | nil=>exact h
  | cons t x=>rfl
 refine ⟨u1++u2,(aZ ..).symm,λv w h=>?_,λv hv h=>?_⟩
 ·rcases List.append_eq_append_iff.1 h with ⟨a',rfl,rfl⟩ | ⟨c,rfl,rfl⟩
  ·cases a' with
   | nil =>
    rw [eK];exact fst u1 [] (eK _).symm
   | cons t a' =>
    rw [go _ _ _ (B1 (t::a') (by simp) rfl)];exact A2 (t::a') w rfl
  ·exact fst v c rfl
 ·rw [aZ,go _ _ _ (B1 (u2++v) (λk=>hv (fE.1 k).2) (hd _ _ _ h))];exact B2 v hv h
theorem Pf.bind {N:Nat} {p:Pz α} {f:α->Pz β} (hp:Pf N p) (hf:∀ a,Pf N (f a)) (he:∀ a,En (f a)):Pf N (dJ p f):=.bindS hp (λr a q hr e=>by
 obtain ⟨u,rfl,_⟩:=hp r a q hr e;rw [aF] at hr;omega) hf he
theorem Pf.one {N:Nat} {p:Pz α} (h0:p []=.er [] 8) (h1:∀ t,(∃ a,∀ r,p (t::r)=.ok a r)\/∀ r,∃ r' c,p (t::r)=.er r' c):Pf N p:=by
 intro r a q _ e;cases r with
 | nil=>rw [h0] at e;cases e
 | cons t r =>
  rcases h1 t with ⟨b,h⟩ | h
  ·rw [h] at e;injection e with e1 e2
   subst e1;subst e2;refine ⟨[t],Z,λv w hv=>?_,λv _ _=>h v⟩;cases v with
   | nil=>exact .inl h0
   | cons x v =>
    injection hv with hx hv
    subst hx;obtain rfl:=(fE.1 hv.symm).1;exact .inr ⟨b,h []⟩
  ·obtain ⟨r',c,h⟩:=h r;rw [h] at e;cases e
theorem Pf.nd {N:Nat} (w:Str):Pf N (gNd w):=.one rfl λt=>by
 cases e:isT w [t] with
 | true=>exact .inl ⟨(),λr=>by show (if isT w [t]=true then _ else _)=_;rw [aL e];rfl⟩
 | false=>exact .inr λr=>⟨_,_,by show (if isT w [t]=true then _ else _)=_;rw [aG (by rw [e];decide)]⟩
theorem Pf.nm {N:Nat}:Pf N gNm:=.one rfl λt=>by
 by_cases e:t.k=1
 ·exact .inl ⟨t.t,λr=>by unfold gNm;simp only [e,bS]⟩
 ·exact .inr λr=>⟨t::r,8,by unfold gNm;simp only [e,bL]⟩
theorem Pf.nu {N:Nat}:Pf N gNu:=.one rfl λt=>by
 by_cases e:t.k=3
 ·by_cases e2:nY t.t<=9223372036854775807
  ·exact .inl ⟨Int64.ofNat (nY t.t),λr=>by unfold gNu;simp only [e,e2,bS]⟩
  ·exact .inr λr=>⟨t::r,2,by unfold gNu;simp only [e,e2,bS,bL]⟩
 ·exact .inr λr=>⟨t::r,8,by unfold gNu;simp only [e,bL]⟩
theorem Pf.choice {N:Nat} {c:List Tk->Bool} {p:Tk->Pz α} {q g:Pz α} (hc0:c []=false) (hc:∀ t r r',c (t::r)=c (t::r')) (hT:∀ t r,c (t::r)=true->g (t::r)=p t r) (hF:∀ r,c r=false->g r=q r)
 (hp:∀ t M,M+1<=N->Pf M (p t)) (hq:Pf N q) (he:En q):Pf N g:=by
 intro r a z hr e;cases h:c r with
 | true =>
  cases r with
  | nil=>rw [hc0] at h;cases h
  | cons t r =>
   rw [hT _ _ h] at e;obtain ⟨u,rfl,A,B⟩:=hp t r.length (by simpa using hr) _ _ _ (aX _) e;refine ⟨t::u,Z,λv w hv=>?_,λv hn hv=>?_⟩
   ·cases v with
    | nil=>rw [hF _ hc0];exact he
    | cons x v =>
     injection hv with hx hv
     subst hx;rw [hT _ _ ((hc ..).trans h)];exact A v w hv
   ·show g (t::(u++v))=_;rw [hT _ _ ((hc ..).trans h)];exact B v hn hv
 | false =>
  rw [hF _ h] at e;obtain ⟨u,rfl,A,B⟩:=hq _ _ _ hr e
  have pre:∀ v,(v=[]\/v.head? = (u++z).head?)->c v=false:=λv hv=>by
   cases v with
   | nil=>exact hc0
   | cons x v =>
    rcases hv with hv | hv
    ·cases hv
    ·cases k:u++z with
     | nil=>rw [k] at hv;cases hv
     | cons y s =>
      rw [k] at hv h;injection hv with hv
      subst hv;exact (hc x v s).trans h
  refine ⟨u,Z,λv w hv=>?_,λv hn hv=>?_⟩
  ·rw [hF _ (pre v (by rw [hv];cases v <;> simp))];exact A v w hv
  ·rw [hF _ (pre (u++v) (.inr (by cases u <;> first | exact hv | rfl)))];exact B v hn hv
theorem Pf.look {N:Nat} {c:List Tk->Bool} {p q g:Pz α} (hc0:c []=false) (hc:∀ t r r',c (t::r)=c (t::r')) (hT:∀ r,c r=true->g r=p r) (hF:∀ r,c r=false->g r=q r)
 (hp:Pf N p) (hq:Pf N q) (he:En q):Pf N g:=by
 intro r a z hr e
 have pre:∀ (x:Bool) (v:List Tk),v≠[]->v.head? = r.head? -> c r=x->c v=x:=λx v hn h2 h3=>by
  cases v with
  | nil=>exact absurd rfl hn
  | cons y v =>
   cases r with
   | nil=>cases h2
   | cons t r =>
    injection h2 with h2
    subst h2;exact (hc ..).trans h3
 have h1:∀ (u v w:List Tk),r=u++z->u=v++w->v≠[]->v.head? = r.head? := λu v w h2 h3 hn=>by
  cases v with
  | nil=>exact absurd rfl hn
  | cons y v=>rw [h2,h3];rfl
 have h2:∀ (u v:List Tk),r=u++z->v.head? = z.head? -> (u++v).head? = r.head? := λu v h3 h4=>by
  rw [h3];cases u with
  | nil=>exact h4
  | cons y u=>rfl
 cases h:c r with
 | true =>
  rw [hT _ h] at e;obtain ⟨u,hu,A,B⟩:=hp _ _ _ hr e;refine ⟨u,hu,λv w hv=>?_,λv hn hv=>?_⟩
  ·by_cases hn:v=[]
   ·subst hn;rw [hF _ hc0];exact he
   ·rw [hT _ (pre _ v hn (h1 u v w hu hv hn) h)];exact A v w hv
  ·rw [hT _ (pre _ (u++v) (λk=>hn (fE.1 k).2) (h2 u v hu hv) h)];exact B v hn hv
 | false =>
  rw [hF _ h] at e;obtain ⟨u,hu,A,B⟩:=hq _ _ _ hr e;refine ⟨u,hu,λv w hv=>?_,λv hn hv=>?_⟩
  ·by_cases hn:v=[]
   ·subst hn;rw [hF _ hc0];exact he
   ·rw [hF _ (pre _ v hn (h1 u v w hu hv hn) h)];exact A v w hv
  ·rw [hF _ (pre _ (u++v) (λk=>hn (fE.1 k).2) (h2 u v hu hv) h)];exact B v hn hv
theorem Pf.alt {N:Nat} {w:Str} {p q:Pz α} (hp:∀ M,M+1<=N->Pf M p) (hq:Pf N q) (he:En q):Pf N (kQ w p q) :=
 .choice (c:=isT w) (p:=λ_=>p) rfl (λ_ _ _=>rfl) (λt r h=>by unfold kQ;rw [aL h];rfl) (λr h=>by unfold kQ;rw [aG (by rw [h];decide)]) (λ_=>hp) hq he
theorem Pf.many {w:Str} {p:Pz α} (hs:Shr p):∀ (N:Nat),(∀ M,M+1<=N->Pf M p)->Pf N (AJ w p)
 | 0,_=>.zero (.many hs)
 | N+1,h=>by
  rw [LG hs];refine .alt (λM hM=>?_) (.pure _) (.pure _);exact .bind (h M hM) (λa=>.bind ((Pf.many hs N λM hM=>h M (by omega)).le (by omega)) (λ_=>.pure _) (λ_=>.pure _)) (λa=>.bind .many λ_=>.pure _)
end
section
variable {α β:Type}
structure PE (N:Nat) (p:Pz α):Prop where
 pf:Pf N p
 en:En p
theorem PE.le {N M:Nat} {p:Pz α} (h:PE N p) (k:M<=N):PE M p:=⟨h.pf.le k,h.en⟩
theorem PE.pure {N:Nat} (a:α):PE N (gH a):=⟨.pure a,.pure a⟩
theorem PE.bind {N:Nat} {p:Pz α} {f:α->Pz β} (hp:PE N p) (hf:∀ a,PE N (f a)):PE N (dJ p f):=⟨.bind hp.pf (λa=>(hf a).pf) (λa=>(hf a).en),.bind hp.en λa=>(hf a).en⟩
theorem PE.nd {N:Nat} (w:Str):PE N (gNd w):=⟨.nd w,.nd w⟩
theorem PE.nm {N:Nat}:PE N gNm:=⟨.nm,.nm⟩
theorem PE.nu {N:Nat}:PE N gNu:=⟨.nu,.nu⟩
theorem PE.alt {N:Nat} {w:Str} {p q:Pz α} (hp:∀ M,M+1<=N->PE M p) (hq:PE N q):PE N (kQ w p q):=⟨.alt (λM h=>(hp M h).pf) hq.pf hq.en,.alt hq.en⟩
theorem PE.many {N:Nat} {w:Str} {p:Pz α} (hs:Shr p) (hp:∀ M,M+1<=N->PE M p):PE N (AJ w p):=⟨.many hs N λM h=>(hp M h).pf,.many⟩
theorem PE.list {N:Nat} {p:Pz α} (hs:Shr p) (hp:∀ M,M<=N->PE M p):PE N (BH p):=.bind (.nd _) λ_=>.alt (λM _=>.pure _) (.bind (hp N (aX _)) λ_=>.bind (.many hs λM h=>hp M (by omega)) λ_=>.bind (.nd _) λ_=>.pure _)
end
theorem TR (lv:Nat):opAt lv []=none:=by
 have h:(bO0 lv).find? (λx=>isT x.1 [])=none:=List.find?_eq_none.2 (λx _=>Bool.false_ne_true);unfold opAt;rw [h]
 rfl
theorem En.l (lv:Nat) (a:Ex):En (gL lv a):=.inr ⟨a,BW (TR lv)⟩
theorem En.nam:En aG1:=.bind .nm λ_=>.alt (.pure _)
theorem En.prim:En NU:=.alt<|.alt<|.alt<|.alt<|.alt<|.alt En.nam
theorem En.x:∀ (d lv:Nat),lv+d=5->En (gX lv)
 | 0,lv,h=>by
  obtain rfl:lv=5:=by omega
  rw [bL9,ZF];exact .alt (.alt En.prim)
 | d+1,lv,h=>by
  rw [aT8 (by omega)];exact .bind (En.x d (lv+1) (by omega)) λa=>En.l lv a
theorem Shr.l (lv:Nat) (a:Ex):Shr (gL lv a):=λr b r' e=>(AX _).2 _ _ _ _ _ e
theorem Pf.xl:∀ (N:Nat),(∀ lv,lv<=5->Pf N (gX lv))/\(∀ lv,lv<=4->∀ a,Pf N (gL lv a))
 | 0=>⟨λlv _=>.zero (Shs.gx lv).le,λlv _ a=>.zero (Shr.l lv a)⟩
 | N+1=>by
  obtain ⟨ih1,ih2⟩:=Pf.xl N;have x:∀ lv,lv<=5->∀ M,M+1<=N+1->PE M (gX lv):=λlv h M hM=>⟨(ih1 lv h).le (by omega),En.x (5 - lv) lv (by omega)⟩
  have hk:∀ lv op a b,lv<=4->∀ M,M+1<=N+1->PE M (gK lv op a b):=λlv op a b h M hM=>by
   unfold gK
   split
   ·exact .pure _
   ·exact ⟨(ih2 lv h _).le (by omega),En.l lv _⟩
  have hl:∀ lv,lv<=4->∀ a,Pf (N+1) (gL lv a):=λlv h a=>by
   refine .choice (c:=λr=>(opAt lv r).isSome) (p:=λt=>match opAt lv [t] with | some op=>dJ (gX (lv+1)) (gK lv op a) | none=>gH a) (q:=gH a) ?_ (λ_ _ _=>rfl) ?_ ?_ ?_ (.pure _) (.pure _)
   ·show (opAt lv []).isSome=false;rw [TR]
    rfl
   ·intro t r e;obtain ⟨op,e⟩:=pU.1 e;have e2:opAt lv [t]=some op:=e;simp only [e2];show pL lv a (t::r)=_;rw [ZH h e];refine Rs.bind_congr rfl λb q _=>?_;unfold gK
    split <;> rfl
   ·intro r e
    have e2:opAt lv r=none:=by
     cases k:opAt lv r with
     | none=>rfl
     | some op=>rw [k] at e;cases e
    exact BW e2
   ·intro t M hM;show Pf M (match opAt lv [t] with | some op=>dJ (gX (lv+1)) (gK lv op a) | none=>gH a);cases opAt lv [t] with
    | none=>exact .pure _
    | some op=>exact (PE.bind (x (lv+1) (by omega) M hM) λb=>hk lv op a b h M hM).pf
  have key:∀ op nm M,M+1<=N+1->PE M (bH1 op nm):=λop nm M hM=>.bind (x 0 (by omega) M hM) λ_=>.bind (.nd _) λ_=>.pure _;have nam:PE (N+1) aG1:=.bind .nm λs=>.alt (λM hM=>key 6 s M hM) (.pure _);have last:PE (N+1) LH:=⟨.look (c:=ZS) (p:=bH0) (q:=aG1) rfl (λ_ _ _=>rfl) (λr h=>by unfold LH;rw [aL h]) (λr h=>by unfold LH;rw [aG (by rw [h];decide)]) (PE.bind .nu λ_=>.pure _).pf nam.pf nam.en,nam.en⟩;have prim:PE (N+1) NU:=.alt (λ_ _=>.pure _)<|.alt (λ_ _=>.pure _)<|.alt (λ_ _=>.pure _)<|.alt (λ_ _=>.bind .nm λ_=>.pure _)<|.alt (λM hM=>.bind .nm λs=>.bind (.nd _) λ_=>key 7 s M hM)<|.alt (λM hM=>.bind (x 0 (by omega) M hM) λ_=>.bind (.nd _) λ_=>.pure _) last
  have h5:PE (N+1) (gX 5):=by
   rw [bL9,ZF];exact .alt (λM hM=>.bind (x 5 (by omega) M hM) λ_=>.pure _)<|.alt (λM hM=>.bind (x 5 (by omega) M hM) λ_=>.pure _) prim
  have all:∀ d lv,lv+d=5->PE (N+1) (gX lv):=λd=>by
   induction d with
   | zero =>
    intro lv h;obtain rfl:lv=5:=by omega
    exact h5
   | succ d ih =>
    intro lv h;rw [aT8 (by omega)];exact .bind (ih (lv+1) (by omega)) λa=>⟨hl lv (by omega) a,En.l lv a⟩
  exact ⟨λlv h=>(all (5 - lv) lv (by omega)).pf,hl⟩
variable {N:Nat}
theorem PE.ex:PE N gEx:=⟨(Pf.xl N).1 0 (by omega),En.x 5 0 rfl⟩
theorem PE.st {b:Pz (List Sm)} (hb:∀ M,M+1<=N->PE M b):PE N (gSt b):=by
 have blk:∀ M,M+1<=N->PE M (HB b):=λM h=>.bind (.nd _) λ_=>.bind (hb M h) λ_=>.bind (.nd _) λ_=>.pure _;have els:∀ M,M+1<=N->PE M (aG2 b):=λM h=>.alt (λM' h'=>blk M' (by omega)) (.pure _);have oth:∀ M,M+1<=N->PE M (UL b):=λM h=>.alt (λM' h'=>blk M' (by omega)) (.bind (.nd _) λ_=>.pure _);have lst:∀ M,PE M (BH gEx):=λM=>.list Shs.ex.le λ_ _=>.ex
 exact .alt (λM h=>.bind .ex λ_=>.bind (blk M h) λ_=>.bind (els M h) λ_=>.pure _)<|.alt (λM h=>.bind .ex λ_=>.bind (blk M h) λ_=>.pure _)<|.alt (λM h=>.bind .ex λ_=>.bind (.nd _) λ_=>.bind .ex λ_=>.bind (oth M h) λ_=>.pure _)<|.alt (λM h=>.bind .nm λ_=>.bind (.nd _) λ_=>.bind .ex λ_=>.bind (oth M h) λ_=>.pure _)<|.alt (λM h=>.bind .nm λ_=>.bind (.nd _) λ_=>.bind .nm λ_=>.bind (lst M) λ_=>.bind (.nd _) λ_=>.pure _)<|.alt (λM h=>.bind .ex λ_=>.bind (.nd _) λ_=>.bind .nm λ_=>.bind (lst M) λ_=>.bind (.nd _) λ_=>.pure _)<|.alt (λM h=>.bind (.nd _) λ_=>.pure _)<|.alt (λM h=>.bind .nm λ_=>.bind (.nd _) λ_=>.bind .ex λ_=>.bind (.nd _) λ_=>.bind (.nd _) λ_=>.pure _)<|.bind .nm λ_=>.alt (λM h=>.bind .ex λ_=>.bind (.nd _) λ_=>.bind (.nd _) λ_=>.bind .ex λ_=>.bind (.nd _) λ_=>.pure _)
  (.bind (.nd _) λ_=>.bind .ex λ_=>.bind (.nd _) λ_=>.pure _)
theorem En.b:En gB:=.inl (by rw [UM];rfl)
theorem PE.b:∀ N,PE N gB
 | 0=>⟨.zero Shr.b,En.b⟩
 | N+1=>by
  have st:PE (N+1) (gSt gB):=.st λM h=>(PE.b N).le (by omega);have rest:∀ a:Sm,PE N (dJ gB λl=>gH (a::l)):=λa=>.bind (PE.b N) λ_=>.pure _
  refine ⟨.look (c:=isT [125]) (p:=gH []) (q:=dJ (gSt gB) λs=>dJ gB λl=>gH (s::l)) rfl (λ_ _ _=>rfl) (λr h=>?_) (λr h=>?_) (.pure _)
   (.bindS st.pf (λr a q hr e=>?_) (λa=>(rest a).pf) (λa=>(rest a).en)) (.bind st.en λa=>(rest a).en),En.b⟩
  ·rw [UM,aL h]
   rfl
  ·rw [UM,aG (by rw [h];decide)]
   rfl
  ·have:=Shs.st Shr.b _ _ _ e;omega
theorem PE.blk:PE N (HB gB):=.bind (.nd _) λ_=>.bind (.b N) λ_=>.bind (.nd _) λ_=>.pure _
theorem PE.int:PE N aT9:=.alt (λ_ _=>.bind .nu λ_=>.pure _) .nu
theorem PE.hd:PE N gHd:=.bind .nm λ_=>.bind (.list Shs.nm.le λ_ _=>.nm) λ_=>.bind .blk λ_=>.pure _
structure Xf {α:Type} (p:Pz α):Prop where
 no:p []=.er [] 8
 go:∀ r a q w,p r=.ok a q->p (r++w)=.ok a (q++w)
theorem Xf.nd (w:Str):Xf (gNd w):=⟨Z,λr a q z e=>by
 cases r with
 | nil=>cases e
 | cons t r =>
  unfold gNd at e
  split at e
  ·rename_i h;injection e with _ e
   subst e;show (if isT w (t::(r++z))=true then _ else _)=_;have h2:isT w (t::(r++z))=true:=h;rw [aL h2]
   rfl
  ·cases e⟩
theorem Xf.pure {α β:Type} {p:Pz α} {f:α->β} (h:Xf p):Xf (dJ p λa=>gH (f a)):=⟨by unfold dJ;rw [h.no];rfl,λr b q w e=>by
 obtain ⟨a,q1,h1,h2⟩:=Rs.bind_ok e;injection h2 with h2 h3
 subst h2;subst h3;unfold dJ;rw [h.go r a q1 w h1]
 rfl⟩
theorem Xf.bind {α β:Type} {p:Pz α} {f:α->Pz β} (hp:∀ N,PE N p) (hf:∀ a,Xf (f a)):Xf (dJ p f):=⟨by
 unfold dJ;rcases (hp 0).en with h | ⟨b,h⟩
 ·rw [h];rfl
 ·rw [h];exact (hf b).no,λr b q' w e=>by
 obtain ⟨a,q,h1,h2⟩:=Rs.bind_ok e
 have hq:q≠[]:=λk=>by
  subst k;rw [(hf a).no] at h2;cases h2
 obtain ⟨u,rfl,_,B⟩:=(hp r.length).pf _ _ _ (aX _) h1;have h3:=B (q++w) (λk=>hq (fE.1 k).1) (by cases q with | nil=>exact absurd rfl hq | cons t q=>rfl);unfold dJ;rw [aZ,h3];exact (hf a).go q b q' w h2⟩
def QL (ks:List Kt):List Kt:=(4,[40])::(ks++[(4,[41])])
def RdK (ks:List Kt) (e:Ex):Prop:=∀ le r,le.map kt=ks->Stp 0 r->pX 0 (le++r)=.ok e r
variable {ks:List Kt}
theorem RdK.par {e:Ex} (h:RdK ks e) {le r:List Tk} (hk:le.map kt=QL ks):pX 5 (le++r)=.ok e r:=by
 unfold QL at hk;obtain ⟨t,l1,rfl,ht,hk⟩:=cL.1 hk;obtain ⟨l2,l3,rfl,h2,h3⟩:=hO.1 hk;obtain ⟨t2,l4,rfl,ht2,h4⟩:=cL.1 h3;obtain rfl:=eZ.1 h4;simp only [aT,aZ,bW];have hf:=h l2 (t2::r) h2 (.of (by rw [ht2];decide) (by rw [ht2];decide));rw [CW,fH,fH,ht,aG (by decide),aG (by decide),qZ];have hk0:t.k=4:=congrArg Prod.fst ht;simp only [fH,ht];rw [aG (by rw [hk0];decide),aG (by decide),aG (by decide),aG (by decide),aG (by decide),aL (by decide),hf];show sK [41] (t2::r) _=_;rw [sK,fH,ht2,aL (by decide)]
 rfl
end Go.Proofs.YtidclioghdbphaaGreatDoor
/- Plain: expressions with all parentheses are read back: the cases beside two operands. -/
namespace Go.Proofs.YtidclioghdbphaaGreatDoor
mutual
def UN:Ex->List Kt
 | .mk op nm n args=>match aU1 args with
  | []=>ktE (.mk op nm n [])
  | [b]=>if op=6 then (1,nm)::(4,[91])::(b++[(4,[93])]) else if op=7 then (2,[104,97,115])::(1,nm)::(4,[91])::(b++[(4,[93])])
   else if op=9 then (4,[45])::QL b else (2,[110,111,116])::QL b
  | a::b::_=>QL a++DP op::QL b
def aU1:List Ex->List (List Kt)
 | []=>[]
 | e::r=>UN e::aU1 r
end
mutual
def ZX:Ex->Str
 | .mk op nm n args=>match aU0 args with
  | []=>Ex.text (.mk op nm n [])
  | [b]=>if op=6 then nm++91::(b++[93]) else if op=7 then [104,97,115]++32::(nm++91::(b++[93]))
   else if op=9 then 45::32::40::(b++[41]) else [110,111,116]++32::40::(b++[41])
  | a::b::_=>40::(a++41::((eF op).tx++40::(b++[41])))
def aU0:List Ex->List Str
 | []=>[]
 | e::r=>ZX e::aU0 r
end
def LxF (e:Ex):Prop:=∀ r ks,rH r->Lx r ks->Lx (ZX e++r) (UN e++ks)/\hdB (ZX e++r)
variable {r:Str} {ks:List Kt}
theorem LxF.par {e:Ex} (h:LxF e) (hr:hdB r) (hk:Lx r ks):Lx (40::(ZX e++41::r)) (QL (UN e)++ks):=by
 obtain ⟨k1,k2⟩:=h (41::r) ((4,[41])::ks) BM (.sy (by decide) hr hk);have e2:QL (UN e)++ks=(4,[40])::(UN e++(4,[41])::ks):=by simp [QL]
 rw [e2];exact .sy (by decide) k2 k1
variable {n:Nat}
theorem TF {c:UInt8} {k:UInt8} (h:cI (c::r)=(k,n)) (h5:k≠5) :
 (pJ c=true/\n=pre jC (c::r)/\(if words.contains ((c::r).take n) then (2:UInt8) else if n<=12 then 1 else 5)=k) \/
 (pJ c=false/\iX c=true/\n=pre iX (c::r)/\(n=1\/c≠48)/\k=3) \/
 (pJ c=false/\iX c=false/\k=4/\∃ y,symbols.find? (λx=>x.isPrefixOf (c::r))=some y/\n=y.length):=by
 cases h1:pJ c with
 | true =>
  refine .inl ⟨Z,?_⟩;cases h4:words.contains ((c::r).take (pre jC (c::r))) with
  | true =>
   simp only [cI,aV,h1,h4,bS,iY] at h;obtain ⟨rfl,rfl⟩:=h;exact ⟨Z,by rw [h4];rfl⟩
  | false =>
   by_cases h6:pre jC (c::r)<=12
   ·simp only [cI,aV,h1,h4,h6,bS,aI,bL,iY] at h;obtain ⟨rfl,rfl⟩:=h;exact ⟨Z,by rw [h4,aG (by decide),aL h6]⟩
   ·simp only [cI,aV,h1,h4,h6,bS,aI,bL,iY] at h;exact absurd h.1.symm h5
 | false =>
  cases h4:iX c with
  | true =>
   by_cases h6:pre iX (c::r)=1\/c≠48
   ·simp only [cI,aV,h1,h4,h6,bS,aI,bL,iY] at h;obtain ⟨rfl,rfl⟩:=h;exact .inr (.inl ⟨Z,Z,Z,h6,Z⟩)
   ·simp only [cI,aV,h1,h4,h6,bS,aI,bL,iY] at h;exact absurd h.1.symm h5
  | false =>
   cases hx:symbols.find? (λx=>x.isPrefixOf (c::r)) with
   | none =>
    simp only [cI,aV,h1,h4,hx,aI,bL,iY] at h;exact absurd h.1.symm h5
   | some y =>
    simp only [cI,aV,h1,h4,hx,aI,bL,iY] at h;obtain ⟨rfl,rfl⟩:=h;exact .inr (.inr ⟨Z,Z,Z,y,Z,Z⟩)
theorem bB2 {c:UInt8} {t:Str} (hsh:(c::t).length<=1000000) (hall:(c::t).all iX=true) (h2:t=[]\/c≠48) (hr:∀ d,r.head? = some d->iX d=false):Tok (3,c::t) r:=by
 have hp:pre iX ((c::t)++r)=(c::t).length:=xL hall hr;rw [eE,aE] at hall;have hb:=RN c hall.1;refine ⟨by simp,?_,pZ hb.1 (λe=>hb.2.1 e.1),(show (3:UInt8)≠5 by decide),hsh⟩;show cI ((c::t)++r)=(3,(c::t).length);unfold cI;simp only;rw [show ((c::t)++r).headD 0=c from rfl,hb.2.2.2.2.2,aG (by decide),hall.1,aL rfl,hp];refine aL ?_;rcases h2 with rfl | h2
 ·exact .inl Z
 ·exact .inr h2
variable {w:Str}
theorem FD {q:UInt8->Bool} (h:pre q (w++r)=w.length):w.all q=true/\∀ d,r.head? = some d->q d=false:=by
 induction w with
 | nil =>
  refine ⟨Z,λd hd=>?_⟩;cases r with
  | nil=>cases hd
  | cons e r =>
   obtain rfl:e=d:=bK hd;cases hq:q e with
   | false=>rfl
   | true =>
    rw [bW] at h;unfold pre at h;rw [dT,hq] at h;simp at h
 | cons a w ih =>
  rw [aT] at h;unfold pre at h;rw [dT] at h;cases hq:q a with
  | false=>rw [hq] at h;simp at h
  | true =>
   rw [hq] at h;have:=ih (by unfold pre;simpa using h);exact ⟨by rw [eE,hq,this.1];rfl,this.2⟩
theorem UZ {α:Type} {p q:α->Bool}:∀ {l:List α},(∀ x∈l,p x=q x)->l.find? p=l.find? q
 | [],_=>rfl
 | a::l,h=>by
  rw [List.find?_cons,List.find?_cons,h a (by simp),UZ λx hx=>h x (bT _ hx)]
theorem aC8:∀ w∈symbols,w≠[]/\pJ (w.headD 0)=false/\iX (w.headD 0)=false/\mH (w.headD 0)=false/\w.take 2≠[47,47]/\w.all (λc=>!mH c)=true/\w.length<=2/\symbols.find? (λx=>x.isPrefixOf w)=some w:=by decide +kernel
theorem WU {z a b:Str} (hz:z.length<=2) (h:a.take 2=b.take 2):z.isPrefixOf a=z.isPrefixOf b:=by
 have key:∀ (m:Str),z.isPrefixOf m=z.isPrefixOf (m.take 2):=by
  intro m
  match z,hz,m with
  | [],_,m=>simp [List.isPrefixOf]
  | [x],_,[]=>rfl
  | [x],_,[y]=>rfl
  | [x],_,y::u::m=>rfl
  | [x,x'],_,[]=>rfl
  | [x,x'],_,[y]=>rfl
  | [x,x'],_,y::u::m=>rfl
 rw [key a,key b,h]
theorem Tok.tail {x:Kt} {d:UInt8} {r':Str} (h:Tok x (d::r)):Tok x (d::r'):=by
 obtain ⟨k,w⟩:=x;have hne:=h.ne
 match w,hne with
 | c::t,hne =>
  have hrd:cI (c::(t++d::r))=(k,(c::t).length):=h.read;have htk:(c::(t++d::r)).take (c::t).length=c::t:=by rw [<-aT,iI]
  have h2t:((c::t)++d::r).take 2=((c::t)++d::r').take 2:=by
   cases t with
   | nil=>rfl
   | cons b t=>rfl
  have hsk:gD false ((c::t)++d::r')=(c::t)++d::r':=by
   have h0:gD false (c::(t++d::r))=c::(t++d::r):=h.skip;rw [gD] at h0
   have hb:mH c=false:=by
    cases e:mH c with
    | false=>rfl
    | true =>
     rw [aL e] at h0;have h1:=congrArg List.length h0;have h2:=nO false (t++d::r);rw [aJ] at h1;omega
   rw [aG (by rw [hb];decide)] at h0;refine pZ hb λe=>?_;have e2:(t++d::r').head? = (t++d::r).head? := by cases t <;> rfl
   have e1:c=47/\(t++d::r').head? = some 47:=e;rw [e2] at e1;rw [aL e1] at h0;have h1:=congrArg List.length h0;have h2:=nO true (t++d::r);rw [aJ] at h1;omega
  refine ⟨h.ne,?_,hsk,h.k5,h.sh⟩;show cI ((c::t)++d::r')=(k,(c::t).length);rcases TF hrd h.k5 with ⟨h1,h2,h3⟩ | ⟨h1,h2,h3,h4,h5⟩ | ⟨h1,h2,h3,y,h4,h5⟩
  ·have ha:=FD (w:=c::t) (r:=d::r) h2.symm;have hp:pre jC ((c::t)++d::r')=(c::t).length:=xL ha.1 λe he=>ha.2 e he;rw [htk] at h3;unfold cI;simp only;rw [show ((c::t)++d::r').headD 0=c from rfl,h1,aL rfl,hp,iI]
   split at h3
   ·rename_i e;rw [aL e,<-h3]
   ·rename_i e;rw [aG e]
    split at h3
    ·rename_i e2;rw [aL e2,<-h3]
    ·exact absurd h3.symm h.k5
  ·obtain rfl:k=3:=h5;have ha:=FD (w:=c::t) (r:=d::r) h3.symm;have hp:pre iX ((c::t)++d::r')=(c::t).length:=xL ha.1 λe he=>ha.2 e he;unfold cI;simp only;rw [show ((c::t)++d::r').headD 0=c from rfl,h1,aG (by decide),h2,aL rfl,hp];exact aL h4
  ·obtain rfl:k=4:=h3
   have hf:symbols.find? (λx=>x.isPrefixOf ((c::t)++d::r'))=some y:=by
    rw [<-h4];exact UZ λx hx=>WU (aC8 x hx).2.2.2.2.2.2.1 h2t.symm
   unfold cI;simp only;rw [show ((c::t)++d::r').headD 0=c from rfl,h1,h2,hf];simp [<-h5]
variable {s:Str}
theorem Lx.size {k:List Kt} (h:Lx s k):(k.map λx=>x.2.length).sum<=s.length/\k.length<=(k.map λx=>x.2.length).sum:=by
 induction h with
 | nil=>simp
 | blk _ _ ih=>simp only [aJ];omega
 | @tok x s k ht _ ih =>
  have:=tJ.2 ht.ne;simp only [dG,List.sum_cons,aJ,aF];omega
end Go.Proofs.YtidclioghdbphaaGreatDoor
namespace Go.Proofs.YtidclioghdbphaaGreatDoor
open Go.RowKit Go.Par Go.Sx Tryz
def tqN (n:Str):List Kt:=match eJ n with | some (a,b)=>[(1,a),(4,[46]),(1,b)] | none=>[(1,n)]
def prQ (b:Bool) (l:List Kt):List Kt:=if b then (4,[40])::(l++[(4,[41])]) else l
def hdQ (l:List (UInt8 × List Kt)):UInt8 × List Kt:=l.headD (0,[])
def tqO (op:UInt8) (nm:Str) (n:Int64) (l:List (UInt8 × List Kt)):List Kt :=
 if op=1 then [(3,Lib.itoa n.toInt)]
 else if op=4 then [(2,[110,111,119])]
 else if op=5 then tqN nm
 else if op=6 then tqN nm++((4,[91])::((hdQ l).2++[(4,[93])]))
 else if op=8 then (2,[115,105,122,101])::tqN nm
 else if op=9 then (4,[45])::prQ (decide (tlv (hdQ l).1<6)) (hdQ l).2
 else if op=11\/op=12\/op=13\/op=14\/op=15 then
  prQ (decide (tlv (hdQ l).1<tlv op)) (hdQ l).2++(4,xE op)::prQ (decide (tlv (hdQ (l.drop 1)).1<tlv op+1)) (hdQ (l.drop 1)).2
 else [(4,[95])]
mutual
def tqT:Ex->List Kt
 | .mk op nm n args=>tqO op nm n (bA9 args)
def bA9:List Ex->List (UInt8 × List Kt)
 | []=>[]
 | e::r=>(e.op,tqT e)::bA9 r
end
theorem SI:∀ l,bA9 l=l.map λe=>(e.op,tqT e)
 | []=>rfl
 | e::r=>by rw [bA9,SI r];rfl
theorem aM2 {op:UInt8} {nm:Str} {n:Int64} {args:List Ex} :tqT (.mk op nm n args)=tqO op nm n (args.map λe=>(e.op,tqT e)):=by rw [tqT,SI]
def nmQ (n:Str):Bool:=match eJ n with | some (a,b)=>fQ a && fQ b | none=>fQ n
theorem sI:∀ {n a b:Str},eJ n=some (a,b)->n=a++([46]:Str)++b
 | [],_,_,h=>by cases h
 | c::r,a,b,h=>by
  rw [eJ] at h
  split at h
  ·rename_i hc;cases h;rw [hc];rfl
  ·cases hs:eJ r with
   | none=>rw [hs] at h;cases h
   | some x =>
    obtain ⟨y,z⟩:=x;rw [hs] at h;cases h;rw [sI hs];rfl
def wrB (r:Str):Prop:=∀ c,r.head? = some c->jC c=false
variable {w r:Str}
theorem aC6 (hw:fQ w=true) (hr:wrB r):Tok (1,w) r:=by
 obtain ⟨h1,hl,hw,h4,h5⟩:=lL hw
 match w,h1 with
 | c::t,h0 =>
  have hlb:=FL c hl;have hp:pre jC ((c::t)++r)=(c::t).length:=xL hw λd hd=>hr d hd;refine ⟨h0,?_,?_,(show (1:UInt8)≠5 by decide),(by show (c::t).length<=1000000;omega)⟩
  ·show cI ((c::t)++r)=(1,(c::t).length);unfold cI;simp only;rw [show ((c::t)++r).headD 0=c from rfl,show pJ c=true from hl,aL rfl,hp,iI,h4,aG (by decide),aL h5]
  ·exact pZ hlb.1 (λe=>hlb.2.1 e.1)
theorem Lx.nw {k:List Kt} (hw:fQ w=true) (hr:wrB r) (h:Lx r k):Lx (w++r) ((1,w)::k):=.tok (x:=(1,w)) (aC6 hw hr) h
theorem bM7:Tok (4,[95]) r:=by
 refine ⟨by simp,?_,?_,(show (4:UInt8)≠5 by decide),(by show (1:Nat)<=_;omega)⟩
 ·show cI (95::r)=(4,1);simp [cI,pJ,iX,symbols,List.find?,List.isPrefixOf]
 ·show gD false (95::r)=95::r;simp [gD,mH]
theorem bM8:Tok (4,[46,46]) r:=by
 refine ⟨by simp,?_,?_,(show (4:UInt8)≠5 by decide),(by show (2:Nat)<=_;omega)⟩
 ·show cI (46::46::r)=(4,2);simp [cI,pJ,iX,symbols,List.find?,List.isPrefixOf]
 ·show gD false (46::46::r)=46::46::r;simp [gD,mH]
theorem aM5 {u:Nat} (hu:u<=9223372036854775808) (hr:∀ d,r.head? = some d->iX d=false):Tok (3,Lib.decDigits u) r:=by
 have hdl:=aA8 hu;obtain ⟨c,t,e,h2,_⟩:=HN u
 have hall:(Lib.decDigits u).all iX=true:=aW.2 λd hd=>by
  have:=Plain.digits_are u d hd;simp only [iX,aE,aD];exact this
 rw [e] at hall hdl|-;exact bB2 (by omega) hall h2 hr
theorem Lx.nd {u:Nat} {k:List Kt} (hu:u<=9223372036854775808) (hr:∀ d,r.head? = some d->iX d=false) (h:Lx r k):Lx (Lib.decDigits u++r) ((3,Lib.decDigits u)::k):=.tok (x:=(3,Lib.decDigits u)) (aM5 hu hr) h
theorem KW {n:Int64} (h:0<=n.toInt) {k:List Kt} (hr:∀ d,r.head? = some d->iX d=false) (hk:Lx r k):Lx (Lib.itoa n.toInt++r) ((3,Lib.itoa n.toInt)::k)/\hdB (Lib.itoa n.toInt++r):=by
 rw [Lib.itoa,aG (by omega)];exact ⟨.nd bM0 hr hk,XA⟩
theorem EZ (h:rH r):∀ d,r.head? = some d->iX d=false:=λd e=>ZT d (h d e).1
def LxN (s:Str) (q:List Kt):Prop:=∀ r ks,rH r->Lx r ks->Lx (s++r) (q++ks)/\hdB (s++r)
theorem XE {n:Str} (h:nmQ n=true):LxN n (tqN n):=by
 intro r ks hr hk;unfold nmQ at h;unfold tqN;cases hs:eJ n with
 | none =>
  rw [hs] at h;exact ⟨.nm h hr hk,tC h⟩
 | some x =>
  obtain ⟨a,b⟩:=x;rw [hs] at h;simp only [aE] at h;rw [sI hs];simp only [aZ,aT,bW];exact ⟨.nw h.1 (λc e=>by cases e;decide) (.sy (by decide) (tC h.2) (.nm h.2 hr hk)),tC h.1⟩
variable {s:Str}
theorem xX {q:List Kt} (h:LxN s q) (b:Bool):LxN (yM b s) (prQ b q):=by
 intro r ks hr hk;unfold yM prQ
 split
 ·simp only [aT,bW,aZ];obtain ⟨h1,h2⟩:=h (41::r) ((4,[41])::ks) BM (.sy (by decide) hr.hd hk);exact ⟨.sy (by decide) h2 h1,fC (by decide)⟩
 ·exact h r ks hr hk
theorem bB3:∀ op∈([11,12,13,14,15,16,17,18,19,20,21]:List UInt8),xE op∈bB4\/∃ c∈aN4,xE op=[c]:=by decide +kernel
theorem aR5 {op:UInt8} (h:op∈([11,12,13,14,15,16,17,18,19,20,21]:List UInt8)) {k:List Kt} (hk:Lx r k):Lx ([32]++(xE op++([32]++r))) ((4,xE op)::k):=by
 refine .sp ?_;have hs:Lx ([32]++r) k:=hk.sp;rcases bB3 op h with hw | ⟨c,hc,hw⟩
 ·exact .tok (x:=(4,xE op)) (PK hw) hs
 ·rw [hw];exact .sy hc iE.hd hs
theorem GY {op:UInt8} {nm:Str} {n:Int64} {args:List Ex} (h:qO (.mk op nm n args)=false):(op=5\/op=6\/op=8->nmQ nm=true)/\(op=6\/op=8->(eJ nm).isSome=true)/\∀ a∈args,qO a=false:=by
 rw [bG2,bM9,sP] at h;obtain ⟨h1,h2⟩:=h;rw [Bool.not_eq_false'] at h1;unfold tnB at h1;refine ⟨λho=>?_,λho=>?_,λa ha=>?_⟩
 ·rw [aL ho] at h1;unfold nmQ;cases hs:eJ nm with
  | none=>rw [hs] at h1;simp only [aE] at h1;exact h1.2
  | some x=>rw [hs] at h1;exact h1
 ·rw [aL (.inr ho)] at h1;cases hs:eJ nm with
  | none=>rw [hs] at h1;rcases ho with rfl | rfl <;> simp at h1
  | some x=>rfl
 ·cases hm:qO a with
  | false=>rfl
  | true=>rw [fY.2 ⟨a,ha,hm⟩] at h2;cases h2
theorem JX {op:UInt8} {nm:Str} {n:Int64} {args:List Ex} (h:eP (.mk op nm n args)=true) :
 (op=1/\nm=[]/\0<=n.toInt/\args=[])\/(op=4/\nm=[]/\n=0/\args=[])\/((op=5\/op=8)/\n=0/\args=[])\/(op=6/\n=0/\∃ a,args=[a]/\eP a=true)\/(op=9/\nm=[]/\n=0/\∃ a,args=[a]/\eP a=true) \/
 (op∈([11,12,13,14,15]:List UInt8)/\nm=[]/\n=0/\∃ a b,args=[a,b]/\eP a=true/\eP b=true):=by
 rw [eP] at h
 split at h
 ·rename_i e;simp only [aE,aD] at h;exact .inl ⟨e,h.1.1,h.1.2,bI h.2⟩
 split at h
 ·rename_i e;simp only [aE,aD] at h;exact .inr (.inl ⟨e,h.1.1,h.1.2,bI h.2⟩)
 split at h
 ·rename_i e;simp only [aE,aD] at h;exact .inr (.inr (.inl ⟨e,h.1,bI h.2⟩))
 split at h
 ·rename_i e;simp only [aE,aD,sB] at h;obtain ⟨a,rfl⟩:=gZ h.2.2;exact .inr (.inr (.inr (.inl ⟨e,h.1,a,Z,by simpa using h.2.1⟩)))
 split at h
 ·rename_i e;simp only [aE,aD,sB] at h;obtain ⟨a,rfl⟩:=gZ h.2.2;exact .inr (.inr (.inr (.inr (.inl ⟨e,h.1.1,h.1.2,a,Z,by simpa using h.2.1⟩))))
 split at h
 ·rename_i e;simp only [aE,aD,sB] at h;obtain ⟨a,b,rfl⟩:=oD (l:=args) h.2.2;refine .inr (.inr (.inr (.inr (.inr ⟨?_,h.1.1,h.1.2,a,b,Z,?_⟩))))
  ·simpa using e
  ·simpa using h.2.1
 ·cases h
theorem TZ (e:Ex):eP e=true->qO e=false->LxN (tmT e) (tqT e):=by
 induction e using Ex.ind with
 | _ op nm n args ih =>
  intro h hm r ks hr hk;obtain ⟨m1,m2,m3⟩:=GY hm;rcases JX h with ⟨rfl,rfl,hn,rfl⟩ | ⟨rfl,rfl,rfl,rfl⟩ | ⟨ho,rfl,rfl⟩ | ⟨rfl,rfl,a,rfl,ha⟩ | ⟨rfl,rfl,rfl,a,rfl,ha⟩ | ⟨ho,rfl,rfl,a,b,rfl,ha,hb⟩
  ·exact KW hn (EZ hr) hk
  ·exact ⟨Lx.kw (w:=[110,111,119]) (by decide) hr hk,tO (w:=[110,111,119]) (by decide)⟩
  ·rcases ho with rfl | rfl
   ·exact XE (m1 (.inl Z)) r ks hr hk
   ·obtain ⟨k1,_⟩:=XE (m1 (.inr (.inr Z))) r ks hr hk;exact ⟨Lx.kw (w:=[115,105,122,101]) (by decide) iE (.sp k1),tO (w:=[115,105,122,101]) (by decide)⟩
  ·obtain ⟨k1,k2⟩:=ih a (by simp) ha (m3 a (by simp)) (93::r) ((4,[93])::ks) HQ (.sy (by decide) hr.hd hk);obtain ⟨k3,k4⟩:=XE (m1 (.inr (.inl Z))) (91::(tmT a++93::r)) ((4,[91])::(tqT a++(4,[93])::ks)) EA (.sy (by decide) k2 k1);have e1:tmT (.mk 6 nm 0 [a])++r=nm++(91::(tmT a++93::r)):=by rw [wD];simp [WF]
   have e2:tqT (.mk 6 nm 0 [a])++ks=tqN nm++((4,[91])::(tqT a++(4,[93])::ks)):=by rw [aM2];simp [tqO,hdQ]
   rw [e1,e2];exact ⟨k3,k4⟩
  ·obtain ⟨k1,k2⟩:=xX (ih a (by simp) ha (m3 a (by simp))) (decide (tlv a.op<6)) r ks hr hk;exact ⟨.sy (c:=45) (by decide) k2 k1,fC (by decide)⟩
  ·have ho2:op=11\/op=12\/op=13\/op=14\/op=15:=by simpa using ho
   obtain ⟨k1,_⟩:=xX (ih b (by simp) hb (m3 b (by simp))) (decide (tlv b.op<tlv op+1)) r ks hr hk;have k2:=aR5 (op:=op) (by rcases ho2 with rfl | rfl | rfl | rfl | rfl <;> decide) k1;obtain ⟨k3,k4⟩:=xX (ih a (by simp) ha (m3 a (by simp))) (decide (tlv a.op<tlv op)) _ _ iE k2
   have e1:tmT (.mk op [] 0 [a,b])++r=yM (decide (tlv a.op<tlv op)) (tmT a)++([32]++(xE op++([32]++(yM (decide (tlv b.op<tlv op+1)) (tmT b)++r)))):=by
    rw [tmb ho2 (by simp) (by simp)];simp only [aZ];rfl
   have e2:tqT (.mk op [] 0 [a,b])++ks=prQ (decide (tlv a.op<tlv op)) (tqT a)++(4,xE op)::(prQ (decide (tlv b.op<tlv op+1)) (tqT b)++ks):=by
    rw [aM2];rcases ho2 with rfl | rfl | rfl | rfl | rfl <;> simp [tqO,hdQ]
   rw [e1,e2];exact ⟨k3,k4⟩
def XG (n:Int):List Kt:=if n<0 then [(4,[45]),(3,Lib.decDigits n.natAbs)] else [(3,Lib.itoa n)]
theorem aR6 {n:Int64} {k:List Kt} (hr:∀ d,r.head? = some d->iX d=false) (hk:Lx r k):Lx (Lib.itoa n.toInt++r) (XG n.toInt++k)/\hdB (Lib.itoa n.toInt++r):=by
 unfold XG
 by_cases h:n.toInt<0
 ·rw [aL h,Lib.itoa,aL h];have:=n.le_toInt;exact ⟨.sy (c:=45) (by decide) XA (.nd (by omega) hr hk),fC (by decide)⟩
 ·rw [aG h];exact KW (by omega) hr hk
def uV (f:Fm):List Kt:=if !(cJ f.op).wn || decide (f.b.toInt<0) then [] else [(4,[91]),(3,Lib.itoa f.a.toInt),(4,[44]),(3,Lib.itoa f.b.toInt),(4,[93])]
def IV (f:Fm):List Kt:=(1,f.nm)::(2,[105,110])::(XG f.a.toInt++(4,[46,46])::XG f.b.toInt)
def DV:List (List Kt)->List Kt
 | []=>[]
 | [x]=>x
 | x::r=>x++(4,[44])::DV r
def fqO (f:Fm) (l:List (UInt8 × List Kt)):List Kt :=
 if f.op=3 then tqT (ex0 (exH f))++(4,xE (exH f).op)::tqT (ex1 (exH f))
 else if f.op=4 then [(1,f.nm),(4,[46]),(1,f.fd)]
 else if f.op=5 then (2,[104,97,115])::(1,f.nm)::(4,[46])::(1,f.fd)::(4,[91])::(tqT (exH f)++[(4,[93])])
 else if f.op=6 then [(2,[102,108,97,103]),(1,f.nm)]
 else if f.op=7 then (2,[97,114,114,105,118,101,115])::(1,f.nm)::(4,[46])::(1,f.fd)::(4,[40])::(DV (f.ex.map tqT)++[(4,[41])])
 else if f.op=8\/f.op=12\/f.op=13\/f.op=14 then (2,gA f.op)::(uV f++prQ (decide ((cJ (hdQ l).1).lv<5)) (hdQ l).2)
 else if f.op=16\/f.op=17 then (2,gA f.op)::(IV f++prQ (decide ((cJ (hdQ l).1).lv<5)) (hdQ l).2)
 else if f.op=18 then (2,gA f.op)::(IV f++(4,[40])::((hdQ l).2++(4,[41])::(4,[62,61])::tqT (exH f)))
 else if f.op=15\/f.op=9\/f.op=10\/f.op=11 then
  prQ (decide ((cJ (hdQ l).1).lv<(cJ f.op).lv)) (hdQ l).2++(2,gA f.op)::(uV f++prQ (decide ((cJ (hdQ (l.drop 1)).1).lv<(cJ f.op).lv+1)) (hdQ (l.drop 1)).2)
 else [(2,gA f.op)]
mutual
def tqF:Fm->List Kt
 | .mk op nm fd a b ex args=>fqO (.mk op nm fd a b ex args) (bB0 args)
def bB0:List Fm->List (UInt8 × List Kt)
 | []=>[]
 | f::r=>(f.op,tqF f)::bB0 r
end
theorem SJ:∀ l,bB0 l=l.map λf=>(f.op,tqF f)
 | []=>rfl
 | e::r=>by rw [bB0,SJ r];rfl
variable {a:Int64}
theorem DC {op:UInt8} {nm fd:Str} {b:Int64} {ex:List Ex} {args:List Fm} :tqF (.mk op nm fd a b ex args)=fqO (.mk op nm fd a b ex args) (args.map λf=>(f.op,tqF f)):=by rw [tqF,SJ]
def bnW (a b:Int64):Prop:=(a=0/\b=-1)\/(0<=a.toInt/\a.toInt<=b.toInt/\b.toInt<=200)
inductive Fg7:Fm->Prop
 | tf {op:UInt8} (h:op=1\/op=2):Fg7 (.mk op [] [] 0 0 [] [])
 | cmp {o:UInt8} {x y:Ex} (h:o∈([16,17,18,19,20,21]:List UInt8)) (hx:eP x=true) (hy:eP y=true):Fg7 (.mk 3 [] [] 0 0 [.mk o [] 0 [x,y]] [])
 | var {nm fd:Str}:Fg7 (.mk 4 nm fd 0 0 [] [])
 | has {nm fd:Str} {x:Ex} (hx:eP x=true):Fg7 (.mk 5 nm fd 0 0 [x] [])
 | flg {nm:Str}:Fg7 (.mk 6 nm [] 0 0 [] [])
 | arr {nm fd:Str} {ex:List Ex} (hl:ex.length<=4) (hx:∀ x∈ex,x=zE\/eP x=true):Fg7 (.mk 7 nm fd 0 0 ex [])
 | un {op:UInt8} {g:Fm} (h:op=8\/op=12):Fg7 (.mk op [] [] 0 0 [] [g])
 | win {op:UInt8} {a b:Int64} {g:Fm} (h:op=13\/op=14) (hw:bnW a b):Fg7 (.mk op [] [] a b [] [g])
 | amo {op:UInt8} {nm:Str} {a b:Int64} {g:Fm} (h:op=16\/op=17) (ha:-1000000<=a.toInt) (hb:-1000000<=b.toInt):Fg7 (.mk op nm [] a b [] [g])
 | cnt {nm:Str} {a b n:Int64} {g:Fm} (ha:-1000000<=a.toInt) (hb:-1000000<=b.toInt) (hn:0<=n.toInt):Fg7 (.mk 18 nm [] a b [.mk 1 [] n []] [g])
 | bin {op:UInt8} {g h:Fm} (ho:op=9\/op=10\/op=11):Fg7 (.mk op [] [] 0 0 [] [g,h])
 | snc {a b:Int64} {g h:Fm} (hw:bnW a b):Fg7 (.mk 15 [] [] a b [] [g,h])
theorem cA1 {op:UInt8} (h:op.toNat<=18):op∈([0,1,2,3,4,5,6,7,8,9,10,11,12,13,14,15,16,17,18]:List UInt8):=by
 revert h
 exact AY (q:=λop=>op.toNat<=18->op∈([0,1,2,3,4,5,6,7,8,9,10,11,12,13,14,15,16,17,18]:List UInt8)) (by decide +kernel) op
theorem bO1 {op:UInt8} (h:16<=op.toNat/\op.toNat<=21):op∈([16,17,18,19,20,21]:List UInt8):=by
 revert h
 exact AY (q:=λop=>16<=op.toNat/\op.toNat<=21->op∈([16,17,18,19,20,21]:List UInt8)) (by decide +kernel) op
theorem bS6 {e:Ex} (h:HS e=true):e=zE:=by
 obtain ⟨op,nm,n,args⟩:=e;simp only [HS,aE,aD] at h;obtain ⟨⟨⟨rfl,rfl⟩,rfl⟩,h⟩:=h;rw [bI h];rfl
theorem MP {α:Type} {l:List α} (h:l.length=1):∃ a,l=[a]:=List.length_eq_one_iff.1 h
theorem aS3 {α:Type} {l:List α} (h:l.length=2):∃ a b,l=[a,b]:=by
 match l,h with
 | [a,b],_=>exact ⟨a,b,Z⟩
theorem bX6 {op:UInt8} {nm fd:Str} {b:Int64} {ex:List Ex} {args:List Fm} (h:GE (.mk op nm fd a b ex args)=true):(((cJ op).wn=true/\bnW a b)\/((cJ op).wn=false/\(cJ op).am=true/\-1000000<=a.toInt/\-1000000<=b.toInt))\/((cJ op).wn=false/\(cJ op).am=false/\a=0/\b=0):=by
 replace h:(if (cJ op).wn=true then (decide (a=0) && decide (b.toInt=-1)) || (decide (0<=a.toInt) && decide (a.toInt<=b.toInt) && decide (b.toInt<=200))
  else if (cJ op).am=true then decide (-1000000<=a.toInt) && decide (a.toInt<=b.toInt) && decide (b.toInt<=1000000) && decide (b.toInt - a.toInt<32)
  else decide (a=0) && decide (b=0))=true:=h
 cases hw:(cJ op).wn with
 | true =>
  rw [aL hw] at h;simp only [bC,aE,aD] at h;refine .inl (.inl ⟨Z,?_⟩);rcases h with h | h
  ·exact .inl ⟨h.1,dQ.1 h.2⟩
  ·exact .inr ⟨h.1.1,h.1.2,h.2⟩
 | false =>
  rw [aG (by rw [hw];decide)] at h;cases ha:(cJ op).am with
  | true =>
   rw [aL ha] at h;simp only [aE,aD] at h;exact .inl (.inr ⟨Z,Z,by omega,by omega⟩)
  | false =>
   rw [aG (by rw [ha];decide)] at h;simp only [aE,aD] at h;exact .inr ⟨Z,Z,h.1,h.2⟩
theorem bS2 {e:Ex} (h:IU e=true):∃ o x y,e=.mk o [] 0 [x,y]/\o∈([16,17,18,19,20,21]:List UInt8)/\eP x=true/\eP y=true:=by
 obtain ⟨o,nm,n,args⟩:=e;simp only [IU,aE,aD,sB] at h;obtain ⟨⟨⟨⟨h1,h2⟩,rfl⟩,rfl⟩,h3,h4⟩:=h;obtain ⟨x,y,rfl⟩:=aS3 h4;have h3':eP x=true/\eP y=true:=by simpa using h3
 exact ⟨o,x,y,Z,bO1 ⟨h1,h2⟩,h3'.1,h3'.2⟩
theorem JI {op:UInt8} {nm fd:Str} {b:Int64} {ex:List Ex} {args:List Fm} (h:jX (.mk op nm fd a b ex args)=true):Fg7 (.mk op nm fd a b ex args):=by
 have hop:=cA1 (aA0 h);have hB:=bX6 (kB h).2.2.2;have hE:=(kB h).2.2.1;have hA:=(kB h).2.1;have hL:=(kB h).1
 have hN:((cJ op).nm=false->nm=[])/\((cJ op).fd=false->fd=[]):=by
  unfold jX at h;rw [aE,aE,aE,aE,aE,bC,bC] at h;exact ⟨λe=>aH (h.1.1.1.1.2.resolve_left (by show ¬ (cJ op).nm=true;rw [e];decide)),λe=>aH (h.1.1.1.2.resolve_left (by show ¬ (cJ op).fd=true;rw [e];decide))⟩
 clear h
 replace hE:(if op=7 then decide (ex.length<=4) && ex.all λe=>HS e || eP e
  else decide (ex.length=(cJ op).ex) && (if op=3 then IU (ex.headD (.mk 0 [] 0 [])) else if op=5 then eP (ex.headD (.mk 0 [] 0 []))
  else if op=18 then decide ((ex.headD (.mk 0 [] 0 [])).op=1) && eP (ex.headD (.mk 0 [] 0 [])) && decide ((ex.headD (.mk 0 [] 0 [])).n.toInt<=32) else true))=true:=hE
 have ab:(cJ op).wn=false->(cJ op).am=false->a=0/\b=0:=λh1 h2=>by
  rcases hB with (⟨e,_⟩ | ⟨_,e,_⟩) | ⟨_,_,e⟩
  ·rw [h1] at e;cases e
  ·rw [h2] at e;cases e
  ·exact e
 have aw:(cJ op).wn=true->bnW a b:=λh1=>by
  rcases hB with (⟨_,e⟩ | ⟨e,_⟩) | ⟨e,_⟩
  ·exact e
  ·rw [h1] at e;cases e
  ·rw [h1] at e;cases e
 have am:(cJ op).wn=false->(cJ op).am=true->-1000000<=a.toInt/\-1000000<=b.toInt:=λh1 h2=>by
  rcases hB with (⟨e,_⟩ | ⟨_,_,e⟩) | ⟨_,e,_⟩
  ·rw [h1] at e;cases e
  ·exact e
  ·rw [h2] at e;cases e
 clear hB;simp only [bM,List.not_mem_nil,or_false] at hop
 have e0 {op:UInt8} (h7:¬ op=7) (h3:¬ op=3) (h5:¬ op=5) (h18:¬ op=18) (k:(cJ op).ex=0) (hE:(if op=7 then decide (ex.length<=4) && ex.all λe=>HS e || eP e
  else decide (ex.length=(cJ op).ex) && (if op=3 then IU (ex.headD (.mk 0 [] 0 [])) else if op=5 then eP (ex.headD (.mk 0 [] 0 []))
  else if op=18 then decide ((ex.headD (.mk 0 [] 0 [])).op=1) && eP (ex.headD (.mk 0 [] 0 [])) && decide ((ex.headD (.mk 0 [] 0 [])).n.toInt<=32) else true))=true):ex=[]:=by
  rw [aG h7,aG h3,aG h5,aG h18,aC,aD,k] at hE;exact bI hE
 rcases hop with rfl | rfl | rfl | rfl | rfl | rfl | rfl | rfl | rfl | rfl | rfl | rfl | rfl | rfl | rfl | rfl | rfl | rfl | rfl
 ·exact absurd rfl hL
 ·obtain ⟨rfl,rfl⟩:=ab rfl rfl;obtain rfl:=hN.1 rfl;obtain rfl:=hN.2 rfl;obtain rfl:=e0 (by decide) (by decide) (by decide) (by decide) rfl hE;obtain rfl:=bI hA;exact .tf (.inl Z)
 ·obtain ⟨rfl,rfl⟩:=ab rfl rfl;obtain rfl:=hN.1 rfl;obtain rfl:=hN.2 rfl;obtain rfl:=e0 (by decide) (by decide) (by decide) (by decide) rfl hE;obtain rfl:=bI hA;exact .tf (.inr Z)
 ·obtain ⟨rfl,rfl⟩:=ab rfl rfl;obtain rfl:=hN.1 rfl;obtain rfl:=hN.2 rfl;obtain rfl:=bI hA;rw [aG (by decide),aL rfl,aE,aD] at hE;obtain ⟨e,rfl⟩:=MP hE.1;obtain ⟨o,x,y,rfl,h1,h2,h3⟩:=bS2 hE.2;exact .cmp h1 h2 h3
 ·obtain ⟨rfl,rfl⟩:=ab rfl rfl;obtain rfl:=e0 (by decide) (by decide) (by decide) (by decide) rfl hE;obtain rfl:=bI hA;exact .var
 ·obtain ⟨rfl,rfl⟩:=ab rfl rfl;obtain rfl:=bI hA;rw [aG (by decide),aG (by decide),aL rfl,aE,aD] at hE;obtain ⟨e,rfl⟩:=MP hE.1;exact .has hE.2
 ·obtain ⟨rfl,rfl⟩:=ab rfl rfl;obtain rfl:=hN.2 rfl;obtain rfl:=e0 (by decide) (by decide) (by decide) (by decide) rfl hE;obtain rfl:=bI hA;exact .flg
 ·obtain ⟨rfl,rfl⟩:=ab rfl rfl;obtain rfl:=bI hA;rw [aL rfl,aE,aD] at hE;refine .arr hE.1 λx hx=>?_;have:=aW.1 hE.2 x hx;rw [bC] at this;exact this.imp bS6 id
 ·obtain ⟨rfl,rfl⟩:=ab rfl rfl;obtain rfl:=hN.1 rfl;obtain rfl:=hN.2 rfl;obtain rfl:=e0 (by decide) (by decide) (by decide) (by decide) rfl hE;obtain ⟨g,rfl⟩:=MP hA;exact .un (.inl Z)
 ·obtain ⟨rfl,rfl⟩:=ab rfl rfl;obtain rfl:=hN.1 rfl;obtain rfl:=hN.2 rfl;obtain rfl:=e0 (by decide) (by decide) (by decide) (by decide) rfl hE;obtain ⟨g,h,rfl⟩:=aS3 hA;exact .bin (.inl Z)
 ·obtain ⟨rfl,rfl⟩:=ab rfl rfl;obtain rfl:=hN.1 rfl;obtain rfl:=hN.2 rfl;obtain rfl:=e0 (by decide) (by decide) (by decide) (by decide) rfl hE;obtain ⟨g,h,rfl⟩:=aS3 hA;exact .bin (.inr (.inl Z))
 ·obtain ⟨rfl,rfl⟩:=ab rfl rfl;obtain rfl:=hN.1 rfl;obtain rfl:=hN.2 rfl;obtain rfl:=e0 (by decide) (by decide) (by decide) (by decide) rfl hE;obtain ⟨g,h,rfl⟩:=aS3 hA;exact .bin (.inr (.inr Z))
 ·obtain ⟨rfl,rfl⟩:=ab rfl rfl;obtain rfl:=hN.1 rfl;obtain rfl:=hN.2 rfl;obtain rfl:=e0 (by decide) (by decide) (by decide) (by decide) rfl hE;obtain ⟨g,rfl⟩:=MP hA;exact .un (.inr Z)
 ·obtain rfl:=hN.1 rfl;obtain rfl:=hN.2 rfl;obtain rfl:=e0 (by decide) (by decide) (by decide) (by decide) rfl hE;obtain ⟨g,rfl⟩:=MP hA;exact .win (.inl Z) (aw Z)
 ·obtain rfl:=hN.1 rfl;obtain rfl:=hN.2 rfl;obtain rfl:=e0 (by decide) (by decide) (by decide) (by decide) rfl hE;obtain ⟨g,rfl⟩:=MP hA;exact .win (.inr Z) (aw Z)
 ·obtain rfl:=hN.1 rfl;obtain rfl:=hN.2 rfl;obtain rfl:=e0 (by decide) (by decide) (by decide) (by decide) rfl hE;obtain ⟨g,h,rfl⟩:=aS3 hA;exact .snc (aw Z)
 ·obtain rfl:=hN.2 rfl;obtain rfl:=e0 (by decide) (by decide) (by decide) (by decide) rfl hE;obtain ⟨g,rfl⟩:=MP hA;exact .amo (.inl Z) (am Z Z).1 (am Z Z).2
 ·obtain rfl:=hN.2 rfl;obtain rfl:=e0 (by decide) (by decide) (by decide) (by decide) rfl hE;obtain ⟨g,rfl⟩:=MP hA;exact .amo (.inr Z) (am Z Z).1 (am Z Z).2
 ·obtain rfl:=hN.2 rfl;obtain ⟨g,rfl⟩:=MP hA;rw [aG (by decide),aG (by decide),aG (by decide),aL rfl,aE,aD] at hE;obtain ⟨e,rfl⟩:=MP hE.1;have hE2:=hE.2;simp only [aV,aE,aD] at hE2;obtain ⟨o,m,n,al⟩:=e;obtain ⟨⟨ho,ht⟩,_⟩:=hE2;obtain rfl:o=1:=by first | exact ho | exact aH ho
  rcases JX ht with ⟨_,rfl,h3,rfl⟩ | ⟨k,_⟩ | ⟨k,_⟩ | ⟨k,_⟩ | ⟨k,_⟩ | ⟨k,_⟩
  ·exact .cnt (am Z Z).1 (am Z Z).2 h3
  ·cases k
  ·rcases k with k | k <;> cases k
  ·cases k
  ·cases k
  ·exact absurd k (by decide)
theorem QV {op:UInt8} {nm fd:Str} {b:Int64} {ex:List Ex} {args:List Fm} (h:tM (.mk op nm fd a b ex args)=true):((cJ op).nm=true->fQ nm=true)/\((cJ op).fd=true->fQ fd=true)/\∀ e∈ex,qO e=false:=by
 replace h:(!((cJ op).nm && !fQ nm || (cJ op).fd && !fQ fd) && !IH ex)=true:=h;simp only [aE,dR,sP,yE,Bool.not_eq_false'] at h;obtain ⟨⟨h1,h2⟩,h3⟩:=h;refine ⟨λe=>h1.resolve_left (by rw [e];decide),λe=>h2.resolve_left (by rw [e];decide),λe he=>?_⟩;rw [GZ] at h3;cases hm:qO e with
 | false=>rfl
 | true=>rw [fY.2 ⟨e,he,hm⟩] at h3;cases h3
section
variable {l:Tks} {r r' r1 r2 ra:Rq} {w w':Str} {k:UInt8} {N x n:Fn} {m:Bool} {i j b:Nat}
def Sps (l:Tks):Rq->List Kt->Rq->Prop
 | r,[],r'=>r.er=0/\r'=r
 | r,x::ks,r'=>(r.er=0/\kt (tkf l r.i)=x)/\Sps l r.nx ks r'
theorem oK:∀ {ks:List Kt} {r r':Rq},Sps l r ks r'->r.er=0/\r'.er=0
 | [],_,_,⟨h,e⟩=>by subst e;exact ⟨h,h⟩
 | _::_,_,_,⟨h,h2⟩=>⟨h.1,(oK h2).2⟩
theorem lC:∀ {a b:List Kt} {r r':Rq},Sps l r (a++b) r'->∃ m,Sps l r a m/\Sps l m b r'
 | [],_,r,_,h=>⟨r,⟨(oK h).1,Z⟩,h⟩
 | _::_,_,_,_,⟨h,h2⟩=>by
  obtain ⟨m,p,q⟩:=lC h2;exact ⟨m,⟨h,p⟩,q⟩
theorem aN9:∀ (ks:List Kt) (i:Nat),(∀ j (h:j<ks.length),kt (tkf l (i+j))=ks[j])->Sps l ⟨i,0,0⟩ ks ⟨i+ks.length,0,0⟩
 | [],_,_=>⟨Z,Z⟩
 | x::ks,i,h=>by
  refine ⟨⟨Z,h 0 (by simp)⟩,?_⟩
  have:=aN9 ks (i+1) λj hj=>by
   have:=h (j+1) (by simpa using hj);rw [show i+1+j=i+(j+1) by omega,this];rfl
  rw [aJ,show i+(ks.length+1)=i+1+ks.length by omega];exact this
theorem MQ {t:Tk} (h:kt t=(k,w)):t.k=k:=congrArg Prod.fst h
theorem aS6 {t:Tk} (h:kt t=(k,w)):t.t=w:=congrArg Prod.snd h
theorem uR (h:r.er=0/\kt (tkf l r.i)=(k,w)) (hk:k=2\/k=4):r.ac l w=true:=by
 unfold Rq.ac Rq.is;rw [MQ h.2,aS6 h.2,aR h.1];rcases hk with rfl | rfl <;> simp
theorem bA1 (h:r.er=0/\kt (tkf l r.i)=(k,w)) (hn:¬ w=w'):r.ac l w'=false:=by
 unfold Rq.ac Rq.is;rw [aS6 h.2,aP hn,Bool.and_false,Bool.and_false]
theorem cB3 (h:r.er=0/\kt (tkf l r.i)=(k,w)) (hn:k=1\/k=3):r.ac l w'=false:=UF (by rw [MQ h.2];rcases hn with rfl | rfl <;> decide)
theorem GH (h:r.er=0/\kt (tkf l r.i)=(k,w)) (hk:k=2\/k=4):r.exS l w=r.nx:=OB (uR h hk)
theorem IQ (h:r.er=0/\kt (tkf l r.i)=(1,w)):r.nmS l=r.nx:=TS h.1 (MQ h.2)
theorem BP (h:r.er=0/\kt (tkf l r.i)=(1,w)):r.nmV l=w:=by rw [aR1 h.1 (MQ h.2),aS6 h.2]
theorem bY4 {u:Nat} (h:r.er=0/\kt (tkf l r.i)=(3,Lib.decDigits u)) (hu:u<=9223372036854775807):r.nbS l=r.nx/\r.nbV l=Int64.ofNat u:=by
 have h1:r.nbB l=true:=by unfold Rq.nbB;rw [aR h.1,aR (MQ h.2)];rfl
 have h2:r.fit l=true:=by unfold Rq.fit;rw [aS6 h.2,xM];exact aR hu
 unfold Rq.nbS Rq.nbV;rw [aL h1,aL h2,h1,h2,aS6 h.2,xM];exact ⟨Z,Z⟩
theorem bU8 {n:Int64} (h:0<=n.toInt):Int64.ofNat n.toInt.toNat=n:=by
 have:=n.toInt_lt;exact dQ.1 (by rw [fU (by omega)];omega)
theorem bA0 {n:Int64} (h:r.er=0/\kt (tkf l r.i)=(3,Lib.itoa n.toInt)) (hn:0<=n.toInt):r.nbS l=r.nx/\r.nbV l=n:=by
 rw [Lib.itoa,aG (by omega)] at h;have:=n.toInt_lt;have:=bY4 h (by omega);rw [bU8 hn] at this;exact this
def bW3:List Str:=[[91],[41],[95]]
def bK8:List Str:=[[110,111,116],[112,114,101,118,105,111,117,115],[111,110,99,101],[97,108,119,97,121,115],[102,111,114,97,108,108],[101,120,105,115,116,115],[99,111,117,110,116]]
theorem mL {L:List Str} (h:r.ac l w=true) (hn:∀ x∈L,w≠x):∀ x∈L,r.ac l x=false:=λx hx=>vE h (hn x hx)
theorem BE {nt:Nt} (g:Gd l nt r n m r'):∀ k,nt=.lev k->r'.er=0->(∀ x∈bW3,r.ac l x=false)/\(6<=k->∀ x∈bK8,r.ac l x=false)/\(k=10->r.ac l [45]=false):=by
 have b0:∀ {nt:Nt} {r r':Rq} {n:Fn} {m:Bool},Gd l nt r n m r'->r'.er=0->r.er=0:=λg e=>Classical.byContradiction λh=>h (by rw [<-BF g h];exact e);induction g with
 | seq hk h1 h2 i1 i2 =>
  rintro k' e e2;cases e;obtain ⟨a,b,_⟩:=i1 _ rfl (b0 h2 e2);exact ⟨a,λh=>b (by omega),λh=>by omega⟩
 | outJ=>rintro _ e _;cases e
 | outA=>rintro _ e _;cases e
 | join=>rintro _ e _;cases e
 | ari=>rintro _ e _;cases e
 | @pre w op r r1 x m hp h h1 =>
  rintro k' e e2;cases e;refine ⟨mL h ?_,λh=>by omega,λh=>by omega⟩;have:∀ p∈IS,∀ x∈bW3,p.1≠x:=by decide
  exact this _ hp
 | cnt h =>
  rintro k' e e2;cases e;exact ⟨mL h (by decide),λh=>by omega,λh=>by omega⟩
 | cmp0 hp hc h1 i1 =>
  rintro k' e e2;cases e;exact ⟨(i1 _ rfl e2).1,λh=>by omega,λh=>by omega⟩
 | cm0 h1 h i1 =>
  rintro k' e e2;cases e;exact ⟨(i1 _ rfl e2).1,λ_=>(i1 _ rfl e2).2.1 (by decide),λh=>by omega⟩
 | cm1 hi h1 h h2 i1 i2 =>
  rintro k' e e2;cases e;have e1:=jE h;exact ⟨(i1 _ rfl e1).1,λ_=>(i1 _ rfl e1).2.1 (by decide),λh=>by omega⟩
 | neg h =>
  rintro k' e e2;cases e;exact ⟨mL h (by decide),λ_=>mL h (by decide),λh=>by omega⟩
 | pri h h1 i1 =>
  rintro k' e e2;cases e;exact ⟨(i1 _ rfl e2).1,λ_=>(i1 _ rfl e2).2.1 (by decide),λh=>by omega⟩
 | bad h=>rintro k' e e2;exact absurd e2 h
 | num h hk =>
  rintro k' e e2;have:=λw=>UF (l:=l) (w:=w) (by rw [hk];decide);exact ⟨λx _=>this x,λ_ x _=>this x,λ_=>this _⟩
 | now h=>rintro k' e e2;exact ⟨mL h (by decide),λ_=>mL h (by decide),λ_=>vE h (by decide)⟩
 | tru h=>rintro k' e e2;exact ⟨mL h (by decide),λ_=>mL h (by decide),λ_=>vE h (by decide)⟩
 | fal h=>rintro k' e e2;exact ⟨mL h (by decide),λ_=>mL h (by decide),λ_=>vE h (by decide)⟩
 | flg h=>rintro k' e e2;exact ⟨mL h (by decide),λ_=>mL h (by decide),λ_=>vE h (by decide)⟩
 | has h=>rintro k' e e2;exact ⟨mL h (by decide),λ_=>mL h (by decide),λ_=>vE h (by decide)⟩
 | arr0 h=>rintro k' e e2;exact ⟨mL h (by decide),λ_=>mL h (by decide),λ_=>vE h (by decide)⟩
 | arr h=>rintro k' e e2;exact ⟨mL h (by decide),λ_=>mL h (by decide),λ_=>vE h (by decide)⟩
 | siz h=>rintro k' e e2;exact ⟨mL h (by decide),λ_=>mL h (by decide),λ_=>vE h (by decide)⟩
 | par h=>rintro k' e e2;exact ⟨mL h (by decide),λ_=>mL h (by decide),λ_=>vE h (by decide)⟩
 | nam0 h hk =>
  rintro k' e e2;have:=λw=>UF (l:=l) (w:=w) (by rw [hk];decide);exact ⟨λx _=>this x,λ_ x _=>this x,λ_=>this _⟩
 | nam1 h hk =>
  rintro k' e e2;have:=λw=>UF (l:=l) (w:=w) (by rw [hk];decide);exact ⟨λx _=>this x,λ_ x _=>this x,λ_=>this _⟩
 | get h hk =>
  rintro k' e e2;have:=λw=>UF (l:=l) (w:=w) (by rw [hk];decide);exact ⟨λx _=>this x,λ_ x _=>this x,λ_=>this _⟩
 | non=>rintro k' e e2;exact absurd e2 (uD (by decide))
 | arU=>rintro _ e _;cases e
 | arT=>rintro _ e _;cases e
 | afC=>rintro _ e _;cases e
 | afE=>rintro _ e _;cases e
def cuL:List (Nat × Str):=[(20,[46]),(20,[91]),(1,[105,109,112,108,105,101,115]),(2,[111,114]),(3,[97,110,100]),(4,[115,105,110,99,101]),(6,[61,61]),(6,[33,61]),(6,[60]),(6,[60,61]),(6,[62]),(6,[62,61]),(7,[43]),(7,[45]),(8,[42]),(8,[47]),(8,[37])]
def Nx (l:Tks) (k:Nat) (r:Rq):Prop:=∀ x∈cuL,k<=x.1->r.ac l x.2=false
theorem Nx.up (h:Nx l i r) (hj:i<=j):Nx l j r:=λx hx hk=>h x hx (bD hj hk)
theorem Nx.n9 (h:Nx l 10 r):Nx l 9 r:=λx hx hk=>h x hx ((show ∀ x∈cuL,9<=x.1->10<=x.1 by decide) x hx hk)
theorem Nx.n5 (h:Nx l 6 r):Nx l 5 r:=λx hx hk=>h x hx ((show ∀ x∈cuL,5<=x.1->6<=x.1 by decide) x hx hk)
theorem Nx.tok (h:r.er=0/\kt (tkf l r.i)=(k,w)) (hn:∀ x∈cuL,j<=x.1->¬ w=x.2):Nx l j r:=λx hx hk=>bA1 h (hn x hx hk)
theorem Nx.fin (h:(tkf l r.i).k=0):Nx l j r:=λx _ _=>UF (by rw [h];decide)
theorem Nx.dot (h:Nx l j r) (hj:j<=20):r.ac l [46]=false:=h (20,[46]) (by decide) hj
theorem Nx.brk (h:Nx l j r) (hj:j<=20):r.ac l [91]=false:=h (20,[91]) (by decide) hj
def lpB (j:Nat):Prop:=(1<=j/\j<=4)\/j=7\/j=8
theorem bP5 (h:1<=j/\j<=4):(j,joW j)∈cuL:=by
 have:j=1\/j=2\/j=3\/j=4:=by omega
 rcases this with rfl | rfl | rfl | rfl <;> decide
theorem bK0 (h:HR j i):(j,lT.getD i [])∈cuL:=by
 rcases h with ⟨rfl,rfl | rfl⟩ | ⟨rfl,rfl | rfl | rfl⟩ <;> decide
theorem bJ4 (h:16<=i) (h2:i<=21):(6,lT.getD i [])∈cuL:=by
 have:i=16\/i=17\/i=18\/i=19\/i=20\/i=21:=by omega
 rcases this with rfl | rfl | rfl | rfl | rfl | rfl <;> decide
def Rl (l:Tks) (j:Nat) (r:Rq) (N:Fn) (r':Rq):Prop:=(lpB j->∀ n m r2,Gd l (.lp j N) r' n m r2->Gd l (.lev j) r n m r2)/\(¬ lpB j->Gd l (.lev j) r N false r')
theorem Rl.full (h:Rl l j r N r') (hx:Nx l j r'):Gd l (.lev j) r N false r':=by
 by_cases hj:lpB j
 ·refine h.1 hj _ _ _ ?_;rcases hj with hj | hj
  ·exact .outJ hj (hx _ (bP5 hj) (aX _))
  ·exact .outA hj λi hi=>hx _ (bK0 hi) (aX _)
 ·exact h.2 hj
theorem Rl.of10 (h:Gd l (.lev 10) r N false r'):Rl l 10 r N r':=⟨λe=>by unfold lpB at e;omega,λ_=>h⟩
theorem Rl.dn (h:Gd l (.lev (j+1)) r N false r') (e:r'.er=0) (hj:1<=j/\j<=9) (hx:j=6->Nx l 6 r'):Rl l j r N r':=by
 refine ⟨λhl n m r2 g=>?_,λhl=>?_⟩
 ·exact Gd.seq hl h g
 ·obtain ⟨f1,f2,f3⟩:=BE h _ rfl e;have:j=5\/j=6\/j=9:=by unfold lpB at hl;omega
  rcases this with rfl | rfl | rfl
  ·have f2:=f2 (by decide);refine .cmp0 (λw op hw=>f2 w ?_) (f2 _ (by decide)) h;have:∀ p∈IS,p.1∈bK8:=by decide
   exact this _ hw
  ·exact .cm0 h λi h1 h2=>hx Z _ (bJ4 h1 h2) (aX _)
  ·exact .pri (f3 Z) h
theorem Rl.go:∀ {d j:Nat},Rl l (j+d) r N r'->r'.er=0->1<=j->j+d<=10->Nx l (j+1) r'->(j<=6->Nx l 6 r')->Rl l j r N r'
 | 0,_,h,_,_,_,_,_=>h
 | d+1,j,h,e,h1,hb,hx,h6=>by
  have k:=Rl.go (j:=j+1) (d:=d) (by rw [show j+1+d=j+(d+1) by omega];exact h) e (by omega) (by omega) (hx.up (by omega)) (λhj=>h6 (by omega));exact .dn (k.full hx) e ⟨h1,by omega⟩ (λe=>h6 (by omega))
theorem Rl.to (h:Rl l b r N r') (e:r'.er=0) (h1:1<=j) (hj:j<=b) (hb:b<=10) (hx:Nx l (j+1) r') (h6:j<=6->Nx l 6 r'):Rl l j r N r':=by
 obtain ⟨d,rfl⟩:∃ d,b=j+d:=⟨b - j,by omega⟩;exact h.go e h1 hb hx h6
theorem Rl.at (h:Rl l b r N r') (e:r'.er=0) (h1:1<=j) (hj:j<=b) (hb:b<=10) (hx:Nx l j r'):Gd l (.lev j) r N false r':=(h.to e h1 hj hb (hx.up (by omega)) (λk=>hx.up k)).full hx
theorem KM {ks:List Kt} (h:Sps l r ((4,[40])::(ks++[(4,[41])])) r') (hg:∀ m,Sps l r.nx ks m->Nx l 1 m->Gd l (.lev 1) r.nx N false m):Rl l 10 r N r':=by
 obtain ⟨t0,h⟩:=h;obtain ⟨m,h1,t1,e,rfl⟩:=lC h;have g:=Gd.par (uR t0 (.inr Z)) (hg m h1 (.tok t1 (by decide)));have e1:m.exS l [41]=m.nx:=GH t1 (.inr Z);rw [e1] at g;exact .of10 g
end
section
variable {l:Tks} {r r' ra m:Rq} {w w':Str} {i j:Nat}
def ndE (e:Ex):Fn:=if e.op=5 then (match eJ e.nm with | some (a,b)=>⟨true,true,.mk 4 a b 0 0 [] [],e⟩ | none=>vlN e) else vlN e
theorem tL (e:Ex):(ndE e).e=e/\(ndE e).tm=true:=by
 unfold ndE
 split
 ·cases eJ e.nm <;> exact ⟨Z,Z⟩
 ·exact ⟨Z,Z⟩
theorem bO6 {op:UInt8} {nm:Str} {n:Int64} {args:List Ex} (h:¬ op=5):ndE (.mk op nm n args)=vlN (.mk op nm n args):=aG h
def Td (l:Tks) (e:Ex):Prop:=∀ r r',Sps l r (tqT e) r'->Nx l (tlv e.op+4) r'->Rl l (tlv e.op+3) r (ndE e) r'
theorem zA (op:UInt8):4<=tlv op:=by
 unfold tlv
 split
 ·omega
 split
 ·omega
 split <;> omega
theorem PO {a:Ex} (h:Td l a) {b:Bool} (hj:7<=j/\j<=9) (hb:b=false->j<=tlv a.op+3) (s:Sps l r (prQ b (tqT a)) r') (hx:Nx l (j+1) r'):Rl l j r (ndE a) r':=by
 have e:=(oK s).2;have h1:=zA a.op;have h2:=GU a.op;cases b with
 | true =>
  have:=KM (N:=ndE a) (show Sps l r ((4,[40])::(tqT a++[(4,[41])])) r' from s) λm sm hm=>(h _ _ sm (hm.up (by omega))).at (oK sm).2 (aX _) (by omega) (by omega) hm;exact this.to e (by omega) (by omega) (aX _) hx (λk=>by omega)
 | false =>
  have:=hb rfl;exact (h _ _ s (hx.up (by omega))).to e (by omega) this (by omega) hx (λk=>by omega)
theorem MT {p q:Prop} [Decidable p] (h:¬ p->q) (e:decide p=false):q:=h (aN e)
theorem XK {a b:Str} (t0:r.er=0/\kt (tkf l r.i)=(1,a)) (t2:r.nx.nx.er=0/\kt (tkf l r.nx.nx.i)=(1,b)):r.ful l=a++([46]:Str)++b:=by
 unfold Rq.ful;rw [IQ t0,BP t0,BP t2]
theorem bU9 {nm:Str} (s:Sps l r (tqN nm) r') (hx:Nx l 11 r'):Gd l (.lev 10) r (ndE (.mk 5 nm 0 [])) false r':=by
 unfold tqN at s;unfold ndE;rw [aL (show (Ex.mk 5 nm 0 []).op=5 from rfl)];show Gd l (.lev 10) r (match eJ nm with | some (a,b)=>⟨true,true,.mk 4 a b 0 0 [] [],.mk 5 nm 0 []⟩ | none=>vlN (.mk 5 nm 0 [])) false r';cases hs:eJ nm with
 | none =>
  rw [hs] at s;obtain ⟨t0,e,rfl⟩:=s;have g:=Gd.nam0 t0.1 (MQ t0.2) (hx.dot (by omega));rw [BP t0] at g;exact g
 | some x =>
  obtain ⟨a,b⟩:=x;rw [hs] at s;obtain ⟨t0,t1,t2,e,rfl⟩:=s;have e2:r.nx.nx.nmS l=r.nx.nx.nx:=IQ t2;have g:=Gd.nam1 t0.1 (MQ t0.2) (uR t1 (.inr Z)) (by rw [e2];exact hx.brk (by omega));rw [e2,BP t0,BP t2,XK t0 t2,<-sI hs] at g;exact g
theorem aQ1 {a b:Str} (t0:r.er=0/\kt (tkf l r.i)=(1,a)) (t1:r.nx.er=0/\kt (tkf l r.nx.i)=(4,[46])) (t2:r.nx.nx.er=0/\kt (tkf l r.nx.nx.i)=(1,b)):r.paS l=r.nx.nx.nx/\r.paN l=a/\r.paF l=b:=by
 unfold Rq.paS Rq.paN Rq.paF;rw [IQ t0,BP t0,GH t1 (.inr Z),IQ t2,BP t2];exact ⟨Z,Z,Z⟩
theorem WK (e:Ex):eP e=true->qO e=false->Td l e:=by
 induction e using Ex.ind with
 | _ op nm n args ih =>
  intro h hm r r' s hx;obtain ⟨m1,m2,m3⟩:=GY hm;rw [aM2] at s;rcases JX h with ⟨rfl,rfl,hn,rfl⟩ | ⟨rfl,rfl,rfl,rfl⟩ | ⟨ho,rfl,rfl⟩ | ⟨rfl,rfl,a,rfl,ha⟩ | ⟨rfl,rfl,rfl,a,rfl,ha⟩ | ⟨ho,rfl,rfl,a,b,rfl,ha,hb⟩
  ·obtain ⟨t0,e,rfl⟩:=s;have g:=Gd.num t0.1 (MQ t0.2);have h1:=bA0 t0 hn;rw [h1.1,h1.2] at g;exact .of10 g
  ·obtain ⟨t0,e,rfl⟩:=s;exact .of10 (Gd.now (uR t0 (.inl Z)))
  ·rcases ho with rfl | rfl
   ·exact .of10 (bU9 s hx)
   ·have hS:=m2 (.inr Z);obtain ⟨t0,s⟩:=(show Sps l r ((2,[115,105,122,101])::tqN nm) r' from s);unfold tqN at s;cases hs:eJ nm with
    | none=>rw [hs] at hS;cases hS
    | some x =>
     obtain ⟨a,b⟩:=x;rw [hs] at s;obtain ⟨t1,t2,t3,e,rfl⟩:=s;have g:=Gd.siz (uR t0 (.inl Z));obtain ⟨p1,p2,p3⟩:=aQ1 t1 t2 t3;rw [p1,p2,p3] at g;have e3:=sI hs;rw [<-e3] at g;exact .of10 g
  ·have hS:=m2 (.inl Z);obtain ⟨m,s0,s⟩:=lC (show Sps l r (tqN nm++((4,[91])::(tqT a++[(4,[93])]))) r' from s);obtain ⟨t3,s⟩:=s;obtain ⟨m',s1,t4,e,rfl⟩:=lC s;unfold tqN at s0;cases hs:eJ nm with
   | none=>rw [hs] at hS;cases hS
   | some x =>
    obtain ⟨p,q⟩:=x;rw [hs] at s0;obtain ⟨t0,t1,t2,e0,rfl⟩:=s0;have e2:r.nx.nx.nmS l=r.nx.nx.nx:=IQ t2;have hx7:Nx l 7 m':=.tok t4 (by decide);have g1:=(ih a (by simp) ha (m3 a (by simp)) _ _ s1 (hx7.up (by have:=zA a.op;omega))).at (oK s1).2 (by omega) (show 7<=tlv a.op+3 by have:=zA a.op;omega) (by have:=GU a.op;omega) hx7;have g:=Gd.get t0.1 (MQ t0.2) (uR t1 (.inr Z)) (by rw [e2];exact uR t3 (.inr Z)) (by rw [e2];exact g1);rw [XK t0 t2,(tL a).1,(tL a).2,GH t4 (.inr Z)] at g;rw [<-sI hs] at g;exact .of10 g
  ·obtain ⟨t0,s⟩:=(show Sps l r ((4,[45])::prQ (decide (tlv a.op<6)) (tqT a)) r' from s);have g1:=(PO (j:=9) (ih a (by simp) ha (m3 a (by simp))) (by decide) (MT (by omega)) s hx).full (Nx.n9 hx);have g:=Gd.neg (uR t0 (.inr Z)) g1;rw [(tL a).1,(tL a).2] at g;exact ⟨λe=>absurd (show lpB 9 from e) (by unfold lpB;decide),λ_=>g⟩
  ·have ho2:op=11\/op=12\/op=13\/op=14\/op=15:=by simpa using ho
   have e1:tqO op [] 0 ([a,b].map λe=>(e.op,tqT e))=prQ (decide (tlv a.op<tlv op)) (tqT a)++(4,xE op)::prQ (decide (tlv b.op<tlv op+1)) (tqT b):=by
    rcases ho2 with rfl | rfl | rfl | rfl | rfl <;> rfl
   rw [e1] at s;obtain ⟨ra,sa,t0,sb⟩:=lC s;have hlv:tlv op=4\/tlv op=5:=by rcases ho2 with rfl | rfl | rfl | rfl | rfl <;> decide
   have hxa:Nx l (tlv op+3+1) ra:=.tok t0 (by rcases ho2 with rfl | rfl | rfl | rfl | rfl <;> decide);have A:=PO (j:=tlv op+3) (ih a (by simp) ha (m3 a (by simp))) (by omega) (MT (by omega)) sa hxa;have B:=(PO (j:=tlv op+3+1) (ih b (by simp) hb (m3 b (by simp))) (by omega) (MT (by omega)) sb (hx.up (Nat.le_succ _))).full hx;have hl:lpB (tlv op+3):=by unfold lpB;omega
   have hk:HR (tlv op+3) op.toNat:=by unfold HR;rcases ho2 with rfl | rfl | rfl | rfl | rfl <;> decide
   refine ⟨λ_ n m r2 g=>?_,λe=>absurd hl e⟩;have hy:ra.ac l (lT.getD op.toNat [])=true:=uR t0 (.inr Z)
   have g':Gd l (.lp (tlv op+3) (vlN (opB op.toNat [(ndE a).e,(ndE b).e]))) r' n m r2:=by
    rw [(tL a).1,(tL b).1];unfold opB;rw [hI];rw [bO6 (by rcases ho2 with rfl | rfl | rfl | rfl | rfl <;> decide)] at g;exact g
   have G:=Gd.ari hk hy B g';rw [(tL a).2,(tL b).2] at G;exact A.1 hl _ _ _ G
end
theorem IY:∀ op∈([1,2,8,9,10,11,12,13,14,15,16,17,18]:List UInt8),gA op∈words:=by decide +kernel
theorem bO2 {o:UInt8} (h:o∈([16,17,18,19,20,21]:List UInt8)):o∈([11,12,13,14,15,16,17,18,19,20,21]:List UInt8):=by
 simp only [bM,List.not_mem_nil,or_false] at h;rcases h with rfl | rfl | rfl | rfl | rfl | rfl <;> decide
variable {ks:List Kt}
theorem LxN.app {q:List Kt} (h:LxN s q) (hr:rH r) (hk:Lx r ks):Lx (s++r) (q++ks):=(h r ks hr hk).1
theorem XD {op:UInt8} {b:Int64} {g:List Fm} (hw:bnW a b) (hr:rH r) (hk:Lx r ks) :
 Lx (rO (.mk op [] [] a b [] g)++r) (uV (.mk op [] [] a b [] g)++ks)/\rH (rO (.mk op [] [] a b [] g)++r):=by
 unfold rO uV
 split
 ·exact ⟨hk,hr⟩
 ·rename_i h;simp only [bC,aD,tZ,Fm.b] at h
  have hab:0<=a.toInt/\0<=b.toInt:=by
   rcases hw with ⟨rfl,rfl⟩ | hw
   ·exact absurd (aR (by decide)) h.2
   ·omega
  simp only [aZ,aT,bW,Fm.a,Fm.b];obtain ⟨k1,_⟩:=KW (n:=b) hab.2 (r:=93::r) (k:=(4,[93])::ks) (EZ HQ) (.sy (by decide) hr.hd hk);obtain ⟨k2,k3⟩:=KW (n:=a) hab.1 (r:=44::32::(Lib.itoa b.toInt++93::r)) (EZ (kS (by decide))) (.sy (c:=44) (by decide) iE.hd (.sp k1));exact ⟨.sy (by decide) k3 k2,EA⟩
theorem aS0 {op:UInt8} {nm:Str} {b:Int64} {ex:List Ex} {g:List Fm} (hn:fQ nm=true) (hr:rH r) (hk:Lx r ks) :
 Lx (GF (.mk op nm [] a b ex g)++r) (IV (.mk op nm [] a b ex g)++ks)/\rH (GF (.mk op nm [] a b ex g)++r):=by
 unfold GF IV;simp only [aZ,aT,bW,Fm.a,Fm.b,Fm.nm];obtain ⟨k1,_⟩:=aR6 (n:=b) (EZ hr) hk;have k2:Lx (46::46::(Lib.itoa b.toInt++r)) ((4,[46,46])::(XG b.toInt++ks)):=.tok (x:=(4,[46,46])) bM8 k1;obtain ⟨k3,_⟩:=aR6 (n:=a) (λd e=>by cases e;decide) k2;exact ⟨.sp (.nm hn iE (.sp (.kw (w:=[105,110]) (by decide) iE (.sp k3)))),iE⟩
theorem aR9 (hk:Lx r ks):Lx (tmT zE++r) (tqT zE++ks)/\hdB (tmT zE++r):=⟨.tok (x:=(4,[95])) bM7 hk,fC (by decide)⟩
theorem aR8:∀ {l:List Ex},(∀ x∈l,(x=zE\/eP x=true)/\qO x=false)->∀ {r:Str} {ks:List Kt},rH r->Lx r ks->Lx (wP [44,32] (l.map tmT)++r) (DV (l.map tqT)++ks)/\hdB (wP [44,32] (l.map tmT)++r)
 | [],_,r,ks,hr,hk=>⟨hk,hr.hd⟩
 | [x],h,r,ks,hr,hk=>by
  obtain ⟨h1,h2⟩:=h x (by simp);rcases h1 with rfl | h1
  ·exact aR9 hk
  ·exact TZ x h1 h2 r ks hr hk
 | x::y::l,h,r,ks,hr,hk=>by
  obtain ⟨k1,_⟩:=aR8 (l:=y::l) (λz hz=>h z (bT _ hz)) hr hk;have k2:Lx (44::32::(wP [44,32] ((y::l).map tmT)++r)) ((4,[44])::(DV ((y::l).map tqT)++ks)):=.sy (by decide) iE.hd (.sp k1)
  have e1:wP [44,32] ((x::y::l).map tmT)++r=tmT x++44::32::(wP [44,32] ((y::l).map tmT)++r):=by
   show (tmT x++[44,32]++wP [44,32] ((y::l).map tmT))++r=_;simp only [aZ,aT,bW]
  have e2:DV ((x::y::l).map tqT)++ks=tqT x++(4,[44])::(DV ((y::l).map tqT)++ks):=by
   show (tqT x++(4,[44])::DV ((y::l).map tqT))++ks=_;simp only [aZ,aT]
  rw [e1,e2];obtain ⟨h1,h2⟩:=h x (by simp);rcases h1 with rfl | h1
  ·exact aR9 k2
  ·exact TZ x h1 h2 _ _ (kS (by decide)) k2
theorem bL3 (f:Fm):Fm.all jX f=true->Fm.all tM f=true->LxN (fmT f) (tqF f):=by
 induction f using Fm.ind with
 | _ op nm fd a b ex args ih =>
  intro hf hn r ks hr hk;obtain ⟨hf,hfs⟩:=wR hf;rw [oN,aE,aW] at hn;obtain ⟨hn,hns⟩:=hn;obtain ⟨n1,n2,n3⟩:=QV hn;have ih':∀ g∈args,LxN (fmT g) (tqF g):=λg hg=>ih g hg (hfs g hg) (hns g hg);have hg:=JI hf;clear ih hfs hns hf hn;generalize e:Fm.mk op nm fd a b ex args=f at hg|-;cases hg with
  | @tf op' h =>
   cases e;rcases h with rfl | rfl
   ·exact ⟨Lx.kw (w:=[116,114,117,101]) (by decide) hr hk,tO (w:=[116,114,117,101]) (by decide)⟩
   ·exact ⟨Lx.kw (w:=[102,97,108,115,101]) (by decide) hr hk,tO (w:=[102,97,108,115,101]) (by decide)⟩
  | @cmp o x y h hx hy =>
   cases e;have hm:=n3 _ (bQ.2 rfl);have m3:=(GY hm).2.2;obtain ⟨k1,_⟩:=TZ y hy (m3 y (by simp)) r ks hr hk;have k2:=aR5 (op:=o) (bO2 h) k1;obtain ⟨k3,k4⟩:=TZ x hx (m3 x (by simp)) _ _ iE k2
   have e1:fmT (.mk 3 [] [] 0 0 [.mk o [] 0 [x,y]] [])++r=tmT x++([32]++(xE o++([32]++(tmT y++r)))):=by
    rw [fx3 (args0:=[x,y]) rfl rfl (by simp) (by simp)];simp only [aZ];rfl
   have e2:tqF (.mk 3 [] [] 0 0 [.mk o [] 0 [x,y]] [])++ks=tqT x++(4,xE o)::(tqT y++ks):=by
    rw [DC];show (tqT x++(4,xE o)::tqT y)++ks=_;simp only [aZ,aT]
   rw [e1,e2];exact ⟨k3,k4⟩
  | var =>
   cases e;have e1:fmT (.mk 4 nm fd 0 0 [] [])++r=nm++46::(fd++r):=by rw [fx4 rfl];simp
   rw [e1];exact ⟨.nw (n1 rfl) (λc e=>by cases e;decide) (.sy (by decide) (tC (n2 rfl)) (.nm (n2 rfl) hr hk)),tC (n1 rfl)⟩
  | @has nm' fd' x hx =>
   cases e;obtain ⟨k1,k2⟩:=TZ x hx (n3 x (by simp)) (93::r) ((4,[93])::ks) HQ (.sy (by decide) hr.hd hk)
   have e1:fmT (.mk 5 nm fd 0 0 [x] [])++r=[104,97,115]++32::(nm++46::(fd++91::(tmT x++93::r))):=by
    rw [fx5 rfl rfl];show ([104,97,115]++[32]++nm++[46]++fd++[91]++tmT x++[93]:Str)++r=_;simp only [aZ,aT,bW]
   have e2:tqF (.mk 5 nm fd 0 0 [x] [])++ks=(2,[104,97,115])::(1,nm)::(4,[46])::(1,fd)::(4,[91])::(tqT x++(4,[93])::ks):=by
    rw [DC];show ((2,[104,97,115])::(1,nm)::(4,[46])::(1,fd)::(4,[91])::(tqT x++[(4,[93])]):List Kt)++ks=_;simp only [aZ,aT,bW]
   rw [e1,e2];exact ⟨.kw (by decide) iE (.sp (.nw (n1 rfl) (λc e=>by cases e;decide) (.sy (by decide) (tC (n2 rfl)) (.nm (n2 rfl) EA (.sy (by decide) k2 k1))))),tO (by decide)⟩
  | flg =>
   cases e
   have e1:fmT (.mk 6 nm [] 0 0 [] [])++r=[102,108,97,103]++32::(nm++r):=by
    rw [fx6 rfl];show ([102,108,97,103]++[32]++nm:Str)++r=_;simp only [aZ,aT,bW]
   rw [e1];exact ⟨.kw (by decide) iE (.sp (.nm (n1 rfl) hr hk)),tO (by decide)⟩
  | @arr nm' fd' ex' hl hx =>
   cases e;obtain ⟨k1,k2⟩:=aR8 (l:=ex) (λx h=>⟨hx x h,n3 x h⟩) (r:=41::r) (ks:=(4,[41])::ks) BM (.sy (by decide) hr.hd hk)
   have e1:fmT (.mk 7 nm fd 0 0 ex [])++r=[97,114,114,105,118,101,115]++32::(nm++46::(fd++40::(wP [44,32] (ex.map tmT)++41::r))):=by
    rw [fx7 rfl];show ([97,114,114,105,118,101,115]++[32]++nm++[46]++fd++[40]++wP [44,32] (ex.map tmT)++[41]:Str)++r=_;simp only [aZ,aT,bW]
   have e2:tqF (.mk 7 nm fd 0 0 ex [])++ks=(2,[97,114,114,105,118,101,115])::(1,nm)::(4,[46])::(1,fd)::(4,[40])::(DV (ex.map tqT)++(4,[41])::ks):=by
    rw [DC];show ((2,[97,114,114,105,118,101,115])::(1,nm)::(4,[46])::(1,fd)::(4,[40])::(DV (ex.map tqT)++[(4,[41])]):List Kt)++ks=_;simp only [aZ,aT,bW]
   rw [e1,e2];exact ⟨.kw (by decide) iE (.sp (.nw (n1 rfl) (λc e=>by cases e;decide) (.sy (by decide) (tC (n2 rfl)) (.nm (n2 rfl) (kS (by decide)) (.sy (by decide) k2 k1))))),tO (by decide)⟩
  | @un op' g h =>
   cases e;obtain ⟨k1,_⟩:=xX (ih' g (by simp)) (decide ((cJ g.op).lv<5)) r ks hr hk;have hw:gA op∈words:=IY op (by rcases h with rfl | rfl <;> decide);have hq:rO (.mk op [] [] 0 0 [] [g])=[]/\uV (.mk op [] [] 0 0 [] [g])=[]:=by rcases h with rfl | rfl <;> exact ⟨Z,Z⟩
   have e1:fmT (.mk op [] [] 0 0 [] [g])++r=gA op++32::(pfW 5 g++r):=by
    rw [fxu (by rcases h with rfl | rfl <;> simp) (by simp),hq.1];simp only [aZ,aT,bW];rfl
   have e2:tqF (.mk op [] [] 0 0 [] [g])++ks=(2,gA op)::(prQ (decide ((cJ g.op).lv<5)) (tqF g)++ks):=by
    have:tqF (.mk op [] [] 0 0 [] [g])=(2,gA op)::(uV (.mk op [] [] 0 0 [] [g])++prQ (decide ((cJ g.op).lv<5)) (tqF g)):=by
     rw [DC];rcases h with rfl | rfl <;> rfl
    rw [this,hq.2];rfl
   rw [e1,e2];exact ⟨.kw hw iE (.sp k1),tO hw⟩
  | @win op' a' b' g h hwn =>
   cases e;obtain ⟨k1,_⟩:=xX (ih' g (by simp)) (decide ((cJ g.op).lv<5)) r ks hr hk;have hw:gA op∈words:=IY op (by rcases h with rfl | rfl <;> decide);obtain ⟨k2,k3⟩:=XD (op:=op) (g:=[g]) hwn iE k1.sp
   have e1:fmT (.mk op [] [] a b [] [g])++r=gA op++(rO (.mk op [] [] a b [] [g])++32::(pfW 5 g++r)):=by
    rw [fxu (by rcases h with rfl | rfl <;> simp) (by simp)];simp only [aZ,aT,bW];rfl
   have e2:tqF (.mk op [] [] a b [] [g])++ks=(2,gA op)::(uV (.mk op [] [] a b [] [g])++(prQ (decide ((cJ g.op).lv<5)) (tqF g)++ks)):=by
    have:tqF (.mk op [] [] a b [] [g])=(2,gA op)::(uV (.mk op [] [] a b [] [g])++prQ (decide ((cJ g.op).lv<5)) (tqF g)):=by
     rw [DC];rcases h with rfl | rfl <;> rfl
    rw [this];simp only [aZ,aT]
   rw [e1,e2];exact ⟨.kw hw k3 k2,tO hw⟩
  | @amo op' nm' a' b' g h ha hb =>
   cases e;obtain ⟨k1,_⟩:=xX (ih' g (by simp)) (decide ((cJ g.op).lv<5)) r ks hr hk;have hw:gA op∈words:=IY op (by rcases h with rfl | rfl <;> decide);obtain ⟨k2,k3⟩:=aS0 (op:=op) (nm:=nm) (a:=a) (b:=b) (ex:=[]) (g:=[g]) (n1 (by rcases h with rfl | rfl <;> rfl)) iE k1.sp
   have e1:fmT (.mk op nm [] a b [] [g])++r=gA op++(GF (.mk op nm [] a b [] [g])++32::(pfW 5 g++r)):=by
    rw [fxq (by rcases h with rfl | rfl <;> simp) (by simp)];simp only [aZ,aT,bW];rfl
   have e2:tqF (.mk op nm [] a b [] [g])++ks=(2,gA op)::(IV (.mk op nm [] a b [] [g])++(prQ (decide ((cJ g.op).lv<5)) (tqF g)++ks)):=by
    have:tqF (.mk op nm [] a b [] [g])=(2,gA op)::(IV (.mk op nm [] a b [] [g])++prQ (decide ((cJ g.op).lv<5)) (tqF g)):=by
     rw [DC];rcases h with rfl | rfl <;> rfl
    rw [this];simp only [aZ,aT]
   rw [e1,e2];exact ⟨.kw hw k3 k2,tO hw⟩
  | @cnt nm' a' b' n g ha hb hn0 =>
   cases e;obtain ⟨k1,_⟩:=KW (n:=n) hn0 (EZ hr) hk;have k2:Lx (62::61::32::(Lib.itoa n.toInt++r)) ((4,[62,61])::(3,Lib.itoa n.toInt)::ks):=.tok (x:=(4,[62,61])) (PK (by decide)) (.sp k1);have k3:Lx (41::32::62::61::32::(Lib.itoa n.toInt++r)) ((4,[41])::(4,[62,61])::(3,Lib.itoa n.toInt)::ks):=.sy (by decide) iE.hd (.sp k2);obtain ⟨k4,k5⟩:=ih' g (by simp) _ _ BM k3;have k6:=Lx.sy (c:=40) (by decide) k5 k4;obtain ⟨k7,k8⟩:=aS0 (op:=18) (nm:=nm) (a:=a) (b:=b) (ex:=[.mk 1 [] n []]) (g:=[g]) (n1 rfl) iE k6.sp
   have e1:fmT (.mk 18 nm [] a b [.mk 1 [] n []] [g])++r=[99,111,117,110,116]++(GF (.mk 18 nm [] a b [.mk 1 [] n []] [g])++32::40::(fmT g++41::32::62::61::32::(Lib.itoa n.toInt++r))):=by
    rw [IT rfl rfl (by simp)];show ([99,111,117,110,116]++GF (.mk 18 nm [] a b [.mk 1 [] n []] [g])++[32,40]++fmT g++[41,32,62,61,32]++Lib.itoa n.toInt:Str)++r=_;simp only [aZ,aT,bW]
   have e2:tqF (.mk 18 nm [] a b [.mk 1 [] n []] [g])++ks=(2,[99,111,117,110,116])::(IV (.mk 18 nm [] a b [.mk 1 [] n []] [g])++(4,[40])::(tqF g++(4,[41])::(4,[62,61])::(3,Lib.itoa n.toInt)::ks)):=by
    rw [DC];show ((2,[99,111,117,110,116])::(IV (.mk 18 nm [] a b [.mk 1 [] n []] [g])++(4,[40])::(tqF g++(4,[41])::(4,[62,61])::[(3,Lib.itoa n.toInt)])):List Kt)++ks=_;simp only [aZ,aT,bW]
   rw [e1,e2];exact ⟨.kw (by decide) k8 k7,tO (by decide)⟩
  | @bin op' g h ho =>
   cases e;obtain ⟨k1,_⟩:=xX (ih' h (by simp)) (decide ((cJ h.op).lv<(cJ op).lv+1)) r ks hr hk;have hw:gA op∈words:=IY op (by rcases ho with rfl | rfl | rfl <;> decide);have k2:Lx (32::(gA op++32::(pfW ((cJ op).lv+1) h++r))) ((2,gA op)::(prQ (decide ((cJ h.op).lv<(cJ op).lv+1)) (tqF h)++ks)):=.sp (.kw hw iE (.sp k1));obtain ⟨k3,k4⟩:=xX (ih' g (by simp)) (decide ((cJ g.op).lv<(cJ op).lv)) _ _ iE k2;have hq:rO (.mk op [] [] 0 0 [] [g,h])=[]/\uV (.mk op [] [] 0 0 [] [g,h])=[]:=by rcases ho with rfl | rfl | rfl <;> exact ⟨Z,Z⟩
   have e1:fmT (.mk op [] [] 0 0 [] [g,h])++r=pfW (cJ op).lv g++32::(gA op++32::(pfW ((cJ op).lv+1) h++r)):=by
    rw [fxb (by rcases ho with rfl | rfl | rfl <;> simp) (by simp) (by simp),hq.1];simp only [aZ,aT,bW];rfl
   have e2:tqF (.mk op [] [] 0 0 [] [g,h])++ks=prQ (decide ((cJ g.op).lv<(cJ op).lv)) (tqF g)++(2,gA op)::(prQ (decide ((cJ h.op).lv<(cJ op).lv+1)) (tqF h)++ks):=by
    have:tqF (.mk op [] [] 0 0 [] [g,h])=prQ (decide ((cJ g.op).lv<(cJ op).lv)) (tqF g)++(2,gA op)::(uV (.mk op [] [] 0 0 [] [g,h])++prQ (decide ((cJ h.op).lv<(cJ op).lv+1)) (tqF h)):=by
     rw [DC];rcases ho with rfl | rfl | rfl <;> rfl
    rw [this,hq.2];simp only [aZ,aT,bW]
   rw [e1,e2];exact ⟨k3,k4⟩
  | @snc a' b' g h hwn =>
   cases e;obtain ⟨k1,_⟩:=xX (ih' h (by simp)) (decide ((cJ h.op).lv<5)) r ks hr hk;obtain ⟨k2,k3⟩:=XD (op:=15) (g:=[g,h]) hwn iE k1.sp;have k4:Lx (32::([115,105,110,99,101]++(rO (.mk 15 [] [] a b [] [g,h])++32::(pfW 5 h++r)))) ((2,[115,105,110,99,101])::(uV (.mk 15 [] [] a b [] [g,h])++(prQ (decide ((cJ h.op).lv<5)) (tqF h)++ks))):=.sp (.kw (by decide) k3 k2);obtain ⟨k5,k6⟩:=xX (ih' g (by simp)) (decide ((cJ g.op).lv<4)) _ _ iE k4
   have e1:fmT (.mk 15 [] [] a b [] [g,h])++r=pfW 4 g++32::([115,105,110,99,101]++(rO (.mk 15 [] [] a b [] [g,h])++32::(pfW 5 h++r))):=by
    rw [fxb (.inl Z) (by simp) (by simp)];show (pfW 4 g++[32]++[115,105,110,99,101]++rO (.mk 15 [] [] a b [] [g,h])++[32]++pfW 5 h:Str)++r=_;simp only [aZ,aT,bW]
   have e2:tqF (.mk 15 [] [] a b [] [g,h])++ks=prQ (decide ((cJ g.op).lv<4)) (tqF g)++(2,[115,105,110,99,101])::(uV (.mk 15 [] [] a b [] [g,h])++(prQ (decide ((cJ h.op).lv<5)) (tqF h)++ks)):=by
    rw [DC];show (prQ (decide ((cJ g.op).lv<4)) (tqF g)++(2,[115,105,110,99,101])::(uV (.mk 15 [] [] a b [] [g,h])++prQ (decide ((cJ h.op).lv<5)) (tqF h)):List Kt)++ks=_;simp only [aZ,aT]
   rw [e1,e2];exact ⟨k5,k6⟩
section
variable {l:Tks} {r r' ra m:Rq} {w w':Str} {i j:Nat}
def ndF (f:Fm):Fn:=if f.op=4 then ⟨true,true,f,.mk 5 (f.nm++([46]:Str)++f.fd) 0 []⟩ else mdN f
theorem CX (f:Fm):(ndF f).f=f/\(ndF f).fm=true:=by
 unfold ndF
 split <;> exact ⟨Z,Z⟩
theorem aR2 {f:Fm} (h:¬ f.op=4):ndF f=mdN f:=aG h
def bsF (op:UInt8):Nat:=if (cJ op).lv<6 then (cJ op).lv else if op=3 then 6 else 10
def Fd (l:Tks) (f:Fm):Prop:=∀ r r',Sps l r (tqF f) r'->Nx l (bsF f.op+1) r'->Rl l (bsF f.op) r (ndF f) r'
theorem bO9 (op:UInt8):(cJ op).lv<=6:=AY (q:=λop=>(cJ op).lv<=6) (by decide +kernel) op
theorem aB4 (op:UInt8):(cJ op).lv<=bsF op/\bsF op<=10:=by
 have:=bO9 op;unfold bsF
 split
 ·omega
 ·split <;> omega
theorem JK {g:Fm} (h:Fd l g) {b:Bool} (hl:1<=(cJ g.op).lv) (hj:1<=j/\j<=5) (hb:b=false->j<=(cJ g.op).lv) (s:Sps l r (prQ b (tqF g)) r') (hx:Nx l (j+1) r'):Rl l j r (ndF g) r':=by
 have e:=(oK s).2;have h1:=aB4 g.op;cases b with
 | true =>
  have:=KM (N:=ndF g) (show Sps l r ((4,[40])::(tqF g++[(4,[41])])) r' from s) λm sm hm=>(h _ _ sm (hm.up (by omega))).at (oK sm).2 (aX _) (by omega) (by omega) hm;exact this.to e (by omega) (by omega) (aX _) hx (λk=>hx.up (by omega))
 | false =>
  have:=hb rfl;exact (h _ _ s (hx.up (by omega))).to e (by omega) (by omega) (by omega) hx (λk=>hx.up (by omega))
theorem JL {g:Fm} (h:Fd l g) {b:Bool} (hl:1<=(cJ g.op).lv) (hb:b=false->5<=(cJ g.op).lv) (s:Sps l r (prQ b (tqF g)) r') (hx:Nx l 6 r'):Gd l (.lev 5) r (ndF g) false r':=(JK (j:=5) h hl (by decide) hb s hx).full hx.n5
theorem aQ9 {j:Nat} {N:Fn} (h:¬ lpB j) (g:Gd l (.lev j) r N false r'):Rl l j r N r':=⟨λe=>absurd e h,λ_=>g⟩
theorem VZ {op:UInt8} {a b:Int64} {gs:List Fm} (hw:bnW a b) (hwn:(cJ op).wn=true) (s:Sps l r (uV (.mk op [] [] a b [] gs)) m) (hno:r=m->r.ac l [91]=false):r.wiS l=m/\r.wiA l=a/\r.wiB l=b:=by
 unfold uV at s;simp only [Fm.op,hwn,Fm.a,Fm.b] at s;unfold Rq.wiS Rq.wiA Rq.wiB
 by_cases h:b.toInt<0
 ·rw [aL (by simp [h])] at s;obtain ⟨e,rfl⟩:=s;have hn:¬ m.ac l [91]=true:=by rw [hno rfl];decide
  rw [aG hn,aG hn,aG hn];rcases hw with ⟨rfl,rfl⟩ | hw
  ·exact ⟨Z,Z,Z⟩
  ·omega
 ·rw [aG (by simp [h])] at s;obtain ⟨t0,t1,t2,t3,t4,e,rfl⟩:=s
  have hab:0<=a.toInt/\0<=b.toInt:=by
   rcases hw with ⟨rfl,rfl⟩ | hw
   ·exact absurd (by decide) h
   ·omega
  have hy:=uR t0 (.inr Z);have n1:=bA0 t1 hab.1;have n3:=bA0 t3 hab.2;rw [aL hy,aL hy,aL hy,n1.1,GH t2 (.inr Z),n3.1,GH t4 (.inr Z),n1.2,n3.2];exact ⟨Z,Z,Z⟩
theorem aT4 {n:Int64} (h:-1000000<=n.toInt) (s:Sps l r (XG n.toInt) m):r.boS l=m/\r.boV l=n:=by
 unfold XG at s;unfold Rq.boS Rq.boV
 by_cases h0:n.toInt<0
 ·rw [aL h0] at s;obtain ⟨t0,t1,e,rfl⟩:=s;have hy:=uR t0 (.inr Z);have hb:=bY4 t1 (by omega);rw [aL hy,aL hy,hb.1,hb.2];refine ⟨Z,dQ.1 ?_⟩;have h1:(Int64.ofNat n.toInt.natAbs).toInt=(n.toInt.natAbs:Int):=fU (by omega);rw [Int64.toInt_neg,h1,Int.bmod_eq_of_le (by omega) (by omega)];omega
 ·rw [aG h0] at s;obtain ⟨t0,e,rfl⟩:=s;have hn:¬ r.ac l [45]=true:=by rw [cB3 t0 (.inr Z)];decide
  rw [aG hn,aG hn];exact bA0 t0 (by omega)
theorem aZ3 {op:UInt8} {nm:Str} {a b:Int64} {ex:List Ex} {gs:List Fm} (ha:-1000000<=a.toInt) (hb:-1000000<=b.toInt) (s:Sps l r (IV (.mk op nm [] a b ex gs)) m):r.amS l=m/\∀ o,r.amV l o=.mk o nm [] a b [] []:=by
 unfold IV at s;simp only [Fm.nm,Fm.a,Fm.b] at s;obtain ⟨t0,t1,s⟩:=s;obtain ⟨m1,s1,t2,s2⟩:=lC s;have e1:r.ama l=r.nx.nx:=by unfold Rq.ama;rw [IQ t0,GH t1 (.inl Z)]
 have i1:=aT4 ha s1;have e2:r.amb l=m1.nx:=by unfold Rq.amb;rw [e1,i1.1,GH t2 (.inr Z)]
 have i2:=aT4 hb s2;unfold Rq.amS Rq.amV;rw [e2,i2.1,e1,i1.2,i2.2,BP t0];exact ⟨Z,λ_=>rfl⟩
theorem bA7 (f:Fm) (x:Ex) (es:List Ex):(f.wEx (f.ex++[x])).wEx ((f.wEx (f.ex++[x])).ex++es)=f.wEx (f.ex++(x::es)):=by
 show f.wEx (f.ex++[x]++es)=_;rw [aZ];rfl
theorem aZ1:∀ (es:List Ex) (f:Fm) (r r':Rq),es≠[]->(∀ x∈es,(x=zE\/eP x=true)/\qO x=false)->Sps l r (DV (es.map tqT)++[(4,[41])]) r'->Gd l (.arg f) r (mdN (f.wEx (f.ex++es))) false r'/\r.ac l [41]=false
 | [],_,_,_,h,_,_=>absurd rfl h
 | [x],f,r,r',_,hx,s=>by
  obtain ⟨m,s1,t,e,rfl⟩:=lC s
  have ga:∀ f',Gd l (.aft f') m (mdN f') false m.nx:=λf'=>by
   have g:=Gd.afE (f:=f') (bA1 (w':=[44]) t (by decide));rw [GH t (.inr Z)] at g;exact g
  obtain ⟨h1,h2⟩:=hx x (by simp);rcases h1 with rfl | h1
  ·obtain ⟨t0,e0,rfl⟩:=(show Sps l r [(4,[95])] m from s1);exact ⟨.arU (uR t0 (.inr Z)) (ga _),bA1 t0 (by decide)⟩
  ·have hx7:Nx l 7 m:=.tok t (by decide);have g1:=(WK x h1 h2 _ _ s1 (hx7.up (by have:=zA x.op;omega))).at (oK s1).2 (by omega) (show 7<=tlv x.op+3 by have:=zA x.op;omega) (by have:=GU x.op;omega) hx7;have hf:=BE g1 _ rfl (oK s1).2;refine ⟨?_,hf.1 _ (by decide)⟩;have g:=Gd.arT (f:=f) (hf.1 _ (by decide)) g1 (ga _);rw [(tL x).1,(tL x).2] at g;exact g
 | x::y::es,f,r,r',_,hx,s=>by
  obtain ⟨m,s1,s2⟩:=lC (show Sps l r (tqT x++((4,[44])::(DV ((y::es).map tqT)++[(4,[41])]))) r' from by
   have e:DV ((x::y::es).map tqT)++[(4,[41])]=tqT x++((4,[44])::(DV ((y::es).map tqT)++[(4,[41])])):=by
    show (tqT x++(4,[44])::DV ((y::es).map tqT))++_=_;simp only [aZ,aT]
   rw [<-e];exact s)
  obtain ⟨t,s3⟩:=s2
  have ga:Gd l (.aft (f.wEx (f.ex++[x]))) m (mdN (f.wEx (f.ex++(x::y::es)))) false r':=by
   have g:=(aZ1 (y::es) (f.wEx (f.ex++[x])) m.nx r' (by simp) (λz hz=>hx z (bT _ hz)) s3).1;rw [bA7] at g;exact .afC (uR t (.inr Z)) g
  obtain ⟨h1,h2⟩:=hx x (by simp);rcases h1 with rfl | h1
  ·obtain ⟨t0,e0,rfl⟩:=(show Sps l r [(4,[95])] m from s1);exact ⟨.arU (uR t0 (.inr Z)) ga,bA1 t0 (by decide)⟩
  ·have hx7:Nx l 7 m:=.tok t (by decide);have g1:=(WK x h1 h2 _ _ s1 (hx7.up (by have:=zA x.op;omega))).at (oK s1).2 (by omega) (show 7<=tlv x.op+3 by have:=zA x.op;omega) (by have:=GU x.op;omega) hx7;have hf:=BE g1 _ rfl (oK s1).2;refine ⟨?_,hf.1 _ (by decide)⟩;have g:=Gd.arT (f:=f) (n:=mdN (f.wEx (f.ex++(x::y::es)))) (hf.1 _ (by decide)) g1 (by rw [(tL x).1];exact ga);rw [(tL x).2] at g;exact g
theorem t7 {x:Ex} (h1:eP x=true) (h2:qO x=false) (s:Sps l r (tqT x) m) (hx:Nx l 7 m):Gd l (.lev 7) r (ndE x) false m :=
 (WK x h1 h2 _ _ s (hx.up (by have:=zA x.op;omega))).at (oK s).2 (by omega) (by have:=zA x.op;omega) (by have:=GU x.op;omega) hx
theorem WV {op:UInt8} {a b:Int64} {nm:Str} {g:Fm} (hp:(w,op)∈IS) (t0:r.er=0/\kt (tkf l r.i)=(2,w)) (hg:Gd l (.lev 5) (r.prS l op) (ndF g) false r') (hf:r.prF l op=.mk op nm [] a b [] []) (h4:¬ op=4):Rl l 5 r (ndF (.mk op nm [] a b [] [g])) r':=by
 have G:=Gd.pre hp (uR t0 (.inl Z)) hg;rw [(CX g).1,(CX g).2,hf] at G;rw [aR2 (show ¬ (Fm.mk op nm [] a b [] [g]).op=4 from h4)];exact aQ9 (by unfold lpB;decide) G
theorem aT2 {op:UInt8} {a b:Int64} {f g:Fm} {k:Nat} (hk:1<=k/\k<=4) (A:Rl l k r (ndF f) ra) (t0:ra.er=0/\kt (tkf l ra.i)=(2,joW k)) (hj:ra.jnF l k=.mk op [] [] a b [] []) (hB:Gd l (.lev (k+1)) (ra.jnS l k) (ndF g) false r') (h4:¬ op=4):Rl l k r (ndF (.mk op [] [] a b [] [f,g])) r':=by
 have hl:lpB k:=.inl hk;refine ⟨λ_ n m r2 gg=>?_,λe=>absurd hl e⟩
 have g':Gd l (.lp k (mdN ((ra.jnF l k).wAr [(ndF f).f,(ndF g).f]))) r' n m r2:=by
  rw [(CX f).1,(CX g).1,hj];rw [aR2 (show ¬ (Fm.mk op [] [] a b [] [f,g]).op=4 from h4)] at gg;exact gg
 have G:=Gd.join hk (uR t0 (.inl Z)) hB g';rw [(CX f).2,(CX g).2] at G;exact A.1 hl _ _ _ G
theorem aQ4:∀ o∈([16,17,18,19,20,21]:List UInt8),(16<=o.toNat/\o.toNat<=21)/\∀ x∈cuL,7<=x.1->¬ xE o=x.2:=by decide +kernel
theorem bX7 {op:UInt8} (ho:op=9\/op=10\/op=11):bsF op=(cJ op).lv/\(1<=(cJ op).lv/\(cJ op).lv<=3)/\joW (cJ op).lv=gA op/\UInt8.ofNat (12 - (cJ op).lv)=op:=by
 rcases ho with rfl | rfl | rfl <;> decide
theorem bR3 (f:Fm):Fm.all jX f=true->Fm.all tM f=true->Fd l f:=by
 induction f using Fm.ind with
 | _ op nm fd a b ex args ih =>
  intro hf hn r r' s hx;obtain ⟨hf,hfs⟩:=wR hf;rw [oN,aE,aW] at hn;obtain ⟨hn,hns⟩:=hn;obtain ⟨n1,n2,n3⟩:=QV hn
  have ih':∀ g∈args,Fd l g/\1<=(cJ g.op).lv:=λg hg=>⟨ih g hg (hfs g hg) (hns g hg),by
   have:=hfs g hg;obtain ⟨o,x1,x2,x3,x4,x5,x6⟩:=g;have h0:=(kB (wR this).1).1;show 1<=(cJ o).lv;omega⟩
  have hg:=JI hf;clear ih hfs hns hf hn;rw [DC] at s;cases hg with
  | tf h =>
   rcases h with rfl | rfl
   ·obtain ⟨t0,e,rfl⟩:=(show Sps l r [(2,[116,114,117,101])] r' from s);exact .of10 (Gd.tru (uR t0 (.inl Z)))
   ·obtain ⟨t0,e,rfl⟩:=(show Sps l r [(2,[102,97,108,115,101])] r' from s);exact .of10 (Gd.fal (uR t0 (.inl Z)))
  | @cmp o x y h hx1 hy1 =>
   have hm:=n3 _ (bQ.2 rfl);have m3:=(GY hm).2.2;obtain ⟨m,s1,t0,s2⟩:=lC (show Sps l r (tqT x++(4,xE o)::tqT y) r' from s);have hx7:Nx l 7 m:=.tok t0 (aQ4 o h).2;have g1:=t7 hx1 (m3 x (by simp)) s1 hx7;have g2:=t7 hy1 (m3 y (by simp)) s2 hx;have hi:=(aQ4 o h).1;have g:=Gd.cm1 hi g1 (uR t0 (.inr Z)) g2;unfold opB at g;rw [(tL x).1,(tL y).1,(tL x).2,(tL y).2,hI] at g;exact aQ9 (j:=6) (by unfold lpB;decide) g
  | var =>
   obtain ⟨t0,t1,t2,e,rfl⟩:=(show Sps l r [(1,nm),(4,[46]),(1,fd)] r' from s);have e2:r.nx.nx.nmS l=r.nx.nx.nx:=IQ t2;have g:=Gd.nam1 t0.1 (MQ t0.2) (uR t1 (.inr Z)) (by rw [e2];exact hx.brk (show bsF 4+1<=20 by decide));rw [e2,BP t0,BP t2,XK t0 t2] at g;exact .of10 g
  | @has _ _ x hx1 =>
   obtain ⟨t0,t1,t2,t3,t4,s⟩:=(show Sps l r ((2,[104,97,115])::(1,nm)::(4,[46])::(1,fd)::(4,[91])::(tqT x++[(4,[93])])) r' from s);obtain ⟨m,s1,t5,e,rfl⟩:=lC s;obtain ⟨p1,p2,p3⟩:=aQ1 t1 t2 t3;have e1:(r.nx.paS l).exS l [91]=r.nx.nx.nx.nx.nx:=by rw [p1,GH t4 (.inr Z)]
   have g:=Gd.has (uR t0 (.inl Z)) (by rw [e1];exact t7 hx1 (n3 x (by simp)) s1 (.tok t5 (by decide)));unfold Rq.paV at g;rw [p2,p3,(tL x).1,(tL x).2,GH t5 (.inr Z)] at g;exact .of10 g
  | flg =>
   obtain ⟨t0,t1,e,rfl⟩:=(show Sps l r [(2,[102,108,97,103]),(1,nm)] r' from s);have g:=Gd.flg (uR t0 (.inl Z));rw [IQ t1,BP t1] at g;exact .of10 g
  | arr hl hxs =>
   obtain ⟨t0,t1,t2,t3,t4,s⟩:=(show Sps l r ((2,[97,114,114,105,118,101,115])::(1,nm)::(4,[46])::(1,fd)::(4,[40])::(DV (ex.map tqT)++[(4,[41])])) r' from s);obtain ⟨p1,p2,p3⟩:=aQ1 t1 t2 t3;have e1:(r.nx.paS l).exS l [40]=r.nx.nx.nx.nx.nx:=by rw [p1,GH t4 (.inr Z)]
   have pv:r.nx.paV l 7=.mk 7 nm fd 0 0 [] []:=by unfold Rq.paV;rw [p2,p3]
   by_cases h0:ex=[]
   ·subst h0;obtain ⟨t5,e,rfl⟩:=(show Sps l r.nx.nx.nx.nx.nx [(4,[41])] r' from s);have g:=Gd.arr0 (uR t0 (.inl Z)) (by rw [e1];exact uR t5 (.inr Z));rw [e1,pv] at g;exact .of10 g
   ·have g1:=aZ1 ex (.mk 7 nm fd 0 0 [] []) _ _ h0 (λx h=>⟨hxs x h,n3 x h⟩) s;have g:=Gd.arr (uR t0 (.inl Z)) (by rw [e1];exact g1.2) (by rw [e1,pv];exact g1.1);exact .of10 g
  | @un _ g h =>
   obtain ⟨g1,hl⟩:=ih' g (by simp);have e1:fqO (.mk op [] [] 0 0 [] [g]) ([g].map λf=>(f.op,tqF f))=(2,gA op)::prQ (decide ((cJ g.op).lv<5)) (tqF g):=by rcases h with rfl | rfl <;> rfl
   rw [e1] at s;obtain ⟨t0,s⟩:=s;have hb:bsF op=5:=by rcases h with rfl | rfl <;> decide
   rw [show (Fm.mk op [] [] 0 0 [] [g]).op=op from rfl,hb] at hx|-;have G:=JL g1 hl (MT (by omega)) s hx;exact WV (w:=gA op) (by rcases h with rfl | rfl <;> decide) t0 (by rcases h with rfl | rfl <;> exact G) (by rcases h with rfl | rfl <;> rfl) (by rcases h with rfl | rfl <;> decide)
  | @win _ _ _ g h hw =>
   obtain ⟨g1,hl⟩:=ih' g (by simp);have e1:fqO (.mk op [] [] a b [] [g]) ([g].map λf=>(f.op,tqF f))=(2,gA op)::(uV (.mk op [] [] a b [] [g])++prQ (decide ((cJ g.op).lv<5)) (tqF g)):=by rcases h with rfl | rfl <;> rfl
   rw [e1] at s;obtain ⟨t0,s⟩:=s;obtain ⟨m,s1,s2⟩:=lC s;have hb:bsF op=5:=by rcases h with rfl | rfl <;> decide
   rw [show (Fm.mk op [] [] a b [] [g]).op=op from rfl,hb] at hx|-;have G:=JL g1 hl (MT (by omega)) s2 hx;have hf:=(BE G _ rfl (oK s2).2).1 [91] (by decide);obtain ⟨w1,w2,w3⟩:=VZ hw (by rcases h with rfl | rfl <;> rfl) s1 (λe=>by rw [e];exact hf);have pS:r.prS l op=m:=by unfold Rq.prS;rw [aL h,w1]
   have pF:r.prF l op=.mk op [] [] a b [] []:=by unfold Rq.prF Rq.wiV;rw [aL h,w2,w3]
   exact WV (w:=gA op) (by rcases h with rfl | rfl <;> decide) t0 (by rw [pS];exact G) pF (by rcases h with rfl | rfl <;> decide)
  | @amo _ _ _ _ g h ha hb' =>
   obtain ⟨g1,hl⟩:=ih' g (by simp);have e1:fqO (.mk op nm [] a b [] [g]) ([g].map λf=>(f.op,tqF f))=(2,gA op)::(IV (.mk op nm [] a b [] [g])++prQ (decide ((cJ g.op).lv<5)) (tqF g)):=by rcases h with rfl | rfl <;> rfl
   rw [e1] at s;obtain ⟨t0,s⟩:=s;obtain ⟨m,s1,s2⟩:=lC s;have hb:bsF op=5:=by rcases h with rfl | rfl <;> decide
   rw [show (Fm.mk op nm [] a b [] [g]).op=op from rfl,hb] at hx|-;have G:=JL g1 hl (MT (by omega)) s2 hx;obtain ⟨w1,w2⟩:=aZ3 ha hb' s1;have pS:r.prS l op=m:=by unfold Rq.prS;rw [aG (by rcases h with rfl | rfl <;> decide),aL h,w1]
   have pF:r.prF l op=.mk op nm [] a b [] []:=by unfold Rq.prF;rw [aG (by rcases h with rfl | rfl <;> decide),aL h,w2]
   exact WV (w:=gA op) (by rcases h with rfl | rfl <;> decide) t0 (by rw [pS];exact G) pF (by rcases h with rfl | rfl <;> decide)
  | @cnt _ _ _ n g ha hb' hn0 =>
   obtain ⟨g1,hl⟩:=ih' g (by simp);obtain ⟨t0,s⟩:=(show Sps l r ((2,[99,111,117,110,116])::(IV (.mk 18 nm [] a b [.mk 1 [] n []] [g])++(4,[40])::(tqF g++(4,[41])::(4,[62,61])::[(3,Lib.itoa n.toInt)]))) r' from s);obtain ⟨m,s1,t1,s⟩:=lC s;obtain ⟨m2,s2,t2,t3,t4,e,rfl⟩:=lC s;obtain ⟨w1,w2⟩:=aZ3 ha hb' s1;have e1:(r.nx.amS l).exS l [40]=m.nx:=by rw [w1,GH t1 (.inr Z)]
   have hx1:Nx l 1 m2:=.tok t2 (by decide);have G:=(g1 _ _ s2 (hx1.up (by omega))).at (oK s2).2 (aX _) (by have:=aB4 g.op;omega) (aB4 g.op).2 hx1;have gg:=Gd.cnt (uR t0 (.inl Z)) (by rw [e1];exact G);have nu:=bA0 t4 hn0;rw [(CX g).1,(CX g).2,GH t2 (.inr Z),GH t3 (.inr Z),nu.1,nu.2,w2] at gg;exact aQ9 (j:=5) (by unfold lpB;decide) gg
  | @bin _ g h ho =>
   obtain ⟨g1,hl1⟩:=ih' g (by simp);obtain ⟨g2,hl2⟩:=ih' h (by simp);have e1:fqO (.mk op [] [] 0 0 [] [g,h]) ([g,h].map λf=>(f.op,tqF f))=prQ (decide ((cJ g.op).lv<(cJ op).lv)) (tqF g)++(2,gA op)::prQ (decide ((cJ h.op).lv<(cJ op).lv+1)) (tqF h):=by rcases ho with rfl | rfl | rfl <;> rfl
   rw [e1] at s;obtain ⟨m,s1,t0,s2⟩:=lC s;obtain ⟨hb,hk,hw,hop⟩:=bX7 ho;rw [show (Fm.mk op [] [] 0 0 [] [g,h]).op=op from rfl,hb] at hx|-;have hxm:Nx l ((cJ op).lv+1) m:=.tok t0 (by rcases ho with rfl | rfl | rfl <;> decide);have A:=JK (j:=(cJ op).lv) g1 hl1 (by omega) (MT (by omega)) s1 hxm;have B:=(JK (j:=(cJ op).lv+1) g2 hl2 (by omega) (MT (by omega)) s2 (hx.up (Nat.le_succ _))).full hx;exact aT2 (k:=(cJ op).lv) (by omega) A (by rw [hw];exact t0) (by unfold Rq.jnF;rw [aG (by omega),hop]) (by unfold Rq.jnS;rw [aG (by omega)];exact B) (by rcases ho with rfl | rfl | rfl <;> decide)
  | @snc _ _ g h hw =>
   obtain ⟨g1,hl1⟩:=ih' g (by simp);obtain ⟨g2,hl2⟩:=ih' h (by simp);obtain ⟨m,s1,t0,s2⟩:=lC (show Sps l r (prQ (decide ((cJ g.op).lv<4)) (tqF g)++(2,[115,105,110,99,101])::(uV (.mk 15 [] [] a b [] [g,h])++prQ (decide ((cJ h.op).lv<5)) (tqF h))) r' from s);obtain ⟨m2,s3,s4⟩:=lC s2;have hxm:Nx l 5 m:=.tok t0 (by decide);have A:=JK (j:=4) g1 hl1 (by omega) (MT (by omega)) s1 hxm;have B:=JL g2 hl2 (MT (by omega)) s4 (hx.up (show bsF 15+1<=6 by decide));have hf:=(BE B _ rfl (oK s4).2).1 [91] (by decide);obtain ⟨w1,w2,w3⟩:=VZ hw rfl s3 (λe=>by rw [e];exact hf);exact aT2 (k:=4) (by decide) A t0 (by unfold Rq.jnF Rq.wiV;rw [aL rfl,w2,w3]) (by unfold Rq.jnS;rw [aL rfl,w1];exact B) (by decide)
theorem aV3 {f:Fm} (hf:Fm.all jX f=true) (hn:Fm.all tM f=true) {k:Nat} (hk:1<=k) (hb:k<=(cJ f.op).lv) (s:Sps l r (tqF f) r') (hx:Nx l k r'):Gd l (.lev k) r (ndF f) false r':=by
 have:=aB4 f.op;exact (bR3 f hf hn r r' s (hx.up (by omega))).at (oK s).2 hk (by omega) this.2 hx
theorem aV2 {f:Fm} (hf:Fm.all jX f=true):1<=(cJ f.op).lv:=by
 obtain ⟨o,x1,x2,x3,x4,x5,x6⟩:=f;have h0:=(kB (wR hf).1).1;show 1<=(cJ o).lv;omega
end
theorem YZ (h:(wM s).map kt=ks):Sps (nN s) ⟨0,0,0⟩ ks ⟨ks.length,0,0⟩/\(tkf (nN s) ks.length).k=0:=by
 have hl:(wM s).length=ks.length:=by rw [<-h,bJ]
 refine ⟨?_,?_⟩
 ·have:=aN9 (l:=nN s) ks 0 λj hj=>by
   unfold tkf nN;rw [dL,List.getD_eq_getElem?_getD,List.getElem?_append_left (by omega),List.getElem?_eq_getElem (by omega)];subst h;rw [nM];rfl
  rwa [dL] at this
 ·unfold tkf nN;rw [List.getD_eq_getElem?_getD,List.getElem?_append_right (by omega),hl,iW];rfl
variable {f:Fm}
theorem oY (h:fN f=0):f.count<=60/\Fm.all uM f=true/\Fm.all tM f=true/\Fm.all jX f=true:=by
 unfold fN at h
 split at h
 ·cases h
 rename_i h1
 split at h
 ·cases h
 rename_i h2
 split at h
 ·cases h
 rename_i h3;rw [tZ] at h1;exact ⟨by omega,by simpa using h1.2,by simpa using h2,by simpa using h3⟩
theorem bE7 {n:Fn} {m:Bool} (h:(wM s).map kt=ks) (g:Gd (nN s) (.lev 1) ⟨0,0,0⟩ n m ⟨ks.length,0,0⟩):AO (nN s)=if m || !n.fm then (zF,0,6) else if ¬ fN n.f=0 then (zF,0,fN n.f) else (n.f,0,0):=by
 rw [bN8 (aN1 s) (by rw [wE];omega) g];unfold aP2;have e:KG (nN s) ⟨ks.length,0,0⟩=⟨ks.length,0,0⟩:=by unfold KG;rw [aG (λk=>k.2 (YZ h).2)]
 rw [e,aG (λk=>k rfl)]
def nsE (e:Ex):Bool:=Ex.all (λe=>decide (e.nm.length<=30)) e
theorem EQ (e:Ex) (hn:nsE e=true):(tmT e).length<=130 * e.count:=by
 induction e using Ex.ind with | _ op nm n args ih
 unfold nsE at hn;rw [nT,mN,aE,aD,aW] at hn;obtain ⟨hn,ha⟩:=hn;have hn':nm.length<=30:=hn
 have hx:∀ (l:List (UInt8 × Str)),l=args.map (λe=>(e.op,tmT e))->(l.headD (0,[])).2.length+((l.drop 1).headD (0,[])).2.length<=130 * Ex.counts args:=by
  rintro l rfl
  match args,ih,ha with
  | [],_,_=>exact aO _
  | [a],ih,ha =>
   have:=ih a (aY ..) (ha a (aY ..));rw [Ex.counts,Ex.counts];show (tmT a).length+0<=_;omega
  | a::b::r,ih,ha =>
   have h1:=ih a (aY ..) (ha a (aY ..));have h2:=ih b (bT _ (aY ..)) (ha b (bT _ (aY ..)));rw [Ex.counts,Ex.counts];show (tmT a).length+(tmT b).length<=_;omega
 have hx:=hx _ rfl;rw [lU,wD];unfold WF;generalize args.map (λe=>(e.op,tmT e))=l at hx|-;have hi:=rR n;have p1:=(kY (decide (tlv (l.headD (0,[])).1<6)) (l.headD (0,[])).2).2;have p2:=(kY (decide (tlv (l.headD (0,[])).1<tlv op)) (l.headD (0,[])).2).2;have p3:=(kY (decide (tlv ((l.drop 1).headD (0,[])).1<tlv op+1)) ((l.drop 1).headD (0,[])).2).2;have p4:=yG op;generalize Ex.counts args=C at hx|-
 repeat' split
 all_goals (try simp only [aF,aJ,aM]);omega
def nsF (f:Fm):Bool:=Fm.all (λf=>decide (f.nm.length<=30) && decide (f.fd.length<=30) && f.ex.all nsE) f
theorem SQ:∀ l:List Ex,(∀ e∈l,nsE e=true)->((l.map tmT).map List.length).sum<=130 * Ex.counts l
 | [],_=>aO _
 | e::r,h=>by
  rw [dG,dG,List.sum_cons,Ex.counts];have h1:=EQ e (h e (aY ..));have h2:=SQ r λx hx=>h x (bT _ hx);omega
theorem aN0 (e:Ex) (h:nsE e=true):(tmT (ex0 e)).length+(tmT (ex1 e)).length<=130 * e.count:=by
 obtain ⟨op,nm,n,args⟩:=e;unfold nsE at h;rw [nT,mN,aE,aW] at h;rw [lU];have hz:tmT zE=[95]:=wD
 match args,h.2 with
 | [],_=>show (tmT zE).length+(tmT zE).length<=_;rw [hz,Ex.counts];decide
 | [x],h =>
  have:=EQ x (h x (aY ..));show (tmT x).length+(tmT zE).length<=_;rw [hz,Ex.counts,Ex.counts];show _+1<=_;omega
 | x::y::r,h =>
  have h1:=EQ x (h x (aY ..));have h2:=EQ y (h y (bT _ (aY ..)));show (tmT x).length+(tmT y).length<=_;rw [Ex.counts,Ex.counts];omega
theorem aU7 (F:Fm) (l:List (UInt8 × Str)) (C D:Nat) (h1:F.nm.length<=30) (h2:F.fd.length<=30) (he:(tmT (exH F)).length+(tmT (ex0 (exH F))).length+(tmT (ex1 (exH F))).length<=260 * D+3)
 (hj:(wP ([44,32]:Str) (F.ex.map tmT)).length<=132 * D) (hx:(l.headD (0,[])).2.length+((l.drop 1).headD (0,[])).2.length<=400 * C) (w1:(rO F).length<=46) (w2:(GF F).length<=F.nm.length+49):(LK F l).length<=400 * (D+C+1):=by
 have w3:=GO F.op;have w4:=yG (exH F).op;have p1:=(kY (decide ((cJ (l.headD (0,[])).1).lv<5)) (l.headD (0,[])).2).2;have p2:=(kY (decide ((cJ (l.headD (0,[])).1).lv<(cJ F.op).lv)) (l.headD (0,[])).2).2;have p3:=(kY (decide ((cJ ((l.drop 1).headD (0,[])).1).lv<(cJ F.op).lv+1)) ((l.drop 1).headD (0,[])).2).2;unfold LK
 repeat' split
 all_goals (try simp only [aF,aJ,aM]);omega
theorem bH4 (f:Fm) (hn:nsF f=true):(fmT f).length<=400 * f.count:=by
 induction f using Fm.ind with | _ op nm fd a b ex args ih
 unfold nsF at hn;rw [oN,aE,aE,aE,aD,aD,aW,aW] at hn;obtain ⟨⟨⟨hn,hf⟩,he⟩,ha⟩:=hn;have hn':nm.length<=30:=hn;have hf':fd.length<=30:=hf;have he':∀ e∈ex,nsE e=true:=he
 have hx:∀ (l:List (UInt8 × Str)),l=args.map (λf=>(f.op,fmT f))->(l.headD (0,[])).2.length+((l.drop 1).headD (0,[])).2.length<=400 * Fm.counts args:=by
  rintro l rfl
  match args,ih,ha with
  | [],_,_=>exact aO _
  | [a],ih,ha =>
   have:=ih a (aY ..) (ha a (aY ..));rw [Fm.counts,Fm.counts];show (fmT a).length+0<=_;omega
  | a::b::r,ih,ha =>
   have h1:=ih a (aY ..) (ha a (aY ..));have h2:=ih b (bT _ (aY ..)) (ha b (bT _ (aY ..)));rw [Fm.counts,Fm.counts];show (fmT a).length+(fmT b).length<=_;omega
 have hx:=hx _ rfl
 have he0:(tmT (exH (.mk op nm fd a b ex args))).length+(tmT (ex0 (exH (.mk op nm fd a b ex args)))).length+(tmT (ex1 (exH (.mk op nm fd a b ex args)))).length<=260 * Ex.counts ex+3:=by
  have hz:tmT zE=[95]:=wD
  match ex,he' with
  | [],_ =>
   show (tmT zE).length+(tmT zE).length+(tmT zE).length<=_;rw [hz];show 3<=_;omega
  | e::r,h =>
   have h1:=EQ e (h e (aY ..));have h2:=aN0 e (h e (aY ..));show (tmT e).length+(tmT (ex0 e)).length+(tmT (ex1 e)).length<=_;rw [Ex.counts];omega
 have hj:=RE ([44,32]:Str) (ex.map tmT);have hs:=SQ ex he';have hl2:=XT ex;rw [bJ] at hj;rw [nS,AK];have e2:([44,32]:Str).length=2:=rfl;rw [e2] at hj;exact aU7 _ _ _ _ hn' hf' he0 (bD hj (by omega)) hx PD RT
theorem QY (e:Ex):qO e=false->eP e=true->nsE e=true:=by
 induction e using Ex.ind with | _ op nm n args ih
 intro h ht;obtain ⟨m1,_,m3⟩:=GY h;unfold nsE;rw [nT,mN,aE,aD,aW]
 have nm30:(op=5\/op=6\/op=8)->nm.length<=30:=λho=>by
  have k:=m1 ho;unfold nmQ at k;cases hs:eJ nm with
  | none=>rw [hs] at k;have:=(lL k).2.2.2.2;omega
  | some x =>
   obtain ⟨a,b⟩:=x;rw [hs] at k;simp only [aE] at k;have k1:=(lL k.1).2.2.2.2;have k2:=(lL k.2).2.2.2.2;rw [sI hs,aF,aF];show a.length+1+b.length<=30;omega
 show nm.length<=30/\_;rcases JX ht with ⟨rfl,rfl,_,rfl⟩ | ⟨rfl,rfl,_,rfl⟩ | ⟨ho,_,rfl⟩ | ⟨rfl,_,a,rfl,ha⟩ | ⟨rfl,rfl,_,a,rfl,ha⟩ | ⟨_,rfl,_,a,b,rfl,ha,hb⟩
 ·exact ⟨by decide,λx hx=>(by cases hx)⟩
 ·exact ⟨by decide,λx hx=>(by cases hx)⟩
 ·exact ⟨nm30 (by rcases ho with h | h <;> simp [h]),λx hx=>(by cases hx)⟩
 ·exact ⟨nm30 (by simp),λx hx=>by rw [bQ.1 hx];exact ih a (by simp) (m3 a (by simp)) ha⟩
 ·exact ⟨by decide,λx hx=>by rw [bQ.1 hx];exact ih a (by simp) (m3 a (by simp)) ha⟩
 ·refine ⟨by decide,λx hx=>?_⟩;simp only [bM,List.not_mem_nil,or_false] at hx;rcases hx with rfl | rfl
  ·exact ih _ (by simp) (m3 _ (by simp)) ha
  ·exact ih _ (by simp) (m3 _ (by simp)) hb
theorem bG8 (f:Fm):Fm.all jX f=true->Fm.all tM f=true->nsF f=true:=by
 induction f using Fm.ind with | _ op nm fd a b ex args ih
 intro hf hn;obtain ⟨hf,hfs⟩:=wR hf;rw [oN,aE,aW] at hn;obtain ⟨hn,hns⟩:=hn;obtain ⟨n1,n2,n3⟩:=QV hn;unfold nsF;rw [oN,aE,aW];refine ⟨?_,λg hg=>ih g hg (hfs g hg) (hns g hg)⟩;have hg:=JI hf;rw [aE,aE,aD,aD,aW];show (nm.length<=30/\fd.length<=30)/\∀ x∈ex,nsE x=true;have l1:fQ nm=true->nm.length<=30:=λk=>by have:=(lL k).2.2.2.2;omega
 have l2:fQ fd=true->fd.length<=30:=λk=>by have:=(lL k).2.2.2.2;omega
 have z:∀ x∈([]:List Ex),nsE x=true:=λx hx=>(by cases hx);have nz:([]:Str).length<=30:=by decide
 have z0:nsE zE=true:=by decide
 cases hg with
 | tf=>exact ⟨⟨nz,nz⟩,z⟩
 | @cmp o x y h hx hy =>
  refine ⟨⟨nz,nz⟩,λe he=>?_⟩;rw [bQ.1 he];have m3:=(GY (n3 _ (bQ.2 rfl))).2.2;unfold nsE;rw [nT,mN,aE,aD,aW];refine ⟨nz,λe he=>?_⟩;simp only [bM,List.not_mem_nil,or_false] at he;rcases he with rfl | rfl
  ·exact QY _ (m3 _ (by simp)) hx
  ·exact QY _ (m3 _ (by simp)) hy
 | var=>exact ⟨⟨l1 (n1 rfl),l2 (n2 rfl)⟩,z⟩
 | has hx=>exact ⟨⟨l1 (n1 rfl),l2 (n2 rfl)⟩,λe he=>by rw [bQ.1 he];exact QY _ (n3 _ (by simp)) hx⟩
 | flg=>exact ⟨⟨l1 (n1 rfl),nz⟩,z⟩
 | arr hl hx =>
  refine ⟨⟨l1 (n1 rfl),l2 (n2 rfl)⟩,λe he=>?_⟩;rcases hx e he with rfl | h
  ·exact z0
  ·exact QY _ (n3 e he) h
 | un=>exact ⟨⟨nz,nz⟩,z⟩
 | win=>exact ⟨⟨nz,nz⟩,z⟩
 | amo h=>exact ⟨⟨l1 (n1 (by rcases h with rfl | rfl <;> rfl)),nz⟩,z⟩
 | cnt=>exact ⟨⟨l1 (n1 rfl),nz⟩,λe he=>by rw [bQ.1 he];rfl⟩
 | bin=>exact ⟨⟨nz,nz⟩,z⟩
 | snc=>exact ⟨⟨nz,nz⟩,z⟩
theorem PJ (e:Ex):eP e=true->blE 4 e=true:=by
 induction e using Ex.ind with | _ op nm n args ih
 intro ht;refine BN.2 ?_;rcases JX ht with ⟨_,_,_,rfl⟩ | ⟨_,_,_,rfl⟩ | ⟨_,_,rfl⟩ | ⟨_,_,a,rfl,ha⟩ | ⟨_,_,_,a,rfl,ha⟩ | ⟨_,_,_,a,b,rfl,ha,hb⟩
 ·exact ⟨by decide,λx hx=>(by cases hx)⟩
 ·exact ⟨by decide,λx hx=>(by cases hx)⟩
 ·exact ⟨by decide,λx hx=>(by cases hx)⟩
 ·exact ⟨(by decide:1<=4),λx hx=>by rw [bQ.1 hx];exact ih a (by simp) ha⟩
 ·exact ⟨(by decide:1<=4),λx hx=>by rw [bQ.1 hx];exact ih a (by simp) ha⟩
 ·refine ⟨(by decide:2<=4),λx hx=>?_⟩;simp only [bM,List.not_mem_nil,or_false] at hx;rcases hx with rfl | rfl
  ·exact ih _ (by simp) ha
  ·exact ih _ (by simp) hb
theorem bG9 (f:Fm):Fm.all jX f=true->blF 4 f=true:=by
 induction f using Fm.ind with | _ op nm fd a b ex args ih
 intro hf;obtain ⟨hf,hfs⟩:=wR hf;have hg:=JI hf;refine vD.2 ⟨?_,λg hg=>ih g hg (hfs g hg)⟩;have z:∀ x∈([]:List Ex),blE 4 x=true:=λx hx=>(by cases hx);cases hg with
 | tf=>exact ⟨by decide,by decide,z⟩
 | @cmp o x y h hx hy =>
  refine ⟨(by decide:1<=4),by decide,λe he=>?_⟩;rw [bQ.1 he];refine BN.2 ⟨(by decide:2<=4),λe he=>?_⟩;simp only [bM,List.not_mem_nil,or_false] at he;rcases he with rfl | rfl
  ·exact PJ _ hx
  ·exact PJ _ hy
 | var=>exact ⟨by decide,by decide,z⟩
 | has hx=>exact ⟨(by decide:1<=4),by decide,λe he=>by rw [bQ.1 he];exact PJ _ hx⟩
 | flg=>exact ⟨by decide,by decide,z⟩
 | arr hl hx =>
  refine ⟨hl,by decide,λe he=>?_⟩;rcases hx e he with rfl | h
  ·exact BN.2 ⟨by decide,λx hx=>(by cases hx)⟩
  ·exact PJ _ h
 | un=>exact ⟨by decide,(by decide:1<=4),z⟩
 | win=>exact ⟨by decide,(by decide:1<=4),z⟩
 | amo=>exact ⟨by decide,(by decide:1<=4),z⟩
 | cnt=>exact ⟨(by decide:1<=4),(by decide:1<=4),λe he=>by rw [bQ.1 he];exact BN.2 ⟨aO _,λx hx=>(by cases hx)⟩⟩
 | bin=>exact ⟨by decide,(by decide:2<=4),z⟩
 | snc=>exact ⟨by decide,(by decide:2<=4),z⟩
theorem RO (h:fN f=0):blF 4 f=true:=bG9 f (oY h).2.2.2
theorem LE (h:fN f=0):(fmT f).length<=24000:=by
 obtain ⟨hc,_,hn,hf⟩:=oY h;have:=bH4 f (bG8 f hf hn);omega
theorem SR (h:fN f=0):JY f=fmT f:=aL h
theorem CP:dI prg 24=true:=by kernel_rfl
theorem NX (H:Hp) (GL:Gl H) (G:Gf H) (t:Str) (f:Fm) (o e:Nat) (hl:t.length<=400000) (hp:AO (nN t)=(f,o,e)) (w:World) (hA:Agr H w) :
 Calls prg 26 #[cH t] w λr W'=>∃ (cs:List Value) (H':Hp),Rep H' (dFm .u8 f) cs/\r=.returned (.tuple #[.agg cs.toArray,iN o,iN e])/\xF H w H' W':=by
 have h:=LJ H GL G t hl w hA;rw [hp] at h;exact h
def n13 (e:Ex):Bool:=decide (e.nm.length<=13)
theorem XX:∀ (f d:Nat),d+f=31->∀ (H:Hp) (l:List Nd) (v:Value) (w:World),Rep H (.seq 5 (l.map dNd)) [v]->Agr H w ->
 Calls prg 169 #[v,iN d] w λr w'=>∃ (y:List Value × Value) (H':Hp),(∃ (e:Ex) (rest:List Nd),Rep H' (dEx .i64 e) y.1/\BD d e/\Ex.all n13 e=true/\e.count+3 * rest.length<=3 * l.length+1/\Rep H' (.seq 5 (rest.map dNd)) [y.2])/\r=.returned (.tuple #[.agg y.1.toArray,y.2])/\xF H w H' w':=by
 intro f;induction f using Nat.strongRecOn with
 | _ f ih =>
  intro d hd H l v w h hA;obtain ⟨p,c,e,_⟩:=h.sl;simp only [fT,oH] at e;subst e;obtain ⟨n,hn⟩:∃ n,n=(l.map dNd).length:=⟨_,Z⟩;rw [<-hn] at h|-;have hnl:n=l.length:=by simpa using hn
  have hcap:=h.cap;refine Sx.enter (H:=H) func169 rfl ntmps169 rfl hA ?_;refine .sr<|.al pC Z λb4=>.aq Z<|.sq<|.sm Z<|.yw (.lenSl BR Z)<|.yw (.eql Z Z)<|.mv Z<|.e2 (λh15=>?_) (λh15=>?_)
  ·refine .gG<|.gG<|.yw (.pickT Z Z)<|.nt<|.cT Z<|.sr<|.yw (.build Z (MI _))<|.mv Z<|.sW .head Z Z lO (by simp [Value.oneCell',cH,cNd]) Z<|.az Z<|.tR<|?_
   exact y7 Z (.cons (.cell Z jZ Hm rfl) (.cons (.tmp Z) .nil)) rfl λW s=>⟨(_,_),H,⟨.mk 1 [] 0 [],l,qP (by decide) (Rep.empty (by decide)),LF (by omega),Z,(by rw [lU,Ex.counts];omega),h⟩,Z,.pure hA s.ext⟩
  refine .gy (.move Z)<|.gy (.gtr Z Z)<|.yw (.pickF Z Z)<|.nt<|.ce Z (λh18=>?_) (λh18=>?_)
  ·refine .sr<|.yw (.build Z (MI _))<|.mv Z<|.sW .head Z Z lO (by simp [Value.oneCell',cH,cNd]) Z<|.az Z<|.tR<|?_
   exact y7 Z (.cons (.cell Z jZ Hm rfl) (.cons (.tmp Z) .nil)) rfl λW s=>⟨(_,_),H,⟨.mk 1 [] 0 [],l,qP (by decide) (Rep.empty (by decide)),LF (by omega),Z,(by rw [lU,Ex.counts];omega),h⟩,Z,.pure hA s.ext⟩
  have hn0:0<n:=by omega
  obtain ⟨bE,oE,cE,hpE,rE,lE,mE⟩:=h.elem (kN (f:=dNd) (show 0<l.length by omega));subst hpE;generalize hx:l[0]=x at rE;obtain rfl:=bG0 rE;obtain ⟨op,hop⟩:∃ op:UInt8,op.toNat=x.op.toNat % 24:=⟨UInt8.ofNat (x.op.toNat % 24),by simp [mC];omega⟩;obtain ⟨m0,hm0,hm2⟩:∃ m0:Nat,max (arR op.toNat) 0=(m0:Int)/\m0<=2:=⟨(max (arR op.toNat) 0).toNat,by have:=aB6 op.toNat;omega,by have:=aB6 op.toNat;omega⟩;refine .sk<|.tN<|.sm Z<|.yw (.indexSl BR Z Z (i:=0) Z (by omega) (q:=oE+0 * 5) (by omega))<|.yw (.loadMW Z aL4 mE Z)<|.al YA Z λb6=>.sW .head Z Z YC (by simp [Value.oneCell',cH,cNd]) Z<|.ns<|.mv Z<|.yw (.cutLo BR Z Z (lo:=1) Z (by omega) h.len.2.1)<|.a Z Z<|.ns<|.fA Z MX<|.lD Z iP Hm Z<|.yw (.rem Z Z (by decide) (c:=((x.op.toNat % 24:Nat):Int)) (by rw [cY (by omega)];omega))<|.yw (.conv Z kU lI (c:=((op.toNat:Nat):Int)) ((w6 (by omega)).trans (by rw [hop])))<|.fA Z mZ<|.lD Z fG Hm Z<|.yw (.build Z (AE _ _))<|.al pC Z λb7=>.sW .head Z Z lO (by simp [Value.oneCell',cH,cNd]) Z<|.ns<|.fA Z fO<|.lD Z cS Hm Z<|.yw (.call YF Z (λW s=>aH8 H op.toNat W s.agr))<|.yw (.max2 Z Z (c:=((m0:Nat):Int)) hm0)<|.aq Z<|.cu (X:=Str) [(0,_),(1,_),(4,_),(6,_),(7,_),(8,_)] ⟨Z,Z,Z,Z,Z,Z,Jt⟩ (λnm=>[]) (λnm=>H) (λnm=>[.box b7 [.int .i64 op.toNat,cH nm,.int .i64 (x.n).toInt,.slice none 0 0] 83,.box b6 (cNd x) 240,.box b4 [.int .i64 0,.string ⟨#[]⟩,.int .i64 0,.slice none 0 0] 83]) (λnm=>nm.length<=13) ?_ λnm hC=>?_
  ·
   refine .sr<|.fA Z fO<|.lD Z cS Hm Z<|.yw (.geq Z Z)<|.mv Z<|.e2 (λh40=>?_) (λh40=>?_)
   ·refine .gy (.fieldAddr Z fO)<|.gy (.load Z cS Hm Z)<|.gy (.leq Z Z)<|.yw (.pickT Z Z)<|.nt<|.cd Z (λh44=>?_) (λh44=>?_)
    ·exact .rg<|.fA Z uF<|.lD Z iP cP Z<|.yw (.call jM Z (λW s=>lP H x.nm W s.agr))<|.fA Z dZ<|.st .head Z Z fP Z (nb Z) Z<|.nt<|.me _ trivial ⟨Z,Z,Z,Z,Z,Z,Jt⟩ (λ_ s=>s) (by first | exact eN _ | decide)
    exact .sk<|.tN<|.me _ trivial ⟨Z,Z,Z,Z,Z,Z,Jt⟩ (λ_ s=>s) (by first | exact eN _ | decide)
   exact .gG<|.gG<|.gG<|.yw (.pickF Z Z)<|.nt<|.cF Z<|.sk<|.tN<|.me _ trivial ⟨Z,Z,Z,Z,Z,Z,Jt⟩ (λ_ s=>s) (by first | exact eN _ | decide)
  have hnm:=hC;refine .cu (X:=Int64) [(0,_),(1,_),(4,_),(6,_),(7,_),(8,_)] ⟨Z,Z,Z,Z,Z,Z,Jt⟩ (λnn=>[]) (λnn=>H) (λnn=>[.box b7 [.int .i64 op.toNat,cH nm,.int .i64 (nn).toInt,.slice none 0 0] 83,.box b6 (cNd x) 240,.box b4 [.int .i64 0,.string ⟨#[]⟩,.int .i64 0,.slice none 0 0] 83]) (λnn=>True) ?_ λnn hC=>?_
  ·
   refine .sr<|.fA Z fO<|.lD Z cS Hm Z<|.yw (.neq Z Z)<|.nt<|.cd Z (λh51=>?_) (λh51=>?_)
   ·exact .rg<|.fA Z eR<|.st .head Z Z iZ Z (nb Z) Z<|.nt<|.me 0 trivial ⟨Z,Z,Z,Z,Z,Z,Jt⟩ (λ_ s=>s) trivial
   exact .sk<|.tN<|.me x.n trivial ⟨Z,Z,Z,Z,Z,Z,Jt⟩ (λ_ s=>s) trivial
  refine .cu (X:=Nat × Str × Int64) [(0,_),(1,_),(4,_),(7,_)] ⟨Z,Z,Z,Z,Jt⟩ (λz=>[(8,iN z.1)]) (λz=>H) (λz=>[.box b7 [.int .i64 op.toNat,cH z.2.1,.int .i64 (z.2.2).toInt,.slice none 0 0] 83,.box b6 (cNd x) 240,.box b4 [.int .i64 0,.string ⟨#[]⟩,.int .i64 0,.slice none 0 0] 83]) (λz=>z.1<=3/\z.2.1.length<=13) ?_ λz hC=>?_
  ·
   refine .sr<|.fA Z MW<|.lD Z jI cP Z<|.nt<|.cd Z (λh54=>?_) (λh54=>?_)
   ·refine .sr<|.fA Z DD<|.lD Z iP cP Z<|.yw (.rem Z Z (by decide) (c:=((x.ct.toNat % 4:Nat):Int)) (by rw [cY (by omega)];omega))<|.yw (.conv Z kU lI (c:=((x.ct.toNat % 4:Nat):Int)) (w6 (by omega)))<|.a Z Z<|.ns<|.fA Z DD<|.lD Z iP cP Z<|.yw (.rem Z Z (by decide) (c:=((x.ct.toNat % 5:Nat):Int)) (by rw [cY (by omega)];omega))<|.yw (.eql Z Z)<|.nt<|.cd Z (λh62=>?_) (λh62=>?_)
    ·refine .ar 9 #[false,false,false,false,false,false,false,false,false] (by kernel_rfl) Z Z<|.an 0 [3] (by kernel_rfl) ⟨?_,?_,Jt⟩
     ·
      refine .ao #[true,false,false,false,false,false,false,false,false] Z Z<|.fA Z uF<|.nx<|.an 1 [3] (by kernel_rfl) ⟨?_,?_,Jt⟩
      ·
       refine .ao #[true,true,false,false,false,false,false,false,false] Z Z<|.lD Z iP cP Z<|.nx<|.an 2 [3] (by kernel_rfl) ⟨?_,?_,Jt⟩
       ·
        refine .ao #[true,true,true,false,false,false,false,false,false] Z Z<|.yw (.call jM Z (λW s=>lP H x.nm W s.agr))<|.nx<|.an 3 [5] (by kernel_rfl) ⟨?_,?_,Jt⟩
        ·
         refine .ao #[true,true,true,true,false,false,false,false,false] Z Z<|.fA Z mZ<|.nx<|.an 4 [5] (by kernel_rfl) ⟨?_,?_,Jt⟩
         ·
          refine .ao #[true,true,true,true,true,false,false,false,false] Z Z<|.lD Z fG cP Z<|.nx<|.an 5 [] (by kernel_rfl) ⟨?_,Jt⟩
          refine .ao #[true,true,true,true,true,true,false,false,false] Z Z<|.fA Z dZ<|.nx<|.an 6 [] (by kernel_rfl) ⟨?_,Jt⟩
          refine .ao #[true,true,true,true,true,true,true,false,false] Z Z<|.st .head Z Z fP Z (nb Z) Z<|.nx<|.an 7 [] (by kernel_rfl) ⟨?_,Jt⟩
          refine .ao #[true,true,true,true,true,true,true,true,false] Z Z<|.fA Z eR<|.nx<|.an 8 [] (by kernel_rfl) ⟨?_,Jt⟩
          exact .ao #[true,true,true,true,true,true,true,true,true] Z Z<|.st .head Z Z iZ Z (nb Z) Z<|.nx<|.ae (by kernel_rfl)<|.tN<|.me (x.ct.toNat % 4,nJ x.nm,x.n) ⟨Z,Jt⟩ ⟨Z,Z,Z,Z,Jt⟩ (λ_ s=>s) ⟨by dsimp only;omega,by dsimp only;first | exact eN _ | exact hnm⟩
         refine .ao #[true,true,true,true,false,true,false,false,false] Z Z<|.fA Z dZ<|.nx<|.an 4 [6] (by kernel_rfl) ⟨?_,?_,Jt⟩
         ·
          refine .ao #[true,true,true,true,true,true,false,false,false] Z Z<|.lD Z fG cP Z<|.nx<|.an 6 [] (by kernel_rfl) ⟨?_,Jt⟩
          refine .ao #[true,true,true,true,true,true,true,false,false] Z Z<|.st .head Z Z fP Z (nb Z) Z<|.nx<|.an 7 [] (by kernel_rfl) ⟨?_,Jt⟩
          refine .ao #[true,true,true,true,true,true,true,true,false] Z Z<|.fA Z eR<|.nx<|.an 8 [] (by kernel_rfl) ⟨?_,Jt⟩
          exact .ao #[true,true,true,true,true,true,true,true,true] Z Z<|.st .head Z Z iZ Z (nb Z) Z<|.nx<|.ae (by kernel_rfl)<|.tN<|.me (x.ct.toNat % 4,nJ x.nm,x.n) ⟨Z,Jt⟩ ⟨Z,Z,Z,Z,Jt⟩ (λ_ s=>s) ⟨by dsimp only;omega,by dsimp only;first | exact eN _ | exact hnm⟩
         refine .ao #[true,true,true,true,false,true,true,false,false] Z Z<|.st .head Z Z fP Z (nb Z) Z<|.nx<|.an 4 [] (by kernel_rfl) ⟨?_,Jt⟩
         refine .ao #[true,true,true,true,true,true,true,false,false] Z Z<|.lD Z fG cP Z<|.nx<|.an 7 [] (by kernel_rfl) ⟨?_,Jt⟩
         refine .ao #[true,true,true,true,true,true,true,true,false] Z Z<|.fA Z eR<|.nx<|.an 8 [] (by kernel_rfl) ⟨?_,Jt⟩
         exact .ao #[true,true,true,true,true,true,true,true,true] Z Z<|.st .head Z Z iZ Z (nb Z) Z<|.nx<|.ae (by kernel_rfl)<|.tN<|.me (x.ct.toNat % 4,nJ x.nm,x.n) ⟨Z,Jt⟩ ⟨Z,Z,Z,Z,Jt⟩ (λ_ s=>s) ⟨by dsimp only;omega,by dsimp only;first | exact eN _ | exact hnm⟩
        refine .ao #[true,true,true,false,false,true,false,false,false] Z Z<|.fA Z dZ<|.nx<|.an 3 [6] (by kernel_rfl) ⟨?_,?_,Jt⟩
        ·
         refine .ao #[true,true,true,true,false,true,false,false,false] Z Z<|.fA Z mZ<|.nx<|.an 4 [6] (by kernel_rfl) ⟨?_,?_,Jt⟩
         ·
          refine .ao #[true,true,true,true,true,true,false,false,false] Z Z<|.lD Z fG cP Z<|.nx<|.an 6 [] (by kernel_rfl) ⟨?_,Jt⟩
          refine .ao #[true,true,true,true,true,true,true,false,false] Z Z<|.st .head Z Z fP Z (nb Z) Z<|.nx<|.an 7 [] (by kernel_rfl) ⟨?_,Jt⟩
          refine .ao #[true,true,true,true,true,true,true,true,false] Z Z<|.fA Z eR<|.nx<|.an 8 [] (by kernel_rfl) ⟨?_,Jt⟩
          exact .ao #[true,true,true,true,true,true,true,true,true] Z Z<|.st .head Z Z iZ Z (nb Z) Z<|.nx<|.ae (by kernel_rfl)<|.tN<|.me (x.ct.toNat % 4,nJ x.nm,x.n) ⟨Z,Jt⟩ ⟨Z,Z,Z,Z,Jt⟩ (λ_ s=>s) ⟨by dsimp only;omega,by dsimp only;first | exact eN _ | exact hnm⟩
         refine .ao #[true,true,true,true,false,true,true,false,false] Z Z<|.st .head Z Z fP Z (nb Z) Z<|.nx<|.an 4 [] (by kernel_rfl) ⟨?_,Jt⟩
         refine .ao #[true,true,true,true,true,true,true,false,false] Z Z<|.lD Z fG cP Z<|.nx<|.an 7 [] (by kernel_rfl) ⟨?_,Jt⟩
         refine .ao #[true,true,true,true,true,true,true,true,false] Z Z<|.fA Z eR<|.nx<|.an 8 [] (by kernel_rfl) ⟨?_,Jt⟩
         exact .ao #[true,true,true,true,true,true,true,true,true] Z Z<|.st .head Z Z iZ Z (nb Z) Z<|.nx<|.ae (by kernel_rfl)<|.tN<|.me (x.ct.toNat % 4,nJ x.nm,x.n) ⟨Z,Jt⟩ ⟨Z,Z,Z,Z,Jt⟩ (λ_ s=>s) ⟨by dsimp only;omega,by dsimp only;first | exact eN _ | exact hnm⟩
        refine .ao #[true,true,true,false,false,true,true,false,false] Z Z<|.st .head Z Z fP Z (nb Z) Z<|.nx<|.an 3 [] (by kernel_rfl) ⟨?_,Jt⟩
        refine .ao #[true,true,true,true,false,true,true,false,false] Z Z<|.fA Z mZ<|.nx<|.an 4 [] (by kernel_rfl) ⟨?_,Jt⟩
        refine .ao #[true,true,true,true,true,true,true,false,false] Z Z<|.lD Z fG cP Z<|.nx<|.an 7 [] (by kernel_rfl) ⟨?_,Jt⟩
        refine .ao #[true,true,true,true,true,true,true,true,false] Z Z<|.fA Z eR<|.nx<|.an 8 [] (by kernel_rfl) ⟨?_,Jt⟩
        exact .ao #[true,true,true,true,true,true,true,true,true] Z Z<|.st .head Z Z iZ Z (nb Z) Z<|.nx<|.ae (by kernel_rfl)<|.tN<|.me (x.ct.toNat % 4,nJ x.nm,x.n) ⟨Z,Jt⟩ ⟨Z,Z,Z,Z,Jt⟩ (λ_ s=>s) ⟨by dsimp only;omega,by dsimp only;first | exact eN _ | exact hnm⟩
       refine .ao #[true,true,false,true,false,false,false,false,false] Z Z<|.fA Z mZ<|.nx<|.an 2 [4] (by kernel_rfl) ⟨?_,?_,Jt⟩
       ·
        refine .ao #[true,true,true,true,false,false,false,false,false] Z Z<|.yw (.call jM Z (λW s=>lP H x.nm W s.agr))<|.nx<|.an 4 [5] (by kernel_rfl) ⟨?_,?_,Jt⟩
        ·
         refine .ao #[true,true,true,true,true,false,false,false,false] Z Z<|.lD Z fG cP Z<|.nx<|.an 5 [] (by kernel_rfl) ⟨?_,Jt⟩
         refine .ao #[true,true,true,true,true,true,false,false,false] Z Z<|.fA Z dZ<|.nx<|.an 6 [] (by kernel_rfl) ⟨?_,Jt⟩
         refine .ao #[true,true,true,true,true,true,true,false,false] Z Z<|.st .head Z Z fP Z (nb Z) Z<|.nx<|.an 7 [] (by kernel_rfl) ⟨?_,Jt⟩
         refine .ao #[true,true,true,true,true,true,true,true,false] Z Z<|.fA Z eR<|.nx<|.an 8 [] (by kernel_rfl) ⟨?_,Jt⟩
         exact .ao #[true,true,true,true,true,true,true,true,true] Z Z<|.st .head Z Z iZ Z (nb Z) Z<|.nx<|.ae (by kernel_rfl)<|.tN<|.me (x.ct.toNat % 4,nJ x.nm,x.n) ⟨Z,Jt⟩ ⟨Z,Z,Z,Z,Jt⟩ (λ_ s=>s) ⟨by dsimp only;omega,by dsimp only;first | exact eN _ | exact hnm⟩
        refine .ao #[true,true,true,true,false,true,false,false,false] Z Z<|.fA Z dZ<|.nx<|.an 4 [6] (by kernel_rfl) ⟨?_,?_,Jt⟩
        ·
         refine .ao #[true,true,true,true,true,true,false,false,false] Z Z<|.lD Z fG cP Z<|.nx<|.an 6 [] (by kernel_rfl) ⟨?_,Jt⟩
         refine .ao #[true,true,true,true,true,true,true,false,false] Z Z<|.st .head Z Z fP Z (nb Z) Z<|.nx<|.an 7 [] (by kernel_rfl) ⟨?_,Jt⟩
         refine .ao #[true,true,true,true,true,true,true,true,false] Z Z<|.fA Z eR<|.nx<|.an 8 [] (by kernel_rfl) ⟨?_,Jt⟩
         exact .ao #[true,true,true,true,true,true,true,true,true] Z Z<|.st .head Z Z iZ Z (nb Z) Z<|.nx<|.ae (by kernel_rfl)<|.tN<|.me (x.ct.toNat % 4,nJ x.nm,x.n) ⟨Z,Jt⟩ ⟨Z,Z,Z,Z,Jt⟩ (λ_ s=>s) ⟨by dsimp only;omega,by dsimp only;first | exact eN _ | exact hnm⟩
        refine .ao #[true,true,true,true,false,true,true,false,false] Z Z<|.st .head Z Z fP Z (nb Z) Z<|.nx<|.an 4 [] (by kernel_rfl) ⟨?_,Jt⟩
        refine .ao #[true,true,true,true,true,true,true,false,false] Z Z<|.lD Z fG cP Z<|.nx<|.an 7 [] (by kernel_rfl) ⟨?_,Jt⟩
        refine .ao #[true,true,true,true,true,true,true,true,false] Z Z<|.fA Z eR<|.nx<|.an 8 [] (by kernel_rfl) ⟨?_,Jt⟩
        exact .ao #[true,true,true,true,true,true,true,true,true] Z Z<|.st .head Z Z iZ Z (nb Z) Z<|.nx<|.ae (by kernel_rfl)<|.tN<|.me (x.ct.toNat % 4,nJ x.nm,x.n) ⟨Z,Jt⟩ ⟨Z,Z,Z,Z,Jt⟩ (λ_ s=>s) ⟨by dsimp only;omega,by dsimp only;first | exact eN _ | exact hnm⟩
       refine .ao #[true,true,false,true,true,false,false,false,false] Z Z<|.lD Z fG cP Z<|.nx<|.an 2 [] (by kernel_rfl) ⟨?_,Jt⟩
       refine .ao #[true,true,true,true,true,false,false,false,false] Z Z<|.yw (.call jM Z (λW s=>lP H x.nm W s.agr))<|.nx<|.an 5 [] (by kernel_rfl) ⟨?_,Jt⟩
       refine .ao #[true,true,true,true,true,true,false,false,false] Z Z<|.fA Z dZ<|.nx<|.an 6 [] (by kernel_rfl) ⟨?_,Jt⟩
       refine .ao #[true,true,true,true,true,true,true,false,false] Z Z<|.st .head Z Z fP Z (nb Z) Z<|.nx<|.an 7 [] (by kernel_rfl) ⟨?_,Jt⟩
       refine .ao #[true,true,true,true,true,true,true,true,false] Z Z<|.fA Z eR<|.nx<|.an 8 [] (by kernel_rfl) ⟨?_,Jt⟩
       exact .ao #[true,true,true,true,true,true,true,true,true] Z Z<|.st .head Z Z iZ Z (nb Z) Z<|.nx<|.ae (by kernel_rfl)<|.tN<|.me (x.ct.toNat % 4,nJ x.nm,x.n) ⟨Z,Jt⟩ ⟨Z,Z,Z,Z,Jt⟩ (λ_ s=>s) ⟨by dsimp only;omega,by dsimp only;first | exact eN _ | exact hnm⟩
      refine .ao #[true,false,false,true,false,false,false,false,false] Z Z<|.fA Z mZ<|.nx<|.an 1 [4] (by kernel_rfl) ⟨?_,?_,Jt⟩
      ·
       refine .ao #[true,true,false,true,false,false,false,false,false] Z Z<|.lD Z iP cP Z<|.nx<|.an 2 [4] (by kernel_rfl) ⟨?_,?_,Jt⟩
       ·
        refine .ao #[true,true,true,true,false,false,false,false,false] Z Z<|.yw (.call jM Z (λW s=>lP H x.nm W s.agr))<|.nx<|.an 4 [5] (by kernel_rfl) ⟨?_,?_,Jt⟩
        ·
         refine .ao #[true,true,true,true,true,false,false,false,false] Z Z<|.lD Z fG cP Z<|.nx<|.an 5 [] (by kernel_rfl) ⟨?_,Jt⟩
         refine .ao #[true,true,true,true,true,true,false,false,false] Z Z<|.fA Z dZ<|.nx<|.an 6 [] (by kernel_rfl) ⟨?_,Jt⟩
         refine .ao #[true,true,true,true,true,true,true,false,false] Z Z<|.st .head Z Z fP Z (nb Z) Z<|.nx<|.an 7 [] (by kernel_rfl) ⟨?_,Jt⟩
         refine .ao #[true,true,true,true,true,true,true,true,false] Z Z<|.fA Z eR<|.nx<|.an 8 [] (by kernel_rfl) ⟨?_,Jt⟩
         exact .ao #[true,true,true,true,true,true,true,true,true] Z Z<|.st .head Z Z iZ Z (nb Z) Z<|.nx<|.ae (by kernel_rfl)<|.tN<|.me (x.ct.toNat % 4,nJ x.nm,x.n) ⟨Z,Jt⟩ ⟨Z,Z,Z,Z,Jt⟩ (λ_ s=>s) ⟨by dsimp only;omega,by dsimp only;first | exact eN _ | exact hnm⟩
        refine .ao #[true,true,true,true,false,true,false,false,false] Z Z<|.fA Z dZ<|.nx<|.an 4 [6] (by kernel_rfl) ⟨?_,?_,Jt⟩
        ·
         refine .ao #[true,true,true,true,true,true,false,false,false] Z Z<|.lD Z fG cP Z<|.nx<|.an 6 [] (by kernel_rfl) ⟨?_,Jt⟩
         refine .ao #[true,true,true,true,true,true,true,false,false] Z Z<|.st .head Z Z fP Z (nb Z) Z<|.nx<|.an 7 [] (by kernel_rfl) ⟨?_,Jt⟩
         refine .ao #[true,true,true,true,true,true,true,true,false] Z Z<|.fA Z eR<|.nx<|.an 8 [] (by kernel_rfl) ⟨?_,Jt⟩
         exact .ao #[true,true,true,true,true,true,true,true,true] Z Z<|.st .head Z Z iZ Z (nb Z) Z<|.nx<|.ae (by kernel_rfl)<|.tN<|.me (x.ct.toNat % 4,nJ x.nm,x.n) ⟨Z,Jt⟩ ⟨Z,Z,Z,Z,Jt⟩ (λ_ s=>s) ⟨by dsimp only;omega,by dsimp only;first | exact eN _ | exact hnm⟩
        refine .ao #[true,true,true,true,false,true,true,false,false] Z Z<|.st .head Z Z fP Z (nb Z) Z<|.nx<|.an 4 [] (by kernel_rfl) ⟨?_,Jt⟩
        refine .ao #[true,true,true,true,true,true,true,false,false] Z Z<|.lD Z fG cP Z<|.nx<|.an 7 [] (by kernel_rfl) ⟨?_,Jt⟩
        refine .ao #[true,true,true,true,true,true,true,true,false] Z Z<|.fA Z eR<|.nx<|.an 8 [] (by kernel_rfl) ⟨?_,Jt⟩
        exact .ao #[true,true,true,true,true,true,true,true,true] Z Z<|.st .head Z Z iZ Z (nb Z) Z<|.nx<|.ae (by kernel_rfl)<|.tN<|.me (x.ct.toNat % 4,nJ x.nm,x.n) ⟨Z,Jt⟩ ⟨Z,Z,Z,Z,Jt⟩ (λ_ s=>s) ⟨by dsimp only;omega,by dsimp only;first | exact eN _ | exact hnm⟩
       refine .ao #[true,true,false,true,true,false,false,false,false] Z Z<|.lD Z fG cP Z<|.nx<|.an 2 [] (by kernel_rfl) ⟨?_,Jt⟩
       refine .ao #[true,true,true,true,true,false,false,false,false] Z Z<|.yw (.call jM Z (λW s=>lP H x.nm W s.agr))<|.nx<|.an 5 [] (by kernel_rfl) ⟨?_,Jt⟩
       refine .ao #[true,true,true,true,true,true,false,false,false] Z Z<|.fA Z dZ<|.nx<|.an 6 [] (by kernel_rfl) ⟨?_,Jt⟩
       refine .ao #[true,true,true,true,true,true,true,false,false] Z Z<|.st .head Z Z fP Z (nb Z) Z<|.nx<|.an 7 [] (by kernel_rfl) ⟨?_,Jt⟩
       refine .ao #[true,true,true,true,true,true,true,true,false] Z Z<|.fA Z eR<|.nx<|.an 8 [] (by kernel_rfl) ⟨?_,Jt⟩
       exact .ao #[true,true,true,true,true,true,true,true,true] Z Z<|.st .head Z Z iZ Z (nb Z) Z<|.nx<|.ae (by kernel_rfl)<|.tN<|.me (x.ct.toNat % 4,nJ x.nm,x.n) ⟨Z,Jt⟩ ⟨Z,Z,Z,Z,Jt⟩ (λ_ s=>s) ⟨by dsimp only;omega,by dsimp only;first | exact eN _ | exact hnm⟩
      refine .ao #[true,false,false,true,true,false,false,false,false] Z Z<|.lD Z fG cP Z<|.nx<|.an 1 [] (by kernel_rfl) ⟨?_,Jt⟩
      refine .ao #[true,true,false,true,true,false,false,false,false] Z Z<|.lD Z iP cP Z<|.nx<|.an 2 [] (by kernel_rfl) ⟨?_,Jt⟩
      refine .ao #[true,true,true,true,true,false,false,false,false] Z Z<|.yw (.call jM Z (λW s=>lP H x.nm W s.agr))<|.nx<|.an 5 [] (by kernel_rfl) ⟨?_,Jt⟩
      refine .ao #[true,true,true,true,true,true,false,false,false] Z Z<|.fA Z dZ<|.nx<|.an 6 [] (by kernel_rfl) ⟨?_,Jt⟩
      refine .ao #[true,true,true,true,true,true,true,false,false] Z Z<|.st .head Z Z fP Z (nb Z) Z<|.nx<|.an 7 [] (by kernel_rfl) ⟨?_,Jt⟩
      refine .ao #[true,true,true,true,true,true,true,true,false] Z Z<|.fA Z eR<|.nx<|.an 8 [] (by kernel_rfl) ⟨?_,Jt⟩
      exact .ao #[true,true,true,true,true,true,true,true,true] Z Z<|.st .head Z Z iZ Z (nb Z) Z<|.nx<|.ae (by kernel_rfl)<|.tN<|.me (x.ct.toNat % 4,nJ x.nm,x.n) ⟨Z,Jt⟩ ⟨Z,Z,Z,Z,Jt⟩ (λ_ s=>s) ⟨by dsimp only;omega,by dsimp only;first | exact eN _ | exact hnm⟩
     refine .ao #[false,false,false,true,false,false,false,false,false] Z Z<|.fA Z mZ<|.nx<|.an 0 [4] (by kernel_rfl) ⟨?_,?_,Jt⟩
     ·
      refine .ao #[true,false,false,true,false,false,false,false,false] Z Z<|.fA Z uF<|.nx<|.an 1 [4] (by kernel_rfl) ⟨?_,?_,Jt⟩
      ·
       refine .ao #[true,true,false,true,false,false,false,false,false] Z Z<|.lD Z iP cP Z<|.nx<|.an 2 [4] (by kernel_rfl) ⟨?_,?_,Jt⟩
       ·
        refine .ao #[true,true,true,true,false,false,false,false,false] Z Z<|.yw (.call jM Z (λW s=>lP H x.nm W s.agr))<|.nx<|.an 4 [5] (by kernel_rfl) ⟨?_,?_,Jt⟩
        ·
         refine .ao #[true,true,true,true,true,false,false,false,false] Z Z<|.lD Z fG cP Z<|.nx<|.an 5 [] (by kernel_rfl) ⟨?_,Jt⟩
         refine .ao #[true,true,true,true,true,true,false,false,false] Z Z<|.fA Z dZ<|.nx<|.an 6 [] (by kernel_rfl) ⟨?_,Jt⟩
         refine .ao #[true,true,true,true,true,true,true,false,false] Z Z<|.st .head Z Z fP Z (nb Z) Z<|.nx<|.an 7 [] (by kernel_rfl) ⟨?_,Jt⟩
         refine .ao #[true,true,true,true,true,true,true,true,false] Z Z<|.fA Z eR<|.nx<|.an 8 [] (by kernel_rfl) ⟨?_,Jt⟩
         exact .ao #[true,true,true,true,true,true,true,true,true] Z Z<|.st .head Z Z iZ Z (nb Z) Z<|.nx<|.ae (by kernel_rfl)<|.tN<|.me (x.ct.toNat % 4,nJ x.nm,x.n) ⟨Z,Jt⟩ ⟨Z,Z,Z,Z,Jt⟩ (λ_ s=>s) ⟨by dsimp only;omega,by dsimp only;first | exact eN _ | exact hnm⟩
        refine .ao #[true,true,true,true,false,true,false,false,false] Z Z<|.fA Z dZ<|.nx<|.an 4 [6] (by kernel_rfl) ⟨?_,?_,Jt⟩
        ·
         refine .ao #[true,true,true,true,true,true,false,false,false] Z Z<|.lD Z fG cP Z<|.nx<|.an 6 [] (by kernel_rfl) ⟨?_,Jt⟩
         refine .ao #[true,true,true,true,true,true,true,false,false] Z Z<|.st .head Z Z fP Z (nb Z) Z<|.nx<|.an 7 [] (by kernel_rfl) ⟨?_,Jt⟩
         refine .ao #[true,true,true,true,true,true,true,true,false] Z Z<|.fA Z eR<|.nx<|.an 8 [] (by kernel_rfl) ⟨?_,Jt⟩
         exact .ao #[true,true,true,true,true,true,true,true,true] Z Z<|.st .head Z Z iZ Z (nb Z) Z<|.nx<|.ae (by kernel_rfl)<|.tN<|.me (x.ct.toNat % 4,nJ x.nm,x.n) ⟨Z,Jt⟩ ⟨Z,Z,Z,Z,Jt⟩ (λ_ s=>s) ⟨by dsimp only;omega,by dsimp only;first | exact eN _ | exact hnm⟩
        refine .ao #[true,true,true,true,false,true,true,false,false] Z Z<|.st .head Z Z fP Z (nb Z) Z<|.nx<|.an 4 [] (by kernel_rfl) ⟨?_,Jt⟩
        refine .ao #[true,true,true,true,true,true,true,false,false] Z Z<|.lD Z fG cP Z<|.nx<|.an 7 [] (by kernel_rfl) ⟨?_,Jt⟩
        refine .ao #[true,true,true,true,true,true,true,true,false] Z Z<|.fA Z eR<|.nx<|.an 8 [] (by kernel_rfl) ⟨?_,Jt⟩
        exact .ao #[true,true,true,true,true,true,true,true,true] Z Z<|.st .head Z Z iZ Z (nb Z) Z<|.nx<|.ae (by kernel_rfl)<|.tN<|.me (x.ct.toNat % 4,nJ x.nm,x.n) ⟨Z,Jt⟩ ⟨Z,Z,Z,Z,Jt⟩ (λ_ s=>s) ⟨by dsimp only;omega,by dsimp only;first | exact eN _ | exact hnm⟩
       refine .ao #[true,true,false,true,true,false,false,false,false] Z Z<|.lD Z fG cP Z<|.nx<|.an 2 [] (by kernel_rfl) ⟨?_,Jt⟩
       refine .ao #[true,true,true,true,true,false,false,false,false] Z Z<|.yw (.call jM Z (λW s=>lP H x.nm W s.agr))<|.nx<|.an 5 [] (by kernel_rfl) ⟨?_,Jt⟩
       refine .ao #[true,true,true,true,true,true,false,false,false] Z Z<|.fA Z dZ<|.nx<|.an 6 [] (by kernel_rfl) ⟨?_,Jt⟩
       refine .ao #[true,true,true,true,true,true,true,false,false] Z Z<|.st .head Z Z fP Z (nb Z) Z<|.nx<|.an 7 [] (by kernel_rfl) ⟨?_,Jt⟩
       refine .ao #[true,true,true,true,true,true,true,true,false] Z Z<|.fA Z eR<|.nx<|.an 8 [] (by kernel_rfl) ⟨?_,Jt⟩
       exact .ao #[true,true,true,true,true,true,true,true,true] Z Z<|.st .head Z Z iZ Z (nb Z) Z<|.nx<|.ae (by kernel_rfl)<|.tN<|.me (x.ct.toNat % 4,nJ x.nm,x.n) ⟨Z,Jt⟩ ⟨Z,Z,Z,Z,Jt⟩ (λ_ s=>s) ⟨by dsimp only;omega,by dsimp only;first | exact eN _ | exact hnm⟩
      refine .ao #[true,false,false,true,true,false,false,false,false] Z Z<|.lD Z fG cP Z<|.nx<|.an 1 [] (by kernel_rfl) ⟨?_,Jt⟩
      refine .ao #[true,true,false,true,true,false,false,false,false] Z Z<|.lD Z iP cP Z<|.nx<|.an 2 [] (by kernel_rfl) ⟨?_,Jt⟩
      refine .ao #[true,true,true,true,true,false,false,false,false] Z Z<|.yw (.call jM Z (λW s=>lP H x.nm W s.agr))<|.nx<|.an 5 [] (by kernel_rfl) ⟨?_,Jt⟩
      refine .ao #[true,true,true,true,true,true,false,false,false] Z Z<|.fA Z dZ<|.nx<|.an 6 [] (by kernel_rfl) ⟨?_,Jt⟩
      refine .ao #[true,true,true,true,true,true,true,false,false] Z Z<|.st .head Z Z fP Z (nb Z) Z<|.nx<|.an 7 [] (by kernel_rfl) ⟨?_,Jt⟩
      refine .ao #[true,true,true,true,true,true,true,true,false] Z Z<|.fA Z eR<|.nx<|.an 8 [] (by kernel_rfl) ⟨?_,Jt⟩
      exact .ao #[true,true,true,true,true,true,true,true,true] Z Z<|.st .head Z Z iZ Z (nb Z) Z<|.nx<|.ae (by kernel_rfl)<|.tN<|.me (x.ct.toNat % 4,nJ x.nm,x.n) ⟨Z,Jt⟩ ⟨Z,Z,Z,Z,Jt⟩ (λ_ s=>s) ⟨by dsimp only;omega,by dsimp only;first | exact eN _ | exact hnm⟩
     refine .ao #[false,false,false,true,true,false,false,false,false] Z Z<|.lD Z fG cP Z<|.nx<|.an 0 [] (by kernel_rfl) ⟨?_,Jt⟩
     refine .ao #[true,false,false,true,true,false,false,false,false] Z Z<|.fA Z uF<|.nx<|.an 1 [] (by kernel_rfl) ⟨?_,Jt⟩
     refine .ao #[true,true,false,true,true,false,false,false,false] Z Z<|.lD Z iP cP Z<|.nx<|.an 2 [] (by kernel_rfl) ⟨?_,Jt⟩
     refine .ao #[true,true,true,true,true,false,false,false,false] Z Z<|.yw (.call jM Z (λW s=>lP H x.nm W s.agr))<|.nx<|.an 5 [] (by kernel_rfl) ⟨?_,Jt⟩
     refine .ao #[true,true,true,true,true,true,false,false,false] Z Z<|.fA Z dZ<|.nx<|.an 6 [] (by kernel_rfl) ⟨?_,Jt⟩
     refine .ao #[true,true,true,true,true,true,true,false,false] Z Z<|.st .head Z Z fP Z (nb Z) Z<|.nx<|.an 7 [] (by kernel_rfl) ⟨?_,Jt⟩
     refine .ao #[true,true,true,true,true,true,true,true,false] Z Z<|.fA Z eR<|.nx<|.an 8 [] (by kernel_rfl) ⟨?_,Jt⟩
     exact .ao #[true,true,true,true,true,true,true,true,true] Z Z<|.st .head Z Z iZ Z (nb Z) Z<|.nx<|.ae (by kernel_rfl)<|.tN<|.me (x.ct.toNat % 4,nJ x.nm,x.n) ⟨Z,Jt⟩ ⟨Z,Z,Z,Z,Jt⟩ (λ_ s=>s) ⟨by dsimp only;omega,by dsimp only;first | exact eN _ | exact hnm⟩
    exact .sk<|.tN<|.me (x.ct.toNat % 4,nm,nn) ⟨Z,Jt⟩ ⟨Z,Z,Z,Z,Jt⟩ (λ_ s=>s) ⟨by dsimp only;omega,by dsimp only;first | exact eN _ | exact hnm⟩
   exact .sk<|.tN<|.me (m0,nm,nn) ⟨Z,Jt⟩ ⟨Z,Z,Z,Z,Jt⟩ (λ_ s=>s) ⟨by dsimp only;omega,by dsimp only;first | exact eN _ | exact hnm⟩
  obtain ⟨m,nm,nn⟩:=z;dsimp only at hC|-;obtain ⟨hm3,hnm⟩:=hC;refine Sx.row0 83 4 ?_;refine .sq<|.sr<|.aq Z<|.bk<|.lp (X:=Nat × Hp × Value × List Value × Value) [(1,_),(4,_),(7,_),(8,_)] ⟨Z,Z,Z,Z,Jt⟩ [_,_] (λz=>[(9,iN z.1),(0,z.2.2.2.2)]) (λz=>z.2.1) (λz=>[.row 83 4 z.2.2.1 z.1 z.2.2.2.1,.box b7 [.int .i64 op.toNat,cH nm,.int .i64 (nn).toInt,z.2.2.1] 83]) (λz=>z.1<=m/\HUp w H z.2.1/\∃ (es:List Ex) (rest:List Nd),es.length=z.1/\eD z.2.1 4 (es.map (dEx .i64)) z.2.2.2.1/\HA d es/\Ex.alls n13 es=true/\Ex.counts es+3 * rest.length+3<=3 * l.length+es.length/\Rep z.2.1 (.seq 5 (rest.map dNd)) [z.2.2.2.2]) (λz=>m - z.1) (0,H,.slice none 0 0,[],_) (λ_ s=>s) ⟨Z,Z,Jt⟩ ⟨by simp,.refl,[],l.drop 1,Z,eD.nil,XI d,Z,(by rw [Ex.counts,cW,aM];omega),(by have h5:=TB h (lo:=1) (by omega);rw [<-yY] at h5;exact h5)⟩ λz hC=>?_
  obtain ⟨k,H1,r,xs,rv⟩:=z;dsimp only at hC|-;obtain ⟨hk0,u1,es,rest,hlen,hz,hgs,h13,hcn,hrs⟩:=hC;refine .sq<|.sm Z<|.mv Z<|.yw (.lss Z Z)<|.nt<|.ce Z (λh72=>?_) (λh72=>?_)
  ·have hk:k<m:=by omega
   refine .sk<|.tN<|.sq<|.bk<|.sm Z<|.mv Z<|.yw (.add Z Z w7)<|.ct (X:=List Value × Value) LV Z (λW s=>ih (f - 1) (by omega) (d+1) (by omega) H1 _ _ W hrs s.agr) Z λy2 H2 hc2 u2=>?_
   obtain ⟨x2,y2⟩:=y2;obtain ⟨x2e,rest2,hc2,hg2,h132,hcn2,hrs2⟩:=hc2;dsimp only at hc2 hrs2|-;obtain ⟨op2,nm2,n2,oD⟩:=x2e;obtain ⟨p2,c2,rfl,hs2,hnm2⟩:=iM hc2;refine .mv Z<|.yw (.extract Z Z)<|.yw (.extract Z Z)<|.al pC Z λb10=>.sW .head Z Z lO (by simp [Value.oneCell',cH,cNd]) Z<|.aq Z<|.rg<|.fA Z tH<|.lD Z yV lR Z<|.yw (.loadW Z jZ Hm Z)<|.bl Z (sF _ _ _ _) Z λb85=>.ap (news:=[.int .i64 op2.toNat,cH nm2,.int .i64 n2.toInt,.slice p2 oD.length c2]) GJ Z (λ_=>mD) Z (.box Hm z0) Z (by simp [Value.oneCell',cH]) (by simp [maxLen];omega) (by omega) Z λr86 _=>?_
   refine At.ra (by first | exact .tail _ (.tail _ Hm) | exact .tail _ (.tail _ (.tail _ Hm))) λp86 c86 e86=>?_;exact .mv Z<|.fA Z tH<|.st mP Z Z tY (by rw [e86];rfl) (nb Z) Z<|.a Z Z<|.nl<|.bN<|.tN<|.rg<|.mv Z<|.yw (.add Z Z w7)<|.aq Z<|.ag (x:=(k,H1,r,xs,rv)) (k+1,H2,r86,xs++[.int .i64 op2.toNat,cH nm2,.int .i64 n2.toInt,.slice p2 oD.length c2],y2) ⟨Z,Z,Jt⟩ ⟨Z,Z,Z,Z,Jt⟩ (λ_ s=>(s.pick [2,3,4,5] _ Z Z)) ⟨by dsimp only;omega,u1.trans u2,es++[.mk op2 nm2 n2 oD],rest2,by simp;omega,by rw [bV];exact (hz.up u2.up).snoc hc2 Z,UK hgs hg2,(by rw [GG,h13,Ex.alls,h132];rfl),(by rw [oZ,Ex.counts,Ex.counts,aF];simp only [aJ,aM];omega),hrs2⟩ (by dsimp only;omega)
  obtain rfl:k=m:=by omega
  refine At.ra Hm λp86 c86 e86=>?_;subst e86;refine .ex<|.eb<|.sr<|.yw (.loadW Z jZ cP Z)<|.mv Z<|.sW mP Z Z lO (by simp [Value.oneCell',cH,cNd]) Z<|.az Z<|?_
  refine At.pm [0,3] [_,_] rfl rfl ?_;refine mM (ds:=es.map (dEx .i64)) (by simp;omega) hz λH3 p3 c3 u3 hr3 hs3=>?_;refine y7 Z (.cons (.cell Z jZ Hm rfl) (.cons (.tmp Z) .nil)) rfl λW s=>⟨(_,_),H3,⟨_,rest,qP (by omega) hs3,?_,?_,?_,hrs.up u3.up⟩,Z,(u1.trans u3).grow s⟩
  ·rw [aT7];exact ⟨by omega,hgs⟩
  ·rw [nT,h13,aC];exact aR hnm
  ·rw [lU];omega
def bT1 (x:List Value) (H':Hp):Prop:=∃ e:Ex,Rep H' (dEx .i64 e) x/\BD 1 e/\Ex.all n13 e=true/\e.count<=181
variable {H:Hp}
theorem JN {k:IntKind} {e:Ex} {cs:List Value} (h:Rep H (dEx k e) cs):cs.length=4:=by
 obtain ⟨op,nm,n,args⟩:=e;obtain ⟨_,_,rfl,_,_⟩:=iM h
 rfl
theorem LQ (H:Hp) (l:List Nd) (v:Value) (h0:Rep H (.seq 5 (l.map dNd)) [v]) (w:World) (hA:Agr H w) :
 Calls prg 130 #[v] w λr w'=>∃ (x:List Value) (H':Hp),bT1 x H'/\r=.returned (.agg x.toArray)/\xF H w H' w':=by
 obtain ⟨p,c,e,_⟩:=h0.sl;simp only [fT,oH,bJ] at e;subst e;have h:=h0;have hcap:=h.cap;refine Sx.enter (H:=H) func130 rfl ntmps130 rfl hA ?_;refine .sr<|.al pC Z λb2=>.ns<|.mv Z<|.mv Z<|.yw (.lenSl BR Z)<|.yw (.min2 Z Z (c:=((min l.length 60:Nat):Int)) (by omega))<|.yw (.cutHi2 BR Z Z (h:=min l.length 60) Z (by have:=h.len.2.1;omega))<|.ct (X:=List Value × Value) LV Z (λW s=>XX 30 1 Z H (l.take (min l.length 60)) _ W (by rw [yX];exact NM h (by omega)) s.agr) Z λy H1 hc u1=>?_
 obtain ⟨x,y⟩:=y;obtain ⟨e,rest,hx,hg,h13,hcn,_⟩:=hc;dsimp only at hx;rw [fI] at hcn;refine .mv Z<|.yw (.extract Z Z)<|.yw (.extract Z Z)<|.al pC Z λb3=>.sV .head Z Z lO (JN hx) hx.one Z<|.a Z Z<|.ns<|.yw (.loadW Z jZ Hm (JN hx))<|.sV kP Z Z lO (JN hx) hx.one Z<|.nt<|.rt<|?_
 exact y8 Z (.cell Z jZ cP (JN hx)) λW t=>⟨x,H1,⟨e,hx,hg,h13,by omega⟩,Z,u1.grow t⟩
structure Nf where
 op:UInt8
 nm:UInt8
 fd:UInt8
 ct:UInt8
 odd:Bool
 a:Int64
 b:Int64
 ts:List Nd
def dNf (x:Nf):D:=.str [.val (.int .u8 x.op.toNat),.val (.int .u8 x.nm.toNat),.val (.int .u8 x.fd.toNat),.val (.int .u8 x.ct.toNat),.val (.bool x.odd),.val (.int .i64 x.a.toInt),.val (.int .i64 x.b.toInt),.seq 5 (x.ts.map dNd)]
def cNf (x:Nf) (s:Value):List Value:=[.int .u8 x.op.toNat,.int .u8 x.nm.toNat,.int .u8 x.fd.toNat,.int .u8 x.ct.toNat,.bool x.odd,.int .i64 x.a.toInt,.int .i64 x.b.toInt,s]
theorem ZM {x:Nf} {cs:List Value} (h:Rep H (dNf x) cs):∃ p c,cs=cNf x (.slice p x.ts.length c)/\Rep H (.seq 5 (x.ts.map dNd)) [.slice p x.ts.length c]:=by
 rw [dNf,TC] at h;obtain ⟨_,rfl,_,_,h⟩:=fB.1 h;obtain ⟨_,rfl,_,_,h⟩:=fB.1 h;obtain ⟨_,rfl,_,_,h⟩:=fB.1 h;obtain ⟨_,rfl,_,_,h⟩:=fB.1 h;obtain ⟨_,rfl,_,_,h⟩:=fB.1 h;obtain ⟨_,rfl,_,_,h⟩:=fB.1 h;obtain ⟨_,rfl,_,_,h⟩:=fB.1 h;obtain ⟨p,c,_,rfl,hs,h⟩:=FA.1 h;rw [uO] at h;subst h;rw [bJ] at hs;exact ⟨p,c,by rw [bJ];rfl,hs⟩
def pr1 (op:UInt8):UInt8:=if op=7\/op=10 then 9 else op
def pr2 (op:UInt8):UInt8:=if op=2\/op=3 then 4 else op
def pr3 (op:UInt8):UInt8:=if 16<=op.toNat then UInt8.ofNat (11+op.toNat % 5) else op
def prO (op:UInt8):UInt8:=pr3 (pr2 (pr1 op))
def prM (op:UInt8) (nm:Str):Str:=if op=7\/op=10 then [] else nm
def prN (op:UInt8) (nm:Str):Str:=if op=6\/op=8\/(op=5/\nm.length % 2=0) then [99,46]++nm else nm
mutual
def prE:Ex->Ex
 | .mk op nm n args=>.mk (prO op) (prN (prO op) (prM op nm)) n (bE6 args)
def bE6:List Ex->List Ex
 | []=>[]
 | e::r=>prE e::bE6 r
end
theorem TJ:∀ l,bE6 l=l.map prE
 | []=>rfl
 | e::r=>by rw [bE6,TJ r];rfl
theorem QK (op:UInt8) (nm:Str) (n:Int64) (args:List Ex):prE (.mk op nm n args)=.mk (prO op) (prN (prO op) (prM op nm)) n (args.map prE):=by rw [prE,TJ]
theorem bE5 (op:UInt8) (nm:Str):(prM op nm).length<=nm.length:=by
 unfold prM
 split
 ·exact aO _
 ·exact aX _
theorem bE4 (op:UInt8) (nm:Str):(prN op nm).length<=nm.length+2:=by
 unfold prN
 split
 ·rw [aF];show 2+_<=_;omega
 ·omega
theorem aE4 (e:Ex):(prE e).count=e.count:=by
 induction e using Ex.ind with | _ op nm n args ih
 rw [QK,lU,lU]
 congr 1
 induction args with
 | nil=>rfl
 | cons a r ih2=>rw [dG,Ex.counts,Ex.counts,ih a (aY ..),ih2 λx hx=>ih x (bT _ hx)]
theorem aE3 (e:Ex):(prE e).depth=e.depth:=by
 induction e using Ex.ind with | _ op nm n args ih
 rw [QK,tD,tD]
 congr 1
 induction args with
 | nil=>rfl
 | cons a r ih2=>rw [dG,Ex.deeps,Ex.deeps,ih a (aY ..),ih2 λx hx=>ih x (bT _ hx)]
theorem WW (e:Ex):Ex.all uY (prE e)=Ex.all uY e:=by
 induction e using Ex.ind with | _ op nm n args ih
 rw [QK,nT,nT,tV,tV,bJ,mN,mN]
 congr 1
 rw [bH,aW,aW]
 constructor
 ·intro h x hx;rw [<-ih x hx];exact h _ (kW.2 ⟨x,hx,Z⟩)
 ·intro h x hx;obtain ⟨y,hy,rfl⟩:=kW.1 hx;rw [ih y hy];exact h y hy
def gdE (e:Ex):Bool:=decide (e.depth<=34) && Ex.all uY e
def gdN (f:Fm):Bool:=decide (f.op.toNat<=18) && decide (f.ex.length<=4) && decide (f.args.length<=3) && f.ex.all gdE
def gdF (f:Fm):Bool:=Fm.all gdN f
theorem XJ {op:UInt8} {nm fd:Str} {b:Int64} {ex:List Ex} {args:List Fm} :gdF (.mk op nm fd a b ex args)=true↔(op.toNat<=18/\ex.length<=4/\args.length<=3/\∀ e∈ex,gdE e=true)/\∀ g∈args,gdF g=true:=by
 unfold gdF;rw [oN,aE,aW];unfold gdN;rw [aE,aE,aE,aD,aD,aD,aW];exact ⟨λh=>⟨⟨h.1.1.1.1,h.1.1.1.2,h.1.1.2,h.1.2⟩,h.2⟩,λh=>⟨⟨⟨⟨h.1.1,h.1.2.1⟩,h.1.2.2.1⟩,h.1.2.2.2⟩,h.2⟩⟩
end Go.Proofs.YtidclioghdbphaaGreatDoor
