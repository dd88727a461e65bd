/- Texts of the proof, one behind the other. -/
import Derived.Test.YtidclioghdbphaaGreatDoorMg
import Derived.Test.YtidclioghdbphaaGreatDoorTie
import Derived.ProofKit
import Derived.OpenShut
import Derived.ShutString
import Derived.Lay
import Derived.Stop.LaidErr
import Derived.Stop.Joined
import Derived.Shelf.Vars
import Derived.Lib.LaidTab
import Derived.Lib.SmallJoins
import Derived.SevenTiedAt
import Derived.Test.YtidclioghdbphaaGreatDoorCards
set_option linter.all false
set_option maxRecDepth 100000
namespace Go.Proofs.YtidclioghdbphaaGreatDoor
open Go.RowKit Go.Par Go.Sx _root_.Go.Proofs.Tryz
variable {H H':Hp} {l:List Value}
theorem tok_rowF {x:TkS} (h:RepZ H 3 [dTk .u8 x.1] l):RepZ H' 3 (List.map (dTk .u8) (List.map (·.1) [x])) l:=by
 unfold RepZ at h;obtain ⟨a,y,rfl,_,h1,h2⟩:=h;unfold RepZ at h2;subst h2;rw [Al_List_append_nil];obtain ⟨rfl,_⟩:=tk_open h1;exact .single (tk_shut x.2) Z
theorem zf_rep (H:Hp):Rep H (dFm .u8 zF) [.int .u8 0,.string ⟨#[]⟩,.string ⟨#[]⟩,.int .i64 0,.int .i64 0,.slice none 0 0,.slice none 0 0]:=fm_shut (op:=0) (nm:=[]) (fd:=[]) (a:=0) (b:=0) (ex:=[]) (args:=[]) (by decide) (by decide) Rep.nil4 Rep.nil4
def muF (l:Tks) (q:Ps):Nat:=if q.fin then 0 else l.length - q.c.i
theorem mu_step {l:Tks} {q q':Ps} (h:¬ q.fin) (g:q'.fin\/q.c.i<q'.c.i) (hi:q.c.i<l.length):muF l q'<muF l q:=by
 unfold muF;rw [Al_if_neg h]
 split
 ·omega
 ·rename_i h2;rcases g with g | g
  ·exact absurd g h2
  ·omega
section
variable {c:Rq} {op:List Ov} {v:Vl} {V:List Vl} {bd rd dn:Bool} {x:Vb}
theorem end_er (h:¬ c.er=0):endP ⟨c,op,x,rd,dn⟩=(zF,c.off,c.er):=by unfold endP;exact Al_if_pos h
theorem end_bad (h:c.er=0) (hb:(bd || v.noF)=true):endP ⟨c,op,(v::V,bd),rd,dn⟩=(zF,0,6):=by
 unfold endP;rw [Al_if_neg (show ¬ ¬ c.er=0 by rw [h];decide),Al_if_pos (show (fS (v::V,bd)).2=true from hb)]
theorem end_chk (h:c.er=0) (hb:(bd || v.noF)=false) (hc:¬ fcheck v.fm=0):endP ⟨c,op,(v::V,bd),rd,dn⟩=(zF,0,fcheck v.fm):=by
 unfold endP;rw [Al_if_neg (show ¬ ¬ c.er=0 by rw [h];decide),Al_if_neg (show ¬ (fS (v::V,bd)).2=true by rw [show (fS (v::V,bd)).2=false from hb];decide)];exact Al_if_pos hc
theorem end_ok (h:c.er=0) (hb:(bd || v.noF)=false) (hc:fcheck v.fm=0):endP ⟨c,op,(v::V,bd),rd,dn⟩=(v.fm,0,0):=by
 unfold endP;rw [Al_if_neg (show ¬ ¬ c.er=0 by rw [h];decide),Al_if_neg (show ¬ (fS (v::V,bd)).2=true by rw [show (fS (v::V,bd)).2=false from hb];decide)];exact Al_if_neg (show ¬ ¬ fcheck v.fm=0 by rw [hc];decide)
end
set_option maxHeartbeats 4000000 in
theorem fparse_any (H:Hp) (G:Gl H) (Gt:Gf H) (t:Str) (hl:t.length<=400000) (w:World) (hA:Agr H w) :
 Calls prg 26 #[strV t] w λe W'=>∃ (cs:List Value) (H':Hp),Rep H' (dFm .u8 (parF (tksF t)).1) cs/\e=.returned (.tuple #[.agg cs.toArray,iN ((parF (tksF t)).2.1),iN ((parF (tksF t)).2.2)])/\Grow H w H' W':=by
 refine Sx.enterM (H:=H) func26 rfl ntmps26 rfl hA ?_;refine .sr<|.al Fx.zero35 Z λb2=>.a Z Z<|.a Z Z<|.ns<|.yw (.build Z (Fx.bld97_0 _))<|.blR (z:=11) Z (Fx.bsl98_1 _ _ _ _ _ _ _ _ _ _ _) Z Z (by simp [maxLen]) λb10=>.yw (.build Z (Fx.bld102_2 _ _ _))<|.bx Z Z Z λb12=>.al Fx.zero94 Z λb5=>.st .head Z Z Fx.size94 Z (nb Z) Z<|.nt<|.sq<|.sm Z<|.ct (X:=Nat) Fx.call54 Z (λW s=>lex_any H t W s.agr) Z λb1 H1 m1 u1=>.nt<|.bk<|?_
 refine Sx.row0 108 3 ?_;refine At.pm [0,2,1,3,4] [_,_,_,_,_] rfl rfl ?_
 refine At.rfB (α:=TkS) (Z:=Value × Nat × List Value) (N:=t.length+1) (e:=108) (T:=102) (TX:=108) (size:=3) (p:=b12) (fx:=[.box b5 [.pointer (some ⟨b12,0,none⟩)] 94,.row 97 11 (.slice (some ⟨b10,0,none⟩) 1 1) 1 [.int .u8 1,.int .i64 0,.bool false,.int .u8 0,.int .u8 0,.string ⟨#[]⟩,.string ⟨#[]⟩,.int .i64 0,.int .i64 0,.slice none 0 0,.slice none 0 0],.box b2 [.int .u8 0,.string ⟨#[]⟩,.string ⟨#[]⟩,.int .i64 0,.int .i64 0,.slice none 0 0,.slice none 0 0] 35]) (enc:=λx:TkS=>.agg (cTk .u8 x.1).toArray) (S:=λxs=>xs.map (·.1)=lexR t)
  (λpre z=>z.2.1=pre.length/\RepZ H1 3 ((pre.map (·.1)).map (dTk .u8)) z.2.2) (λz=>z.1) (λz=>z.2.1) (λz=>z.2.2) (λ_=>[.int .i64 0,.slice (some ⟨b10,0,none⟩) 1 1,.slice none 0 0,.bool false,.bool false,.bool false,.int .i64 0,.int .i64 0]) (.slice none 0 0,0,[])
  (λ_ b=>[(0,strV t),(5,.pointer (some ⟨b5,0,none⟩)),(6,.pointer (some ⟨b,0,none⟩))]) (λx=>cTk .u8 x.1) rfl (λ_ _=>run_callFunc Fx.call95) rfl (λw hA=>lex_seq H1 (G.up u1.up) t (by omega) (λx hx=>Al_Nat_le_trans (lexR_shortF t x hx) (by omega)) b1 m1 w hA) ⟨rfl,RepZ.nil⟩ rfl rfl ?_ ?_ ?_
 ·intro l x bs' K h;exact .rgI<|.alI Fx.zero108 Z λb=>.sWI .head Z Z Fx.size108 (by simp [cTk,Value.oneCell',strV]) Z<|.nlI<|.tN<|λa W f s=>h b a W (f.sub ⟨rfl,rfl,rfl,trivial⟩) s
 ·intro l' pre x z tl b H2 hC hlen u2 m2;obtain ⟨v,k,xs⟩:=z;obtain ⟨hk,hz⟩:=hC;dsimp only at hk hz|-;change At [] _ _ H2 w (.row 108 3 v k xs::.box b12 (v::[.int .i64 0,.slice (some ⟨b10,0,none⟩) 1 1,.slice none 0 0,.bool false,.bool false,.bool false,.int .i64 0,.int .i64 0]) 102::.box b5 [.pointer (some ⟨b12,0,none⟩)] 94::.row 97 11 (.slice (some ⟨b10,0,none⟩) 1 1) 1 [.int .u8 1,.int .i64 0,.bool false,.int .u8 0,.int .u8 0,.string ⟨#[]⟩,.string ⟨#[]⟩,.int .i64 0,.int .i64 0,.slice none 0 0,.slice none 0 0]::.box b2 [.int .u8 0,.string ⟨#[]⟩,.string ⟨#[]⟩,.int .i64 0,.int .i64 0,.slice none 0 0,.slice none 0 0] 35::tl) _;refine At.ra Hm λpv cv ev=>?_;subst ev;refine .bkI<|.flI (trip:=[(_,_,_),(_,_,_),(_,_,_),(_,_,_),(_,_,_),(_,_,_),(_,_,_),(_,_,_)]) 8 [(0,0),(1,0),(2,0),(3,0),(4,0),(5,0),(6,1),(7,3)] (by kernel_rfl) (by kernel_rfl) (by kernel_rfl) Z<|.lD Z Fx.agg94 mem2 Z<|.lD Z Fx.agg94 mem2 Z<|.nC Z<|.fA Z Fx.field102_0<|.lD Z Fx.agg99 mem1 Z<|.yw (.loadMW Z Fx.agg108 m2 Z)<|.blF Z (Fx.bsl99_1 _ _ _) Z λb22 H3 u3 m3=>.apD Fx.row99 Z (λ_ _=>.head) Z (Rep.mk (n:=1) (c:=1) (ds:=[dTk .u8 x.1]) m3 (.single (tk_shut x.2) Z) Z (Al_Nat_le_refl _) (by decide)) (by simp [maxLen];omega) (by omega) Z (λ_ _=>(.d3<|.d2<|.yv (.load Z Fx.agg94 mem2 Z)<|.nl)) λxs26 p26 c26 hz26=>.fn (tl:=[_,_,_]) Z<|.nC Z<|.fA Z Fx.field102_0<|.st upd1 Z Z Fx.size99 Z (nb Z) Z<|.nlQ<|.bN<|?_
  refine At.rE ((.slice p26 (k+1) c26,k+1,xs++xs26):Value × Nat × List Value) (u2.trans u3.up) ?_ rfl;exact ⟨by simp [hk],by rw [Al_List_map_append,Al_List_map_append];exact hz.app (tok_rowF hz26)⟩
 intro D ys z hS hC;obtain ⟨v,k,xs⟩:=z;obtain ⟨hk,hz⟩:=hC;dsimp only at hk hz|-;change At _ _ _ H1 w (.obj D (.deferred (some []))::.row 108 3 v k xs::.box b12 (v::[.int .i64 0,.slice (some ⟨b10,0,none⟩) 1 1,.slice none 0 0,.bool false,.bool false,.bool false,.int .i64 0,.int .i64 0]) 102::.box b5 [.pointer (some ⟨b12,0,none⟩)] 94::.row 97 11 (.slice (some ⟨b10,0,none⟩) 1 1) 1 [.int .u8 1,.int .i64 0,.bool false,.int .u8 0,.int .u8 0,.string ⟨#[]⟩,.string ⟨#[]⟩,.int .i64 0,.int .i64 0,.slice none 0 0,.slice none 0 0]::.box b2 [.int .u8 0,.string ⟨#[]⟩,.string ⟨#[]⟩,.int .i64 0,.int .i64 0,.slice none 0 0,.slice none 0 0] 35::[]) _;refine At.ra mem1 λpv cv ev=>?_;subst ev;have hkl:k<=t.length:=by have:=lexR_len t;rw [<-hS,Al_List_length_map] at this;omega
 refine .bN<|.tN<|.sq<|.fL 10 [(0,0),(1,0),(2,0),(3,0),(4,0),(5,0),(6,0),(7,0),(8,1),(9,3)]<|.lD Z Fx.agg94 mem3 Z<|.lD Z Fx.agg94 mem3 Z<|.nC Z<|.fA Z Fx.field102_0<|.lD Z Fx.agg99 mem2 Z<|.mv Z<|.yw (.lenS Fx.str9 Z)<|.yw (.build Z (Fx.bld108_2 _))<|.blF Z (Fx.bsl99_1 _ _ _) Z λb34 H3 u3 m3=>.apD Fx.row99 Z (λ_ _=>upd1) Z (Rep.mk (n:=1) (c:=1) (ds:=[dTk .u8 (endT t)]) m3 (.single (tk_shut (x:=endT t) (Al_Nat_zero_le _)) Z) Z (Al_Nat_le_refl _) (by decide)) (by simp [maxLen];omega) (by omega) Z (λ_ _=>(.d4<|.d3<|.yv (.load Z Fx.agg94 mem3 Z)<|.nl)) λxs35 p35 c35 hz35=>.fn (tl:=[_,_,_]) Z<|.nC Z<|.fA Z Fx.field102_0<|.st upd2 Z Z Fx.size99 Z (nb Z) Z<|?_
 refine At.pm [1,0,2,3,4,5] [_,_,_,_,_,_] rfl rfl ?_
 have hz2:RepZ H3 3 ((tksF t).map (dTk .u8)) (xs++xs35):=by
  unfold tksF;rw [Al_List_map_append,<-hS];exact (hz.up u3.up).app hz35
 have hlen:((tksF t).map (dTk .u8)).length=k+1:=by rw [Al_List_length_map,tksF_len,<-hS,Al_List_length_map,hk]
 refine freezeSeq hlen hz2 λH4 p4 c4 u4 e4 h4=>?_;injection e4 with e5 _ e6
 subst e5 e6;rw [Al_List_length_map] at hlen;rw [<-hlen]
 have K:Tkf H4 (tksF t) p35 c35:=⟨by rw [hlen];exact h4,tgd_of t,λx hx=>by
  rcases Al_List_mem_append.1 hx with hx | hx
  ·exact Al_Nat_le_trans (lexR_shortF t x hx) hl
  ·rw [Al_List_mem_singleton.1 hx];exact Al_Nat_zero_le _,by rw [tksF_len];have:=lexR_len t;omega,λx hx hk=>by
  rcases Al_List_mem_append.1 hx with hx | hx
  ·exact ⟨lexR_numF t x hx hk,(lexR_good t x hx).2.2⟩
  ·rw [Al_List_mem_singleton.1 hx] at hk;exact (by cases hk)⟩
 obtain ⟨p4,hp4⟩:∃ p,p=p35:=⟨_,rfl⟩;obtain ⟨c4,hc4⟩:∃ c,c=c35:=⟨_,rfl⟩;subst hp4 hc4;have G4:=((G.up u1.up).up u3.up).up u4.up;have GT4:=((Gt.up u1.up).up u3.up).up u4.up;refine Sx.row0 179 13 ?_;refine .nt<|.sq<|.bk<|.pm [2,4,0,1,3,5] [_,_,_,_,_,_] Z Z<|.lp (X:=Hp × Value × Value × List Value × List Value × List Res × Ps) [(2,_),(5,_)] ⟨rfl,rfl,trivial⟩ [_,_,_] (λz=>[]) (λz=>z.1) (λz=>[.box b12 [.slice p4 (tksF t).length c4,iN z.2.2.2.2.2.2.c.i,z.2.1,z.2.2.1,.bool z.2.2.2.2.2.2.rd,.bool z.2.2.2.2.2.2.dn,.bool z.2.2.2.2.2.2.x.2,iN z.2.2.2.2.2.2.c.off,iN z.2.2.2.2.2.2.c.er] 102,.row 97 11 (z.2.1) (z.2.2.2.2.2.2.op.length) (z.2.2.2.1),.row 179 13 (z.2.2.1) (z.2.2.2.2.2.2.x.1.length) (z.2.2.2.2.1)]++z.2.2.2.2.2.1) (λz=>HUp w H4 z.1/\Sq z.1 z.2.2.2.2.2.2 z.2.2.2.1 z.2.2.2.2.1 z.2.2.2.2.2.1/\Fwf (tksF t) z.2.2.2.2.2.2/\Fex z.2.2.2.2.2.2/\Fbd 600000 z.2.2.2.2.2.2/\Rch (tksF t) iniP z.2.2.2.2.2.2/\Dnr z.2.2.2.2.2.2) (λz=>muF (tksF t) z.2.2.2.2.2.2) (H4,.slice (some ⟨b10,0,none⟩) 1 1,.slice none 0 0,[.int .u8 1,.int .i64 0,.bool false,.int .u8 0,.int .u8 0,.string ⟨#[]⟩,.string ⟨#[]⟩,.int .i64 0,.int .i64 0,.slice none 0 0,.slice none 0 0],[],[],iniP) (λ_ s=>s) trivial ⟨.refl,⟨Ops.cons (xo:=[]) (AR:=[]) .nil (by decide) (FmR.zero Z Z (Al_Nat_zero_le _) (Al_Nat_zero_le _)),.nil⟩,wf_ini (by rw [tksF_len];exact Nat.succ_pos _),(λo ho=>by rw [Al_List_mem_singleton.1 ho];exact Al_Nat_zero_le _),fbd_ini,.refl,.inl Z⟩ λz hC=>?_
 obtain ⟨H5,ro,rv,xo,xv,AR,q1⟩:=z;obtain ⟨u5,S,Wq,FE,FB,RC,DR⟩:=hC;dsimp only at u5 S Wq FE FB RC DR|-;have K5:=K.up u5.up;refine Sx.reSt (λW s=>St.mid (a:=[_,_,_]) (d:=AR) (c:=[_,_,_]) (e:=[]) s) ?_;obtain ⟨q,op,x,rd,dn⟩:=q1;dsimp only;refine .sq<|.sr<|.lD Z Fx.agg94 mem4 Z<|.nC Z<|.fA Z Fx.field102_5<|.lD Z Fx.agg4 Hm Z<|.yw (.not Z)<|.mv Z<|.b2 (λh43=>?_) (λh43=>?_)
 ·have hd:dn=false:=by simpa using h43
  refine .gy (.load Z Fx.agg94 mem4 Z)<|.gy (.nilCheck Z)<|.gy (.fieldAddr Z Fx.field102_8)<|.gy (.load Z Fx.agg29 Hm Z)<|.gy (.eql Z Z)<|.yw (.pickT Z Z)<|.nt<|.cd Z (λh49=>?_) (λh49=>?_)
  ·have h0:q.er=0:=by have:=Al_of_decide_eq_true h49;omega
   have hnf:¬ (Ps.fin ⟨q,op,x,rd,dn⟩):=λe=>by
    rcases e with e | e
    ·rw [show dn=true from e] at hd;cases hd
    ·exact e h0
   have ST:=stp_step K.gd.last Wq hnf;have RS:=RC.trans (.one h0 hd rfl);have DS:=dnr_step (l:=tksF t) (q:=⟨q,op,x,rd,dn⟩) hd;have FS:=fbd_step (l:=tksF t) (by decide) FB FE (Al_Nat_lt_of_lt_of_le Wq.i K.few);have FT:=fex_step (l:=tksF t) FE;refine .sk<|.tN<|.bk<|.sr<|.lD Z Fx.agg94 mem4 Z<|.nC Z<|.fA Z Fx.field102_4<|.lD Z Fx.agg4 Hm Z<|.nt<|.cd Z (λh53=>?_) (λh53=>?_)
   ·have hr:rd=true:=h53;subst hr;refine .rg<|.lD Z Fx.agg94 mem4 Z<|.cs (X:=Hp × Value × Value × List Value × List Value × List Res) Fx.call55 Z (λW s=>operator_f K5 Wq S (GT4.up u5.up) h0 FE (St.mid (a:=[_,_,_]) (d:=[_,_,_]) (s.pickT (hd:=[_,_,_,_,_,_]) (tl:=(AR++[])) (hd':=[_,_,_,_,_,_]) [0,1,2,3,4,5] Z Z))) Z λz9 hz9=>?_
    obtain ⟨H6,ro6,rv6,xo6,xv6,AR6⟩:=z9;obtain ⟨u6,S⟩:=hz9;dsimp only at u6 S|-;refine Sx.reSt (λW s=>St.mid (a:=[_,_,_]) (d:=AR6) (c:=[_,_,_]) s) ?_;exact .nl<|.bN<|.tN<|.ag (x:=((H5,ro,rv,xo,xv,AR,(⟨q,op,x,true,dn⟩:Ps)):Hp × Value × Value × List Value × List Value × List Res × Ps)) (H6,ro6,rv6,xo6,xv6,AR6,stepP (tksF t) ⟨q,op,x,true,dn⟩) trivial ⟨rfl,rfl,trivial⟩ (λ_ s=>St.mid (a:=[_,_,_]) (d:=[_,_,_]) (c:=AR6) (e:=[]) s) ⟨u5.trans u6,S,ST.wf,FT,FS,RS,DS⟩ (mu_step hnf ST.go Wq.i)
   have hr:rd=false:=h53;subst hr;refine .rg<|.lD Z Fx.agg94 mem4 Z<|.cs (X:=Hp × Value × Value × List Value × List Value × List Res) Fx.call56 Z (λW s=>operand_f K5 Wq S (St.mid (a:=[_,_,_]) (d:=[_,_,_]) (s.pickT (hd:=[_,_,_,_,_,_]) (tl:=(AR++[])) (hd':=[_,_,_,_,_,_]) [0,1,2,3,4,5] Z Z))) Z λz9 hz9=>?_
   obtain ⟨H6,ro6,rv6,xo6,xv6,AR6⟩:=z9;obtain ⟨u6,S⟩:=hz9;dsimp only at u6 S|-;refine Sx.reSt (λW s=>St.mid (a:=[_,_,_]) (d:=AR6) (c:=[_,_,_]) s) ?_;exact .nl<|.bN<|.tN<|.ag (x:=((H5,ro,rv,xo,xv,AR,(⟨q,op,x,false,dn⟩:Ps)):Hp × Value × Value × List Value × List Value × List Res × Ps)) (H6,ro6,rv6,xo6,xv6,AR6,stepP (tksF t) ⟨q,op,x,false,dn⟩) trivial ⟨rfl,rfl,trivial⟩ (λ_ s=>St.mid (a:=[_,_,_]) (d:=[_,_,_]) (c:=AR6) (e:=[]) s) ⟨u5.trans u6,S,ST.wf,FT,FS,RS,DS⟩ (mu_step hnf ST.go Wq.i)
  have hfin:(Ps.fin ⟨q,op,x,rd,dn⟩):=.inr (λe=>Al_of_decide_eq_false h49 (by rw [show q.er=0 from e];rfl));refine .ex<|.eb<|.sq<|.sq<|?_
  have EP:parF (tksF t)=endP ⟨q,op,x,rd,dn⟩:=by unfold parF;rw [run_unique RC hfin (run_end K.gd.last (tksF t).length iniP (wf_ini (by rw [tksF_len];exact Nat.succ_pos _)) (by show _<=0+_;omega)).1]
  refine .rg<|.lD Z Fx.agg94 mem4 Z<|.nC Z<|.fA Z Fx.field102_8<|.lD Z Fx.agg29 Hm Z<|.yw (.neq Z Z)<|.nt<|.cd Z (λh62=>?_) (λh62=>?_)
  ·have hne:¬ q.er=0:=λe=>Al_of_decide_eq_true h62 (by rw [e];rfl);refine .sq<|.fL 11 [(0,0),(1,0),(2,0),(3,0),(4,0),(5,0),(6,0),(7,0),(8,0),(9,3),(10,0)]<|.yw (.build Z Fx.bld35)<|.lD Z Fx.agg94 mem4 Z<|.nC Z<|.fA Z Fx.field102_7<|.lD Z Fx.agg3 Hm Z<|.lD Z Fx.agg94 mem4 Z<|.nC Z<|.fA Z Fx.field102_8<|.lD Z Fx.agg29 Hm Z<|.sW upd5 Z Z Fx.size35 (by simp [Value.oneCell',strV]) Z ((.yv (.load Z Fx.agg29 Hm Z)<|.yv (.fieldAddr Z Fx.field102_8)<|.yv (.nilCheck Z)<|.yv (.load Z Fx.agg94 mem4 Z)<|.yv (.load Z Fx.agg3 Hm Z)<|.yv (.fieldAddr Z Fx.field102_7)<|.yv (.nilCheck Z)<|.yv (.load Z Fx.agg94 mem4 Z)<|.dn<|.nl))<|.a Z Z<|.fn (tl:=[_]) Z<|.az Z<|.tR<|?_
   refine Sx.retM (.inl rfl) upd3 ?_;refine y7 Z (.cons (.cell rfl Fx.agg35 mem5 rfl) (.cons (.tmp rfl) (.cons (.tmp rfl) .nil))) rfl λW s=>?_;rw [EP,end_er hne];exact ⟨[.int .u8 0,.string ⟨#[]⟩,.string ⟨#[]⟩,.int .i64 0,.int .i64 0,.slice none 0 0,.slice none 0 0],H5,zf_rep _,rfl,(((u1.trans u3).trans u4).trans u5).grow s⟩
  have he0:q.er=0:=by have:=Al_of_decide_eq_false h62;omega
  have hd:dn=true:=by
   rcases hfin with e | e
   ·exact e
   ·exact (e he0).elim
  have hr:rd=true:=by
   rcases DR with e | e
   ·rw [show dn=false from e] at hd;cases hd
   ·exact e
  subst hr;have hv1:1<=x.1.length:=by have:=Wq.vs;dsimp only at this;rw [this];exact Nat.le_add_left _ _
  obtain ⟨hn1,hn2⟩:=wf_len Wq K.few;dsimp only at hn1 hn2;obtain ⟨vs,bd⟩:=x;dsimp only at hv1 hn2;obtain ⟨v,V,rfl⟩:=list1 hv1;dsimp only [List.length_cons] at hn2;obtain ⟨yr,t0,t1,t2,e8,VS1,V1⟩:=VR.inv S.vls;try dsimp only at e8
  subst e8;have l1:=VS1.len;obtain ⟨q1,q2,ef,FR⟩:=fm_lay V1;have FBv:=vbn_fF FB.x;dsimp only;refine .sk<|.tN<|.sr<|.lD Z Fx.agg94 mem4 Z<|.cs (X:=Nat × Nat) Fx.call57 Z (λW s=>formula_f K5 Wq.i V1.one V1.e.nm (by omega) l1 (s.pickT (hd:=[_,_,_,_,_,_]) (tl:=(AR++[])) (hd':=[_,_,_,_,_,_]) [0,2,1,3,4,5] Z Z)) Z λp1 _=>?_
  rw [ef];refine .al Fx.zero35 Z λb7=>.sW .head Z Z Fx.size35 (by intro a ha;exact Rep.one FR.rep a ha) Z<|.nt<|.sq<|.sr<|.lD Z Fx.agg94 mem5 Z<|.nC Z<|.fA Z Fx.field102_6<|.lD Z Fx.agg4 mem1 Z<|.nt<|.cd Z (λh77=>?_) (λh77=>?_)
  ·have hbd:(bd || v.noF)=true:=h77;refine .sr<|.yw (.build Z Fx.bld35)<|.sX upd6 Z Z Fx.size35 Z<|.a Z Z<|.az Z<|.tR<|?_
   refine Sx.retM (.inl rfl) upd4 ?_;refine y7 Z (.cons (.cell rfl Fx.agg35 mem6 rfl) (.cons (.tmp rfl) (.cons (.tmp rfl) .nil))) rfl λW s=>?_;rw [EP,end_bad he0 hbd];exact ⟨[.int .u8 0,.string ⟨#[]⟩,.string ⟨#[]⟩,.int .i64 0,.int .i64 0,.slice none 0 0,.slice none 0 0],H5,zf_rep _,rfl,(((u1.trans u3).trans u4).trans u5).grow s⟩
  have hbd:(bd || v.noF)=false:=h77;refine .sk<|.tN<|.sq<|.sr<|.yw (.loadW Z Fx.agg35 Hm Z)<|.yw (.call Fx.call15 Z (λW s=>fcheck_any H5 (G4.up u5.up) (GT4.up u5.up) v.fm FBv _ W FR.rep s.agr))<|.a Z Z<|.ns<|.mv Z<|.yw (.neq Z Z)<|.nt<|.cd Z (λh82=>?_) (λh82=>?_)
  ·have hck:¬ fcheck v.fm=0:=λe=>Al_of_decide_eq_true h82 (by rw [e];rfl);refine .sr<|.yw (.build Z Fx.bld35)<|.mv Z<|.sX upd6 Z Z Fx.size35 Z<|.a Z Z<|.az Z<|.tR<|?_
   refine Sx.retM (.inl rfl) upd4 ?_;refine y7 Z (.cons (.cell rfl Fx.agg35 mem6 rfl) (.cons (.tmp rfl) (.cons (.tmp rfl) .nil))) rfl λW s=>?_;rw [EP,end_chk he0 hbd hck];exact ⟨[.int .u8 0,.string ⟨#[]⟩,.string ⟨#[]⟩,.int .i64 0,.int .i64 0,.slice none 0 0,.slice none 0 0],H5,zf_rep _,rfl,(((u1.trans u3).trans u4).trans u5).grow s⟩
  have hck:fcheck v.fm=0:=by have:=Al_of_decide_eq_false h82;omega
  refine .sk<|.tN<|.sr<|.yw (.loadW Z Fx.agg35 Hm Z)<|.sW upd6 Z Z Fx.size35 (by intro a ha;exact Rep.one FR.rep a ha) Z<|.a Z Z<|.az Z<|?_
  refine Sx.retM (.inl rfl) upd4 ?_;refine y7 Z (.cons (.cell rfl Fx.agg35 mem6 rfl) (.cons (.tmp rfl) (.cons (.tmp rfl) .nil))) rfl λW s=>?_;rw [EP,end_ok he0 hbd hck];exact ⟨cFm .u8 v.fm.op v.fm.nm v.fm.fd v.fm.a v.fm.b q1 q2,H5,FR.rep,rfl,(((u1.trans u3).trans u4).trans u5).grow s⟩
 have hd:dn=true:=by simpa using h43
 have hfin:(Ps.fin ⟨q,op,x,rd,dn⟩):=.inl hd;refine .gG<|.gG<|.gG<|.gG<|.gG<|.yw (.pickF Z Z)<|.nt<|.cF Z<|.ex<|.eb<|.sq<|.sq<|?_
 have EP:parF (tksF t)=endP ⟨q,op,x,rd,dn⟩:=by unfold parF;rw [run_unique RC hfin (run_end K.gd.last (tksF t).length iniP (wf_ini (by rw [tksF_len];exact Nat.succ_pos _)) (by show _<=0+_;omega)).1]
 refine .rg<|.lD Z Fx.agg94 mem4 Z<|.nC Z<|.fA Z Fx.field102_8<|.lD Z Fx.agg29 Hm Z<|.yw (.neq Z Z)<|.nt<|.cd Z (λh62=>?_) (λh62=>?_)
 ·have hne:¬ q.er=0:=λe=>Al_of_decide_eq_true h62 (by rw [e];rfl);refine .sq<|.fL 11 [(0,0),(1,0),(2,0),(3,0),(4,0),(5,0),(6,0),(7,0),(8,0),(9,3),(10,0)]<|.yw (.build Z Fx.bld35)<|.lD Z Fx.agg94 mem4 Z<|.nC Z<|.fA Z Fx.field102_7<|.lD Z Fx.agg3 Hm Z<|.lD Z Fx.agg94 mem4 Z<|.nC Z<|.fA Z Fx.field102_8<|.lD Z Fx.agg29 Hm Z<|.sW upd5 Z Z Fx.size35 (by simp [Value.oneCell',strV]) Z ((.yv (.load Z Fx.agg29 Hm Z)<|.yv (.fieldAddr Z Fx.field102_8)<|.yv (.nilCheck Z)<|.yv (.load Z Fx.agg94 mem4 Z)<|.yv (.load Z Fx.agg3 Hm Z)<|.yv (.fieldAddr Z Fx.field102_7)<|.yv (.nilCheck Z)<|.yv (.load Z Fx.agg94 mem4 Z)<|.dn<|.nl))<|.a Z Z<|.fn (tl:=[_]) Z<|.az Z<|.tR<|?_
  refine Sx.retM (.inl rfl) upd3 ?_;refine y7 Z (.cons (.cell rfl Fx.agg35 mem5 rfl) (.cons (.tmp rfl) (.cons (.tmp rfl) .nil))) rfl λW s=>?_;rw [EP,end_er hne];exact ⟨[.int .u8 0,.string ⟨#[]⟩,.string ⟨#[]⟩,.int .i64 0,.int .i64 0,.slice none 0 0,.slice none 0 0],H5,zf_rep _,rfl,(((u1.trans u3).trans u4).trans u5).grow s⟩
 have he0:q.er=0:=by have:=Al_of_decide_eq_false h62;omega
 have hd:dn=true:=by
  rcases hfin with e | e
  ·exact e
  ·exact (e he0).elim
 have hr:rd=true:=by
  rcases DR with e | e
  ·rw [show dn=false from e] at hd;cases hd
  ·exact e
 subst hr;have hv1:1<=x.1.length:=by have:=Wq.vs;dsimp only at this;rw [this];exact Nat.le_add_left _ _
 obtain ⟨hn1,hn2⟩:=wf_len Wq K.few;dsimp only at hn1 hn2;obtain ⟨vs,bd⟩:=x;dsimp only at hv1 hn2;obtain ⟨v,V,rfl⟩:=list1 hv1;dsimp only [List.length_cons] at hn2;obtain ⟨yr,t0,t1,t2,e8,VS1,V1⟩:=VR.inv S.vls;try dsimp only at e8
 subst e8;have l1:=VS1.len;obtain ⟨q1,q2,ef,FR⟩:=fm_lay V1;have FBv:=vbn_fF FB.x;dsimp only;refine .sk<|.tN<|.sr<|.lD Z Fx.agg94 mem4 Z<|.cs (X:=Nat × Nat) Fx.call57 Z (λW s=>formula_f K5 Wq.i V1.one V1.e.nm (by omega) l1 (s.pickT (hd:=[_,_,_,_,_,_]) (tl:=(AR++[])) (hd':=[_,_,_,_,_,_]) [0,2,1,3,4,5] Z Z)) Z λp1 _=>?_
 rw [ef];refine .al Fx.zero35 Z λb7=>.sW .head Z Z Fx.size35 (by intro a ha;exact Rep.one FR.rep a ha) Z<|.nt<|.sq<|.sr<|.lD Z Fx.agg94 mem5 Z<|.nC Z<|.fA Z Fx.field102_6<|.lD Z Fx.agg4 mem1 Z<|.nt<|.cd Z (λh77=>?_) (λh77=>?_)
 ·have hbd:(bd || v.noF)=true:=h77;refine .sr<|.yw (.build Z Fx.bld35)<|.sX upd6 Z Z Fx.size35 Z<|.a Z Z<|.az Z<|.tR<|?_
  refine Sx.retM (.inl rfl) upd4 ?_;refine y7 Z (.cons (.cell rfl Fx.agg35 mem6 rfl) (.cons (.tmp rfl) (.cons (.tmp rfl) .nil))) rfl λW s=>?_;rw [EP,end_bad he0 hbd];exact ⟨[.int .u8 0,.string ⟨#[]⟩,.string ⟨#[]⟩,.int .i64 0,.int .i64 0,.slice none 0 0,.slice none 0 0],H5,zf_rep _,rfl,(((u1.trans u3).trans u4).trans u5).grow s⟩
 have hbd:(bd || v.noF)=false:=h77;refine .sk<|.tN<|.sq<|.sr<|.yw (.loadW Z Fx.agg35 Hm Z)<|.yw (.call Fx.call15 Z (λW s=>fcheck_any H5 (G4.up u5.up) (GT4.up u5.up) v.fm FBv _ W FR.rep s.agr))<|.a Z Z<|.ns<|.mv Z<|.yw (.neq Z Z)<|.nt<|.cd Z (λh82=>?_) (λh82=>?_)
 ·have hck:¬ fcheck v.fm=0:=λe=>Al_of_decide_eq_true h82 (by rw [e];rfl);refine .sr<|.yw (.build Z Fx.bld35)<|.mv Z<|.sX upd6 Z Z Fx.size35 Z<|.a Z Z<|.az Z<|.tR<|?_
  refine Sx.retM (.inl rfl) upd4 ?_;refine y7 Z (.cons (.cell rfl Fx.agg35 mem6 rfl) (.cons (.tmp rfl) (.cons (.tmp rfl) .nil))) rfl λW s=>?_;rw [EP,end_chk he0 hbd hck];exact ⟨[.int .u8 0,.string ⟨#[]⟩,.string ⟨#[]⟩,.int .i64 0,.int .i64 0,.slice none 0 0,.slice none 0 0],H5,zf_rep _,rfl,(((u1.trans u3).trans u4).trans u5).grow s⟩
 have hck:fcheck v.fm=0:=by have:=Al_of_decide_eq_false h82;omega
 refine .sk<|.tN<|.sr<|.yw (.loadW Z Fx.agg35 Hm Z)<|.sW upd6 Z Z Fx.size35 (by intro a ha;exact Rep.one FR.rep a ha) Z<|.a Z Z<|.az Z<|?_
 refine Sx.retM (.inl rfl) upd4 ?_;refine y7 Z (.cons (.cell rfl Fx.agg35 mem6 rfl) (.cons (.tmp rfl) (.cons (.tmp rfl) .nil))) rfl λW s=>?_;rw [EP,end_ok he0 hbd hck];exact ⟨cFm .u8 v.fm.op v.fm.nm v.fm.fd v.fm.a v.fm.b q1 q2,H5,FR.rep,rfl,(((u1.trans u3).trans u4).trans u5).grow s⟩
def awk1:Str:=[111,110,99,101,91,48,44,32,53,93,32,40,97,114,114,105,118,101,115,32,102,114,111,110,116,46,103,101,116,40,95,44,32,55,41,32,97,110,100,32,110,111,116,32,102,108,97,103,32,115,108,111,119,41]
def awk2:Str:=[40,97,46,120,32,43,32,49,41,32,42,32,50,32,62,32,110,111,119]
def awf1:Fm:=.mk 13 [] [] 0 5 [] [.mk 9 [] [] 0 0 [] [.mk 7 [102,114,111,110,116] [103,101,116] 0 0 [.mk 0 [] 0 [],.mk 1 [] 7 []] [],.mk 8 [] [] 0 0 [] [.mk 6 [115,108,111,119] [] 0 0 [] []]]]
def awf2:Fm:=.mk 3 [] [] 0 0 [.mk 20 [] 0 [.mk 11 [] 0 [.mk 14 [] 0 [.mk 5 [97,46,120] 0 [],.mk 1 [] 1 []],.mk 1 [] 2 []],.mk 4 [] 0 []]] []
theorem awk1_par:parF (tksF awk1)=(awf1,0,0):=by kernel_rfl
theorem awk2_par:parF (tksF awk2)=(awf2,0,0):=by kernel_rfl
theorem awk1_txt:textF awf1=awk1:=by kernel_rfl
theorem fparse_ok (H:Hp) (GL:Gl H) (G:Gf H) (t:Str) (f:Fm) (hl:t.length<=400000) (hp:parF (tksF t)=(f,0,0)) (w:World) (hA:Agr H w) :
 Calls prg 26 #[strV t] w λe W'=>∃ (cs:List Value) (H':Hp),Rep H' (dFm .u8 f) cs/\e=.returned (.tuple #[.agg cs.toArray,.int .i64 0,.int .i64 0])/\Grow H w H' W':=by
 have h:=fparse_any H GL G t hl w hA;rw [hp] at h;exact h
theorem awk1_text (H:Hp) (GL:Gl H) (G:Gf H) (gq:Gq H) (cs:List Value) (w:World) (h:Rep H (dFm .u8 awf1) cs) (hA:Agr H w):Calls prg 19 #[.agg cs.toArray] w λr w'=>r=.returned (strV awk1)/\Ext w w':=by
 have h1:=fText_any H GL G gq awf1 (by decide +kernel) cs w h hA;rw [awk1_txt] at h1;exact h1
theorem awake_any (H:Hp) (GL:Gl H) (G:Gf H) (gq:Gq H) (w:World) (hA:Agr H w):Calls prg 13 #[] w λr w'=>r=.returned (.bool true)/\Ext w w':=by
 refine Sx.enter (H:=H) func13 rfl ntmps13 rfl hA ?_;refine .sr<|.a Z Z<|.ns<|.ct (X:=List Value) Fx.call26 Z (λW s=>fparse_ok H GL G awk1 awf1 (by decide) awk1_par W s.agr) Z λx1 H1 r1 u1=>?_
 have r1f:Rep H1 (dFm .u8 (Fm.mk 13 [] [] 0 5 [] [.mk 9 [] [] 0 0 [] [.mk 7 [102,114,111,110,116] [103,101,116] 0 0 [.mk 0 [] 0 [],.mk 1 [] 7 []] [],.mk 8 [] [] 0 0 [] [.mk 6 [115,108,111,119] [] 0 0 [] []]]])) x1:=r1;obtain ⟨p1,c1,p2,c2,rfl,hs1,hs2,_,_⟩:=fm_open r1f;obtain ⟨bE,oE,cE,hpE,rE,lE,mE⟩:=hs2.elem (i:=0) (d:=dFm .u8 (Fm.mk 9 [] [] 0 0 [] [.mk 7 [102,114,111,110,116] [103,101,116] 0 0 [.mk 0 [] 0 [],.mk 1 [] 7 []] [],.mk 8 [] [] 0 0 [] [.mk 6 [115,108,111,119] [] 0 0 [] []]])) rfl;cases hpE;obtain ⟨q1,d1,q2,d2,rfl,g1,g2,_,_⟩:=fm_open rE;refine .mv Z<|.yw (.extract Z Z)<|.yw (.extract Z Z)<|.yw (.extract Z Z)<|.al Fx.zero35 Z λb1=>.sW .head Z Z Fx.size35 (Rep.one r1) Z<|.a Z Z<|.aq Z<|.sq<|.sm Z<|.yw (.cast (.neq Z Z) (congrArg Value.bool (Al_decide_eq_false (λh=>h Z))))<|.mv Z<|.gy (.move Z)<|.gy (.cast (.neq Z Z) (congrArg Value.bool (Al_decide_eq_false (λh=>h Z))))<|.yw (.pickF Z Z)<|.mv Z<|.gy (.fieldAddr Z Fx.field35_0)<|.gy (.load Z Fx.agg31 Hm Z)<|.gy (.cast (.neq Z Z) (congrArg Value.bool (Al_decide_eq_false (λh=>h Z))))<|.yw (.pickF Z Z)<|.mv Z<|.gy (.fieldAddr Z Fx.field35_4)<|.gy (.load Z Fx.agg3 Hm Z)<|.gy (.cast (.neq Z Z) (congrArg Value.bool (Al_decide_eq_false (λh=>h Z))))<|.yw (.pickF Z Z)<|.mv Z<|.gy (.fieldAddr Z Fx.field35_6)<|.gy (.load Z Fx.agg33 Hm Z)<|.gy (.lenSl Fx.sl33 Z)<|.gy (.cast (.neq Z Z) (congrArg Value.bool (Al_decide_eq_false (λh=>h Z))))<|.yw (.pickF Z Z)<|.mv Z<|.gy (.fieldAddr Z Fx.field35_6)<|.gy (.load Z Fx.agg33 Hm Z)<|.gy (.indexSl Fx.sl33 Z Z (i:=0) Z (by decide) (q:=oE+0 * 7) Z)<|.gy (.fieldAddr Z Fx.field35_0)<|.gy (.loadM Z Fx.agg31 mE (k:=0) Z Z)<|.gy (.cast (.neq Z Z) (congrArg Value.bool (Al_decide_eq_false (λh=>h Z))))<|.yw (.pickF Z Z)<|.mv Z<|.gy (.loadW Z Fx.agg35 Hm Z)<|.gy (.call (v:=strV awk1) Fx.call19 Z (λW s=>awk1_text H1 (GL.up u1.up) (G.up u1.up) (gq.up u1.up) _ W r1 s.agr))<|.gy (.cast (.neS Z Z) (congrArg Value.bool (Al_decide_eq_false (λh=>h Z))))<|.yw (.pickF Z Z)<|.nt<|.cF Z<|.sk<|.tN<|.sr<|.ct (X:=List Value) Fx.call26 Z (λW s=>fparse_ok H1 (GL.up u1.up) (G.up u1.up) awk2 awf2 (by decide) awk2_par W s.agr) Z λx2 H2 r2 u2=>?_
 have r2f:Rep H2 (dFm .u8 (Fm.mk 3 [] [] 0 0 [(Ex.mk 20 [] 0 [(Ex.mk 11 [] 0 [.mk 14 [] 0 [.mk 5 [97,46,120] 0 [],.mk 1 [] 1 []],.mk 1 [] 2 []]),.mk 4 [] 0 []])] [])) x2:=r2;obtain ⟨p3,c3,p4,c4,rfl,hs3,hs4,_,_⟩:=fm_open r2f;obtain ⟨bF,oF,cF,hpF,rF,lF,mF⟩:=hs3.elem (i:=0) (d:=dEx .u8 (Ex.mk 20 [] 0 [(Ex.mk 11 [] 0 [.mk 14 [] 0 [.mk 5 [97,46,120] 0 [],.mk 1 [] 1 []],.mk 1 [] 2 []]),.mk 4 [] 0 []])) rfl;cases hpF;obtain ⟨p5,c5,rfl,hs5,_⟩:=ex_open rF;obtain ⟨bG,oG,cG,hpG,rG,lG,mG⟩:=hs5.elem (i:=0) (d:=dEx .u8 (Ex.mk 11 [] 0 [.mk 14 [] 0 [.mk 5 [97,46,120] 0 [],.mk 1 [] 1 []],.mk 1 [] 2 []])) rfl;cases hpG;obtain ⟨p6,c6,rfl,hs6,_⟩:=ex_open rG;refine .mv Z<|.yw (.extract Z Z)<|.yw (.extract Z Z)<|.yw (.extract Z Z)<|.al Fx.zero35 Z λb4=>.sW .head Z Z Fx.size35 (Rep.one r2) Z<|.a Z Z<|.a Z Z<|.ns<|.mv Z<|.yw (.cast (.eql Z Z) (congrArg Value.bool (Al_decide_eq_true Z)))<|.mv Z<|.gy (.fieldAddr Z Fx.field35_0)<|.gy (.load Z Fx.agg31 Hm Z)<|.gy (.cast (.eql Z Z) (congrArg Value.bool (Al_decide_eq_true Z)))<|.yw (.pickT Z Z)<|.mv Z<|.gy (.fieldAddr Z Fx.field35_5)<|.gy (.load Z Fx.agg32 Hm Z)<|.gy (.lenSl Fx.sl32 Z)<|.gy (.cast (.eql Z Z) (congrArg Value.bool (Al_decide_eq_true Z)))<|.yw (.pickT Z Z)<|.mv Z<|.gy (.fieldAddr Z Fx.field35_5)<|.gy (.load Z Fx.agg32 Hm Z)<|.gy (.indexSl Fx.sl32 Z Z (i:=0) Z (by decide) (q:=oF+0 * 4) Z)<|.gy (.fieldAddr Z Fx.field76_0)<|.gy (.loadM Z Fx.agg74 mF (k:=0) Z Z)<|.gy (.cast (.eql Z Z) (congrArg Value.bool (Al_decide_eq_true Z)))<|.yw (.pickT Z Z)<|.mv Z<|.gy (.fieldAddr Z Fx.field35_5)<|.gy (.load Z Fx.agg32 Hm Z)<|.gy (.indexSl Fx.sl32 Z Z (i:=0) Z (by decide) (q:=oF+0 * 4) Z)<|.gy (.fieldAddr Z Fx.field76_3)<|.gy (.loadM Z Fx.agg32 mF (k:=3) Z Z)<|.gy (.indexSl Fx.sl32 Z Z (i:=0) Z (by decide) (q:=oG+0 * 4) Z)<|.gy (.fieldAddr Z Fx.field76_0)<|.gy (.loadM Z Fx.agg74 mG (k:=0) Z Z)<|.gy (.cast (.eql Z Z) (congrArg Value.bool (Al_decide_eq_true Z)))<|.yw (.pickT Z Z)<|.az Z<|?_
 exact y9 Z Z λW s=>⟨Z,s.ext⟩
theorem Fx.call13:callN prg 13=true:=by kernel_rfl
theorem Fx.call14:callN prg 14=true:=by kernel_rfl
theorem Fx.call21:callN prg 21=true:=by kernel_rfl
variable {N:Nat}
theorem gd_blE (hN:3<=N) (e:Ex) (h:Ex.all narrow e=true):blE N e=true:=by
 induction e using Ex.ind with | _ op nm n args ih
 rw [all_mk,narrow_mk,Al_Bool_and_eq_true,Al_decide_eq_true_eq,alls_allE,Al_List_all_eq_true] at h;exact blE_mk.2 ⟨by omega,λa ha=>ih a ha (h.2 a ha)⟩
theorem gd_blF (hN:4<=N) (f:Fm) (h:gdF f=true):blF N f=true:=by
 induction f using Fm.ind with | _ op nm fd a b ex args ih
 obtain ⟨⟨_,h1,h2,h3⟩,h4⟩:=gdF_mk.1 h;exact blF_mk.2 ⟨⟨by omega,by omega,λe he=>gd_blE (by omega) e (gdE_nar (h3 e he))⟩,λg hg=>ih g hg (h4 g hg)⟩
theorem ret_b {a b:Bool} (h:a=b):Ending.returned (.bool a)=.returned (.bool b):=by rw [h]
theorem d_op {op:UInt8} (k:Nat) {i:Int} (hk:k<256) (hi:i=(k:Int)):decide (op=UInt8.ofNat k)=decide (((op.toNat:Nat):Int)=i):=by
 subst hi;rw [Al_Bool_eq_iff_iff,Al_decide_eq_true_eq,Al_decide_eq_true_eq]
 constructor
 ·rintro rfl;rw [Al_UInt8_toNat_ofNat_of_lt' hk]
 ·intro h;exact Al_UInt8_toNat_inj.1 (by rw [Al_UInt8_toNat_ofNat_of_lt' hk];omega)
theorem d_n {n:Int64} :decide (n=0)=decide (n.toInt=0):=by
 rw [Al_Bool_eq_iff_iff,Al_decide_eq_true_eq,Al_decide_eq_true_eq];exact ⟨λh=>by rw [h];rfl,λh=>Al_Int64_toInt_inj.1 h⟩
variable {n:Nat}
theorem d_len (k:Nat) {i:Int} (hi:i=(k:Int)):decide (n=k)=decide (((n:Nat):Int)=i):=by
 subst hi;rw [Al_Bool_eq_iff_iff,Al_decide_eq_true_eq,Al_decide_eq_true_eq];omega
theorem anyI {op:UInt8} {nm:Str} {n:Int64} {args:List Ex} :anyB (.mk op nm n args)=(decide (((op.toNat:Nat):Int)=0) && decide (nm=[]) && decide (n.toInt=0) && decide (((args.length:Nat):Int)=0)):=by
 rw [<-d_op 0 (i:=0) (by decide) rfl,<-d_n,<-d_len 0 (i:=0) rfl];rfl
theorem rany_any (H:Hp) (e:Ex) (cs:List Value) (w:World) (h:Rep H (dEx .i64 e) cs) (hA:Agr H w):Calls prg 88 #[.agg cs.toArray] w λr w'=>r=.returned (.bool (anyB e))/\Ext w w':=by
 obtain ⟨op,nm,nn,args⟩:=e;obtain ⟨pp,c,rfl,hs,hnm⟩:=ex_open h;have hcap:=hs.cap;refine Sx.enter (H:=H) func88 rfl ntmps88 rfl hA ?_;refine .sr<|.bx Z Z Z λb1=>.a Z Z<|.ns<|.fA Z Fx.field83_0<|.lD Z Fx.agg3 Hm Z<|.yw (.eql Z Z)<|.mv Z<|.e2 (λh6=>?_) (λh6=>?_)
 ·refine .gy (.fieldAddr Z Fx.field83_1)<|.gy (.load Z Fx.agg9 Hm Z)<|.gy (.eqS Z Z)<|.yw (.pickT Z Z)<|.mv Z<|.e2 (λh11=>?_) (λh11=>?_)
  ·refine .gy (.fieldAddr Z Fx.field83_2)<|.gy (.load Z Fx.agg2 Hm Z)<|.gy (.eql Z Z)<|.yw (.pickT Z Z)<|.mv Z<|.e2 (λh16=>?_) (λh16=>?_)
   ·refine .gy (.fieldAddr Z Fx.field83_3)<|.gy (.load Z Fx.agg24 Hm Z)<|.gy (.lenSl Fx.sl24 Z)<|.gy (.eql Z Z)<|.yw (.pickT Z Z)<|.az Z<|?_
    refine y9 Z Z λW s=>⟨ret_b ?_,s.ext⟩
    first
     | (rw [anyI,Al_decide_eq_true h6,Al_decide_eq_true h11,Al_decide_eq_true h16];simp;done)
     | (rw [anyI,Al_decide_eq_true h6,Al_decide_eq_true h11,Al_decide_eq_false h16];simp;done)
     | (rw [anyI,Al_decide_eq_true h6,Al_decide_eq_false h11];simp;done)
     | (rw [anyI,Al_decide_eq_false h6];simp;done)
   refine .gG<|.gG<|.gG<|.gG<|.yw (.pickF Z Z)<|.az Z<|?_
   refine y9 Z Z λW s=>⟨ret_b ?_,s.ext⟩
   first
    | (rw [anyI,Al_decide_eq_true h6,Al_decide_eq_true h11,Al_decide_eq_true h16];simp;done)
    | (rw [anyI,Al_decide_eq_true h6,Al_decide_eq_true h11,Al_decide_eq_false h16];simp;done)
    | (rw [anyI,Al_decide_eq_true h6,Al_decide_eq_false h11];simp;done)
    | (rw [anyI,Al_decide_eq_false h6];simp;done)
  refine .gG<|.gG<|.gG<|.yw (.pickF Z Z)<|.mv Z<|.gG<|.gG<|.gG<|.gG<|.yw (.pickF Z Z)<|.az Z<|?_
  refine y9 Z Z λW s=>⟨ret_b ?_,s.ext⟩
  first
   | (rw [anyI,Al_decide_eq_true h6,Al_decide_eq_true h11,Al_decide_eq_true h16];simp;done)
   | (rw [anyI,Al_decide_eq_true h6,Al_decide_eq_true h11,Al_decide_eq_false h16];simp;done)
   | (rw [anyI,Al_decide_eq_true h6,Al_decide_eq_false h11];simp;done)
   | (rw [anyI,Al_decide_eq_false h6];simp;done)
 refine .gG<|.gG<|.gG<|.yw (.pickF Z Z)<|.mv Z<|.gG<|.gG<|.gG<|.yw (.pickF Z Z)<|.mv Z<|.gG<|.gG<|.gG<|.gG<|.yw (.pickF Z Z)<|.az Z<|?_
 refine y9 Z Z λW s=>⟨ret_b ?_,s.ext⟩
 first
  | (rw [anyI,Al_decide_eq_true h6,Al_decide_eq_true h11,Al_decide_eq_true h16];simp;done)
  | (rw [anyI,Al_decide_eq_true h6,Al_decide_eq_true h11,Al_decide_eq_false h16];simp;done)
  | (rw [anyI,Al_decide_eq_true h6,Al_decide_eq_false h11];simp;done)
  | (rw [anyI,Al_decide_eq_false h6];simp;done)
theorem Fx.call133:callN prg 133=true:=by kernel_rfl
def tokB (op:UInt8):Bool:=decide (op=1) || decide (op=4) || decide (op=5) || decide (op=6) || decide (op=8) || decide (op=9) || (decide (11<=op.toNat) && decide (op.toNat<=15))
theorem tokI {op:UInt8} :tokB op=(decide (((op.toNat:Nat):Int)=1) || decide (((op.toNat:Nat):Int)=4) || decide (((op.toNat:Nat):Int)=5) || decide (((op.toNat:Nat):Int)=6) || decide (((op.toNat:Nat):Int)=8) || decide (((op.toNat:Nat):Int)=9) || (decide ((11:Int)<=((op.toNat:Nat):Int)) && decide (((op.toNat:Nat):Int)<=15))):=by
 unfold tokB;rw [<-d_op 1 (i:=1) (by decide) rfl,<-d_op 4 (i:=4) (by decide) rfl,<-d_op 5 (i:=5) (by decide) rfl,<-d_op 6 (i:=6) (by decide) rfl,<-d_op 8 (i:=8) (by decide) rfl,<-d_op 9 (i:=9) (by decide) rfl,show decide ((11:Int)<=((op.toNat:Nat):Int))=decide (11<=op.toNat) from decide_eq_decide.2 (by omega),show decide (((op.toNat:Nat):Int)<=15)=decide (op.toNat<=15) from decide_eq_decide.2 (by omega)];rfl
variable {k:Nat}
theorem trmI {op:UInt8} {nm:Str} {n:Int64} :trmB op nm n k=(tokB op && decide (arR op.toNat=((k:Nat):Int)) && (decide (((op.toNat:Nat):Int)=1) || decide (n.toInt=0)) && decide (0<=n.toInt) && (decide (nm=[]) || decide (((op.toNat:Nat):Int)=5) || decide (((op.toNat:Nat):Int)=6) || decide (((op.toNat:Nat):Int)=8))):=by
 rw [<-d_op 1 (i:=1) (by decide) rfl,<-d_op 5 (i:=5) (by decide) rfl,<-d_op 6 (i:=6) (by decide) rfl,<-d_op 8 (i:=8) (by decide) rfl,<-d_n];rfl
theorem rterm_any (e:Ex):∀ (H:Hp) (cs:List Value) (w:World),Rep H (dEx .i64 e) cs->Agr H w->Calls prg 133 #[.agg cs.toArray] w λr w'=>r=.returned (.bool (termB e))/\Ext w w':=by
 induction e using Ex.ind with | _ op nm nn args ih
 intro H cs w h hA;obtain ⟨pp,c,rfl,hs,hnm⟩:=ex_open h;have hcap:=hs.cap;refine Sx.enter (H:=H) func133 rfl ntmps133 rfl hA ?_;refine .sr<|.bx Z Z Z λb1=>.aq Z<|.cu (X:=Bool) [(1,_)] ⟨Z,Jt⟩ (λz3=>[(3,.bool z3)]) (λz3=>H) (λz3=>[.box b1 [.int .i64 op.toNat,strV nm,.int .i64 nn.toInt,.slice pp args.length c] 83]) (λz3=>z3=tokB op) ?_ λz3 hC=>?_
 ·
  refine .rg<|.fA Z Fx.field83_0<|.lD Z Fx.agg3 Hm Z<|.yw (.eql Z Z)<|.mv Z<|.e2 (λh9=>?_) (λh9=>?_)
  ·exact .gG<|.gG<|.gG<|.yw (.pickT Z Z)<|.mv Z<|.gG<|.gG<|.gG<|.yw (.pickT Z Z)<|.mv Z<|.gG<|.gG<|.gG<|.yw (.pickT Z Z)<|.mv Z<|.gG<|.gG<|.gG<|.yw (.pickT Z Z)<|.mv Z<|.gG<|.gG<|.gG<|.yw (.pickT Z Z)<|.mv Z<|.gG<|.gG<|.gG<|.gG<|.gV<|.gV<|.gV<|.gG<|.yw (.pickT Z Z)<|.aq Z<|.me _ ⟨Z,Jt⟩ ⟨Z,Jt⟩ (λ_ s=>s) (by rw [tokI,Al_decide_eq_true h9];simp)
  refine .gy (.fieldAddr Z Fx.field83_0)<|.gy (.load Z Fx.agg3 Hm Z)<|.gy (.eql Z Z)<|.yw (.pickF Z Z)<|.mv Z<|.e2 (λh14=>?_) (λh14=>?_)
  ·exact .gG<|.gG<|.gG<|.yw (.pickT Z Z)<|.mv Z<|.gG<|.gG<|.gG<|.yw (.pickT Z Z)<|.mv Z<|.gG<|.gG<|.gG<|.yw (.pickT Z Z)<|.mv Z<|.gG<|.gG<|.gG<|.yw (.pickT Z Z)<|.mv Z<|.gG<|.gG<|.gG<|.gG<|.gV<|.gV<|.gV<|.gG<|.yw (.pickT Z Z)<|.aq Z<|.me _ ⟨Z,Jt⟩ ⟨Z,Jt⟩ (λ_ s=>s) (by rw [tokI,Al_decide_eq_false h9,Al_decide_eq_true h14];simp)
  refine .gy (.fieldAddr Z Fx.field83_0)<|.gy (.load Z Fx.agg3 Hm Z)<|.gy (.eql Z Z)<|.yw (.pickF Z Z)<|.mv Z<|.e2 (λh19=>?_) (λh19=>?_)
  ·exact .gG<|.gG<|.gG<|.yw (.pickT Z Z)<|.mv Z<|.gG<|.gG<|.gG<|.yw (.pickT Z Z)<|.mv Z<|.gG<|.gG<|.gG<|.yw (.pickT Z Z)<|.mv Z<|.gG<|.gG<|.gG<|.gG<|.gV<|.gV<|.gV<|.gG<|.yw (.pickT Z Z)<|.aq Z<|.me _ ⟨Z,Jt⟩ ⟨Z,Jt⟩ (λ_ s=>s) (by rw [tokI,Al_decide_eq_false h9,Al_decide_eq_false h14,Al_decide_eq_true h19];simp)
  refine .gy (.fieldAddr Z Fx.field83_0)<|.gy (.load Z Fx.agg3 Hm Z)<|.gy (.eql Z Z)<|.yw (.pickF Z Z)<|.mv Z<|.e2 (λh24=>?_) (λh24=>?_)
  ·exact .gG<|.gG<|.gG<|.yw (.pickT Z Z)<|.mv Z<|.gG<|.gG<|.gG<|.yw (.pickT Z Z)<|.mv Z<|.gG<|.gG<|.gG<|.gG<|.gV<|.gV<|.gV<|.gG<|.yw (.pickT Z Z)<|.aq Z<|.me _ ⟨Z,Jt⟩ ⟨Z,Jt⟩ (λ_ s=>s) (by rw [tokI,Al_decide_eq_false h9,Al_decide_eq_false h14,Al_decide_eq_false h19,Al_decide_eq_true h24];simp)
  refine .gy (.fieldAddr Z Fx.field83_0)<|.gy (.load Z Fx.agg3 Hm Z)<|.gy (.eql Z Z)<|.yw (.pickF Z Z)<|.mv Z<|.e2 (λh29=>?_) (λh29=>?_)
  ·exact .gG<|.gG<|.gG<|.yw (.pickT Z Z)<|.mv Z<|.gG<|.gG<|.gG<|.gG<|.gV<|.gV<|.gV<|.gG<|.yw (.pickT Z Z)<|.aq Z<|.me _ ⟨Z,Jt⟩ ⟨Z,Jt⟩ (λ_ s=>s) (by rw [tokI,Al_decide_eq_false h9,Al_decide_eq_false h14,Al_decide_eq_false h19,Al_decide_eq_false h24,Al_decide_eq_true h29];simp)
  refine .gy (.fieldAddr Z Fx.field83_0)<|.gy (.load Z Fx.agg3 Hm Z)<|.gy (.eql Z Z)<|.yw (.pickF Z Z)<|.mv Z<|.e2 (λh34=>?_) (λh34=>?_)
  ·exact .gG<|.gG<|.gG<|.gG<|.gV<|.gV<|.gV<|.gG<|.yw (.pickT Z Z)<|.aq Z<|.me _ ⟨Z,Jt⟩ ⟨Z,Jt⟩ (λ_ s=>s) (by rw [tokI,Al_decide_eq_false h9,Al_decide_eq_false h14,Al_decide_eq_false h19,Al_decide_eq_false h24,Al_decide_eq_false h29,Al_decide_eq_true h34];simp)
  refine .gy (.fieldAddr Z Fx.field83_0)<|.gy (.load Z Fx.agg3 Hm Z)<|.gy (.geq Z Z)<|.gy (.move Z)<|.e2 (λh38=>?_) (λh38=>?_)
  ·exact .gy (.fieldAddr Z Fx.field83_0)<|.gy (.load Z Fx.agg3 Hm Z)<|.gy (.leq Z Z)<|.gy (.pickT Z Z)<|.yw (.pickF Z Z)<|.aq Z<|.me _ ⟨Z,Jt⟩ ⟨Z,Jt⟩ (λ_ s=>s) (by rw [tokI,Al_decide_eq_false h9,Al_decide_eq_false h14,Al_decide_eq_false h19,Al_decide_eq_false h24,Al_decide_eq_false h29,Al_decide_eq_false h34,Al_decide_eq_true h38];simp)
  exact .gG<|.gG<|.gG<|.gy (.pickF Z Z)<|.yw (.pickF Z Z)<|.aq Z<|.me _ ⟨Z,Jt⟩ ⟨Z,Jt⟩ (λ_ s=>s) (by rw [tokI,Al_decide_eq_false h9,Al_decide_eq_false h14,Al_decide_eq_false h19,Al_decide_eq_false h24,Al_decide_eq_false h29,Al_decide_eq_false h34,Al_decide_eq_false h38];simp)
 have e3:=hC;refine .sq<|.cu (X:=Bool) [(1,_)] ⟨Z,Jt⟩ (λz9=>[(89,.bool z9)]) (λz9=>H) (λz9=>[.box b1 [.int .i64 op.toNat,strV nm,.int .i64 nn.toInt,.slice pp args.length c] 83]) (λz9=>z9=!trmB op nm nn args.length) ?_ λz9 hC=>?_
 ·
  refine .fL 45 [(0,0),(1,0),(2,0),(3,0),(4,0),(5,0),(6,0),(7,0),(8,0),(9,0),(10,0),(11,0),(12,0),(13,0),(14,0),(15,0),(16,0),(17,0),(18,0),(19,0),(20,0),(21,0),(22,0),(23,0),(24,0),(25,0),(26,0),(27,0),(28,0),(29,0),(30,0),(31,0),(32,0),(33,0),(34,0),(35,0),(36,0),(37,0),(38,0),(39,0),(40,0),(41,0),(42,0),(43,0),(44,0)]<|.mv Z<|.yw (.not Z)<|.mv Z<|.b2 (λh46=>?_) (λh46=>?_)
  ·try simp only [dt] at h46
   exact .gG<|.gG<|.gG<|.gG<|.gG<|.gG<|.gG<|.yw (.pickT Z Z)<|.mv Z<|.gG<|.gG<|.gG<|.gG<|.gV<|.gV<|.gV<|.gG<|.yw (.pickT Z Z)<|.mv Z<|.gG<|.gG<|.gG<|.yw (.pickT Z Z)<|.mv Z<|.gG<|.gG<|.gG<|.gG<|.gV<|.gV<|.gV<|.gG<|.gG<|.gV<|.gV<|.gV<|.gG<|.gG<|.gV<|.gV<|.gV<|.gG<|.fn (tl:=[_]) Z<|.yw (.pickT Z Z)<|.nt<|.me _ ⟨Z,Jt⟩ ⟨Z,Jt⟩ (λ_ s=>s) (by rw [trmI,<-e3,show z3=false by simpa using h46];rfl)
  try simp only [df] at h46
  refine .yg Z Z (.fieldAddr Z Fx.field83_0) Z<|.yg Z Z (.load Z Fx.agg3 Hm Z) Z<|.yg Z Z (.call Fx.call170 Z (λW s=>arity_any _ op.toNat W s.agr)) Z<|.yg Z Z (.fieldAddr Z Fx.field83_3) Z<|.yg Z Z (.load Z Fx.agg24 Hm Z) Z<|.yg Z Z (.lenSl Fx.sl24 Z) Z<|.yg Z Z (.neq Z Z) Z<|.yw (.pickF Z Z)<|.mv Z<|.e2 (λh55=>?_) (λh55=>?_)
  ·exact .gG<|.gG<|.gG<|.gG<|.gV<|.gV<|.gV<|.gG<|.yw (.pickT Z Z)<|.mv Z<|.gG<|.gG<|.gG<|.yw (.pickT Z Z)<|.mv Z<|.gG<|.gG<|.gG<|.gG<|.gV<|.gV<|.gV<|.gG<|.gG<|.gV<|.gV<|.gV<|.gG<|.gG<|.gV<|.gV<|.gV<|.gG<|.fn (tl:=[_]) Z<|.yw (.pickT Z Z)<|.nt<|.me _ ⟨Z,Jt⟩ ⟨Z,Jt⟩ (λ_ s=>s) (by rw [trmI,<-e3,show z3=true by simpa using h46,Al_decide_eq_false h55];simp)
  refine .yg Z Z (.fieldAddr Z Fx.field83_0) Z<|.yg Z Z (.load Z Fx.agg3 Hm Z) Z<|.yg Z Z (.neq Z Z) Z<|.yg Z Z (.move Z) Z<|.e2 (λh59=>?_) (λh59=>?_)
  ·refine .yg Z Z (.fieldAddr Z Fx.field83_2) Z<|.yg Z Z (.load Z Fx.agg2 Hm Z) Z<|.yg Z Z (.neq Z Z) Z<|.yg Z Z (.pickT Z Z) Z<|.yw (.pickF Z Z)<|.mv Z<|.e2 (λh65=>?_) (λh65=>?_)
   ·exact .gG<|.gG<|.gG<|.yw (.pickT Z Z)<|.mv Z<|.gG<|.gG<|.gG<|.gG<|.gV<|.gV<|.gV<|.gG<|.gG<|.gV<|.gV<|.gV<|.gG<|.gG<|.gV<|.gV<|.gV<|.gG<|.fn (tl:=[_]) Z<|.yw (.pickT Z Z)<|.nt<|.me _ ⟨Z,Jt⟩ ⟨Z,Jt⟩ (λ_ s=>s) (by rw [trmI,<-e3,show z3=true by simpa using h46,Al_decide_eq_true (Al_Classical_not_not.1 h55),Al_decide_eq_false h59,Al_decide_eq_false h65];simp)
   refine .yg Z Z (.fieldAddr Z Fx.field83_2) Z<|.yg Z Z (.load Z Fx.agg2 Hm Z) Z<|.yg Z Z (.lss Z Z) Z<|.yw (.pickF Z Z)<|.mv Z<|.b2 (λh70=>?_) (λh70=>?_)
   ·try simp only [dt] at h70
    exact .gG<|.gG<|.gG<|.gG<|.gV<|.gV<|.gV<|.gG<|.gG<|.gV<|.gV<|.gV<|.gG<|.gG<|.gV<|.gV<|.gV<|.gG<|.fn (tl:=[_]) Z<|.yw (.pickT Z Z)<|.nt<|.me _ ⟨Z,Jt⟩ ⟨Z,Jt⟩ (λ_ s=>s) (by rw [trmI,<-e3,show z3=true by simpa using h46,Al_decide_eq_true (Al_Classical_not_not.1 h55),Al_decide_eq_false h59,Al_decide_eq_true (Al_Classical_not_not.1 h65),Al_decide_eq_false (show ¬ 0<=nn.toInt by omega)];simp)
   try simp only [df] at h70
   refine .yg Z Z (.fieldAddr Z Fx.field83_1) Z<|.yg Z Z (.load Z Fx.agg9 Hm Z) Z<|.yg Z Z (.neS Z Z) Z<|.yg Z Z (.move Z) Z<|.b2 (λh74=>?_) (λh74=>?_)
   ·try simp only [dt] at h74
    refine .yg Z Z (.fieldAddr Z Fx.field83_0) Z<|.yg Z Z (.load Z Fx.agg3 Hm Z) Z<|.yg Z Z (.neq Z Z) Z<|.yg Z Z (.pickT Z Z) Z<|.yg Z Z (.move Z) Z<|.b2 (λh79=>?_) (λh79=>?_)
    ·try simp only [dt] at h79
     refine .yg Z Z (.fieldAddr Z Fx.field83_0) Z<|.yg Z Z (.load Z Fx.agg3 Hm Z) Z<|.yg Z Z (.neq Z Z) Z<|.yg Z Z (.pickT Z Z) Z<|.yg Z Z (.move Z) Z<|.b2 (λh84=>?_) (λh84=>?_)
     ·try simp only [dt] at h84
      exact .yg Z Z (.fieldAddr Z Fx.field83_0) Z<|.yg Z Z (.load Z Fx.agg3 Hm Z) Z<|.yg Z Z (.neq Z Z) Z<|.yg Z Z (.pickT Z Z) Z<|.fn (tl:=[_]) Z<|.yw (.pickF Z Z)<|.nt<|.me _ ⟨Z,Jt⟩ ⟨Z,Jt⟩ (λ_ s=>s) (by rw [trmI,<-e3,show z3=true by simpa using h46,Al_decide_eq_true (Al_Classical_not_not.1 h55),Al_decide_eq_false h59,Al_decide_eq_true (Al_Classical_not_not.1 h65),Al_decide_eq_true (show 0<=nn.toInt by omega),Al_decide_eq_false h74,Al_decide_eq_false h79,Al_decide_eq_false h84];simp)
     try simp only [df] at h84
     exact .gG<|.gG<|.gG<|.yg Z Z (.pickF Z Z) Z<|.fn (tl:=[_]) Z<|.yw (.pickF Z Z)<|.nt<|.me _ ⟨Z,Jt⟩ ⟨Z,Jt⟩ (λ_ s=>s) (by rw [trmI,<-e3,show z3=true by simpa using h46,Al_decide_eq_true (Al_Classical_not_not.1 h55),Al_decide_eq_false h59,Al_decide_eq_true (Al_Classical_not_not.1 h65),Al_decide_eq_true (show 0<=nn.toInt by omega),Al_decide_eq_false h74,Al_decide_eq_false h79,Al_decide_eq_true (Al_Classical_not_not.1 h84)];simp)
    try simp only [df] at h79
    exact .gG<|.gG<|.gG<|.yg Z Z (.pickF Z Z) Z<|.yg Z Z (.move Z) Z<|.gG<|.gG<|.gG<|.yg Z Z (.pickF Z Z) Z<|.fn (tl:=[_]) Z<|.yw (.pickF Z Z)<|.nt<|.me _ ⟨Z,Jt⟩ ⟨Z,Jt⟩ (λ_ s=>s) (by rw [trmI,<-e3,show z3=true by simpa using h46,Al_decide_eq_true (Al_Classical_not_not.1 h55),Al_decide_eq_false h59,Al_decide_eq_true (Al_Classical_not_not.1 h65),Al_decide_eq_true (show 0<=nn.toInt by omega),Al_decide_eq_false h74,Al_decide_eq_true (Al_Classical_not_not.1 h79)];simp)
   try simp only [df] at h74
   exact .gG<|.gG<|.gG<|.yg Z Z (.pickF Z Z) Z<|.yg Z Z (.move Z) Z<|.gG<|.gG<|.gG<|.yg Z Z (.pickF Z Z) Z<|.yg Z Z (.move Z) Z<|.gG<|.gG<|.gG<|.yg Z Z (.pickF Z Z) Z<|.fn (tl:=[_]) Z<|.yw (.pickF Z Z)<|.nt<|.me _ ⟨Z,Jt⟩ ⟨Z,Jt⟩ (λ_ s=>s) (by rw [trmI,<-e3,show z3=true by simpa using h46,Al_decide_eq_true (Al_Classical_not_not.1 h55),Al_decide_eq_false h59,Al_decide_eq_true (Al_Classical_not_not.1 h65),Al_decide_eq_true (show 0<=nn.toInt by omega),Al_decide_eq_true (Al_Classical_not_not.1 h74)];simp)
  refine .gG<|.gG<|.gG<|.yg Z Z (.pickF Z Z) Z<|.yw (.pickF Z Z)<|.mv Z<|.yg Z Z (.fieldAddr Z Fx.field83_2) Z<|.yg Z Z (.load Z Fx.agg2 Hm Z) Z<|.yg Z Z (.lss Z Z) Z<|.yw (.pickF Z Z)<|.mv Z<|.b2 (λh70=>?_) (λh70=>?_)
  ·try simp only [dt] at h70
   exact .gG<|.gG<|.gG<|.gG<|.gV<|.gV<|.gV<|.gG<|.gG<|.gV<|.gV<|.gV<|.gG<|.gG<|.gV<|.gV<|.gV<|.gG<|.fn (tl:=[_]) Z<|.yw (.pickT Z Z)<|.nt<|.me _ ⟨Z,Jt⟩ ⟨Z,Jt⟩ (λ_ s=>s) (by rw [trmI,<-e3,show z3=true by simpa using h46,Al_decide_eq_true (Al_Classical_not_not.1 h55),Al_decide_eq_true (Al_Classical_not_not.1 h59),Al_decide_eq_false (show ¬ 0<=nn.toInt by omega)];simp)
  try simp only [df] at h70
  refine .yg Z Z (.fieldAddr Z Fx.field83_1) Z<|.yg Z Z (.load Z Fx.agg9 Hm Z) Z<|.yg Z Z (.neS Z Z) Z<|.yg Z Z (.move Z) Z<|.b2 (λh74=>?_) (λh74=>?_)
  ·try simp only [dt] at h74
   refine .yg Z Z (.fieldAddr Z Fx.field83_0) Z<|.yg Z Z (.load Z Fx.agg3 Hm Z) Z<|.yg Z Z (.neq Z Z) Z<|.yg Z Z (.pickT Z Z) Z<|.yg Z Z (.move Z) Z<|.b2 (λh79=>?_) (λh79=>?_)
   ·try simp only [dt] at h79
    refine .yg Z Z (.fieldAddr Z Fx.field83_0) Z<|.yg Z Z (.load Z Fx.agg3 Hm Z) Z<|.yg Z Z (.neq Z Z) Z<|.yg Z Z (.pickT Z Z) Z<|.yg Z Z (.move Z) Z<|.b2 (λh84=>?_) (λh84=>?_)
    ·try simp only [dt] at h84
     exact .yg Z Z (.fieldAddr Z Fx.field83_0) Z<|.yg Z Z (.load Z Fx.agg3 Hm Z) Z<|.yg Z Z (.neq Z Z) Z<|.yg Z Z (.pickT Z Z) Z<|.fn (tl:=[_]) Z<|.yw (.pickF Z Z)<|.nt<|.me _ ⟨Z,Jt⟩ ⟨Z,Jt⟩ (λ_ s=>s) (by rw [trmI,<-e3,show z3=true by simpa using h46,Al_decide_eq_true (Al_Classical_not_not.1 h55),Al_decide_eq_true (Al_Classical_not_not.1 h59),Al_decide_eq_true (show 0<=nn.toInt by omega),Al_decide_eq_false h74,Al_decide_eq_false h79,Al_decide_eq_false h84];simp)
    try simp only [df] at h84
    exact .gG<|.gG<|.gG<|.yg Z Z (.pickF Z Z) Z<|.fn (tl:=[_]) Z<|.yw (.pickF Z Z)<|.nt<|.me _ ⟨Z,Jt⟩ ⟨Z,Jt⟩ (λ_ s=>s) (by rw [trmI,<-e3,show z3=true by simpa using h46,Al_decide_eq_true (Al_Classical_not_not.1 h55),Al_decide_eq_true (Al_Classical_not_not.1 h59),Al_decide_eq_true (show 0<=nn.toInt by omega),Al_decide_eq_false h74,Al_decide_eq_false h79,Al_decide_eq_true (Al_Classical_not_not.1 h84)];simp)
   try simp only [df] at h79
   exact .gG<|.gG<|.gG<|.yg Z Z (.pickF Z Z) Z<|.yg Z Z (.move Z) Z<|.gG<|.gG<|.gG<|.yg Z Z (.pickF Z Z) Z<|.fn (tl:=[_]) Z<|.yw (.pickF Z Z)<|.nt<|.me _ ⟨Z,Jt⟩ ⟨Z,Jt⟩ (λ_ s=>s) (by rw [trmI,<-e3,show z3=true by simpa using h46,Al_decide_eq_true (Al_Classical_not_not.1 h55),Al_decide_eq_true (Al_Classical_not_not.1 h59),Al_decide_eq_true (show 0<=nn.toInt by omega),Al_decide_eq_false h74,Al_decide_eq_true (Al_Classical_not_not.1 h79)];simp)
  try simp only [df] at h74
  exact .gG<|.gG<|.gG<|.yg Z Z (.pickF Z Z) Z<|.yg Z Z (.move Z) Z<|.gG<|.gG<|.gG<|.yg Z Z (.pickF Z Z) Z<|.yg Z Z (.move Z) Z<|.gG<|.gG<|.gG<|.yg Z Z (.pickF Z Z) Z<|.fn (tl:=[_]) Z<|.yw (.pickF Z Z)<|.nt<|.me _ ⟨Z,Jt⟩ ⟨Z,Jt⟩ (λ_ s=>s) (by rw [trmI,<-e3,show z3=true by simpa using h46,Al_decide_eq_true (Al_Classical_not_not.1 h55),Al_decide_eq_true (Al_Classical_not_not.1 h59),Al_decide_eq_true (show 0<=nn.toInt by omega),Al_decide_eq_true (Al_Classical_not_not.1 h74)];simp)
 have e9:=hC;refine .cd Z (λh89=>?_) (λh89=>?_)
 ·have ht:trmB op nm nn args.length=false:=by rw [h89] at e9;simpa using e9.symm
  refine .sr<|.az Z<|.tR<|?_
  refine y9 Z Z λW s=>⟨ret_b ?_,s.ext⟩
  first
   | (rw [term_rec,ht];rfl;done)
   | (rw [term_rec,ht,hal];rfl;done)
   | (rw [term_rec,all_at hk (by simpa using h99)];simp;done)
 have ht:trmB op nm nn args.length=true:=by rw [h89] at e9;simpa using e9.symm
 refine .sk<|.tN<|.sq<|.sr<|.fA Z Fx.field83_3<|.lD Z Fx.agg24 Hm Z<|.yw (.lenSl Fx.sl24 Z)<|.mv Z<|.nt<|.bk<|.lp (X:=Nat) [(91,_),(92,_)] ⟨Z,Z,Jt⟩ [_] (λk=>[(93,iN k)]) (λk=>H) (λk=>[]) (λk=>k<=args.length/\(args.take k).all termB=true) (λk=>args.length - k) 0 (λ_ s=>s) ⟨Z,Jt⟩ ⟨Al_Nat_zero_le _,Z⟩ λk hC=>?_
 obtain ⟨hk0,hal⟩:=hC;refine .sr<|.yw (.lss Z Z)<|.nt<|.sq<|.ce Z (λh94=>?_) (λh94=>?_)
 ·have hk:k<args.length:=by omega
  obtain ⟨bE,oE,cE,hpE,rE,lE,mE⟩:=hs.elem (map_at (f:=dEx .i64) hk);cases hpE;refine .sk<|.tN<|.sq<|.bk<|.sr<|.yw (.indexSl Fx.sl24 Z Z Z (by omega) (q:=oE+k * 4) Z)<|.yw (.loadMW Z Fx.agg83 mE lE)<|.al Fx.zero83 Z λb5=>.sV .head Z Z Fx.size83 lE rE.one Z<|.ns<|.yw (.loadW Z Fx.agg83 Hm lE)<|.yw (.call Fx.call133 Z (λW s=>ih _ (Al_List_getElem_mem hk) H cE W rE s.agr))<|.yw (.not Z)<|.nt<|.cd Z (λh99=>?_) (λh99=>?_)
  ·refine .sr<|.az Z<|.bR<|.tR<|.tR<|.bR<|.tR<|?_
   refine y9 Z Z λW s=>⟨ret_b ?_,s.ext⟩
   first
    | (rw [term_rec,ht];rfl;done)
    | (rw [term_rec,ht,hal];rfl;done)
    | (rw [term_rec,all_at hk (by simpa using h99)];simp;done)
  exact .sk<|.bN<|.tN<|.rg<|.yw (.add Z Z w7)<|.mv Z<|.nt<|.ag (k+1) ⟨Z,Jt⟩ ⟨Z,Z,Jt⟩ (λ_ s=>s.pick [1] [_] Z Z) ⟨by omega,all_take hk hal (by simpa using h99)⟩ (by omega)
 obtain rfl:k=args.length:=by omega
 rw [Al_List_take_length] at hal;refine .ex<|.eb<|.sr<|.az Z<|?_
 refine y9 Z Z λW s=>⟨ret_b ?_,s.ext⟩
 first
  | (rw [term_rec,ht];rfl;done)
  | (rw [term_rec,ht,hal];rfl;done)
  | (rw [term_rec,all_at hk (by simpa using h99)];simp;done)
theorem Fx.call88:callN prg 88=true:=by kernel_rfl
theorem wn_all (op:UInt8):(fsOf op).wn=decide (op=13\/op=14\/op=15):=op_cases (q:=λop=>(fsOf op).wn=decide (op=13\/op=14\/op=15)) (by decide +kernel) op
theorem am_all (op:UInt8):(fsOf op).am=decide (op=16\/op=17\/op=18):=op_cases (q:=λop=>(fsOf op).am=decide (op=16\/op=17\/op=18)) (by decide +kernel) op
theorem wn_t {op:UInt8} (h:(op=13\/op=14\/op=15)):(fsOf op).wn=true:=by rw [wn_all,Al_decide_eq_true h]
theorem wn_f {op:UInt8} (h:¬ (op=13\/op=14\/op=15)):(fsOf op).wn=false:=by rw [wn_all,Al_decide_eq_false h]
theorem am_t {op:UInt8} (h:(op=16\/op=17\/op=18)):(fsOf op).am=true:=by rw [am_all,Al_decide_eq_true h]
theorem am_f {op:UInt8} (h:¬ (op=16\/op=17\/op=18)):(fsOf op).am=false:=by rw [am_all,Al_decide_eq_false h]
theorem rbounds_any (H:Hp) (f:Fm) (cs:List Value) (w:World) (h:Rep H (dFm .i64 f) cs) (hA:Agr H w):Calls prg 86 #[.agg cs.toArray] w λr w'=>r=.returned (.bool (bndB f))/\Ext w w':=by
 obtain ⟨op,nm,fd,a,b,ex,args⟩:=f;obtain ⟨p1,c1,p2,c2,rfl,hs1,hs2,hnm,hfd⟩:=fm_open h;have hcap1:=hs1.cap;have hcap2:=hs2.cap;refine Sx.enter (H:=H) func86 rfl ntmps86 rfl hA ?_;refine .sr<|.bx Z Z Z λb1=>.aq Z<|.sq<|.sr<|.fA Z Fx.field27_0<|.lD Z Fx.agg3 Hm Z<|.nt<|.bk<|.cu (X:=Bool) [(1,_),(4,_)] ⟨Z,Z,Jt⟩ (λz=>[(5,.bool z)]) (λz=>H) (λz=>[.box b1 [.int .i64 op.toNat,strV nm,strV fd,.int .i64 a.toInt,.int .i64 b.toInt,.slice p1 ex.length c1,.slice p2 args.length c2] 27]) (λz=>z=decide (op=13\/op=14\/op=15)) ?_ λz hC=>?_
 ·
  refine .sr<|.yw (.eql Z Z)<|.aq Z<|.cr Z (λh5=>?_) (λh5=>?_)
  ·have qw:op=13:=Al_UInt8_toNat_inj.1 (by have:=Al_of_decide_eq_true h5;show op.toNat=13;omega);exact .sk<|.tN<|.me _ ⟨Z,Jt⟩ ⟨Z,Z,Jt⟩ (λ_ s=>s) (by first | (rw [qw];rfl) | (simp only [qw13,qw14,false_or];exact k8 (m:=15) (by decide)))
  have qw13:¬ op=13:=λe=>Al_of_decide_eq_false h5 (by rw [e];rfl);refine .sr<|.yw (.eql Z Z)<|.aq Z<|.cr Z (λh5=>?_) (λh5=>?_)
  ·have qw:op=14:=Al_UInt8_toNat_inj.1 (by have:=Al_of_decide_eq_true h5;show op.toNat=14;omega);exact .sk<|.tN<|.me _ ⟨Z,Jt⟩ ⟨Z,Z,Jt⟩ (λ_ s=>s) (by first | (rw [qw];rfl) | (simp only [qw13,qw14,false_or];exact k8 (m:=15) (by decide)))
  have qw14:¬ op=14:=λe=>Al_of_decide_eq_false h5 (by rw [e];rfl);exact .rg<|.yw (.eql Z Z)<|.aq Z<|.me _ ⟨Z,Jt⟩ ⟨Z,Z,Jt⟩ (λ_ s=>s) (by first | (rw [qw];rfl) | (simp only [qw13,qw14,false_or];exact k8 (m:=15) (by decide)))
 have eqW:=hC;refine .cr Z (λh5=>?_) (λh5=>?_)
 ·have qW:(op=13\/op=14\/op=15):=by rw [h5] at eqW;exact Al_of_decide_eq_true eqW.symm

  refine .sr<|.fA Z Fx.field27_3<|.lD Z Fx.agg3 Hm Z<|.yw (.eql Z Z)<|.mv Z<|.e2 (λh12=>?_) (λh12=>?_)
  ·refine .gy (.fieldAddr Z Fx.field27_4)<|.gy (.load Z Fx.agg3 Hm Z)<|.gy (.eql Z Z)<|.yw (.pickT Z Z)<|.mv Z<|.e2 (λh17=>?_) (λh17=>?_)
   ·refine .gG<|.gG<|.gG<|.gG<|.gV<|.gV<|.gV<|.gV<|.gV<|.gG<|.gG<|.gV<|.gV<|.gV<|.gG<|.yw (.pickT Z Z)<|.az Z<|.bR<|.tR<|?_
    refine y9 Z Z λW s=>⟨ret_b ?_,s.ext⟩
    first
     | (rw [bnd_w (wn_t qW),Al_Bool_eq_iff_iff];(try simp only [Al_Bool_or_eq_true,Al_Bool_and_eq_true,Al_decide_eq_true_eq,reduceCtorEq,Al_true_iff,Al_false_iff,Al_iff_true,Al_iff_false,Al_Bool_true_eq_false,Al_Bool_false_eq_true]);omega;done)
     | (rw [bnd_a (wn_f qW) (am_t qA),Al_Bool_eq_iff_iff];(try simp only [Al_Bool_or_eq_true,Al_Bool_and_eq_true,Al_decide_eq_true_eq,reduceCtorEq,Al_true_iff,Al_false_iff,Al_iff_true,Al_iff_false,Al_Bool_true_eq_false,Al_Bool_false_eq_true]);omega;done)
     | (rw [bnd_n (wn_f qW) (am_f qA),Al_Bool_eq_iff_iff];(try simp only [Al_Bool_or_eq_true,Al_Bool_and_eq_true,Al_decide_eq_true_eq,reduceCtorEq,Al_true_iff,Al_false_iff,Al_iff_true,Al_iff_false,Al_Bool_true_eq_false,Al_Bool_false_eq_true]);omega;done)
   refine .gy (.fieldAddr Z Fx.field27_3)<|.gy (.load Z Fx.agg3 Hm Z)<|.gy (.geq Z Z)<|.gy (.move Z)<|.b2 (λh21=>?_) (λh21=>?_)
   ·try simp only [dt] at h21
    refine .gy (.fieldAddr Z Fx.field27_3)<|.gy (.load Z Fx.agg3 Hm Z)<|.gy (.fieldAddr Z Fx.field27_4)<|.gy (.load Z Fx.agg3 Hm Z)<|.gy (.leq Z Z)<|.gy (.pickT Z Z)<|.gy (.move Z)<|.b2 (λh28=>?_) (λh28=>?_)
    ·try simp only [dt] at h28
     refine .gy (.fieldAddr Z Fx.field27_4)<|.gy (.load Z Fx.agg3 Hm Z)<|.gy (.leq Z Z)<|.gy (.pickT Z Z)<|.yw (.pickF Z Z)<|.az Z<|.bR<|.tR<|?_
     refine y9 Z Z λW s=>⟨ret_b ?_,s.ext⟩
     first
      | (rw [bnd_w (wn_t qW),Al_Bool_eq_iff_iff];(try simp only [Al_Bool_or_eq_true,Al_Bool_and_eq_true,Al_decide_eq_true_eq,reduceCtorEq,Al_true_iff,Al_false_iff,Al_iff_true,Al_iff_false,Al_Bool_true_eq_false,Al_Bool_false_eq_true]);omega;done)
      | (rw [bnd_a (wn_f qW) (am_t qA),Al_Bool_eq_iff_iff];(try simp only [Al_Bool_or_eq_true,Al_Bool_and_eq_true,Al_decide_eq_true_eq,reduceCtorEq,Al_true_iff,Al_false_iff,Al_iff_true,Al_iff_false,Al_Bool_true_eq_false,Al_Bool_false_eq_true]);omega;done)
      | (rw [bnd_n (wn_f qW) (am_f qA),Al_Bool_eq_iff_iff];(try simp only [Al_Bool_or_eq_true,Al_Bool_and_eq_true,Al_decide_eq_true_eq,reduceCtorEq,Al_true_iff,Al_false_iff,Al_iff_true,Al_iff_false,Al_Bool_true_eq_false,Al_Bool_false_eq_true]);omega;done)
    try simp only [df] at h28
    refine .gG<|.gG<|.gG<|.gy (.pickF Z Z)<|.yw (.pickF Z Z)<|.az Z<|.bR<|.tR<|?_
    refine y9 Z Z λW s=>⟨ret_b ?_,s.ext⟩
    first
     | (rw [bnd_w (wn_t qW),Al_Bool_eq_iff_iff];(try simp only [Al_Bool_or_eq_true,Al_Bool_and_eq_true,Al_decide_eq_true_eq,reduceCtorEq,Al_true_iff,Al_false_iff,Al_iff_true,Al_iff_false,Al_Bool_true_eq_false,Al_Bool_false_eq_true]);omega;done)
     | (rw [bnd_a (wn_f qW) (am_t qA),Al_Bool_eq_iff_iff];(try simp only [Al_Bool_or_eq_true,Al_Bool_and_eq_true,Al_decide_eq_true_eq,reduceCtorEq,Al_true_iff,Al_false_iff,Al_iff_true,Al_iff_false,Al_Bool_true_eq_false,Al_Bool_false_eq_true]);omega;done)
     | (rw [bnd_n (wn_f qW) (am_f qA),Al_Bool_eq_iff_iff];(try simp only [Al_Bool_or_eq_true,Al_Bool_and_eq_true,Al_decide_eq_true_eq,reduceCtorEq,Al_true_iff,Al_false_iff,Al_iff_true,Al_iff_false,Al_Bool_true_eq_false,Al_Bool_false_eq_true]);omega;done)
   try simp only [df] at h21
   refine .gG<|.gG<|.gG<|.gG<|.gG<|.gy (.pickF Z Z)<|.gy (.move Z)<|.gG<|.gG<|.gG<|.gy (.pickF Z Z)<|.yw (.pickF Z Z)<|.az Z<|.bR<|.tR<|?_
   refine y9 Z Z λW s=>⟨ret_b ?_,s.ext⟩
   first
    | (rw [bnd_w (wn_t qW),Al_Bool_eq_iff_iff];(try simp only [Al_Bool_or_eq_true,Al_Bool_and_eq_true,Al_decide_eq_true_eq,reduceCtorEq,Al_true_iff,Al_false_iff,Al_iff_true,Al_iff_false,Al_Bool_true_eq_false,Al_Bool_false_eq_true]);omega;done)
    | (rw [bnd_a (wn_f qW) (am_t qA),Al_Bool_eq_iff_iff];(try simp only [Al_Bool_or_eq_true,Al_Bool_and_eq_true,Al_decide_eq_true_eq,reduceCtorEq,Al_true_iff,Al_false_iff,Al_iff_true,Al_iff_false,Al_Bool_true_eq_false,Al_Bool_false_eq_true]);omega;done)
    | (rw [bnd_n (wn_f qW) (am_f qA),Al_Bool_eq_iff_iff];(try simp only [Al_Bool_or_eq_true,Al_Bool_and_eq_true,Al_decide_eq_true_eq,reduceCtorEq,Al_true_iff,Al_false_iff,Al_iff_true,Al_iff_false,Al_Bool_true_eq_false,Al_Bool_false_eq_true]);omega;done)
  refine .gG<|.gG<|.gG<|.yw (.pickF Z Z)<|.mv Z<|.gy (.fieldAddr Z Fx.field27_3)<|.gy (.load Z Fx.agg3 Hm Z)<|.gy (.geq Z Z)<|.gy (.move Z)<|.b2 (λh21=>?_) (λh21=>?_)
  ·try simp only [dt] at h21
   refine .gy (.fieldAddr Z Fx.field27_3)<|.gy (.load Z Fx.agg3 Hm Z)<|.gy (.fieldAddr Z Fx.field27_4)<|.gy (.load Z Fx.agg3 Hm Z)<|.gy (.leq Z Z)<|.gy (.pickT Z Z)<|.gy (.move Z)<|.b2 (λh28=>?_) (λh28=>?_)
   ·try simp only [dt] at h28
    refine .gy (.fieldAddr Z Fx.field27_4)<|.gy (.load Z Fx.agg3 Hm Z)<|.gy (.leq Z Z)<|.gy (.pickT Z Z)<|.yw (.pickF Z Z)<|.az Z<|.bR<|.tR<|?_
    refine y9 Z Z λW s=>⟨ret_b ?_,s.ext⟩
    first
     | (rw [bnd_w (wn_t qW),Al_Bool_eq_iff_iff];(try simp only [Al_Bool_or_eq_true,Al_Bool_and_eq_true,Al_decide_eq_true_eq,reduceCtorEq,Al_true_iff,Al_false_iff,Al_iff_true,Al_iff_false,Al_Bool_true_eq_false,Al_Bool_false_eq_true]);omega;done)
     | (rw [bnd_a (wn_f qW) (am_t qA),Al_Bool_eq_iff_iff];(try simp only [Al_Bool_or_eq_true,Al_Bool_and_eq_true,Al_decide_eq_true_eq,reduceCtorEq,Al_true_iff,Al_false_iff,Al_iff_true,Al_iff_false,Al_Bool_true_eq_false,Al_Bool_false_eq_true]);omega;done)
     | (rw [bnd_n (wn_f qW) (am_f qA),Al_Bool_eq_iff_iff];(try simp only [Al_Bool_or_eq_true,Al_Bool_and_eq_true,Al_decide_eq_true_eq,reduceCtorEq,Al_true_iff,Al_false_iff,Al_iff_true,Al_iff_false,Al_Bool_true_eq_false,Al_Bool_false_eq_true]);omega;done)
   try simp only [df] at h28
   refine .gG<|.gG<|.gG<|.gy (.pickF Z Z)<|.yw (.pickF Z Z)<|.az Z<|.bR<|.tR<|?_
   refine y9 Z Z λW s=>⟨ret_b ?_,s.ext⟩
   first
    | (rw [bnd_w (wn_t qW),Al_Bool_eq_iff_iff];(try simp only [Al_Bool_or_eq_true,Al_Bool_and_eq_true,Al_decide_eq_true_eq,reduceCtorEq,Al_true_iff,Al_false_iff,Al_iff_true,Al_iff_false,Al_Bool_true_eq_false,Al_Bool_false_eq_true]);omega;done)
    | (rw [bnd_a (wn_f qW) (am_t qA),Al_Bool_eq_iff_iff];(try simp only [Al_Bool_or_eq_true,Al_Bool_and_eq_true,Al_decide_eq_true_eq,reduceCtorEq,Al_true_iff,Al_false_iff,Al_iff_true,Al_iff_false,Al_Bool_true_eq_false,Al_Bool_false_eq_true]);omega;done)
    | (rw [bnd_n (wn_f qW) (am_f qA),Al_Bool_eq_iff_iff];(try simp only [Al_Bool_or_eq_true,Al_Bool_and_eq_true,Al_decide_eq_true_eq,reduceCtorEq,Al_true_iff,Al_false_iff,Al_iff_true,Al_iff_false,Al_Bool_true_eq_false,Al_Bool_false_eq_true]);omega;done)
  try simp only [df] at h21
  refine .gG<|.gG<|.gG<|.gG<|.gG<|.gy (.pickF Z Z)<|.gy (.move Z)<|.gG<|.gG<|.gG<|.gy (.pickF Z Z)<|.yw (.pickF Z Z)<|.az Z<|.bR<|.tR<|?_
  refine y9 Z Z λW s=>⟨ret_b ?_,s.ext⟩
  first
   | (rw [bnd_w (wn_t qW),Al_Bool_eq_iff_iff];(try simp only [Al_Bool_or_eq_true,Al_Bool_and_eq_true,Al_decide_eq_true_eq,reduceCtorEq,Al_true_iff,Al_false_iff,Al_iff_true,Al_iff_false,Al_Bool_true_eq_false,Al_Bool_false_eq_true]);omega;done)
   | (rw [bnd_a (wn_f qW) (am_t qA),Al_Bool_eq_iff_iff];(try simp only [Al_Bool_or_eq_true,Al_Bool_and_eq_true,Al_decide_eq_true_eq,reduceCtorEq,Al_true_iff,Al_false_iff,Al_iff_true,Al_iff_false,Al_Bool_true_eq_false,Al_Bool_false_eq_true]);omega;done)
   | (rw [bnd_n (wn_f qW) (am_f qA),Al_Bool_eq_iff_iff];(try simp only [Al_Bool_or_eq_true,Al_Bool_and_eq_true,Al_decide_eq_true_eq,reduceCtorEq,Al_true_iff,Al_false_iff,Al_iff_true,Al_iff_false,Al_Bool_true_eq_false,Al_Bool_false_eq_true]);omega;done)
 have qW:¬ (op=13\/op=14\/op=15):=by rw [h5] at eqW;exact Al_of_decide_eq_false eqW.symm
 refine .cu (X:=Bool) [(1,_)] ⟨Z,Jt⟩ (λz=>[(34,.bool z)]) (λz=>H) (λz=>[.box b1 [.int .i64 op.toNat,strV nm,strV fd,.int .i64 a.toInt,.int .i64 b.toInt,.slice p1 ex.length c1,.slice p2 args.length c2] 27]) (λz=>z=decide (op=16\/op=17\/op=18)) ?_ λz hC=>?_
 ·
  refine .sr<|.yw (.eql Z Z)<|.aq Z<|.cr Z (λh34=>?_) (λh34=>?_)
  ·have qa:op=16:=Al_UInt8_toNat_inj.1 (by have:=Al_of_decide_eq_true h34;show op.toNat=16;omega);exact .sk<|.tN<|.me _ ⟨Z,Jt⟩ ⟨Z,Jt⟩ (λ_ s=>s) (by first | (rw [qa];rfl) | (simp only [qa16,qa17,false_or];exact k8 (m:=18) (by decide)))
  have qa16:¬ op=16:=λe=>Al_of_decide_eq_false h34 (by rw [e];rfl);refine .sr<|.yw (.eql Z Z)<|.aq Z<|.cr Z (λh34=>?_) (λh34=>?_)
  ·have qa:op=17:=Al_UInt8_toNat_inj.1 (by have:=Al_of_decide_eq_true h34;show op.toNat=17;omega);exact .sk<|.tN<|.me _ ⟨Z,Jt⟩ ⟨Z,Jt⟩ (λ_ s=>s) (by first | (rw [qa];rfl) | (simp only [qa16,qa17,false_or];exact k8 (m:=18) (by decide)))
  have qa17:¬ op=17:=λe=>Al_of_decide_eq_false h34 (by rw [e];rfl);exact .rg<|.yw (.eql Z Z)<|.aq Z<|.me _ ⟨Z,Jt⟩ ⟨Z,Jt⟩ (λ_ s=>s) (by first | (rw [qa];rfl) | (simp only [qa16,qa17,false_or];exact k8 (m:=18) (by decide)))
 have eqA:=hC;refine .cr Z (λh34=>?_) (λh34=>?_)
 ·have qA:(op=16\/op=17\/op=18):=by rw [h34] at eqA;exact Al_of_decide_eq_true eqA.symm

  refine .sr<|.fA Z Fx.field27_3<|.lD Z Fx.agg3 Hm Z<|.yw (.geq Z Z)<|.mv Z<|.e2 (λh41=>?_) (λh41=>?_)
  ·refine .gy (.fieldAddr Z Fx.field27_4)<|.gy (.load Z Fx.agg3 Hm Z)<|.gy (.leq Z Z)<|.yw (.pickT Z Z)<|.mv Z<|.e2 (λh46=>?_) (λh46=>?_)
   ·refine .gy (.fieldAddr Z Fx.field27_3)<|.gy (.load Z Fx.agg3 Hm Z)<|.gy (.fieldAddr Z Fx.field27_4)<|.gy (.load Z Fx.agg3 Hm Z)<|.gy (.leq Z Z)<|.yw (.pickT Z Z)<|.mv Z<|.e2 (λh53=>?_) (λh53=>?_)
    ·refine .gy (.fieldAddr Z Fx.field27_4)<|.gy (.load Z Fx.agg3 Hm Z)<|.gy (.fieldAddr Z Fx.field27_3)<|.gy (.load Z Fx.agg3 Hm Z)<|.gy (.sub Z Z (c:=b.toInt - a.toInt) (w6 (by omega)))<|.gy (.lss Z Z)<|.yw (.pickT Z Z)<|.az Z<|.bR<|.tR<|?_
     refine y9 Z Z λW s=>⟨ret_b ?_,s.ext⟩
     first
      | (rw [bnd_w (wn_t qW),Al_Bool_eq_iff_iff];(try simp only [Al_Bool_or_eq_true,Al_Bool_and_eq_true,Al_decide_eq_true_eq,reduceCtorEq,Al_true_iff,Al_false_iff,Al_iff_true,Al_iff_false,Al_Bool_true_eq_false,Al_Bool_false_eq_true]);omega;done)
      | (rw [bnd_a (wn_f qW) (am_t qA),Al_Bool_eq_iff_iff];(try simp only [Al_Bool_or_eq_true,Al_Bool_and_eq_true,Al_decide_eq_true_eq,reduceCtorEq,Al_true_iff,Al_false_iff,Al_iff_true,Al_iff_false,Al_Bool_true_eq_false,Al_Bool_false_eq_true]);omega;done)
      | (rw [bnd_n (wn_f qW) (am_f qA),Al_Bool_eq_iff_iff];(try simp only [Al_Bool_or_eq_true,Al_Bool_and_eq_true,Al_decide_eq_true_eq,reduceCtorEq,Al_true_iff,Al_false_iff,Al_iff_true,Al_iff_false,Al_Bool_true_eq_false,Al_Bool_false_eq_true]);omega;done)
    refine .gG<|.gG<|.gG<|.gG<|.gG<|.gG<|.yw (.pickF Z Z)<|.az Z<|.bR<|.tR<|?_
    refine y9 Z Z λW s=>⟨ret_b ?_,s.ext⟩
    first
     | (rw [bnd_w (wn_t qW),Al_Bool_eq_iff_iff];(try simp only [Al_Bool_or_eq_true,Al_Bool_and_eq_true,Al_decide_eq_true_eq,reduceCtorEq,Al_true_iff,Al_false_iff,Al_iff_true,Al_iff_false,Al_Bool_true_eq_false,Al_Bool_false_eq_true]);omega;done)
     | (rw [bnd_a (wn_f qW) (am_t qA),Al_Bool_eq_iff_iff];(try simp only [Al_Bool_or_eq_true,Al_Bool_and_eq_true,Al_decide_eq_true_eq,reduceCtorEq,Al_true_iff,Al_false_iff,Al_iff_true,Al_iff_false,Al_Bool_true_eq_false,Al_Bool_false_eq_true]);omega;done)
     | (rw [bnd_n (wn_f qW) (am_f qA),Al_Bool_eq_iff_iff];(try simp only [Al_Bool_or_eq_true,Al_Bool_and_eq_true,Al_decide_eq_true_eq,reduceCtorEq,Al_true_iff,Al_false_iff,Al_iff_true,Al_iff_false,Al_Bool_true_eq_false,Al_Bool_false_eq_true]);omega;done)
   refine .gG<|.gG<|.gG<|.gG<|.gG<|.yw (.pickF Z Z)<|.mv Z<|.gG<|.gG<|.gG<|.gG<|.gG<|.gG<|.yw (.pickF Z Z)<|.az Z<|.bR<|.tR<|?_
   refine y9 Z Z λW s=>⟨ret_b ?_,s.ext⟩
   first
    | (rw [bnd_w (wn_t qW),Al_Bool_eq_iff_iff];(try simp only [Al_Bool_or_eq_true,Al_Bool_and_eq_true,Al_decide_eq_true_eq,reduceCtorEq,Al_true_iff,Al_false_iff,Al_iff_true,Al_iff_false,Al_Bool_true_eq_false,Al_Bool_false_eq_true]);omega;done)
    | (rw [bnd_a (wn_f qW) (am_t qA),Al_Bool_eq_iff_iff];(try simp only [Al_Bool_or_eq_true,Al_Bool_and_eq_true,Al_decide_eq_true_eq,reduceCtorEq,Al_true_iff,Al_false_iff,Al_iff_true,Al_iff_false,Al_Bool_true_eq_false,Al_Bool_false_eq_true]);omega;done)
    | (rw [bnd_n (wn_f qW) (am_f qA),Al_Bool_eq_iff_iff];(try simp only [Al_Bool_or_eq_true,Al_Bool_and_eq_true,Al_decide_eq_true_eq,reduceCtorEq,Al_true_iff,Al_false_iff,Al_iff_true,Al_iff_false,Al_Bool_true_eq_false,Al_Bool_false_eq_true]);omega;done)
  refine .gG<|.gG<|.gG<|.yw (.pickF Z Z)<|.mv Z<|.gG<|.gG<|.gG<|.gG<|.gG<|.yw (.pickF Z Z)<|.mv Z<|.gG<|.gG<|.gG<|.gG<|.gG<|.gG<|.yw (.pickF Z Z)<|.az Z<|.bR<|.tR<|?_
  refine y9 Z Z λW s=>⟨ret_b ?_,s.ext⟩
  first
   | (rw [bnd_w (wn_t qW),Al_Bool_eq_iff_iff];(try simp only [Al_Bool_or_eq_true,Al_Bool_and_eq_true,Al_decide_eq_true_eq,reduceCtorEq,Al_true_iff,Al_false_iff,Al_iff_true,Al_iff_false,Al_Bool_true_eq_false,Al_Bool_false_eq_true]);omega;done)
   | (rw [bnd_a (wn_f qW) (am_t qA),Al_Bool_eq_iff_iff];(try simp only [Al_Bool_or_eq_true,Al_Bool_and_eq_true,Al_decide_eq_true_eq,reduceCtorEq,Al_true_iff,Al_false_iff,Al_iff_true,Al_iff_false,Al_Bool_true_eq_false,Al_Bool_false_eq_true]);omega;done)
   | (rw [bnd_n (wn_f qW) (am_f qA),Al_Bool_eq_iff_iff];(try simp only [Al_Bool_or_eq_true,Al_Bool_and_eq_true,Al_decide_eq_true_eq,reduceCtorEq,Al_true_iff,Al_false_iff,Al_iff_true,Al_iff_false,Al_Bool_true_eq_false,Al_Bool_false_eq_true]);omega;done)
 have qA:¬ (op=16\/op=17\/op=18):=by rw [h34] at eqA;exact Al_of_decide_eq_false eqA.symm
 refine .sk<|.bN<|.tN<|.sr<|.fA Z Fx.field27_3<|.lD Z Fx.agg3 Hm Z<|.yw (.eql Z Z)<|.mv Z<|.e2 (λh64=>?_) (λh64=>?_)
 ·refine .gy (.fieldAddr Z Fx.field27_4)<|.gy (.load Z Fx.agg3 Hm Z)<|.gy (.eql Z Z)<|.yw (.pickT Z Z)<|.az Z<|?_
  refine y9 Z Z λW s=>⟨ret_b ?_,s.ext⟩
  first
   | (rw [bnd_w (wn_t qW),Al_Bool_eq_iff_iff];(try simp only [Al_Bool_or_eq_true,Al_Bool_and_eq_true,Al_decide_eq_true_eq,reduceCtorEq,Al_true_iff,Al_false_iff,Al_iff_true,Al_iff_false,Al_Bool_true_eq_false,Al_Bool_false_eq_true]);omega;done)
   | (rw [bnd_a (wn_f qW) (am_t qA),Al_Bool_eq_iff_iff];(try simp only [Al_Bool_or_eq_true,Al_Bool_and_eq_true,Al_decide_eq_true_eq,reduceCtorEq,Al_true_iff,Al_false_iff,Al_iff_true,Al_iff_false,Al_Bool_true_eq_false,Al_Bool_false_eq_true]);omega;done)
   | (rw [bnd_n (wn_f qW) (am_f qA),Al_Bool_eq_iff_iff];(try simp only [Al_Bool_or_eq_true,Al_Bool_and_eq_true,Al_decide_eq_true_eq,reduceCtorEq,Al_true_iff,Al_false_iff,Al_iff_true,Al_iff_false,Al_Bool_true_eq_false,Al_Bool_false_eq_true]);omega;done)
 refine .gG<|.gG<|.gG<|.yw (.pickF Z Z)<|.az Z<|?_
 refine y9 Z Z λW s=>⟨ret_b ?_,s.ext⟩
 first
  | (rw [bnd_w (wn_t qW),Al_Bool_eq_iff_iff];(try simp only [Al_Bool_or_eq_true,Al_Bool_and_eq_true,Al_decide_eq_true_eq,reduceCtorEq,Al_true_iff,Al_false_iff,Al_iff_true,Al_iff_false,Al_Bool_true_eq_false,Al_Bool_false_eq_true]);omega;done)
  | (rw [bnd_a (wn_f qW) (am_t qA),Al_Bool_eq_iff_iff];(try simp only [Al_Bool_or_eq_true,Al_Bool_and_eq_true,Al_decide_eq_true_eq,reduceCtorEq,Al_true_iff,Al_false_iff,Al_iff_true,Al_iff_false,Al_Bool_true_eq_false,Al_Bool_false_eq_true]);omega;done)
  | (rw [bnd_n (wn_f qW) (am_f qA),Al_Bool_eq_iff_iff];(try simp only [Al_Bool_or_eq_true,Al_Bool_and_eq_true,Al_decide_eq_true_eq,reduceCtorEq,Al_true_iff,Al_false_iff,Al_iff_true,Al_iff_false,Al_Bool_true_eq_false,Al_Bool_false_eq_true]);omega;done)
theorem ex_all (op:UInt8):(fsOf op).ex=if op=3\/op=5\/op=18 then 1 else 0:=op_cases (q:=λop=>(fsOf op).ex=if op=3\/op=5\/op=18 then 1 else 0) (by decide +kernel) op
theorem ne7 {op:UInt8} (h:op=3\/op=5\/op=18):¬ op=7:=by rcases h with rfl | rfl | rfl <;> decide
theorem cmpI {op:UInt8} {nm:Str} {n:Int64} {args:List Ex} :cmpB (.mk op nm n args)=(decide ((16:Int)<=((op.toNat:Nat):Int)) && decide (((op.toNat:Nat):Int)<=21) && decide (nm=[]) && decide (n.toInt=0) && (args.all termB && decide (((args.length:Nat):Int)=2))):=by
 rw [cmp_mk,d_n,d_len 2 (i:=2) rfl,show decide ((16:Int)<=((op.toNat:Nat):Int))=decide (16<=op.toNat) from decide_eq_decide.2 (by omega),show decide (((op.toNat:Nat):Int)<=21)=decide (op.toNat<=21) from decide_eq_decide.2 (by omega)]
theorem all2 {l:List Ex} {p:Ex->Bool} (h:l.length=2):l.all p=(p l[0] && p l[1]):=by
 match l,h with
 | [x,y],_=>simp
theorem allE_at {l:List Ex} {p:Ex->Bool} (hk:k<l.length) (hp:p l[k]=false):l.all p=false:=List.all_eq_false.2 ⟨_,Al_List_getElem_mem hk,by rw [hp];decide⟩
theorem d_le4:decide (((n:Nat):Int)<=4)=decide (n<=4):=decide_eq_decide.2 (by omega)
theorem d_0:decide (((n:Nat):Int)=0)=decide (n=0):=decide_eq_decide.2 (by omega)
theorem rexprs_any (H:Hp) (f:Fm) (cs:List Value) (w:World) (h:Rep H (dFm .i64 f) cs) (hA:Agr H w):Calls prg 85 #[.agg cs.toArray] w λr w'=>r=.returned (.bool (exsB f))/\Ext w w':=by
 obtain ⟨op,nm,fd,a,b,ex,args⟩:=f;obtain ⟨p1,c1,p2,c2,rfl,hs1,hs2,hnm,hfd⟩:=fm_open h;have hcap1:=hs1.cap;have hcap2:=hs2.cap;refine Sx.enter (H:=H) func85 rfl ntmps85 rfl hA ?_;refine .sr<|.bx Z Z Z λb1=>.aq Z<|.sq<|.sr<|.fA Z Fx.field27_0<|.lD Z Fx.agg3 Hm Z<|.nt<|.bk<|.sr<|.yw (.eql Z Z)<|.aq Z<|.cd Z (λh8=>?_) (λh8=>?_)
 ·have q3:op=3:=Al_UInt8_toNat_inj.1 (by have:=Al_of_decide_eq_true h8;show op.toNat=3;omega);refine .sq<|.sr<|.fA Z Fx.field27_5<|.lD Z Fx.agg24 Hm Z<|.yw (.lenSl Fx.sl24 Z)<|.yw (.neq Z Z)<|.nt<|.ce Z (λh13=>?_) (λh13=>?_)
  ·refine .sr<|.az Z<|.tR<|.bR<|.tR<|?_
   refine y9 Z Z λW s=>⟨ret_b ?_,s.ext⟩;rw [exsL (ne7 (.inl q3)) (show ¬ ex.length=(fsOf op).ex by rw [ex_all,Al_if_pos (.inl q3)];omega)]
  obtain ⟨e0,rfl⟩:∃ e0,ex=[e0]:=List.length_eq_one_iff.1 (by omega);obtain ⟨bX,oX,cX,hpX,rX,lX,mX⟩:=hs1.elem (i:=0) (d:=dEx .i64 e0) rfl;cases hpX;obtain ⟨op0,nm0,m0,args0⟩:=e0;obtain ⟨p0,c0,rfl,hs0,hn0⟩:=ex_open rX;have hcap0:=hs0.cap;refine .sk<|.tN<|.sr<|.fA Z Fx.field27_5<|.lD Z Fx.agg24 Hm Z<|.yw (.indexSl Fx.sl24 Z Z (i:=0) Z (Nat.succ_pos _) (q:=oX+0 * 4) Z)<|.yw (.loadMW Z Fx.agg83 mX Z)<|.al Fx.zero83 Z λb3=>.sV .head Z Z Fx.size83 Z (by simp [Value.oneCell',strV]) Z<|.ns<|.fA Z Fx.field83_0<|.lD Z Fx.agg3 Hm Z<|.yw (.geq Z Z)<|.mv Z<|.e2 (λh21=>?_) (λh21=>?_)
  ·refine .gy (.fieldAddr Z Fx.field83_0)<|.gy (.load Z Fx.agg3 Hm Z)<|.gy (.leq Z Z)<|.yw (.pickT Z Z)<|.mv Z<|.e2 (λh26=>?_) (λh26=>?_)
   ·refine .gy (.fieldAddr Z Fx.field83_1)<|.gy (.load Z Fx.agg9 Hm Z)<|.gy (.eqS Z Z)<|.yw (.pickT Z Z)<|.mv Z<|.e2 (λh31=>?_) (λh31=>?_)
    ·refine .gy (.fieldAddr Z Fx.field83_2)<|.gy (.load Z Fx.agg2 Hm Z)<|.gy (.eql Z Z)<|.yw (.pickT Z Z)<|.mv Z<|.e2 (λh36=>?_) (λh36=>?_)
     ·refine .gy (.fieldAddr Z Fx.field83_3)<|.gy (.load Z Fx.agg24 Hm Z)<|.gy (.lenSl Fx.sl24 Z)<|.gy (.eql Z Z)<|.yw (.pickT Z Z)<|.mv Z<|.e2 (λh42=>?_) (λh42=>?_)
      ·have hl2:args0.length=2:=by omega
       have h0:0<args0.length:=by omega
       have h1:1<args0.length:=by omega
       obtain ⟨bA,oA,cA,hpA,rA,lA,mA⟩:=hs0.elem (map_at (f:=dEx .i64) h0);cases hpA;obtain ⟨bB,oB,cB,hpB,rB,lB,mB⟩:=hs0.elem (map_at (f:=dEx .i64) h1);cases hpB;refine .gy (.fieldAddr Z Fx.field83_3)<|.gy (.load Z Fx.agg24 Hm Z)<|.gy (.indexSl Fx.sl24 Z Z (i:=0) Z (by omega) (q:=oA+0 * 4) Z)<|.gy (.loadMW Z Fx.agg83 mA lA)<|.gy (.call Fx.call133 Z (λW s=>rterm_any _ H _ W rA s.agr))<|.yw (.pickT Z Z)<|.mv Z<|.b2 (λh49=>?_) (λh49=>?_)
       ·try simp only [dt] at h49
        refine .gy (.fieldAddr Z Fx.field83_3)<|.gy (.load Z Fx.agg24 Hm Z)<|.gy (.indexSl Fx.sl24 Z Z (i:=1) Z (by omega) (q:=oA+1 * 4) Z)<|.gy (.loadMW Z Fx.agg83 mB lB)<|.gy (.call Fx.call133 Z (λW s=>rterm_any _ H _ W rB s.agr))<|.yw (.pickT Z Z)<|.az Z<|.bR<|.tR<|?_
        refine y9 Z Z λW s=>⟨ret_b ?_,s.ext⟩;rw [exs3 q3,cmpI,Al_decide_eq_true h21,Al_decide_eq_true h26,Al_decide_eq_true h31,Al_decide_eq_true h36,Al_decide_eq_true h42,all2 hl2,show termB args0[0]=true by simpa using h49];simp
       try simp only [df] at h49
       refine .gG<|.gG<|.gG<|.gG<|.gG<|.yw (.pickF Z Z)<|.az Z<|.bR<|.tR<|?_
       refine y9 Z Z λW s=>⟨ret_b ?_,s.ext⟩;rw [exs3 q3,cmpI,Al_decide_eq_true h21,Al_decide_eq_true h26,Al_decide_eq_true h31,Al_decide_eq_true h36,Al_decide_eq_true h42,all2 hl2,show termB args0[0]=false by simpa using h49];simp
      refine .gG<|.gG<|.gG<|.gG<|.gG<|.yw (.pickF Z Z)<|.mv Z<|.gG<|.gG<|.gG<|.gG<|.gG<|.yw (.pickF Z Z)<|.az Z<|.bR<|.tR<|?_
      refine y9 Z Z λW s=>⟨ret_b ?_,s.ext⟩;rw [exs3 q3,cmpI,Al_decide_eq_true h21,Al_decide_eq_true h26,Al_decide_eq_true h31,Al_decide_eq_true h36,Al_decide_eq_false h42];simp
     refine .gG<|.gG<|.gG<|.gG<|.yw (.pickF Z Z)<|.mv Z<|.gG<|.gG<|.gG<|.gG<|.gG<|.yw (.pickF Z Z)<|.mv Z<|.gG<|.gG<|.gG<|.gG<|.gG<|.yw (.pickF Z Z)<|.az Z<|.bR<|.tR<|?_
     refine y9 Z Z λW s=>⟨ret_b ?_,s.ext⟩;rw [exs3 q3,cmpI,Al_decide_eq_true h21,Al_decide_eq_true h26,Al_decide_eq_true h31,Al_decide_eq_false h36];simp
    refine .gG<|.gG<|.gG<|.yw (.pickF Z Z)<|.mv Z<|.gG<|.gG<|.gG<|.gG<|.yw (.pickF Z Z)<|.mv Z<|.gG<|.gG<|.gG<|.gG<|.gG<|.yw (.pickF Z Z)<|.mv Z<|.gG<|.gG<|.gG<|.gG<|.gG<|.yw (.pickF Z Z)<|.az Z<|.bR<|.tR<|?_
    refine y9 Z Z λW s=>⟨ret_b ?_,s.ext⟩;rw [exs3 q3,cmpI,Al_decide_eq_true h21,Al_decide_eq_true h26,Al_decide_eq_false h31];simp
   refine .gG<|.gG<|.gG<|.yw (.pickF Z Z)<|.mv Z<|.gG<|.gG<|.gG<|.yw (.pickF Z Z)<|.mv Z<|.gG<|.gG<|.gG<|.gG<|.yw (.pickF Z Z)<|.mv Z<|.gG<|.gG<|.gG<|.gG<|.gG<|.yw (.pickF Z Z)<|.mv Z<|.gG<|.gG<|.gG<|.gG<|.gG<|.yw (.pickF Z Z)<|.az Z<|.bR<|.tR<|?_
   refine y9 Z Z λW s=>⟨ret_b ?_,s.ext⟩;rw [exs3 q3,cmpI,Al_decide_eq_true h21,Al_decide_eq_false h26];simp
  refine .gG<|.gG<|.gG<|.yw (.pickF Z Z)<|.mv Z<|.gG<|.gG<|.gG<|.yw (.pickF Z Z)<|.mv Z<|.gG<|.gG<|.gG<|.yw (.pickF Z Z)<|.mv Z<|.gG<|.gG<|.gG<|.gG<|.yw (.pickF Z Z)<|.mv Z<|.gG<|.gG<|.gG<|.gG<|.gG<|.yw (.pickF Z Z)<|.mv Z<|.gG<|.gG<|.gG<|.gG<|.gG<|.yw (.pickF Z Z)<|.az Z<|.bR<|.tR<|?_
  refine y9 Z Z λW s=>⟨ret_b ?_,s.ext⟩;rw [exs3 q3,cmpI,Al_decide_eq_false h21];simp
 have q3:¬ op=3:=λe=>Al_of_decide_eq_false h8 (by rw [e];rfl);refine .sr<|.yw (.eql Z Z)<|.aq Z<|.cd Z (λh56=>?_) (λh56=>?_)
 ·have q5:op=5:=Al_UInt8_toNat_inj.1 (by have:=Al_of_decide_eq_true h56;show op.toNat=5;omega);refine .sr<|.fA Z Fx.field27_5<|.lD Z Fx.agg24 Hm Z<|.yw (.lenSl Fx.sl24 Z)<|.yw (.eql Z Z)<|.mv Z<|.e2 (λh62=>?_) (λh62=>?_)
  ·obtain ⟨e0,rfl⟩:∃ e0,ex=[e0]:=List.length_eq_one_iff.1 (by omega);obtain ⟨bX,oX,cX,hpX,rX,lX,mX⟩:=hs1.elem (i:=0) (d:=dEx .i64 e0) rfl;cases hpX;refine .gy (.fieldAddr Z Fx.field27_5)<|.gy (.load Z Fx.agg24 Hm Z)<|.gy (.indexSl Fx.sl24 Z Z (i:=0) Z (Nat.succ_pos _) (q:=oX+0 * 4) Z)<|.gy (.loadMW Z Fx.agg83 mX lX)<|.gy (.call Fx.call133 Z (λW s=>rterm_any _ H _ W rX s.agr))<|.yw (.pickT Z Z)<|.az Z<|.bR<|.tR<|?_
   refine y9 Z Z λW s=>⟨ret_b ?_,s.ext⟩;rw [exs5 q5]
  refine .gG<|.gG<|.gG<|.gG<|.gG<|.yw (.pickF Z Z)<|.az Z<|.bR<|.tR<|?_
  refine y9 Z Z λW s=>⟨ret_b ?_,s.ext⟩;rw [exsL (ne7 (.inr (.inl q5))) (show ¬ ex.length=(fsOf op).ex by rw [ex_all,Al_if_pos (.inr (.inl q5))];omega)]
 have q5:¬ op=5:=λe=>Al_of_decide_eq_false h56 (by rw [e];rfl);refine .sr<|.yw (.eql Z Z)<|.aq Z<|.cd Z (λh69=>?_) (λh69=>?_)
 ·have q7:op=7:=Al_UInt8_toNat_inj.1 (by have:=Al_of_decide_eq_true h69;show op.toNat=7;omega);refine .sq<|.sr<|.fA Z Fx.field27_5<|.lD Z Fx.agg24 Hm Z<|.yw (.lenSl Fx.sl24 Z)<|.mv Z<|.nt<|.bk<|.lp (X:=Nat) [(1,_),(72,_),(73,_)] ⟨Z,Z,Z,Jt⟩ [_] (λk=>[(74,iN k)]) (λk=>H) (λk=>[]) (λk=>k<=ex.length/\(ex.take k).all (λe=>anyB e || termB e)=true) (λk=>ex.length - k) 0 (λ_ s=>s) ⟨Z,Jt⟩ ⟨Al_Nat_zero_le _,Z⟩ λk hC=>?_
  obtain ⟨hk0,hal⟩:=hC;refine .sr<|.yw (.lss Z Z)<|.nt<|.sq<|.ce Z (λh75=>?_) (λh75=>?_)
  ·have hk:k<ex.length:=by omega
   obtain ⟨bE,oE,cE,hpE,rE,lE,mE⟩:=hs1.elem (map_at (f:=dEx .i64) hk);cases hpE;refine .sk<|.tN<|.sq<|.bk<|.sr<|.yw (.indexSl Fx.sl24 Z Z Z (by omega) (q:=oE+k * 4) Z)<|.yw (.loadMW Z Fx.agg83 mE lE)<|.al Fx.zero83 Z λb5=>.sV .head Z Z Fx.size83 lE rE.one Z<|.ns<|.yw (.loadW Z Fx.agg83 Hm lE)<|.yw (.call Fx.call88 Z (λW s=>rany_any H _ _ W rE s.agr))<|.yw (.not Z)<|.mv Z<|.b2 (λh81=>?_) (λh81=>?_)
   ·try simp only [dt] at h81
    refine .gy (.loadW Z Fx.agg83 Hm lE)<|.gy (.call Fx.call133 Z (λW s=>rterm_any _ H _ W rE s.agr))<|.gy (.not Z)<|.yw (.pickT Z Z)<|.nt<|.cd Z (λh85=>?_) (λh85=>?_)
    ·refine .sr<|.az Z<|.bR<|.tR<|.tR<|.bR<|.tR<|.bR<|.tR<|?_
     refine y9 Z Z λW s=>⟨ret_b ?_,s.ext⟩;rw [exs7 q7,allE_at hk (by rw [show anyB ex[k]=false by simpa using h81,show termB ex[k]=false by simpa using h85];rfl)];simp
    exact .sk<|.bN<|.tN<|.rg<|.yw (.add Z Z w7)<|.mv Z<|.nt<|.ag (k+1) ⟨Z,Jt⟩ ⟨Z,Z,Z,Jt⟩ (λ_ s=>s.pick [1] [_] Z Z) ⟨by omega,all_take hk hal (by rw [show termB ex[k]=true by simpa using h85,Bool.or_true])⟩ (by omega)
   try simp only [df] at h81
   exact .gG<|.gG<|.gG<|.yw (.pickF Z Z)<|.nt<|.cF Z<|.sk<|.bN<|.tN<|.rg<|.yw (.add Z Z w7)<|.mv Z<|.nt<|.ag (k+1) ⟨Z,Jt⟩ ⟨Z,Z,Z,Jt⟩ (λ_ s=>s.pick [1] [_] Z Z) ⟨by omega,all_take hk hal (by rw [show anyB ex[k]=true by simpa using h81];rfl)⟩ (by omega)
  obtain rfl:k=ex.length:=by omega
  rw [Al_List_take_length] at hal;refine .ex<|.eb<|.sr<|.fA Z Fx.field27_5<|.lD Z Fx.agg24 Hm Z<|.yw (.lenSl Fx.sl24 Z)<|.yw (.leq Z Z)<|.az Z<|.bR<|.tR<|?_
  refine y9 Z Z λW s=>⟨ret_b ?_,s.ext⟩;rw [exs7 q7,hal,Al_Bool_and_true];exact d_le4
 have q7:¬ op=7:=λe=>Al_of_decide_eq_false h69 (by rw [e];rfl);refine .sr<|.yw (.eql Z Z)<|.aq Z<|.cd Z (λh91=>?_) (λh91=>?_)
 ·have q18:op=18:=Al_UInt8_toNat_inj.1 (by have:=Al_of_decide_eq_true h91;show op.toNat=18;omega);refine .sr<|.fA Z Fx.field27_5<|.lD Z Fx.agg24 Hm Z<|.yw (.lenSl Fx.sl24 Z)<|.yw (.eql Z Z)<|.mv Z<|.e2 (λh97=>?_) (λh97=>?_)
  ·obtain ⟨e0,rfl⟩:∃ e0,ex=[e0]:=List.length_eq_one_iff.1 (by omega);obtain ⟨bX,oX,cX,hpX,rX,lX,mX⟩:=hs1.elem (i:=0) (d:=dEx .i64 e0) rfl;cases hpX;obtain ⟨op0,nm0,m0,args0⟩:=e0;obtain ⟨p0,c0,rfl,hs0,hn0⟩:=ex_open rX;have hcap0:=hs0.cap;refine .gy (.fieldAddr Z Fx.field27_5)<|.gy (.load Z Fx.agg24 Hm Z)<|.gy (.indexSl Fx.sl24 Z Z (i:=0) Z (Nat.succ_pos _) (q:=oX+0 * 4) Z)<|.gy (.fieldAddr Z Fx.field83_0)<|.gy (.loadM Z Fx.agg3 mX (k:=0) Z Z)<|.gy (.eql Z Z)<|.yw (.pickT Z Z)<|.mv Z<|.e2 (λh105=>?_) (λh105=>?_)
   ·refine .gy (.fieldAddr Z Fx.field27_5)<|.gy (.load Z Fx.agg24 Hm Z)<|.gy (.indexSl Fx.sl24 Z Z (i:=0) Z (Nat.succ_pos _) (q:=oX+0 * 4) Z)<|.gy (.loadMW Z Fx.agg83 mX Z)<|.gy (.call Fx.call133 Z (λW s=>rterm_any _ H _ W rX s.agr))<|.yw (.pickT Z Z)<|.mv Z<|.b2 (λh112=>?_) (λh112=>?_)
    ·try simp only [dt] at h112
     refine .gy (.fieldAddr Z Fx.field27_5)<|.gy (.load Z Fx.agg24 Hm Z)<|.gy (.indexSl Fx.sl24 Z Z (i:=0) Z (Nat.succ_pos _) (q:=oX+0 * 4) Z)<|.gy (.fieldAddr Z Fx.field83_2)<|.gy (.loadM Z Fx.agg2 mX (k:=2) Z Z)<|.gy (.leq Z Z)<|.yw (.pickT Z Z)<|.az Z<|.bR<|.tR<|?_
     refine y9 Z Z λW s=>⟨ret_b ?_,s.ext⟩;rw [exs18 q18,Al_decide_eq_true h105,show termB (.mk op0 nm0 m0 args0)=true by simpa using h112];simp
    try simp only [df] at h112
    refine .gG<|.gG<|.gG<|.gG<|.gG<|.gG<|.yw (.pickF Z Z)<|.az Z<|.bR<|.tR<|?_
    refine y9 Z Z λW s=>⟨ret_b ?_,s.ext⟩;rw [exs18 q18,Al_decide_eq_true h105,show termB (.mk op0 nm0 m0 args0)=false by simpa using h112];simp
   refine .gG<|.gG<|.gG<|.gG<|.gG<|.yw (.pickF Z Z)<|.mv Z<|.gG<|.gG<|.gG<|.gG<|.gG<|.gG<|.yw (.pickF Z Z)<|.az Z<|.bR<|.tR<|?_
   refine y9 Z Z λW s=>⟨ret_b ?_,s.ext⟩;rw [exs18 q18,Al_decide_eq_false h105];simp
  refine .gG<|.gG<|.gG<|.gG<|.gG<|.gG<|.yw (.pickF Z Z)<|.mv Z<|.gG<|.gG<|.gG<|.gG<|.gG<|.yw (.pickF Z Z)<|.mv Z<|.gG<|.gG<|.gG<|.gG<|.gG<|.gG<|.yw (.pickF Z Z)<|.az Z<|.bR<|.tR<|?_
  refine y9 Z Z λW s=>⟨ret_b ?_,s.ext⟩;rw [exsL (ne7 (.inr (.inr q18))) (show ¬ ex.length=(fsOf op).ex by rw [ex_all,Al_if_pos (.inr (.inr q18))];omega)]
 have q18:¬ op=18:=λe=>Al_of_decide_eq_false h91 (by rw [e];rfl);refine .sk<|.bN<|.tN<|.sr<|.fA Z Fx.field27_5<|.lD Z Fx.agg24 Hm Z<|.yw (.lenSl Fx.sl24 Z)<|.yw (.eql Z Z)<|.az Z<|?_
 refine y9 Z Z λW s=>⟨ret_b ?_,s.ext⟩;rw [exsQ q7,Al_if_neg q3,Al_if_neg q5,Al_if_neg q18,Al_Bool_and_true,ex_all,Al_if_neg (by rintro (h | h | h);exact q3 h;exact q5 h;exact q18 h)];exact d_0
theorem Fx.call40:callN prg 40=true:=by kernel_rfl
theorem Fx.call42:callN prg 42=true:=by kernel_rfl
theorem Fx.call85:callN prg 85=true:=by kernel_rfl
theorem Fx.call86:callN prg 86=true:=by kernel_rfl
theorem rfF_op (op:UInt8):rfF op.toNat=fdF op:=op_cases (q:=λop=>rfF op.toNat=fdF op) (by decide +kernel) op
theorem lv_op (op:UInt8) (n:Nat):(decide (¬ (fsOf op).lv=0) && decide (n=(fsOf op).ar))=decide (opI op.toNat=((n:Nat):Int)):=by
 have e:opsR op=opI op.toNat:=rfl;rw [<-e];rcases fs_ops op with ⟨h1,h2⟩ | ⟨h1,h2⟩
 ·rw [Al_decide_eq_true h1,h2,Al_Bool_true_and,decide_eq_decide];omega
 ·rw [h1,h2,Al_decide_eq_false (show ¬ (-1:Int)=(n:Nat) by omega)];rfl
variable {a:Int64}
theorem formI {op:UInt8} {nm fd:Str} {b:Int64} {ex:List Ex} {args:List Fm} :formB (.mk op nm fd a b ex args)=(decide (opI op.toNat=((args.length:Nat):Int)) && (rfN op.toNat || decide (nm=[])) && (rfF op.toNat || decide (fd=[])) && exsB (.mk op nm fd a b ex args) && bndB (.mk op nm fd a b ex args)):=by
 rw [form_mk,<-lv_op,fs_nm,fs_fd,rfF_op,show rfN op.toNat=fdN op from rfl];generalize fdN op=x1;generalize fdF op=x2;generalize decide (nm=[])=x3;generalize decide (fd=[])=x4;generalize exsB _=x5;generalize bndB _=x6;generalize decide (¬ (fsOf op).lv=0)=x7;generalize decide (args.length=(fsOf op).ar)=x8;cases x1 <;> cases x2 <;> cases x3 <;> cases x4 <;> cases x5 <;> cases x6 <;> cases x7 <;> cases x8 <;> rfl
theorem rform_any (f:Fm):∀ (H:Hp) (cs:List Value) (w:World),Rep H (dFm .i64 f) cs->Agr H w->Calls prg 42 #[.agg cs.toArray] w λr w'=>r=.returned (.bool (Fm.all formB f))/\Ext w w':=by
 induction f using Fm.ind with | _ op nm fd a b ex args ih
 intro H cs w h hA;obtain ⟨p1,c1,p2,c2,rfl,hs1,hs2,hnm,hfd⟩:=fm_open h;have hcap1:=hs1.cap;have hcap2:=hs2.cap;refine Sx.enter (H:=H) func42 rfl ntmps42 rfl hA ?_;refine .sr<|.bx Z Z Z λb1=>.a Z Z<|.ns<|.fA Z Fx.field27_0<|.lD Z Fx.agg3 Hm Z<|.yw (.call Fx.call82 Z (λW s=>fields_any H op.toNat W s.agr))<|.mv Z<|.yw (.extract Z Z)<|.yw (.extract Z Z)<|.a Z Z<|.aq Z<|.sq<|.cu (X:=Bool) [(1,_)] ⟨Z,Jt⟩ (λz9=>[(47,.bool z9)]) (λz9=>H) (λz9=>[.box b1 [.int .i64 op.toNat,strV nm,strV fd,.int .i64 a.toInt,.int .i64 b.toInt,.slice p1 ex.length c1,.slice p2 args.length c2] 27]) (λz9=>z9=!formB (.mk op nm fd a b ex args)) ?_ λz9 hC=>?_
 ·
  refine .fL 34 [(0,0),(1,0),(2,0),(3,0),(4,0),(5,0),(6,0),(7,0),(8,0),(9,0),(10,0),(11,0),(12,0),(13,0),(14,0),(15,0),(16,0),(17,0),(18,0),(19,0),(20,0),(21,0),(22,0),(23,0),(24,0),(25,0),(26,0),(27,0),(28,0),(29,0),(30,0),(31,0),(32,0),(33,0)]<|.fA Z Fx.field27_0<|.lD Z Fx.agg3 Hm Z<|.yw (.call Fx.call70 Z (λW s=>opers_any _ op.toNat W s.agr))<|.fA Z Fx.field27_6<|.lD Z Fx.agg25 Hm Z<|.yw (.lenSl Fx.sl25 Z)<|.yw (.neq Z Z)<|.mv Z<|.e2 (λh20=>?_) (λh20=>?_)
  ·exact .gG<|.gG<|.gG<|.gV<|.gV<|.gV<|.gG<|.yw (.pickT Z Z)<|.mv Z<|.gG<|.gG<|.gG<|.gV<|.gV<|.gV<|.gG<|.yw (.pickT Z Z)<|.mv Z<|.gG<|.gG<|.gG<|.yw (.pickT Z Z)<|.mv Z<|.gG<|.gG<|.gG<|.fn (tl:=[_]) Z<|.yw (.pickT Z Z)<|.nt<|.me _ ⟨Z,Jt⟩ ⟨Z,Jt⟩ (λ_ s=>s) (by rw [formI,Al_decide_eq_false h20];simp)
  refine .yg Z Z (.move Z) Z<|.yg Z Z (.not Z) Z<|.yg Z Z (.move Z) Z<|.b2 (λh23=>?_) (λh23=>?_)
  ·try simp only [dt] at h23
   refine .yg Z Z (.fieldAddr Z Fx.field27_1) Z<|.yg Z Z (.load Z Fx.agg9 Hm Z) Z<|.yg Z Z (.neS Z Z) Z<|.yg Z Z (.pickT Z Z) Z<|.yw (.pickF Z Z)<|.mv Z<|.e2 (λh29=>?_) (λh29=>?_)
   ·exact .gG<|.gG<|.gG<|.gV<|.gV<|.gV<|.gG<|.yw (.pickT Z Z)<|.mv Z<|.gG<|.gG<|.gG<|.yw (.pickT Z Z)<|.mv Z<|.gG<|.gG<|.gG<|.fn (tl:=[_]) Z<|.yw (.pickT Z Z)<|.nt<|.me _ ⟨Z,Jt⟩ ⟨Z,Jt⟩ (λ_ s=>s) (by rw [formI,Al_decide_eq_true (Al_Classical_not_not.1 h20),show rfN op.toNat=false by simpa using h23,Al_decide_eq_false h29];simp)
   refine .yg Z Z (.move Z) Z<|.yg Z Z (.not Z) Z<|.yg Z Z (.move Z) Z<|.b2 (λh32=>?_) (λh32=>?_)
   ·try simp only [dt] at h32
    refine .yg Z Z (.fieldAddr Z Fx.field27_2) Z<|.yg Z Z (.load Z Fx.agg9 Hm Z) Z<|.yg Z Z (.neS Z Z) Z<|.yg Z Z (.pickT Z Z) Z<|.yw (.pickF Z Z)<|.mv Z<|.b2 (λh38=>?_) (λh38=>?_)
    ·try simp only [dt] at h38
     exact .gG<|.gG<|.gG<|.yw (.pickT Z Z)<|.mv Z<|.gG<|.gG<|.gG<|.fn (tl:=[_]) Z<|.yw (.pickT Z Z)<|.nt<|.me _ ⟨Z,Jt⟩ ⟨Z,Jt⟩ (λ_ s=>s) (by rw [formI,Al_decide_eq_true (Al_Classical_not_not.1 h20),show rfN op.toNat=false by simpa using h23,Al_decide_eq_true (Al_Classical_not_not.1 h29),show rfF op.toNat=false by simpa using h32,Al_decide_eq_false h38];simp)
    try simp only [df] at h38
    refine .yg Z Z (.loadW Z Fx.agg27 Hm Z) Z<|.yg Z Z (.call Fx.call85 Z (λW s=>rexprs_any H (.mk op nm fd a b ex args) _ W h s.agr)) Z<|.yg Z Z (.not Z) Z<|.yw (.pickF Z Z)<|.mv Z<|.b2 (λh43=>?_) (λh43=>?_)
    ·try simp only [dt] at h43
     exact .gG<|.gG<|.gG<|.fn (tl:=[_]) Z<|.yw (.pickT Z Z)<|.nt<|.me _ ⟨Z,Jt⟩ ⟨Z,Jt⟩ (λ_ s=>s) (by rw [formI,Al_decide_eq_true (Al_Classical_not_not.1 h20),show rfN op.toNat=false by simpa using h23,Al_decide_eq_true (Al_Classical_not_not.1 h29),show rfF op.toNat=false by simpa using h32,Al_decide_eq_true (Al_Classical_not_not.1 h38),show exsB (.mk op nm fd a b ex args)=false by simpa using h43];simp)
    try simp only [df] at h43
    exact .yg Z Z (.loadW Z Fx.agg27 Hm Z) Z<|.yg Z Z (.call Fx.call86 Z (λW s=>rbounds_any H (.mk op nm fd a b ex args) _ W h s.agr)) Z<|.yg Z Z (.not Z) Z<|.fn (tl:=[_]) Z<|.yw (.pickF Z Z)<|.nt<|.me _ ⟨Z,Jt⟩ ⟨Z,Jt⟩ (λ_ s=>s) (by rw [formI,Al_decide_eq_true (Al_Classical_not_not.1 h20),show rfN op.toNat=false by simpa using h23,Al_decide_eq_true (Al_Classical_not_not.1 h29),show rfF op.toNat=false by simpa using h32,Al_decide_eq_true (Al_Classical_not_not.1 h38),show exsB (.mk op nm fd a b ex args)=true by simpa using h43];simp)
   try simp only [df] at h32
   refine .gG<|.gG<|.gG<|.yg Z Z (.pickF Z Z) Z<|.yw (.pickF Z Z)<|.mv Z<|.yg Z Z (.loadW Z Fx.agg27 Hm Z) Z<|.yg Z Z (.call Fx.call85 Z (λW s=>rexprs_any H (.mk op nm fd a b ex args) _ W h s.agr)) Z<|.yg Z Z (.not Z) Z<|.yw (.pickF Z Z)<|.mv Z<|.b2 (λh43=>?_) (λh43=>?_)
   ·try simp only [dt] at h43
    exact .gG<|.gG<|.gG<|.fn (tl:=[_]) Z<|.yw (.pickT Z Z)<|.nt<|.me _ ⟨Z,Jt⟩ ⟨Z,Jt⟩ (λ_ s=>s) (by rw [formI,Al_decide_eq_true (Al_Classical_not_not.1 h20),show rfN op.toNat=false by simpa using h23,Al_decide_eq_true (Al_Classical_not_not.1 h29),show rfF op.toNat=true by simpa using h32,show exsB (.mk op nm fd a b ex args)=false by simpa using h43];simp)
   try simp only [df] at h43
   exact .yg Z Z (.loadW Z Fx.agg27 Hm Z) Z<|.yg Z Z (.call Fx.call86 Z (λW s=>rbounds_any H (.mk op nm fd a b ex args) _ W h s.agr)) Z<|.yg Z Z (.not Z) Z<|.fn (tl:=[_]) Z<|.yw (.pickF Z Z)<|.nt<|.me _ ⟨Z,Jt⟩ ⟨Z,Jt⟩ (λ_ s=>s) (by rw [formI,Al_decide_eq_true (Al_Classical_not_not.1 h20),show rfN op.toNat=false by simpa using h23,Al_decide_eq_true (Al_Classical_not_not.1 h29),show rfF op.toNat=true by simpa using h32,show exsB (.mk op nm fd a b ex args)=true by simpa using h43];simp)
  try simp only [df] at h23
  refine .gG<|.gG<|.gG<|.yg Z Z (.pickF Z Z) Z<|.yw (.pickF Z Z)<|.mv Z<|.yg Z Z (.move Z) Z<|.yg Z Z (.not Z) Z<|.yg Z Z (.move Z) Z<|.b2 (λh32=>?_) (λh32=>?_)
  ·try simp only [dt] at h32
   refine .yg Z Z (.fieldAddr Z Fx.field27_2) Z<|.yg Z Z (.load Z Fx.agg9 Hm Z) Z<|.yg Z Z (.neS Z Z) Z<|.yg Z Z (.pickT Z Z) Z<|.yw (.pickF Z Z)<|.mv Z<|.b2 (λh38=>?_) (λh38=>?_)
   ·try simp only [dt] at h38
    exact .gG<|.gG<|.gG<|.yw (.pickT Z Z)<|.mv Z<|.gG<|.gG<|.gG<|.fn (tl:=[_]) Z<|.yw (.pickT Z Z)<|.nt<|.me _ ⟨Z,Jt⟩ ⟨Z,Jt⟩ (λ_ s=>s) (by rw [formI,Al_decide_eq_true (Al_Classical_not_not.1 h20),show rfN op.toNat=true by simpa using h23,show rfF op.toNat=false by simpa using h32,Al_decide_eq_false h38];simp)
   try simp only [df] at h38
   refine .yg Z Z (.loadW Z Fx.agg27 Hm Z) Z<|.yg Z Z (.call Fx.call85 Z (λW s=>rexprs_any H (.mk op nm fd a b ex args) _ W h s.agr)) Z<|.yg Z Z (.not Z) Z<|.yw (.pickF Z Z)<|.mv Z<|.b2 (λh43=>?_) (λh43=>?_)
   ·try simp only [dt] at h43
    exact .gG<|.gG<|.gG<|.fn (tl:=[_]) Z<|.yw (.pickT Z Z)<|.nt<|.me _ ⟨Z,Jt⟩ ⟨Z,Jt⟩ (λ_ s=>s) (by rw [formI,Al_decide_eq_true (Al_Classical_not_not.1 h20),show rfN op.toNat=true by simpa using h23,show rfF op.toNat=false by simpa using h32,Al_decide_eq_true (Al_Classical_not_not.1 h38),show exsB (.mk op nm fd a b ex args)=false by simpa using h43];simp)
   try simp only [df] at h43
   exact .yg Z Z (.loadW Z Fx.agg27 Hm Z) Z<|.yg Z Z (.call Fx.call86 Z (λW s=>rbounds_any H (.mk op nm fd a b ex args) _ W h s.agr)) Z<|.yg Z Z (.not Z) Z<|.fn (tl:=[_]) Z<|.yw (.pickF Z Z)<|.nt<|.me _ ⟨Z,Jt⟩ ⟨Z,Jt⟩ (λ_ s=>s) (by rw [formI,Al_decide_eq_true (Al_Classical_not_not.1 h20),show rfN op.toNat=true by simpa using h23,show rfF op.toNat=false by simpa using h32,Al_decide_eq_true (Al_Classical_not_not.1 h38),show exsB (.mk op nm fd a b ex args)=true by simpa using h43];simp)
  try simp only [df] at h32
  refine .gG<|.gG<|.gG<|.yg Z Z (.pickF Z Z) Z<|.yw (.pickF Z Z)<|.mv Z<|.yg Z Z (.loadW Z Fx.agg27 Hm Z) Z<|.yg Z Z (.call Fx.call85 Z (λW s=>rexprs_any H (.mk op nm fd a b ex args) _ W h s.agr)) Z<|.yg Z Z (.not Z) Z<|.yw (.pickF Z Z)<|.mv Z<|.b2 (λh43=>?_) (λh43=>?_)
  ·try simp only [dt] at h43
   exact .gG<|.gG<|.gG<|.fn (tl:=[_]) Z<|.yw (.pickT Z Z)<|.nt<|.me _ ⟨Z,Jt⟩ ⟨Z,Jt⟩ (λ_ s=>s) (by rw [formI,Al_decide_eq_true (Al_Classical_not_not.1 h20),show rfN op.toNat=true by simpa using h23,show rfF op.toNat=true by simpa using h32,show exsB (.mk op nm fd a b ex args)=false by simpa using h43];simp)
  try simp only [df] at h43
  exact .yg Z Z (.loadW Z Fx.agg27 Hm Z) Z<|.yg Z Z (.call Fx.call86 Z (λW s=>rbounds_any H (.mk op nm fd a b ex args) _ W h s.agr)) Z<|.yg Z Z (.not Z) Z<|.fn (tl:=[_]) Z<|.yw (.pickF Z Z)<|.nt<|.me _ ⟨Z,Jt⟩ ⟨Z,Jt⟩ (λ_ s=>s) (by rw [formI,Al_decide_eq_true (Al_Classical_not_not.1 h20),show rfN op.toNat=true by simpa using h23,show rfF op.toNat=true by simpa using h32,show exsB (.mk op nm fd a b ex args)=true by simpa using h43];simp)
 have e9:=hC;refine .cd Z (λh47=>?_) (λh47=>?_)
 ·have hf:formB (.mk op nm fd a b ex args)=false:=by rw [h47] at e9;simpa using e9.symm
  refine .sr<|.az Z<|.tR<|?_
  refine y9 Z Z λW s=>⟨ret_b ?_,s.ext⟩
  first
   | (rw [fm_allL,hf];rfl;done)
   | (rw [fm_allL,hf,hal];rfl;done)
   | (rw [fm_allL,allF_at hk (by simpa using h57)];simp;done)
 have hf:formB (.mk op nm fd a b ex args)=true:=by rw [h47] at e9;simpa using e9.symm
 refine .sk<|.tN<|.sq<|.sr<|.fA Z Fx.field27_6<|.lD Z Fx.agg25 Hm Z<|.yw (.lenSl Fx.sl25 Z)<|.mv Z<|.nt<|.bk<|.lp (X:=Nat) [(49,_),(50,_)] ⟨Z,Z,Jt⟩ [_] (λk=>[(51,iN k)]) (λk=>H) (λk=>[]) (λk=>k<=args.length/\(args.take k).all (Fm.all formB)=true) (λk=>args.length - k) 0 (λ_ s=>s) ⟨Z,Jt⟩ ⟨Al_Nat_zero_le _,Z⟩ λk hC=>?_
 obtain ⟨hk0,hal⟩:=hC;refine .sr<|.yw (.lss Z Z)<|.nt<|.sq<|.ce Z (λh52=>?_) (λh52=>?_)
 ·have hk:k<args.length:=by omega
  obtain ⟨bF,oF,cF,hpF,rF,lF,mF⟩:=hs2.elem (map_at (f:=dFm .i64) hk);cases hpF;refine .sk<|.tN<|.sq<|.bk<|.sr<|.yw (.indexSl Fx.sl25 Z Z Z (by omega) (q:=oF+k * 7) Z)<|.yw (.loadMW Z Fx.agg27 mF lF)<|.al Fx.zero27 Z λb6=>.sV .head Z Z Fx.size27 lF rF.one Z<|.ns<|.yw (.loadW Z Fx.agg27 Hm lF)<|.yw (.call Fx.call42 Z (λW s=>ih _ (Al_List_getElem_mem hk) H cF W rF s.agr))<|.yw (.not Z)<|.nt<|.cd Z (λh57=>?_) (λh57=>?_)
  ·refine .sr<|.az Z<|.bR<|.tR<|.tR<|.bR<|.tR<|?_
   refine y9 Z Z λW s=>⟨ret_b ?_,s.ext⟩
   first
    | (rw [fm_allL,hf];rfl;done)
    | (rw [fm_allL,hf,hal];rfl;done)
    | (rw [fm_allL,allF_at hk (by simpa using h57)];simp;done)
  exact .sk<|.bN<|.tN<|.rg<|.yw (.add Z Z w7)<|.mv Z<|.nt<|.ag (k+1) ⟨Z,Jt⟩ ⟨Z,Z,Jt⟩ (λ_ s=>s.pick [1] [_] Z Z) ⟨by omega,allF_take hk hal (by simpa using h57)⟩ (by omega)
 obtain rfl:k=args.length:=by omega
 rw [Al_List_take_length] at hal;refine .ex<|.eb<|.sr<|.az Z<|?_
 refine y9 Z Z λW s=>⟨ret_b ?_,s.ext⟩
 first
  | (rw [fm_allL,hf];rfl;done)
  | (rw [fm_allL,hf,hal];rfl;done)
  | (rw [fm_allL,allF_at hk (by simpa using h57)];simp;done)
def dpB (op:UInt8) (e:Ex):Bool:=decide (9<e.depth) || (decide (8<e.depth) && !decide (op=3))
theorem dpI {op:UInt8} {e:Ex} :dpB op e=(decide ((9:Int)<((e.depth:Nat):Int)) || (decide ((8:Int)<((e.depth:Nat):Int)) && decide (¬ ((op.toNat:Nat):Int)=3))):=by
 unfold dpB;rw [decide_not,<-d_op 3 (i:=3) (by decide) rfl,show decide ((9:Int)<((e.depth:Nat):Int))=decide (9<e.depth) from decide_eq_decide.2 (by omega),show decide ((8:Int)<((e.depth:Nat):Int))=decide (8<e.depth) from decide_eq_decide.2 (by omega)];rfl
theorem shal_eq {op:UInt8} {nm fd:Str} {b:Int64} {ex:List Ex} {args:List Fm} :shalB (.mk op nm fd a b ex args)=!ex.any (dpB op):=by
 have h:=deep_shal (.mk op nm fd a b ex args);have e:deepB (.mk op nm fd a b ex args)=ex.any (dpB op):=rfl;rw [<-e,h,Bool.not_not]
theorem shal_t {op:UInt8} {nm fd:Str} {b:Int64} {ex:List Ex} {args:List Fm} (hk:k<ex.length) (h:dpB op ex[k]=true):shalB (.mk op nm fd a b ex args)=false:=by rw [shal_eq,any_at hk h];rfl
theorem shal_f {op:UInt8} {nm fd:Str} {b:Int64} {ex:List Ex} {args:List Fm} (h:ex.any (dpB op)=false):shalB (.mk op nm fd a b ex args)=true:=by rw [shal_eq,h];rfl
theorem gdE_dep {e:Ex} (h:gdE e=true):e.depth<=34:=by
 unfold gdE at h;rw [Al_Bool_and_eq_true,Al_decide_eq_true_eq] at h;exact h.1
theorem rdeep_any (f:Fm):gdF f=true->∀ (H:Hp) (cs:List Value) (w:World),Rep H (dFm .i64 f) cs->Agr H w->Calls prg 40 #[.agg cs.toArray] w λr w'=>r=.returned (.bool (!Fm.all shalB f))/\Ext w w':=by
 induction f using Fm.ind with | _ op nm fd a b ex args ih
 intro hgd H cs w h hA;obtain ⟨⟨hop,hexl,hal3,hge⟩,hga⟩:=gdF_mk.1 hgd;obtain ⟨p1,c1,p2,c2,rfl,hs1,hs2,hnm,hfd⟩:=fm_open h;have hcap1:=hs1.cap;have hcap2:=hs2.cap;refine Sx.enter (H:=H) func40 rfl ntmps40 rfl hA ?_;refine .sr<|.bx Z Z Z λb1=>.aq Z<|.sq<|.sr<|.fA Z Fx.field27_5<|.lD Z Fx.agg24 Hm Z<|.yw (.lenSl Fx.sl24 Z)<|.mv Z<|.nt<|.bk<|.lp (X:=Nat) [(1,_),(8,_),(9,_)] ⟨Z,Z,Z,Jt⟩ [_] (λk=>[(10,iN k)]) (λk=>H) (λk=>[]) (λk=>k<=ex.length/\(ex.take k).any (dpB op)=false) (λk=>ex.length - k) 0 (λ_ s=>s) ⟨Z,Jt⟩ ⟨Al_Nat_zero_le _,Z⟩ λk hC=>?_
 obtain ⟨hk0,hal⟩:=hC;refine .sr<|.yw (.lss Z Z)<|.nt<|.sq<|.ce Z (λh11=>?_) (λh11=>?_)
 ·have hk:k<ex.length:=by omega
  obtain ⟨bE,oE,cE,hpE,rE,lE,mE⟩:=hs1.elem (map_at (f:=dEx .i64) hk);cases hpE;have hdp:=gdE_dep (hge _ (Al_List_getElem_mem hk));refine .sk<|.tN<|.sq<|.bk<|.sr<|.yw (.indexSl Fx.sl24 Z Z Z (by omega) (q:=oE+k * 4) Z)<|.yw (.loadMW Z Fx.agg83 mE lE)<|.al Fx.zero83 Z λb4=>.sV .head Z Z Fx.size83 lE rE.one Z<|.ns<|.yw (.loadW Z Fx.agg83 Hm lE)<|.yw (.call Fx.call81 Z (λW s=>rexprDepth_any _ H _ W rE (by omega) s.agr))<|.yw (.gtr Z Z)<|.mv Z<|.e2 (λh17=>?_) (λh17=>?_)
  ·refine .gG<|.gG<|.gG<|.gG<|.gV<|.gV<|.gV<|.gG<|.yw (.pickT Z Z)<|.nt<|.cT Z<|.sr<|.az Z<|.bR<|.tR<|.tR<|.bR<|.tR<|?_
   refine y9 Z Z λW s=>⟨ret_b ?_,s.ext⟩;rw [fm_allL,shal_t hk (by rw [dpI,Al_decide_eq_true h17];rfl)];rfl
  refine .gy (.loadW Z Fx.agg83 Hm lE)<|.gy (.call Fx.call81 Z (λW s=>rexprDepth_any _ H _ W rE (by omega) s.agr))<|.gy (.gtr Z Z)<|.gy (.move Z)<|.e2 (λh21=>?_) (λh21=>?_)
  ·refine .gy (.fieldAddr Z Fx.field27_0)<|.gy (.load Z Fx.agg3 mem1 Z)<|.gy (.neq Z Z)<|.gy (.pickT Z Z)<|.yw (.pickF Z Z)<|.nt<|.ce Z (λh26=>?_) (λh26=>?_)
   ·refine .sr<|.az Z<|.bR<|.tR<|.tR<|.bR<|.tR<|?_
    refine y9 Z Z λW s=>⟨ret_b ?_,s.ext⟩;rw [fm_allL,shal_t hk (by rw [dpI,Al_decide_eq_false h17,Al_decide_eq_true h21,Al_decide_eq_true h26];rfl)];rfl
   exact .sk<|.bN<|.tN<|.rg<|.yw (.add Z Z w7)<|.mv Z<|.nt<|.ag (k+1) ⟨Z,Jt⟩ ⟨Z,Z,Z,Jt⟩ (λ_ s=>s.pick [1] [_] Z Z) ⟨by omega,any_take hk hal (by rw [dpI,Al_decide_eq_false h17,Al_decide_eq_true h21,Al_decide_eq_false h26];rfl)⟩ (by omega)
  exact .gG<|.gG<|.gG<|.gy (.pickF Z Z)<|.yw (.pickF Z Z)<|.nt<|.cF Z<|.sk<|.bN<|.tN<|.rg<|.yw (.add Z Z w7)<|.mv Z<|.nt<|.ag (k+1) ⟨Z,Jt⟩ ⟨Z,Z,Z,Jt⟩ (λ_ s=>s.pick [1] [_] Z Z) ⟨by omega,any_take hk hal (by rw [dpI,Al_decide_eq_false h17,Al_decide_eq_false h21];rfl)⟩ (by omega)
 obtain rfl:k=ex.length:=by omega
 rw [Al_List_take_length] at hal;have hno:=hal;refine .ex<|.eb<|.sq<|.sr<|.fA Z Fx.field27_6<|.lD Z Fx.agg25 Hm Z<|.yw (.lenSl Fx.sl25 Z)<|.mv Z<|.nt<|.bk<|.lp (X:=Nat) [(29,_),(30,_)] ⟨Z,Z,Jt⟩ [_] (λk2=>[(31,iN k2)]) (λk2=>H) (λk2=>[]) (λk2=>k2<=args.length/\(args.take k2).all (Fm.all shalB)=true) (λk2=>args.length - k2) 0 (λ_ s=>s) ⟨Z,Jt⟩ ⟨Al_Nat_zero_le _,Z⟩ λk2 hC=>?_
 obtain ⟨hk20,hal2⟩:=hC;refine .sr<|.yw (.lss Z Z)<|.nt<|.sq<|.ce Z (λh32=>?_) (λh32=>?_)
 ·have hk2:k2<args.length:=by omega
  obtain ⟨bF,oF,cF,hpF,rF,lF,mF⟩:=hs2.elem (map_at (f:=dFm .i64) hk2);cases hpF;refine .sk<|.tN<|.sq<|.bk<|.sr<|.yw (.indexSl Fx.sl25 Z Z Z (by omega) (q:=oF+k2 * 7) Z)<|.yw (.loadMW Z Fx.agg27 mF lF)<|.al Fx.zero27 Z λb6=>.sV .head Z Z Fx.size27 lF rF.one Z<|.ns<|.yw (.loadW Z Fx.agg27 Hm lF)<|.yw (.call Fx.call40 Z (λW s=>ih _ (Al_List_getElem_mem hk2) (hga _ (Al_List_getElem_mem hk2)) H cF W rF s.agr))<|.nt<|.cd Z (λh36=>?_) (λh36=>?_)
  ·refine .sr<|.az Z<|.bR<|.tR<|.tR<|.bR<|.tR<|?_
   refine y9 Z Z λW s=>⟨ret_b ?_,s.ext⟩;rw [fm_allL,allF_at hk2 (by simpa using h36)];simp
  exact .sk<|.bN<|.tN<|.rg<|.yw (.add Z Z w7)<|.mv Z<|.nt<|.ag (k2+1) ⟨Z,Jt⟩ ⟨Z,Z,Jt⟩ (λ_ s=>s.pick [1] [_] Z Z) ⟨by omega,allF_take hk2 hal2 (by simpa using h36)⟩ (by omega)
 obtain rfl:k2=args.length:=by omega
 rw [Al_List_take_length] at hal2;refine .ex<|.eb<|.sr<|.az Z<|?_
 refine y9 Z Z λW s=>⟨ret_b ?_,s.ext⟩;rw [fm_allL,shal_f hno,hal2];rfl
theorem blk_of {c:UInt8} (h:(c.toNat:Int)=32\/(c.toNat:Int)=9\/(c.toNat:Int)=10\/(c.toNat:Int)=13):blkB c=true:=by
 simp only [blkB,Al_Bool_or_eq_true,Al_decide_eq_true_eq,<-Al_UInt8_toNat_inj];rcases h with h | h | h | h
 ·exact .inl (.inl (.inl (by show c.toNat=32;omega)))
 ·exact .inl (.inl (.inr (by show c.toNat=9;omega)))
 ·exact .inl (.inr (by show c.toNat=10;omega))
 ·exact .inr (by show c.toNat=13;omega)
theorem nblk_of {c:UInt8} (h:¬ ((c.toNat:Int)=32\/(c.toNat:Int)=9\/(c.toNat:Int)=10\/(c.toNat:Int)=13)):blkB c=false:=by
 cases e:blkB c with
 | false=>rfl
 | true =>
  refine absurd ?_ h;simp only [blkB,Al_Bool_or_eq_true,Al_decide_eq_true_eq] at e;rcases e with ((e | e) | e) | e <;> subst e <;> simp
variable {s:Str}
theorem skip_blk {R:Str} (hk:k<s.length) (hb:blkB s[k]=true) (h:skipS false (s.drop k)=R):skipS false (s.drop (k+1))=R:=by
 rw [Al_List_drop_eq_getElem_cons hk,skipS_blk hb] at h;exact h
theorem skip_in {R:Str} (hk:k+1<s.length) (h1:(s[k].toNat:Int)=47) (h2:(s[k+1].toNat:Int)=47) (h:skipS false (s.drop k)=R):skipS true (s.drop k)=R:=by
 have e1:s[k]=47:=Al_UInt8_toNat_inj.1 (by show s[k].toNat=47;omega);have e2:s[k+1]=47:=Al_UInt8_toNat_inj.1 (by show s[k+1].toNat=47;omega);rw [Al_List_drop_eq_getElem_cons (show k<s.length by omega),Al_List_drop_eq_getElem_cons hk,e1,e2] at h|-;rw [<-skipS_two];exact h
theorem skip_com {R:Str} (hk:k<s.length) (hb:¬ (s[k].toNat:Int)=10) (h:skipS true (s.drop k)=R):skipS true (s.drop (k+1))=R:=by
 rw [Al_List_drop_eq_getElem_cons hk,skipS_com (λe=>hb (by rw [e];rfl))] at h;exact h
theorem skip_out1 {R:Str} (hk:s.length<=k) (h:skipS true (s.drop k)=R):skipS false (s.drop k)=R:=by
 rw [Al_List_drop_of_length_le hk,skipS_nil] at h|-;exact h
theorem skip_out2 {R:Str} (hk:k<s.length) (hb:(s[k].toNat:Int)=10) (h:skipS true (s.drop k)=R):skipS false (s.drop k)=R:=by
 have e1:s[k]=10:=Al_UInt8_toNat_inj.1 (by show s[k].toNat=10;omega);rw [Al_List_drop_eq_getElem_cons hk,e1] at h|-;rw [<-skipS_end];exact h
theorem stop_no (hk:k<s.length) (hb:blkB s[k]=false) (h:¬ (s[k].toNat:Int)=47\/¬ k+1<s.length\/∃ h:k+1<s.length,¬ (s[k+1].toNat:Int)=47):skipS false (s.drop k)=s.drop k:=by
 rw [Al_List_drop_eq_getElem_cons hk];refine skipS_stop hb ?_;rintro ⟨e1,e2⟩;rcases h with h | h | ⟨h0,h⟩
 ·exact h (by rw [e1];rfl)
 ·rw [Al_List_drop_of_length_le (by omega)] at e2;cases e2
 ·rw [Al_List_drop_eq_getElem_cons h0] at e2;exact h (by rw [Al_Option_some_inj e2];rfl)
theorem stop_end (hk:s.length<=k):skipS false (s.drop k)=s.drop k:=by rw [Al_List_drop_of_length_le hk,skipS_nil]
theorem stop_val {R:Str} (hk:k<=s.length) (h:skipS false (s.drop k)=R) (h2:skipS false (s.drop k)=s.drop k):s.length - R.length=k:=by
 rw [<-h,h2,Al_List_length_drop];omega
theorem skip_any (s:Str) (hl:s.length<=1000000) (o:Nat) (ho:o<=s.length) (w:World) :
 Calls prg 67 #[strV s,iN o] w λr w'=>r=.returned (.int .i64 ((s.length - (skipS false (s.drop o)).length:Nat):Int))/\Ext w w':=by
 refine y6 func67 Z ntmps67 Z ?_;refine .sr<|.aq Z<|.sq<|.bk<|.lp (X:=Nat) [(0,_)] ⟨Z,Jt⟩ [] (λk=>[(1,iN k)]) (λk=>(⟨λ_=>none,0⟩:Hp)) (λk=>[]) (λk=>k<=s.length/\skipS false (s.drop k)=skipS false (s.drop o)) (λk=>s.length - k) o (λ_ s=>s) ⟨Z,Jt⟩ ⟨ho,Z⟩ λk hC=>?_
 obtain ⟨hk0,hC2⟩:=hC;refine .sq<|.sm Z<|.mv Z<|.yw (.lenS Fx.str9 Z)<|.yw (.lss Z Z)<|.nt<|.ce Z (λh8=>?_) (λh8=>?_)
 ·have hk:k<s.length:=by omega
  refine .sk<|.tN<|.bk<|.sm Z<|.mv Z<|.yw (.idxS Fx.str9 Z Z Z (b:=s[k]) (j:=k) (List.getElem?_eq_getElem hk))<|.yw (.eql Z Z)<|.mv Z<|.e2 (λh13=>?_) (λh13=>?_)
  ·exact .gG<|.gG<|.gG<|.gG<|.yw (.pickT Z Z)<|.mv Z<|.gG<|.gG<|.gG<|.gG<|.yw (.pickT Z Z)<|.mv Z<|.gG<|.gG<|.gG<|.gG<|.yw (.pickT Z Z)<|.nt<|.cT Z<|.rg<|.mv Z<|.yw (.add Z Z w7)<|.a Z Z<|.nl<|.bN<|.tN<|.ag (k+1) ⟨Z,Jt⟩ ⟨Z,Jt⟩ (λ_ s=>s) ⟨by omega,skip_blk (by omega) (blk_of (by omega)) hC2⟩ (by first | omega | (have:j≠k:=λe=>by subst e;omega);omega)
  refine .gy (.move Z)<|.gy (.move Z)<|.gy (.idxS Fx.str9 Z Z Z (b:=s[k]) (j:=k) (List.getElem?_eq_getElem hk))<|.gy (.eql Z Z)<|.yw (.pickF Z Z)<|.mv Z<|.e2 (λh19=>?_) (λh19=>?_)
  ·exact .gG<|.gG<|.gG<|.gG<|.yw (.pickT Z Z)<|.mv Z<|.gG<|.gG<|.gG<|.gG<|.yw (.pickT Z Z)<|.nt<|.cT Z<|.rg<|.mv Z<|.yw (.add Z Z w7)<|.a Z Z<|.nl<|.bN<|.tN<|.ag (k+1) ⟨Z,Jt⟩ ⟨Z,Jt⟩ (λ_ s=>s) ⟨by omega,skip_blk (by omega) (blk_of (by omega)) hC2⟩ (by first | omega | (have:j≠k:=λe=>by subst e;omega);omega)
  refine .gy (.move Z)<|.gy (.move Z)<|.gy (.idxS Fx.str9 Z Z Z (b:=s[k]) (j:=k) (List.getElem?_eq_getElem hk))<|.gy (.eql Z Z)<|.yw (.pickF Z Z)<|.mv Z<|.e2 (λh25=>?_) (λh25=>?_)
  ·exact .gG<|.gG<|.gG<|.gG<|.yw (.pickT Z Z)<|.nt<|.cT Z<|.rg<|.mv Z<|.yw (.add Z Z w7)<|.a Z Z<|.nl<|.bN<|.tN<|.ag (k+1) ⟨Z,Jt⟩ ⟨Z,Jt⟩ (λ_ s=>s) ⟨by omega,skip_blk (by omega) (blk_of (by omega)) hC2⟩ (by first | omega | (have:j≠k:=λe=>by subst e;omega);omega)
  refine .gy (.move Z)<|.gy (.move Z)<|.gy (.idxS Fx.str9 Z Z Z (b:=s[k]) (j:=k) (List.getElem?_eq_getElem hk))<|.gy (.eql Z Z)<|.yw (.pickF Z Z)<|.nt<|.ce Z (λh30=>?_) (λh30=>?_)
  ·exact .rg<|.mv Z<|.yw (.add Z Z w7)<|.a Z Z<|.nl<|.bN<|.tN<|.ag (k+1) ⟨Z,Jt⟩ ⟨Z,Jt⟩ (λ_ s=>s) ⟨by omega,skip_blk (by omega) (blk_of (by omega)) hC2⟩ (by first | omega | (have:j≠k:=λe=>by subst e;omega);omega)
  refine .sm Z<|.yw (.add Z Z w7)<|.mv Z<|.yw (.lenS Fx.str9 Z)<|.yw (.lss Z Z)<|.mv Z<|.e2 (λh38=>?_) (λh38=>?_)
  ·have hk1:k+1<s.length:=by omega
   refine .gy (.move Z)<|.gy (.move Z)<|.gy (.idxS Fx.str9 Z Z Z (b:=s[k]) (j:=k) (List.getElem?_eq_getElem hk))<|.gy (.eql Z Z)<|.yw (.pickT Z Z)<|.mv Z<|.e2 (λh44=>?_) (λh44=>?_)
   ·refine .gy (.move Z)<|.gy (.move Z)<|.gy (.add Z Z w7)<|.gy (.idxS Fx.str9 Z Z (by omega) (b:=s[(k+1)]) (j:=(k+1)) (List.getElem?_eq_getElem hk1))<|.gy (.eql Z Z)<|.yw (.pickT Z Z)<|.nt<|.ce Z (λh50=>?_) (λh50=>?_)
    ·refine .bk<|.lp (X:=Nat) [(0,_)] ⟨Z,Jt⟩ [] (λj=>[(1,iN j)]) (λj=>(⟨λ_=>none,0⟩:Hp)) (λj=>[]) (λj=>k<=j/\j<=s.length/\skipS true (s.drop j)=skipS false (s.drop o)) (λj=>s.length - j) k (λ_ s=>s) ⟨Z,Jt⟩ ⟨by omega,by omega,skip_in (by omega) (by omega) (by omega) hC2⟩ λj hC=>?_
     obtain ⟨hj0,hj1,hC3⟩:=hC;refine .sq<|.sm Z<|.mv Z<|.yw (.lenS Fx.str9 Z)<|.yw (.lss Z Z)<|.mv Z<|.e2 (λh55=>?_) (λh55=>?_)
     ·have hj:j<s.length:=by omega
      refine .gy (.move Z)<|.gy (.move Z)<|.gy (.idxS Fx.str9 Z Z Z (b:=s[j]) (j:=j) (List.getElem?_eq_getElem hj))<|.gy (.neq Z Z)<|.yw (.pickT Z Z)<|.nt<|.ce Z (λh60=>?_) (λh60=>?_)
      ·exact .sk<|.tN<|.bk<|.rg<|.mv Z<|.yw (.add Z Z w7)<|.a Z Z<|.nl<|.bN<|.tN<|.ag (j+1) ⟨Z,Jt⟩ ⟨Z,Jt⟩ (λ_ s=>s) ⟨by omega,by omega,skip_com (by omega) (by omega) hC3⟩ (by omega)
      exact .ex<|.tE<|.tE<|.bE<|.bN<|.tN<|.ag j ⟨Z,Jt⟩ ⟨Z,Jt⟩ (λ_ s=>s) ⟨by omega,by first | exact skip_out1 (by omega) hC3 | exact skip_out2 (show j<s.length by omega) (by omega) hC3⟩ (by first | omega | (have:j≠k:=λe=>by subst e;omega);omega)
     exact .gG<|.gG<|.gG<|.gG<|.yw (.pickF Z Z)<|.nt<|.cF Z<|.ex<|.tE<|.tE<|.bE<|.bN<|.tN<|.ag j ⟨Z,Jt⟩ ⟨Z,Jt⟩ (λ_ s=>s) ⟨by omega,by first | exact skip_out1 (by omega) hC3 | exact skip_out2 (show j<s.length by omega) (by omega) hC3⟩ (by first | omega | (have:j≠k:=λe=>by subst e;omega);omega)
    refine .sm Z<|.az Z<|.bR<|.tR<|.bR<|.tR<|?_
    refine y9 Z Z λW s=>⟨?_,s.ext⟩
    first
     | (rw [stop_val hk0 hC2 (stop_no hk (nblk_of (by omega)) (.inl (by omega)))])
     | (rw [stop_val hk0 hC2 (stop_no hk (nblk_of (by omega)) (.inr (.inl (by omega))))])
     | (rw [stop_val hk0 hC2 (stop_no hk (nblk_of (by omega)) (.inr (.inr ⟨hk1,by omega⟩)))])
     | (rw [stop_val hk0 hC2 (stop_end (by omega))])
   refine .gG<|.gG<|.gG<|.gG<|.gG<|.yw (.pickF Z Z)<|.nt<|.cF Z<|.sm Z<|.az Z<|.bR<|.tR<|.bR<|.tR<|?_
   refine y9 Z Z λW s=>⟨?_,s.ext⟩
   first
    | (rw [stop_val hk0 hC2 (stop_no hk (nblk_of (by omega)) (.inl (by omega)))])
    | (rw [stop_val hk0 hC2 (stop_no hk (nblk_of (by omega)) (.inr (.inl (by omega))))])
    | (rw [stop_val hk0 hC2 (stop_no hk (nblk_of (by omega)) (.inr (.inr ⟨hk1,by omega⟩)))])
    | (rw [stop_val hk0 hC2 (stop_end (by omega))])
  refine .gG<|.gG<|.gG<|.gG<|.yw (.pickF Z Z)<|.mv Z<|.gG<|.gG<|.gG<|.gG<|.gG<|.yw (.pickF Z Z)<|.nt<|.cF Z<|.sm Z<|.az Z<|.bR<|.tR<|.bR<|.tR<|?_
  refine y9 Z Z λW s=>⟨?_,s.ext⟩
  first
   | (rw [stop_val hk0 hC2 (stop_no hk (nblk_of (by omega)) (.inl (by omega)))])
   | (rw [stop_val hk0 hC2 (stop_no hk (nblk_of (by omega)) (.inr (.inl (by omega))))])
   | (rw [stop_val hk0 hC2 (stop_no hk (nblk_of (by omega)) (.inr (.inr ⟨hk1,by omega⟩)))])
   | (rw [stop_val hk0 hC2 (stop_end (by omega))])
 obtain rfl:k=s.length:=by omega
 refine .ex<|.eb<|.sm Z<|.az Z<|?_
 refine y9 Z Z λW s=>⟨?_,s.ext⟩
 first
  | (rw [stop_val hk0 hC2 (stop_no hk (nblk_of (by omega)) (.inl (by omega)))])
  | (rw [stop_val hk0 hC2 (stop_no hk (nblk_of (by omega)) (.inr (.inl (by omega))))])
  | (rw [stop_val hk0 hC2 (stop_no hk (nblk_of (by omega)) (.inr (.inr ⟨hk1,by omega⟩)))])
  | (rw [stop_val hk0 hC2 (stop_end (by omega))])
theorem keywordsR_any (H:Hp) (w:World) (hA:Agr H w):Calls prg 126 #[] w λr w'=>∃ (b:Nat) (H':Hp),MemAt H' b 0 (words.map strV)/\r=.returned (.slice (some ⟨b,0,none⟩) 39 39)/\Grow H w H' w':=by
 refine Sx.enter (H:=H) func126 rfl ntmps126 rfl hA ?_;refine .sr<|.a Z Z<|.ns<|.bl Z (Fx.bsl71_39 _ _ _ _ _ _ _ _ _ _ _ _ _ _ _ _ _ _ _ _ _ _ _ _ _ _ _ _ _ _ _ _ _ _ _ _ _ _ _) Z λb1=>?_
 refine freezeBox λH1 u1 m1=>?_;refine .az Z<|?_
 exact y9 Z Z λW s=>⟨b1,H1,m1,Z,u1.grow s⟩
theorem symbolsR_any (H:Hp) (w:World) (hA:Agr H w):Calls prg 127 #[] w λr w'=>∃ (b:Nat) (H':Hp),MemAt H' b 0 (symbols.map strV)/\r=.returned (.slice (some ⟨b,0,none⟩) 25 25)/\Grow H w H' w':=by
 refine Sx.enter (H:=H) func127 rfl ntmps127 rfl hA ?_;refine .sr<|.a Z Z<|.ns<|.bl Z (Fx.bsl71_25 _ _ _ _ _ _ _ _ _ _ _ _ _ _ _ _ _ _ _ _ _ _ _ _ _) Z λb1=>?_
 refine freezeBox λH1 u1 m1=>?_;refine .az Z<|?_
 exact y9 Z Z λW s=>⟨b1,H1,m1,Z,u1.grow s⟩
theorem ins_of {c:UInt8} (h:letB c=true\/digB c=true\/(c.toNat:Int)=95):insB c=true:=by
 simp only [insB,Al_Bool_or_eq_true,Al_decide_eq_true_eq];rcases h with h | h | h
 ·exact .inl (.inl h)
 ·exact .inl (.inr h)
 ·exact .inr (by omega)
theorem nins_of {c:UInt8} (h1:letB c=false) (h2:digB c=false) (h3:¬ (c.toNat:Int)=95):insB c=false:=by
 simp only [insB,Al_Bool_or_eq_false_iff,Al_decide_eq_false_iff_not];exact ⟨⟨h1,h2⟩,by omega⟩
theorem pre_end {q:UInt8->Bool} {l:Str} (h:k<=pre q l) (hk:¬ k<l.length):k=pre q l:=by
 have:=pre_le q l;omega
theorem mid_take (s:Str) (o n:Nat):(s.take (o+n)).drop o=(s.drop o).take n:=by
 rw [Al_List_drop_take,Al_Nat_add_sub_cancel_left]
theorem sym_take {l x:Str} (h:symbols.find? (λx=>x.isPrefixOf l)=some x):l.take x.length=x:=by
 have h1:=List.find?_some (p:=λ(x:Str)=>x.isPrefixOf l) h;obtain ⟨t,ht⟩:=Al_List_isPrefixOf_iff_prefix.1 h1;rw [<-ht,Al_List_take_left]
theorem word_in {l:Str} (hk:k<39) (h:words.getD k []=l):words.contains l=true:=by
 rw [Al_List_contains_iff_mem,<-h,getD_at (show k<words.length from hk)];exact Al_List_getElem_mem _
theorem word_no {l:Str} (h:∀ j,j<39->words.getD j []≠l):words.contains l=false:=by
 rw [Bool.eq_false_iff,Ne,Al_List_contains_iff_mem];intro hm;obtain ⟨j,hj,e⟩:=Al_List_mem_iff_getElem.1 hm;exact h j hj (by rw [getD_at hj];exact e)
theorem next_any (H:Hp) (s:Str) (hl:s.length<=1000000) (o:Nat) (ho:o<s.length) (w:World) (hA:Agr H w) :
 Calls prg 68 #[strV s,iN o] w λr w'=>r=.returned (.agg [iN ((readK (s.drop o)).1.toNat),strV ((s.drop o).take (readK (s.drop o)).2),iN o].toArray)/\Ext w w':=by
 obtain ⟨l,hm⟩:∃ l,l=s.drop o:=⟨_,Z⟩;rw [<-hm];have hlen:o+l.length=s.length:=by rw [hm,Al_List_length_drop];omega
 have hget:∀ k (h:k<l.length),s[o+k]? = some l[k]:=λk h=>by rw [<-List.getElem?_drop,<-hm,List.getElem?_eq_getElem h]
 cases l with
 | nil=>simp only [Al_List_length_nil] at hlen;omega
 | cons c m =>
 have hlen2:(c::m).length=m.length+1:=rfl;refine Sx.enter (H:=H) func68 rfl ntmps68 rfl hA ?_;refine .sr<|.al Fx.zero70 Z λb4=>.ns<|.mv Z<|.aq Z<|.sq<|.sm Z<|.mv Z<|.yw (.idxS Fx.str9 Z Z Z (b:=c) (j:=o) (by rw [<-Al_Nat_add_zero o];exact hget 0 (by simp)))<|.yw (.call Fx.call124 Z (λW s=>rletter_any _ W))<|.nt<|.cd Z (λh15=>?_) (λh15=>?_)
 ·refine .cu (X:=Unit) [(0,_),(1,_),(4,_)] ⟨Z,Z,Z,Jt⟩ (λz=>[(5,.int .i64 ((o+pre insB (c::m):Nat):Int))]) (λz=>H) (λz=>[.box b4 [.int .i64 0,.string ⟨#[]⟩,.int .i64 0] 70]) (λz=>True) ?_ λz hC=>?_
  ·
   refine .bk<|.lp (X:=Nat) [(0,_),(1,_),(4,_)] ⟨Z,Z,Z,Jt⟩ [_] (λk=>[(5,.int .i64 ((o+k:Nat):Int))]) (λk=>H) (λk=>[]) (λk=>k<=pre insB (c::m)) (λk=>pre insB (c::m) - k) 0 (λ_ s=>s) ⟨Z,Jt⟩ (by omega) λk hC=>?_
   refine .sq<|.sm Z<|.mv Z<|.yw (.lenS Fx.str9 Z)<|.yw (.lss Z Z)<|.mv Z<|.e2 (λh20=>?_) (λh20=>?_)
   ·have hk:k<(c::m).length:=by omega
    refine .gy (.move Z)<|.gy (.move Z)<|.gy (.idxS Fx.str9 Z Z Z (b:=(c::m)[k]) (j:=o+k) (hget k hk))<|.gy (.call Fx.call124 Z (λW s=>rletter_any _ W))<|.gy (.move Z)<|.b2 (λh25=>?_) (λh25=>?_)
    ·exact .gG<|.gG<|.gG<|.gG<|.gy (.pickT Z Z)<|.gy (.move Z)<|.gG<|.gG<|.gG<|.gG<|.gy (.pickT Z Z)<|.yw (.pickT Z Z)<|.nt<|.cT Z<|.sk<|.tN<|.bk<|.rg<|.mv Z<|.yw (.add Z Z (c:=((o+(k+1):Nat):Int)) ((w6 (by omega)).trans (by omega)))<|.a Z Z<|.nl<|.bN<|.tN<|.ag (k+1) ⟨Z,Jt⟩ ⟨Z,Z,Z,Jt⟩ (λ_ s=>s) (pre_step hk hC (ins_of (by first | exact .inl (by assumption) | exact .inr (.inl (by assumption)) | exact .inr (.inr (by omega))))) (by have:=pre_step hk hC (ins_of (by first | exact .inl (by assumption) | exact .inr (.inl (by assumption)) | exact .inr (.inr (by omega))));omega)
    refine .gy (.move Z)<|.gy (.move Z)<|.gy (.idxS Fx.str9 Z Z Z (b:=(c::m)[k]) (j:=o+k) (hget k hk))<|.gy (.call Fx.call125 Z (λW s=>rdigit_any _ W))<|.gy (.pickF Z Z)<|.gy (.move Z)<|.b2 (λh31=>?_) (λh31=>?_)
    ·exact .gG<|.gG<|.gG<|.gG<|.gy (.pickT Z Z)<|.yw (.pickT Z Z)<|.nt<|.cT Z<|.sk<|.tN<|.bk<|.rg<|.mv Z<|.yw (.add Z Z (c:=((o+(k+1):Nat):Int)) ((w6 (by omega)).trans (by omega)))<|.a Z Z<|.nl<|.bN<|.tN<|.ag (k+1) ⟨Z,Jt⟩ ⟨Z,Z,Z,Jt⟩ (λ_ s=>s) (pre_step hk hC (ins_of (by first | exact .inl (by assumption) | exact .inr (.inl (by assumption)) | exact .inr (.inr (by omega))))) (by have:=pre_step hk hC (ins_of (by first | exact .inl (by assumption) | exact .inr (.inl (by assumption)) | exact .inr (.inr (by omega))));omega)
    refine .gy (.move Z)<|.gy (.move Z)<|.gy (.idxS Fx.str9 Z Z Z (b:=(c::m)[k]) (j:=o+k) (hget k hk))<|.gy (.eql Z Z)<|.gy (.pickF Z Z)<|.yw (.pickT Z Z)<|.nt<|.ce Z (λh37=>?_) (λh37=>?_)
    ·exact .sk<|.tN<|.bk<|.rg<|.mv Z<|.yw (.add Z Z (c:=((o+(k+1):Nat):Int)) ((w6 (by omega)).trans (by omega)))<|.a Z Z<|.nl<|.bN<|.tN<|.ag (k+1) ⟨Z,Jt⟩ ⟨Z,Z,Z,Jt⟩ (λ_ s=>s) (pre_step hk hC (ins_of (by first | exact .inl (by assumption) | exact .inr (.inl (by assumption)) | exact .inr (.inr (by omega))))) (by have:=pre_step hk hC (ins_of (by first | exact .inl (by assumption) | exact .inr (.inl (by assumption)) | exact .inr (.inr (by omega))));omega)
    exact .ex<|.eb<|.me () ⟨(by first | (rw [<-pre_end hC (by omega)];rfl) | (rw [<-pre_stop hk hC (by first | exact nins_of (by assumption) (by assumption) (by omega) | assumption)];rfl)),Jt⟩ ⟨Z,Z,Z,Jt⟩ (λ_ s=>s) trivial
   exact .gG<|.gG<|.gG<|.gG<|.gG<|.gV<|.gV<|.gV<|.gV<|.gG<|.gG<|.gV<|.gV<|.gV<|.gV<|.gG<|.yw (.pickF Z Z)<|.nt<|.cF Z<|.ex<|.eb<|.me () ⟨(by first | (rw [<-pre_end hC (by omega)];rfl) | (rw [<-pre_stop hk hC (by first | exact nins_of (by assumption) (by assumption) (by omega) | assumption)];rfl)),Jt⟩ ⟨Z,Z,Z,Jt⟩ (λ_ s=>s) trivial
  refine .sm Z<|.mv Z<|.mv Z<|.yw (.cast (.midS Fx.str9 Z Z Z Z Z (by omega) (by have:=pre_le insB (c::m);omega)) (by rw [mid_take,<-hm]))<|.aq Z<|.sq<|.sr<|.ct (X:=Nat) Fx.call126 Z (λW s=>keywordsR_any H W s.agr) Z λb44 H1 m1 u1=>.yw (.lenSl Fx.sl71 Z)<|.mv Z<|.nt<|.bk<|.lp (X:=Nat) [(0,_),(1,_),(4,_),(5,_),(6,_),(44,_),(45,_)] ⟨Z,Z,Z,Z,Z,Z,Z,Jt⟩ [_] (λk=>[(46,iN k)]) (λk=>H1) (λk=>[]) (λk=>k<=39/\∀ j,j<k->words.getD j []≠((c::m).take (pre insB (c::m)))) (λk=>39 - k) 0 (λ_ s=>s) ⟨Z,Jt⟩ ⟨by omega,λj hj=>by omega⟩ λk hC=>?_
  obtain ⟨hk0,hne⟩:=hC;refine .sr<|.yw (.lss Z Z)<|.nt<|.sq<|.ce Z (λh47=>?_) (λh47=>?_)
  ·refine .sk<|.tN<|.sq<|.bk<|.sr<|.yw (.indexSl Fx.sl71 Z Z Z (by omega) (q:=k) (by omega))<|.yw (.loadM Z Fx.agg9 m1 (k:=k) (by omega) (list_at (by show k<39;omega) []))<|.a Z Z<|.ns<|.mv Z<|.mv Z<|.yw (.eqS Z Z)<|.nt<|.ce Z (λh52=>?_) (λh52=>?_)
   ·have hw:=word_in (by omega) h52;refine .sm Z<|.mv Z<|.yw (.build Z (Fx.bld70_0_1_2 _ _ _))<|.sX .head Z Z Fx.size70 Z<|.zR<|.tR<|.bR<|.tR<|.tR<|?_
    refine y8 Z (.cell Z Fx.agg70 Hm rfl) λW s=>⟨?_,(u1.grow s).ext⟩
    first
     | (simp only [readK,Al_List_headD_cons,h15,hw,Al_if_true,Al_if_false,Al_Bool_false_eq_true];rfl)
     | (simp only [readK,Al_List_headD_cons,h15,hw,Al_if_true,Al_if_false,Al_Bool_false_eq_true,Al_List_take_length];rfl)
     | (simp only [readK,Al_List_headD_cons,h15,hw,hw9,Al_if_true,Al_if_false,Al_Bool_false_eq_true];rfl)
     | (simp only [readK,Al_List_headD_cons,h15,hw,hw9,Al_if_true,Al_if_false,Al_Bool_false_eq_true,Al_List_take_length];rfl)
     | (simp only [readK,Al_List_headD_cons,h15,h71,hor,Al_if_true,Al_if_false,Al_Bool_false_eq_true];rfl)
     | (simp only [readK,Al_List_headD_cons,h15,h71,hor,Al_if_true,Al_if_false,Al_Bool_false_eq_true,Al_List_take_length];rfl)
     | (simp only [readK,Al_List_headD_cons,h15,h71,hfind,Al_if_true,Al_if_false,Al_Bool_false_eq_true];rfl)
     | (simp only [readK,Al_List_headD_cons,h15,h71,hfind,Al_if_true,Al_if_false,Al_Bool_false_eq_true,Al_List_take_length];rfl)
     | (simp only [readK,Al_List_headD_cons,h15,h71,hfind,Al_if_true,Al_if_false,Al_Bool_false_eq_true,sym_take hfind];rfl)
     | (simp only [readK,Al_List_headD_cons,h15,h71,hfind,Al_if_true,Al_if_false,Al_Bool_false_eq_true,Al_List_take_length];rfl)
   exact .sk<|.bN<|.tN<|.rg<|.yw (.add Z Z w7)<|.mv Z<|.nt<|.ag (k+1) ⟨Z,Jt⟩ ⟨Z,Z,Z,Z,Z,Z,Z,Jt⟩ (λ_ s=>s) ⟨by omega,λj hj=>by
   by_cases e:j=k
   ·subst e;exact h52
   ·exact hne j (by omega)⟩ (by omega)
  have hw:=word_no (λj hj=>hne j (by omega));refine .ex<|.eb<|.sq<|.sm Z<|.yw (.lenS Fx.str9 Z)<|.yw (.leq Z Z)<|.nt<|.ce Z (λh59=>?_) (λh59=>?_)
  ·have hw9:pre insB (c::m)<=12:=by have:=pre_le insB (c::m);rw [Al_List_length_take] at h59;omega
   refine .sm Z<|.mv Z<|.yw (.build Z (Fx.bld70_0_1_2 _ _ _))<|.sX .head Z Z Fx.size70 Z<|.nt<|.rt<|.tR<|.tR<|?_
   refine y8 Z (.cell Z Fx.agg70 Hm rfl) λW s=>⟨?_,(u1.grow s).ext⟩
   first
    | (simp only [readK,Al_List_headD_cons,h15,hw,Al_if_true,Al_if_false,Al_Bool_false_eq_true];rfl)
    | (simp only [readK,Al_List_headD_cons,h15,hw,Al_if_true,Al_if_false,Al_Bool_false_eq_true,Al_List_take_length];rfl)
    | (simp only [readK,Al_List_headD_cons,h15,hw,hw9,Al_if_true,Al_if_false,Al_Bool_false_eq_true];rfl)
    | (simp only [readK,Al_List_headD_cons,h15,hw,hw9,Al_if_true,Al_if_false,Al_Bool_false_eq_true,Al_List_take_length];rfl)
    | (simp only [readK,Al_List_headD_cons,h15,h71,hor,Al_if_true,Al_if_false,Al_Bool_false_eq_true];rfl)
    | (simp only [readK,Al_List_headD_cons,h15,h71,hor,Al_if_true,Al_if_false,Al_Bool_false_eq_true,Al_List_take_length];rfl)
    | (simp only [readK,Al_List_headD_cons,h15,h71,hfind,Al_if_true,Al_if_false,Al_Bool_false_eq_true];rfl)
    | (simp only [readK,Al_List_headD_cons,h15,h71,hfind,Al_if_true,Al_if_false,Al_Bool_false_eq_true,Al_List_take_length];rfl)
    | (simp only [readK,Al_List_headD_cons,h15,h71,hfind,Al_if_true,Al_if_false,Al_Bool_false_eq_true,sym_take hfind];rfl)
    | (simp only [readK,Al_List_headD_cons,h15,h71,hfind,Al_if_true,Al_if_false,Al_Bool_false_eq_true,Al_List_take_length];rfl)
  have hw9:¬ pre insB (c::m)<=12:=by have:=pre_le insB (c::m);rw [Al_List_length_take] at h59;omega
  refine .sk<|.tN<|.sm Z<|.mv Z<|.yw (.cast (.dropS Fx.str9 Z Z Z (by omega)) (by rw [<-hm]))<|.mv Z<|.yw (.build Z (Fx.bld70_0_1_2 _ _ _))<|.sX .head Z Z Fx.size70 Z<|.nt<|.rt<|.tR<|?_
  refine y8 Z (.cell Z Fx.agg70 Hm rfl) λW s=>⟨?_,(u1.grow s).ext⟩
  first
   | (simp only [readK,Al_List_headD_cons,h15,hw,Al_if_true,Al_if_false,Al_Bool_false_eq_true];rfl)
   | (simp only [readK,Al_List_headD_cons,h15,hw,Al_if_true,Al_if_false,Al_Bool_false_eq_true,Al_List_take_length];rfl)
   | (simp only [readK,Al_List_headD_cons,h15,hw,hw9,Al_if_true,Al_if_false,Al_Bool_false_eq_true];rfl)
   | (simp only [readK,Al_List_headD_cons,h15,hw,hw9,Al_if_true,Al_if_false,Al_Bool_false_eq_true,Al_List_take_length];rfl)
   | (simp only [readK,Al_List_headD_cons,h15,h71,hor,Al_if_true,Al_if_false,Al_Bool_false_eq_true];rfl)
   | (simp only [readK,Al_List_headD_cons,h15,h71,hor,Al_if_true,Al_if_false,Al_Bool_false_eq_true,Al_List_take_length];rfl)
   | (simp only [readK,Al_List_headD_cons,h15,h71,hfind,Al_if_true,Al_if_false,Al_Bool_false_eq_true];rfl)
   | (simp only [readK,Al_List_headD_cons,h15,h71,hfind,Al_if_true,Al_if_false,Al_Bool_false_eq_true,Al_List_take_length];rfl)
   | (simp only [readK,Al_List_headD_cons,h15,h71,hfind,Al_if_true,Al_if_false,Al_Bool_false_eq_true,sym_take hfind];rfl)
   | (simp only [readK,Al_List_headD_cons,h15,h71,hfind,Al_if_true,Al_if_false,Al_Bool_false_eq_true,Al_List_take_length];rfl)
 refine .sk<|.tN<|.sq<|.sm Z<|.mv Z<|.yw (.idxS Fx.str9 Z Z Z (b:=c) (j:=o) (by rw [<-Al_Nat_add_zero o];exact hget 0 (by simp)))<|.yw (.call Fx.call125 Z (λW s=>rdigit_any _ W))<|.nt<|.cd Z (λh71=>?_) (λh71=>?_)
 ·refine .cu (X:=Unit) [(0,_),(1,_),(4,_)] ⟨Z,Z,Z,Jt⟩ (λz=>[(5,.int .i64 ((o+pre digB (c::m):Nat):Int))]) (λz=>H) (λz=>[.box b4 [.int .i64 0,.string ⟨#[]⟩,.int .i64 0] 70]) (λz=>True) ?_ λz hC=>?_
  ·
   refine .bk<|.lp (X:=Nat) [(0,_),(1,_),(4,_)] ⟨Z,Z,Z,Jt⟩ [_] (λk=>[(5,.int .i64 ((o+k:Nat):Int))]) (λk=>H) (λk=>[]) (λk=>k<=pre digB (c::m)) (λk=>pre digB (c::m) - k) 0 (λ_ s=>s) ⟨Z,Jt⟩ (by omega) λk hC=>?_
   refine .sq<|.sm Z<|.mv Z<|.yw (.lenS Fx.str9 Z)<|.yw (.lss Z Z)<|.mv Z<|.e2 (λh76=>?_) (λh76=>?_)
   ·have hk:k<(c::m).length:=by omega
    refine .gy (.move Z)<|.gy (.move Z)<|.gy (.idxS Fx.str9 Z Z Z (b:=(c::m)[k]) (j:=o+k) (hget k hk))<|.gy (.call Fx.call125 Z (λW s=>rdigit_any _ W))<|.yw (.pickT Z Z)<|.nt<|.cd Z (λh81=>?_) (λh81=>?_)
    ·exact .sk<|.tN<|.bk<|.rg<|.mv Z<|.yw (.add Z Z (c:=((o+(k+1):Nat):Int)) ((w6 (by omega)).trans (by omega)))<|.a Z Z<|.nl<|.bN<|.tN<|.ag (k+1) ⟨Z,Jt⟩ ⟨Z,Z,Z,Jt⟩ (λ_ s=>s) (pre_step hk hC (by assumption)) (by have:=pre_step hk hC (by assumption);omega)
    exact .ex<|.eb<|.me () ⟨(by first | (rw [<-pre_end hC (by omega)];rfl) | (rw [<-pre_stop hk hC (by first | exact nins_of (by assumption) (by assumption) (by omega) | assumption)];rfl)),Jt⟩ ⟨Z,Z,Z,Jt⟩ (λ_ s=>s) trivial
   exact .gG<|.gG<|.gG<|.gG<|.yw (.pickF Z Z)<|.nt<|.cF Z<|.ex<|.eb<|.me () ⟨(by first | (rw [<-pre_end hC (by omega)];rfl) | (rw [<-pre_stop hk hC (by first | exact nins_of (by assumption) (by assumption) (by omega) | assumption)];rfl)),Jt⟩ ⟨Z,Z,Z,Jt⟩ (λ_ s=>s) trivial
  refine .sq<|.sm Z<|.mv Z<|.yw (.idxS Fx.str9 Z Z Z (b:=c) (j:=o) (by rw [<-Al_Nat_add_zero o];exact hget 0 (by simp)))<|.yw (.eql Z Z)<|.mv Z<|.e2 (λh88=>?_) (λh88=>?_)
  ·have h48:c=48:=Al_UInt8_toNat_inj.1 (by show c.toNat=48;omega);refine .gy (.move Z)<|.gy (.move Z)<|.gy (.add Z Z w7)<|.gy (.gtr Z Z)<|.yw (.pickT Z Z)<|.nt<|.ce Z (λh93=>?_) (λh93=>?_)
   ·have hor:¬ (pre digB (c::m)=1\/c≠48):=by
     rintro (h | h)
     ·omega
     ·exact h h48
    refine .sm Z<|.mv Z<|.yw (.cast (.dropS Fx.str9 Z Z Z (by omega)) (by rw [<-hm]))<|.mv Z<|.yw (.build Z (Fx.bld70_0_1_2 _ _ _))<|.sX .head Z Z Fx.size70 Z<|.nt<|.rt<|.tR<|.tR<|?_
    refine y8 Z (.cell Z Fx.agg70 Hm rfl) λW s=>⟨?_,(s.ext)⟩
    first
     | (simp only [readK,Al_List_headD_cons,h15,hw,Al_if_true,Al_if_false,Al_Bool_false_eq_true];rfl)
     | (simp only [readK,Al_List_headD_cons,h15,hw,Al_if_true,Al_if_false,Al_Bool_false_eq_true,Al_List_take_length];rfl)
     | (simp only [readK,Al_List_headD_cons,h15,hw,hw9,Al_if_true,Al_if_false,Al_Bool_false_eq_true];rfl)
     | (simp only [readK,Al_List_headD_cons,h15,hw,hw9,Al_if_true,Al_if_false,Al_Bool_false_eq_true,Al_List_take_length];rfl)
     | (simp only [readK,Al_List_headD_cons,h15,h71,hor,Al_if_true,Al_if_false,Al_Bool_false_eq_true];rfl)
     | (simp only [readK,Al_List_headD_cons,h15,h71,hor,Al_if_true,Al_if_false,Al_Bool_false_eq_true,Al_List_take_length];rfl)
     | (simp only [readK,Al_List_headD_cons,h15,h71,hfind,Al_if_true,Al_if_false,Al_Bool_false_eq_true];rfl)
     | (simp only [readK,Al_List_headD_cons,h15,h71,hfind,Al_if_true,Al_if_false,Al_Bool_false_eq_true,Al_List_take_length];rfl)
     | (simp only [readK,Al_List_headD_cons,h15,h71,hfind,Al_if_true,Al_if_false,Al_Bool_false_eq_true,sym_take hfind];rfl)
     | (simp only [readK,Al_List_headD_cons,h15,h71,hfind,Al_if_true,Al_if_false,Al_Bool_false_eq_true,Al_List_take_length];rfl)
   have hp1:=pre_step (l:=c::m) (k:=0) (by simp) (Al_Nat_zero_le _) h71;have hor:(pre digB (c::m)=1\/c≠48):=.inl (by omega);refine .sk<|.tN<|.sm Z<|.mv Z<|.mv Z<|.yw (.cast (.midS Fx.str9 Z Z Z Z Z (by omega) (by have:=pre_le digB (c::m);omega)) (by rw [mid_take,<-hm]))<|.mv Z<|.yw (.build Z (Fx.bld70_0_1_2 _ _ _))<|.sX .head Z Z Fx.size70 Z<|.nt<|.rt<|.tR<|?_
   refine y8 Z (.cell Z Fx.agg70 Hm rfl) λW s=>⟨?_,(s.ext)⟩
   first
    | (simp only [readK,Al_List_headD_cons,h15,hw,Al_if_true,Al_if_false,Al_Bool_false_eq_true];rfl)
    | (simp only [readK,Al_List_headD_cons,h15,hw,Al_if_true,Al_if_false,Al_Bool_false_eq_true,Al_List_take_length];rfl)
    | (simp only [readK,Al_List_headD_cons,h15,hw,hw9,Al_if_true,Al_if_false,Al_Bool_false_eq_true];rfl)
    | (simp only [readK,Al_List_headD_cons,h15,hw,hw9,Al_if_true,Al_if_false,Al_Bool_false_eq_true,Al_List_take_length];rfl)
    | (simp only [readK,Al_List_headD_cons,h15,h71,hor,Al_if_true,Al_if_false,Al_Bool_false_eq_true];rfl)
    | (simp only [readK,Al_List_headD_cons,h15,h71,hor,Al_if_true,Al_if_false,Al_Bool_false_eq_true,Al_List_take_length];rfl)
    | (simp only [readK,Al_List_headD_cons,h15,h71,hfind,Al_if_true,Al_if_false,Al_Bool_false_eq_true];rfl)
    | (simp only [readK,Al_List_headD_cons,h15,h71,hfind,Al_if_true,Al_if_false,Al_Bool_false_eq_true,Al_List_take_length];rfl)
    | (simp only [readK,Al_List_headD_cons,h15,h71,hfind,Al_if_true,Al_if_false,Al_Bool_false_eq_true,sym_take hfind];rfl)
    | (simp only [readK,Al_List_headD_cons,h15,h71,hfind,Al_if_true,Al_if_false,Al_Bool_false_eq_true,Al_List_take_length];rfl)
  have hor:(pre digB (c::m)=1\/c≠48):=.inr (λe=>h88 (by rw [e];rfl));refine .gG<|.gG<|.gG<|.gG<|.yw (.pickF Z Z)<|.nt<|.cF Z<|.sk<|.tN<|.sm Z<|.mv Z<|.mv Z<|.yw (.cast (.midS Fx.str9 Z Z Z Z Z (by omega) (by have:=pre_le digB (c::m);omega)) (by rw [mid_take,<-hm]))<|.mv Z<|.yw (.build Z (Fx.bld70_0_1_2 _ _ _))<|.sX .head Z Z Fx.size70 Z<|.nt<|.rt<|.tR<|?_
  refine y8 Z (.cell Z Fx.agg70 Hm rfl) λW s=>⟨?_,(s.ext)⟩
  first
   | (simp only [readK,Al_List_headD_cons,h15,hw,Al_if_true,Al_if_false,Al_Bool_false_eq_true];rfl)
   | (simp only [readK,Al_List_headD_cons,h15,hw,Al_if_true,Al_if_false,Al_Bool_false_eq_true,Al_List_take_length];rfl)
   | (simp only [readK,Al_List_headD_cons,h15,hw,hw9,Al_if_true,Al_if_false,Al_Bool_false_eq_true];rfl)
   | (simp only [readK,Al_List_headD_cons,h15,hw,hw9,Al_if_true,Al_if_false,Al_Bool_false_eq_true,Al_List_take_length];rfl)
   | (simp only [readK,Al_List_headD_cons,h15,h71,hor,Al_if_true,Al_if_false,Al_Bool_false_eq_true];rfl)
   | (simp only [readK,Al_List_headD_cons,h15,h71,hor,Al_if_true,Al_if_false,Al_Bool_false_eq_true,Al_List_take_length];rfl)
   | (simp only [readK,Al_List_headD_cons,h15,h71,hfind,Al_if_true,Al_if_false,Al_Bool_false_eq_true];rfl)
   | (simp only [readK,Al_List_headD_cons,h15,h71,hfind,Al_if_true,Al_if_false,Al_Bool_false_eq_true,Al_List_take_length];rfl)
   | (simp only [readK,Al_List_headD_cons,h15,h71,hfind,Al_if_true,Al_if_false,Al_Bool_false_eq_true,sym_take hfind];rfl)
   | (simp only [readK,Al_List_headD_cons,h15,h71,hfind,Al_if_true,Al_if_false,Al_Bool_false_eq_true,Al_List_take_length];rfl)
 refine .sk<|.tN<|.sq<|.sr<|.ct (X:=Nat) Fx.call127 Z (λW s=>symbolsR_any H W s.agr) Z λb105 H1 m1 u1=>.yw (.lenSl Fx.sl71 Z)<|.mv Z<|.nt<|.bk<|.lp (X:=Nat) [(0,_),(1,_),(4,_),(105,_),(106,_)] ⟨Z,Z,Z,Z,Z,Jt⟩ [_] (λk=>[(107,iN k)]) (λk=>H1) (λk=>[]) (λk=>k<=25/\∀ j,j<k->hasP (c::m) (symbols.getD j [])=false) (λk=>25 - k) 0 (λ_ s=>s) ⟨Z,Jt⟩ ⟨by omega,λj hj=>by omega⟩ λk hC=>?_
 obtain ⟨hk0,hne⟩:=hC;refine .sr<|.yw (.lss Z Z)<|.nt<|.sq<|.ce Z (λh108=>?_) (λh108=>?_)
 ·refine .sk<|.tN<|.sq<|.bk<|.sr<|.yw (.indexSl Fx.sl71 Z Z Z (by omega) (q:=k) (by omega))<|.yw (.loadM Z Fx.agg9 m1 (k:=k) (by omega) (list_at (by show k<25;omega) []))<|.a Z Z<|.ns<|.mv Z<|.yw (.lenS Fx.str9 Z)<|.mv Z<|.yw (.sub Z Z (w6 (by omega)))<|.mv Z<|.yw (.lenS Fx.str9 Z)<|.yw (.geq Z Z)<|.mv Z<|.e2 (λh118=>?_) (λh118=>?_)
  ·refine .gy (.move Z)<|.gy (.move Z)<|.gy (.move Z)<|.gy (.move Z)<|.gy (.lenS Fx.str9 Z)<|.gy (.add Z Z w7)<|.gy (.cast (.midS Fx.str9 Z Z Z Z (hi:=o+(symbols.getD k []).length) (by omega) (by omega) (by omega)) (by rw [mid_take,<-hm]))<|.gy (.move Z)<|.gy (.eqS Z Z)<|.yw (.pickT Z Z)<|.nt<|.ce Z (λh128=>?_) (λh128=>?_)
   ·have hfind:=sym_find (l:=c::m) (by omega) hne (by simp only [hasP,Al_Bool_and_eq_true,Al_decide_eq_true_eq] at *;exact ⟨by omega,by assumption⟩);refine .sm Z<|.mv Z<|.yw (.build Z (Fx.bld70_0_1_2 _ _ _))<|.sX .head Z Z Fx.size70 Z<|.zR<|.tR<|.bR<|.tR<|?_
    refine y8 Z (.cell Z Fx.agg70 Hm rfl) λW s=>⟨?_,(u1.grow s).ext⟩
    first
     | (simp only [readK,Al_List_headD_cons,h15,hw,Al_if_true,Al_if_false,Al_Bool_false_eq_true];rfl)
     | (simp only [readK,Al_List_headD_cons,h15,hw,Al_if_true,Al_if_false,Al_Bool_false_eq_true,Al_List_take_length];rfl)
     | (simp only [readK,Al_List_headD_cons,h15,hw,hw9,Al_if_true,Al_if_false,Al_Bool_false_eq_true];rfl)
     | (simp only [readK,Al_List_headD_cons,h15,hw,hw9,Al_if_true,Al_if_false,Al_Bool_false_eq_true,Al_List_take_length];rfl)
     | (simp only [readK,Al_List_headD_cons,h15,h71,hor,Al_if_true,Al_if_false,Al_Bool_false_eq_true];rfl)
     | (simp only [readK,Al_List_headD_cons,h15,h71,hor,Al_if_true,Al_if_false,Al_Bool_false_eq_true,Al_List_take_length];rfl)
     | (simp only [readK,Al_List_headD_cons,h15,h71,hfind,Al_if_true,Al_if_false,Al_Bool_false_eq_true];rfl)
     | (simp only [readK,Al_List_headD_cons,h15,h71,hfind,Al_if_true,Al_if_false,Al_Bool_false_eq_true,Al_List_take_length];rfl)
     | (simp only [readK,Al_List_headD_cons,h15,h71,hfind,Al_if_true,Al_if_false,Al_Bool_false_eq_true,sym_take hfind];rfl)
     | (simp only [readK,Al_List_headD_cons,h15,h71,hfind,Al_if_true,Al_if_false,Al_Bool_false_eq_true,Al_List_take_length];rfl)
   exact .sk<|.bN<|.tN<|.rg<|.yw (.add Z Z w7)<|.mv Z<|.nt<|.ag (k+1) ⟨Z,Jt⟩ ⟨Z,Z,Z,Z,Z,Jt⟩ (λ_ s=>s) ⟨by omega,λj hj=>by
   by_cases e:j=k
   ·subst e;simp only [hasP,Al_Bool_and_eq_false_iff,Al_decide_eq_false_iff_not] at *;first | exact .inl (by omega) | exact .inr (by assumption)
   ·exact hne j (by omega)⟩ (by omega)
  exact .gG<|.gG<|.gG<|.gG<|.gG<|.gG<|.gG<|.gG<|.gG<|.yw (.pickF Z Z)<|.nt<|.cF Z<|.sk<|.bN<|.tN<|.rg<|.yw (.add Z Z w7)<|.mv Z<|.nt<|.ag (k+1) ⟨Z,Jt⟩ ⟨Z,Z,Z,Z,Z,Jt⟩ (λ_ s=>s) ⟨by omega,λj hj=>by
   by_cases e:j=k
   ·subst e;simp only [hasP,Al_Bool_and_eq_false_iff,Al_decide_eq_false_iff_not] at *;first | exact .inl (by omega) | exact .inr (by assumption)
   ·exact hne j (by omega)⟩ (by omega)
 have hfind:=sym_none (l:=c::m) (λj hj=>hne j (by omega));refine .ex<|.eb<|.sm Z<|.mv Z<|.yw (.cast (.dropS Fx.str9 Z Z Z (by omega)) (by rw [<-hm]))<|.mv Z<|.yw (.build Z (Fx.bld70_0_1_2 _ _ _))<|.sX .head Z Z Fx.size70 Z<|.nt<|.rt<|?_
 refine y8 Z (.cell Z Fx.agg70 Hm rfl) λW s=>⟨?_,(u1.grow s).ext⟩
 first
  | (simp only [readK,Al_List_headD_cons,h15,hw,Al_if_true,Al_if_false,Al_Bool_false_eq_true];rfl)
  | (simp only [readK,Al_List_headD_cons,h15,hw,Al_if_true,Al_if_false,Al_Bool_false_eq_true,Al_List_take_length];rfl)
  | (simp only [readK,Al_List_headD_cons,h15,hw,hw9,Al_if_true,Al_if_false,Al_Bool_false_eq_true];rfl)
  | (simp only [readK,Al_List_headD_cons,h15,hw,hw9,Al_if_true,Al_if_false,Al_Bool_false_eq_true,Al_List_take_length];rfl)
  | (simp only [readK,Al_List_headD_cons,h15,h71,hor,Al_if_true,Al_if_false,Al_Bool_false_eq_true];rfl)
  | (simp only [readK,Al_List_headD_cons,h15,h71,hor,Al_if_true,Al_if_false,Al_Bool_false_eq_true,Al_List_take_length];rfl)
  | (simp only [readK,Al_List_headD_cons,h15,h71,hfind,Al_if_true,Al_if_false,Al_Bool_false_eq_true];rfl)
  | (simp only [readK,Al_List_headD_cons,h15,h71,hfind,Al_if_true,Al_if_false,Al_Bool_false_eq_true,Al_List_take_length];rfl)
  | (simp only [readK,Al_List_headD_cons,h15,h71,hfind,Al_if_true,Al_if_false,Al_Bool_false_eq_true,sym_take hfind];rfl)
  | (simp only [readK,Al_List_headD_cons,h15,h71,hfind,Al_if_true,Al_if_false,Al_Bool_false_eq_true,Al_List_take_length];rfl)
variable {m:Str}
theorem lex_next {o:Nat} (hm:m=s.drop o) (h:o<s.length) (hsl:(skipS false (m.drop (readK m).2)).length<=m.length - (readK m).2) :
 skipS false (m.drop (readK m).2)=s.drop (o+(m.length - (skipS false (m.drop (readK m).2)).length)):=by
 have h1:=skipS_drop false (m.drop (readK m).2);rw [Al_List_length_drop,Al_List_drop_drop] at h1
 by_cases h0:(readK m).2<=m.length
 ·rw [show (readK m).2+(m.length - (readK m).2 - (skipS false (m.drop (readK m).2)).length)=m.length - (skipS false (m.drop (readK m).2)).length by omega] at h1;rw [<-Al_List_drop_drop,<-hm];exact h1.symm
 ·have e:m.drop (readK m).2=[]:=Al_List_drop_of_length_le (by omega);rw [e,skipS_nil,<-Al_List_drop_drop,<-hm];simp
theorem next_m (H:Hp) (s:Str) (hl:s.length<=1000000) (o:Nat) (ho:o<s.length) (m:Str) (hm:m=s.drop o) (w:World) (hA:Agr H w) :
 Calls prg 68 #[strV s,iN o] w λr w'=>r=.returned (.agg (cTk .i64 ⟨(readK m).1,m.take (readK m).2,o⟩).toArray)/\Ext w w':=by
 subst hm;exact next_any H s hl o ho w hA
theorem lexR_any (H:Hp) (s:Str) (hl:s.length<=1000000) (w:World) (hA:Agr H w) :
 Calls prg 32 #[strV s] w λr w'=>∃ (v:Value) (H':Hp),Rep H' (.seq 3 ((lexR s).map (dTk .i64))) [v]/\r=.returned v/\Grow H w H' w':=by
 refine Sx.enter (H:=H) func32 rfl ntmps32 rfl hA ?_;refine .sr<|.a Z Z<|.ns<|.a Z Z<|?_
 refine Sx.row0 70 3 ?_;refine .ns<|.mv Z<|.yw (.call Fx.call67 Z (λW _=>skip_any s hl 0 (by omega) W))<|.aq Z<|.sq<|.bk<|.lp (X:=Nat × Nat × Value × List Value) [(0,_)] ⟨Z,Jt⟩ [] (λz=>[(3,z.2.2.1),(4,iN z.1)]) (λz=>H) (λz=>[.row 70 3 z.2.2.1 z.2.1 z.2.2.2]) (λz=>z.1<=s.length/\z.2.1<=z.1/\∃ tk:List Tk,tk.length=z.2.1/\RepZ H 3 (tk.map (dTk .i64)) z.2.2.2/\tk++tokF (s.length+1) z.1 (s.drop z.1)=lexR s) (λz=>s.length - z.1) (s.length - (skipS false s).length,0,.slice none 0 0,[]) (λ_ s=>s) ⟨Z,Z,Jt⟩ ⟨by dsimp only;omega,by dsimp only;omega,[],Z,RepZ.nil,by rw [skipS_drop];rfl⟩ λz hC=>?_
 obtain ⟨o,n,r,xs⟩:=z;dsimp only at hC|-;obtain ⟨ho,hn,tk,hk,hz,htk⟩:=hC;refine .sq<|.sm Z<|.mv Z<|.yw (.lenS Fx.str9 Z)<|.yw (.lss Z Z)<|.nt<|.ce Z (λh11=>?_) (λh11=>?_)
 ·have hlt:o<s.length:=by omega
  obtain ⟨m,hm⟩:∃ m,m=s.drop o:=⟨_,Z⟩;have hml:m.length=s.length - o:=by rw [hm,Al_List_length_drop]
  have hm0:m≠[]:=by intro e;rw [e] at hml;simp at hml;omega
  have hrk:=readK_bnd hm0;have htl:(m.take (readK m).2).length=(readK m).2:=by rw [Al_List_length_take];omega
  rw [<-hm] at htk;have hsl:=skipS_len false (m.drop (readK m).2);rw [Al_List_length_drop] at hsl;exact .sk<|.tN<|.bk<|.sm Z<|.mv Z<|.yw (.call Fx.call68 Z (λW t=>next_m H s hl o hlt m hm W t.agr))<|.al Fx.zero70 Z λb5=>.sW .head Z Z Fx.size70 (by simp [cTk,Value.oneCell',strV]) Z<|.ns<|.mv Z<|.yw (.loadW Z Fx.agg70 Hm Z)<|.bl Z (Fx.bsl67_1 _ _ _) Z λb17=>.ap (news:=cTk .i64 ⟨(readK m).1,m.take (readK m).2,o⟩) Fx.row67 Z (λ_=>upd2) Z (.box Hm z0) Z (by simp [cTk,Value.oneCell',strV]) (by simp [maxLen];omega) (by omega) Z λr18 _=>.aq Z<|.rg<|.mv Z<|.mv Z<|.fA Z Fx.field70_1<|.lD Z Fx.agg9 mem1 Z<|.yw (.lenS Fx.str9 Z)<|.yw (.add Z Z (c:=((o+(readK m).2:Nat):Int)) (by rw [htl];exact (w6 (by omega)).trans (by omega)))<|.yw (.cast (.call Fx.call67 Z (λW _=>skip_any s hl (o+(readK m).2) (by omega) W)) (by rw [<-Al_List_drop_drop,<-hm,show s.length - (skipS false (m.drop (readK m).2)).length=o+(m.length - (skipS false (m.drop (readK m).2)).length) by omega]))<|.a Z Z<|.nl<|.bN<|.tN<|.ag (x:=(o,n,r,xs)) (o+(m.length - (skipS false (m.drop (readK m).2)).length),n+1,r18,xs++cTk .i64 ⟨(readK m).1,m.take (readK m).2,o⟩) ⟨Z,Z,Jt⟩ ⟨Z,Jt⟩ (λ_ s=>(s.pick [2] _ Z Z)) ⟨by dsimp only;omega,by dsimp only;omega,tk++[⟨(readK m).1,m.take (readK m).2,o⟩],by simp;omega,by dsimp only;rw [Al_List_map_append];exact hz.snoc (tk_shut (by rw [htl];omega)) Z,by dsimp only;rw [<-htk,Al_List_append_assoc,<-lex_next hm hlt hsl,tokF_step hm0,Al_List_cons_append,Al_List_nil_append,tokF_more (s.length+1) s.length _ _ (by omega) (by omega)]⟩ (by dsimp only;omega)
 obtain rfl:o=s.length:=by omega
 rw [List.drop_length,tokF_nil,Al_List_append_nil] at htk;refine .ex<|.eb<|.sm Z<|.az Z<|?_
 refine At.pm [0] [_] rfl rfl ?_;refine freezeSeq (ds:=(lexR s).map (dTk .i64)) (by rw [<-htk];simp;omega) (by rw [<-htk];exact hz) λH3 p3 c3 u3 hr3 hs3=>?_;exact y9 Z Z λW t=>⟨r,H3,hs3,Z,u3.grow t⟩
theorem one_of {x:Tk} (h:(lexR s).length=1) (hx:(lexR s)[0]=x):lexR s=[x]:=by
 match e:lexR s,h with
 | [y],_=>simp only [e,List.getElem_cons_zero] at hx;rw [hx]
theorem name_no1 (h:¬ (lexR s).length=1):nameB s=false:=by
 rw [Bool.eq_false_iff,Ne,lex_name];rintro ⟨o,e⟩;rw [e] at h;exact h rfl
theorem name_no2 {x:Tk} (h:(lexR s).length=1) (hx:(lexR s)[0]=x) (hk:¬ x.k=1):nameB s=false:=by
 rw [Bool.eq_false_iff,Ne,lex_name];rintro ⟨o,e⟩;rw [one_of h hx] at e;injection e with e _
 exact hk (by rw [e])
theorem name_is {x:Tk} (h:(lexR s).length=1) (hx:(lexR s)[0]=x) (hk:x.k=1):nameB s=decide (x.t=s):=by
 rw [Al_Bool_eq_iff_iff,lex_name,Al_decide_eq_true_eq,one_of h hx];obtain ⟨k,t,o⟩:=x
 constructor
 ·rintro ⟨o,e⟩;injection e with e _
  injection e
 ·intro e;dsimp only at hk e;exact ⟨o,by rw [hk,e]⟩
theorem isNameR_any (H:Hp) (s:Str) (hl:s.length<=1000000) (w:World) (hA:Agr H w) :
 Calls prg 83 #[strV s] w λr w'=>r=.returned (.bool (nameB s))/\Ext w w':=by
 refine Sx.enter (H:=H) func83 rfl ntmps83 rfl hA ?_;refine .sr<|.a Z Z<|.ns<|.mv Z<|.ct (X:=Value) Fx.call32 Z (λW t=>lexR_any H s hl W t.agr) Z λv H1 hsq u1=>?_
 obtain ⟨p,c,e,_⟩:=hsq.sl;simp only [Al_List_cons_injEq,Al_and_true] at e;subst e;refine .a Z Z<|.ns<|.mv Z<|.yw (.lenSl Fx.sl67 Z)<|.yw (.eql Z Z)<|.mv Z<|.e2 (λh9=>?_) (λh9=>?_)
 ·have hl1:(lexR s).length=1:=by simp only [Al_List_length_map] at *;omega
  obtain ⟨bE,oE,cE,hpE,rE,lE,mE⟩:=hsq.elem (map_at (f:=dTk .i64) (show 0<(lexR s).length by omega));subst hpE;generalize hx:(lexR s)[0]=x at rE;obtain ⟨rfl,hxt⟩:=tk_open rE;refine .gy (.move Z)<|.gy (.indexSl Fx.sl67 Z Z (i:=0) Z (by omega) (q:=oE+0 * 3) (by omega))<|.gy (.fieldAddr Z Fx.field70_0)<|.gy (.loadM Z Fx.agg3 mE (k:=0) Z Z)<|.gy (.eql Z Z)<|.yw (.pickT Z Z)<|.mv Z<|.e2 (λh16=>?_) (λh16=>?_)
  ·have hk1:x.k=1:=Al_UInt8_toNat_inj.1 (by show x.k.toNat=1;omega);refine .gy (.move Z)<|.gy (.indexSl Fx.sl67 Z Z (i:=0) Z (by omega) (q:=oE+0 * 3) (by omega))<|.gy (.fieldAddr Z Fx.field70_1)<|.gy (.loadM Z Fx.agg9 mE (k:=1) Z Z)<|.gy (.move Z)<|.gy (.eqS Z Z)<|.yw (.pickT Z Z)<|.az Z<|?_
   refine y9 Z Z λW t=>⟨?_,(u1.grow t).ext⟩
   first
    | (rw [hno])
    | (rw [name_is hl1 hx hk1])
  have hno:nameB s=false:=name_no2 hl1 hx (λe=>h16 (by rw [e];rfl));refine .gG<|.gG<|.gG<|.gG<|.gG<|.gG<|.yw (.pickF Z Z)<|.az Z<|?_
  refine y9 Z Z λW t=>⟨?_,(u1.grow t).ext⟩
  first
   | (rw [hno])
   | (rw [name_is hl1 hx hk1])
 have hno:nameB s=false:=name_no1 (by simp only [Al_List_length_map] at *;omega);refine .gG<|.gG<|.gG<|.gG<|.gG<|.yw (.pickF Z Z)<|.mv Z<|.gG<|.gG<|.gG<|.gG<|.gG<|.gG<|.yw (.pickF Z Z)<|.az Z<|?_
 refine y9 Z Z λW t=>⟨?_,(u1.grow t).ext⟩
 first
  | (rw [hno])
  | (rw [name_is hl1 hx hk1])
theorem Fx.call84:callN prg 84=true:=by kernel_rfl
theorem misI {op:UInt8} {nm:Str} {n:Int64} {args:List Ex} :misB (.mk op nm n args)=(!tnB op nm || args.any misB):=by rw [misB_mk,tn_mis]
theorem tn_no {op:UInt8} {nm:Str} (h:(decide (((op.toNat:Nat):Int)=5) || decide (((op.toNat:Nat):Int)=6) || decide (((op.toNat:Nat):Int)=8))=false):tnB op nm=true:=by
 rw [<-d_op 5 (i:=5) (by decide) rfl,<-d_op 6 (i:=6) (by decide) rfl,<-d_op 8 (i:=8) (by decide) rfl] at h;simp only [Al_Bool_or_eq_false_iff,Al_decide_eq_false_iff_not] at h;unfold tnB;rw [Al_if_neg (by rintro (e | e | e);exact h.1.1 e;exact h.1.2 e;exact h.2 e)]
theorem tnI {op:UInt8} {nm:Str} (h:(decide (((op.toNat:Nat):Int)=5) || decide (((op.toNat:Nat):Int)=6) || decide (((op.toNat:Nat):Int)=8))=true):tnB op nm=if (splitF nm).isSome then nameB (spA nm) && nameB (spB nm) else decide (((op.toNat:Nat):Int)=5) && nameB nm:=by
 rw [<-d_op 5 (i:=5) (by decide) rfl,<-d_op 6 (i:=6) (by decide) rfl,<-d_op 8 (i:=8) (by decide) rfl] at h;simp only [Al_Bool_or_eq_true,Al_decide_eq_true_eq] at h;unfold tnB spA spB;rw [Al_if_pos (by rcases h with (e | e) | e;exact .inl e;exact .inr (.inl e);exact .inr (.inr e)),<-d_op 5 (i:=5) (by decide) rfl];cases splitF nm with
 | none=>rfl
 | some x=>rfl
theorem termNames_any (e:Ex):∀ (H:Hp) (cs:List Value) (w:World),Rep H (dEx .i64 e) cs->Agr H w->Calls prg 84 #[.agg cs.toArray] w λr w'=>r=.returned (.bool (!misB e))/\Ext w w':=by
 induction e using Ex.ind with | _ op nm nn args ih
 intro H cs w h hA;obtain ⟨pp,c,rfl,hs,hnm⟩:=ex_open h;have hcap:=hs.cap;have hsa:=spA_len nm;have hsb:=spB_len nm;refine Sx.enter (H:=H) func84 rfl ntmps84 rfl hA ?_;refine .sr<|.bx Z Z Z λb1=>.aq Z<|.cu (X:=Unit) [(1,_)] ⟨Z,Jt⟩ (λu=>[]) (λu=>H) (λu=>[.box b1 [.int .i64 op.toNat,strV nm,.int .i64 nn.toInt,.slice pp args.length c] 83]) (λu=>tnB op nm=true) ?_ λu hC=>?_
 ·
  refine .cu (X:=Bool) [(1,_)] ⟨Z,Jt⟩ (λz2=>[(20,.bool z2)]) (λz2=>H) (λz2=>[.box b1 [.int .i64 op.toNat,strV nm,.int .i64 nn.toInt,.slice pp args.length c] 83]) (λz2=>z2=(decide (((op.toNat:Nat):Int)=5) || decide (((op.toNat:Nat):Int)=6) || decide (((op.toNat:Nat):Int)=8))) ?_ λz2 hC=>?_
  ·
   refine .rg<|.fA Z Fx.field83_0<|.lD Z Fx.agg3 Hm Z<|.yw (.eql Z Z)<|.mv Z<|.e2 (λh11=>?_) (λh11=>?_)
   ·exact .gG<|.gG<|.gG<|.yw (.pickT Z Z)<|.mv Z<|.gG<|.gG<|.gG<|.yw (.pickT Z Z)<|.nt<|.me _ ⟨Z,Jt⟩ ⟨Z,Jt⟩ (λ_ s=>s) (by rw [Al_decide_eq_true h11];rfl)
   refine .gy (.fieldAddr Z Fx.field83_0)<|.gy (.load Z Fx.agg3 Hm Z)<|.gy (.eql Z Z)<|.yw (.pickF Z Z)<|.mv Z<|.e2 (λh16=>?_) (λh16=>?_)
   ·exact .gG<|.gG<|.gG<|.yw (.pickT Z Z)<|.nt<|.me _ ⟨Z,Jt⟩ ⟨Z,Jt⟩ (λ_ s=>s) (by rw [Al_decide_eq_false h11,Al_decide_eq_true h16];rfl)
   exact .gy (.fieldAddr Z Fx.field83_0)<|.gy (.load Z Fx.agg3 Hm Z)<|.gy (.eql Z Z)<|.yw (.pickF Z Z)<|.nt<|.me _ ⟨Z,Jt⟩ ⟨Z,Jt⟩ (λ_ s=>s) (by rw [Al_decide_eq_false h11,Al_decide_eq_false h16];rfl)
  have e2:=hC;refine .cd Z (λh20=>?_) (λh20=>?_)
  ·have q20:(decide (((op.toNat:Nat):Int)=5) || decide (((op.toNat:Nat):Int)=6) || decide (((op.toNat:Nat):Int)=8))=true:=by rw [h20] at e2;exact e2.symm
   refine .sr<|.fA Z Fx.field83_1<|.lD Z Fx.agg9 Hm Z<|.yw (.call (v:=spV nm) Fx.call21 Z (λW s=>rsplit_any H nm (by omega) W s.agr))<|.mv Z<|.yw (.extract Z Z)<|.yw (.extract Z Z)<|.yw (.extract Z Z)<|.a Z Z<|.a Z Z<|.aq Z<|.cu (X:=Bool) [(1,_)] ⟨Z,Jt⟩ (λz5=>[(53,.bool z5)]) (λz5=>H) (λz5=>[.box b1 [.int .i64 op.toNat,strV nm,.int .i64 nn.toInt,.slice pp args.length c] 83]) (λz5=>z5=!tnB op nm) ?_ λz5 hC=>?_
   ·
    refine .rg<|.mv Z<|.mv Z<|.b2 (λh29=>?_) (λh29=>?_)
    ·try simp only [dt] at h29
     refine .gy (.move Z)<|.gy (.call Fx.call83 Z (λW s=>isNameR_any H (spA nm) (by omega) W s.agr))<|.gy (.not Z)<|.gy (.move Z)<|.b2 (λh33=>?_) (λh33=>?_)
     ·try simp only [dt] at h33
      exact .gG<|.gG<|.gG<|.gy (.pickT Z Z)<|.yw (.pickT Z Z)<|.mv Z<|.gG<|.gG<|.gG<|.gV<|.gV<|.gV<|.gV<|.gV<|.gV<|.gV<|.gV<|.gV<|.gG<|.yw (.pickT Z Z)<|.nt<|.me _ ⟨Z,Jt⟩ ⟨Z,Jt⟩ (λ_ s=>s) (by clear ih h hs hA;rw [tnI q20];simp_all)
     try simp only [df] at h33
     refine .gy (.move Z)<|.gy (.call Fx.call83 Z (λW s=>isNameR_any H (spB nm) (by omega) W s.agr))<|.gy (.not Z)<|.gy (.pickF Z Z)<|.yw (.pickT Z Z)<|.mv Z<|.b2 (λh39=>?_) (λh39=>?_)
     ·try simp only [dt] at h39
      exact .gG<|.gG<|.gG<|.gV<|.gV<|.gV<|.gV<|.gV<|.gV<|.gV<|.gV<|.gV<|.gG<|.yw (.pickT Z Z)<|.nt<|.me _ ⟨Z,Jt⟩ ⟨Z,Jt⟩ (λ_ s=>s) (by clear ih h hs hA;rw [tnI q20];simp_all)
     try simp only [df] at h39
     refine .gy (.move Z)<|.gy (.not Z)<|.gy (.move Z)<|.b2 (λh42=>?_) (λh42=>?_)
     ·try simp only [dt] at h42
      refine .gy (.fieldAddr Z Fx.field83_0)<|.gy (.load Z Fx.agg3 Hm Z)<|.gy (.neq Z Z)<|.gy (.move Z)<|.b2 (λh46=>?_) (λh46=>?_)
      ·try simp only [dt] at h46
       exact .gG<|.gG<|.gG<|.gG<|.gy (.pickT Z Z)<|.gy (.pickT Z Z)<|.yw (.pickF Z Z)<|.nt<|.me _ ⟨Z,Jt⟩ ⟨Z,Jt⟩ (λ_ s=>s) (by clear ih h hs hA;rw [tnI q20];simp_all)
      try simp only [df] at h46
      exact .gy (.fieldAddr Z Fx.field83_1)<|.gy (.load Z Fx.agg9 Hm Z)<|.gy (.call Fx.call83 Z (λW s=>isNameR_any H nm (by omega) W s.agr))<|.gy (.not Z)<|.gy (.pickF Z Z)<|.gy (.pickT Z Z)<|.yw (.pickF Z Z)<|.nt<|.me _ ⟨Z,Jt⟩ ⟨Z,Jt⟩ (λ_ s=>s) (by clear ih h hs hA;rw [tnI q20];simp_all)
     try simp only [df] at h42
     exact .gG<|.gG<|.gG<|.gG<|.gV<|.gV<|.gV<|.gV<|.gG<|.gy (.pickF Z Z)<|.yw (.pickF Z Z)<|.nt<|.me _ ⟨Z,Jt⟩ ⟨Z,Jt⟩ (λ_ s=>s) (by clear ih h hs hA;rw [tnI q20];simp_all)
    try simp only [df] at h29
    refine .gG<|.gG<|.gG<|.gG<|.gV<|.gV<|.gV<|.gG<|.yw (.pickF Z Z)<|.mv Z<|.gy (.move Z)<|.gy (.not Z)<|.gy (.move Z)<|.b2 (λh42=>?_) (λh42=>?_)
    ·try simp only [dt] at h42
     refine .gy (.fieldAddr Z Fx.field83_0)<|.gy (.load Z Fx.agg3 Hm Z)<|.gy (.neq Z Z)<|.gy (.move Z)<|.b2 (λh46=>?_) (λh46=>?_)
     ·try simp only [dt] at h46
      exact .gG<|.gG<|.gG<|.gG<|.gy (.pickT Z Z)<|.gy (.pickT Z Z)<|.yw (.pickF Z Z)<|.nt<|.me _ ⟨Z,Jt⟩ ⟨Z,Jt⟩ (λ_ s=>s) (by clear ih h hs hA;rw [tnI q20];simp_all)
     try simp only [df] at h46
     exact .gy (.fieldAddr Z Fx.field83_1)<|.gy (.load Z Fx.agg9 Hm Z)<|.gy (.call Fx.call83 Z (λW s=>isNameR_any H nm (by omega) W s.agr))<|.gy (.not Z)<|.gy (.pickF Z Z)<|.gy (.pickT Z Z)<|.yw (.pickF Z Z)<|.nt<|.me _ ⟨Z,Jt⟩ ⟨Z,Jt⟩ (λ_ s=>s) (by clear ih h hs hA;rw [tnI q20];simp_all)
    try simp only [df] at h42
    exact .gG<|.gG<|.gG<|.gG<|.gV<|.gV<|.gV<|.gV<|.gG<|.gy (.pickF Z Z)<|.yw (.pickF Z Z)<|.nt<|.me _ ⟨Z,Jt⟩ ⟨Z,Jt⟩ (λ_ s=>s) (by clear ih h hs hA;rw [tnI q20];simp_all)
   have e5:=hC;refine .cd Z (λh53=>?_) (λh53=>?_)
   ·have ht:tnB op nm=false:=by rw [h53] at e5;simpa using e5.symm
    refine .sr<|.az Z<|.tR<|?_
    refine y9 Z Z λW s=>⟨ret_b ?_,s.ext⟩
    first
     | (rw [misI,ht];rfl;done)
     | (rw [misI,ht,hal];rfl;done)
     | (rw [misI,any_at hk (by simpa using h63)];simp;done)
   have ht:tnB op nm=true:=by rw [h53] at e5;simpa using e5.symm
   exact .sk<|.tN<|.me () trivial ⟨Z,Jt⟩ (λ_ s=>s) ht
  have q20:(decide (((op.toNat:Nat):Int)=5) || decide (((op.toNat:Nat):Int)=6) || decide (((op.toNat:Nat):Int)=8))=false:=by rw [h20] at e2;exact e2.symm
  have ht:tnB op nm=true:=tn_no q20;exact .sk<|.tN<|.me () trivial ⟨Z,Jt⟩ (λ_ s=>s) ht
 have ht:=hC;refine .sq<|.sr<|.fA Z Fx.field83_3<|.lD Z Fx.agg24 Hm Z<|.yw (.lenSl Fx.sl24 Z)<|.mv Z<|.nt<|.bk<|.lp (X:=Nat) [(55,_),(56,_)] ⟨Z,Z,Jt⟩ [_] (λk=>[(57,iN k)]) (λk=>H) (λk=>[]) (λk=>k<=args.length/\(args.take k).any misB=false) (λk=>args.length - k) 0 (λ_ s=>s) ⟨Z,Jt⟩ ⟨Al_Nat_zero_le _,Z⟩ λk hC=>?_
 obtain ⟨hk0,hal⟩:=hC;refine .sr<|.yw (.lss Z Z)<|.nt<|.sq<|.ce Z (λh58=>?_) (λh58=>?_)
 ·have hk:k<args.length:=by omega
  obtain ⟨bE,oE,cE,hpE,rE,lE,mE⟩:=hs.elem (map_at (f:=dEx .i64) hk);cases hpE;refine .sk<|.tN<|.sq<|.bk<|.sr<|.yw (.indexSl Fx.sl24 Z Z Z (by omega) (q:=oE+k * 4) Z)<|.yw (.loadMW Z Fx.agg83 mE lE)<|.al Fx.zero83 Z λb7=>.sV .head Z Z Fx.size83 lE rE.one Z<|.ns<|.yw (.loadW Z Fx.agg83 Hm lE)<|.yw (.call Fx.call84 Z (λW s=>ih _ (Al_List_getElem_mem hk) H cE W rE s.agr))<|.yw (.not Z)<|.nt<|.cd Z (λh63=>?_) (λh63=>?_)
  ·refine .sr<|.az Z<|.bR<|.tR<|.tR<|.bR<|.tR<|?_
   refine y9 Z Z λW s=>⟨ret_b ?_,s.ext⟩
   first
    | (rw [misI,ht];rfl;done)
    | (rw [misI,ht,hal];rfl;done)
    | (rw [misI,any_at hk (by simpa using h63)];simp;done)
  exact .sk<|.bN<|.tN<|.rg<|.yw (.add Z Z w7)<|.mv Z<|.nt<|.ag (k+1) ⟨Z,Jt⟩ ⟨Z,Z,Jt⟩ (λ_ s=>s.pick [1] [_] Z Z) ⟨by omega,any_take hk hal (by simpa using h63)⟩ (by omega)
 obtain rfl:k=args.length:=by omega
 rw [Al_List_take_length] at hal;refine .ex<|.eb<|.sr<|.az Z<|?_
 refine y9 Z Z λW s=>⟨ret_b ?_,s.ext⟩
 first
  | (rw [misI,ht];rfl;done)
  | (rw [misI,ht,hal];rfl;done)
  | (rw [misI,any_at hk (by simpa using h63)];simp;done)
theorem Fx.call41:callN prg 41=true:=by kernel_rfl
theorem namI {op:UInt8} {nm fd:Str} {b:Int64} {ex:List Ex} {args:List Fm} :namdB (.mk op nm fd a b ex args)=(!(rfN op.toNat && !nameB nm || rfF op.toNat && !nameB fd) && !ex.any misB):=by rw [nam_mk,fs_nm,fs_fd,rfF_op,show rfN op.toNat=fdN op from rfl]
theorem rnames_any (f:Fm):∀ (H:Hp) (cs:List Value) (w:World),Rep H (dFm .i64 f) cs->Agr H w->Calls prg 41 #[.agg cs.toArray] w λr w'=>r=.returned (.bool (Fm.all namdB f))/\Ext w w':=by
 induction f using Fm.ind with | _ op nm fd a b ex args ih
 intro H cs w h hA;obtain ⟨p1,c1,p2,c2,rfl,hs1,hs2,hnm,hfd⟩:=fm_open h;have hcap1:=hs1.cap;have hcap2:=hs2.cap;refine Sx.enter (H:=H) func41 rfl ntmps41 rfl hA ?_;refine .sr<|.bx Z Z Z λb1=>.a Z Z<|.ns<|.fA Z Fx.field27_0<|.lD Z Fx.agg3 Hm Z<|.yw (.call Fx.call82 Z (λW s=>fields_any H op.toNat W s.agr))<|.mv Z<|.yw (.extract Z Z)<|.yw (.extract Z Z)<|.a Z Z<|.aq Z<|.sq<|.cu (X:=Bool) [(1,_)] ⟨Z,Jt⟩ (λz9=>[(30,.bool z9)]) (λz9=>H) (λz9=>[.box b1 [.int .i64 op.toNat,strV nm,strV fd,.int .i64 a.toInt,.int .i64 b.toInt,.slice p1 ex.length c1,.slice p2 args.length c2] 27]) (λz9=>z9=(rfN op.toNat && !nameB nm || rfF op.toNat && !nameB fd)) ?_ λz9 hC=>?_
 ·
  refine .rg<|.mv Z<|.mv Z<|.b2 (λh16=>?_) (λh16=>?_)
  ·try simp only [dt] at h16
   refine .gy (.fieldAddr Z Fx.field27_1)<|.gy (.load Z Fx.agg9 Hm Z)<|.gy (.call Fx.call83 Z (λW s=>isNameR_any H nm (by omega) W s.agr))<|.gy (.not Z)<|.yw (.pickT Z Z)<|.mv Z<|.b2 (λh22=>?_) (λh22=>?_)
   ·try simp only [dt] at h22
    exact .gG<|.gG<|.gV<|.gV<|.gV<|.gV<|.gG<|.yw (.pickT Z Z)<|.nt<|.me _ ⟨Z,Jt⟩ ⟨Z,Jt⟩ (λ_ s=>s) (by clear ih h hs1 hs2 hA;simp_all)
   try simp only [df] at h22
   refine .gy (.move Z)<|.gy (.move Z)<|.b2 (λh24=>?_) (λh24=>?_)
   ·try simp only [dt] at h24
    exact .gy (.fieldAddr Z Fx.field27_2)<|.gy (.load Z Fx.agg9 Hm Z)<|.gy (.call Fx.call83 Z (λW s=>isNameR_any H fd (by omega) W s.agr))<|.gy (.not Z)<|.gy (.pickT Z Z)<|.yw (.pickF Z Z)<|.nt<|.me _ ⟨Z,Jt⟩ ⟨Z,Jt⟩ (λ_ s=>s) (by clear ih h hs1 hs2 hA;simp_all)
   try simp only [df] at h24
   exact .gG<|.gG<|.gG<|.gG<|.gy (.pickF Z Z)<|.yw (.pickF Z Z)<|.nt<|.me _ ⟨Z,Jt⟩ ⟨Z,Jt⟩ (λ_ s=>s) (by clear ih h hs1 hs2 hA;simp_all)
  try simp only [df] at h16
  refine .gG<|.gG<|.gG<|.gG<|.yw (.pickF Z Z)<|.mv Z<|.gy (.move Z)<|.gy (.move Z)<|.b2 (λh24=>?_) (λh24=>?_)
  ·try simp only [dt] at h24
   exact .gy (.fieldAddr Z Fx.field27_2)<|.gy (.load Z Fx.agg9 Hm Z)<|.gy (.call Fx.call83 Z (λW s=>isNameR_any H fd (by omega) W s.agr))<|.gy (.not Z)<|.gy (.pickT Z Z)<|.yw (.pickF Z Z)<|.nt<|.me _ ⟨Z,Jt⟩ ⟨Z,Jt⟩ (λ_ s=>s) (by clear ih h hs1 hs2 hA;simp_all)
  try simp only [df] at h24
  exact .gG<|.gG<|.gG<|.gG<|.gy (.pickF Z Z)<|.yw (.pickF Z Z)<|.nt<|.me _ ⟨Z,Jt⟩ ⟨Z,Jt⟩ (λ_ s=>s) (by clear ih h hs1 hs2 hA;simp_all)
 have e9:=hC;refine .cd Z (λh30=>?_) (λh30=>?_)
 ·have hb:(rfN op.toNat && !nameB nm || rfF op.toNat && !nameB fd)=true:=by rw [h30] at e9;exact e9.symm
  refine .sr<|.az Z<|.tR<|?_
  refine y9 Z Z λW s=>⟨ret_b ?_,s.ext⟩
  first
   | (rw [fm_allL,namI,hb,hno,hal2];rfl;done)
   | (rw [fm_allL,allF_at hk2 (by simpa using h51)];simp;done)
   | (rw [fm_allL,namI,any_at hk (by simpa using h40)];simp;done)
   | (rw [fm_allL,namI,hb];rfl;done)
 have hb:(rfN op.toNat && !nameB nm || rfF op.toNat && !nameB fd)=false:=by rw [h30] at e9;exact e9.symm
 refine .sk<|.tN<|.sq<|.sr<|.fA Z Fx.field27_5<|.lD Z Fx.agg24 Hm Z<|.yw (.lenSl Fx.sl24 Z)<|.mv Z<|.nt<|.bk<|.lp (X:=Nat) [(1,_),(32,_),(33,_)] ⟨Z,Z,Z,Jt⟩ [_] (λk=>[(34,iN k)]) (λk=>H) (λk=>[]) (λk=>k<=ex.length/\(ex.take k).any misB=false) (λk=>ex.length - k) 0 (λ_ s=>s) ⟨Z,Jt⟩ ⟨Al_Nat_zero_le _,Z⟩ λk hC=>?_
 obtain ⟨hk0,hal⟩:=hC;refine .sr<|.yw (.lss Z Z)<|.nt<|.sq<|.ce Z (λh35=>?_) (λh35=>?_)
 ·have hk:k<ex.length:=by omega
  obtain ⟨bE,oE,cE,hpE,rE,lE,mE⟩:=hs1.elem (map_at (f:=dEx .i64) hk);cases hpE;refine .sk<|.tN<|.sq<|.bk<|.sr<|.yw (.indexSl Fx.sl24 Z Z Z (by omega) (q:=oE+k * 4) Z)<|.yw (.loadMW Z Fx.agg83 mE lE)<|.al Fx.zero83 Z λb6=>.sV .head Z Z Fx.size83 lE rE.one Z<|.ns<|.yw (.loadW Z Fx.agg83 Hm lE)<|.yw (.call Fx.call84 Z (λW s=>termNames_any _ H _ W rE s.agr))<|.yw (.not Z)<|.nt<|.cd Z (λh40=>?_) (λh40=>?_)
  ·refine .sr<|.az Z<|.bR<|.tR<|.tR<|.bR<|.tR<|?_
   refine y9 Z Z λW s=>⟨ret_b ?_,s.ext⟩
   first
    | (rw [fm_allL,namI,hb,hno,hal2];rfl;done)
    | (rw [fm_allL,allF_at hk2 (by simpa using h51)];simp;done)
    | (rw [fm_allL,namI,any_at hk (by simpa using h40)];simp;done)
    | (rw [fm_allL,namI,hb];rfl;done)
  exact .sk<|.bN<|.tN<|.rg<|.yw (.add Z Z w7)<|.mv Z<|.nt<|.ag (k+1) ⟨Z,Jt⟩ ⟨Z,Z,Z,Jt⟩ (λ_ s=>s.pick [1] [_] Z Z) ⟨by omega,any_take hk hal (by simpa using h40)⟩ (by omega)
 obtain rfl:k=ex.length:=by omega
 rw [Al_List_take_length] at hal;have hno:=hal;refine .ex<|.eb<|.sq<|.sr<|.fA Z Fx.field27_6<|.lD Z Fx.agg25 Hm Z<|.yw (.lenSl Fx.sl25 Z)<|.mv Z<|.nt<|.bk<|.lp (X:=Nat) [(43,_),(44,_)] ⟨Z,Z,Jt⟩ [_] (λk2=>[(45,iN k2)]) (λk2=>H) (λk2=>[]) (λk2=>k2<=args.length/\(args.take k2).all (Fm.all namdB)=true) (λk2=>args.length - k2) 0 (λ_ s=>s) ⟨Z,Jt⟩ ⟨Al_Nat_zero_le _,Z⟩ λk2 hC=>?_
 obtain ⟨hk20,hal2⟩:=hC;refine .sr<|.yw (.lss Z Z)<|.nt<|.sq<|.ce Z (λh46=>?_) (λh46=>?_)
 ·have hk2:k2<args.length:=by omega
  obtain ⟨bF,oF,cF,hpF,rF,lF,mF⟩:=hs2.elem (map_at (f:=dFm .i64) hk2);cases hpF;refine .sk<|.tN<|.sq<|.bk<|.sr<|.yw (.indexSl Fx.sl25 Z Z Z (by omega) (q:=oF+k2 * 7) Z)<|.yw (.loadMW Z Fx.agg27 mF lF)<|.al Fx.zero27 Z λb8=>.sV .head Z Z Fx.size27 lF rF.one Z<|.ns<|.yw (.loadW Z Fx.agg27 Hm lF)<|.yw (.call Fx.call41 Z (λW s=>ih _ (Al_List_getElem_mem hk2) H cF W rF s.agr))<|.yw (.not Z)<|.nt<|.cd Z (λh51=>?_) (λh51=>?_)
  ·refine .sr<|.az Z<|.bR<|.tR<|.tR<|.bR<|.tR<|?_
   refine y9 Z Z λW s=>⟨ret_b ?_,s.ext⟩
   first
    | (rw [fm_allL,namI,hb,hno,hal2];rfl;done)
    | (rw [fm_allL,allF_at hk2 (by simpa using h51)];simp;done)
    | (rw [fm_allL,namI,any_at hk (by simpa using h40)];simp;done)
    | (rw [fm_allL,namI,hb];rfl;done)
  exact .sk<|.bN<|.tN<|.rg<|.yw (.add Z Z w7)<|.mv Z<|.nt<|.ag (k2+1) ⟨Z,Jt⟩ ⟨Z,Z,Jt⟩ (λ_ s=>s.pick [1] [_] Z Z) ⟨by omega,allF_take hk2 hal2 (by simpa using h51)⟩ (by omega)
 obtain rfl:k2=args.length:=by omega
 rw [Al_List_take_length] at hal2;refine .ex<|.eb<|.sr<|.az Z<|?_
 refine y9 Z Z λW s=>⟨ret_b ?_,s.ext⟩
 first
  | (rw [fm_allL,namI,hb,hno,hal2];rfl;done)
  | (rw [fm_allL,allF_at hk2 (by simpa using h51)];simp;done)
  | (rw [fm_allL,namI,any_at hk (by simpa using h40)];simp;done)
  | (rw [fm_allL,namI,hb];rfl;done)
theorem dc_t (h:(60:Int)<((n:Nat):Int)):decide (60<n)=true:=Al_decide_eq_true (by omega)
theorem dc_f (h:¬ (60:Int)<((n:Nat):Int)):decide (60<n)=false:=Al_decide_eq_false (by omega)
theorem rcheck_any (H:Hp) (f:Fm) (hgd:gdF f=true) (hct:f.count<=1000000) (cs:List Value) (w:World) (h:Rep H (dFm .i64 f) cs) (hA:Agr H w):Calls prg 17 #[.agg cs.toArray] w λr w'=>r=.returned (iN (fcheck f))/\Ext w w':=by
 obtain ⟨op,nm,fd,a,b,ex,args⟩:=f;obtain ⟨p1,c1,p2,c2,rfl,hs1,hs2,hnm,hfd⟩:=fm_open h;have hcap1:=hs1.cap;have hcap2:=hs2.cap;refine Sx.enter (H:=H) func17 rfl ntmps17 rfl hA ?_;refine .sr<|.bx Z Z Z λb1=>.aq Z<|.sq<|.bk<|.cu (X:=Bool) [(1,_)] ⟨Z,Jt⟩ (λz9=>[(3,.bool z9)]) (λz9=>H) (λz9=>[.box b1 [.int .i64 op.toNat,strV nm,strV fd,.int .i64 a.toInt,.int .i64 b.toInt,.slice p1 ex.length c1,.slice p2 args.length c2] 27]) (λz9=>z9=(decide (60<Fm.count (.mk op nm fd a b ex args)) || !Fm.all shalB (.mk op nm fd a b ex args))) ?_ λz9 hC=>?_
 ·
  refine .rg<|.yw (.loadW Z Fx.agg27 Hm Z)<|.yw (.call Fx.call23 Z (λW s=>size_any (.mk op nm fd a b ex args) H _ W h (by omega) s.agr))<|.yw (.gtr Z Z)<|.mv Z<|.e2 (λh7=>?_) (λh7=>?_)
  ·exact .gG<|.gG<|.yw (.pickT Z Z)<|.aq Z<|.me _ ⟨Z,Jt⟩ ⟨Z,Jt⟩ (λ_ s=>s) (by rw [dc_t h7];rfl)
  exact .gy (.loadW Z Fx.agg27 Hm Z)<|.gy (.call Fx.call40 Z (λW s=>rdeep_any (.mk op nm fd a b ex args) hgd H _ W h s.agr))<|.yw (.pickF Z Z)<|.aq Z<|.me _ ⟨Z,Jt⟩ ⟨Z,Jt⟩ (λ_ s=>s) (by rw [dc_f h7];rfl)
 have e9:=hC;refine .cd Z (λh3=>?_) (λh3=>?_)
 ·have hc:60<Fm.count (.mk op nm fd a b ex args)\/Fm.all shalB (.mk op nm fd a b ex args)=false:=by rw [h3] at e9;simpa using e9
  refine .sr<|.az Z<|.bR<|.tR<|?_
  refine y9 Z Z λW s=>⟨?_,s.ext⟩
  first
   | (unfold fcheck;rw [Al_if_neg hc,Al_if_neg (by rw [hn];decide),Al_if_neg (by rw [hf];decide)];rfl;done)
   | (unfold fcheck;rw [Al_if_neg hc,Al_if_neg (by rw [hn];decide),Al_if_pos hf];rfl;done)
   | (unfold fcheck;rw [Al_if_neg hc,Al_if_pos hn];rfl;done)
   | (unfold fcheck;rw [Al_if_pos hc];rfl;done)
 have hc:¬ (60<Fm.count (.mk op nm fd a b ex args)\/Fm.all shalB (.mk op nm fd a b ex args)=false):=by rw [h3] at e9;simpa using e9
 refine .sr<|.yw (.loadW Z Fx.agg27 Hm Z)<|.yw (.call Fx.call41 Z (λW s=>rnames_any (.mk op nm fd a b ex args) H _ W h s.agr))<|.yw (.not Z)<|.aq Z<|.cd Z (λh11=>?_) (λh11=>?_)
 ·have hn:Fm.all namdB (.mk op nm fd a b ex args)=false:=by simpa using h11
  refine .sr<|.az Z<|.bR<|.tR<|?_
  refine y9 Z Z λW s=>⟨?_,s.ext⟩
  first
   | (unfold fcheck;rw [Al_if_neg hc,Al_if_neg (by rw [hn];decide),Al_if_neg (by rw [hf];decide)];rfl;done)
   | (unfold fcheck;rw [Al_if_neg hc,Al_if_neg (by rw [hn];decide),Al_if_pos hf];rfl;done)
   | (unfold fcheck;rw [Al_if_neg hc,Al_if_pos hn];rfl;done)
   | (unfold fcheck;rw [Al_if_pos hc];rfl;done)
 have hn:Fm.all namdB (.mk op nm fd a b ex args)=true:=by simpa using h11
 refine .sr<|.yw (.loadW Z Fx.agg27 Hm Z)<|.yw (.call Fx.call42 Z (λW s=>rform_any (.mk op nm fd a b ex args) H _ W h s.agr))<|.yw (.not Z)<|.aq Z<|.cd Z (λh15=>?_) (λh15=>?_)
 ·have hf:Fm.all formB (.mk op nm fd a b ex args)=false:=by simpa using h15
  refine .sr<|.az Z<|.bR<|.tR<|?_
  refine y9 Z Z λW s=>⟨?_,s.ext⟩
  first
   | (unfold fcheck;rw [Al_if_neg hc,Al_if_neg (by rw [hn];decide),Al_if_neg (by rw [hf];decide)];rfl;done)
   | (unfold fcheck;rw [Al_if_neg hc,Al_if_neg (by rw [hn];decide),Al_if_pos hf];rfl;done)
   | (unfold fcheck;rw [Al_if_neg hc,Al_if_pos hn];rfl;done)
   | (unfold fcheck;rw [Al_if_pos hc];rfl;done)
 have hf:Fm.all formB (.mk op nm fd a b ex args)=true:=by simpa using h15
 refine .sk<|.bN<|.tN<|.sr<|.az Z<|?_
 refine y9 Z Z λW s=>⟨?_,s.ext⟩
 first
  | (unfold fcheck;rw [Al_if_neg hc,Al_if_neg (by rw [hn];decide),Al_if_neg (by rw [hf];decide)];rfl;done)
  | (unfold fcheck;rw [Al_if_neg hc,Al_if_neg (by rw [hn];decide),Al_if_pos hf];rfl;done)
  | (unfold fcheck;rw [Al_if_neg hc,Al_if_pos hn];rfl;done)
  | (unfold fcheck;rw [Al_if_pos hc];rfl;done)
theorem Fx.call17:callN prg 17=true:=by kernel_rfl
theorem formulaChecks_any (H:Hp) (GL:Gl H) (G:Gf H) (gq:Gq H) (l:List Nf) (v:Value) (h:Rep H (.seq 8 (l.map dNf)) [v]) (w:World) (hA:Agr H w) :
 Calls prg 3 #[v] w λr w'=>r=.returned (.bool true)/\Ext w w':=by
 refine Sx.enter (H:=H) func3 rfl ntmps3 rfl hA ?_;refine .sr<|.aq Z<|.sq<|.sr<|.yw (.call Fx.call13 Z (λW s=>awake_any H GL G gq W s.agr))<|.yw (.not Z)<|.nt<|.cF Z<|.sk<|.tN<|.sm Z<|.ct (X:=List Value) Fx.call14 Z (λW s=>buildF34_any H l v h W s.agr) Z λx1 H1 hx1 u1=>?_
 obtain ⟨g1,r1,hg1,hc1⟩:=hx1;refine .al Fx.zero27 Z λb3=>.sV .head Z Z Fx.size27 (fm_len r1) r1.one Z<|.nt<|.sq<|.fL 6 [(0,0),(3,0),(1,1),(2,0),(4,0),(5,0)]<|.yw (.loadW Z Fx.agg27 Hm (fm_len r1))<|.yw (.loadW Z Fx.agg27 Hm (fm_len r1))<|.ct (X:=List Value) Fx.call16 Z (λW s=>form_any g1 hg1 H1 _ W r1 s.agr) Z λx2 H2 r2 u2=>?_
 have r1u:=r1.up u2.up;refine .yw (.call Fx.call15 Z (λW s=>fcheck_any H2 ((GL.up u1.up).up u2.up) ((G.up u1.up).up u2.up) g1 (gd_blF (by decide) g1 hg1) _ W r2 s.agr))<|.yw (.call Fx.call17 Z (λW s=>rcheck_any H2 g1 hg1 (by omega) _ W r1u s.agr))<|.yw (.cast (.eql Z Z) (congrArg Value.bool (Al_decide_eq_true Z)))<|.fn (tl:=[_]) Z<|.az Z<|?_
 exact y9 Z Z λW s=>⟨Z,((u1.trans u2).grow s).ext⟩
variable {H:Type} {enc:TypeId × Value->H}
variable {f:FuncId}
theorem wrap {a:Assume} {C:Checked} {os:Os} {fn:Func} {s:ChangeSpec} {conds:List PathCond} {apart fresh handsOn again:Bool} {X:World->Array Value->Prop} 
 (hX:∀ (w w':World) (args:Array Value),w.heap=w'.heap->X w args->X w' args)
 (own:ownKnob C.prog.godebug=none) (started:os.Started) (noInit:C.prog.inits.idxOf? f=none) (hfn:C.prog.funcs[f]? = some fn)
 (witness:∃ (w:World) (tape:Tape) (i:Input),w.os=os/\(w.forCall tape i).Shaped C.prog/\i.vars=[]/\Input.okWide C.prog (w.forCall tape i) .any w.heap.size f i /\
  ((s.pre enc C.prog fn conds apart (w.forCall tape i).memory i.args/\X (w.forCall tape i).memory i.args)/\sizedMet enc C.prog fn (OpenSpec.ofChange s) apart (w.forCall tape i).memory i.args)/\a.holds C.prog (lone (Frame.enter C.prog f i.args .normal) [] (w.forCall tape i)))
 (contract:∀ (W:World) (base:Nat) (args:Array Value) (ds gs:List (DataW H)) (before:List MemPlace),
  (∀ (j:Nat) t v,fn.params[j]? = some t->args[j]? = some v->Value.okWide C.prog W .any base t v) ->
  DataW.Whole enc C.prog fn.params.toList s.vars apart W args.toList ds gs before ->
  X W args->W.ShapedOpen C.prog ->
  Calls C.prog f args W λe W'=>∃ v,e=.returned v/\s.post enc C.prog fn apart fresh handsOn again W args v W') :
 ReturnsInHanded a C os f .any (λw args=>(s.pre enc C.prog fn conds apart w args/\X w args)/\sizedMet enc C.prog fn (OpenSpec.ofChange s) apart w args) (s.post enc C.prog fn apart fresh handsOn again):=by
 refine returnsInHanded_of_calls own started noInit witness ?_;intro w tape i _ hsh _ hok hpre _;obtain ⟨_,_,_,fn',hfn',_,_,_,_,hval⟩:=hok;have e:fn'=fn:=Al_Option_some_inj (hfn'.symm.trans hfn);subst e;obtain ⟨⟨⟨ds,gs,before,hw,_⟩,hx⟩,_⟩:=hpre;have hw':=DataW.Whole.of_heap (w':=w.forCall tape i) (by rfl) hw;refine (contract (w.forCall tape i) w.heap.size i.args ds gs before hval hw' (hX _ _ _ (by rfl) hx) hsh).mono λe W' ⟨v,he,hp⟩=>?_;subst he;exact ChangeSpec.post_blind hp

theorem own:ownKnob prg.godebug=none:=by kernel_rfl
def laids:List (String × DataW Unit):=[("math/bits.deBruijn32tab",Rows.laid_math_bits_deBruijn32tab),("math/bits.deBruijn64tab",Rows.laid_math_bits_deBruijn64tab),("internal/strconv.uint64pow10",Rows.laid_internal_strconv_uint64pow10),("rootcause/lexer.words",Rows.laid_rootcause_lexer_words),("rootcause/lexer.symbols",Rows.laid_rootcause_lexer_symbols),("rootcause/formula.shapes",Rows.laid_rootcause_formula_shapes),("rootcause/formula.symbols",Rows.laid_rootcause_formula_symbols),("rootcause/formula.words",Rows.laid_rootcause_formula_words)]
theorem gTab:prg.globalNamed "internal/strconv.uint64pow10" = some 6:=by kernel_rfl
theorem gTabT:(prg.globals[6]?).map (·.type)=some 257:=by kernel_rfl
theorem cellsTab:prg.cellsOf 257=20:=by kernel_rfl
theorem cellsTabE:prg.cellsOf 242=1:=by kernel_rfl
theorem tabEq:(Rows.laid_internal_strconv_uint64pow10:DataW Unit)=Lib.tabData .u64 Lib.pow10Tab:=by kernel_rfl
variable {W:World}
theorem gt_of (h:laidMet prg laids W):Gq (allH W):=by
 intro W' hA;have h1:Lib.TabIs prg W "internal/strconv.uint64pow10" .u64 Lib.pow10Tab:=Lib.tabIs_of_head gTab gTabT Tryz.underlying257 Tryz.underlying242 cellsTabE cellsTab (tabEq ▸ h.tail.tail);unfold Lib.TabIs World.var? at *;rw [gTab] at *;simp only [Al_Option_bind_some] at *
 split at h1
 ·rename_i cs T m hb;rw [hA 6 _ hb];exact h1
 ·cases h1
theorem gl_of (h:laidMet prg laids W):Gl (allH W) :=
 ⟨laid_mem (t:=235) (.arr 39 .strg) _ (by kernel_rfl) (by kernel_rfl) (by kernel_rfl) (by kernel_rfl) (by kernel_rfl) h.tail.tail.tail,
  laid_mem (t:=217) (.arr 25 .strg) _ (by kernel_rfl) (by kernel_rfl) (by kernel_rfl) (by kernel_rfl) (by kernel_rfl) h.tail.tail.tail.tail⟩
theorem gf_of (h:laidMet prg laids W):Gf (allH W) :=
 ⟨laid_mem (t:=163) (.arr 19 .strg) _ (by kernel_rfl) (by kernel_rfl) (by kernel_rfl) (by kernel_rfl) (by kernel_rfl) h.tail.tail.tail.tail.tail.tail.tail,
  laid_mem (t:=165) (.arr 22 .strg) _ (by kernel_rfl) (by kernel_rfl) (by kernel_rfl) (by kernel_rfl) (by kernel_rfl) h.tail.tail.tail.tail.tail.tail,
  laid_mem (t:=200) (.arr 19 (.str [.int .u8,.bool,.bool,.bool,.bool,.int .u8,.int .u8])) _ (by kernel_rfl) (by kernel_rfl) (by kernel_rfl) (by kernel_rfl) (by kernel_rfl) h.tail.tail.tail.tail.tail⟩
theorem laid_met (os:Os) (args:Array Value):laidMet prg laids ((World.laidAll prg os laids).forCall (λ_ _=>0) ⟨#[],args,[]⟩).memory :=
 laidMet_laidAll _ (by kernel_rfl) (by kernel_rfl)
theorem laid_shaped (os:Os) (args:Array Value):((World.laidAll prg os laids).forCall (λ_ _=>0) ⟨#[],args,[]⟩).Shaped prg :=
 World.shaped_of_ZipB (by kernel_rfl) (by kernel_rfl)
variable {W':World}
theorem ext_kept (h:Ext W W'):∀ may,W.keptBut W' may:=λmay=>(Ext.below h).frame may
theorem laidOut:laidOutB prg=true:=by kernel_rfl
end Go.Proofs.YtidclioghdbphaaGreatDoor
/- The walk lifted: for every input, rootcauselaw34.FormulaChecks returns true, and its arguments read as they did (the tied card FormulaChecksCardSaid). Conditions: the card's own (the listed package variables read as the program's initialisers lay them, tied to the text), and no others. -/
namespace Go.Proofs.YtidclioghdbphaaGreatDoor
open Go.RowKit Go.Par Go.Sx
theorem node_of {x:D} (h:Ty.has (.str [.int .u8,.int .u8,.int .u8,.bool,.int .i64]) x):∃ y:Nd,x=dNd y:=by
 simp only [Ty.has,Ty.hasL] at h;obtain ⟨_,rfl,_,_,rfl,⟨a,rfl,ha⟩,_,_,rfl,⟨b,rfl,hb⟩,_,_,rfl,⟨c,rfl,hc⟩,_,_,rfl,⟨o,rfl⟩,_,_,rfl,⟨n,rfl,hn⟩,rfl⟩:=h;obtain ⟨a,rfl⟩:=has_u8 ha;obtain ⟨b,rfl⟩:=has_u8 hb;obtain ⟨c,rfl⟩:=has_u8 hc;obtain ⟨n,rfl⟩:=has_i64 hn;exact ⟨⟨a,b,c,o,n⟩,Z⟩
theorem u8d_of {x:D} (h:Ty.has (.int .u8) x):∃ y:UInt8,x=.val (.int .u8 y.toNat):=by
 simp only [Ty.has] at h;obtain ⟨n,rfl,hn⟩:=h;obtain ⟨a,rfl⟩:=has_u8 hn;exact ⟨a,Z⟩
theorem i64_of {x:D} (h:Ty.has (.int .i64) x):∃ y:Int64,x=.val (.int .i64 y.toInt):=by
 simp only [Ty.has] at h;obtain ⟨n,rfl,hn⟩:=h;obtain ⟨a,rfl⟩:=has_i64 hn;exact ⟨a,Z⟩
theorem seq_of {α:Type} {f:α->D} {τ:Ty} {x:D} (k:∀ y,Ty.has τ y->∃ z,y=f z) (h:Ty.has (.seq τ) x):∃ l:List α,x=.seq τ.cells (l.map f):=by
 unfold Ty.has at h;obtain ⟨ds,rfl,h1⟩:=h;obtain ⟨l,rfl⟩:=list_of (f:=f) λx hx=>k x (h1 x hx);exact ⟨l,Z⟩
theorem nf_of {x:D} (h:Ty.has (.str [.int .u8,.int .u8,.int .u8,.int .u8,.bool,.int .i64,.int .i64,.seq (.str [.int .u8,.int .u8,.int .u8,.bool,.int .i64])]) x):∃ y:Nf,x=dNf y:=by
 rw [Ty.has] at h;obtain ⟨ds,rfl,h⟩:=h;simp only [Ty.hasL] at h;obtain ⟨_,_,rfl,h1,_,_,rfl,h2,_,_,rfl,h3,_,_,rfl,h4,_,_,rfl,h5,_,_,rfl,h6,_,_,rfl,h7,_,_,rfl,h8,rfl⟩:=h;obtain ⟨a,rfl⟩:=u8d_of h1;obtain ⟨b,rfl⟩:=u8d_of h2;obtain ⟨c,rfl⟩:=u8d_of h3;obtain ⟨d,rfl⟩:=u8d_of h4;simp only [Ty.has] at h5;obtain ⟨o,rfl⟩:=h5;obtain ⟨m,rfl⟩:=i64_of h6;obtain ⟨n,rfl⟩:=i64_of h7;obtain ⟨l,rfl⟩:=seq_of (f:=dNd) (λ_=>node_of) h8;exact ⟨⟨a,b,c,d,o,m,n,l⟩,Z⟩
variable {W:World} {b:Nat} {v:Value}
theorem open_nodes {H:Type} {enc:TypeId × Value->H} {base:Nat} {sp:Nat->Bool} {held:Bool} {d:DataW H} {p:List MemPlace} (hv:Value.okWide prg W .any b 22 v) (h:DataW.Trod enc prg W base sp held 22 v d p) :
 ∃ l:List Nf,Rep (allH W) (.seq 8 (l.map dNf)) [v]:=by
 obtain ⟨a0,n0,c0,rfl⟩:=Go.WideShapes.okWide_slice Tryz.underlying22 hv;obtain ⟨fuel,hf⟩:=h;obtain ⟨d,hd,hr⟩:=Ty.opens W (.seq (.str [.int .u8,.int .u8,.int .u8,.int .u8,.bool,.int .i64,.int .i64,.seq (.str [.int .u8,.int .u8,.int .u8,.bool,.int .i64])])) 22 fuel _ _ (by kernel_rfl) (by kernel_rfl) hf;obtain ⟨l,rfl⟩:=seq_of (f:=dNf) (λ_=>nf_of) hd;exact ⟨l,hr⟩
namespace formulaChecks
open Go.ChangeShapes Go.WideShapes Go.ChangeAt Go.RowKit
open Go.ChangeMaps (open_string shut_string)
theorem lifted (os:Os) (started:os.Started) (H:Type) (enc:TypeId × Value->H) :
 ReturnsInHanded {} Tryz.checked os 3 .any (λw args=>(Rows.formulaChecksSpec.pre enc prg Tryz.f3 [] false w args/\laidMet prg laids w)/\sizedMet enc prg Tryz.f3 (OpenSpec.ofChange Rows.formulaChecksSpec) false w args)
  (Rows.formulaChecksSpec.post enc prg Tryz.f3 false true false false):=by
 refine wrap (C:=Tryz.checked) (X:=λw _=>laidMet prg laids w) (λ_ _ _ hh h=>h.of_heap hh) own started (by kernel_rfl) Tryz.func3
  (ChangeSpec.witness_shaped (enc:=enc) (C:=Tryz.checked) (os:=os) (X:=λw _=>laidMet prg laids w) false (World.laidAll prg os laids) #[.slice none 0 0] 8 (World.laidAll_os _ _ _) (laid_shaped os _) (by kernel_rfl) (by kernel_rfl) (by kernel_rfl) (laid_met os _)) ?_
 intro W base args ds gs before hval0 hW hL hS;have GL:=gl_of hL;have G:=gf_of hL;have gq:=gt_of hL;have hval:∀ (j:Nat) t v,Tryz.f3.params[j]? = some t->args[j]? = some v->Value.okWide prg W .any base t v:=hval0;have hW':=hW;obtain ⟨p,q,hA0,hV,rfl,hfz,hnd⟩:=hW;have hA:DataW.TrodAll enc prg W 0 (λ_=>true) true Tryz.f3.params.toList args.toList ds p:=hA0;rw [Tryz.params3] at hA hval;obtain ⟨v0,d0,rfl,rfl,h0⟩:=trodAll_one hA;obtain ⟨rfl,rfl⟩:=trodVars_none hV;have k0:=h0;have hlt0:∀ x∈p,x.block<W.heap.size:=λx hx=>hW'.lt x (by simp [hx]);obtain ⟨l0,hr0⟩:=open_nodes (hval 0 22 v0 rfl rfl) h0;clear hA0 hval0;simp only [Al_List_append_nil] at hW';refine (formulaChecks_any (allH W) GL G gq l0 v0 hr0 W (allH_agr W)).mono λe W' ⟨he,hg⟩=>?_;subst he;refine ⟨_,Z,_,_,_,[],p,[],hW',?_,?_,Z,ext_kept hg _,λh=>by cases h⟩
 ·exact trodAll_mk1 (shut_bool Tryz.underlying4 _)
 ·exact trodAll_mk1 (Below.trod laidOut (by kernel_rfl) (Al_of_decide_eq_true (by kernel_rfl)) k0 hg.below hlt0)
end formulaChecks
end Go.Proofs.YtidclioghdbphaaGreatDoor
