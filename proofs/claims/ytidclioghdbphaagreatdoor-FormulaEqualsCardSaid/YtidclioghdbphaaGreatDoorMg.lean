/- Texts of the proof, one behind the other. -/
import Derived.Test.YtidclioghdbphaaGreatDoorMf
set_option linter.all false
set_option maxRecDepth 100000
namespace Go.Proofs.YtidclioghdbphaaGreatDoor
open Go.RowKit Go.Par Go.Sx Tryz
variable {n:Nat}
theorem cv_n (h:n<256):IntKind.i64.wrap (n:Int)=(Int64.ofNat n).toInt:=by
 rw [Al_Int64_toInt_ofNat_of_lt (by omega)];exact w64 (by omega) (by omega)
theorem gd_1 {e:Ex} (h:goodE 1 e):gdE e=true:=by
 unfold gdE;rw [Al_decide_eq_true (show e.depth<=34 by have:=h.1;omega),h.2];rfl
theorem gd_pr {e:Ex} (h:goodE 1 e):goodE 1 (prE e):=⟨by rw [prE_depth];exact h.1,by rw [prE_narrow];exact h.2⟩
theorem gd_2 {e:Ex} (h:goodE 1 e):gdE e=true:=gd_1 h
theorem gd_3 {op:UInt8} {n:Int64} {e:Ex} (h:goodE 1 e):gdE (.mk op [] 0 [e,.mk 1 [] n []])=true:=by
 unfold gdE;have h1:=h.1;rw [all_mk,narrow_mk,Ex.alls,Ex.alls,Ex.alls,h.2,depth_mk,Ex.deeps,Ex.deeps,Ex.deeps,depth_mk,Ex.deeps,Al_Bool_and_eq_true,Al_decide_eq_true_eq];exact ⟨by omega,Z⟩
def OneC (x:Nf) (cs:List Value) (H:Hp):Prop:=∃ (op:UInt8) (nm fd:Str) (a b:Int64) (ex:List Ex) (p:Option Addr) (c:Nat),cs=[.int .i64 op.toNat,strV nm,strV fd,.int .i64 a.toInt,.int .i64 b.toInt,.slice p ex.length c,.slice none 0 0]/\Rep H (.seq 4 (ex.map (dEx .i64))) [.slice p ex.length c]/\op.toNat=x.op.toNat % 19/\nm.length<=13/\fd.length<=13/\ex.length<=4/\(∀ e∈ex,gdE e=true)/\Ex.counts ex<=800
set_option maxHeartbeats 2000000 in
theorem one_any (H:Hp) (x:Nf) (cs:List Value) (h:Rep H (dNf x) cs) (w:World) (hA:Agr H w) :
 Calls prg 69 #[.agg cs.toArray] w λr w'=>∃ (y:List Value) (H':Hp),OneC x y H'/\r=.returned (.agg y.toArray)/\Grow H w H' w':=by
 obtain ⟨p,c,rfl,hts⟩:=nf_open h;have hcap:=hts.cap;obtain ⟨op,hop⟩:∃ op:UInt8,op.toNat=x.op.toNat % 19:=⟨UInt8.ofNat (x.op.toNat % 19),by simp [Al_UInt8_toNat_ofNat'];omega⟩;have hct:=x.ct.toNat_lt;have hfdl:=x.fd.toNat_lt;refine Sx.enter (H:=H) func69 rfl ntmps69 rfl hA ?_;refine .sr<|.bx Z Z Z λb1=>.al Fx.zero27 Z λb2=>.ns<|.fA Z Fx.field151_0<|.lD Z Fx.agg5 mem1 Z<|.yw (.rem Z Z (by decide) (c:=((x.op.toNat % 19:Nat):Int)) (by rw [Al_Int_tmod_eq_emod_of_nonneg (by omega)];omega))<|.yw (.conv Z Fx.int5 Fx.int3 (c:=((op.toNat:Nat):Int)) ((w6 (by omega)).trans (by rw [hop])))<|.yw (.build Z (Fx.bld27_0 _))<|.al Fx.zero27 Z λb3=>.sX .head Z Z Fx.size27 Z<|.ns<|.fA Z Fx.field27_0<|.lD Z Fx.agg3 Hm Z<|.yw (.call Fx.call82 Z (λW s=>fields_any H op.toNat W s.agr))<|.mv Z<|.yw (.extract Z Z)<|.yw (.extract Z Z)<|.a Z Z<|.aq Z<|.cu (X:=Str) [(1,_),(2,_),(3,_),(5,_)] ⟨Z,Z,Z,Z,Jt⟩ (λnm=>[]) (λnm=>H) (λnm=>[.box b3 [.int .i64 op.toNat,strV nm,strV [],.int .i64 ((0:Int64)).toInt,.int .i64 ((0:Int64)).toInt,.slice none 0 0,.slice none 0 0] 27,.box b2 [.int .i64 0,.string ⟨#[]⟩,.string ⟨#[]⟩,.int .i64 0,.int .i64 0,.slice none 0 0,.slice none 0 0] 27,.box b1 [.int .u8 x.op.toNat,.int .u8 x.nm.toNat,.int .u8 x.fd.toNat,.int .u8 x.ct.toNat,.bool x.odd,.int .i64 x.a.toInt,.int .i64 x.b.toInt,.slice p x.ts.length c] 151]) (λnm=>nm.length<=13) ?_ λnm hC=>?_
 ·
  refine .sm Z<|.nt<|.cd Z (λh19=>?_) (λh19=>?_)
  ·exact .rg<|.fA Z Fx.field151_1<|.lD Z Fx.agg5 mem2 Z<|.yw (.call Fx.call128 Z (λW s=>word_any _ x.nm W s.agr))<|.fA Z Fx.field27_1<|.st .head Z Z Fx.size9 Z (nb Z) Z<|.nt<|.me (wordR x.nm) trivial ⟨Z,Z,Z,Z,Jt⟩ (λ_ s=>s) (word_len _)
  exact .sk<|.tN<|.me [] trivial ⟨Z,Z,Z,Z,Jt⟩ (λ_ s=>s) (by decide)
 have hnm:=hC;refine .cu (X:=Str) [(1,_),(2,_),(3,_)] ⟨Z,Z,Z,Jt⟩ (λfd=>[]) (λfd=>H) (λfd=>[.box b3 [.int .i64 op.toNat,strV nm,strV fd,.int .i64 ((0:Int64)).toInt,.int .i64 ((0:Int64)).toInt,.slice none 0 0,.slice none 0 0] 27,.box b2 [.int .i64 0,.string ⟨#[]⟩,.string ⟨#[]⟩,.int .i64 0,.int .i64 0,.slice none 0 0,.slice none 0 0] 27,.box b1 [.int .u8 x.op.toNat,.int .u8 x.nm.toNat,.int .u8 x.fd.toNat,.int .u8 x.ct.toNat,.bool x.odd,.int .i64 x.a.toInt,.int .i64 x.b.toInt,.slice p x.ts.length c] 151]) (λfd=>fd.length<=13) ?_ λfd hC=>?_
 ·
  refine .sm Z<|.nt<|.cd Z (λh24=>?_) (λh24=>?_)
  ·exact .rg<|.fA Z Fx.field151_2<|.lD Z Fx.agg5 mem2 Z<|.yw (.call Fx.call128 Z (λW s=>word_any _ x.fd W s.agr))<|.fA Z Fx.field27_2<|.st .head Z Z Fx.size9 Z (nb Z) Z<|.nt<|.me (wordR x.fd) trivial ⟨Z,Z,Z,Jt⟩ (λ_ s=>s) (word_len _)
  exact .sk<|.tN<|.me [] trivial ⟨Z,Z,Z,Jt⟩ (λ_ s=>s) (by decide)
 have hfd:=hC;refine .cu (X:=Int64 × Int64) [(1,_),(2,_),(3,_)] ⟨Z,Z,Z,Jt⟩ (λab=>[]) (λab=>H) (λab=>[.box b3 [.int .i64 op.toNat,strV nm,strV fd,.int .i64 ((ab.1:Int64)).toInt,.int .i64 ((ab.2:Int64)).toInt,.slice none 0 0,.slice none 0 0] 27,.box b2 [.int .i64 0,.string ⟨#[]⟩,.string ⟨#[]⟩,.int .i64 0,.int .i64 0,.slice none 0 0,.slice none 0 0] 27,.box b1 [.int .u8 x.op.toNat,.int .u8 x.nm.toNat,.int .u8 x.fd.toNat,.int .u8 x.ct.toNat,.bool x.odd,.int .i64 x.a.toInt,.int .i64 x.b.toInt,.slice p x.ts.length c] 151]) (λab=>True) ?_ λab hC=>?_
 ·
  refine .sr<|.fA Z Fx.field27_0<|.lD Z Fx.agg3 Hm Z<|.yw (.geq Z Z)<|.mv Z<|.e2 (λh32=>?_) (λh32=>?_)
  ·refine .gy (.fieldAddr Z Fx.field27_0)<|.gy (.load Z Fx.agg3 Hm Z)<|.gy (.neq Z Z)<|.yw (.pickT Z Z)<|.nt<|.ce Z (λh36=>?_) (λh36=>?_)
   ·exact .fL 7 [(0,0),(1,0),(2,0),(3,0),(4,0),(5,3),(6,0)]<|.fA Z Fx.field151_5<|.lD Z Fx.agg3 mem2 Z<|.fA Z Fx.field151_6<|.lD Z Fx.agg3 mem2 Z<|.fA Z Fx.field27_3<|.st .head Z Z Fx.size3 Z Z Z ((.dn<|.yv (.load Z Fx.agg3 mem2 Z)<|.yv (.fieldAddr Z Fx.field151_6)<|.d2<|.nl))<|.fA Z Fx.field27_4<|.fn (tl:=[_]) Z<|.st .head Z Z Fx.size3 Z (nb Z) Z<|.nt<|.me (x.a,x.b) trivial ⟨Z,Z,Z,Jt⟩ (λ_ s=>s) trivial
   exact .sk<|.tN<|.me (0,0) trivial ⟨Z,Z,Z,Jt⟩ (λ_ s=>s) trivial
  exact .gG<|.gG<|.gG<|.yw (.pickF Z Z)<|.nt<|.cF Z<|.sk<|.tN<|.me (0,0) trivial ⟨Z,Z,Z,Jt⟩ (λ_ s=>s) trivial
 obtain ⟨a,b⟩:=ab;dsimp only;refine .sr<|.fA Z Fx.field151_7<|.lD Z Fx.agg149 mem2 Z<|.ct (X:=List Value) Fx.call130 Z (λW s=>buildX_any H x.ts _ hts W s.agr) Z λx1 H1 hx1 u1=>?_
 obtain ⟨e0,rx,hg0,h13,hcn⟩:=hx1;obtain ⟨op1,nm1,n1,args1,rfl⟩:=ex_is e0;obtain ⟨p1,c1,rfl,hs1,_⟩:=ex_open rx;refine .ct (X:=List Value) Fx.call129 Z (λW s=>pairs_any _ h13 hg0.2 H1 _ W rx s.agr) Z λx2 H2 hx2 u2=>?_;have hg2:=gd_pr hg0;have hcn2:=prE_count (.mk op1 nm1 n1 args1);obtain ⟨op2,nm2,n2,args2,hx⟩:=ex_is (prE (.mk op1 nm1 n1 args1));rw [hx] at hx2 hg2 hcn2;obtain ⟨p2,c2,rfl,hs2,hnm2⟩:=ex_open hx2;refine .al Fx.zero83 Z λb6=>.sX .head Z Z Fx.size83 Z<|.nt<|.cu (X:=Hp × Value × List Ex × List Value) [(1,_),(2,_),(3,_)] ⟨Z,Z,Z,Jt⟩ (λz=>[]) (λz=>z.1) (λz=>[.row 83 4 z.2.1 z.2.2.1.length z.2.2.2,.box b3 [.int .i64 op.toNat,strV nm,strV fd,.int .i64 ((a:Int64)).toInt,.int .i64 ((b:Int64)).toInt,z.2.1,.slice none 0 0] 27,.box b2 [.int .i64 0,.string ⟨#[]⟩,.string ⟨#[]⟩,.int .i64 0,.int .i64 0,.slice none 0 0,.slice none 0 0] 27,.box b1 [.int .u8 x.op.toNat,.int .u8 x.nm.toNat,.int .u8 x.fd.toNat,.int .u8 x.ct.toNat,.bool x.odd,.int .i64 x.a.toInt,.int .i64 x.b.toInt,.slice p x.ts.length c] 151]) (λz=>HUp w H z.1/\RepZ z.1 4 (z.2.2.1.map (dEx .i64)) z.2.2.2/\z.2.2.1.length<=3/\(∀ e∈z.2.2.1,gdE e=true)/\Ex.counts z.2.2.1<=600) ?_ λz hC=>?_
 ·
  refine .sq<|?_
  refine Sx.row0 83 4 ?_;refine .rg<|.fA Z Fx.field27_0<|.lD Z Fx.agg3 mem2 Z<|.nt<|.bk<|.sr<|.yw (.eql Z Z)<|.aq Z<|.ce Z (λh49=>?_) (λh49=>?_)
  ·refine .rg<|.fA Z Fx.field151_3<|.lD Z Fx.agg5 mem4 Z<|.yw (.rem Z Z (by decide) (c:=((x.ct.toNat % 6:Nat):Int)) (by rw [Al_Int_tmod_eq_emod_of_nonneg (by omega)];omega))<|.yw (.conv Z Fx.int5 Fx.int3 (c:=((x.ct.toNat % 6:Nat):Int)) (w6 (by omega)))<|.yw (.add Z Z (c:=(((UInt8.ofNat (16+x.ct.toNat % 6)).toNat:Nat):Int)) (by rw [Al_UInt8_toNat_ofNat_of_lt' (by show 16+x.ct.toNat % 6<256;omega)];exact (w6 (by omega)).trans (by omega)))<|.yw (.loadW Z Fx.agg83 mem1 Z)<|.fA Z Fx.field151_2<|.lD Z Fx.agg5 mem4 Z<|.yw (.conv Z Fx.int5 Fx.int2 (c:=(Int64.ofNat (x.fd.toNat)).toInt) (cv_n (by omega)))<|.yw (.build Z (Fx.bld83_0_2 _ _))<|.bl Z (Fx.bsl24_2 _ _ _ _ _ _ _ _) Z λb61=>?_
   refine Sx.freezeBoxN λH3 u3 m3=>?_;exact .yw (.build Z (Fx.bld83_0_3 _ _ _ _))<|.blR (z:=4) Z (Fx.bsl24_1 _ _ _ _) Z Z (by simp [maxLen]) λb63=>.fA Z Fx.field27_5<|.st upd3 Z Z Fx.size24 Z (nb Z) Z<|.nl<|.bN<|.tN<|.me (H3,.slice (some ⟨b63,0,none⟩) 1 1,[(Ex.mk (UInt8.ofNat (16+x.ct.toNat % 6)) [] 0 [(Ex.mk op2 nm2 n2 args2),.mk 1 [] (Int64.ofNat x.fd.toNat) []])],[.int .i64 (UInt8.ofNat (16+x.ct.toNat % 6)).toNat,.string ⟨#[]⟩,.int .i64 0,.slice (some ⟨b61,0,none⟩) 2 2]) trivial ⟨Z,Z,Z,Jt⟩ (λ_ s=>s.pick [0,3,4,5] [_,_,_,_] Z Z) ⟨(u1.trans u2).trans u3,RepZ.single (ex_shut (by decide) (Rep.mk (n:=2) (c:=2) (ds:=[dEx .i64 (Ex.mk op2 nm2 n2 args2),dEx .i64 (.mk 1 [] (Int64.ofNat x.fd.toNat) [])]) m3 (RepZ.app (RepZ.single (ex_shut hnm2 (hs2.up u3.up)) Z) (RepZ.single (ex_shut (by decide) (Rep.empty (by decide))) Z)) Z (Al_Nat_le_refl _) (by decide))) Z,(by decide:1<=3),λe he=>by rw [Al_List_mem_singleton.1 he];exact gd_3 hg2,by dsimp only;simp only [Ex.counts,ex_count] at hcn2 hcn|-;omega⟩
  refine .sr<|.yw (.eql Z Z)<|.aq Z<|.ce Z (λh65=>?_) (λh65=>?_)
  ·exact .rg<|.yw (.loadW Z Fx.agg83 mem1 Z)<|.blR (z:=4) Z (Fx.bsl24_1 _ _ _ _) Z Z (by simp [maxLen]) λb68=>.fA Z Fx.field27_5<|.st upd3 Z Z Fx.size24 Z (nb Z) Z<|.nl<|.bN<|.tN<|.me (H2,.slice (some ⟨b68,0,none⟩) 1 1,[(Ex.mk op2 nm2 n2 args2)],[.int .i64 op2.toNat,strV nm2,.int .i64 n2.toInt,.slice p2 args2.length c2]) trivial ⟨Z,Z,Z,Jt⟩ (λ_ s=>s.pick [0,3,4,5] [_,_,_,_] Z Z) ⟨u1.trans u2,RepZ.single (ex_shut hnm2 hs2) Z,(by decide:1<=3),λe he=>by rw [Al_List_mem_singleton.1 he];exact gd_2 hg2,by dsimp only;simp only [Ex.counts];omega⟩
  refine .sr<|.yw (.eql Z Z)<|.aq Z<|.ce Z (λh70=>?_) (λh70=>?_)
  ·refine .sr<|.aq Z<|.bk<|.pm [1,0,2,3,4] [_,_,_,_,_] Z Z<|.lp (X:=Nat × Value × List Ex × List Value × Ex × Option Addr × Nat) [(1,_),(2,_),(3,_),(6,_)] ⟨Z,Z,Z,Z,Jt⟩ [_,_] (λz=>[(7,iN z.1)]) (λz=>H2) (λz=>[.box b6 [.int .i64 (z.2.2.2.2.1.op).toNat,strV z.2.2.2.2.1.nm,.int .i64 (z.2.2.2.2.1.n).toInt,.slice z.2.2.2.2.2.1 z.2.2.2.2.1.args.length z.2.2.2.2.2.2] 83,.row 83 4 z.2.1 z.1 z.2.2.2.1,.box b3 [.int .i64 op.toNat,strV nm,strV fd,.int .i64 ((a:Int64)).toInt,.int .i64 ((b:Int64)).toInt,z.2.1,.slice none 0 0] 27]) (λz=>(z.1<=x.ct.toNat % 4/\z.2.2.1.length=z.1)/\RepZ H2 4 (z.2.2.1.map (dEx .i64)) z.2.2.2.1/\(∀ e∈z.2.2.1,gdE e=true)/\Ex.counts z.2.2.1<=181 * z.1/\Rep H2 (dEx .i64 z.2.2.2.2.1) [.int .i64 (z.2.2.2.2.1.op).toNat,strV z.2.2.2.2.1.nm,.int .i64 (z.2.2.2.2.1.n).toInt,.slice z.2.2.2.2.2.1 z.2.2.2.2.1.args.length z.2.2.2.2.2.2]/\gdE z.2.2.2.2.1=true/\z.2.2.2.2.1.count<=181) (λz=>x.ct.toNat % 4 - z.1) (0,.slice none 0 0,[],[],(Ex.mk op2 nm2 n2 args2),p2,c2) (λ_ s=>s) ⟨Z,Jt⟩ ⟨⟨Al_Nat_zero_le _,Z⟩,RepZ.nil,λe he=>(by cases he),by rw [Ex.counts];exact Al_Nat_zero_le _,hx2,gd_2 hg2,by dsimp only;omega⟩ λz hC=>?_
   obtain ⟨k,r,ex,xs,te,tp,tc⟩:=z;obtain ⟨⟨hk0,hkl⟩,hz,hge,hxc,rt,gt,ct⟩:=hC;dsimp only at hk0 hkl hz hge hxc rt gt ct|-;obtain ⟨top,tnm,tn,targs,rfl⟩:=ex_is te;dsimp only [Ex.op,Ex.nm,Ex.n,Ex.args] at rt|-;refine .sq<|.sm Z<|.fA Z Fx.field151_3<|.lD Z Fx.agg5 mem4 Z<|.yw (.rem Z Z (by decide) (c:=((x.ct.toNat % 4:Nat):Int)) (by rw [Al_Int_tmod_eq_emod_of_nonneg (by omega)];omega))<|.yw (.conv Z Fx.int5 Fx.int3 (c:=((x.ct.toNat % 4:Nat):Int)) (w6 (by omega)))<|.yw (.lss Z Z)<|.nt<|.ce Z (λh77=>?_) (λh77=>?_)
   ·have hk:k<x.ct.toNat % 4:=by omega
    refine .sk<|.tN<|.sq<|.bk<|.sr<|.fA Z Fx.field27_5<|.lD Z Fx.agg24 mem2 Z<|.yw (.loadW Z Fx.agg83 Hm Z)<|.bl Z (Fx.bsl24_1 _ _ _ _) Z λb83=>.ap (news:=[.int .i64 top.toNat,strV tnm,.int .i64 tn.toInt,.slice tp targs.length tc]) Fx.row24 Z (λ_=>upd2) Z (.box Hm z0) Z (by simp [Value.oneCell',strV]) (by simp [maxLen];omega) (by omega) Z λr84 _=>?_
    refine At.ra mem2 λp84 c84 e84=>?_;subst e84;exact .fA Z Fx.field27_5<|.st upd3 Z Z Fx.size24 Z (nb Z) Z<|.nt<|.rg<|.yw (.build Z Fx.bld83)<|.sX upd1 Z Z Fx.size83 Z<|.nl<|.bN<|.tN<|.rg<|.mv Z<|.yw (.add Z Z w7)<|.aq Z<|.ag (x:=(k,r,ex,xs,.mk top tnm tn targs,tp,tc)) (k+1,.slice p84 (k+1) c84,ex++[Ex.mk top tnm tn targs],xs++[.int .i64 top.toNat,strV tnm,.int .i64 tn.toInt,.slice tp targs.length tc],Ex.mk 0 [] 0 [],none,0) ⟨Z,Jt⟩ ⟨Z,Z,Z,Z,Jt⟩ (λ_ s=>(s.pick [1,2,3,4,5] _ Z Z)) ⟨⟨by dsimp only;omega,by dsimp only;rw [Al_List_length_append];simp only [Al_List_length_cons,Al_List_length_nil];omega⟩,by dsimp only;rw [Al_List_map_append];exact hz.snoc rt Z,λe he=>by rcases Al_List_mem_append.1 he with h | h;exact hge e h;rw [Al_List_mem_singleton.1 h];exact gt,by dsimp only;rw [ex_counts_app,Ex.counts,Ex.counts];omega,ex_shut (by decide) (Rep.empty (Al_Nat_zero_le _)),Z,by dsimp only;simp only [Ex.counts,ex_count];omega⟩ (by dsimp only;omega)
   have hke:k=x.ct.toNat % 4:=by omega
   subst hkl;refine At.ra (.tail _ Hm) λp84 c84 e84=>?_;subst e84;have hkl3:ex.length<=3:=by omega
   exact .ex<|.tE<|.tE<|.bE<|.bN<|.tN<|.me (H2,.slice p84 ex.length c84,ex,xs) trivial ⟨Z,Z,Z,Jt⟩ (λ_ s=>s.pick [1,2,3,4] [_,_,_,_] Z Z) ⟨u1.trans u2,hz,hkl3,hge,(show Ex.counts ex<=600 by omega)⟩
  refine .sr<|.yw (.eql Z Z)<|.aq Z<|.ce Z (λh87=>?_) (λh87=>?_)
  ·exact .rg<|.fA Z Fx.field151_3<|.lD Z Fx.agg5 mem4 Z<|.yw (.rem Z Z (by decide) (c:=((x.ct.toNat % 40:Nat):Int)) (by rw [Al_Int_tmod_eq_emod_of_nonneg (by omega)];omega))<|.yw (.conv Z Fx.int5 Fx.int2 (c:=(Int64.ofNat (x.ct.toNat % 40)).toInt) (cv_n (by omega)))<|.yw (.build Z (Fx.bld83_0_2 _ _))<|.blR (z:=4) Z (Fx.bsl24_1 _ _ _ _) Z Z (by simp [maxLen]) λb94=>.fA Z Fx.field27_5<|.st upd3 Z Z Fx.size24 Z (nb Z) Z<|.nl<|.bN<|.tN<|.me (H2,.slice (some ⟨b94,0,none⟩) 1 1,[(Ex.mk 1 [] (Int64.ofNat (x.ct.toNat % 40)) [])],[.int .i64 1,.string ⟨#[]⟩,.int .i64 (Int64.ofNat (x.ct.toNat % 40)).toInt,.slice none 0 0]) trivial ⟨Z,Z,Z,Jt⟩ (λ_ s=>s.pick [0,3,4,5] [_,_,_,_] Z Z) ⟨u1.trans u2,RepZ.single (ex_shut (by decide) (Rep.empty (by decide))) Z,(by decide:1<=3),λe he=>by rw [Al_List_mem_singleton.1 he];rfl,by dsimp only;simp only [Ex.counts,ex_count];omega⟩
  exact .sk<|.bN<|.tN<|.me (H2,.slice none 0 0,[],[]) trivial ⟨Z,Z,Z,Jt⟩ (λ_ s=>s.pick [0,2,3,4] [_,_,_,_] Z Z) ⟨u1.trans u2,RepZ.nil,Al_Nat_zero_le _,λe he=>(by cases he),by rw [Ex.counts];omega⟩
 obtain ⟨H3,r,ex,xs⟩:=z;obtain ⟨u3,hz,hxl,hge,hxc⟩:=hC;dsimp only at u3 hz hxl hge hxc|-;refine At.ra Hm λpr cr er=>?_;subst er;have hts3:=hts.up u3.up;refine .cu (X:=Str × Str × Int64 × Int64 × Hp × Value × List Ex × List Value) [(2,_),(3,_)] ⟨Z,Z,Jt⟩ (λz=>[]) (λz=>z.2.2.2.2.1) (λz=>[.row 83 4 z.2.2.2.2.2.1 z.2.2.2.2.2.2.1.length z.2.2.2.2.2.2.2,.box b3 [.int .i64 op.toNat,strV z.1,strV z.2.1,.int .i64 ((z.2.2.1:Int64)).toInt,.int .i64 ((z.2.2.2.1:Int64)).toInt,z.2.2.2.2.2.1,.slice none 0 0] 27,.box b2 [.int .i64 0,.string ⟨#[]⟩,.string ⟨#[]⟩,.int .i64 0,.int .i64 0,.slice none 0 0,.slice none 0 0] 27,.box b1 [.int .u8 x.op.toNat,.int .u8 x.nm.toNat,.int .u8 x.fd.toNat,.int .u8 x.ct.toNat,.bool x.odd,.int .i64 x.a.toInt,.int .i64 x.b.toInt,.slice p x.ts.length c] 151]) (λz=>(z.1.length<=13/\z.2.1.length<=13)/\HUp w H z.2.2.2.2.1/\RepZ z.2.2.2.2.1 4 (z.2.2.2.2.2.2.1.map (dEx .i64)) z.2.2.2.2.2.2.2/\z.2.2.2.2.2.2.1.length<=4/\(∀ e∈z.2.2.2.2.2.2.1,gdE e=true)/\Ex.counts z.2.2.2.2.2.2.1<=800) ?_ λz hC=>?_
 ·
  refine .sr<|.fA Z Fx.field151_4<|.lD Z Fx.agg4 mem3 Z<|.nt<|.cd Z (λh97=>?_) (λh97=>?_)
  ·try simp only [dt] at h97
   refine .sr<|.fA Z Fx.field151_3<|.lD Z Fx.agg5 mem3 Z<|.yw (.rem Z Z (by decide) (c:=((x.ct.toNat % 6:Nat):Int)) (by rw [Al_Int_tmod_eq_emod_of_nonneg (by omega)];omega))<|.nt<|.bk<|.sr<|.yw (.eql Z Z)<|.aq Z<|.ce Z (λh101=>?_) (λh101=>?_)
   ·exact .rg<|.fA Z Fx.field151_1<|.lD Z Fx.agg5 mem3 Z<|.yw (.call Fx.call128 Z (λW s=>word_any _ x.nm W s.agr))<|.fA Z Fx.field27_1<|.st upd1 Z Z Fx.size9 Z (nb Z) Z<|.nl<|.bN<|.tN<|.me ((wordR x.nm),fd,a,b,H3,.slice pr ex.length cr,ex,xs) trivial ⟨Z,Z,Jt⟩ (λ_ s=>s) ⟨⟨by first | exact hnm | exact word_len _,by first | exact hfd | exact word_len _⟩,u3,hz,(show ex.length<=4 by omega),hge,(show Ex.counts ex<=800 by omega)⟩
   refine .sr<|.yw (.eql Z Z)<|.aq Z<|.ce Z (λh107=>?_) (λh107=>?_)
   ·exact .rg<|.fA Z Fx.field151_2<|.lD Z Fx.agg5 mem3 Z<|.yw (.call Fx.call128 Z (λW s=>word_any _ x.fd W s.agr))<|.fA Z Fx.field27_2<|.st upd1 Z Z Fx.size9 Z (nb Z) Z<|.nl<|.bN<|.tN<|.me (nm,(wordR x.fd),a,b,H3,.slice pr ex.length cr,ex,xs) trivial ⟨Z,Z,Jt⟩ (λ_ s=>s) ⟨⟨by first | exact hnm | exact word_len _,by first | exact hfd | exact word_len _⟩,u3,hz,(show ex.length<=4 by omega),hge,(show Ex.counts ex<=800 by omega)⟩
   refine .sr<|.yw (.eql Z Z)<|.aq Z<|.ce Z (λh113=>?_) (λh113=>?_)
   ·refine .fL 6 [(0,0),(1,0),(2,0),(3,0),(4,1),(5,1)]<|.fA Z Fx.field27_5<|.lD Z Fx.agg24 mem1 Z<|.fA Z Fx.field151_7<|.lD Z Fx.agg149 mem3 Z<|.ct (X:=List Value) Fx.call130 Z (λW s=>buildX_any H3 x.ts _ hts3 W s.agr) Z λx9 H4 hx9 u4=>?_
    obtain ⟨e9,rx9,hg9,_,hcn9⟩:=hx9;obtain ⟨op9,nm9,n9,args9,rfl⟩:=ex_is e9;obtain ⟨p9,c9,rfl,hs9,_⟩:=ex_open rx9;refine .bl Z (Fx.bsl24_1 _ _ _ _) Z λb120=>.fn (tl:=[_,_,_]) Z<|.ap (news:=[.int .i64 op9.toNat,strV nm9,.int .i64 n9.toInt,.slice p9 args9.length c9]) Fx.row24 Z (λ_=>upd1) Z (.box Hm z0) Z (by simp [Value.oneCell',strV]) (by simp [maxLen];omega) (by omega) Z λr121 _=>?_
    rw [show ex.length+1=(ex++[Ex.mk op9 nm9 n9 args9]).length by simp];refine At.ra mem1 λp121 c121 e121=>?_;subst e121;exact .fA Z Fx.field27_5<|.st upd2 Z Z Fx.size24 Z (nb Z) Z<|.nl<|.bN<|.tN<|.me (nm,fd,a,b,H4,.slice p121 (ex++[Ex.mk op9 nm9 n9 args9]).length c121,ex++[Ex.mk op9 nm9 n9 args9],xs++[.int .i64 op9.toNat,strV nm9,.int .i64 n9.toInt,.slice p9 args9.length c9]) trivial ⟨Z,Z,Jt⟩ (λ_ s=>s.pick [1,2,3,4] [_,_,_,_] Z Z) ⟨⟨hnm,hfd⟩,u3.trans u4,by dsimp only;rw [Al_List_map_append];exact (hz.up u4.up).snoc rx9 Z,by dsimp only;rw [Al_List_length_append];simp only [Al_List_length_cons,Al_List_length_nil];omega,λe he=>by rcases Al_List_mem_append.1 he with h | h;exact hge e h;rw [Al_List_mem_singleton.1 h];exact gd_1 hg9,by dsimp only;rw [ex_counts_app,Ex.counts,Ex.counts];omega⟩
   refine .sr<|.yw (.eql Z Z)<|.aq Z<|.ce Z (λh123=>?_) (λh123=>?_)
   ·exact .rg<|.fA Z Fx.field151_5<|.lD Z Fx.agg3 mem3 Z<|.fA Z Fx.field27_3<|.st upd1 Z Z Fx.size3 Z (nb Z) Z<|.nl<|.bN<|.tN<|.me (nm,fd,x.a,b,H3,.slice pr ex.length cr,ex,xs) trivial ⟨Z,Z,Jt⟩ (λ_ s=>s) ⟨⟨by first | exact hnm | exact word_len _,by first | exact hfd | exact word_len _⟩,u3,hz,(show ex.length<=4 by omega),hge,(show Ex.counts ex<=800 by omega)⟩
   refine .sr<|.yw (.eql Z Z)<|.aq Z<|.ce Z (λh128=>?_) (λh128=>?_)
   ·exact .rg<|.fA Z Fx.field151_6<|.lD Z Fx.agg3 mem3 Z<|.fA Z Fx.field27_4<|.st upd1 Z Z Fx.size3 Z (nb Z) Z<|.nl<|.bN<|.tN<|.me (nm,fd,a,x.b,H3,.slice pr ex.length cr,ex,xs) trivial ⟨Z,Z,Jt⟩ (λ_ s=>s) ⟨⟨by first | exact hnm | exact word_len _,by first | exact hfd | exact word_len _⟩,u3,hz,(show ex.length<=4 by omega),hge,(show Ex.counts ex<=800 by omega)⟩
   exact .sk<|.bN<|.tN<|.me (nm,fd,a,b,H3,.slice pr ex.length cr,ex,xs) trivial ⟨Z,Z,Jt⟩ (λ_ s=>s) ⟨⟨by first | exact hnm | exact word_len _,by first | exact hfd | exact word_len _⟩,u3,hz,(show ex.length<=4 by omega),hge,(show Ex.counts ex<=800 by omega)⟩
  try simp only [df] at h97
  exact .sk<|.tN<|.me (nm,fd,a,b,H3,.slice pr ex.length cr,ex,xs) trivial ⟨Z,Z,Jt⟩ (λ_ s=>s) ⟨⟨by first | exact hnm | exact word_len _,by first | exact hfd | exact word_len _⟩,u3,hz,(show ex.length<=4 by omega),hge,(show Ex.counts ex<=800 by omega)⟩
 obtain ⟨nm,fd,a,b,H5,r,ex,xs⟩:=z;obtain ⟨⟨hnm,hfd⟩,u5,hz,hxl,hge,hxc⟩:=hC;dsimp only at hnm hfd u5 hz hxl hge hxc|-;refine At.ra Hm λp5 c5 e5=>?_;subst e5;refine .sr<|.yw (.loadW Z Fx.agg27 mem1 Z)<|.sX upd2 Z Z Fx.size27 Z<|.nt<|.rt<|?_
 refine At.pm [0,2] [_,_] rfl rfl ?_;refine freezeSeq (ds:=ex.map (dEx .i64)) (Al_List_length_map ..) hz λH6 p6 c6 u6 hr6 hs6=>?_;refine y8 Z (.cell Z Fx.agg27 Hm rfl) λW s=>⟨_,H6,⟨op,nm,fd,a,b,ex,p5,c5,Z,hs6,hop,hnm,hfd,hxl,hge,hxc⟩,Z,(u5.trans u6).grow s⟩
theorem u8wN (h:n<256):IntKind.u8.wrap (n:Int)=(n:Int):=by
 have key:∀ i∈List.range 256,IntKind.u8.wrap (i:Int)=(i:Int):=by decide +kernel
 exact key n (Al_List_mem_range.2 h)
theorem opI_bnd (k:Nat):-1<=opI k/\opI k<=2:=by unfold opI;split <;> (try split) <;> (try split) <;> omega
theorem build34_any:∀ (f d:Nat),d+f=13->∀ (H:Hp) (l:List Nf) (v:Value) (w:World),Rep H (.seq 8 (l.map dNf)) [v]->Agr H w ->
 Calls prg 33 #[v,iN d] w λr w'=>∃ (y:List Value × Value) (H':Hp),(∃ (g:Fm) (rest:List Nf),Rep H' (dFm .i64 g) y.1/\gdF g=true/\g.count+1010 * rest.length<=1010 * l.length+1/\Rep H' (.seq 8 (rest.map dNf)) [y.2])/\r=.returned (.tuple #[.agg y.1.toArray,y.2])/\Grow H w H' w':=by
 intro f;induction f using Nat.strongRecOn with
 | _ f ih =>
  intro d hd H l v w h hA;obtain ⟨p,c,e,_⟩:=h.sl;simp only [Al_List_cons_injEq,Al_and_true] at e;subst e;obtain ⟨n,hn⟩:∃ n,n=(l.map dNf).length:=⟨_,Z⟩;rw [<-hn] at h|-;have hnl:n=l.length:=by simpa using hn
  have hcap:=h.cap;refine Sx.enter (H:=H) func33 rfl ntmps33 rfl hA ?_;refine .sr<|.al Fx.zero27 Z λb4=>.aq Z<|.sq<|.sm Z<|.yw (.lenSl Fx.sl22 Z)<|.yw (.eql Z Z)<|.mv Z<|.e2 (λh15=>?_) (λh15=>?_)
  ·refine .gG<|.gG<|.yw (.pickT Z Z)<|.nt<|.cT Z<|.sr<|.yw (.build Z (Fx.bld27_0 _))<|.mv Z<|.sW .head Z Z Fx.size27 (by simp [Value.oneCell',strV,cNf]) Z<|.az Z<|.tR<|?_
   exact y7 Z (.cons (.cell Z Fx.agg27 Hm rfl) (.cons (.tmp Z) .nil)) rfl λW s=>⟨(_,_),H,⟨.mk 1 [] [] 0 0 [] [],l,fm_shut (k:=.i64) (by decide) (by decide) (Rep.empty (by decide)) (Rep.empty (by decide)),Z,(by simp only [Fm.count,Ex.counts,Fm.counts];omega),h⟩,Z,.pure hA s.ext⟩
  refine .gy (.move Z)<|.gy (.gtr Z Z)<|.yw (.pickF Z Z)<|.nt<|.ce Z (λh18=>?_) (λh18=>?_)
  ·refine .sr<|.yw (.build Z (Fx.bld27_0 _))<|.mv Z<|.sW .head Z Z Fx.size27 (by simp [Value.oneCell',strV,cNf]) Z<|.az Z<|.tR<|?_
   exact y7 Z (.cons (.cell Z Fx.agg27 Hm rfl) (.cons (.tmp Z) .nil)) rfl λW s=>⟨(_,_),H,⟨.mk 1 [] [] 0 0 [] [],l,fm_shut (k:=.i64) (by decide) (by decide) (Rep.empty (by decide)) (Rep.empty (by decide)),Z,(by simp only [Fm.count,Ex.counts,Fm.counts];omega),h⟩,Z,.pure hA s.ext⟩
  have hn0:0<n:=by omega
  obtain ⟨bE,oE,cE,hpE,rE,lE,mE⟩:=h.elem (map_at (f:=dNf) (show 0<l.length by omega));subst hpE;generalize hx:l[0]=x at rE;obtain ⟨pN,cN,rfl,hsN⟩:=nf_open rE;have hct:=x.ct.toNat_lt;refine .sk<|.tN<|.sm Z<|.yw (.indexSl Fx.sl22 Z Z (i:=0) Z (by omega) (q:=oE+0 * 8) (by omega))<|.yw (.loadMW Z Fx.agg151 mE Z)<|.al Fx.zero151 Z λb6=>.sW .head Z Z Fx.size151 (by simp [Value.oneCell',strV,cNf]) Z<|.ns<|.mv Z<|.yw (.cutLo Fx.sl22 Z Z (lo:=1) Z (by omega) h.len.2.1)<|.a Z Z<|.ns<|.yw (.loadW Z Fx.agg151 Hm Z)<|.ct (X:=List Value) Fx.call69 Z (λW s=>one_any H x _ rE W s.agr) Z λy27 H0 hy27 u0=>?_
  obtain ⟨op,nm,fd,a,b,ex,pX,cX,rfl,hsX,hop,hnm,hfd,hexl,hge,hexc⟩:=hy27;obtain ⟨m0,hm0,hm2⟩:∃ m0:Nat,max (opI op.toNat) 0=(m0:Int)/\m0<=2:=⟨(max (opI op.toNat) 0).toNat,by have:=opI_bnd op.toNat;omega,by have:=opI_bnd op.toNat;omega⟩;refine .al Fx.zero27 Z λb7=>.sW .head Z Z Fx.size27 (by simp [Value.oneCell',strV,cNf]) Z<|.ns<|.fA Z Fx.field27_0<|.lD Z Fx.agg3 Hm Z<|.yw (.call Fx.call70 Z (λW s=>opers_any _ op.toNat W s.agr))<|.yw (.max2 Z Z (c:=((m0:Nat):Int)) hm0)<|.aq Z<|.cu (X:=Nat) [(0,_),(1,_),(4,_),(7,_)] ⟨Z,Z,Z,Z,Jt⟩ (λm=>[(8,iN m)]) (λm=>H0) (λm=>[.box b7 [.int .i64 op.toNat,strV nm,strV fd,.int .i64 a.toInt,.int .i64 b.toInt,.slice pX ex.length cX,.slice none 0 0] 27,.box b6 [.int .u8 x.op.toNat,.int .u8 x.nm.toNat,.int .u8 x.fd.toNat,.int .u8 x.ct.toNat,.bool x.odd,.int .i64 x.a.toInt,.int .i64 x.b.toInt,.slice pN x.ts.length cN] 151,.box b4 [.int .i64 0,.string ⟨#[]⟩,.string ⟨#[]⟩,.int .i64 0,.int .i64 0,.slice none 0 0,.slice none 0 0] 27]) (λm=>m<=3) ?_ λm hC=>?_
  ·
   refine .sr<|.fA Z Fx.field151_4<|.lD Z Fx.agg4 mem1 Z<|.mv Z<|.b2 (λh34=>?_) (λh34=>?_)
   ·try simp only [dt] at h34
    refine .gy (.fieldAddr Z Fx.field151_3)<|.gy (.load Z Fx.agg5 mem1 Z)<|.gy (.rem Z Z (by decide) (c:=((x.ct.toNat % 6:Nat):Int)) (by rw [Al_Int_tmod_eq_emod_of_nonneg (by omega)];omega))<|.gy (.eql Z Z)<|.yw (.pickT Z Z)<|.nt<|.ce Z (λh39=>?_) (λh39=>?_)
    ·exact .rg<|.fA Z Fx.field151_3<|.lD Z Fx.agg5 mem1 Z<|.yw (.quo Z Z (by decide) (c:=((x.ct.toNat / 6:Nat):Int)) (by rw [Al_Int_tdiv_eq_ediv_of_nonneg (by omega),show ((x.ct.toNat:Nat):Int) / 6=((x.ct.toNat / 6:Nat):Int) by omega];exact u8wN (by omega)))<|.yw (.conv Z Fx.int5 Fx.int3 (c:=((x.ct.toNat / 6:Nat):Int)) (w6 (by omega)))<|.yw (.rem Z Z (by decide) (c:=((x.ct.toNat / 6 % 4:Nat):Int)) (by rw [Al_Int_tmod_eq_emod_of_nonneg (by omega)];omega))<|.aq Z<|.me (x.ct.toNat / 6 % 4) ⟨Z,Jt⟩ ⟨Z,Z,Z,Z,Jt⟩ (λ_ s=>s) (by omega)
    exact .sk<|.tN<|.me m0 ⟨Z,Jt⟩ ⟨Z,Z,Z,Z,Jt⟩ (λ_ s=>s) (by omega)
   try simp only [df] at h34
   exact .gG<|.gG<|.gG<|.gG<|.yw (.pickF Z Z)<|.nt<|.cF Z<|.sk<|.tN<|.me m0 ⟨Z,Jt⟩ ⟨Z,Z,Z,Z,Jt⟩ (λ_ s=>s) (by omega)
  have hm3:=hC;refine Sx.row0 27 7 ?_;refine .sq<|.sr<|.aq Z<|.bk<|.lp (X:=Nat × Hp × Value × List Value × Value) [(1,_),(4,_),(7,_),(8,_)] ⟨Z,Z,Z,Z,Jt⟩ [_,_] (λz=>[(9,iN z.1),(0,z.2.2.2.2)]) (λz=>z.2.1) (λz=>[.row 27 7 z.2.2.1 z.1 z.2.2.2.1,.box b7 [.int .i64 op.toNat,strV nm,strV fd,.int .i64 a.toInt,.int .i64 b.toInt,.slice pX ex.length cX,z.2.2.1] 27]) (λz=>z.1<=m/\HUp w H0 z.2.1/\∃ (gs:List Fm) (rest:List Nf),gs.length=z.1/\RepZ z.2.1 7 (gs.map (dFm .i64)) z.2.2.2.1/\(∀ g∈gs,gdF g=true)/\Fm.counts gs+1010 * rest.length+1010<=1010 * l.length+gs.length/\Rep z.2.1 (.seq 8 (rest.map dNf)) [z.2.2.2.2]) (λz=>m - z.1) (0,H0,.slice none 0 0,[],_) (λ_ s=>s) ⟨Z,Z,Jt⟩ ⟨by simp,.refl,[],l.drop 1,Z,RepZ.nil,(λg hg=>by cases hg),(by rw [Fm.counts,Al_List_length_drop,Al_List_length_nil];omega),(by have h5:=rep_drop h (lo:=1) (by omega);rw [<-Al_List_map_drop] at h5;exact h5.up u0.up)⟩ λz hC=>?_
  obtain ⟨k,H1,r,xs,rv⟩:=z;dsimp only at hC|-;obtain ⟨hk0,u1,gs,rest,hlen,hz,hgs,hcn,hrs⟩:=hC;refine .sq<|.sm Z<|.mv Z<|.yw (.lss Z Z)<|.nt<|.ce Z (λh47=>?_) (λh47=>?_)
  ·have hk:k<m:=by omega
   refine .sk<|.tN<|.sq<|.bk<|.sm Z<|.mv Z<|.yw (.add Z Z w7)<|.ct (X:=List Value × Value) Fx.call33 Z (λW s=>ih (f - 1) (by omega) (d+1) (by omega) H1 _ _ W hrs s.agr) Z λy2 H2 hc2 u2=>?_
   obtain ⟨x2,y2⟩:=y2;obtain ⟨g2,rest2,hc2,hg2,hcn2,hrs2⟩:=hc2;dsimp only at hc2 hrs2|-;obtain ⟨op2,nm2,fd2,a2,b2,ex2,as2⟩:=g2;obtain ⟨p2,c2,q2,d2,rfl,_,_,_,_⟩:=fm_open hc2;refine .mv Z<|.yw (.extract Z Z)<|.yw (.extract Z Z)<|.al Fx.zero27 Z λb10=>.sW .head Z Z Fx.size27 (by simp [Value.oneCell',strV,cNf]) Z<|.aq Z<|.rg<|.fA Z Fx.field27_6<|.lD Z Fx.agg25 mem2 Z<|.yw (.loadW Z Fx.agg27 Hm Z)<|.bl Z (Fx.bsl25_1 _ _ _ _ _ _ _) Z λb60=>.ap (news:=[.int .i64 op2.toNat,strV nm2,strV fd2,.int .i64 a2.toInt,.int .i64 b2.toInt,.slice p2 ex2.length c2,.slice q2 as2.length d2]) Fx.row25 Z (λ_=>upd2) Z (.box Hm z0) Z (by simp [Value.oneCell',strV]) (by simp [maxLen];omega) (by omega) Z λr61 _=>?_
   refine At.ra (by first | exact .tail _ (.tail _ Hm) | exact .tail _ (.tail _ (.tail _ Hm))) λp61 c61 e61=>?_;exact .mv Z<|.fA Z Fx.field27_6<|.st upd3 Z Z Fx.size25 (by rw [e61];rfl) (nb Z) Z<|.a Z Z<|.nl<|.bN<|.tN<|.rg<|.mv Z<|.yw (.add Z Z w7)<|.aq Z<|.ag (x:=(k,H1,r,xs,rv)) (k+1,H2,r61,xs++[.int .i64 op2.toNat,strV nm2,strV fd2,.int .i64 a2.toInt,.int .i64 b2.toInt,.slice p2 ex2.length c2,.slice q2 as2.length d2],y2) ⟨Z,Z,Jt⟩ ⟨Z,Z,Z,Z,Jt⟩ (λ_ s=>(s.pick [2,3,4,5] _ Z Z)) ⟨by dsimp only;omega,u1.trans u2,gs++[.mk op2 nm2 fd2 a2 b2 ex2 as2],rest2,by simp;omega,by rw [Al_List_map_append];exact (hz.up u2.up).snoc hc2 Z,(λg hg=>by rcases Al_List_mem_append.1 hg with h | h;exact hgs g h;rw [Al_List_mem_singleton.1 h];exact hg2),(by rw [fm_counts_app,Fm.counts,Fm.counts,Al_List_length_append];simp only [Al_List_length_cons,Al_List_length_nil];omega),hrs2⟩ (by dsimp only;omega)
  obtain rfl:k=m:=by omega
  refine At.ra Hm λp61 c61 e61=>?_;subst e61;refine .ex<|.eb<|.sr<|.yw (.loadW Z Fx.agg27 mem1 Z)<|.mv Z<|.sW upd3 Z Z Fx.size27 (by simp [Value.oneCell',strV,cNf]) Z<|.az Z<|?_
  refine At.pm [0,3] [_,_] rfl rfl ?_;refine freezeSeq (ds:=gs.map (dFm .i64)) (by simp;omega) hz λH3 p3 c3 u3 hr3 hs3=>?_;refine y7 Z (.cons (.cell Z Fx.agg27 Hm rfl) (.cons (.tmp Z) .nil)) rfl λW s=>⟨(_,_),H3,⟨.mk op nm fd a b ex gs,rest,fm_shut (k:=.i64) (by omega) (by omega) ((hsX.up u1.up).up u3.up) hs3,?_,?_,hrs.up u3.up⟩,Z,((u0.trans u1).trans u3).grow s⟩
  ·exact gdF_mk.2 ⟨⟨by omega,hexl,by omega,hge⟩,hgs⟩
  ·rw [fm_count];omega
def BuiltF (x:List Value) (H':Hp):Prop:=∃ g:Fm,Rep H' (dFm .i64 g) x/\gdF g=true/\g.count<=40000
theorem buildF34_any (H:Hp) (l:List Nf) (v:Value) (h0:Rep H (.seq 8 (l.map dNf)) [v]) (w:World) (hA:Agr H w) :
 Calls prg 14 #[v] w λr w'=>∃ (x:List Value) (H':Hp),BuiltF x H'/\r=.returned (.agg x.toArray)/\Grow H w H' w':=by
 obtain ⟨p,c,e,_⟩:=h0.sl;simp only [Al_List_cons_injEq,Al_and_true,Al_List_length_map] at e;subst e;have h:=h0;have hcap:=h.cap;refine Sx.enter (H:=H) func14 rfl ntmps14 rfl hA ?_;refine .sr<|.al Fx.zero27 Z λb2=>.ns<|.mv Z<|.mv Z<|.yw (.lenSl Fx.sl22 Z)<|.yw (.min2 Z Z (c:=((min l.length 30:Nat):Int)) (by omega))<|.yw (.cutHi2 Fx.sl22 Z Z (h:=min l.length 30) Z (by have:=h.len.2.1;omega))<|.ct (X:=List Value × Value) Fx.call33 Z (λW s=>build34_any 12 1 Z H (l.take (min l.length 30)) _ W (by rw [Al_List_map_take];exact rep_take2 h (by omega)) s.agr) Z λy H1 hc u1=>?_
 obtain ⟨x,y⟩:=y;obtain ⟨e,rest,hx,hg,hcn,_⟩:=hc;dsimp only at hx;rw [Al_List_length_take] at hcn;refine .mv Z<|.yw (.extract Z Z)<|.yw (.extract Z Z)<|.al Fx.zero27 Z λb3=>.sV .head Z Z Fx.size27 (fm_len hx) hx.one Z<|.a Z Z<|.ns<|.yw (.loadW Z Fx.agg27 Hm (fm_len hx))<|.sV upd1 Z Z Fx.size27 (fm_len hx) hx.one Z<|.nt<|.rt<|?_
 exact y8 Z (.cell Z Fx.agg27 mem1 (fm_len hx)) λW t=>⟨x,H1,⟨e,hx,hg,by omega⟩,Z,u1.grow t⟩
theorem gdE_nar {e:Ex} (h:gdE e=true):Ex.all narrow e=true:=by
 unfold gdE at h;rw [Al_Bool_and_eq_true] at h;exact h.2
variable {k:Nat}
theorem takeF_snoc {l:List Fm} (h:k<l.length):l.take (k+1)=l.take k++[l[k]]:=by rw [List.take_succ,List.getElem?_eq_getElem h];rfl
theorem fm_is (f:Fm):∃ o n d a b e r,f=.mk o n d a b e r:=by
 obtain ⟨o,n,d,a,b,e,r⟩:=f;exact ⟨o,n,d,a,b,e,r,Z⟩
def FormOf (g:Fm):Prop:=gdF g=true->∀ (H:Hp) (cs:List Value) (w:World),Rep H (dFm .i64 g) cs->Agr H w ->
 Calls prg 16 #[.agg cs.toArray] w λr w'=>∃ x H',Rep H' (dFm .u8 g) x/\r=.returned (.agg x.toArray)/\Grow H w H' w'
set_option maxHeartbeats 1000000 in
theorem form_any (g:Fm):FormOf g:=by
 induction g using Fm.ind with | _ op nm fd a b ex args ih
 intro hgd H cs w h hA;obtain ⟨⟨hop,hexl,hal,hge⟩,hga⟩:=gdF_mk.1 hgd;obtain ⟨p1,c1,p2,c2,rfl,hs1,hs2,hnm,hfd⟩:=fm_open h;have hcap1:=hs1.cap;have hcap2:=hs2.cap;refine Sx.enter (H:=H) func16 rfl ntmps16 rfl hA ?_;refine .sr<|.bx Z Z Z λb1=>.al Fx.zero35 Z λb2=>.ns<|.fA Z Fx.field27_0<|.lD Z Fx.agg3 mem1 Z<|.yw (.conv Z Fx.int3 Fx.int74 (c:=(op.toNat:Nat)) (by have:=op.toNat_lt;simp only [IntKind.wrap,IntKind.signed,IntKind.bits];simp;omega))<|.fA Z Fx.field27_1<|.lD Z Fx.agg9 mem1 Z<|.fA Z Fx.field27_2<|.lD Z Fx.agg9 mem1 Z<|.fA Z Fx.field27_3<|.lD Z Fx.agg3 mem1 Z<|.fA Z Fx.field27_4<|.lD Z Fx.agg3 mem1 Z<|.yw (.build Z (Fx.bld35_0_1_2_3_4 _ _ _ _ _))<|.al Fx.zero35 Z λb3=>.sX .head Z Z Fx.size35 Z<|.nt<|.sq<|.sq<|?_
 refine Sx.row0 76 4 ?_;refine .rg<|.fA Z Fx.field27_5<|.lD Z Fx.agg24 mem3 Z<|.yw (.lenSl Fx.sl24 Z)<|.mv Z<|.nt<|.bk<|.pm [1,0,2,3] [_,_,_,_] Z Z<|.lp (X:=Nat × Hp × Value × List Value) [(1,_),(2,_),(3,_),(21,_),(22,_)] ⟨Z,Z,Z,Z,Z,Jt⟩ [_,_] (λz=>[(23,iN z.1)]) (λz=>z.2.1) (λz=>[.box b3 [.int .u8 op.toNat,strV nm,strV fd,.int .i64 a.toInt,.int .i64 b.toInt,z.2.2.1,.slice none 0 0] 35,.row 76 4 z.2.2.1 z.1 z.2.2.2]) (λz=>z.1<=ex.length/\HUp w H z.2.1/\RepZ z.2.1 4 ((ex.take z.1).map (dEx .u8)) z.2.2.2) (λz=>ex.length - z.1) (0,H,.slice none 0 0,[]) (λ_ s=>s) ⟨Z,Jt⟩ ⟨by simp,.refl,RepZ.nil⟩ λz hC=>?_
 obtain ⟨k,H1,r,xs⟩:=z;dsimp only at hC|-;obtain ⟨hk0,u1,hz⟩:=hC;refine .sr<|.yw (.lss Z Z)<|.nt<|.sq<|.ce Z (λh24=>?_) (λh24=>?_)
 ·have hk:k<ex.length:=by omega
  obtain ⟨bE,oE,cE,hpE,rE,lE,mE⟩:=(hs1.up u1.up).elem (map_at (f:=dEx .i64) hk);cases hpE;have hnr:=gdE_nar (hge _ (Al_List_getElem_mem hk));refine .sk<|.tN<|.sq<|.bk<|.sr<|.yw (.indexSl Fx.sl24 Z Z Z (by omega) (q:=oE+k * 4) Z)<|.yw (.loadMW Z Fx.agg83 mE lE)<|.al Fx.zero83 Z λb5=>.sV .head Z Z Fx.size83 lE rE.one Z<|.nt<|.fL 5 [(0,0),(1,0),(2,0),(3,1),(4,1)]<|.fA Z Fx.field35_5<|.lD Z Fx.agg32 mem1 Z<|.yw (.loadW Z Fx.agg83 Hm lE)<|.ct (X:=List Value) Fx.call39 Z (λW s=>expr_any _ hnr H1 cE W rE s.agr) Z λx2 H2 hc2 u2=>?_
  obtain ⟨op2,nm2,n2,args2,hx⟩:=ex_is (ex[k]);rw [hx] at hc2;obtain ⟨p2,c2,rfl,hs2,hnm2⟩:=ex_open hc2;refine .bl Z (Fx.bsl32_1 _ _ _ _) Z λb31=>.fn (tl:=[_,_,_]) Z<|.ap (news:=[.int .u8 op2.toNat,strV nm2,.int .i64 n2.toInt,.slice p2 args2.length c2]) Fx.row32 Z (λ_=>upd3) Z (.box Hm z0) Z (by simp [Value.oneCell',strV]) (by simp [maxLen];omega) (by omega) Z λr32 _=>?_
  refine At.ra mem3 λp32 c32 e32=>?_;exact .fA Z Fx.field35_5<|.st upd2 Z Z Fx.size32 (by rw [e32];rfl) (nb Z) Z<|.nl<|.bN<|.tN<|.rg<|.yw (.add Z Z w7)<|.mv Z<|.nt<|.ag (x:=(k,H1,r,xs)) (k+1,H2,r32,xs++[.int .u8 op2.toNat,strV nm2,.int .i64 n2.toInt,.slice p2 args2.length c2]) ⟨Z,Jt⟩ ⟨Z,Z,Z,Z,Z,Jt⟩ (λ_ s=>(s.pick [2,3,4,5] _ Z Z)) ⟨by dsimp only;omega,u1.trans u2,by dsimp only;rw [take_snoc hk,Al_List_map_append,hx];exact (hz.up u2.up).snoc hc2 Z⟩ (by dsimp only;omega)
 obtain rfl:k=ex.length:=by omega
 rw [Al_List_take_length] at hz;refine At.ra (.tail _ Hm) λp32 c32 e32=>?_;subst e32;obtain ⟨HX,hHX⟩:∃ h,h=H1:=⟨_,Z⟩;rw [<-hHX] at u1 hz|-;have uX:=u1;have hzX:=hz;clear u1 hz hHX;refine .ex<|.eb<|.sq<|.sq<|?_
 refine Sx.row0 35 7 ?_;refine .rg<|.fA Z Fx.field27_6<|.lD Z Fx.agg25 mem4 Z<|.yw (.lenSl Fx.sl25 Z)<|.mv Z<|.nt<|.bk<|.pm [1,0,2,3,4] [_,_,_,_,_] Z Z<|.lp (X:=Nat × Hp × Value × List Value) [(2,_),(3,_),(36,_),(37,_)] ⟨Z,Z,Z,Z,Jt⟩ [_,_,_] (λz=>[(38,iN z.1)]) (λz=>z.2.1) (λz=>[.box b3 [.int .u8 op.toNat,strV nm,strV fd,.int .i64 a.toInt,.int .i64 b.toInt,.slice p32 ex.length c32,z.2.2.1] 35,.row 35 7 z.2.2.1 z.1 z.2.2.2]) (λz=>z.1<=args.length/\HUp w HX z.2.1/\RepZ z.2.1 7 ((args.take z.1).map (dFm .u8)) z.2.2.2) (λz=>args.length - z.1) (0,HX,.slice none 0 0,[]) (λ_ s=>s) ⟨Z,Jt⟩ ⟨by simp,.refl,RepZ.nil⟩ λz hC=>?_
 obtain ⟨k,H1,r,xs2⟩:=z;dsimp only at hC|-;obtain ⟨hk0,u1,hz⟩:=hC;refine .sr<|.yw (.lss Z Z)<|.nt<|.sq<|.ce Z (λh39=>?_) (λh39=>?_)
 ·have hk:k<args.length:=by omega
  obtain ⟨bE,oE,cE,hpE,rE,lE,mE⟩:=((hs2.up uX.up).up u1.up).elem (map_at (f:=dFm .i64) hk);cases hpE;refine .sk<|.tN<|.sq<|.bk<|.sr<|.yw (.indexSl Fx.sl25 Z Z Z (by omega) (q:=oE+k * 7) Z)<|.yw (.loadMW Z Fx.agg27 mE lE)<|.al Fx.zero27 Z λb7=>.sV .head Z Z Fx.size27 lE rE.one Z<|.nt<|.fL 5 [(0,0),(1,0),(2,0),(3,1),(4,1)]<|.fA Z Fx.field35_6<|.lD Z Fx.agg33 mem1 Z<|.yw (.loadW Z Fx.agg27 Hm lE)<|.ct (X:=List Value) Fx.call16 Z (λW s=>ih _ (Al_List_getElem_mem hk) (hga _ (Al_List_getElem_mem hk)) H1 cE W rE s.agr) Z λx2 H2 hc2 u2=>?_
  obtain ⟨op2,nm2,fd2,a2,b2x,ex2,as2,hx⟩:=fm_is (args[k]);rw [hx] at hc2;obtain ⟨p2,c2,q2,d2,rfl,_,_,_,_⟩:=fm_open hc2;refine .bl Z (Fx.bsl33_1 _ _ _ _ _ _ _) Z λb46=>.fn (tl:=[_,_,_]) Z<|.ap (news:=[.int .u8 op2.toNat,strV nm2,strV fd2,.int .i64 a2.toInt,.int .i64 b2x.toInt,.slice p2 ex2.length c2,.slice q2 as2.length d2]) Fx.row33 Z (λ_=>upd3) Z (.box Hm z0) Z (by simp [Value.oneCell',strV]) (by simp [maxLen];omega) (by omega) Z λr47 _=>?_
  refine At.ra mem3 λp47 c47 e47=>?_;exact .fA Z Fx.field35_6<|.st upd2 Z Z Fx.size33 (by rw [e47];rfl) (nb Z) Z<|.nl<|.bN<|.tN<|.rg<|.yw (.add Z Z w7)<|.mv Z<|.nt<|.ag (x:=(k,H1,r,xs2)) (k+1,H2,r47,xs2++[.int .u8 op2.toNat,strV nm2,strV fd2,.int .i64 a2.toInt,.int .i64 b2x.toInt,.slice p2 ex2.length c2,.slice q2 as2.length d2]) ⟨Z,Jt⟩ ⟨Z,Z,Z,Z,Jt⟩ (λ_ s=>(s.pick [2,3,4,5,6] _ Z Z)) ⟨by dsimp only;omega,u1.trans u2,by dsimp only;rw [takeF_snoc hk,Al_List_map_append,hx];exact (hz.up u2.up).snoc hc2 Z⟩ (by dsimp only;omega)
 obtain rfl:k=args.length:=by omega
 rw [Al_List_take_length] at hz;refine At.ra (.tail _ Hm) λp47 c47 e47=>?_;subst e47;refine .ex<|.eb<|.sr<|.yw (.loadW Z Fx.agg35 Hm Z)<|.sX upd3 Z Z Fx.size35 Z<|.nt<|.rt<|?_
 refine At.pm [2,1,3] [_,_,_] rfl rfl ?_;refine freezeSeq (ds:=ex.map (dEx .u8)) (Al_List_length_map ..) (hzX.up u1.up) λH3 p3 c3 u3 hr3 hs3=>?_;refine freezeSeq (ds:=args.map (dFm .u8)) (Al_List_length_map ..) (hz.up u3.up) λH4 p4 c4 u4 hr4 hs4=>?_;refine y8 Z (.cell Z Fx.agg35 Hm rfl) λW s=>⟨_,H4,fm_shut hnm hfd (hs3.up u4.up) hs4,Z,(((uX.trans u1).trans u3).trans u4).grow s⟩
theorem tmTs_map:∀ l,tmTs l=l.map λe=>(e.op,tmT e)
 | []=>by rw [tmTs];rfl
 | e::r=>by rw [tmTs,tmTs_map r];rfl
theorem fmTs_map:∀ l,fmTs l=l.map λf=>(f.op,fmT f)
 | []=>by rw [fmTs];rfl
 | e::r=>by rw [fmTs,fmTs_map r];rfl
theorem tm_mk {op:UInt8} {nm:Str} {n:Int64} {args:List Ex} :tmT (.mk op nm n args)=tmOp op nm n (args.map λe=>(e.op,tmT e)):=by rw [tmT,tmTs_map]
theorem fm_mk {op:UInt8} {nm fd:Str} {a b:Int64} {ex:List Ex} {args:List Fm} :fmT (.mk op nm fd a b ex args)=fmOp (.mk op nm fd a b ex args) (args.map λf=>(f.op,fmT f)):=by rw [fmT,fmTs_map]
theorem hd0 {α β:Type} {f:α->β} {l:List α} {d:β} (h:0<l.length):(l.map f).headD d=f l[0]:=by
 cases l with
 | nil=>exact absurd h (Nat.lt_irrefl _)
 | cons a r=>rfl
theorem hd1 {α β:Type} {f:α->β} {l:List α} {d:β} (h:1<l.length):((l.map f).drop 1).headD d=f l[1]:=by
 match l,h with
 | _::b::r,_=>rfl
theorem tlv4 {op:UInt8} (h:op=14\/op=15):tlv op=4:=by unfold tlv;rw [Al_if_pos h]
theorem tlv5 {op:UInt8} (h:op=11\/op=12\/op=13):tlv op=5:=by unfold tlv;rw [Al_if_neg (by rcases h with rfl | rfl | rfl <;> decide),Al_if_pos h]
theorem tlv6 {op:UInt8} (h:op=9):tlv op=6:=by subst h;rfl
theorem tlv7 {op:UInt8} (h1:¬ op=14) (h2:¬ op=15) (h3:¬ op=11) (h4:¬ op=12) (h5:¬ op=13) (h6:¬ op=9):tlv op=7:=by
 unfold tlv;rw [Al_if_neg (by rintro (h | h);exact h1 h;exact h2 h),Al_if_neg (by rintro (h | h | h);exact h3 h;exact h4 h;exact h5 h),Al_if_neg h6]
theorem tlv_le (op:UInt8):tlv op<=7:=by
 unfold tlv
 repeat' split
 all_goals omega
section
variable {op:UInt8} {nm:Str} {n:Int64} {args:List Ex}
theorem tm1 (h:op=1):tmT (.mk op nm n args)=Lib.itoa n.toInt:=by rw [tm_mk];subst h;rfl
theorem tm4 (h:op=4):tmT (.mk op nm n args)=[110,111,119]:=by rw [tm_mk];subst h;rfl
theorem tm5 (h:op=5):tmT (.mk op nm n args)=nm:=by rw [tm_mk];subst h;rfl
theorem tm6 (h:op=6) (h0:0<args.length):tmT (.mk op nm n args)=(nm++([91]:Str)++tmT args[0]++([93]:Str):Str):=by
 rw [tm_mk];subst h;show (nm++([91]:Str)++_++([93]:Str):Str)=_;rw [hd0 h0]
theorem tm8 (h:op=8):tmT (.mk op nm n args)=(([115,105,122,101,32]:Str)++nm):=by rw [tm_mk];subst h;rfl
theorem tm9 (h:op=9) (h0:0<args.length):tmT (.mk op nm n args)=(([45]:Str)++prnT (decide (tlv args[0].op<6)) (tmT args[0]):Str):=by
 rw [tm_mk];subst h;show (([45]:Str)++prnT _ _:Str)=_;rw [hd0 h0]
theorem tmb (h:op=11\/op=12\/op=13\/op=14\/op=15) (h0:0<args.length) (h1:1<args.length):tmT (.mk op nm n args)=(prnT (decide (tlv args[0].op<tlv op)) (tmT args[0])++([32]:Str)++symT op++([32]:Str)++prnT (decide (tlv args[1].op<tlv op+1)) (tmT args[1]):Str):=by
 rw [tm_mk];unfold tmOp;rw [hd0 h0,hd1 h1];rcases h with rfl | rfl | rfl | rfl | rfl <;> rfl
theorem tmn (h1:¬ op=1) (h4:¬ op=4) (h5:¬ op=5) (h6:¬ op=6) (h8:¬ op=8) (h9:¬ op=9) (hb:¬ (op=11\/op=12\/op=13\/op=14\/op=15)):tmT (.mk op nm n args)=[95]:=by
 rw [tm_mk];unfold tmOp;rw [Al_if_neg h1,Al_if_neg h4,Al_if_neg h5,Al_if_neg h6,Al_if_neg h8,Al_if_neg h9,Al_if_neg hb]
end
theorem prnT_len (b:Bool) (s:Str):s.length<=(prnT b s).length/\(prnT b s).length<=s.length+2:=by
 unfold prnT;cases b
 ·rw [Al_if_neg (by decide)];omega
 ·rw [Al_if_pos rfl];simp only [Al_List_length_append,Al_List_length_cons,Al_List_length_nil];omega
theorem tab_len {l:List Str} {m:Nat} (h:∀ x∈l,x.length<=m) (i:Nat):(l.getD i []).length<=m:=by
 rw [List.getD_eq_getElem?_getD];cases e:l[i]? with
 | none=>exact Al_Nat_zero_le _
 | some x=>exact h x (Al_List_mem_of_getElem? e)
theorem symT_len (op:UInt8):(symT op).length<=2:=tab_len (l:=fsyms) (by decide) _
theorem wordF_len (op:UInt8):(wordF op).length<=8:=tab_len (l:=fwords) (by decide) _
theorem term_args1 {op:UInt8} {nm:Str} {n:Int64} {args:List Ex} (h:op=6\/op=9) (hT:termB (.mk op nm n args)=true):args.length=1/\∀ a∈args,termB a=true:=by
 rw [term_rec,Al_Bool_and_eq_true,Al_List_all_eq_true] at hT;refine ⟨?_,hT.2⟩;have h1:=hT.1;unfold trmB at h1;simp only [Al_Bool_and_eq_true,Al_decide_eq_true_eq] at h1;have h2:=h1.1.1.1.2;rcases h with rfl | rfl
 ·exact Int.ofNat_inj.1 (h2.symm.trans (by decide))
 ·exact Int.ofNat_inj.1 (h2.symm.trans (by decide))
theorem term_args2 {op:UInt8} {nm:Str} {n:Int64} {args:List Ex} (h:op=11\/op=12\/op=13\/op=14\/op=15) (hT:termB (.mk op nm n args)=true):args.length=2/\∀ a∈args,termB a=true:=by
 rw [term_rec,Al_Bool_and_eq_true,Al_List_all_eq_true] at hT;refine ⟨?_,hT.2⟩;have h1:=hT.1;unfold trmB at h1;simp only [Al_Bool_and_eq_true,Al_decide_eq_true_eq] at h1;have h2:=h1.1.1.1.2;rcases h with rfl | rfl | rfl | rfl | rfl <;> exact Int.ofNat_inj.1 (h2.symm.trans (by decide))
def nlE (e:Ex):Bool:=Ex.all (λe=>decide (e.nm.length<=1000000)) e
theorem tmT_len (e:Ex) (hn:nlE e=true):(tmT e).length<=1000100 * e.count:=by
 induction e using Ex.ind with | _ op nm n args ih
 unfold nlE at hn;rw [all_mk,alls_allE,Al_Bool_and_eq_true,Al_decide_eq_true_eq,Al_List_all_eq_true] at hn;obtain ⟨hn,ha⟩:=hn;have hn':nm.length<=1000000:=hn
 have hx:∀ (l:List (UInt8 × Str)),l=args.map (λe=>(e.op,tmT e))->(l.headD (0,[])).2.length+((l.drop 1).headD (0,[])).2.length<=1000100 * Ex.counts args:=by
  rintro l rfl
  match args,ih,ha with
  | [],_,_=>exact Al_Nat_zero_le _
  | [a],ih,ha =>
   have:=ih a (Al_List_mem_cons_self ..) (ha a (Al_List_mem_cons_self ..));rw [Ex.counts,Ex.counts];show (tmT a).length+0<=_;omega
  | a::b::r,ih,ha =>
   have h1:=ih a (Al_List_mem_cons_self ..) (ha a (Al_List_mem_cons_self ..));have h2:=ih b (Al_List_mem_cons_of_mem _ (Al_List_mem_cons_self ..)) (ha b (Al_List_mem_cons_of_mem _ (Al_List_mem_cons_self ..)));rw [Ex.counts,Ex.counts];show (tmT a).length+(tmT b).length<=_;omega
 have hx:=hx _ rfl;rw [ex_count,tm_mk];unfold tmOp;generalize args.map (λe=>(e.op,tmT e))=l at hx|-;have hi:=itoa_len n;have p1:=(prnT_len (decide (tlv (l.headD (0,[])).1<6)) (l.headD (0,[])).2).2;have p2:=(prnT_len (decide (tlv (l.headD (0,[])).1<tlv op)) (l.headD (0,[])).2).2;have p3:=(prnT_len (decide (tlv ((l.drop 1).headD (0,[])).1<tlv op+1)) ((l.drop 1).headD (0,[])).2).2;have p4:=symT_len op;generalize Ex.counts args=C at hx|-
 repeat' split
 all_goals (try simp only [Al_List_length_append,Al_List_length_cons,Al_List_length_nil]);omega
def Gq (H:Hp):Prop:=∀ W,Agr H W->Lib.TabIs prg W "internal/strconv.uint64pow10" .u64 Lib.pow10Tab
variable {H H':Hp}
theorem Gq.up (g:Gq H) (u:Up H H'):Gq H':=λW a=>g W ⟨λb o e=>a b o (u b o e),u.lo ▸ a.lo⟩
theorem ext_grow {w:World} (os:Array Obj):Ext w (Sort.grow w os) :=
 Ext.of_below ⟨Z,Z,Z,by simp [Sort.grow],λk hk=>by simp [Sort.grow,Array.getElem?_append,hk]⟩
theorem formatInt_any (H:Hp) (g:Gq H) (n:Int64) (w:World) (hA:Agr H w):Calls prg 138 #[.int .i64 n.toInt,.int .i64 10] w λr w'=>r=.returned (strV (Lib.itoa n.toInt))/\Ext w w' :=
 (Tryz.strconv_FormatInt_10 n.toInt (by have:=n.le_toInt;omega) (by have:=n.toInt_lt;omega) w (g w hA)).mono λ_ _ ⟨he,k,os,hw⟩=>⟨he,hw ▸ ((Ext.refl w).drewN k).trans (ext_grow os)⟩
theorem itoa_any (H:Hp) (g:Gq H) (n:Int64) (w:World) (hA:Agr H w):Calls prg 144 #[.int .i64 n.toInt] w λr w'=>r=.returned (strV (Lib.itoa n.toInt))/\Ext w w' :=
 (Tryz.strconv_Itoa n.toInt (by have:=n.le_toInt;omega) (by have:=n.toInt_lt;omega) w (g w hA)).mono λ_ _ ⟨he,k,os,hw⟩=>⟨he,hw ▸ ((Ext.refl w).drewN k).trans (ext_grow os)⟩
theorem tlv_any (H:Hp) (op:UInt8) (w:World) (hA:Agr H w):Calls prg 140 #[.int .u8 op.toNat] w λr w'=>r=.returned (iN (tlv op))/\Ext w w':=by
 refine Sx.enter (H:=H) func140 rfl ntmps140 rfl hA ?_;refine .sr<|.aq Z<|.sq<|.sm Z<|.nt<|.bk<|.sq<|.sr<|.yw (.eql Z Z)<|.aq Z<|.cr Z (λh4=>?_) (λh4=>?_)
 ·have qa:op=14:=Al_UInt8_toNat_inj.1 (by have:=Al_of_decide_eq_true h4;show op.toNat=14;omega);refine .sk<|.tN<|.cT Z<|.sr<|.az Z<|.bR<|.tR<|?_
  refine y9 Z Z λW s=>⟨?_,s.ext⟩
  first
   | (rw [tlv4 (.inl qa)];rfl)
   | (rw [tlv4 (.inr qa)];rfl)
   | (rw [tlv5 (.inl qb)];rfl)
   | (rw [tlv5 (.inr (.inl qb))];rfl)
   | (rw [tlv5 (.inr (.inr qb))];rfl)
   | (rw [tlv6 q9];rfl)
   | (rw [tlv7 qa14 qa15 qb11 qb12 qb13 q9];rfl)
 have qa14:¬ op=14:=λe=>Al_of_decide_eq_false h4 (by rw [e];rfl);refine .rg<|.yw (.eql Z Z)<|.aq Z<|.cr Z (λh4=>?_) (λh4=>?_)
 ·have qa:op=15:=Al_UInt8_toNat_inj.1 (by have:=Al_of_decide_eq_true h4;show op.toNat=15;omega);refine .sr<|.az Z<|.bR<|.tR<|?_
  refine y9 Z Z λW s=>⟨?_,s.ext⟩
  first
   | (rw [tlv4 (.inl qa)];rfl)
   | (rw [tlv4 (.inr qa)];rfl)
   | (rw [tlv5 (.inl qb)];rfl)
   | (rw [tlv5 (.inr (.inl qb))];rfl)
   | (rw [tlv5 (.inr (.inr qb))];rfl)
   | (rw [tlv6 q9];rfl)
   | (rw [tlv7 qa14 qa15 qb11 qb12 qb13 q9];rfl)
 have qa15:¬ op=15:=λe=>Al_of_decide_eq_false h4 (by rw [e];rfl);refine .sq<|.sr<|.yw (.eql Z Z)<|.aq Z<|.cr Z (λh7=>?_) (λh7=>?_)
 ·have qb:op=11:=Al_UInt8_toNat_inj.1 (by have:=Al_of_decide_eq_true h7;show op.toNat=11;omega);refine .sk<|.tN<|.cT Z<|.sr<|.az Z<|.bR<|.tR<|?_
  refine y9 Z Z λW s=>⟨?_,s.ext⟩
  first
   | (rw [tlv4 (.inl qa)];rfl)
   | (rw [tlv4 (.inr qa)];rfl)
   | (rw [tlv5 (.inl qb)];rfl)
   | (rw [tlv5 (.inr (.inl qb))];rfl)
   | (rw [tlv5 (.inr (.inr qb))];rfl)
   | (rw [tlv6 q9];rfl)
   | (rw [tlv7 qa14 qa15 qb11 qb12 qb13 q9];rfl)
 have qb11:¬ op=11:=λe=>Al_of_decide_eq_false h7 (by rw [e];rfl);refine .sr<|.yw (.eql Z Z)<|.aq Z<|.cr Z (λh7=>?_) (λh7=>?_)
 ·have qb:op=12:=Al_UInt8_toNat_inj.1 (by have:=Al_of_decide_eq_true h7;show op.toNat=12;omega);refine .sk<|.tN<|.cT Z<|.sr<|.az Z<|.bR<|.tR<|?_
  refine y9 Z Z λW s=>⟨?_,s.ext⟩
  first
   | (rw [tlv4 (.inl qa)];rfl)
   | (rw [tlv4 (.inr qa)];rfl)
   | (rw [tlv5 (.inl qb)];rfl)
   | (rw [tlv5 (.inr (.inl qb))];rfl)
   | (rw [tlv5 (.inr (.inr qb))];rfl)
   | (rw [tlv6 q9];rfl)
   | (rw [tlv7 qa14 qa15 qb11 qb12 qb13 q9];rfl)
 have qb12:¬ op=12:=λe=>Al_of_decide_eq_false h7 (by rw [e];rfl);refine .rg<|.yw (.eql Z Z)<|.aq Z<|.cr Z (λh7=>?_) (λh7=>?_)
 ·have qb:op=13:=Al_UInt8_toNat_inj.1 (by have:=Al_of_decide_eq_true h7;show op.toNat=13;omega);refine .sr<|.az Z<|.bR<|.tR<|?_
  refine y9 Z Z λW s=>⟨?_,s.ext⟩
  first
   | (rw [tlv4 (.inl qa)];rfl)
   | (rw [tlv4 (.inr qa)];rfl)
   | (rw [tlv5 (.inl qb)];rfl)
   | (rw [tlv5 (.inr (.inl qb))];rfl)
   | (rw [tlv5 (.inr (.inr qb))];rfl)
   | (rw [tlv6 q9];rfl)
   | (rw [tlv7 qa14 qa15 qb11 qb12 qb13 q9];rfl)
 have qb13:¬ op=13:=λe=>Al_of_decide_eq_false h7 (by rw [e];rfl);refine .sr<|.yw (.eql Z Z)<|.aq Z<|.cd Z (λh11=>?_) (λh11=>?_)
 ·have q9:op=9:=Al_UInt8_toNat_inj.1 (by have:=Al_of_decide_eq_true h11;show op.toNat=9;omega);refine .sr<|.az Z<|.bR<|.tR<|?_
  refine y9 Z Z λW s=>⟨?_,s.ext⟩
  first
   | (rw [tlv4 (.inl qa)];rfl)
   | (rw [tlv4 (.inr qa)];rfl)
   | (rw [tlv5 (.inl qb)];rfl)
   | (rw [tlv5 (.inr (.inl qb))];rfl)
   | (rw [tlv5 (.inr (.inr qb))];rfl)
   | (rw [tlv6 q9];rfl)
   | (rw [tlv7 qa14 qa15 qb11 qb12 qb13 q9];rfl)
 have q9:¬ op=9:=λe=>Al_of_decide_eq_false h11 (by rw [e];rfl);refine .sk<|.bN<|.tN<|.sr<|.az Z<|?_
 refine y9 Z Z λW s=>⟨?_,s.ext⟩
 first
  | (rw [tlv4 (.inl qa)];rfl)
  | (rw [tlv4 (.inr qa)];rfl)
  | (rw [tlv5 (.inl qb)];rfl)
  | (rw [tlv5 (.inr (.inl qb))];rfl)
  | (rw [tlv5 (.inr (.inr qb))];rfl)
  | (rw [tlv6 q9];rfl)
  | (rw [tlv7 qa14 qa15 qb11 qb12 qb13 q9];rfl)
theorem termOperand_any (H:Hp) (e:Ex) (k:Nat) (ht:(∀ (cs:List Value) (W:World),Rep H (dEx .u8 e) cs->termB e=true\/Ex.op e=0->(tmT e).length<=1000000000->Agr H W->Calls prg 89 #[.agg cs.toArray] W λr W'=>r=.returned (strV (tmT e))/\Ext W W')) (cs:List Value) (w:World) (h:Rep H (dEx .u8 e) cs) (hok:termB e=true\/e.op=0) (hl:(tmT e).length<=1000000000) (hA:Agr H w) :
 Calls prg 139 #[.agg cs.toArray,iN k] w λr w'=>r=.returned (strV (prnT (decide (tlv e.op<k)) (tmT e)))/\Ext w w':=by
 obtain ⟨op,nm,nn,args⟩:=e;obtain ⟨pp,c,rfl,hs,hnm⟩:=ex_open h;refine Sx.enter (H:=H) func139 rfl ntmps139 rfl hA ?_;refine .sr<|.bx Z Z Z λb2=>.aq Z<|.sq<|.sr<|.fA Z Fx.field76_0<|.lD Z Fx.agg74 Hm Z<|.yw (.call Fx.call140 Z (λW s=>tlv_any H op W s.agr))<|.mv Z<|.yw (.lss Z Z)<|.nt<|.cd Z (λh9=>?_) (λh9=>?_)
 ·have h9:tlv op<k:=by have:=Al_of_decide_eq_true h9;omega
  refine .sr<|.yw (.loadW Z Fx.agg76 Hm Z)<|.yw (.call Fx.call89 Z (λW s=>ht _ W h hok hl s.agr))<|.yw (.app Z Z (by (try simp only [Al_List_length_append,Al_List_length_cons,Al_List_length_nil]);omega))<|.yw (.app Z Z (by (try simp only [Al_List_length_append,Al_List_length_cons,Al_List_length_nil]);omega))<|.az Z<|.tR<|?_
  refine y9 Z Z λW s=>⟨?_,s.ext⟩
  first
   | (rw [show decide (tlv (Ex.op (.mk op nm nn args))<k)=true from Al_decide_eq_true h9];rfl)
   | (rw [show decide (tlv (Ex.op (.mk op nm nn args))<k)=false from Al_decide_eq_false h9];rfl)
 have h9:¬ tlv op<k:=λe=>Al_of_decide_eq_false h9 (by omega);refine .sk<|.tN<|.sr<|.yw (.loadW Z Fx.agg76 Hm Z)<|.yw (.call Fx.call89 Z (λW s=>ht _ W h hok hl s.agr))<|.az Z<|?_
 refine y9 Z Z λW s=>⟨?_,s.ext⟩
 first
  | (rw [show decide (tlv (Ex.op (.mk op nm nn args))<k)=true from Al_decide_eq_true h9];rfl)
  | (rw [show decide (tlv (Ex.op (.mk op nm nn args))<k)=false from Al_decide_eq_false h9];rfl)
theorem termText_any (H:Hp) (G:Gf H) (gq:Gq H) (e:Ex):(∀ (cs:List Value) (W:World),Rep H (dEx .u8 e) cs->termB e=true\/Ex.op e=0->(tmT e).length<=1000000000->Agr H W->Calls prg 89 #[.agg cs.toArray] W λr W'=>r=.returned (strV (tmT e))/\Ext W W'):=by
 induction e using Ex.ind with | _ op nm nn args ih
 intro cs w h hok hl hA;obtain ⟨pp,c,rfl,hs,hnm⟩:=ex_open h;have hcap:=hs.cap;refine Sx.enter (H:=H) func89 rfl ntmps89 rfl hA ?_;refine .sr<|.bx Z Z Z λb1=>.aq Z<|.sq<|.sr<|.fA Z Fx.field76_0<|.lD Z Fx.agg74 Hm Z<|.nt<|.bk<|.sr<|.yw (.eql Z Z)<|.aq Z<|.cd Z (λh6=>?_) (λh6=>?_)
 ·have q1:op=1:=Al_UInt8_toNat_inj.1 (by have:=Al_of_decide_eq_true h6;show op.toNat=1;omega);refine .sr<|.fA Z Fx.field76_2<|.lD Z Fx.agg2 Hm Z<|.yw (.call Fx.call138 Z (λW s=>formatInt_any H gq nn W s.agr))<|.az Z<|.bR<|.tR<|?_
  refine y9 Z Z λW s=>⟨?_,s.ext⟩
  first
   | (rw [tm1 q1])
   | (rw [tm4 q4];rfl)
   | (rw [tm5 q5])
   | (rw [tm6 q6 h0];rfl)
   | (rw [tm8 q8];rfl)
   | (rw [tm9 q9 h0];rfl)
   | (rw [tmb qB h0 h1];rfl)
   | (rw [tmn q1 q4 q5 q6 q8 q9 qB];rfl)
 have q1:¬ op=1:=λe=>Al_of_decide_eq_false h6 (by rw [e];rfl);refine .sr<|.yw (.eql Z Z)<|.aq Z<|.cd Z (λh11=>?_) (λh11=>?_)
 ·have q4:op=4:=Al_UInt8_toNat_inj.1 (by have:=Al_of_decide_eq_true h11;show op.toNat=4;omega);refine .sr<|.az Z<|.bR<|.tR<|?_
  refine y9 Z Z λW s=>⟨?_,s.ext⟩
  first
   | (rw [tm1 q1])
   | (rw [tm4 q4];rfl)
   | (rw [tm5 q5])
   | (rw [tm6 q6 h0];rfl)
   | (rw [tm8 q8];rfl)
   | (rw [tm9 q9 h0];rfl)
   | (rw [tmb qB h0 h1];rfl)
   | (rw [tmn q1 q4 q5 q6 q8 q9 qB];rfl)
 have q4:¬ op=4:=λe=>Al_of_decide_eq_false h11 (by rw [e];rfl);refine .sr<|.yw (.eql Z Z)<|.aq Z<|.cd Z (λh13=>?_) (λh13=>?_)
 ·have q5:op=5:=Al_UInt8_toNat_inj.1 (by have:=Al_of_decide_eq_true h13;show op.toNat=5;omega);refine .sr<|.fA Z Fx.field76_1<|.lD Z Fx.agg9 Hm Z<|.az Z<|.bR<|.tR<|?_
  refine y9 Z Z λW s=>⟨?_,s.ext⟩
  first
   | (rw [tm1 q1])
   | (rw [tm4 q4];rfl)
   | (rw [tm5 q5])
   | (rw [tm6 q6 h0];rfl)
   | (rw [tm8 q8];rfl)
   | (rw [tm9 q9 h0];rfl)
   | (rw [tmb qB h0 h1];rfl)
   | (rw [tmn q1 q4 q5 q6 q8 q9 qB];rfl)
 have q5:¬ op=5:=λe=>Al_of_decide_eq_false h13 (by rw [e];rfl);refine .sr<|.yw (.eql Z Z)<|.aq Z<|.cd Z (λh17=>?_) (λh17=>?_)
 ·have q6:op=6:=Al_UInt8_toNat_inj.1 (by have:=Al_of_decide_eq_true h17;show op.toNat=6;omega);obtain ⟨hla,hta⟩:=term_args1 (.inl q6) (hok.resolve_right (by rw [q6];exact (by decide:¬ (6:UInt8)=0)));have h0:0<args.length:=by omega
  obtain ⟨b0,o0,c0,hp0,r0,l0,m0⟩:=hs.elem (map_at h0);cases hp0;rw [tm6 q6 h0] at hl;simp only [Al_List_length_append,Al_List_length_cons,Al_List_length_nil] at hl

  refine .sq<|.fL 10 [(0,0),(1,0),(2,0),(3,0),(4,0),(5,0),(6,0),(7,0),(8,0),(9,0)]<|.fA Z Fx.field76_1<|.lD Z Fx.agg9 Hm Z<|.yw (.app Z Z (by (try simp only [Al_List_length_append,Al_List_length_cons,Al_List_length_nil]);omega))<|.fA Z Fx.field76_3<|.lD Z Fx.agg32 Hm Z<|.yw (.indexSl Fx.sl32 Z Z (i:=0) Z (by omega) (q:=o0+0 * 4) Z)<|.yw (.loadMW Z Fx.agg76 m0 l0)<|.yw (.call Fx.call89 Z (λW s=>ih _ (Al_List_getElem_mem h0) _ W r0 (.inl (hta _ (Al_List_getElem_mem h0))) (by omega) s.agr))<|.yw (.app Z Z (by (try simp only [Al_List_length_append,Al_List_length_cons,Al_List_length_nil]);omega))<|.yw (.app Z Z (by (try simp only [Al_List_length_append,Al_List_length_cons,Al_List_length_nil]);omega))<|.fn (tl:=[_]) Z<|.az Z<|.bR<|.tR<|?_
  refine y9 Z Z λW s=>⟨?_,s.ext⟩
  first
   | (rw [tm1 q1])
   | (rw [tm4 q4];rfl)
   | (rw [tm5 q5])
   | (rw [tm6 q6 h0];rfl)
   | (rw [tm8 q8];rfl)
   | (rw [tm9 q9 h0];rfl)
   | (rw [tmb qB h0 h1];rfl)
   | (rw [tmn q1 q4 q5 q6 q8 q9 qB];rfl)
 have q6:¬ op=6:=λe=>Al_of_decide_eq_false h17 (by rw [e];rfl);refine .sr<|.yw (.eql Z Z)<|.aq Z<|.cd Z (λh29=>?_) (λh29=>?_)
 ·have q8:op=8:=Al_UInt8_toNat_inj.1 (by have:=Al_of_decide_eq_true h29;show op.toNat=8;omega);refine .sr<|.fA Z Fx.field76_1<|.lD Z Fx.agg9 Hm Z<|.yw (.app Z Z (by (try simp only [Al_List_length_append,Al_List_length_cons,Al_List_length_nil]);omega))<|.az Z<|.bR<|.tR<|?_
  refine y9 Z Z λW s=>⟨?_,s.ext⟩
  first
   | (rw [tm1 q1])
   | (rw [tm4 q4];rfl)
   | (rw [tm5 q5])
   | (rw [tm6 q6 h0];rfl)
   | (rw [tm8 q8];rfl)
   | (rw [tm9 q9 h0];rfl)
   | (rw [tmb qB h0 h1];rfl)
   | (rw [tmn q1 q4 q5 q6 q8 q9 qB];rfl)
 have q8:¬ op=8:=λe=>Al_of_decide_eq_false h29 (by rw [e];rfl);refine .sr<|.yw (.eql Z Z)<|.aq Z<|.cd Z (λh34=>?_) (λh34=>?_)
 ·have q9:op=9:=Al_UInt8_toNat_inj.1 (by have:=Al_of_decide_eq_true h34;show op.toNat=9;omega);obtain ⟨hla,hta⟩:=term_args1 (.inr q9) (hok.resolve_right (by rw [q9];exact (by decide:¬ (9:UInt8)=0)));have h0:0<args.length:=by omega
  obtain ⟨b0,o0,c0,hp0,r0,l0,m0⟩:=hs.elem (map_at h0);cases hp0;rw [tm9 q9 h0] at hl;simp only [Al_List_length_append,Al_List_length_cons,Al_List_length_nil] at hl;have pl:=prnT_len (decide (tlv args[0].op<6)) (tmT args[0])

  refine .sr<|.fA Z Fx.field76_3<|.lD Z Fx.agg32 Hm Z<|.yw (.indexSl Fx.sl32 Z Z (i:=0) Z (by omega) (q:=o0+0 * 4) Z)<|.yw (.loadMW Z Fx.agg76 m0 l0)<|.yw (.call Fx.call139 Z (λW s=>termOperand_any H _ 6 (ih _ (Al_List_getElem_mem h0)) _ W r0 (.inl (hta _ (Al_List_getElem_mem h0))) (by omega) s.agr))<|.yw (.app Z Z (by (try simp only [Al_List_length_append,Al_List_length_cons,Al_List_length_nil]);omega))<|.az Z<|.bR<|.tR<|?_
  refine y9 Z Z λW s=>⟨?_,s.ext⟩
  first
   | (rw [tm1 q1])
   | (rw [tm4 q4];rfl)
   | (rw [tm5 q5])
   | (rw [tm6 q6 h0];rfl)
   | (rw [tm8 q8];rfl)
   | (rw [tm9 q9 h0];rfl)
   | (rw [tmb qB h0 h1];rfl)
   | (rw [tmn q1 q4 q5 q6 q8 q9 qB];rfl)
 have q9:¬ op=9:=λe=>Al_of_decide_eq_false h34 (by rw [e];rfl);refine .cu (X:=Bool) [(1,_)] ⟨Z,Jt⟩ (λz=>[(42,.bool z)]) (λz=>H) (λz=>[.box b1 [.int .u8 op.toNat,strV nm,.int .i64 nn.toInt,.slice pp args.length c] 76]) (λz=>z=decide (op=11\/op=12\/op=13\/op=14\/op=15)) ?_ λz hC=>?_
 ·
  refine .sr<|.yw (.eql Z Z)<|.aq Z<|.cr Z (λh42=>?_) (λh42=>?_)
  ·have qb:op=11:=Al_UInt8_toNat_inj.1 (by have:=Al_of_decide_eq_true h42;show op.toNat=11;omega);exact .sk<|.tN<|.me _ ⟨Z,Jt⟩ ⟨Z,Jt⟩ (λ_ s=>s) (by first | (rw [qb];rfl) | (simp only [qb11,qb12,qb13,qb14,false_or];exact k8 (m:=15) (by decide)))
  have qb11:¬ op=11:=λe=>Al_of_decide_eq_false h42 (by rw [e];rfl);refine .sr<|.yw (.eql Z Z)<|.aq Z<|.cr Z (λh42=>?_) (λh42=>?_)
  ·have qb:op=12:=Al_UInt8_toNat_inj.1 (by have:=Al_of_decide_eq_true h42;show op.toNat=12;omega);exact .sk<|.tN<|.me _ ⟨Z,Jt⟩ ⟨Z,Jt⟩ (λ_ s=>s) (by first | (rw [qb];rfl) | (simp only [qb11,qb12,qb13,qb14,false_or];exact k8 (m:=15) (by decide)))
  have qb12:¬ op=12:=λe=>Al_of_decide_eq_false h42 (by rw [e];rfl);refine .sr<|.yw (.eql Z Z)<|.aq Z<|.cr Z (λh42=>?_) (λh42=>?_)
  ·have qb:op=13:=Al_UInt8_toNat_inj.1 (by have:=Al_of_decide_eq_true h42;show op.toNat=13;omega);exact .sk<|.tN<|.me _ ⟨Z,Jt⟩ ⟨Z,Jt⟩ (λ_ s=>s) (by first | (rw [qb];rfl) | (simp only [qb11,qb12,qb13,qb14,false_or];exact k8 (m:=15) (by decide)))
  have qb13:¬ op=13:=λe=>Al_of_decide_eq_false h42 (by rw [e];rfl);refine .sr<|.yw (.eql Z Z)<|.aq Z<|.cr Z (λh42=>?_) (λh42=>?_)
  ·have qb:op=14:=Al_UInt8_toNat_inj.1 (by have:=Al_of_decide_eq_true h42;show op.toNat=14;omega);exact .sk<|.tN<|.me _ ⟨Z,Jt⟩ ⟨Z,Jt⟩ (λ_ s=>s) (by first | (rw [qb];rfl) | (simp only [qb11,qb12,qb13,qb14,false_or];exact k8 (m:=15) (by decide)))
  have qb14:¬ op=14:=λe=>Al_of_decide_eq_false h42 (by rw [e];rfl);exact .rg<|.yw (.eql Z Z)<|.aq Z<|.me _ ⟨Z,Jt⟩ ⟨Z,Jt⟩ (λ_ s=>s) (by first | (rw [qb];rfl) | (simp only [qb11,qb12,qb13,qb14,false_or];exact k8 (m:=15) (by decide)))
 have eqB:=hC;refine .cr Z (λh42=>?_) (λh42=>?_)
 ·have qB:(op=11\/op=12\/op=13\/op=14\/op=15):=by rw [h42] at eqB;exact Al_of_decide_eq_true eqB.symm
  obtain ⟨hla,hta⟩:=term_args2 qB (hok.resolve_right (by rintro (h:op=0);rw [h] at qB;revert qB;decide));have h0:0<args.length:=by omega
  have h1:1<args.length:=by omega
  obtain ⟨b0,o0,c0,hp0,r0,l0,m0⟩:=hs.elem (map_at h0);cases hp0;obtain ⟨b1,o1,c1,hp1,r1,l1,m1⟩:=hs.elem (map_at h1);cases hp1;rw [tmb qB h0 h1] at hl;simp only [Al_List_length_append,Al_List_length_cons,Al_List_length_nil] at hl;have pl:=prnT_len (decide (tlv args[0].op<tlv op)) (tmT args[0]);have pl1:=prnT_len (decide (tlv args[1].op<tlv op+1)) (tmT args[1]);have psy:=symT_len op;have htl:=tlv_le op;have hop:op.toNat<=15:=by rcases qB with rfl | rfl | rfl | rfl | rfl <;> decide
  refine .sr<|.fA Z Fx.field76_0<|.lD Z Fx.agg74 Hm Z<|.yw (.call Fx.call140 Z (λW s=>tlv_any H op W s.agr))<|.aq Z<|.sq<|.fL 21 [(0,0),(1,0),(2,0),(3,0),(4,0),(5,0),(6,0),(7,0),(8,0),(9,0),(10,0),(11,0),(12,0),(13,0),(14,0),(15,0),(16,0),(17,0),(18,0),(19,0),(20,0)]<|.fA Z Fx.field76_3<|.lD Z Fx.agg32 Hm Z<|.yw (.indexSl Fx.sl32 Z Z (i:=0) Z (by omega) (q:=o0+0 * 4) Z)<|.yw (.loadMW Z Fx.agg76 m0 l0)<|.mv Z<|.yw (.call Fx.call139 Z (λW s=>termOperand_any H _ (tlv op) (ih _ (Al_List_getElem_mem h0)) _ W r0 (.inl (hta _ (Al_List_getElem_mem h0))) (by omega) s.agr))<|.yw (.app Z Z (by (try simp only [Al_List_length_append,Al_List_length_cons,Al_List_length_nil]);omega))<|.fA Z Fx.field76_0<|.lD Z Fx.agg74 Hm Z<|.yw (.indexArr Fx.arr165 Z Z Z (by omega) (q:=op.toNat) (by omega))<|.yw (.loadM (k:=op.toNat) (v:=strV (symT op)) Z Fx.agg9 G.syms (by omega) (by show _=some (strV (fsyms.getD op.toNat []));exact list_at (by show op.toNat<22;omega) []))<|.yw (.app Z Z (by (try simp only [Al_List_length_append,Al_List_length_cons,Al_List_length_nil]);omega))<|.yw (.app Z Z (by (try simp only [Al_List_length_append,Al_List_length_cons,Al_List_length_nil]);omega))<|.fA Z Fx.field76_3<|.lD Z Fx.agg32 Hm Z<|.yw (.indexSl Fx.sl32 Z Z (i:=1) Z (by omega) (q:=o0+1 * 4) Z)<|.yw (.loadMW Z Fx.agg76 m1 l1)<|.mv Z<|.yw (.add Z Z w7)<|.yw (.call Fx.call139 Z (λW s=>termOperand_any H _ (tlv op+1) (ih _ (Al_List_getElem_mem h1)) _ W r1 (.inl (hta _ (Al_List_getElem_mem h1))) (by omega) s.agr))<|.yw (.app Z Z (by (try simp only [Al_List_length_append,Al_List_length_cons,Al_List_length_nil]);omega))<|.fn (tl:=[_]) Z<|.az Z<|.bR<|.tR<|?_
  refine y9 Z Z λW s=>⟨?_,s.ext⟩
  first
   | (rw [tm1 q1])
   | (rw [tm4 q4];rfl)
   | (rw [tm5 q5])
   | (rw [tm6 q6 h0];rfl)
   | (rw [tm8 q8];rfl)
   | (rw [tm9 q9 h0];rfl)
   | (rw [tmb qB h0 h1];rfl)
   | (rw [tmn q1 q4 q5 q6 q8 q9 qB];rfl)
 have qB:¬ (op=11\/op=12\/op=13\/op=14\/op=15):=by rw [h42] at eqB;exact Al_of_decide_eq_false eqB.symm
 refine .sk<|.bN<|.tN<|.sr<|.az Z<|?_
 refine y9 Z Z λW s=>⟨?_,s.ext⟩
 first
  | (rw [tm1 q1])
  | (rw [tm4 q4];rfl)
  | (rw [tm5 q5])
  | (rw [tm6 q6 h0];rfl)
  | (rw [tm8 q8];rfl)
  | (rw [tm9 q9 h0];rfl)
  | (rw [tmb qB h0 h1];rfl)
  | (rw [tmn q1 q4 q5 q6 q8 q9 qB];rfl)
theorem join_joi (sep:Str):∀ l:List Str,Lib.join l sep=joiT sep l
 | []=>rfl
 | [x]=>Lib.join_one x sep
 | x::y::r=>by
  show _=x++sep++joiT sep (y::r);rw [<-join_joi sep (y::r),Lib.join_cons,Lib.join_cons];simp [Lib.joinTail,Al_List_append_assoc]
theorem joi_len (sep:Str):∀ l:List Str,(joiT sep l).length<=(l.map List.length).sum+l.length * sep.length
 | []=>Al_Nat_zero_le _
 | [x]=>by show x.length<=x.length+0+1 * sep.length;omega
 | x::y::r=>by
  have h:=joi_len sep (y::r);show (x++sep++joiT sep (y::r)).length<=_;rw [Al_List_length_append,Al_List_length_append,Al_List_map_cons,List.sum_cons,Al_List_length_cons (a:=x),Al_Nat_add_mul];omega
theorem joi_ge (sep:Str):∀ (l:List Str),∀ x∈l,x.length<=(joiT sep l).length
 | [y],x,h=>by rw [Al_List_mem_singleton.1 h];exact Al_Nat_le_refl _
 | y::z::r,x,h=>by
  show _<=(y++sep++joiT sep (z::r)).length;rw [Al_List_length_append,Al_List_length_append];rcases Al_List_mem_cons.1 h with rfl | h
  ·omega
  ·have:=joi_ge sep (z::r) x h;omega
section
variable {op:UInt8} {nm fd:Str} {a b:Int64} {ex:List Ex} {args:List Fm} {e0:Ex}
theorem form_all (h:Fm.all formB (.mk op nm fd a b ex args)=true):formB (.mk op nm fd a b ex args)=true/\∀ g∈args,Fm.all formB g=true:=by
 rw [fm_allL,Al_Bool_and_eq_true,Al_List_all_eq_true] at h;exact h
theorem form_parts (h:formB (.mk op nm fd a b ex args)=true):¬ (fsOf op).lv=0/\args.length=(fsOf op).ar/\exsB (.mk op nm fd a b ex args)=true/\bndB (.mk op nm fd a b ex args)=true:=by
 unfold formB at h;rw [Al_Bool_and_eq_true,Al_Bool_and_eq_true,Al_Bool_and_eq_true,Al_Bool_and_eq_true,Al_Bool_and_eq_true,Al_decide_eq_true_eq,Al_decide_eq_true_eq] at h;exact ⟨h.1.1.1.1.1,h.1.1.2,h.2,h.1.2⟩
theorem form_op (h:formB (.mk op nm fd a b ex args)=true):op.toNat<=18:=by
 have h1:=(form_parts h).1;exact Classical.byContradiction λe=>h1 (by unfold fsOf;rw [List.getD_eq_getElem?_getD,List.getElem?_eq_none (by show 19<=op.toNat;omega)];rfl)
theorem form_ex7 (h:formB (.mk op nm fd a b ex args)=true) (q:op=7):ex.length<=4/\∀ e∈ex,termB e=true\/e.op=0:=by
 have h1:=(form_parts h).2.2.1;subst q;unfold exsB at h1;rw [Al_if_pos (show (Fm.mk 7 nm fd a b ex args).op=7 from rfl),Al_Bool_and_eq_true,Al_decide_eq_true_eq,Al_List_all_eq_true] at h1;refine ⟨h1.1,λe he=>?_⟩;have h2:=h1.2 e he;rw [Al_Bool_or_eq_true] at h2;rcases h2 with h2 | h2
 ·obtain ⟨o,n,m,al⟩:=e;unfold anyB at h2;simp only [Al_Bool_and_eq_true,Al_decide_eq_true_eq] at h2;exact .inr h2.1.1.1
 ·exact .inl h2
theorem form_exn (h:formB (.mk op nm fd a b ex args)=true) (q:¬ op=7):ex.length=(fsOf op).ex/\(if op=3 then cmpB (ex.headD (.mk 0 [] 0 [])) else if op=5 then termB (ex.headD (.mk 0 [] 0 [])) else if op=18 then decide ((ex.headD (.mk 0 [] 0 [])).op=1) && termB (ex.headD (.mk 0 [] 0 [])) && decide ((ex.headD (.mk 0 [] 0 [])).n.toInt<=32) else true)=true:=by
 have h1:=(form_parts h).2.2.1;unfold exsB at h1;rw [Al_if_neg (show ¬ (Fm.mk op nm fd a b ex args).op=7 from q),Al_Bool_and_eq_true,Al_decide_eq_true_eq] at h1;exact h1
theorem form_ex1 (h:formB (.mk op nm fd a b ex args)=true) (q:op=5\/op=18):∃ e0,ex=[e0]/\termB e0=true:=by
 have h1:=form_exn h (by rcases q with rfl | rfl <;> decide);have hl:ex.length=1:=h1.1.trans (by rcases q with rfl | rfl <;> rfl);obtain ⟨e0,rfl⟩:=List.length_eq_one_iff.1 hl;refine ⟨e0,Z,?_⟩;have h2:=h1.2;rcases q with rfl | rfl
 ·exact h2
 ·rw [Al_if_neg (by decide),Al_if_neg (by decide),Al_if_pos rfl,Al_Bool_and_eq_true,Al_Bool_and_eq_true] at h2;exact h2.1.2
theorem form_ex3 (h:formB (.mk op nm fd a b ex args)=true) (q:op=3):∃ op0 nm0 m0 args0,ex=[.mk op0 nm0 m0 args0]/\(16<=op0.toNat/\op0.toNat<=21)/\args0.length=2/\∀ a∈args0,termB a=true:=by
 have h1:=form_exn h (by subst q;decide);have hl:ex.length=1:=h1.1.trans (by subst q;rfl);obtain ⟨⟨op0,nm0,m0,args0⟩,rfl⟩:=List.length_eq_one_iff.1 hl;refine ⟨op0,nm0,m0,args0,Z,?_⟩;have h2:=h1.2;rw [Al_if_pos q] at h2;change cmpB (.mk op0 nm0 m0 args0)=true at h2;unfold cmpB at h2;simp only [Al_Bool_and_eq_true,Al_decide_eq_true_eq] at h2;rw [termBs_all,Al_List_all_eq_true] at h2;exact ⟨⟨h2.1.1.1.1,h2.1.1.1.2⟩,h2.2.2,h2.2.1⟩
theorem fx3 {op0:UInt8} {nm0:Str} {m0:Int64} {args0:List Ex} (h:op=3) (he:ex=[.mk op0 nm0 m0 args0]) (h0:0<args0.length) (h1:1<args0.length):fmT (.mk op nm fd a b ex args)=(tmT args0[0]++([32]:Str)++symT op0++([32]:Str)++tmT args0[1]:Str):=by
 match args0,h1 with
 | x::y::r,_=>rw [fm_mk];subst h he;rfl
theorem fx4 (h:op=4):fmT (.mk op nm fd a b ex args)=(nm++([46]:Str)++fd:Str):=by rw [fm_mk];subst h;rfl
theorem fx5 (h:op=5) (he:ex=[e0]):fmT (.mk op nm fd a b ex args)=(wordF op++([32]:Str)++nm++([46]:Str)++fd++([91]:Str)++tmT e0++([93]:Str):Str):=by rw [fm_mk];subst h he;rfl
theorem fx6 (h:op=6):fmT (.mk op nm fd a b ex args)=(wordF op++([32]:Str)++nm:Str):=by rw [fm_mk];subst h;rfl
theorem fx7 (h:op=7):fmT (.mk op nm fd a b ex args)=(wordF op++([32]:Str)++nm++([46]:Str)++fd++([40]:Str)++joiT ([44,32]:Str) (ex.map tmT)++([41]:Str):Str):=by rw [fm_mk];subst h;rfl
def pfW (k:Nat) (f:Fm):Str:=prnT (decide ((fsOf f.op).lv<k)) (fmT f)
theorem fxu (h:op=8\/op=12\/op=13\/op=14) (h0:0<args.length):fmT (.mk op nm fd a b ex args)=(wordF op++winT (.mk op nm fd a b ex args)++([32]:Str)++pfW 5 args[0]:Str):=by
 rw [fm_mk];unfold fmOp pfW;rw [hd0 h0];rcases h with rfl | rfl | rfl | rfl <;> rfl
theorem fxq (h:op=16\/op=17) (h0:0<args.length):fmT (.mk op nm fd a b ex args)=(wordF op++amoT (.mk op nm fd a b ex args)++([32]:Str)++pfW 5 args[0]:Str):=by
 rw [fm_mk];unfold fmOp pfW;rw [hd0 h0];rcases h with rfl | rfl <;> rfl
theorem fx18 (h:op=18) (he:ex=[e0]) (h0:0<args.length):fmT (.mk op nm fd a b ex args)=(wordF op++amoT (.mk op nm fd a b ex args)++([32,40]:Str)++fmT args[0]++([41,32,62,61,32]:Str)++tmT e0:Str):=by
 rw [fm_mk];unfold fmOp;rw [hd0 h0];subst h he;rfl
theorem fxb (h:op=15\/op=9\/op=10\/op=11) (h0:0<args.length) (h1:1<args.length):fmT (.mk op nm fd a b ex args)=(pfW (fsOf op).lv args[0]++([32]:Str)++wordF op++winT (.mk op nm fd a b ex args)++([32]:Str)++pfW ((fsOf op).lv+1) args[1]:Str):=by
 rw [fm_mk];unfold fmOp pfW;rw [hd0 h0,hd1 h1];rcases h with rfl | rfl | rfl | rfl <;> rfl
theorem fxn (h3:¬ op=3) (h4:¬ op=4) (h5:¬ op=5) (h6:¬ op=6) (h7:¬ op=7) (hu:¬ (op=8\/op=12\/op=13\/op=14)) (hq:¬ (op=16\/op=17)) (h18:¬ op=18) (hb:¬ (op=15\/op=9\/op=10\/op=11)):fmT (.mk op nm fd a b ex args)=wordF op:=by
 rw [fm_mk];unfold fmOp;rw [Al_if_neg (show ¬ (Fm.mk op nm fd a b ex args).op=3 from h3),Al_if_neg (show ¬ (Fm.mk op nm fd a b ex args).op=4 from h4),Al_if_neg (show ¬ (Fm.mk op nm fd a b ex args).op=5 from h5),Al_if_neg (show ¬ (Fm.mk op nm fd a b ex args).op=6 from h6),Al_if_neg (show ¬ (Fm.mk op nm fd a b ex args).op=7 from h7),Al_if_neg (show ¬ ((Fm.mk op nm fd a b ex args).op=8\/(Fm.mk op nm fd a b ex args).op=12\/(Fm.mk op nm fd a b ex args).op=13\/(Fm.mk op nm fd a b ex args).op=14) from hu),Al_if_neg (show ¬ ((Fm.mk op nm fd a b ex args).op=16\/(Fm.mk op nm fd a b ex args).op=17) from hq),Al_if_neg (show ¬ (Fm.mk op nm fd a b ex args).op=18 from h18),Al_if_neg (show ¬ ((Fm.mk op nm fd a b ex args).op=15\/(Fm.mk op nm fd a b ex args).op=9\/(Fm.mk op nm fd a b ex args).op=10\/(Fm.mk op nm fd a b ex args).op=11) from hb)]
 rfl
theorem ar1 (h:op=8\/op=12\/op=13\/op=14\/op=16\/op=17\/op=18):(fsOf op).ar=1:=by rcases h with rfl | rfl | rfl | rfl | rfl | rfl | rfl <;> rfl
theorem ar2 (h:op=15\/op=9\/op=10\/op=11):(fsOf op).ar=2:=by rcases h with rfl | rfl | rfl | rfl <;> rfl
theorem win_len:(winT (.mk op nm fd a b ex args)).length<=46:=by
 unfold winT
 split
 ·exact Al_Nat_zero_le _
 ·have h1:=itoa_len (Fm.mk op nm fd a b ex args).a;have h2:=itoa_len (Fm.mk op nm fd a b ex args).b;simp only [Al_List_length_append,Al_List_length_cons,Al_List_length_nil];omega
theorem amo_len:(amoT (.mk op nm fd a b ex args)).length<=nm.length+49:=by
 have h1:=itoa_len (Fm.mk op nm fd a b ex args).a;have h2:=itoa_len (Fm.mk op nm fd a b ex args).b;show (([32]:Str)++nm++_++_++_++_).length<=_;simp only [Al_List_length_append,Al_List_length_cons,Al_List_length_nil];omega
theorem pfW_len (k:Nat) (f:Fm):(fmT f).length<=(pfW k f).length/\(pfW k f).length<=(fmT f).length+2:=prnT_len _ _
end
def nlF (f:Fm):Bool:=Fm.all (λf=>decide (f.nm.length<=1000000) && decide (f.fd.length<=1000000) && f.ex.all nlE) f
theorem tmTs_len:∀ l:List Ex,(∀ e∈l,nlE e=true)->((l.map tmT).map List.length).sum<=1000100 * Ex.counts l
 | [],_=>Al_Nat_zero_le _
 | e::r,h=>by
  rw [Al_List_map_cons,Al_List_map_cons,List.sum_cons,Ex.counts];have h1:=tmT_len e (h e (Al_List_mem_cons_self ..));have h2:=tmTs_len r λx hx=>h x (Al_List_mem_cons_of_mem _ hx);omega
theorem tmAt_len (e:Ex) (h:nlE e=true):(tmT (ex0 e)).length+(tmT (ex1 e)).length<=1000100 * e.count:=by
 obtain ⟨op,nm,n,args⟩:=e;unfold nlE at h;rw [all_mk,alls_allE,Al_Bool_and_eq_true,Al_List_all_eq_true] at h;rw [ex_count];have hz:tmT zE=[95]:=tm_mk
 match args,h.2 with
 | [],_=>show (tmT zE).length+(tmT zE).length<=_;rw [hz,Ex.counts];decide
 | [x],h =>
  have:=tmT_len x (h x (Al_List_mem_cons_self ..));show (tmT x).length+(tmT zE).length<=_;rw [hz,Ex.counts,Ex.counts];show _+1<=_;omega
 | x::y::r,h =>
  have h1:=tmT_len x (h x (Al_List_mem_cons_self ..));have h2:=tmT_len y (h y (Al_List_mem_cons_of_mem _ (Al_List_mem_cons_self ..)));show (tmT x).length+(tmT y).length<=_;rw [Ex.counts,Ex.counts];omega
theorem fmOp_len (F:Fm) (l:List (UInt8 × Str)) (C D:Nat) (h1:F.nm.length<=1000000) (h2:F.fd.length<=1000000) (he:(tmT (exH F)).length+(tmT (ex0 (exH F))).length+(tmT (ex1 (exH F))).length<=2000200 * D+3)
 (hj:(joiT ([44,32]:Str) (F.ex.map tmT)).length<=1000102 * D) (hx:(l.headD (0,[])).2.length+((l.drop 1).headD (0,[])).2.length<=3000200 * C) (w1:(winT F).length<=46) (w2:(amoT F).length<=F.nm.length+49):(fmOp F l).length<=3000200 * (D+C+1):=by
 have w3:=wordF_len F.op;have w4:=symT_len (exH F).op;have p1:=(prnT_len (decide ((fsOf (l.headD (0,[])).1).lv<5)) (l.headD (0,[])).2).2;have p2:=(prnT_len (decide ((fsOf (l.headD (0,[])).1).lv<(fsOf F.op).lv)) (l.headD (0,[])).2).2;have p3:=(prnT_len (decide ((fsOf ((l.drop 1).headD (0,[])).1).lv<(fsOf F.op).lv+1)) ((l.drop 1).headD (0,[])).2).2;unfold fmOp
 repeat' split
 all_goals (try simp only [Al_List_length_append,Al_List_length_cons,Al_List_length_nil]);omega
theorem fmT_len (f:Fm) (hn:nlF f=true):(fmT f).length<=3000200 * f.count:=by
 induction f using Fm.ind with | _ op nm fd a b ex args ih
 unfold nlF at hn;rw [fm_allL,Al_Bool_and_eq_true,Al_Bool_and_eq_true,Al_Bool_and_eq_true,Al_decide_eq_true_eq,Al_decide_eq_true_eq,Al_List_all_eq_true,Al_List_all_eq_true] at hn;obtain ⟨⟨⟨hn,hf⟩,he⟩,ha⟩:=hn;have hn':nm.length<=1000000:=hn;have hf':fd.length<=1000000:=hf;have he':∀ e∈ex,nlE e=true:=he
 have hx:∀ (l:List (UInt8 × Str)),l=args.map (λf=>(f.op,fmT f))->(l.headD (0,[])).2.length+((l.drop 1).headD (0,[])).2.length<=3000200 * Fm.counts args:=by
  rintro l rfl
  match args,ih,ha with
  | [],_,_=>exact Al_Nat_zero_le _
  | [a],ih,ha =>
   have:=ih a (Al_List_mem_cons_self ..) (ha a (Al_List_mem_cons_self ..));rw [Fm.counts,Fm.counts];show (fmT a).length+0<=_;omega
  | a::b::r,ih,ha =>
   have h1:=ih a (Al_List_mem_cons_self ..) (ha a (Al_List_mem_cons_self ..));have h2:=ih b (Al_List_mem_cons_of_mem _ (Al_List_mem_cons_self ..)) (ha b (Al_List_mem_cons_of_mem _ (Al_List_mem_cons_self ..)));rw [Fm.counts,Fm.counts];show (fmT a).length+(fmT b).length<=_;omega
 have hx:=hx _ rfl
 have he0:(tmT (exH (.mk op nm fd a b ex args))).length+(tmT (ex0 (exH (.mk op nm fd a b ex args)))).length+(tmT (ex1 (exH (.mk op nm fd a b ex args)))).length<=2000200 * Ex.counts ex+3:=by
  have hz:tmT zE=[95]:=tm_mk
  match ex,he' with
  | [],_ =>
   show (tmT zE).length+(tmT zE).length+(tmT zE).length<=_;rw [hz];show 3<=_;omega
  | e::r,h =>
   have h1:=tmT_len e (h e (Al_List_mem_cons_self ..));have h2:=tmAt_len e (h e (Al_List_mem_cons_self ..));show (tmT e).length+(tmT (ex0 e)).length+(tmT (ex1 e)).length<=_;rw [Ex.counts];omega
 have hj:=joi_len ([44,32]:Str) (ex.map tmT);have hs:=tmTs_len ex he';have hl2:=ex_len ex;rw [Al_List_length_map] at hj;rw [fm_count,fm_mk];have e2:([44,32]:Str).length=2:=rfl;rw [e2] at hj;exact fmOp_len _ _ _ _ hn' hf' he0 (Al_Nat_le_trans hj (by omega)) hx win_len amo_len
theorem fld_s0 (s:Fs):∀ W,(Instr.field 157 (.agg (fsC s).toArray) 0).run prg W=.ok (.int .u8 (s.lv:Nat)) W:=λ_=>by kernel_rfl
theorem fld_s3 (s:Fs):∀ W,(Instr.field 157 (.agg (fsC s).toArray) 3).run prg W=.ok (.bool s.wn) W:=λ_=>by kernel_rfl
section
variable {op:UInt8} {nm fd:Str} {a b:Int64} {ex:List Ex} {args:List Fm}
theorem win_1 (h:(!(fsOf op).wn)=true):winT (.mk op nm fd a b ex args)=[]:=by
 unfold winT;exact Al_if_pos (show (!(fsOf op).wn || decide (b.toInt<0))=true by rw [h];rfl)
theorem win_2 (h:(!(fsOf op).wn)=false) (h2:decide (b.toInt<0)=true):winT (.mk op nm fd a b ex args)=[]:=by
 unfold winT;exact Al_if_pos (show (!(fsOf op).wn || decide (b.toInt<0))=true by rw [h,h2];rfl)
theorem win_3 (h:(!(fsOf op).wn)=false) (h2:decide (b.toInt<0)=false):winT (.mk op nm fd a b ex args)=([91]:Str)++Lib.itoa a.toInt++([44,32]:Str)++Lib.itoa b.toInt++([93]:Str):=by
 unfold winT;exact Al_if_neg (show ¬ (!(fsOf op).wn || decide (b.toInt<0))=true by rw [h,h2];decide)
end
theorem window_any (H:Hp) (G:Gf H) (gq:Gq H) (f:Fm) (cs:List Value) (w:World) (h:Rep H (dFm .u8 f) cs) (hA:Agr H w):Calls prg 91 #[.agg cs.toArray] w λr w'=>r=.returned (strV (winT f))/\Ext w w':=by
 obtain ⟨op,nm,fd,a,b,ex,args⟩:=f;obtain ⟨p1,c1,p2,c2,rfl,hs1,hs2,hnm,hfd⟩:=fm_open h;have hi1:=itoa_len a;have hi2:=itoa_len b;refine Sx.enter (H:=H) func91 rfl ntmps91 rfl hA ?_;refine .sr<|.bx Z Z Z λb1=>.aq Z<|.sq<|.sr<|.fA Z Fx.field35_0<|.lD Z Fx.agg31 Hm Z<|.yw (.call (v:=.agg (fsC (fsOf op)).toArray) Fx.call74 Z (λW s=>fshape_any H G op W s.agr))<|.yw (.fld Z (fld_s3 _))<|.yw (.not Z)<|.mv Z<|.b2 (λh8=>?_) (λh8=>?_)
 ·try simp only [dt] at h8
  refine .gG<|.gG<|.gG<|.yw (.pickT Z Z)<|.nt<|.cT Z<|.sr<|.az Z<|.tR<|?_
  refine y9 Z Z λW s=>⟨?_,s.ext⟩
  first
   | (rw [win_2 h8 h12];rfl)
   | (rw [win_3 h8 h12];rfl)
   | (rw [win_1 h8];rfl)
 try simp only [df] at h8
 refine .gy (.fieldAddr Z Fx.field35_4)<|.gy (.load Z Fx.agg3 Hm Z)<|.gy (.lss Z Z)<|.yw (.pickF Z Z)<|.nt<|.cd Z (λh12=>?_) (λh12=>?_)
 ·refine .sr<|.az Z<|.tR<|?_
  refine y9 Z Z λW s=>⟨?_,s.ext⟩
  first
   | (rw [win_2 h8 h12];rfl)
   | (rw [win_3 h8 h12];rfl)
   | (rw [win_1 h8];rfl)
 refine .sk<|.tN<|.sq<|.fL 10 [(0,0),(1,0),(2,0),(3,0),(4,0),(5,0),(6,0),(7,0),(8,0),(9,0)]<|.fA Z Fx.field35_3<|.lD Z Fx.agg3 Hm Z<|.yw (.call Fx.call144 Z (λW s=>itoa_any H gq a W s.agr))<|.yw (.app Z Z (by (try simp only [Al_List_length_append,Al_List_length_cons,Al_List_length_nil]);omega))<|.yw (.app Z Z (by (try simp only [Al_List_length_append,Al_List_length_cons,Al_List_length_nil]);omega))<|.fA Z Fx.field35_4<|.lD Z Fx.agg3 Hm Z<|.yw (.call Fx.call144 Z (λW s=>itoa_any H gq b W s.agr))<|.yw (.app Z Z (by (try simp only [Al_List_length_append,Al_List_length_cons,Al_List_length_nil]);omega))<|.yw (.app Z Z (by (try simp only [Al_List_length_append,Al_List_length_cons,Al_List_length_nil]);omega))<|.fn (tl:=[_]) Z<|.az Z<|?_
 refine y9 Z Z λW s=>⟨?_,s.ext⟩
 first
  | (rw [win_2 h8 h12];rfl)
  | (rw [win_3 h8 h12];rfl)
  | (rw [win_1 h8];rfl)
theorem among_any (H:Hp) (gq:Gq H) (f:Fm) (cs:List Value) (w:World) (h:Rep H (dFm .u8 f) cs) (hA:Agr H w):Calls prg 93 #[.agg cs.toArray] w λr w'=>r=.returned (strV (amoT f))/\Ext w w':=by
 obtain ⟨op,nm,fd,a,b,ex,args⟩:=f;obtain ⟨p1,c1,p2,c2,rfl,hs1,hs2,hnm,hfd⟩:=fm_open h;have hi1:=itoa_len a;have hi2:=itoa_len b;refine Sx.enter (H:=H) func93 rfl ntmps93 rfl hA ?_;refine .sr<|.bx Z Z Z λb1=>.aq Z<|.sq<|.fL 13 [(0,0),(1,0),(2,0),(3,0),(4,0),(5,0),(6,0),(7,0),(8,0),(9,0),(10,0),(11,0),(12,0)]<|.fA Z Fx.field35_1<|.lD Z Fx.agg9 Hm Z<|.yw (.app Z Z (by (try simp only [Al_List_length_append,Al_List_length_cons,Al_List_length_nil]);omega))<|.yw (.app Z Z (by (try simp only [Al_List_length_append,Al_List_length_cons,Al_List_length_nil]);omega))<|.fA Z Fx.field35_3<|.lD Z Fx.agg3 Hm Z<|.yw (.call Fx.call144 Z (λW s=>itoa_any H gq a W s.agr))<|.yw (.app Z Z (by (try simp only [Al_List_length_append,Al_List_length_cons,Al_List_length_nil]);omega))<|.yw (.app Z Z (by (try simp only [Al_List_length_append,Al_List_length_cons,Al_List_length_nil]);omega))<|.fA Z Fx.field35_4<|.lD Z Fx.agg3 Hm Z<|.yw (.call Fx.call144 Z (λW s=>itoa_any H gq b W s.agr))<|.yw (.app Z Z (by (try simp only [Al_List_length_append,Al_List_length_cons,Al_List_length_nil]);omega))<|.fn (tl:=[_]) Z<|.az Z<|?_
 refine y9 Z Z λW s=>⟨?_,s.ext⟩
 first
  | (rfl)
theorem foperand_any (H:Hp) (G:Gf H) {op:UInt8} {nm fd:Str} {a b:Int64} {ex:List Ex} {args:List Fm} (i k:Nat) (hk:i<args.length) (ht:(∀ (cs:List Value) (W:World),Rep H (dFm .u8 args[i]) cs->Fm.all formB args[i]=true->(fmT args[i]).length<=1000000000->Agr H W->Calls prg 48 #[.agg cs.toArray] W λr W'=>r=.returned (strV (fmT args[i]))/\Ext W W')) (cs:List Value) (w:World) (h:Rep H (dFm .u8 (.mk op nm fd a b ex args)) cs) (hok:Fm.all formB args[i]=true) (hl:(fmT args[i]).length<=1000000000) (hA:Agr H w) :
 Calls prg 92 #[.agg cs.toArray,iN i,.int .u8 (k:Nat)] w λr w'=>r=.returned (strV (pfW k args[i]))/\Ext w w':=by
 obtain ⟨p1,c1,p2,c2,rfl,hs1,hs2,hnm,hfd⟩:=fm_open h;have hcap:=hs2.cap;obtain ⟨bE,oE,cE,hpE,rE,lE,mE⟩:=hs2.elem (map_at (f:=dFm .u8) hk);cases hpE;generalize ef:args[i]=g at rE ht hok hl|-;obtain ⟨op0,nm0,fd0,a0,b0,ex0,args0⟩:=g;obtain ⟨q1,d1,q2,d2,rfl,g1,g2,gn,gf⟩:=fm_open rE;clear ef;have ef:=@id True trivial;refine Sx.enter (H:=H) func92 rfl ntmps92 rfl hA ?_;refine .sr<|.bx Z Z Z λb3=>.a Z Z<|.ns<|.fA Z Fx.field35_6<|.lD Z Fx.agg33 Hm Z<|.mv Z<|.yw (.indexSl Fx.sl33 Z Z (i:=i) Z hk (q:=oE+i * 7) Z)<|.yw (.loadMW Z Fx.agg35 mE lE)<|.al Fx.zero35 Z λb7=>.sX .head Z Z Fx.size35 Z<|.nt<|.sq<|.sr<|.fA Z Fx.field35_0<|.lD Z Fx.agg31 Hm Z<|.yw (.call (v:=.agg (fsC (fsOf _)).toArray) Fx.call74 Z (λW s=>fshape_any H G _ W s.agr))<|.yw (.fld Z (fld_s0 _))<|.mv Z<|.yw (.lss Z Z)<|.nt<|.cd Z (λh18=>?_) (λh18=>?_)
 ·have h18:(fsOf op0).lv<k:=by have:=Al_of_decide_eq_true h18;omega
  refine .sr<|.yw (.loadW Z Fx.agg35 Hm Z)<|.yw (.call Fx.call48 Z (λW s=>ht _ W rE hok hl s.agr))<|.yw (.app Z Z (by (try simp only [Al_List_length_append,Al_List_length_cons,Al_List_length_nil]);omega))<|.yw (.app Z Z (by (try simp only [Al_List_length_append,Al_List_length_cons,Al_List_length_nil]);omega))<|.az Z<|.tR<|?_
  refine y9 Z Z λW s=>⟨?_,s.ext⟩
  first
   | (unfold pfW;rw [show decide ((fsOf (Fm.op (.mk op0 nm0 fd0 a0 b0 ex0 args0))).lv<k)=true from Al_decide_eq_true h18];rfl)
   | (unfold pfW;rw [show decide ((fsOf (Fm.op (.mk op0 nm0 fd0 a0 b0 ex0 args0))).lv<k)=false from Al_decide_eq_false h18];rfl)
 have h18:¬ (fsOf op0).lv<k:=λe=>Al_of_decide_eq_false h18 (by omega);refine .sk<|.tN<|.sr<|.yw (.loadW Z Fx.agg35 Hm Z)<|.yw (.call Fx.call48 Z (λW s=>ht _ W rE hok hl s.agr))<|.az Z<|?_
 refine y9 Z Z λW s=>⟨?_,s.ext⟩
 first
  | (unfold pfW;rw [show decide ((fsOf (Fm.op (.mk op0 nm0 fd0 a0 b0 ex0 args0))).lv<k)=true from Al_decide_eq_true h18];rfl)
  | (unfold pfW;rw [show decide ((fsOf (Fm.op (.mk op0 nm0 fd0 a0 b0 ex0 args0))).lv<k)=false from Al_decide_eq_false h18];rfl)
theorem wu8 (h:n<255):IntKind.u8.wrap ((n:Int)+1)=((n+1:Nat):Int):=by
 have key:∀ i∈List.range 256,IntKind.u8.wrap (i:Int)=(i:Int):=by decide +kernel
 exact key (n+1) (Al_List_mem_range.2 (by omega))
theorem take_snocE {l:List Ex} (h:k<l.length):l.take (k+1)=l.take k++[l[k]]:=by rw [List.take_succ,List.getElem?_eq_getElem h];rfl
theorem join_W (W:World) (b o c:Nat) (xs:List Str) (h:∀ (j:Nat) x,xs[j]? = some x->W.cell? ⟨b,o+j,none⟩=some (strV x)) (hb:b<W.heap.size) (hN:xs.length<=140737488355328) (hc:xs.length<=c) (hl:(joiT ([44,32]:Str) xs).length<=140737488355328) :
 Calls prg 90 #[.slice (some ⟨b,o,none⟩) xs.length c,strV [44,32]] W λe w'=>e=.returned (strV (joiT ([44,32]:Str) xs))/\Ext W w':=by
 have e1:((xs.map λl=>(⟨l.toArray⟩:ByteArray)).map (·.data.toList))=xs:=by simp [Function.comp_def]
 have h2:=Tryz.strings_Join b o c (xs.map λl=>(⟨l.toArray⟩:ByteArray)) ⟨#[44,32]⟩ W (λj x e=>by
  rw [List.getElem?_map] at e;cases e2:xs[j]? with
  | none=>rw [e2] at e;cases e
  | some y=>rw [e2] at e;cases e;exact h j y e2) hb (by simpa using hN) (by simpa using hc) (by rw [e1,join_joi];exact hl)
 rw [e1,Al_List_length_map,join_joi] at h2;exact h2.mono λe w' ⟨a,k⟩=>⟨a,Ext.of_below k⟩
variable {w0 W:World} {bs:List Res} {T:TypeId}
theorem join_row {r:Value} (xs:List Str) (hn:xs.length=n) (s:St H w0 bs W) (hm:Res.row T 1 r n (xs.map strV)∈bs) (hN:xs.length<=1000) (hl:(joiT ([44,32]:Str) xs).length<=140737488355328) :
 Calls prg 90 #[r,strV [44,32]] W λe w'=>e=.returned (strV (joiT ([44,32]:Str) xs))/\Ext W w':=by
 have ho:W.ownsRow w0.heap.size T 1 r n (xs.map strV):=(s.own _ hm).1;subst hn;rcases ho.2 with ⟨hr,h0⟩ | ⟨g,cap,cur,hr,_,hg,hc,_⟩
 ·obtain rfl:=Al_List_eq_nil_of_length_eq_zero h0;subst hr;exact (Tryz.strings_Join_none none 0 ⟨#[44,32]⟩ W).mono λe w' ⟨h1,h2⟩=>⟨h1,h2 ▸ Ext.refl W⟩
 ·subst hr;refine join_W W g 0 cap xs (λj x e=>?_) ?_ (by omega) hc hl
  ·have:=World.ownsRow.cells ho (g:=g) rfl j (strV x) (by rw [List.getElem?_map,e];rfl);rw [Addr.add_lit,Al_Nat_zero_add] at this;rw [Al_Nat_zero_add];exact this
  ·exact (Array.getElem?_eq_some_iff.1 hg).1
set_option maxHeartbeats 4000000 in
theorem ftext_any (H:Hp) (G:Gf H) (gq:Gq H) (f:Fm):(∀ (cs:List Value) (W:World),Rep H (dFm .u8 f) cs->Fm.all formB f=true->(fmT f).length<=1000000000->Agr H W->Calls prg 48 #[.agg cs.toArray] W λr W'=>r=.returned (strV (fmT f))/\Ext W W'):=by
 induction f using Fm.ind with | _ op nm fd a b ex args ih
 intro cs w h hok hl hA;obtain ⟨p1,c1,p2,c2,rfl,hs1,hs2,hnm,hfd⟩:=fm_open h;have hcap1:=hs1.cap;have hcap2:=hs2.cap;obtain ⟨hF,hG⟩:=form_all hok;have hop:=form_op hF;have hwl:=wordF_len op;have hwn:=win_len (op:=op) (nm:=nm) (fd:=fd) (a:=a) (b:=b) (ex:=ex) (args:=args);have ham:=amo_len (op:=op) (nm:=nm) (fd:=fd) (a:=a) (b:=b) (ex:=ex) (args:=args);refine Sx.enter (H:=H) func48 rfl ntmps48 rfl hA ?_;refine .sr<|.bx Z Z Z λb1=>.a Z Z<|.ns<|.fA Z Fx.field35_0<|.lD Z Fx.agg31 Hm Z<|.yw (.indexArr Fx.arr163 Z Z Z (by omega) (q:=op.toNat) (by omega))<|.yw (.loadM (k:=op.toNat) (v:=strV (wordF op)) Z Fx.agg9 G.words (by omega) (by show _=some (strV (fwords.getD op.toNat []));exact list_at (by show op.toNat<19;omega) []))<|.aq Z<|.sq<|.sr<|.fA Z Fx.field35_0<|.lD Z Fx.agg31 Hm Z<|.nt<|.bk<|.sr<|.yw (.eql Z Z)<|.aq Z<|.cd Z (λh15=>?_) (λh15=>?_)
 ·have q3:op=3:=Al_UInt8_toNat_inj.1 (by have:=Al_of_decide_eq_true h15;show op.toNat=3;omega);obtain ⟨op0,nm0,m0,args0,he,ho0,hla,hta⟩:=form_ex3 hF q3;have h0:0<args0.length:=by omega
  have h1:1<args0.length:=by omega
  rw [fx3 q3 he h0 h1] at hl;simp only [Al_List_length_append,Al_List_length_cons,Al_List_length_nil] at hl;subst he;obtain ⟨bX,oX,cX,hpX,rX,lX,mX⟩:=hs1.elem (i:=0) (d:=dEx .u8 (.mk op0 nm0 m0 args0)) rfl;cases hpX;obtain ⟨p0,c0,rfl,hs0,hn0⟩:=ex_open rX;have hcap0:=hs0.cap;obtain ⟨bA,oA,cA,hpA,rA,lA,mA⟩:=hs0.elem (map_at (f:=dEx .u8) h0);cases hpA;obtain ⟨bB,oB,cB,hpB,rB,lB,mB⟩:=hs0.elem (map_at (f:=dEx .u8) h1);cases hpB;have psy:=symT_len op0;refine .sr<|.fA Z Fx.field35_5<|.lD Z Fx.agg32 Hm Z<|.yw (.indexSl Fx.sl32 Z Z (i:=0) Z (by first | omega | exact Nat.succ_pos _) (q:=oX+0 * 4) Z)<|.yw (.loadMW Z Fx.agg76 mX Z)<|.al Fx.zero76 Z λb4=>.sX .head Z Z Fx.size76 Z<|.nt<|.sq<|.fL 18 [(0,0),(1,0),(2,0),(3,0),(4,0),(5,0),(6,0),(7,0),(8,0),(9,0),(10,0),(11,0),(12,0),(13,0),(14,0),(15,0),(16,0),(17,0)]<|.fA Z Fx.field76_3<|.lD Z Fx.agg32 Hm Z<|.yw (.indexSl Fx.sl32 Z Z (i:=0) Z (by first | omega | exact Nat.succ_pos _) (q:=oA+0 * 4) Z)<|.yw (.loadMW Z Fx.agg76 mA lA)<|.yw (.call Fx.call89 Z (λW s=>termText_any H G gq _ _ W rA (.inl (hta _ (Al_List_getElem_mem h0))) (by omega) s.agr))<|.yw (.app Z Z (by (try simp only [Al_List_length_append,Al_List_length_cons,Al_List_length_nil]);omega))<|.fA Z Fx.field76_0<|.lD Z Fx.agg74 Hm Z<|.yw (.indexArr Fx.arr165 Z Z Z (by omega) (q:=op0.toNat) (by omega))<|.yw (.loadM (k:=op0.toNat) (v:=strV (symT op0)) Z Fx.agg9 G.syms (by omega) (by show _=some (strV (fsyms.getD op0.toNat []));exact list_at (by show op0.toNat<22;omega) []))<|.yw (.app Z Z (by (try simp only [Al_List_length_append,Al_List_length_cons,Al_List_length_nil]);omega))<|.yw (.app Z Z (by (try simp only [Al_List_length_append,Al_List_length_cons,Al_List_length_nil]);omega))<|.fA Z Fx.field76_3<|.lD Z Fx.agg32 Hm Z<|.yw (.indexSl Fx.sl32 Z Z (i:=1) Z (by first | omega | exact Nat.succ_pos _) (q:=oA+1 * 4) Z)<|.yw (.loadMW Z Fx.agg76 mB lB)<|.yw (.call Fx.call89 Z (λW s=>termText_any H G gq _ _ W rB (.inl (hta _ (Al_List_getElem_mem h1))) (by omega) s.agr))<|.yw (.app Z Z (by (try simp only [Al_List_length_append,Al_List_length_cons,Al_List_length_nil]);omega))<|.fn (tl:=[_]) Z<|.az Z<|.bR<|.tR<|?_
  refine y9 Z Z λW s=>⟨?_,s.ext⟩
  first
   | (rw [fx3 q3 rfl h0 h1];rfl)
   | (rw [fx4 q4];rfl)
   | (rw [fx5 q5 rfl];rfl)
   | (rw [fx6 q6];rfl)
   | (rw [fx7 q7];rfl)
   | (rw [fxu qU h0];rfl)
   | (rw [fxq qQ h0];rfl)
   | (rw [fx18 q18 rfl h0];rfl)
   | (rw [fxb qB h0 h1];rfl)
   | (rw [fxn q3 q4 q5 q6 q7 qU qQ q18 qB])
 have q3:¬ op=3:=λe=>Al_of_decide_eq_false h15 (by rw [e];rfl);refine .sr<|.yw (.eql Z Z)<|.aq Z<|.cd Z (λh39=>?_) (λh39=>?_)
 ·have q4:op=4:=Al_UInt8_toNat_inj.1 (by have:=Al_of_decide_eq_true h39;show op.toNat=4;omega);refine .sr<|.fA Z Fx.field35_1<|.lD Z Fx.agg9 Hm Z<|.yw (.app Z Z (by (try simp only [Al_List_length_append,Al_List_length_cons,Al_List_length_nil]);omega))<|.fA Z Fx.field35_2<|.lD Z Fx.agg9 Hm Z<|.yw (.app Z Z (by (try simp only [Al_List_length_append,Al_List_length_cons,Al_List_length_nil]);omega))<|.az Z<|.bR<|.tR<|?_
  refine y9 Z Z λW s=>⟨?_,s.ext⟩
  first
   | (rw [fx3 q3 rfl h0 h1];rfl)
   | (rw [fx4 q4];rfl)
   | (rw [fx5 q5 rfl];rfl)
   | (rw [fx6 q6];rfl)
   | (rw [fx7 q7];rfl)
   | (rw [fxu qU h0];rfl)
   | (rw [fxq qQ h0];rfl)
   | (rw [fx18 q18 rfl h0];rfl)
   | (rw [fxb qB h0 h1];rfl)
   | (rw [fxn q3 q4 q5 q6 q7 qU qQ q18 qB])
 have q4:¬ op=4:=λe=>Al_of_decide_eq_false h39 (by rw [e];rfl);refine .sr<|.yw (.eql Z Z)<|.aq Z<|.cd Z (λh47=>?_) (λh47=>?_)
 ·have q5:op=5:=Al_UInt8_toNat_inj.1 (by have:=Al_of_decide_eq_true h47;show op.toNat=5;omega);obtain ⟨e0,he,hte⟩:=form_ex1 hF (.inl q5);rw [fx5 q5 he] at hl;simp only [Al_List_length_append,Al_List_length_cons,Al_List_length_nil] at hl;subst he;obtain ⟨bX,oX,cX,hpX,rX,lX,mX⟩:=hs1.elem (i:=0) (d:=dEx .u8 e0) rfl;cases hpX

  refine .sq<|.fL 17 [(0,0),(1,0),(2,0),(3,0),(4,0),(5,0),(6,0),(7,0),(8,0),(9,0),(10,0),(11,0),(12,0),(13,0),(14,0),(15,0),(16,0)]<|.mv Z<|.yw (.app Z Z (by (try simp only [Al_List_length_append,Al_List_length_cons,Al_List_length_nil]);omega))<|.fA Z Fx.field35_1<|.lD Z Fx.agg9 Hm Z<|.yw (.app Z Z (by (try simp only [Al_List_length_append,Al_List_length_cons,Al_List_length_nil]);omega))<|.yw (.app Z Z (by (try simp only [Al_List_length_append,Al_List_length_cons,Al_List_length_nil]);omega))<|.fA Z Fx.field35_2<|.lD Z Fx.agg9 Hm Z<|.yw (.app Z Z (by (try simp only [Al_List_length_append,Al_List_length_cons,Al_List_length_nil]);omega))<|.yw (.app Z Z (by (try simp only [Al_List_length_append,Al_List_length_cons,Al_List_length_nil]);omega))<|.fA Z Fx.field35_5<|.lD Z Fx.agg32 Hm Z<|.yw (.indexSl Fx.sl32 Z Z (i:=0) Z (by first | omega | exact Nat.succ_pos _) (q:=oX+0 * 4) Z)<|.yw (.loadMW Z Fx.agg76 mX lX)<|.yw (.call Fx.call89 Z (λW s=>termText_any H G gq _ _ W rX (.inl hte) (by omega) s.agr))<|.yw (.app Z Z (by (try simp only [Al_List_length_append,Al_List_length_cons,Al_List_length_nil]);omega))<|.yw (.app Z Z (by (try simp only [Al_List_length_append,Al_List_length_cons,Al_List_length_nil]);omega))<|.fn (tl:=[_]) Z<|.az Z<|.bR<|.tR<|?_
  refine y9 Z Z λW s=>⟨?_,s.ext⟩
  first
   | (rw [fx3 q3 rfl h0 h1];rfl)
   | (rw [fx4 q4];rfl)
   | (rw [fx5 q5 rfl];rfl)
   | (rw [fx6 q6];rfl)
   | (rw [fx7 q7];rfl)
   | (rw [fxu qU h0];rfl)
   | (rw [fxq qQ h0];rfl)
   | (rw [fx18 q18 rfl h0];rfl)
   | (rw [fxb qB h0 h1];rfl)
   | (rw [fxn q3 q4 q5 q6 q7 qU qQ q18 qB])
 have q5:¬ op=5:=λe=>Al_of_decide_eq_false h47 (by rw [e];rfl);refine .sr<|.yw (.eql Z Z)<|.aq Z<|.cd Z (λh66=>?_) (λh66=>?_)
 ·have q6:op=6:=Al_UInt8_toNat_inj.1 (by have:=Al_of_decide_eq_true h66;show op.toNat=6;omega);refine .sm Z<|.yw (.app Z Z (by (try simp only [Al_List_length_append,Al_List_length_cons,Al_List_length_nil]);omega))<|.fA Z Fx.field35_1<|.lD Z Fx.agg9 Hm Z<|.yw (.app Z Z (by (try simp only [Al_List_length_append,Al_List_length_cons,Al_List_length_nil]);omega))<|.az Z<|.bR<|.tR<|?_
  refine y9 Z Z λW s=>⟨?_,s.ext⟩
  first
   | (rw [fx3 q3 rfl h0 h1];rfl)
   | (rw [fx4 q4];rfl)
   | (rw [fx5 q5 rfl];rfl)
   | (rw [fx6 q6];rfl)
   | (rw [fx7 q7];rfl)
   | (rw [fxu qU h0];rfl)
   | (rw [fxq qQ h0];rfl)
   | (rw [fx18 q18 rfl h0];rfl)
   | (rw [fxb qB h0 h1];rfl)
   | (rw [fxn q3 q4 q5 q6 q7 qU qQ q18 qB])
 have q6:¬ op=6:=λe=>Al_of_decide_eq_false h66 (by rw [e];rfl);refine .sr<|.yw (.eql Z Z)<|.aq Z<|.cd Z (λh73=>?_) (λh73=>?_)
 ·have q7:op=7:=Al_UInt8_toNat_inj.1 (by have:=Al_of_decide_eq_true h73;show op.toNat=7;omega);obtain ⟨hle,hte⟩:=form_ex7 hF q7;rw [fx7 q7] at hl;simp only [Al_List_length_append,Al_List_length_cons,Al_List_length_nil] at hl

  refine .sq<|?_
  refine Sx.row0 9 1 ?_;refine .rg<|.aq Z<|.sq<|.sr<|.fA Z Fx.field35_5<|.lD Z Fx.agg32 mem1 Z<|.yw (.lenSl Fx.sl32 Z)<|.mv Z<|.nt<|.bk<|.lp (X:=Nat × Value × List Value) [(1,_),(3,_),(76,_),(77,_)] ⟨Z,Z,Z,Z,Jt⟩ [_] (λz=>[(5,z.2.1),(78,iN z.1)]) (λz=>H) (λz=>[.row 9 1 z.2.1 z.1 z.2.2]) (λz=>z.1<=ex.length/\z.2.2=((ex.take z.1).map tmT).map strV) (λz=>ex.length - z.1) (0,.slice none 0 0,[]) (λ_ s=>s) ⟨Z,Z,Jt⟩ ⟨Al_Nat_zero_le _,Z⟩ λz hC=>?_
  obtain ⟨k,rv,xs⟩:=z;obtain ⟨hk0,hxs⟩:=hC;dsimp only at hk0 hxs|-;subst hxs;refine .sr<|.yw (.lss Z Z)<|.nt<|.sq<|.ce Z (λh79=>?_) (λh79=>?_)
  ·have hk:k<ex.length:=by omega
   obtain ⟨bX,oX,cX,hpX,rX,lX,mX⟩:=hs1.elem (map_at (f:=dEx .u8) hk);cases hpX;have hj:=joi_ge ([44,32]:Str) (ex.map tmT) (tmT ex[k]) (Al_List_mem_map.2 ⟨_,Al_List_getElem_mem hk,Z⟩);exact .sk<|.tN<|.sq<|.bk<|.sr<|.yw (.indexSl Fx.sl32 Z Z (i:=k) Z hk (q:=oX+k * 4) Z)<|.yw (.loadMW Z Fx.agg76 mX lX)<|.al Fx.zero76 Z λb7=>.sV .head Z Z Fx.size76 lX rX.one Z<|.nt<|.rg<|.mv Z<|.yw (.loadW Z Fx.agg76 Hm lX)<|.yw (.call Fx.call89 Z (λW s=>termText_any H G gq _ _ W rX (hte _ (Al_List_getElem_mem hk)) (by omega) s.agr))<|.bl Z (Fx.bsl71_1 _) Z λb85=>.ap (news:=[strV (tmT ex[k])]) Fx.row71 Z (λ_=>upd2) Z (.box Hm z0) Z (by simp [Value.oneCell',strV]) (by simp [maxLen];omega) (by omega) Z λr86 _=>.a Z Z<|.nl<|.bN<|.tN<|.rg<|.yw (.add Z Z w7)<|.mv Z<|.nt<|.ag (x:=(k,rv,((ex.take k).map tmT).map strV)) (k+1,r86,(((ex.take k).map tmT).map strV)++[strV (tmT ex[k])]) ⟨Z,Z,Jt⟩ ⟨Z,Z,Z,Z,Jt⟩ (λ_ s=>s.pick [2,3] [_,_] Z Z) ⟨hk,by rw [take_snocE hk,Al_List_map_append,Al_List_map_append];rfl⟩ (by omega)
  obtain rfl:k=ex.length:=by omega
  rw [Al_List_take_length];refine .ex<|.eb<|.sq<|.fL 14 [(0,0),(1,0),(2,0),(3,0),(4,0),(5,0),(6,0),(7,0),(8,0),(9,0),(10,0),(11,0),(12,0),(13,0)]<|.mv Z<|.yw (.app Z Z (by (try simp only [Al_List_length_append,Al_List_length_cons,Al_List_length_nil]);omega))<|.fA Z Fx.field35_1<|.lD Z Fx.agg9 mem1 Z<|.yw (.app Z Z (by (try simp only [Al_List_length_append,Al_List_length_cons,Al_List_length_nil]);omega))<|.yw (.app Z Z (by (try simp only [Al_List_length_append,Al_List_length_cons,Al_List_length_nil]);omega))<|.fA Z Fx.field35_2<|.lD Z Fx.agg9 mem1 Z<|.yw (.app Z Z (by (try simp only [Al_List_length_append,Al_List_length_cons,Al_List_length_nil]);omega))<|.yw (.app Z Z (by (try simp only [Al_List_length_append,Al_List_length_cons,Al_List_length_nil]);omega))<|.mv Z<|.yw (.call Fx.call90 Z (λW s=>join_row (ex.map tmT) (Al_List_length_map ..) s Hm (by rw [Al_List_length_map];omega) (by omega)))<|.yw (.app Z Z (by (try simp only [Al_List_length_append,Al_List_length_cons,Al_List_length_nil]);omega))<|.yw (.app Z Z (by (try simp only [Al_List_length_append,Al_List_length_cons,Al_List_length_nil]);omega))<|.fn (tl:=[_]) Z<|.az Z<|.bR<|.tR<|?_
  refine y9 Z Z λW s=>⟨?_,s.ext⟩
  first
   | (rw [fx3 q3 rfl h0 h1];rfl)
   | (rw [fx4 q4];rfl)
   | (rw [fx5 q5 rfl];rfl)
   | (rw [fx6 q6];rfl)
   | (rw [fx7 q7];rfl)
   | (rw [fxu qU h0];rfl)
   | (rw [fxq qQ h0];rfl)
   | (rw [fx18 q18 rfl h0];rfl)
   | (rw [fxb qB h0 h1];rfl)
   | (rw [fxn q3 q4 q5 q6 q7 qU qQ q18 qB])
 have q7:¬ op=7:=λe=>Al_of_decide_eq_false h73 (by rw [e];rfl);refine .cu (X:=Bool) [(1,_),(3,_),(14,_)] ⟨Z,Z,Z,Jt⟩ (λz=>[(102,.bool z)]) (λz=>H) (λz=>[.box b1 [.int .u8 op.toNat,strV nm,strV fd,.int .i64 a.toInt,.int .i64 b.toInt,.slice p1 ex.length c1,.slice p2 args.length c2] 35]) (λz=>z=decide (op=8\/op=12\/op=13\/op=14)) ?_ λz hC=>?_
 ·
  refine .sr<|.yw (.eql Z Z)<|.aq Z<|.cr Z (λh102=>?_) (λh102=>?_)
  ·have qu:op=8:=Al_UInt8_toNat_inj.1 (by have:=Al_of_decide_eq_true h102;show op.toNat=8;omega);exact .sk<|.tN<|.me _ ⟨Z,Jt⟩ ⟨Z,Z,Z,Jt⟩ (λ_ s=>s) (by first | (rw [qu];rfl) | (simp only [qu8,qu12,qu13,false_or];exact k8 (m:=14) (by decide)))
  have qu8:¬ op=8:=λe=>Al_of_decide_eq_false h102 (by rw [e];rfl);refine .sr<|.yw (.eql Z Z)<|.aq Z<|.cr Z (λh102=>?_) (λh102=>?_)
  ·have qu:op=12:=Al_UInt8_toNat_inj.1 (by have:=Al_of_decide_eq_true h102;show op.toNat=12;omega);exact .sk<|.tN<|.me _ ⟨Z,Jt⟩ ⟨Z,Z,Z,Jt⟩ (λ_ s=>s) (by first | (rw [qu];rfl) | (simp only [qu8,qu12,qu13,false_or];exact k8 (m:=14) (by decide)))
  have qu12:¬ op=12:=λe=>Al_of_decide_eq_false h102 (by rw [e];rfl);refine .sr<|.yw (.eql Z Z)<|.aq Z<|.cr Z (λh102=>?_) (λh102=>?_)
  ·have qu:op=13:=Al_UInt8_toNat_inj.1 (by have:=Al_of_decide_eq_true h102;show op.toNat=13;omega);exact .sk<|.tN<|.me _ ⟨Z,Jt⟩ ⟨Z,Z,Z,Jt⟩ (λ_ s=>s) (by first | (rw [qu];rfl) | (simp only [qu8,qu12,qu13,false_or];exact k8 (m:=14) (by decide)))
  have qu13:¬ op=13:=λe=>Al_of_decide_eq_false h102 (by rw [e];rfl);exact .rg<|.yw (.eql Z Z)<|.aq Z<|.me _ ⟨Z,Jt⟩ ⟨Z,Z,Z,Jt⟩ (λ_ s=>s) (by first | (rw [qu];rfl) | (simp only [qu8,qu12,qu13,false_or];exact k8 (m:=14) (by decide)))
 have eqU:=hC;refine .cr Z (λh102=>?_) (λh102=>?_)
 ·have qU:(op=8\/op=12\/op=13\/op=14):=by rw [h102] at eqU;exact Al_of_decide_eq_true eqU.symm
  have har:=(form_parts hF).2.1;rw [ar1 ((by rcases qU with h | h | h | h <;> simp [h]))] at har;have h0:0<args.length:=by omega
  have hok0:=hG _ (Al_List_getElem_mem h0);rw [fxu qU h0] at hl;simp only [Al_List_length_append,Al_List_length_cons,Al_List_length_nil] at hl;have pl:=pfW_len 5 args[0]

  refine .sq<|.fL 8 [(0,0),(1,0),(2,0),(3,0),(4,0),(5,0),(6,0),(7,0)]<|.mv Z<|.yw (.loadW Z Fx.agg35 Hm Z)<|.yw (.call Fx.call91 Z (λW s=>window_any H G gq _ _ W h s.agr))<|.yw (.app Z Z (by (try simp only [Al_List_length_append,Al_List_length_cons,Al_List_length_nil]);omega))<|.yw (.app Z Z (by (try simp only [Al_List_length_append,Al_List_length_cons,Al_List_length_nil]);omega))<|.yw (.loadW Z Fx.agg35 Hm Z)<|.yw (.call Fx.call92 Z (λW s=>foperand_any H G 0 5 h0 (ih _ (Al_List_getElem_mem h0)) _ W h hok0 (by omega) s.agr))<|.yw (.app Z Z (by (try simp only [Al_List_length_append,Al_List_length_cons,Al_List_length_nil]);omega))<|.fn (tl:=[_]) Z<|.az Z<|.bR<|.tR<|?_
  refine y9 Z Z λW s=>⟨?_,s.ext⟩
  first
   | (rw [fx3 q3 rfl h0 h1];rfl)
   | (rw [fx4 q4];rfl)
   | (rw [fx5 q5 rfl];rfl)
   | (rw [fx6 q6];rfl)
   | (rw [fx7 q7];rfl)
   | (rw [fxu qU h0];rfl)
   | (rw [fxq qQ h0];rfl)
   | (rw [fx18 q18 rfl h0];rfl)
   | (rw [fxb qB h0 h1];rfl)
   | (rw [fxn q3 q4 q5 q6 q7 qU qQ q18 qB])
 have qU:¬ (op=8\/op=12\/op=13\/op=14):=by rw [h102] at eqU;exact Al_of_decide_eq_false eqU.symm
 refine .cu (X:=Bool) [(1,_),(3,_),(14,_)] ⟨Z,Z,Z,Jt⟩ (λz=>[(115,.bool z)]) (λz=>H) (λz=>[.box b1 [.int .u8 op.toNat,strV nm,strV fd,.int .i64 a.toInt,.int .i64 b.toInt,.slice p1 ex.length c1,.slice p2 args.length c2] 35]) (λz=>z=decide (op=16\/op=17)) ?_ λz hC=>?_
 ·
  refine .sr<|.yw (.eql Z Z)<|.aq Z<|.cr Z (λh115=>?_) (λh115=>?_)
  ·have qq:op=16:=Al_UInt8_toNat_inj.1 (by have:=Al_of_decide_eq_true h115;show op.toNat=16;omega);exact .sk<|.tN<|.me _ ⟨Z,Jt⟩ ⟨Z,Z,Z,Jt⟩ (λ_ s=>s) (by first | (rw [qq];rfl) | (simp only [qq16,false_or];exact k8 (m:=17) (by decide)))
  have qq16:¬ op=16:=λe=>Al_of_decide_eq_false h115 (by rw [e];rfl);exact .rg<|.yw (.eql Z Z)<|.aq Z<|.me _ ⟨Z,Jt⟩ ⟨Z,Z,Z,Jt⟩ (λ_ s=>s) (by first | (rw [qq];rfl) | (simp only [qq16,false_or];exact k8 (m:=17) (by decide)))
 have eqQ:=hC;refine .cr Z (λh115=>?_) (λh115=>?_)
 ·have qQ:(op=16\/op=17):=by rw [h115] at eqQ;exact Al_of_decide_eq_true eqQ.symm
  have har:=(form_parts hF).2.1;rw [ar1 ((by rcases qQ with h | h <;> simp [h]))] at har;have h0:0<args.length:=by omega
  have hok0:=hG _ (Al_List_getElem_mem h0);rw [fxq qQ h0] at hl;simp only [Al_List_length_append,Al_List_length_cons,Al_List_length_nil] at hl;have pl:=pfW_len 5 args[0]

  refine .sq<|.fL 8 [(0,0),(1,0),(2,0),(3,0),(4,0),(5,0),(6,0),(7,0)]<|.mv Z<|.yw (.loadW Z Fx.agg35 Hm Z)<|.yw (.call Fx.call93 Z (λW s=>among_any H gq _ _ W h s.agr))<|.yw (.app Z Z (by (try simp only [Al_List_length_append,Al_List_length_cons,Al_List_length_nil]);omega))<|.yw (.app Z Z (by (try simp only [Al_List_length_append,Al_List_length_cons,Al_List_length_nil]);omega))<|.yw (.loadW Z Fx.agg35 Hm Z)<|.yw (.call Fx.call92 Z (λW s=>foperand_any H G 0 5 h0 (ih _ (Al_List_getElem_mem h0)) _ W h hok0 (by omega) s.agr))<|.yw (.app Z Z (by (try simp only [Al_List_length_append,Al_List_length_cons,Al_List_length_nil]);omega))<|.fn (tl:=[_]) Z<|.az Z<|.bR<|.tR<|?_
  refine y9 Z Z λW s=>⟨?_,s.ext⟩
  first
   | (rw [fx3 q3 rfl h0 h1];rfl)
   | (rw [fx4 q4];rfl)
   | (rw [fx5 q5 rfl];rfl)
   | (rw [fx6 q6];rfl)
   | (rw [fx7 q7];rfl)
   | (rw [fxu qU h0];rfl)
   | (rw [fxq qQ h0];rfl)
   | (rw [fx18 q18 rfl h0];rfl)
   | (rw [fxb qB h0 h1];rfl)
   | (rw [fxn q3 q4 q5 q6 q7 qU qQ q18 qB])
 have qQ:¬ (op=16\/op=17):=by rw [h115] at eqQ;exact Al_of_decide_eq_false eqQ.symm
 refine .sr<|.yw (.eql Z Z)<|.aq Z<|.cd Z (λh126=>?_) (λh126=>?_)
 ·have q18:op=18:=Al_UInt8_toNat_inj.1 (by have:=Al_of_decide_eq_true h126;show op.toNat=18;omega);obtain ⟨e0,he,hte⟩:=form_ex1 hF (.inr q18);have har:=(form_parts hF).2.1;rw [ar1 ((by simp [q18]))] at har;have h0:0<args.length:=by omega
  have hok0:=hG _ (Al_List_getElem_mem h0);rw [fx18 q18 he h0] at hl;simp only [Al_List_length_append,Al_List_length_cons,Al_List_length_nil] at hl;obtain ⟨bE,oE,cE,hpE,rE,lE,mE⟩:=hs2.elem (map_at (f:=dFm .u8) h0);cases hpE;subst he;obtain ⟨bX,oX,cX,hpX,rX,lX,mX⟩:=hs1.elem (i:=0) (d:=dEx .u8 e0) rfl;cases hpX

  refine .sq<|.fL 18 [(0,0),(1,0),(2,0),(3,0),(4,0),(5,0),(6,0),(7,0),(8,0),(9,0),(10,0),(11,0),(12,0),(13,0),(14,0),(15,0),(16,0),(17,0)]<|.mv Z<|.yw (.loadW Z Fx.agg35 Hm Z)<|.yw (.call Fx.call93 Z (λW s=>among_any H gq _ _ W h s.agr))<|.yw (.app Z Z (by (try simp only [Al_List_length_append,Al_List_length_cons,Al_List_length_nil]);omega))<|.yw (.app Z Z (by (try simp only [Al_List_length_append,Al_List_length_cons,Al_List_length_nil]);omega))<|.fA Z Fx.field35_6<|.lD Z Fx.agg33 Hm Z<|.yw (.indexSl Fx.sl33 Z Z (i:=0) Z (by omega) (q:=oE+0 * 7) Z)<|.yw (.loadMW Z Fx.agg35 mE lE)<|.yw (.call Fx.call48 Z (λW s=>ih _ (Al_List_getElem_mem h0) _ W rE hok0 (by omega) s.agr))<|.yw (.app Z Z (by (try simp only [Al_List_length_append,Al_List_length_cons,Al_List_length_nil]);omega))<|.yw (.app Z Z (by (try simp only [Al_List_length_append,Al_List_length_cons,Al_List_length_nil]);omega))<|.fA Z Fx.field35_5<|.lD Z Fx.agg32 Hm Z<|.yw (.indexSl Fx.sl32 Z Z (i:=0) Z (by first | omega | exact Nat.succ_pos _) (q:=oX+0 * 4) Z)<|.yw (.loadMW Z Fx.agg76 mX lX)<|.yw (.call Fx.call89 Z (λW s=>termText_any H G gq _ _ W rX (.inl hte) (by omega) s.agr))<|.yw (.app Z Z (by (try simp only [Al_List_length_append,Al_List_length_cons,Al_List_length_nil]);omega))<|.fn (tl:=[_]) Z<|.az Z<|.bR<|.tR<|?_
  refine y9 Z Z λW s=>⟨?_,s.ext⟩
  first
   | (rw [fx3 q3 rfl h0 h1];rfl)
   | (rw [fx4 q4];rfl)
   | (rw [fx5 q5 rfl];rfl)
   | (rw [fx6 q6];rfl)
   | (rw [fx7 q7];rfl)
   | (rw [fxu qU h0];rfl)
   | (rw [fxq qQ h0];rfl)
   | (rw [fx18 q18 rfl h0];rfl)
   | (rw [fxb qB h0 h1];rfl)
   | (rw [fxn q3 q4 q5 q6 q7 qU qQ q18 qB])
 have q18:¬ op=18:=λe=>Al_of_decide_eq_false h126 (by rw [e];rfl);refine .cu (X:=Bool) [(1,_),(3,_)] ⟨Z,Z,Jt⟩ (λz=>[(146,.bool z)]) (λz=>H) (λz=>[.box b1 [.int .u8 op.toNat,strV nm,strV fd,.int .i64 a.toInt,.int .i64 b.toInt,.slice p1 ex.length c1,.slice p2 args.length c2] 35]) (λz=>z=decide (op=15\/op=9\/op=10\/op=11)) ?_ λz hC=>?_
 ·
  refine .sr<|.yw (.eql Z Z)<|.aq Z<|.cr Z (λh146=>?_) (λh146=>?_)
  ·have qb:op=15:=Al_UInt8_toNat_inj.1 (by have:=Al_of_decide_eq_true h146;show op.toNat=15;omega);exact .sk<|.tN<|.me _ ⟨Z,Jt⟩ ⟨Z,Z,Jt⟩ (λ_ s=>s) (by first | (rw [qb];rfl) | (simp only [qb15,qb9,qb10,false_or];exact k8 (m:=11) (by decide)))
  have qb15:¬ op=15:=λe=>Al_of_decide_eq_false h146 (by rw [e];rfl);refine .sr<|.yw (.eql Z Z)<|.aq Z<|.cr Z (λh146=>?_) (λh146=>?_)
  ·have qb:op=9:=Al_UInt8_toNat_inj.1 (by have:=Al_of_decide_eq_true h146;show op.toNat=9;omega);exact .sk<|.tN<|.me _ ⟨Z,Jt⟩ ⟨Z,Z,Jt⟩ (λ_ s=>s) (by first | (rw [qb];rfl) | (simp only [qb15,qb9,qb10,false_or];exact k8 (m:=11) (by decide)))
  have qb9:¬ op=9:=λe=>Al_of_decide_eq_false h146 (by rw [e];rfl);refine .sr<|.yw (.eql Z Z)<|.aq Z<|.cr Z (λh146=>?_) (λh146=>?_)
  ·have qb:op=10:=Al_UInt8_toNat_inj.1 (by have:=Al_of_decide_eq_true h146;show op.toNat=10;omega);exact .sk<|.tN<|.me _ ⟨Z,Jt⟩ ⟨Z,Z,Jt⟩ (λ_ s=>s) (by first | (rw [qb];rfl) | (simp only [qb15,qb9,qb10,false_or];exact k8 (m:=11) (by decide)))
  have qb10:¬ op=10:=λe=>Al_of_decide_eq_false h146 (by rw [e];rfl);exact .rg<|.yw (.eql Z Z)<|.aq Z<|.me _ ⟨Z,Jt⟩ ⟨Z,Z,Jt⟩ (λ_ s=>s) (by first | (rw [qb];rfl) | (simp only [qb15,qb9,qb10,false_or];exact k8 (m:=11) (by decide)))
 have eqB:=hC;refine .cr Z (λh146=>?_) (λh146=>?_)
 ·have qB:(op=15\/op=9\/op=10\/op=11):=by rw [h146] at eqB;exact Al_of_decide_eq_true eqB.symm
  have har:=(form_parts hF).2.1;rw [ar2 qB] at har;have h0:0<args.length:=by omega
  have h1:1<args.length:=by omega
  have hok0:=hG _ (Al_List_getElem_mem h0);have hok1:=hG _ (Al_List_getElem_mem h1);rw [fxb qB h0 h1] at hl;simp only [Al_List_length_append,Al_List_length_cons,Al_List_length_nil] at hl;have pl:=pfW_len (fsOf op).lv args[0];have pl1:=pfW_len ((fsOf op).lv+1) args[1];have hlv:(fsOf op).lv<=4:=by rcases qB with rfl | rfl | rfl | rfl <;> decide
  refine .sr<|.fA Z Fx.field35_0<|.lD Z Fx.agg31 Hm Z<|.yw (.call (v:=.agg (fsC (fsOf op)).toArray) Fx.call74 Z (λW s=>fshape_any H G op W s.agr))<|.yw (.fld Z (fld_s0 _))<|.aq Z<|.sq<|.fL 15 [(0,0),(1,0),(2,0),(3,0),(4,0),(5,0),(6,0),(7,0),(8,0),(9,0),(10,0),(11,0),(12,0),(13,0),(14,0)]<|.yw (.loadW Z Fx.agg35 Hm Z)<|.mv Z<|.yw (.call Fx.call92 Z (λW s=>foperand_any H G 0 (fsOf op).lv h0 (ih _ (Al_List_getElem_mem h0)) _ W h hok0 (by omega) s.agr))<|.yw (.app Z Z (by (try simp only [Al_List_length_append,Al_List_length_cons,Al_List_length_nil]);omega))<|.mv Z<|.yw (.app Z Z (by (try simp only [Al_List_length_append,Al_List_length_cons,Al_List_length_nil]);omega))<|.yw (.loadW Z Fx.agg35 Hm Z)<|.yw (.call Fx.call91 Z (λW s=>window_any H G gq _ _ W h s.agr))<|.yw (.app Z Z (by (try simp only [Al_List_length_append,Al_List_length_cons,Al_List_length_nil]);omega))<|.yw (.app Z Z (by (try simp only [Al_List_length_append,Al_List_length_cons,Al_List_length_nil]);omega))<|.yw (.loadW Z Fx.agg35 Hm Z)<|.mv Z<|.yw (.add Z Z (c:=(((fsOf op).lv+1:Nat):Int)) (wu8 (by omega)))<|.yw (.call Fx.call92 Z (λW s=>foperand_any H G 1 ((fsOf op).lv+1) h1 (ih _ (Al_List_getElem_mem h1)) _ W h hok1 (by omega) s.agr))<|.yw (.app Z Z (by (try simp only [Al_List_length_append,Al_List_length_cons,Al_List_length_nil]);omega))<|.fn (tl:=[_]) Z<|.az Z<|.bR<|.tR<|?_
  refine y9 Z Z λW s=>⟨?_,s.ext⟩
  first
   | (rw [fx3 q3 rfl h0 h1];rfl)
   | (rw [fx4 q4];rfl)
   | (rw [fx5 q5 rfl];rfl)
   | (rw [fx6 q6];rfl)
   | (rw [fx7 q7];rfl)
   | (rw [fxu qU h0];rfl)
   | (rw [fxq qQ h0];rfl)
   | (rw [fx18 q18 rfl h0];rfl)
   | (rw [fxb qB h0 h1];rfl)
   | (rw [fxn q3 q4 q5 q6 q7 qU qQ q18 qB])
 have qB:¬ (op=15\/op=9\/op=10\/op=11):=by rw [h146] at eqB;exact Al_of_decide_eq_false eqB.symm
 refine .sk<|.bN<|.tN<|.sm Z<|.az Z<|?_
 refine y9 Z Z λW s=>⟨?_,s.ext⟩
 first
  | (rw [fx3 q3 rfl h0 h1];rfl)
  | (rw [fx4 q4];rfl)
  | (rw [fx5 q5 rfl];rfl)
  | (rw [fx6 q6];rfl)
  | (rw [fx7 q7];rfl)
  | (rw [fxu qU h0];rfl)
  | (rw [fxq qQ h0];rfl)
  | (rw [fx18 q18 rfl h0];rfl)
  | (rw [fxb qB h0 h1];rfl)
  | (rw [fxn q3 q4 q5 q6 q7 qU qQ q18 qB])
theorem rep_nlE {e:Ex} :∀ {cs:List Value},Rep H (dEx .u8 e) cs->nlE e=true:=by
 induction e using Ex.ind with | _ op nm n args ih
 intro cs h;obtain ⟨p,c,rfl,hs,hn⟩:=ex_open h;unfold nlE;rw [all_mk,alls_allE,Al_Bool_and_eq_true,Al_decide_eq_true_eq,Al_List_all_eq_true];refine ⟨hn,λa ha=>?_⟩;obtain ⟨i,hi,rfl⟩:=List.getElem_of_mem ha;obtain ⟨bE,oE,cE,hpE,rE,lE,mE⟩:=hs.elem (map_at (f:=dEx .u8) hi);exact ih _ (Al_List_getElem_mem hi) rE
theorem rep_nlF {f:Fm} :∀ {cs:List Value},Rep H (dFm .u8 f) cs->nlF f=true:=by
 induction f using Fm.ind with | _ op nm fd a b ex args ih
 intro cs h;obtain ⟨p1,c1,p2,c2,rfl,hs1,hs2,hnm,hfd⟩:=fm_open h;unfold nlF;rw [fm_allL,Al_Bool_and_eq_true,Al_Bool_and_eq_true,Al_Bool_and_eq_true,Al_decide_eq_true_eq,Al_decide_eq_true_eq,Al_List_all_eq_true,Al_List_all_eq_true];refine ⟨⟨⟨hnm,hfd⟩,λe he=>?_⟩,λg hg=>?_⟩
 ·obtain ⟨i,hi,rfl⟩:=List.getElem_of_mem he;obtain ⟨bE,oE,cE,hpE,rE,lE,mE⟩:=hs1.elem (map_at (f:=dEx .u8) hi);exact rep_nlE rE
 ·obtain ⟨i,hi,rfl⟩:=List.getElem_of_mem hg;obtain ⟨bE,oE,cE,hpE,rE,lE,mE⟩:=hs2.elem (map_at (f:=dFm .u8) hi);exact ih _ (Al_List_getElem_mem hi) rE
theorem fck_ok {f:Fm} (h:fcheck f=0):f.count<=60/\Fm.all formB f=true:=by
 unfold fcheck at h
 split at h
 ·cases h
 ·rename_i h1
  split at h
  ·cases h
  ·split at h
   ·cases h
   ·rename_i h3;exact ⟨Nat.le_of_not_lt λe=>h1 (.inl e),by simpa using h3⟩
theorem fText_any (H:Hp) (GL:Gl H) (G:Gf H) (gq:Gq H) (f:Fm) (hb:blF 600000 f=true) (cs:List Value) (w:World) (h:Rep H (dFm .u8 f) cs) (hA:Agr H w):Calls prg 19 #[.agg cs.toArray] w λr w'=>r=.returned (strV (textF f))/\Ext w w':=by
 obtain ⟨op,nm,fd,a,b,ex,args⟩:=f;obtain ⟨p1,c1,p2,c2,rfl,hs1,hs2,hnm,hfd⟩:=fm_open h;refine Sx.enter (H:=H) func19 rfl ntmps19 rfl hA ?_;refine .sr<|.bx Z Z Z λb1=>.aq Z<|.sq<|.sr<|.yw (.loadW Z Fx.agg35 Hm Z)<|.yw (.call Fx.call15 Z (λW s=>fcheck_any H GL G (.mk op nm fd a b ex args) hb _ W h s.agr))<|.yw (.neq Z Z)<|.nt<|.cd Z (λh5=>?_) (λh5=>?_)
 ·have hc:¬ fcheck (.mk op nm fd a b ex args)=0:=λe=>Al_of_decide_eq_true h5 (by rw [e];rfl);refine .sr<|.az Z<|.tR<|?_
  refine y9 Z Z λW s=>⟨?_,s.ext⟩
  first
   | (unfold textF;rw [Al_if_neg hc];rfl)
   | (unfold textF;rw [Al_if_pos hc])
 have hc:fcheck (.mk op nm fd a b ex args)=0:=by have:=Al_of_decide_eq_false h5;omega
 obtain ⟨hk,hF⟩:=fck_ok hc;refine .sk<|.tN<|.sr<|.yw (.loadW Z Fx.agg35 Hm Z)<|.yw (.call Fx.call48 Z (λW s=>ftext_any H G gq (.mk op nm fd a b ex args) _ W h hF (Al_Nat_le_trans (fmT_len _ (rep_nlF h)) (by omega)) s.agr))<|.az Z<|?_
 refine y9 Z Z λW s=>⟨?_,s.ext⟩
 first
  | (unfold textF;rw [Al_if_neg hc];rfl)
  | (unfold textF;rw [Al_if_pos hc])
theorem u8d (c k:UInt8):decide (((c.toNat:Nat):Int)=(k.toNat:Nat))=decide (c=k):=by
 rw [Al_Bool_eq_iff_iff,Al_decide_eq_true_eq,Al_decide_eq_true_eq];exact ⟨λh=>Al_UInt8_toNat_inj.1 (by omega),λh=>by rw [h]⟩
theorem blank_any (c:UInt8) (w:World):Calls prg 147 #[byteV c] w λr w'=>r=.returned (.bool (blkB c))/\Ext w w':=by
 refine y6 func147 Z ntmps147 Z ?_;refine .sr<|.a Z Z<|.ns<|.mv Z<|.yw (.cast (.eql Z Z) (congrArg Value.bool (u8d c 32)))<|.mv Z<|.b2 (λh5=>?_) (λh5=>?_)
 ·refine .gG<|.gG<|.yw (.pickT Z Z)<|.mv Z<|.gG<|.gG<|.yw (.pickT Z Z)<|.mv Z<|.gG<|.gG<|.yw (.pickT Z Z)<|.az Z<|?_
  refine y9 Z Z λW s=>⟨?_,s.ext⟩
  first
   | (unfold blkB;rw [h5];rfl)
   | (unfold blkB;rw [h5,h9];rfl)
   | (unfold blkB;rw [h5,h9,h13];rfl)
 refine .gy (.move Z)<|.gy (.cast (.eql Z Z) (congrArg Value.bool (u8d c 9)))<|.yw (.pickF Z Z)<|.mv Z<|.b2 (λh9=>?_) (λh9=>?_)
 ·refine .gG<|.gG<|.yw (.pickT Z Z)<|.mv Z<|.gG<|.gG<|.yw (.pickT Z Z)<|.az Z<|?_
  refine y9 Z Z λW s=>⟨?_,s.ext⟩
  first
   | (unfold blkB;rw [h5];rfl)
   | (unfold blkB;rw [h5,h9];rfl)
   | (unfold blkB;rw [h5,h9,h13];rfl)
 refine .gy (.move Z)<|.gy (.cast (.eql Z Z) (congrArg Value.bool (u8d c 10)))<|.yw (.pickF Z Z)<|.mv Z<|.b2 (λh13=>?_) (λh13=>?_)
 ·refine .gG<|.gG<|.yw (.pickT Z Z)<|.az Z<|?_
  refine y9 Z Z λW s=>⟨?_,s.ext⟩
  first
   | (unfold blkB;rw [h5];rfl)
   | (unfold blkB;rw [h5,h9];rfl)
   | (unfold blkB;rw [h5,h9,h13];rfl)
 refine .gy (.move Z)<|.gy (.cast (.eql Z Z) (congrArg Value.bool (u8d c 13)))<|.yw (.pickF Z Z)<|.az Z<|?_
 refine y9 Z Z λW s=>⟨?_,s.ext⟩
 first
  | (unfold blkB;rw [h5];rfl)
  | (unfold blkB;rw [h5,h9];rfl)
  | (unfold blkB;rw [h5,h9,h13];rfl)
def notNl (c:UInt8):Bool:=!decide (c=10)
theorem u8n (c k:UInt8):decide (¬ ((c.toNat:Nat):Int)=(k.toNat:Nat))=!decide (c=k):=by rw [<-u8d,decide_not]
theorem skip1_any (c:UInt8) (w:World):Calls prg 149 #[byteV c] w λr w'=>r=.returned (.bool (notNl c))/\Ext w w':=by
 refine y6 func149 Z ntmps149 Z ?_;refine .sr<|.a Z Z<|.ns<|.mv Z<|.yw (.cast (.neq Z Z) (congrArg Value.bool (u8n c 10)))<|.az Z<|?_
 exact y9 Z Z λW s=>⟨Z,s.ext⟩
theorem pre_cons (q:UInt8->Bool) (c:UInt8) (r:Str):pre q (c::r)=if q c then pre q r+1 else 0:=by
 unfold pre;rw [Al_List_takeWhile_cons]
 split <;> simp
theorem skip_b:∀ (m:Str),skipS false (m.drop (pre blkB m))=skipS false m
 | []=>rfl
 | c::r=>by
  rw [pre_cons]
  split
  ·rename_i h;rw [Al_List_drop_succ_cons,skip_b r,skipS_blk h]
  ·rfl
theorem skip_c:∀ (m:Str),skipS false (m.drop (pre notNl m))=skipS true m
 | []=>by rw [List.drop_nil,skipS_nil,skipS_nil]
 | c::r=>by
  rw [pre_cons]
  split
  ·rename_i h;unfold notNl at h;rw [Al_List_drop_succ_cons,skip_c r,skipS_com (by simpa using h)]
  ·rename_i h;have e:c=10:=by unfold notNl at h;simpa using h
   subst e;rw [Al_List_drop_zero,skipS_end]
theorem pre_hd (q:UInt8->Bool):∀ (m:Str) (c:UInt8) (r:Str),m.drop (pre q m)=c::r->q c=false
 | [],c,r,h=>by cases h
 | x::m,c,r,h=>by
  rw [pre_cons] at h
  split at h
  ·exact pre_hd q m c r (by simpa using h)
  ·rename_i hx;rw [Al_List_drop_zero] at h;injection h with h1 _
   subst h1;simpa using hx
variable {m:Str}
theorem skip_two (h:hasP m [47,47]=true):skipS false (m.drop (pre notNl m))=skipS false m/\1<=pre notNl m:=by
 rw [hasP_pre] at h;obtain ⟨r,rfl⟩:=Al_List_isPrefixOf_iff_prefix.1 h;refine ⟨?_,?_⟩
 ·rw [skip_c];exact (skipS_two r).symm
 ·show 1<=pre notNl (47::47::r);rw [pre_cons,Al_if_pos (by decide)];omega
theorem skip_stop (h:hasP (m.drop (pre blkB m)) [47,47]=false):skipS false m=m.drop (pre blkB m):=by
 rw [<-skip_b];cases e:m.drop (pre blkB m) with
 | nil=>rw [skipS_nil]
 | cons c r =>
  refine skipS_stop (pre_hd _ _ _ _ e) ?_;rintro ⟨rfl,h2⟩;rw [e] at h;cases r with
  | nil=>cases h2
  | cons d r =>
   obtain rfl:d=47:=Al_Option_some_inj h2;rw [hasP_pre] at h;rw [show ([47,47]:Str).isPrefixOf (47::47::r)=true by simp [List.isPrefixOf]] at h;cases h
theorem skipN_at {t:Str} {o:Nat} (ho:o<=t.length) (h:skipS false t=t.drop o):skipN t=o:=by
 unfold skipN;rw [h,Al_List_length_drop];omega
theorem lskip_any (t:Str) (hl:t.length<=9223372036854775807) (w:World):Calls prg 96 #[strV t] w λr w'=>r=.returned (iN (skipN t))/\Ext w w':=by
 refine y6 func96 Z ntmps96 Z ?_;refine .sr<|.a Z Z<|.ns<|.aq Z<|.bk<|.lp (X:=Nat) [(0,_)] ⟨Z,Jt⟩ [] (λo=>[(3,iN o)]) (λo=>(⟨λ_=>none,0⟩:Hp)) (λo=>[]) (λo=>o<=t.length/\skipS false (t.drop o)=skipS false t) (λo=>t.length - o) 0 (λ_ s=>s) ⟨Z,Jt⟩ ⟨Al_Nat_zero_le _,Z⟩ λo hC=>?_
 obtain ⟨ho,hs⟩:=hC;have hp1:=pre_le blkB (t.drop o);rw [Al_List_length_drop] at hp1;replace hp1:(o+(pre blkB (t.drop o)))<=t.length:=by omega
 refine .bk<|.sm Z<|.mv Z<|.mv Z<|.yw (.dropS Fx.str9 Z Z (lo:=o) Z ho)<|.yw (.call Fx.call146 Z (λW s=>prefix_any 147 blkB Fx.call147 blank_any _ (by rw [Al_List_length_drop];omega) W))<|.yw (.add Z Z (c:=(((o+(pre blkB (t.drop o))):Nat):Int)) ((w6 (by omega)).trans (by omega)))<|.aq Z<|.sq<|.sm Z<|.mv Z<|.yw (.dropS Fx.str9 Z Z (lo:=(o+(pre blkB (t.drop o)))) Z hp1)<|.yw (.call Fx.call148 Z (λW s=>hasPrefix_any _ [47,47] W))<|.yw (.not Z)<|.nt<|.cd Z (λh14=>?_) (λh14=>?_)
 ·have hh:hasP (t.drop (o+(pre blkB (t.drop o)))) [47,47]=false:=by simpa using h14
  refine .sm Z<|.az Z<|.tR<|.bR<|.tR<|.bR<|?_
  exact y9 Z Z λW s=>⟨by rw [skipN_at hp1 (by rw [<-hs,<-Al_List_drop_drop];exact skip_stop (by rw [Al_List_drop_drop];exact hh))],s.ext⟩
 have hh:hasP (t.drop (o+(pre blkB (t.drop o)))) [47,47]=true:=by simpa using h14
 obtain ⟨hs2,hg2⟩:=skip_two hh;have hp2:=pre_le notNl (t.drop (o+(pre blkB (t.drop o))));rw [Al_List_length_drop] at hp2;exact .sk<|.tN<|.rg<|.mv Z<|.mv Z<|.mv Z<|.yw (.dropS Fx.str9 Z Z (lo:=(o+(pre blkB (t.drop o)))) Z hp1)<|.yw (.call Fx.call146 Z (λW s=>prefix_any 149 notNl Fx.call149 skip1_any _ (by rw [Al_List_length_drop];omega) W))<|.yw (.add Z Z (c:=(((o+(pre blkB (t.drop o)))+(pre notNl (t.drop (o+(pre blkB (t.drop o))))):Nat):Int)) ((w6 (by omega)).trans (by omega)))<|.a Z Z<|.nl<|.bN<|.tN<|.ag ((o+(pre blkB (t.drop o)))+(pre notNl (t.drop (o+(pre blkB (t.drop o)))))) ⟨Z,Jt⟩ ⟨Z,Jt⟩ (λ_ s=>s) ⟨by omega,by rw [<-Al_List_drop_drop,hs2,<-Al_List_drop_drop,skip_b,hs]⟩ (by omega)
theorem lex_any (H:Hp) (t:Str) (w:World) (hA:Agr H w):Calls prg 54 #[strV t] w λr w'=>∃ (b:Nat) (H':Hp),MemAt H' b 0 [strV t]/\r=.returned (.func (.func 95) #[] #[.pointer (some ⟨b,0,none⟩)])/\Grow H w H' w':=by
 refine Sx.enter (H:=H) func54 rfl ntmps54 rfl hA ?_;refine .sr<|.bx Z Z Z λb1=>.a Z Z<|.ns<|.yw (.mkF Z Z)<|.az Z<|?_
 refine freezeBox λH1 u1 m1=>?_;exact y9 Z Z λW s=>⟨b1,H1,m1,Z,u1.grow s⟩
abbrev TkS:={x:Tk // x.t.length<=1000000}
theorem lex_seq (H:Hp) (G:Gl H) (t:Str) (hl:t.length<=1000000000000000000) (hs:∀ x∈lexR t,x.t.length<=1000000) (b:Nat) (hm:MemAt H b 0 [strV t]) (w:World) (hA:Agr H w) :
 SeqStopsK Fence.wide 8 prg 95 #[.pointer (some ⟨b,0,none⟩)] (λx:TkS=>#[.agg (cTk .u8 x.1).toArray]) (KpH H) (λxs=>xs.map (·.1)=lexR t) (λ_=>True) (t.length+1) w:=by
 refine Sx.seqStops (lb:=[.pointer (some ⟨b,0,none⟩)]) func95 rfl ntmps95 rfl (λW hW=>hA.ext hW) ?_;intro l Jg Jx W hJs hJxs hY hJ0;refine .sr<|.yw (.loadM Z Fx.agg9 hm (k:=0) Z Z)<|.yw (.call Fx.call96 Z (λW s=>lskip_any t (by omega) W))<|.aq Z<|.bk<|.lj (X:=Nat × List TkS) (λz=>[(0,.func (.yield l) #[] #[]),(1,.pointer (some ⟨b,0,none⟩)),(3,iN z.1)]) (λz=>Jg z.2) (λz=>z.1<=t.length/\z.2.length<=z.1/\z.2.map (·.1)++toks z.1 (t.drop z.1)=lexR t) (λz=>t.length - z.1) (skipN t,[]) ⟨skipN_le t,Al_Nat_zero_le _,(lexR_toks t).symm⟩ ⟨Z,Z,Z,Jt⟩ hJ0 λz w1 hC hJ1=>?_
 obtain ⟨o,pre1⟩:=z;obtain ⟨ho,hpl,htk⟩:=hC;dsimp only at ho hpl htk hJ1|-;refine .sq<|.sm Z<|.yw (.loadM Z Fx.agg9 hm (k:=0) Z Z)<|.yw (.lenS Fx.str9 Z)<|.yw (.lss Z Z)<|.nt<|.ce Z (λh11=>?_) (λh11=>?_)
 ·have hlt:o<t.length:=by omega
  have hm0:t.drop o≠[]:=by intro e;have:=congrArg List.length e;rw [Al_List_length_drop] at this;simp at this;omega
  have hrk:=readK_bnd hm0;rw [Al_List_length_drop] at hrk;have hx5:((t.drop o).take (readK (t.drop o)).2).length<=1000000:=hs ⟨(readK (t.drop o)).1,(t.drop o).take (readK (t.drop o)).2,o⟩ (by rw [<-htk,toks_cons hm0];simp);refine .sk<|.tN<|.sq<|.bk<|.sr<|.yw (.loadM Z Fx.agg9 hm (k:=0) Z Z)<|.mv Z<|.yw (.dropS Fx.str9 Z Z (lo:=o) Z (by omega))<|.yw (.call Fx.call97 Z (λW s=>read_any H G (t.drop o) (by rw [Al_List_length_drop];omega) hm0 W s.agr))<|.mv Z<|.yw (.extract Z Z)<|.yw (.extract Z Z)<|.a Z Z<|.aq Z<|.sq<|.sq<|.rgW 8<|.mI Z Z<|.mI Z Z<|.yvI (.loadM Z Fx.agg9 hm (k:=0) Z Z) Z<|.mI Z Z<|.mI Z Z<|.mI Z Z<|.yvI (.add Z Z (c:=((o+(readK (t.drop o)).2:Nat):Int)) ((w6 (by omega)).trans (by omega))) Z<|.yvI (.cast (.midS Fx.str9 Z Z Z (lo:=o) (hi:=o+(readK (t.drop o)).2) Z Z (by omega) (by omega)) (by rw [Al_List_drop_take,Al_Nat_add_sub_cancel_left])) Z<|.mI Z Z<|.yvI (.build Z (Fx.bld108_0_1_2 _ _ _)) Z<|.yd Z Z Z (λW s=>hY pre1 ⟨⟨(readK (t.drop o)).1,(t.drop o).take (readK (t.drop o)).2,o⟩,hx5⟩ W (hJs _ _ _ hJ1 s.ext) (by omega)) (λw2 hj2=>?_) (λw2 hj2=>?_)
  ·have hsd:=skipN_le ((t.drop o).drop (readK (t.drop o)).2);rw [Al_List_length_drop,Al_List_length_drop] at hsd;exact .yvI (.not Z) Z<|.nlI<|.tN<|.cF Z<|.sk<|.tN<|.rg<|.mv Z<|.mv Z<|.yw (.add Z Z (c:=((o+(readK (t.drop o)).2:Nat):Int)) ((w6 (by omega)).trans (by omega)))<|.a Z Z<|.nl<|.bN<|.tN<|.rg<|.mv Z<|.yw (.loadM Z Fx.agg9 hm (k:=0) Z Z)<|.mv Z<|.yw (.cast (.dropS Fx.str9 Z Z (lo:=o+(readK (t.drop o)).2) Z (by omega)) (by rw [<-Al_List_drop_drop];rfl))<|.yw (.call Fx.call96 Z (λW s=>lskip_any ((t.drop o).drop (readK (t.drop o)).2) (by rw [Al_List_length_drop,Al_List_length_drop];omega) W))<|.yw (.add Z Z (c:=((o+(readK (t.drop o)).2+skipN ((t.drop o).drop (readK (t.drop o)).2):Nat):Int)) ((w6 (by omega)).trans (by omega)))<|.aq Z<|.aj (x:=(o,pre1)) (o+(readK (t.drop o)).2+skipN ((t.drop o).drop (readK (t.drop o)).2),pre1++[⟨⟨(readK (t.drop o)).1,(t.drop o).take (readK (t.drop o)).2,o⟩,hx5⟩]) ⟨by dsimp only;omega,by dsimp only;rw [Al_List_length_append];simp;omega,by dsimp only;rw [<-htk,Al_List_map_append,Al_List_append_assoc];congr 1;rw [toks_cons hm0,show (t.drop o).drop ((readK (t.drop o)).2+skipN ((t.drop o).drop (readK (t.drop o)).2))=t.drop (o+(readK (t.drop o)).2+skipN ((t.drop o).drop (readK (t.drop o)).2)) by rw [Al_Nat_add_assoc];exact Al_List_drop_drop];rfl⟩ (by dsimp only;omega) hj2 ⟨Z,Z,Z,Jt⟩
  refine .yvI (.not Z) Z<|.nlI<|.tN<|.cT Z<|.rt<|.tR<|.bR<|.tR<|.tR<|.bR<|?_
  refine y7 Z .nil rfl λW s=>⟨⟨_,Z⟩,.inr ⟨_,Jt,hJxs _ _ _ hj2 s.ext⟩⟩
 have hoe:o=t.length:=by omega
 refine .ex<|.tE<|.tE<|.bE<|?_
 refine retN (.inr Z) rfl .nil rfl λW s=>⟨⟨_,Z⟩,.inl ⟨pre1,?_,hJs _ _ _ hJ1 s.ext⟩⟩;rw [<-htk,hoe,List.drop_length,toks_nil,Al_List_append_nil]
theorem fld_sh0 (a b c d e f g:Value):∀ W,(Instr.field 157 (.agg [a,b,c,d,e,f,g].toArray) 0).run prg W=.ok a W:=λ_=>by kernel_rfl
variable {b tc:Nat} {tp:Option Addr} {ro rv:Value} {xo xv:List Value} {AR:List Res} {q:Rq}
set_option maxHeartbeats 1000000 in
theorem join_f {l:Tks} {op:List Ov} {x:Vb} {dn:Bool} (K:Tkf H l tp tc) (Wq:Fwf l ⟨q,op,x,true,dn⟩) (S:Sq H ⟨q,op,x,true,dn⟩ xo xv AR) (G:Gf H) (h0:q.er=0) (hw:q.wrd l=true) (s:St H w0 (.box b [.slice tp l.length tc,iN q.i,ro,rv,.bool true,.bool dn,.bool x.2,iN q.off,iN q.er] 102::.row 97 11 (ro) (op.length) (xo)::.row 179 13 (rv) (x.1.length) (xv)::(AR++bs)) W) :
 Calls prg 101 #[.pointer (some ⟨b,0,none⟩)] W (Get w0 bs b l tp tc H (joiP l ⟨q,op,x,true,dn⟩)):=by
 have hq:q.i<l.length:=Wq.i;have hcap:=K.rep.cap;obtain ⟨hn1,hn2⟩:=wf_len Wq K.few;dsimp only at hn1 hn2;have hne:op≠[]:=Wq.ne;refine enterS func101 rfl ntmps101 rfl s ?_;obtain ⟨o,r,rfl⟩:=list1 (l:=op) (by cases op with | nil=>exact (hne rfl).elim | cons a t=>exact Nat.succ_pos _);dsimp only [List.length_cons] at hn1;obtain ⟨xr,s1,s2,e2,hlo,ho1,ho2⟩:=Ops.top S.ops;try dsimp only at e2
 subst e2;refine Sx.rowCase (size:=11) (r:=ro) (e:=97) mem1 (Nat.succ_pos _) λg c e hkc=>?_;subst e;refine .sq<|.sm Z<|.cs (X:=Unit) Fx.call105 Z (λW s=>top_f K hq (g:=g) (k:=r.length) (c:=c) (by omega) (s.pickT (hd:=[_,_,_]) (tl:=(AR++bs)) (hd':=[_,_,_]) [0,1,2] Z Z)) Z λ_ _=>.nC Z<|.fA Z Fx.field97_2<|.yw (.loadR1 Z Fx.agg4 mem1 (app_at hlo Z))<|.nt<|.cd Z (λh8=>?_) (λh8=>?_)
 ·refine .sm Z<|.cs (X:=Unit) Fx.call104 Z (λW s=>fail_f K hq 8 (s.pickT (hd:=[_,_,_]) (tl:=(AR++bs)) (hd':=[_,_,_]) [0,1,2] Z Z)) Z λ_ _=>.nt<|.rt<|.tR<|?_
  refine y7 Z .nil rfl λW s=>?_;have e0:joiP l (⟨q,o::r,x,true,dn⟩:Ps)=(⟨q,o::r,x,true,dn⟩:Ps).at (q.fail l 8):=by unfold joiP;rw [Al_if_pos (show (topO (⟨q,o::r,x,true,dn⟩:Ps)).tm=true from h8)]
  rw [e0];exact ⟨(_,_,_,_,_,AR),⟨.refl,⟨S.ops,S.vls⟩⟩,Z,s.pickT (hd:=[_,_,_]) (tl:=(AR++bs)) (hd':=[_,_,_]) [0,1,2] rfl rfl⟩
 refine .sk<|.tN<|.sr<|.al Fx.zero35 Z λb2=>.nt<|.sq<|.bk<|.sm Z<|.cs (X:=Unit) Fx.call107 Z (λW s=>accept_f K hq [115,105,110,99,101] (s.pickT (hd:=[_,_,_,_]) (tl:=(AR++bs)) (hd':=[_,_,_,_]) [1,0,2,3] Z Z)) Z λ_ _=>.aq Z<|.cd Z (λh11=>?_) (λh11=>?_)
 ·have a11:Rq.ac l [115,105,110,99,101] q=true:=h11;rw [acF_T a11];refine .rg<|.mv Z<|.cs (X:=Unit) Fx.call154 Z (λW s=>window_f K (wi_ac K.gd.last hq a11) 15 (s.pickT (hd:=[_,_,_,_]) (tl:=(AR++bs)) (hd':=[_,_,_,_]) [0,1,2,3] Z Z)) Z λ_ _=>.sX upd1 Z Z Fx.size35 Z<|.nl<|.bN<|.tN<|.sr<|.fA Z Fx.field35_0<|.lD Z Fx.agg31 mem1 Z<|.yw (.call (v:=.agg (fsC (fsOf 15)).toArray) Fx.call74 Z λW s=>fshape_any H G 15 W s.agr)<|.yw (.fld Z (fld_sh0 _ _ _ _ _ _ _))<|.yw (.conv Z Fx.int5 Fx.int3 (c:=((4:Nat):Int)) (by decide +kernel))<|?_
  have Wj:Fwf l ⟨(Rq.wiS l q.nx),o::r,x,true,dn⟩:=wf_at (q:=⟨q,o::r,x,true,dn⟩) (c:=(Rq.wiS l q.nx)) Wq (wi_wi K.gd.last (wi_ac K.gd.last hq a11)) (Al_Nat_le_trans (Nat.le_succ _) (Mq.wiS (q:=q.nx)).i);refine .a Z Z<|.ns<|.mv Z<|.mv Z<|.cs (X:=Hp × Value × Value × List Value × List Value × List Res) Fx.call102 Z (λW s=>reduce_f K Wj S.at 4 (by omega) (St.mid (a:=[_,_,_]) (d:=[_]) (s.pickT (hd:=[_,_,_,_]) (tl:=(AR++bs)) (hd':=[_,_,_,_]) [0,2,3,1] Z Z))) Z λz9 hz9=>?_
  obtain ⟨H1,ro,rv,xo,xv,AR⟩:=z9;obtain ⟨u1,S⟩:=hz9;dsimp only at u1 S|-;refine Sx.reSt (λW s=>St.mid (a:=[_,_,_]) (d:=AR) (c:=[_]) s) ?_;obtain ⟨op7,x7,e7⟩:∃ op7 x7,redP 4 (⟨(Rq.wiS l q.nx),o::r,x,true,dn⟩:Ps)=⟨(Rq.wiS l q.nx),op7,x7,true,dn⟩:=⟨_,_,Z⟩;rw [e7] at S|-;dsimp only at S|-;have W7:Fwf l ⟨(Rq.wiS l q.nx),op7,x7,true,dn⟩:=by rw [<-e7];exact wf_red (by omega) Wj rfl
  obtain ⟨hm1,hm2⟩:=wf_len W7 K.few;dsimp only at hm1 hm2;have hne7:op7≠[]:=W7.ne;refine .nt<|.rg<|.mv Z<|.mv Z<|.yw (.loadW Z Fx.agg35 mem3 Z)<|.yw (.build Z (Fx.bld97_0_1_4 _ _ _ _ _ _ _ _ _))<|.cs (X:=Option Addr × Nat) Fx.call109 Z (λW s=>push_f (K.up u1.up) (wi_wi K.gd.last (wi_ac K.gd.last hq a11)) (by simp [Value.oneCell',strV]) (Al_Nat_le_trans hm1 (by decide)) (λ_=>S.ops.tm hne7) (s.pickT (hd:=[_,_,_,_]) (tl:=(AR++bs)) (hd':=[_,_,_,_]) [0,1,2,3] Z Z)) Z λp9 _=>.nl<|?_
  refine retN (.inr Z) rfl .nil rfl λW s=>?_
  have e0:joiP l (⟨q,o::r,x,true,dn⟩:Ps)=pushS ⟨6,4,false,0,q.jnF l 4⟩ (⟨(Rq.wiS l q.nx),op7,x7,true,dn⟩:Ps):=by
   obtain ⟨j1,j2,j3,_,_⟩:=jn_lv (l:=l) (r:=q) (k:=4) (by decide) a11;unfold joiP;rw [Al_if_neg (show ¬ (topO (⟨q,o::r,x,true,dn⟩:Ps)).tm=true by rw [show (topO (⟨q,o::r,x,true,dn⟩:Ps)).tm=false from h8];decide),j1,j2,j3,<-e7]
   rfl
  rw [e0];exact ⟨(_,_,_,_,_,AR),⟨u1,⟨.cons S.ops (by show ¬ (6:UInt8)=5;decide) (FmR.zero rfl rfl (Al_Nat_zero_le _) (Al_Nat_zero_le _)),S.vls⟩⟩,Z,s.pickT (hd:=[_,_,_,_]) (tl:=(AR++bs)) (hd':=[_,_,_]) [0,1,2] rfl rfl⟩
 have a11:Rq.ac l [115,105,110,99,101] q=false:=h11;rw [acF_F a11];refine .sm Z<|.cs (X:=Unit) Fx.call107 Z (λW s=>accept_f K hq [97,110,100] (s.pickT (hd:=[_,_,_,_]) (tl:=(AR++bs)) (hd':=[_,_,_,_]) [0,1,2,3] Z Z)) Z λ_ _=>.aq Z<|.cd Z (λh16=>?_) (λh16=>?_)
 ·have a16:Rq.ac l [97,110,100] q=true:=h16;rw [acF_T a16];refine .rg<|.yw (.build Z (Fx.bld35_0 _))<|.sX upd1 Z Z Fx.size35 Z<|.nl<|.bN<|.tN<|.sr<|.fA Z Fx.field35_0<|.lD Z Fx.agg31 mem1 Z<|.yw (.call (v:=.agg (fsC (fsOf 9)).toArray) Fx.call74 Z λW s=>fshape_any H G 9 W s.agr)<|.yw (.fld Z (fld_sh0 _ _ _ _ _ _ _))<|.yw (.conv Z Fx.int5 Fx.int3 (c:=((3:Nat):Int)) (by decide +kernel))<|?_
  have Wj:Fwf l ⟨q.nx,o::r,x,true,dn⟩:=wf_at (q:=⟨q,o::r,x,true,dn⟩) (c:=q.nx) Wq (wi_ac K.gd.last hq a16) (Nat.le_succ _);refine .a Z Z<|.ns<|.mv Z<|.mv Z<|.cs (X:=Hp × Value × Value × List Value × List Value × List Res) Fx.call102 Z (λW s=>reduce_f K Wj S.at 3 (by omega) (St.mid (a:=[_,_,_]) (d:=[_]) (s.pickT (hd:=[_,_,_,_]) (tl:=(AR++bs)) (hd':=[_,_,_,_]) [0,2,3,1] Z Z))) Z λz9 hz9=>?_
  obtain ⟨H1,ro,rv,xo,xv,AR⟩:=z9;obtain ⟨u1,S⟩:=hz9;dsimp only at u1 S|-;refine Sx.reSt (λW s=>St.mid (a:=[_,_,_]) (d:=AR) (c:=[_]) s) ?_;obtain ⟨op7,x7,e7⟩:∃ op7 x7,redP 3 (⟨q.nx,o::r,x,true,dn⟩:Ps)=⟨q.nx,op7,x7,true,dn⟩:=⟨_,_,Z⟩;rw [e7] at S|-;dsimp only at S|-;have W7:Fwf l ⟨q.nx,op7,x7,true,dn⟩:=by rw [<-e7];exact wf_red (by omega) Wj rfl
  obtain ⟨hm1,hm2⟩:=wf_len W7 K.few;dsimp only at hm1 hm2;have hne7:op7≠[]:=W7.ne;refine .nt<|.rg<|.mv Z<|.mv Z<|.yw (.loadW Z Fx.agg35 mem3 Z)<|.yw (.build Z (Fx.bld97_0_1_4 _ _ _ _ _ _ _ _ _))<|.cs (X:=Option Addr × Nat) Fx.call109 Z (λW s=>push_f (K.up u1.up) (wi_ac K.gd.last hq a16) (by simp [Value.oneCell',strV]) (Al_Nat_le_trans hm1 (by decide)) (λ_=>S.ops.tm hne7) (s.pickT (hd:=[_,_,_,_]) (tl:=(AR++bs)) (hd':=[_,_,_,_]) [0,1,2,3] Z Z)) Z λp9 _=>.nl<|?_
  refine retN (.inr Z) rfl .nil rfl λW s=>?_
  have e0:joiP l (⟨q,o::r,x,true,dn⟩:Ps)=pushS ⟨6,3,false,0,q.jnF l 3⟩ (⟨q.nx,op7,x7,true,dn⟩:Ps):=by
   obtain ⟨j1,j2,j3,_,_⟩:=jn_lv (l:=l) (r:=q) (k:=3) (by decide) a16;unfold joiP;rw [Al_if_neg (show ¬ (topO (⟨q,o::r,x,true,dn⟩:Ps)).tm=true by rw [show (topO (⟨q,o::r,x,true,dn⟩:Ps)).tm=false from h8];decide),j1,j2,j3,<-e7]
   rfl
  rw [e0];exact ⟨(_,_,_,_,_,AR),⟨u1,⟨.cons S.ops (by show ¬ (6:UInt8)=5;decide) (FmR.zero rfl rfl (Al_Nat_zero_le _) (Al_Nat_zero_le _)),S.vls⟩⟩,Z,s.pickT (hd:=[_,_,_,_]) (tl:=(AR++bs)) (hd':=[_,_,_]) [0,1,2] rfl rfl⟩
 have a16:Rq.ac l [97,110,100] q=false:=h16;rw [acF_F a16];refine .sm Z<|.cs (X:=Unit) Fx.call107 Z (λW s=>accept_f K hq [111,114] (s.pickT (hd:=[_,_,_,_]) (tl:=(AR++bs)) (hd':=[_,_,_,_]) [0,1,2,3] Z Z)) Z λ_ _=>.aq Z<|.cd Z (λh20=>?_) (λh20=>?_)
 ·have a20:Rq.ac l [111,114] q=true:=h20;rw [acF_T a20];refine .rg<|.yw (.build Z (Fx.bld35_0 _))<|.sX upd1 Z Z Fx.size35 Z<|.nl<|.bN<|.tN<|.sr<|.fA Z Fx.field35_0<|.lD Z Fx.agg31 mem1 Z<|.yw (.call (v:=.agg (fsC (fsOf 10)).toArray) Fx.call74 Z λW s=>fshape_any H G 10 W s.agr)<|.yw (.fld Z (fld_sh0 _ _ _ _ _ _ _))<|.yw (.conv Z Fx.int5 Fx.int3 (c:=((2:Nat):Int)) (by decide +kernel))<|?_
  have Wj:Fwf l ⟨q.nx,o::r,x,true,dn⟩:=wf_at (q:=⟨q,o::r,x,true,dn⟩) (c:=q.nx) Wq (wi_ac K.gd.last hq a20) (Nat.le_succ _);refine .a Z Z<|.ns<|.mv Z<|.mv Z<|.cs (X:=Hp × Value × Value × List Value × List Value × List Res) Fx.call102 Z (λW s=>reduce_f K Wj S.at 2 (by omega) (St.mid (a:=[_,_,_]) (d:=[_]) (s.pickT (hd:=[_,_,_,_]) (tl:=(AR++bs)) (hd':=[_,_,_,_]) [0,2,3,1] Z Z))) Z λz9 hz9=>?_
  obtain ⟨H1,ro,rv,xo,xv,AR⟩:=z9;obtain ⟨u1,S⟩:=hz9;dsimp only at u1 S|-;refine Sx.reSt (λW s=>St.mid (a:=[_,_,_]) (d:=AR) (c:=[_]) s) ?_;obtain ⟨op7,x7,e7⟩:∃ op7 x7,redP 2 (⟨q.nx,o::r,x,true,dn⟩:Ps)=⟨q.nx,op7,x7,true,dn⟩:=⟨_,_,Z⟩;rw [e7] at S|-;dsimp only at S|-;have W7:Fwf l ⟨q.nx,op7,x7,true,dn⟩:=by rw [<-e7];exact wf_red (by omega) Wj rfl
  obtain ⟨hm1,hm2⟩:=wf_len W7 K.few;dsimp only at hm1 hm2;have hne7:op7≠[]:=W7.ne;refine .nt<|.rg<|.mv Z<|.mv Z<|.yw (.loadW Z Fx.agg35 mem3 Z)<|.yw (.build Z (Fx.bld97_0_1_4 _ _ _ _ _ _ _ _ _))<|.cs (X:=Option Addr × Nat) Fx.call109 Z (λW s=>push_f (K.up u1.up) (wi_ac K.gd.last hq a20) (by simp [Value.oneCell',strV]) (Al_Nat_le_trans hm1 (by decide)) (λ_=>S.ops.tm hne7) (s.pickT (hd:=[_,_,_,_]) (tl:=(AR++bs)) (hd':=[_,_,_,_]) [0,1,2,3] Z Z)) Z λp9 _=>.nl<|?_
  refine retN (.inr Z) rfl .nil rfl λW s=>?_
  have e0:joiP l (⟨q,o::r,x,true,dn⟩:Ps)=pushS ⟨6,2,false,0,q.jnF l 2⟩ (⟨q.nx,op7,x7,true,dn⟩:Ps):=by
   obtain ⟨j1,j2,j3,_,_⟩:=jn_lv (l:=l) (r:=q) (k:=2) (by decide) a20;unfold joiP;rw [Al_if_neg (show ¬ (topO (⟨q,o::r,x,true,dn⟩:Ps)).tm=true by rw [show (topO (⟨q,o::r,x,true,dn⟩:Ps)).tm=false from h8];decide),j1,j2,j3,<-e7]
   rfl
  rw [e0];exact ⟨(_,_,_,_,_,AR),⟨u1,⟨.cons S.ops (by show ¬ (6:UInt8)=5;decide) (FmR.zero rfl rfl (Al_Nat_zero_le _) (Al_Nat_zero_le _)),S.vls⟩⟩,Z,s.pickT (hd:=[_,_,_,_]) (tl:=(AR++bs)) (hd':=[_,_,_]) [0,1,2] rfl rfl⟩
 have a20:Rq.ac l [111,114] q=false:=h20;rw [acF_F a20];refine .sm Z<|.cs (X:=Unit) Fx.call107 Z (λW s=>accept_f K hq [105,109,112,108,105,101,115] (s.pickT (hd:=[_,_,_,_]) (tl:=(AR++bs)) (hd':=[_,_,_,_]) [0,1,2,3] Z Z)) Z λ_ _=>.aq Z<|.cd Z (λh24=>?_) (λh24=>?_)
 ·have a24:Rq.ac l [105,109,112,108,105,101,115] q=true:=h24;rw [acF_T a24];refine .rg<|.yw (.build Z (Fx.bld35_0 _))<|.sX upd1 Z Z Fx.size35 Z<|.nl<|.bN<|.tN<|.sr<|.fA Z Fx.field35_0<|.lD Z Fx.agg31 mem1 Z<|.yw (.call (v:=.agg (fsC (fsOf 11)).toArray) Fx.call74 Z λW s=>fshape_any H G 11 W s.agr)<|.yw (.fld Z (fld_sh0 _ _ _ _ _ _ _))<|.yw (.conv Z Fx.int5 Fx.int3 (c:=((1:Nat):Int)) (by decide +kernel))<|?_
  have Wj:Fwf l ⟨q.nx,o::r,x,true,dn⟩:=wf_at (q:=⟨q,o::r,x,true,dn⟩) (c:=q.nx) Wq (wi_ac K.gd.last hq a24) (Nat.le_succ _);refine .a Z Z<|.ns<|.mv Z<|.mv Z<|.cs (X:=Hp × Value × Value × List Value × List Value × List Res) Fx.call102 Z (λW s=>reduce_f K Wj S.at 1 (by omega) (St.mid (a:=[_,_,_]) (d:=[_]) (s.pickT (hd:=[_,_,_,_]) (tl:=(AR++bs)) (hd':=[_,_,_,_]) [0,2,3,1] Z Z))) Z λz9 hz9=>?_
  obtain ⟨H1,ro,rv,xo,xv,AR⟩:=z9;obtain ⟨u1,S⟩:=hz9;dsimp only at u1 S|-;refine Sx.reSt (λW s=>St.mid (a:=[_,_,_]) (d:=AR) (c:=[_]) s) ?_;obtain ⟨op7,x7,e7⟩:∃ op7 x7,redP 1 (⟨q.nx,o::r,x,true,dn⟩:Ps)=⟨q.nx,op7,x7,true,dn⟩:=⟨_,_,Z⟩;rw [e7] at S|-;dsimp only at S|-;have W7:Fwf l ⟨q.nx,op7,x7,true,dn⟩:=by rw [<-e7];exact wf_red (by omega) Wj rfl
  obtain ⟨hm1,hm2⟩:=wf_len W7 K.few;dsimp only at hm1 hm2;have hne7:op7≠[]:=W7.ne;refine .nt<|.rg<|.mv Z<|.mv Z<|.yw (.loadW Z Fx.agg35 mem3 Z)<|.yw (.build Z (Fx.bld97_0_1_4 _ _ _ _ _ _ _ _ _))<|.cs (X:=Option Addr × Nat) Fx.call109 Z (λW s=>push_f (K.up u1.up) (wi_ac K.gd.last hq a24) (by simp [Value.oneCell',strV]) (Al_Nat_le_trans hm1 (by decide)) (λ_=>S.ops.tm hne7) (s.pickT (hd:=[_,_,_,_]) (tl:=(AR++bs)) (hd':=[_,_,_,_]) [0,1,2,3] Z Z)) Z λp9 _=>.nl<|?_
  refine retN (.inr Z) rfl .nil rfl λW s=>?_
  have e0:joiP l (⟨q,o::r,x,true,dn⟩:Ps)=pushS ⟨6,1,false,0,q.jnF l 1⟩ (⟨q.nx,op7,x7,true,dn⟩:Ps):=by
   obtain ⟨j1,j2,j3,_,_⟩:=jn_lv (l:=l) (r:=q) (k:=1) (by decide) a24;unfold joiP;rw [Al_if_neg (show ¬ (topO (⟨q,o::r,x,true,dn⟩:Ps)).tm=true by rw [show (topO (⟨q,o::r,x,true,dn⟩:Ps)).tm=false from h8];decide),j1,j2,j3,<-e7]
   rfl
  rw [e0];exact ⟨(_,_,_,_,_,AR),⟨u1,⟨.cons S.ops (by show ¬ (6:UInt8)=5;decide) (FmR.zero rfl rfl (Al_Nat_zero_le _) (Al_Nat_zero_le _)),S.vls⟩⟩,Z,s.pickT (hd:=[_,_,_,_]) (tl:=(AR++bs)) (hd':=[_,_,_]) [0,1,2] rfl rfl⟩
 have a24:Rq.ac l [105,109,112,108,105,101,115] q=false:=h24;exact absurd hw (by unfold Rq.wrd;rw [is_ac0 h0,is_ac0 h0,is_ac0 h0,is_ac0 h0,a11,a16,a20,a24];decide)
variable {xr:List Value} {j:Nat}
theorem app_at4 {cs:List Value} {u:Value} (hl:xr.length=n) (h:cs[4+j]? = some u):(xr++cs)[n+4+j]? = some u:=by rw [Al_Nat_add_assoc];exact app_at hl h
variable {s1 s2:Value}
theorem Ops.inv5 {o:Ov} {r:List Ov} (h:Ops H (o::r) (xr++oC o s1 s2) AR) (hk:o.kd=5):∃ AR1 xe,AR=.row 76 4 s1 o.f.ex.length xe::AR1/\Ops H r xr AR1/\s2=.slice none 0 0/\RepZ H 4 (o.f.ex.map (dEx .u8)) xe/\o.f.args=[]/\o.f.nm.length<=1000000/\o.f.fd.length<=1000000:=by
 generalize hx:xr++oC o s1 s2=xo at h;cases h with
 | cons h k f=>exact absurd hk k
 | arg h k a b c z s =>
  obtain ⟨e1,e2⟩:=List.append_inj' hx rfl;subst e1;simp only [Al_List_cons_injEq,Al_and_true,true_and] at e2;obtain ⟨rfl,rfl⟩:=e2;exact ⟨_,_,Z,h,Z,z,a,b,c⟩
theorem zx_rep (H:Hp):Rep H (dEx .u8 zE) [.int .u8 0,.string ⟨#[]⟩,.int .i64 0,.slice none 0 0]:=ex_shut (op:=0) (nm:=[]) (n:=0) (args:=[]) (by decide) (Rep.empty (p:=none) (c:=0) (by decide))
variable {z:Nat} {xs news:List Value}
theorem row_put {ds:List D} {d0 d:D} {vs:List Value} (hz:RepZ H z ds xs) (hn:RepZ H z [d0] news) (hd:Rep H d vs) (hl:vs.length=z) (hk:ds.length=k):RepZ H z (ds++[d]) (setsL (xs++news) (k * z) vs):=by
 subst hk;have h:=RepZ.put hd hl (hz.app hn) (i:=ds.length) (by simp)
 rwa [Al_List_set_append_right _ _ (Al_Nat_le_refl _),Al_Nat_sub_self,Al_List_set_cons_zero] at h
set_option maxHeartbeats 4000000 in
theorem closing_f {l:Tks} {op:List Ov} {x:Vb} {dn:Bool} (K:Tkf H l tp tc) (Wq:Fwf l ⟨q,op,x,true,dn⟩) (S:Sq H ⟨q,op,x,true,dn⟩ xo xv AR) (hfew:∀ o∈op,o.f.ex.length<=600000) (s:St H w0 (.box b [.slice tp l.length tc,iN q.i,ro,rv,.bool true,.bool dn,.bool x.2,iN q.off,iN q.er] 102::.row 97 11 (ro) (op.length) (xo)::.row 179 13 (rv) (x.1.length) (xv)::(AR++bs)) W) :
 Calls prg 103 #[.pointer (some ⟨b,0,none⟩)] W (Get w0 bs b l tp tc H (clgP l ⟨q,op,x,true,dn⟩)):=by
 have hq:q.i<l.length:=Wq.i;have hcap:=K.rep.cap;obtain ⟨hn1,hn2⟩:=wf_len Wq K.few;dsimp only at hn1 hn2;have hne:op≠[]:=Wq.ne;obtain ⟨o,r,rfl⟩:=list1 (l:=op) (by cases op with | nil=>exact (hne rfl).elim | cons a t=>exact Nat.succ_pos _);dsimp only [List.length_cons] at hn1;have hfx:=hfew o (Al_List_mem_cons_self ..);have hv1:1<=x.1.length:=by have:=Wq.vs;dsimp only at this;rw [this];exact Nat.le_add_left _ _
 obtain ⟨vs,bd⟩:=x;dsimp only at hv1 hn2;obtain ⟨v,V,rfl⟩:=list1 hv1;dsimp only [List.length_cons] at hn2;obtain ⟨yr,t0,t1,t2,e4,VS1,V1⟩:=VR.inv S.vls;try dsimp only at e4
 subst e4;have l1:=VS1.len;refine enterS func103 rfl ntmps103 rfl s ?_;obtain ⟨xr,s1,s2,e2,hlo,ho1,ho2⟩:=Ops.top S.ops;try dsimp only at e2
 subst e2;refine Sx.rowCase (size:=11) (r:=ro) (e:=97) mem1 (Nat.succ_pos _) λg c e hkc=>?_;subst e;refine .sm Z<|.cs (X:=Unit) Fx.call105 Z (λW s=>top_f K hq (g:=g) (k:=r.length) (c:=c) (by omega) (s.pickT (hd:=[_,_,_]) (tl:=(AR++bs)) (hd':=[_,_,_]) [0,1,2] Z Z)) Z λ_ _=>.aq Z<|.bk<|.cu (X:=Bool) [(0,_),(2,_)] ⟨Z,Z,Jt⟩ (λz=>[(9,.bool z)]) (λz=>H) (λz=>(.box b [.slice tp l.length tc,iN q.i,(.slice (some ⟨g,0,none⟩) (o::r).length c),rv,.bool true,.bool dn,.bool bd,iN q.off,iN q.er] 102::.row 97 11 ((.slice (some ⟨g,0,none⟩) (o::r).length c)) ((o::r).length) ((xr++oC o s1 s2))::.row 179 13 (rv) (V.length+1) ((yr++vC v t0 t1 t2))::(AR++bs))) (λz=>z=(decide (o.kd=1) && decide ((tkf l q.i).k=0))) ?_ λz hC=>?_
 ·
  refine .rg<|.mv Z<|.nC Z<|.fA Z Fx.field97_0<|.yw (.loadR1 Z Fx.agg95 mem1 (app_at hlo Z))<|.yw (.eql Z Z)<|.mv Z<|.b2 (λh15=>?_) (λh15=>?_)
  ·have hg:o.kd=1:=Al_UInt8_toNat_inj.1 (by have:=Al_of_decide_eq_true h15;show o.kd.toNat=1;omega);exact .gy (.move Z)<|.gd Z Z<|.cs (X:=Unit) Fx.call98 Z (λW s=>token_f K hq  (s.pickT (hd:=[_,_,_]) (tl:=(AR++bs)) (hd':=[_,_,_]) [0,1,2] Z Z)) Z λ_ _=>.gy (.fld Z (fld_f0 _ _ _))<|.gy (.eql Z Z)<|.yw (.pickT Z Z)<|.aq Z<|.me _ ⟨Z,Jt⟩ ⟨Z,Z,Jt⟩ (λ_ s=>s) (by first | (rw [Al_decide_eq_true hg,Al_Bool_true_and];exact k80) | (rw [Al_decide_eq_false hg];rfl))
  have hg:¬ o.kd=1:=λe=>Al_of_decide_eq_false h15 (by rw [e];rfl);exact .gG<|.gG<|.gG<|.gG<|.yw (.pickF Z Z)<|.aq Z<|.me _ ⟨Z,Jt⟩ ⟨Z,Z,Jt⟩ (λ_ s=>s) (by first | (rw [Al_decide_eq_true hg,Al_Bool_true_and];exact k80) | (rw [Al_decide_eq_false hg];rfl))
 have e9:=hC;refine .cd Z (λh9=>?_) (λh9=>?_)
 ·rw [h9] at e9;have y9:=Al_Bool_and_eq_true _ _ |>.mp e9.symm
  refine .rg<|.mv Z<|.nC Z<|.fA Z Fx.field102_5<|.st .head Z Z Fx.size4 Z (nb Z) Z<|.nl<|.bN<|?_
  refine retN (.inr Z) rfl .nil rfl λW s=>?_;have e0:clgP l (⟨q,o::r,(v::V,bd),true,dn⟩:Ps)=⟨q,o::r,(v::V,bd),true,true⟩:=by unfold clgP;exact Al_if_pos ⟨Al_of_decide_eq_true y9.1,Al_of_decide_eq_true y9.2⟩
  rw [e0];exact ⟨(_,_,_,_,_,AR),⟨.refl,⟨S.ops,S.vls⟩⟩,Z,s.pickT (hd:=[_,_,_]) (tl:=(AR++bs)) (hd':=[_,_,_]) [0,1,2] rfl rfl⟩
 rw [h9] at e9;refine .cu (X:=Bool) [(0,_),(2,_)] ⟨Z,Z,Jt⟩ (λz=>[(24,.bool z)]) (λz=>H) (λz=>(.box b [.slice tp l.length tc,iN ((if z then Rq.nx q else q).i),(.slice (some ⟨g,0,none⟩) (o::r).length c),rv,.bool true,.bool dn,.bool bd,iN ((if z then Rq.nx q else q).off),iN ((if z then Rq.nx q else q).er)] 102::.row 97 11 ((.slice (some ⟨g,0,none⟩) (o::r).length c)) ((o::r).length) ((xr++oC o s1 s2))::.row 179 13 (rv) (V.length+1) ((yr++vC v t0 t1 t2))::(AR++bs))) (λz=>z=(decide (o.kd=2) && Rq.ac l [41] q)) ?_ λz hC=>?_
 ·
  refine .rg<|.mv Z<|.nC Z<|.fA Z Fx.field97_0<|.yw (.loadR1 Z Fx.agg95 mem1 (app_at hlo Z))<|.yw (.eql Z Z)<|.mv Z<|.b2 (λh30=>?_) (λh30=>?_)
  ·have hg:o.kd=2:=Al_UInt8_toNat_inj.1 (by have:=Al_of_decide_eq_true h30;show o.kd.toNat=2;omega);exact .gy (.move Z)<|.gd Z Z<|.cs (X:=Unit) Fx.call107 Z (λW s=>accept_f K hq [41] (s.pickT (hd:=[_,_,_]) (tl:=(AR++bs)) (hd':=[_,_,_]) [0,1,2] Z Z)) Z λ_ _=>.yw (.pickT Z Z)<|.aq Z<|.me _ ⟨Z,Jt⟩ ⟨Z,Z,Jt⟩ (λ_ s=>s) (by first | rw [Al_decide_eq_true hg,Al_Bool_true_and] | (rw [Al_decide_eq_false hg];rfl))
  have hg:¬ o.kd=2:=λe=>Al_of_decide_eq_false h30 (by rw [e];rfl);exact .gG<|.gG<|.yw (.pickF Z Z)<|.aq Z<|.me _ ⟨Z,Jt⟩ ⟨Z,Z,Jt⟩ (λ_ s=>s) (by first | rw [Al_decide_eq_true hg,Al_Bool_true_and] | (rw [Al_decide_eq_false hg];rfl))
 have e24:=hC;refine .cd Z (λh24=>?_) (λh24=>?_)
 ·rw [h24] at e24;have y24:=Al_Bool_and_eq_true _ _ |>.mp e24.symm
  have hk:o.kd=2:=Al_of_decide_eq_true y24.1;rw [Al_if_pos h24];have hk5:o.kd≠5:=by rw [hk];decide
  obtain ⟨SO,FO⟩:=Ops.inv2 S.ops hk5;refine .sm Z<|.cs (X:=Nat × Nat) Fx.call116 Z (λW s=>pop_f K (wi_ac K.gd.last hq y24.2) V1.one (by omega) l1 (s.pickT (hd:=[_,_,_]) (tl:=(AR++bs)) (hd':=[_,_,_]) [0,2,1] Z Z)) Z λp1 _=>.al Fx.zero179 Z λb3=>.sW .head Z Z Fx.size179 V1.one Z<|.ns<|.fA Z Fx.field179_1<|.st .head Z Z Fx.size4 Z (nb Z) Z<|.nt<|.rg<|.mv Z<|.yw (.loadW Z Fx.agg179 Hm Z)<|.cs (X:=(Nat × Nat) × (Option Addr × Nat)) Fx.call156 Z (λW s=>close_f K (wi_ac K.gd.last hq y24.2) (VlR.one (v:=(⟨v.tm,false,v.e,v.f⟩:Vl)) ⟨V1.e,V1.f⟩) (by omega) (by omega) hlo (s.pickT (hd:=[_,_,_,_]) (tl:=(AR++bs)) (hd':=[_,_,_,_]) [1,3,2,0] Z Z)) Z λp9 _=>.nl<|.bN<|?_
  refine retN (.inr Z) rfl .nil rfl λW s=>?_;have e0:clgP l (⟨q,o::r,(v::V,bd),true,dn⟩:Ps)=⟨q.nx,r,((⟨v.tm,false,v.e,v.f⟩:Vl)::V,bd),true,dn⟩:=clg_par rfl hk y24.2;rw [e0];exact ⟨(_,_,_,_,_,AR),⟨.refl,⟨SO,.cons VS1 (v:=(⟨v.tm,false,v.e,v.f⟩:Vl)) ⟨V1.e,V1.f⟩⟩⟩,Z,s.pickT (hd:=[_,_,_,_]) (tl:=(AR++bs)) (hd':=[_,_,_]) [0,1,2] rfl rfl⟩
 rw [h24] at e24;rw [Al_if_neg (by rw [h24];decide)];refine .cu (X:=Bool) [(0,_),(2,_)] ⟨Z,Z,Jt⟩ (λz=>[(40,.bool z)]) (λz=>H) (λz=>(.box b [.slice tp l.length tc,iN ((if z then Rq.nx q else q).i),(.slice (some ⟨g,0,none⟩) (o::r).length c),rv,.bool true,.bool dn,.bool bd,iN ((if z then Rq.nx q else q).off),iN ((if z then Rq.nx q else q).er)] 102::.row 97 11 ((.slice (some ⟨g,0,none⟩) (o::r).length c)) ((o::r).length) ((xr++oC o s1 s2))::.row 179 13 (rv) (V.length+1) ((yr++vC v t0 t1 t2))::(AR++bs))) (λz=>z=(decide (o.kd=3) && Rq.ac l [41] q)) ?_ λz hC=>?_
 ·
  refine .rg<|.mv Z<|.nC Z<|.fA Z Fx.field97_0<|.yw (.loadR1 Z Fx.agg95 mem1 (app_at hlo Z))<|.yw (.eql Z Z)<|.mv Z<|.b2 (λh46=>?_) (λh46=>?_)
  ·have hg:o.kd=3:=Al_UInt8_toNat_inj.1 (by have:=Al_of_decide_eq_true h46;show o.kd.toNat=3;omega);exact .gy (.move Z)<|.gd Z Z<|.cs (X:=Unit) Fx.call107 Z (λW s=>accept_f K hq [41] (s.pickT (hd:=[_,_,_]) (tl:=(AR++bs)) (hd':=[_,_,_]) [0,1,2] Z Z)) Z λ_ _=>.yw (.pickT Z Z)<|.aq Z<|.me _ ⟨Z,Jt⟩ ⟨Z,Z,Jt⟩ (λ_ s=>s) (by first | rw [Al_decide_eq_true hg,Al_Bool_true_and] | (rw [Al_decide_eq_false hg];rfl))
  have hg:¬ o.kd=3:=λe=>Al_of_decide_eq_false h46 (by rw [e];rfl);exact .gG<|.gG<|.yw (.pickF Z Z)<|.aq Z<|.me _ ⟨Z,Jt⟩ ⟨Z,Z,Jt⟩ (λ_ s=>s) (by first | rw [Al_decide_eq_true hg,Al_Bool_true_and] | (rw [Al_decide_eq_false hg];rfl))
 have e40:=hC;refine .cd Z (λh40=>?_) (λh40=>?_)
 ·rw [h40] at e40;have y40:=Al_Bool_and_eq_true _ _ |>.mp e40.symm
  have hk:o.kd=3:=Al_of_decide_eq_true y40.1;rw [Al_if_pos h40];have hk5:o.kd≠5:=by rw [hk];decide
  obtain ⟨SO,FO⟩:=Ops.inv2 S.ops hk5;refine .sm Z<|.cs (X:=Unit) Fx.call114 Z (λW s=>expect_f K (wi_ac K.gd.last hq y40.2) [62,61] (s.pickT (hd:=[_,_,_]) (tl:=(AR++bs)) (hd':=[_,_,_]) [0,1,2] Z Z)) Z λ_ _=>.ns<|.mv Z<|.mv Z<|.cs (X:=Unit) Fx.call110 Z (λW s=>number_f K (wi_ex K.gd.last (wi_ac K.gd.last hq y40.2))  (s.pickT (hd:=[_,_,_]) (tl:=(AR++bs)) (hd':=[_,_,_]) [0,1,2] Z Z)) Z λ_ _=>.yw (.build Z (Fx.bld76_0_2 _ _))<|.bl Z (Fx.bsl32_1 _ _ _ _) Z λb56=>?_
  refine Sx.freezeBoxN λH2 u2 m2=>?_;refine .nC Z<|.fA Z Fx.field97_4<|.fA Z Fx.field35_5<|.s1Q (set_row (n:=r.length * 11) (j:=9) (cs':=oC o (.slice (some ⟨b56,0,none⟩) 1 1) s2) hlo Z) Z Z Fx.size32 Z upd1 (by rw [Al_List_length_append,hlo];show r.length * 11+9<r.length * 11+11;omega)<|.ns<|.mv Z<|.mv Z<|.cs (X:=Nat × Nat) Fx.call57 Z (λW s=>formula_f (K.up u2.up) (wi_nb K.gd.last (wi_ex K.gd.last (wi_ac K.gd.last hq y40.2))) V1.one V1.e.nm (by omega) l1 (s.pickT (hd:=[_,_,_]) (tl:=(AR++bs)) (hd':=[_,_,_]) [0,2,1] Z Z)) Z λp1 _=>?_
  obtain ⟨q1,q2,ef,FR⟩:=fm_lay V1;rw [ef];refine .bl Z (Fx.bsl33_1 _ _ _ _ _ _ _) Z λb63=>?_;refine Sx.freezeBoxN λH3 u3 m3=>?_;refine .nC Z<|.fA Z Fx.field97_4<|.fA Z Fx.field35_6<|.s1Q (set_row (n:=r.length * 11) (j:=10) (cs':=oC o (.slice (some ⟨b56,0,none⟩) 1 1) (.slice (some ⟨b63,0,none⟩) 1 1)) hlo Z) Z Z Fx.size33 Z upd2 (by rw [Al_List_length_append,hlo];show r.length * 11+10<r.length * 11+11;omega)<|.nt<|.rg<|.mv Z<|.mv Z<|.nC Z<|.fA Z Fx.field97_4<|.yw (.loadR (vs:=(cFm .u8 o.f.op o.f.nm o.f.fd o.f.a o.f.b (.slice (some ⟨b56,0,none⟩) 1 1) (.slice (some ⟨b63,0,none⟩) 1 1))) Z Fx.agg35 mem2 Z (λj u h=>by rw [Al_Nat_add_assoc];exact app_at hlo (by rw [Nat.add_comm 4 j];exact h)))<|.yw (.build Z (Fx.bld179_1_3 _ _ _ _ _ _ _ _))<|?_
  have VN:VlR H3 (⟨false,true,zE,(o.f.wEx [(.mk 1 [] ((q.nx.exS l [62,61]).nbV l) [])]).wAr [v.fm]⟩:Vl) (.slice none 0 0) (.slice (some ⟨b56,0,none⟩) 1 1) (.slice (some ⟨b63,0,none⟩) 1 1):=⟨ExR.zero rfl (Al_Nat_zero_le _),⟨(Rep.mk (n:=1) (c:=1) m2 (.single (ExR.zero (e:=(.mk 1 [] ((q.nx.exS l [62,61]).nbV l) [])) rfl (Al_Nat_zero_le _)).rep rfl) rfl (Al_Nat_le_refl _) (by decide)).up u3.up,(Rep.mk m3 (.single ((FR.up u2.up).up u3.up).rep rfl) rfl (Al_Nat_le_refl _) (by decide)),FO.nm,FO.fd⟩⟩;refine .cs (X:=(Nat × Nat) × (Option Addr × Nat)) Fx.call156 Z (λW s=>close_f ((K.up u2.up).up u3.up) (wi_nb K.gd.last (wi_ex K.gd.last (wi_ac K.gd.last hq y40.2))) VN.one (by omega) (by omega) hlo (s.pickT (hd:=[_,_,_]) (tl:=(AR++bs)) (hd':=[_,_,_]) [0,2,1] Z Z)) Z λp9 _=>.nl<|.bN<|?_
  refine retN (.inr Z) rfl .nil rfl λW s=>?_;have e0:clgP l (⟨q,o::r,(v::V,bd),true,dn⟩:Ps)=⟨((q.nx.exS l [62,61]).nbS l),r,((⟨false,true,zE,(o.f.wEx [(.mk 1 [] ((q.nx.exS l [62,61]).nbV l) [])]).wAr [v.fm]⟩:Vl)::V,bd || v.noF),true,dn⟩:=clg_cnt rfl hk y40.2;rw [e0];exact ⟨(_,_,_,_,_,AR),⟨(u2.trans u3),⟨(SO.up u2.up).up u3.up,.cons ((VS1.up u2.up).up u3.up) VN⟩⟩,Z,s.pickT (hd:=[_,_,_]) (tl:=(AR++bs)) (hd':=[_,_,_]) [0,1,2] rfl rfl⟩
 rw [h40] at e40;rw [Al_if_neg (by rw [h40];decide)];refine .cu (X:=Bool) [(0,_),(2,_)] ⟨Z,Z,Jt⟩ (λz=>[(74,.bool z)]) (λz=>H) (λz=>(.box b [.slice tp l.length tc,iN ((if z then Rq.nx q else q).i),(.slice (some ⟨g,0,none⟩) (o::r).length c),rv,.bool true,.bool dn,.bool bd,iN ((if z then Rq.nx q else q).off),iN ((if z then Rq.nx q else q).er)] 102::.row 97 11 ((.slice (some ⟨g,0,none⟩) (o::r).length c)) ((o::r).length) ((xr++oC o s1 s2))::.row 179 13 (rv) (V.length+1) ((yr++vC v t0 t1 t2))::(AR++bs))) (λz=>z=(decide (o.kd=4) && Rq.ac l [93] q)) ?_ λz hC=>?_
 ·
  refine .rg<|.mv Z<|.nC Z<|.fA Z Fx.field97_0<|.yw (.loadR1 Z Fx.agg95 mem1 (app_at hlo Z))<|.yw (.eql Z Z)<|.mv Z<|.b2 (λh80=>?_) (λh80=>?_)
  ·have hg:o.kd=4:=Al_UInt8_toNat_inj.1 (by have:=Al_of_decide_eq_true h80;show o.kd.toNat=4;omega);exact .gy (.move Z)<|.gd Z Z<|.cs (X:=Unit) Fx.call107 Z (λW s=>accept_f K hq [93] (s.pickT (hd:=[_,_,_]) (tl:=(AR++bs)) (hd':=[_,_,_]) [0,1,2] Z Z)) Z λ_ _=>.yw (.pickT Z Z)<|.aq Z<|.me _ ⟨Z,Jt⟩ ⟨Z,Z,Jt⟩ (λ_ s=>s) (by first | rw [Al_decide_eq_true hg,Al_Bool_true_and] | (rw [Al_decide_eq_false hg];rfl))
  have hg:¬ o.kd=4:=λe=>Al_of_decide_eq_false h80 (by rw [e];rfl);exact .gG<|.gG<|.yw (.pickF Z Z)<|.aq Z<|.me _ ⟨Z,Jt⟩ ⟨Z,Z,Jt⟩ (λ_ s=>s) (by first | rw [Al_decide_eq_true hg,Al_Bool_true_and] | (rw [Al_decide_eq_false hg];rfl))
 have e74:=hC;refine .cd Z (λh74=>?_) (λh74=>?_)
 ·rw [h74] at e74;have y74:=Al_Bool_and_eq_true _ _ |>.mp e74.symm
  have hk:o.kd=4:=Al_of_decide_eq_true y74.1;rw [Al_if_pos h74];have hk5:o.kd≠5:=by rw [hk];decide
  obtain ⟨SO,FO⟩:=Ops.inv2 S.ops hk5;refine .sm Z<|.cs (X:=Nat × Nat) Fx.call155 Z (λW s=>term_f K (wi_ac K.gd.last hq y74.2) V1.one (by omega) l1 (s.pickT (hd:=[_,_,_]) (tl:=(AR++bs)) (hd':=[_,_,_]) [0,2,1] Z Z)) Z λp1 _=>.bl Z (Fx.bsl32_1 _ _ _ _) Z λb86=>?_
  refine Sx.freezeBoxN λH2 u2 m2=>?_;refine .aq Z<|.sq<|.sm Z<|.nC Z<|.fA Z Fx.field97_3<|.yw (.loadR1 Z Fx.agg74 mem2 (app_at hlo Z))<|.yw (.eql Z Z)<|.nt<|.cd Z (λh91=>?_) (λh91=>?_)
  ·have ho6:o.op=6:=Al_UInt8_toNat_inj.1 (by have:=Al_of_decide_eq_true h91;show o.op.toNat=6;omega);refine .sm Z<|.mv Z<|.nC Z<|.fA Z Fx.field97_4<|.fA Z Fx.field35_1<|.yw (.loadR1 Z Fx.agg9 mem2 (app_at4 (j:=1) hlo Z))<|.mv Z<|.yw (.build Z (Fx.bld76_0_1_3 _ _ _ _ _))<|.yw (.build Z (Fx.bld179_0_2 _ _ _ _ _))<|?_
   have VN:VlR H2 (tmv (.mk 6 o.f.nm 0 [v.e])) (.slice (some ⟨b86,0,none⟩) 1 1) (.slice none 0 0) (.slice none 0 0):=⟨⟨(Rep.mk m2 (.single (V1.e.up u2.up).rep rfl) rfl (Al_Nat_le_refl _) (by decide)),FO.nm⟩,FmR.zero rfl rfl (Al_Nat_zero_le _) (Al_Nat_zero_le _)⟩;refine .cs (X:=(Nat × Nat) × (Option Addr × Nat)) Fx.call156 Z (λW s=>close_f (K.up u2.up) (wi_ac K.gd.last hq y74.2) VN.one (by omega) (by omega) hlo (s.pickT (hd:=[_,_,_]) (tl:=(AR++bs)) (hd':=[_,_,_]) [0,2,1] Z Z)) Z λp9 _=>.nt<|.rt<|.tR<|.bR<|?_
   refine y7 Z .nil rfl λW s=>?_;have e0:clgP l (⟨q,o::r,(v::V,bd),true,dn⟩:Ps)=⟨q.nx,r,((tmv (.mk 6 o.f.nm 0 [v.e]))::V,bd || !v.tm),true,dn⟩:=clg_get rfl hk ho6 y74.2;rw [e0];exact ⟨(_,_,_,_,_,AR),⟨u2,⟨SO.up u2.up,.cons (VS1.up u2.up) VN⟩⟩,Z,s.pickT (hd:=[_,_,_]) (tl:=(AR++bs)) (hd':=[_,_,_]) [0,1,2] rfl rfl⟩
  have ho6:¬ o.op=6:=λe=>Al_of_decide_eq_false h91 (by rw [e];rfl);refine .sk<|.tN<|.sm Z<|.mv Z<|.nC Z<|.fA Z Fx.field97_4<|.fA Z Fx.field35_5<|.s1Q (set_row (n:=r.length * 11) (j:=9) (cs':=oC o (.slice (some ⟨b86,0,none⟩) 1 1) s2) hlo Z) Z Z Fx.size32 Z upd2 (by rw [Al_List_length_append,hlo];show r.length * 11+9<r.length * 11+11;omega)<|.nt<|.rg<|.mv Z<|.mv Z<|.nC Z<|.fA Z Fx.field97_4<|.yw (.loadR (vs:=(cFm .u8 o.f.op o.f.nm o.f.fd o.f.a o.f.b (.slice (some ⟨b86,0,none⟩) 1 1) s2)) Z Fx.agg35 mem2 Z (λj u h=>by rw [Al_Nat_add_assoc];exact app_at hlo (by rw [Nat.add_comm 4 j];exact h)))<|.yw (.build Z (Fx.bld179_3 _ _ _ _ _ _ _))<|?_
  have VN:VlR H2 (fmv (o.f.wEx [v.e])) (.slice none 0 0) (.slice (some ⟨b86,0,none⟩) 1 1) s2:=⟨ExR.zero rfl (Al_Nat_zero_le _),⟨(Rep.mk m2 (.single (V1.e.up u2.up).rep rfl) rfl (Al_Nat_le_refl _) (by decide)),FO.ar.up u2.up,FO.nm,FO.fd⟩⟩;refine .cs (X:=(Nat × Nat) × (Option Addr × Nat)) Fx.call156 Z (λW s=>close_f (K.up u2.up) (wi_ac K.gd.last hq y74.2) VN.one (by omega) (by omega) hlo (s.pickT (hd:=[_,_,_]) (tl:=(AR++bs)) (hd':=[_,_,_]) [0,2,1] Z Z)) Z λp9 _=>.nl<|.bN<|?_
  refine retN (.inr Z) rfl .nil rfl λW s=>?_;have e0:clgP l (⟨q,o::r,(v::V,bd),true,dn⟩:Ps)=⟨q.nx,r,((fmv (o.f.wEx [v.e]))::V,bd || !v.tm),true,dn⟩:=clg_has rfl hk ho6 y74.2;rw [e0];exact ⟨(_,_,_,_,_,AR),⟨u2,⟨SO.up u2.up,.cons (VS1.up u2.up) VN⟩⟩,Z,s.pickT (hd:=[_,_,_]) (tl:=(AR++bs)) (hd':=[_,_,_]) [0,1,2] rfl rfl⟩
 rw [h74] at e74;rw [Al_if_neg (by rw [h74];decide)];refine .cu (X:=Bool) [(0,_),(2,_)] ⟨Z,Z,Jt⟩ (λz=>[(114,.bool z)]) (λz=>H) (λz=>(.box b [.slice tp l.length tc,iN ((if z then Rq.nx q else q).i),(.slice (some ⟨g,0,none⟩) (o::r).length c),rv,.bool true,.bool dn,.bool bd,iN ((if z then Rq.nx q else q).off),iN ((if z then Rq.nx q else q).er)] 102::.row 97 11 ((.slice (some ⟨g,0,none⟩) (o::r).length c)) ((o::r).length) ((xr++oC o s1 s2))::.row 179 13 (rv) (V.length+1) ((yr++vC v t0 t1 t2))::(AR++bs))) (λz=>z=(decide (o.kd=5) && Rq.ac l [44] q)) ?_ λz hC=>?_
 ·
  refine .rg<|.mv Z<|.nC Z<|.fA Z Fx.field97_0<|.yw (.loadR1 Z Fx.agg95 mem1 (app_at hlo Z))<|.yw (.eql Z Z)<|.mv Z<|.b2 (λh120=>?_) (λh120=>?_)
  ·have hg:o.kd=5:=Al_UInt8_toNat_inj.1 (by have:=Al_of_decide_eq_true h120;show o.kd.toNat=5;omega);exact .gy (.move Z)<|.gd Z Z<|.cs (X:=Unit) Fx.call107 Z (λW s=>accept_f K hq [44] (s.pickT (hd:=[_,_,_]) (tl:=(AR++bs)) (hd':=[_,_,_]) [0,1,2] Z Z)) Z λ_ _=>.yw (.pickT Z Z)<|.aq Z<|.me _ ⟨Z,Jt⟩ ⟨Z,Z,Jt⟩ (λ_ s=>s) (by first | rw [Al_decide_eq_true hg,Al_Bool_true_and] | (rw [Al_decide_eq_false hg];rfl))
  have hg:¬ o.kd=5:=λe=>Al_of_decide_eq_false h120 (by rw [e];rfl);exact .gG<|.gG<|.yw (.pickF Z Z)<|.aq Z<|.me _ ⟨Z,Jt⟩ ⟨Z,Z,Jt⟩ (λ_ s=>s) (by first | rw [Al_decide_eq_true hg,Al_Bool_true_and] | (rw [Al_decide_eq_false hg];rfl))
 have e114:=hC;refine .cd Z (λh114=>?_) (λh114=>?_)
 ·rw [h114] at e114;have y114:=Al_Bool_and_eq_true _ _ |>.mp e114.symm
  have hk:o.kd=5:=Al_of_decide_eq_true y114.1;rw [Al_if_pos h114];obtain ⟨AR1,xe,rfl,SO,rfl,hze,har,hnm,hfd⟩:=Ops.inv5 S.ops hk;refine Sx.reSt (λW s=>(s:St _ _ (_::_::_::_::(AR1++bs)) W)) ?_;obtain ⟨AR,rfl⟩:∃ A,A=AR1:=⟨_,Z⟩;refine Sx.At.ra (size:=4) (r:=s1) (e:=76) mem3 λpA cA e=>?_;subst e;refine .sq<|.fx (p:=.light _ _ (.light _ _ (.light _ _ (.light _ _ (.light _ _ (.light _ _ (.light _ _ (.alt _ _ _ (.alt _ _ _ (.alt _ _ _ (.light _ _ (.light _ _ (.light _ _ (.light _ _ (.alt _ _ _ (.alt _ _ _ (.done) (.no)) (.alt _ _ _ (.alt _ _ _ (.done) (.no)) (.no))))))) (.no)) (.no)) (.alt _ _ _ (.alt _ _ _ (.alt _ _ _ (.light _ _ (.light _ _ (.light _ _ (.light _ _ (.alt _ _ _ (.alt _ _ _ (.done) (.no)) (.alt _ _ _ (.alt _ _ _ (.done) (.no)) (.no))))))) (.no)) (.no)) (.no)))))))))) 16 (.light 0 (.light 1 (.light 2 (.light 3 (.light 4 (.light 5 (.light 7 (.alt 6 2 (.alt 8 0 (.alt 9 2 (.light 10 (.light 12 (.light 13 (.light 14 (.alt 11 2 (.alt 15 2 (.done) (.no)) (.alt 15 2 (.alt 11 2 (.done) (.no)) (.no))))))) (.no)) (.no)) (.alt 8 0 (.alt 6 2 (.alt 9 2 (.light 10 (.light 12 (.light 13 (.light 14 (.alt 11 2 (.alt 15 2 (.done) (.no)) (.alt 15 2 (.alt 11 2 (.done) (.no)) (.no))))))) (.no)) (.no)) (.no)))))))))) (by kernel_rfl) (by kernel_rfl) Z<|.mv Z<|.nC Z<|.fA Z Fx.field97_4<|.fA Z Fx.field35_5<|.yw (.loadR1 Z Fx.agg32 mem1 (app_at4 (j:=5) hlo Z))<|.mv Z<|.yw (.lenSl Fx.sl32 Z)<|.h ?_ (.h ?_ .nn)
  ·
   refine .c3 (X:=Nat × Nat) Fx.call155 Z (λW s=>term_f K (wi_ac K.gd.last hq y114.2) V1.one (by omega) l1 (s.pickT (hd:=[_,_,_,_]) (tl:=(AR++bs)) (hd':=[_,_,_,_]) [0,2,1,3] Z Z)) Z (λ_ _=>(.yv (.lenSl Fx.sl32 Z)<|.dn<|.yv (.loadR1 Z Fx.agg32 mem2 (app_at4 (j:=5) hlo Z))<|.yv (.fieldAddr Z Fx.field35_5)<|.yv (.fieldAddr Z Fx.field97_4)<|.yv (.nilCheck Z)<|.yv (.move Z)<|.nl)) λp1 _=>.h1<|.blF Z (Fx.bsl32_1 _ _ _ _) Z λb132 H3 u3 m3=>.h1<|.apE Fx.row32 Z (λ_ _=>upd3) Z (Rep.mk (n:=1) (c:=1) (ds:=[dEx .u8 zE]) m3 (.single (zx_rep _) Z) Z (Al_Nat_le_refl _) (by decide)) (Nat.succ_pos _) (by simp only [maxLen];omega) (by omega) Z (λ_ _=>(.d4<|.d3<|.nl)) λnews gE cE hn=>.yw (.indexSl Fx.sl32 Z Z (i:=o.f.ex.length) Z (by omega) (q:=o.f.ex.length * 4) (by omega))<|.nC Z<|.fA Z Fx.field97_4<|.fA Z Fx.field35_5<|.h ?_ (.h ?_ .nn)
   ·
    refine .sR Z Z Fx.size76 (Rep.one V1.e.rep) upd3 (by have:=hn.len;have:=hze.len;simp only [Al_List_length_append,Al_List_length_cons,Al_List_length_nil,Al_List_length_map] at * <;> omega) (.yv (.fieldAddr Z Fx.field35_5)<|.yv (.fieldAddr Z Fx.field97_4)<|.yv (.nilCheck Z)<|.d4<|.d4<|.nl) <|.h1<|.s1Q (set_row (n:=r.length * 11) (j:=9) (cs':=oC o (.slice (some ⟨gE,0,none⟩) (o.f.ex.length+1) cE) (.slice none 0 0)) hlo Z) Z Z Fx.size32 Z upd2 (by rw [Al_List_length_append,hlo];show r.length * 11+9<r.length * 11+11;omega) (.d3<|.yv (.indexSl Fx.sl32 Z Z (i:=o.f.ex.length) Z (by omega) (q:=o.f.ex.length * 4) (by omega))<|.d4<|.d3<|.nl) <|.fe<|.tN<|.rg<|.mv Z<|.nC Z<|.fA Z Fx.field102_4<|.st .head Z Z Fx.size4 Z (nb Z) Z<|.nl<|.bN<|?_
    refine retN (.inr Z) rfl .nil rfl λW s=>?_;have e0:clgP l (⟨q,o::r,(v::V,bd),true,dn⟩:Ps)=⟨q.nx,⟨o.kd,o.lv,o.tm,o.op,o.f.wEx (o.f.ex++[v.e])⟩::r,(V,bd || !v.tm),false,dn⟩:=clg_com rfl hk y114.2;rw [e0];have hz:=row_put (ds:=o.f.ex.map (dEx .u8)) (hze.up u3.up) hn (V1.e.up u3.up).rep rfl (Al_List_length_map ..);have ha:=Ops.arg (o:=⟨o.kd,o.lv,o.tm,o.op,o.f.wEx (o.f.ex++[v.e])⟩) (SO.up u3.up) hk har hnm hfd (by rw [show (⟨o.kd,o.lv,o.tm,o.op,o.f.wEx (o.f.ex++[v.e])⟩:Ov).f.ex=o.f.ex++[v.e] from rfl,Al_List_map_append];exact hz) (s1:=(.slice (some ⟨gE,0,none⟩) (o.f.ex.length+1) cE)) rfl;rw [show (⟨o.kd,o.lv,o.tm,o.op,o.f.wEx (o.f.ex++[v.e])⟩:Ov).f.ex.length=o.f.ex.length+1 from by show (o.f.ex++[v.e]).length=_;rw [Al_List_length_append];rfl] at ha;exact ⟨(H3,(.slice (some ⟨g,0,none⟩) (o::r).length c),.slice (some ⟨p1.1,0,none⟩) V.length p1.2,xr++oC ⟨o.kd,o.lv,o.tm,o.op,o.f.wEx (o.f.ex++[v.e])⟩ (.slice (some ⟨gE,0,none⟩) (o.f.ex.length+1) cE) (.slice none 0 0),yr,.row 76 4 (.slice (some ⟨gE,0,none⟩) (o.f.ex.length+1) cE) (o.f.ex.length+1) (setsL (xe++news) (o.f.ex.length * 4) [.int .u8 v.e.op.toNat,strV v.e.nm,.int .i64 v.e.n.toInt,t0])::AR),⟨u3,⟨ha,(VS1.up u3.up)⟩⟩,Z,s.pickT (hd:=[_,_,_,_]) (tl:=(AR++bs)) (hd':=[_,_,_,_]) [0,2,1,3] rfl rfl⟩
   refine .s1Q (set_row (n:=r.length * 11) (j:=9) (cs':=oC o (.slice (some ⟨gE,0,none⟩) (o.f.ex.length+1) cE) (.slice none 0 0)) hlo Z) Z Z Fx.size32 Z upd2 (by rw [Al_List_length_append,hlo];show r.length * 11+9<r.length * 11+11;omega) (.d3<|.yv (.indexSl Fx.sl32 Z Z (i:=o.f.ex.length) Z (by omega) (q:=o.f.ex.length * 4) (by omega))<|.d4<|.d3<|.nl) <|.h1<|.sR Z Z Fx.size76 (Rep.one V1.e.rep) upd3 (by have:=hn.len;have:=hze.len;simp only [Al_List_length_append,Al_List_length_cons,Al_List_length_nil,Al_List_length_map] at * <;> omega) (.yv (.fieldAddr Z Fx.field35_5)<|.yv (.fieldAddr Z Fx.field97_4)<|.yv (.nilCheck Z)<|.d4<|.d4<|.nl) <|.fe<|.tN<|.rg<|.mv Z<|.nC Z<|.fA Z Fx.field102_4<|.st .head Z Z Fx.size4 Z (nb Z) Z<|.nl<|.bN<|?_
   refine retN (.inr Z) rfl .nil rfl λW s=>?_;have e0:clgP l (⟨q,o::r,(v::V,bd),true,dn⟩:Ps)=⟨q.nx,⟨o.kd,o.lv,o.tm,o.op,o.f.wEx (o.f.ex++[v.e])⟩::r,(V,bd || !v.tm),false,dn⟩:=clg_com rfl hk y114.2;rw [e0];have hz:=row_put (ds:=o.f.ex.map (dEx .u8)) (hze.up u3.up) hn (V1.e.up u3.up).rep rfl (Al_List_length_map ..);have ha:=Ops.arg (o:=⟨o.kd,o.lv,o.tm,o.op,o.f.wEx (o.f.ex++[v.e])⟩) (SO.up u3.up) hk har hnm hfd (by rw [show (⟨o.kd,o.lv,o.tm,o.op,o.f.wEx (o.f.ex++[v.e])⟩:Ov).f.ex=o.f.ex++[v.e] from rfl,Al_List_map_append];exact hz) (s1:=(.slice (some ⟨gE,0,none⟩) (o.f.ex.length+1) cE)) rfl;rw [show (⟨o.kd,o.lv,o.tm,o.op,o.f.wEx (o.f.ex++[v.e])⟩:Ov).f.ex.length=o.f.ex.length+1 from by show (o.f.ex++[v.e]).length=_;rw [Al_List_length_append];rfl] at ha;exact ⟨(H3,(.slice (some ⟨g,0,none⟩) (o::r).length c),.slice (some ⟨p1.1,0,none⟩) V.length p1.2,xr++oC ⟨o.kd,o.lv,o.tm,o.op,o.f.wEx (o.f.ex++[v.e])⟩ (.slice (some ⟨gE,0,none⟩) (o.f.ex.length+1) cE) (.slice none 0 0),yr,.row 76 4 (.slice (some ⟨gE,0,none⟩) (o.f.ex.length+1) cE) (o.f.ex.length+1) (setsL (xe++news) (o.f.ex.length * 4) [.int .u8 v.e.op.toNat,strV v.e.nm,.int .i64 v.e.n.toInt,t0])::AR),⟨u3,⟨ha,(VS1.up u3.up)⟩⟩,Z,s.pickT (hd:=[_,_,_,_]) (tl:=(AR++bs)) (hd':=[_,_,_,_]) [0,2,1,3] rfl rfl⟩
  refine .blF Z (Fx.bsl32_1 _ _ _ _) Z λb132 H3 u3 m3=>.h1<|.c3 (X:=Nat × Nat) Fx.call155 Z (λW s=>term_f (K.up u3.up) (wi_ac K.gd.last hq y114.2) V1.one (by omega) l1 (s.pickT (hd:=[_,_,_,_]) (tl:=(AR++bs)) (hd':=[_,_,_,_]) [0,2,1,3] Z Z)) Z (λ_ _=>(.yv (.lenSl Fx.sl32 Z)<|.dn<|.yv (.loadR1 Z Fx.agg32 mem2 (app_at4 (j:=5) hlo Z))<|.yv (.fieldAddr Z Fx.field35_5)<|.yv (.fieldAddr Z Fx.field97_4)<|.yv (.nilCheck Z)<|.yv (.move Z)<|.nl)) λp1 _=>.h1<|.apE Fx.row32 Z (λ_ _=>upd3) Z (Rep.mk (n:=1) (c:=1) (ds:=[dEx .u8 zE]) m3 (.single (zx_rep _) Z) Z (Al_Nat_le_refl _) (by decide)) (Nat.succ_pos _) (by simp only [maxLen];omega) (by omega) Z (λ_ _=>(.d4<|.d3<|.nl)) λnews gE cE hn=>.yw (.indexSl Fx.sl32 Z Z (i:=o.f.ex.length) Z (by omega) (q:=o.f.ex.length * 4) (by omega))<|.nC Z<|.fA Z Fx.field97_4<|.fA Z Fx.field35_5<|.h ?_ (.h ?_ .nn)
  ·
   refine .sR Z Z Fx.size76 (Rep.one V1.e.rep) upd3 (by have:=hn.len;have:=hze.len;simp only [Al_List_length_append,Al_List_length_cons,Al_List_length_nil,Al_List_length_map] at * <;> omega) (.yv (.fieldAddr Z Fx.field35_5)<|.yv (.fieldAddr Z Fx.field97_4)<|.yv (.nilCheck Z)<|.d4<|.d4<|.nl) <|.h1<|.s1Q (set_row (n:=r.length * 11) (j:=9) (cs':=oC o (.slice (some ⟨gE,0,none⟩) (o.f.ex.length+1) cE) (.slice none 0 0)) hlo Z) Z Z Fx.size32 Z upd2 (by rw [Al_List_length_append,hlo];show r.length * 11+9<r.length * 11+11;omega) (.d3<|.yv (.indexSl Fx.sl32 Z Z (i:=o.f.ex.length) Z (by omega) (q:=o.f.ex.length * 4) (by omega))<|.d4<|.d3<|.nl) <|.fe<|.tN<|.rg<|.mv Z<|.nC Z<|.fA Z Fx.field102_4<|.st .head Z Z Fx.size4 Z (nb Z) Z<|.nl<|.bN<|?_
   refine retN (.inr Z) rfl .nil rfl λW s=>?_;have e0:clgP l (⟨q,o::r,(v::V,bd),true,dn⟩:Ps)=⟨q.nx,⟨o.kd,o.lv,o.tm,o.op,o.f.wEx (o.f.ex++[v.e])⟩::r,(V,bd || !v.tm),false,dn⟩:=clg_com rfl hk y114.2;rw [e0];have hz:=row_put (ds:=o.f.ex.map (dEx .u8)) (hze.up u3.up) hn (V1.e.up u3.up).rep rfl (Al_List_length_map ..);have ha:=Ops.arg (o:=⟨o.kd,o.lv,o.tm,o.op,o.f.wEx (o.f.ex++[v.e])⟩) (SO.up u3.up) hk har hnm hfd (by rw [show (⟨o.kd,o.lv,o.tm,o.op,o.f.wEx (o.f.ex++[v.e])⟩:Ov).f.ex=o.f.ex++[v.e] from rfl,Al_List_map_append];exact hz) (s1:=(.slice (some ⟨gE,0,none⟩) (o.f.ex.length+1) cE)) rfl;rw [show (⟨o.kd,o.lv,o.tm,o.op,o.f.wEx (o.f.ex++[v.e])⟩:Ov).f.ex.length=o.f.ex.length+1 from by show (o.f.ex++[v.e]).length=_;rw [Al_List_length_append];rfl] at ha;exact ⟨(H3,(.slice (some ⟨g,0,none⟩) (o::r).length c),.slice (some ⟨p1.1,0,none⟩) V.length p1.2,xr++oC ⟨o.kd,o.lv,o.tm,o.op,o.f.wEx (o.f.ex++[v.e])⟩ (.slice (some ⟨gE,0,none⟩) (o.f.ex.length+1) cE) (.slice none 0 0),yr,.row 76 4 (.slice (some ⟨gE,0,none⟩) (o.f.ex.length+1) cE) (o.f.ex.length+1) (setsL (xe++news) (o.f.ex.length * 4) [.int .u8 v.e.op.toNat,strV v.e.nm,.int .i64 v.e.n.toInt,t0])::AR),⟨u3,⟨ha,(VS1.up u3.up)⟩⟩,Z,s.pickT (hd:=[_,_,_,_]) (tl:=(AR++bs)) (hd':=[_,_,_,_]) [0,2,1,3] rfl rfl⟩
  refine .s1Q (set_row (n:=r.length * 11) (j:=9) (cs':=oC o (.slice (some ⟨gE,0,none⟩) (o.f.ex.length+1) cE) (.slice none 0 0)) hlo Z) Z Z Fx.size32 Z upd2 (by rw [Al_List_length_append,hlo];show r.length * 11+9<r.length * 11+11;omega) (.d3<|.yv (.indexSl Fx.sl32 Z Z (i:=o.f.ex.length) Z (by omega) (q:=o.f.ex.length * 4) (by omega))<|.d4<|.d3<|.nl) <|.h1<|.sR Z Z Fx.size76 (Rep.one V1.e.rep) upd3 (by have:=hn.len;have:=hze.len;simp only [Al_List_length_append,Al_List_length_cons,Al_List_length_nil,Al_List_length_map] at * <;> omega) (.yv (.fieldAddr Z Fx.field35_5)<|.yv (.fieldAddr Z Fx.field97_4)<|.yv (.nilCheck Z)<|.d4<|.d4<|.nl) <|.fe<|.tN<|.rg<|.mv Z<|.nC Z<|.fA Z Fx.field102_4<|.st .head Z Z Fx.size4 Z (nb Z) Z<|.nl<|.bN<|?_
  refine retN (.inr Z) rfl .nil rfl λW s=>?_;have e0:clgP l (⟨q,o::r,(v::V,bd),true,dn⟩:Ps)=⟨q.nx,⟨o.kd,o.lv,o.tm,o.op,o.f.wEx (o.f.ex++[v.e])⟩::r,(V,bd || !v.tm),false,dn⟩:=clg_com rfl hk y114.2;rw [e0];have hz:=row_put (ds:=o.f.ex.map (dEx .u8)) (hze.up u3.up) hn (V1.e.up u3.up).rep rfl (Al_List_length_map ..);have ha:=Ops.arg (o:=⟨o.kd,o.lv,o.tm,o.op,o.f.wEx (o.f.ex++[v.e])⟩) (SO.up u3.up) hk har hnm hfd (by rw [show (⟨o.kd,o.lv,o.tm,o.op,o.f.wEx (o.f.ex++[v.e])⟩:Ov).f.ex=o.f.ex++[v.e] from rfl,Al_List_map_append];exact hz) (s1:=(.slice (some ⟨gE,0,none⟩) (o.f.ex.length+1) cE)) rfl;rw [show (⟨o.kd,o.lv,o.tm,o.op,o.f.wEx (o.f.ex++[v.e])⟩:Ov).f.ex.length=o.f.ex.length+1 from by show (o.f.ex++[v.e]).length=_;rw [Al_List_length_append];rfl] at ha;exact ⟨(H3,(.slice (some ⟨g,0,none⟩) (o::r).length c),.slice (some ⟨p1.1,0,none⟩) V.length p1.2,xr++oC ⟨o.kd,o.lv,o.tm,o.op,o.f.wEx (o.f.ex++[v.e])⟩ (.slice (some ⟨gE,0,none⟩) (o.f.ex.length+1) cE) (.slice none 0 0),yr,.row 76 4 (.slice (some ⟨gE,0,none⟩) (o.f.ex.length+1) cE) (o.f.ex.length+1) (setsL (xe++news) (o.f.ex.length * 4) [.int .u8 v.e.op.toNat,strV v.e.nm,.int .i64 v.e.n.toInt,t0])::AR),⟨u3,⟨ha,(VS1.up u3.up)⟩⟩,Z,s.pickT (hd:=[_,_,_,_]) (tl:=(AR++bs)) (hd':=[_,_,_,_]) [0,2,1,3] rfl rfl⟩
 rw [h114] at e114;rw [Al_if_neg (by rw [h114];decide)];refine .cu (X:=Bool) [(0,_),(2,_)] ⟨Z,Z,Jt⟩ (λz=>[(141,.bool z)]) (λz=>H) (λz=>(.box b [.slice tp l.length tc,iN ((if z then Rq.nx q else q).i),(.slice (some ⟨g,0,none⟩) (o::r).length c),rv,.bool true,.bool dn,.bool bd,iN ((if z then Rq.nx q else q).off),iN ((if z then Rq.nx q else q).er)] 102::.row 97 11 ((.slice (some ⟨g,0,none⟩) (o::r).length c)) ((o::r).length) ((xr++oC o s1 s2))::.row 179 13 (rv) (V.length+1) ((yr++vC v t0 t1 t2))::(AR++bs))) (λz=>z=(decide (o.kd=5) && Rq.ac l [41] q)) ?_ λz hC=>?_
 ·
  refine .rg<|.mv Z<|.nC Z<|.fA Z Fx.field97_0<|.yw (.loadR1 Z Fx.agg95 mem1 (app_at hlo Z))<|.yw (.eql Z Z)<|.mv Z<|.b2 (λh147=>?_) (λh147=>?_)
  ·have hg:o.kd=5:=Al_UInt8_toNat_inj.1 (by have:=Al_of_decide_eq_true h147;show o.kd.toNat=5;omega);exact .gy (.move Z)<|.gd Z Z<|.cs (X:=Unit) Fx.call107 Z (λW s=>accept_f K hq [41] (s.pickT (hd:=[_,_,_]) (tl:=(AR++bs)) (hd':=[_,_,_]) [0,1,2] Z Z)) Z λ_ _=>.yw (.pickT Z Z)<|.aq Z<|.me _ ⟨Z,Jt⟩ ⟨Z,Z,Jt⟩ (λ_ s=>s) (by first | rw [Al_decide_eq_true hg,Al_Bool_true_and] | (rw [Al_decide_eq_false hg];rfl))
  have hg:¬ o.kd=5:=λe=>Al_of_decide_eq_false h147 (by rw [e];rfl);exact .gG<|.gG<|.yw (.pickF Z Z)<|.aq Z<|.me _ ⟨Z,Jt⟩ ⟨Z,Z,Jt⟩ (λ_ s=>s) (by first | rw [Al_decide_eq_true hg,Al_Bool_true_and] | (rw [Al_decide_eq_false hg];rfl))
 have e141:=hC;refine .cd Z (λh141=>?_) (λh141=>?_)
 ·rw [h141] at e141;have y141:=Al_Bool_and_eq_true _ _ |>.mp e141.symm
  have hk:o.kd=5:=Al_of_decide_eq_true y141.1;rw [Al_if_pos h141];obtain ⟨AR1,xe,rfl,SO,rfl,hze,har,hnm,hfd⟩:=Ops.inv5 S.ops hk;refine Sx.reSt (λW s=>(s:St _ _ (_::_::_::_::(AR1++bs)) W)) ?_;obtain ⟨AR,rfl⟩:∃ A,A=AR1:=⟨_,Z⟩;refine Sx.At.ra (size:=4) (r:=s1) (e:=76) mem3 λpA cA e=>?_;subst e;refine .sq<|.fx (p:=.light _ _ (.light _ _ (.light _ _ (.light _ _ (.light _ _ (.light _ _ (.light _ _ (.alt _ _ _ (.alt _ _ _ (.alt _ _ _ (.light _ _ (.light _ _ (.light _ _ (.light _ _ (.alt _ _ _ (.alt _ _ _ (.done) (.no)) (.alt _ _ _ (.alt _ _ _ (.done) (.no)) (.no))))))) (.no)) (.no)) (.alt _ _ _ (.alt _ _ _ (.alt _ _ _ (.light _ _ (.light _ _ (.light _ _ (.light _ _ (.alt _ _ _ (.alt _ _ _ (.done) (.no)) (.alt _ _ _ (.alt _ _ _ (.done) (.no)) (.no))))))) (.no)) (.no)) (.no)))))))))) 16 (.light 0 (.light 1 (.light 2 (.light 3 (.light 4 (.light 5 (.light 7 (.alt 6 2 (.alt 8 0 (.alt 9 2 (.light 10 (.light 12 (.light 13 (.light 14 (.alt 11 2 (.alt 15 2 (.done) (.no)) (.alt 15 2 (.alt 11 2 (.done) (.no)) (.no))))))) (.no)) (.no)) (.alt 8 0 (.alt 6 2 (.alt 9 2 (.light 10 (.light 12 (.light 13 (.light 14 (.alt 11 2 (.alt 15 2 (.done) (.no)) (.alt 15 2 (.alt 11 2 (.done) (.no)) (.no))))))) (.no)) (.no)) (.no)))))))))) (by kernel_rfl) (by kernel_rfl) Z<|.mv Z<|.nC Z<|.fA Z Fx.field97_4<|.fA Z Fx.field35_5<|.yw (.loadR1 Z Fx.agg32 mem1 (app_at4 (j:=5) hlo Z))<|.mv Z<|.yw (.lenSl Fx.sl32 Z)<|.h ?_ (.h ?_ .nn)
  ·
   refine .c3 (X:=Nat × Nat) Fx.call155 Z (λW s=>term_f K (wi_ac K.gd.last hq y141.2) V1.one (by omega) l1 (s.pickT (hd:=[_,_,_,_]) (tl:=(AR++bs)) (hd':=[_,_,_,_]) [0,2,1,3] Z Z)) Z (λ_ _=>(.yv (.lenSl Fx.sl32 Z)<|.dn<|.yv (.loadR1 Z Fx.agg32 mem2 (app_at4 (j:=5) hlo Z))<|.yv (.fieldAddr Z Fx.field35_5)<|.yv (.fieldAddr Z Fx.field97_4)<|.yv (.nilCheck Z)<|.yv (.move Z)<|.nl)) λp1 _=>.h1<|.blF Z (Fx.bsl32_1 _ _ _ _) Z λb159 H39 u39 m39=>.h1<|.apE Fx.row32 Z (λ_ _=>upd3) Z (Rep.mk (n:=1) (c:=1) (ds:=[dEx .u8 zE]) m39 (.single (zx_rep _) Z) Z (Al_Nat_le_refl _) (by decide)) (Nat.succ_pos _) (by simp only [maxLen];omega) (by omega) Z (λ_ _=>(.d4<|.d3<|.nl)) λnews9 gE9 cE9 hn9=>.yw (.indexSl Fx.sl32 Z Z (i:=o.f.ex.length) Z (by omega) (q:=o.f.ex.length * 4) (by omega))<|.nC Z<|.fA Z Fx.field97_4<|.fA Z Fx.field35_5<|.h ?_ (.h ?_ .nn)
   ·
    refine .sR Z Z Fx.size76 (Rep.one V1.e.rep) upd3 (by have:=hn9.len;have:=hze.len;simp only [Al_List_length_append,Al_List_length_cons,Al_List_length_nil,Al_List_length_map] at * <;> omega) (.yv (.fieldAddr Z Fx.field35_5)<|.yv (.fieldAddr Z Fx.field97_4)<|.yv (.nilCheck Z)<|.d4<|.d4<|.nl) <|.h1<|.s1Q (set_row (n:=r.length * 11) (j:=9) (cs':=oC o (.slice (some ⟨gE9,0,none⟩) (o.f.ex.length+1) cE9) (.slice none 0 0)) hlo Z) Z Z Fx.size32 Z upd2 (by rw [Al_List_length_append,hlo];show r.length * 11+9<r.length * 11+11;omega) (.d3<|.yv (.indexSl Fx.sl32 Z Z (i:=o.f.ex.length) Z (by omega) (q:=o.f.ex.length * 4) (by omega))<|.d4<|.d3<|.nl) <|.fe<|.tN<|.rg<|.mv Z<|.mv Z<|.nC Z<|.fA Z Fx.field97_4<|.yw (.loadR (vs:=(cFm .u8 o.f.op o.f.nm o.f.fd o.f.a o.f.b (.slice (some ⟨gE9,0,none⟩) (o.f.ex.length+1) cE9) (.slice none 0 0))) Z Fx.agg35 mem2 Z (λj u h=>by rw [Al_Nat_add_assoc];exact app_at hlo (by rw [Nat.add_comm 4 j];exact h)))<|.yw (.build Z (Fx.bld179_3 _ _ _ _ _ _ _))<|.cs (X:=(Nat × Nat) × (Option Addr × Nat)) Fx.call156 Z (λW s=>close_f (K.up u39.up) (wi_ac K.gd.last hq y141.2) (by simp [Value.oneCell',strV]) (by omega) (by omega) hlo (s.pickT (hd:=[_,_,_,_]) (tl:=(AR++bs)) (hd':=[_,_,_,_]) [0,2,1,3] Z Z)) Z λp9 _=>.nl<|.bN<|?_
    refine Sx.reSt (λW s=>s.pickT (hd:=[_,_,_,_]) (tl:=(AR++bs)) (hd':=[_,_,_,_]) [3,0,1,2] rfl rfl) ?_;refine freezeSeq (ds:=(o.f.ex++[v.e]).map (dEx .u8)) (by rw [Al_List_length_map,Al_List_length_append];rfl) (by rw [Al_List_map_append];exact row_put (ds:=o.f.ex.map (dEx .u8)) (hze.up u39.up) hn9 (V1.e.up u39.up).rep rfl (Al_List_length_map ..)) λH8 p8 c8 u8 e8 h8=>?_;refine retN (.inr Z) rfl .nil rfl λW s=>?_;have e0:clgP l (⟨q,o::r,(v::V,bd),true,dn⟩:Ps)=⟨q.nx,r,((fmv (o.f.wEx (o.f.ex++[v.e])))::V,bd || !v.tm),true,dn⟩:=clg_arg rfl hk y141.2;rw [e0];exact ⟨(_,_,_,_,_,AR),⟨(u39.trans u8),⟨((SO.up u39.up).up u8.up),.cons ((VS1.up u39.up).up u8.up) (v:=(fmv (o.f.wEx (o.f.ex++[v.e])))) ⟨ExR.zero rfl (Al_Nat_zero_le _),⟨h8,by show Rep _ (.seq 7 (o.f.args.map _)) _;rw [har];exact Rep.nil4,hnm,hfd⟩⟩⟩⟩,Z,s.pickT (hd:=[_,_,_]) (tl:=(AR++bs)) (hd':=[_,_,_]) [0,1,2] rfl rfl⟩
   refine .s1Q (set_row (n:=r.length * 11) (j:=9) (cs':=oC o (.slice (some ⟨gE9,0,none⟩) (o.f.ex.length+1) cE9) (.slice none 0 0)) hlo Z) Z Z Fx.size32 Z upd2 (by rw [Al_List_length_append,hlo];show r.length * 11+9<r.length * 11+11;omega) (.d3<|.yv (.indexSl Fx.sl32 Z Z (i:=o.f.ex.length) Z (by omega) (q:=o.f.ex.length * 4) (by omega))<|.d4<|.d3<|.nl) <|.h1<|.sR Z Z Fx.size76 (Rep.one V1.e.rep) upd3 (by have:=hn9.len;have:=hze.len;simp only [Al_List_length_append,Al_List_length_cons,Al_List_length_nil,Al_List_length_map] at * <;> omega) (.yv (.fieldAddr Z Fx.field35_5)<|.yv (.fieldAddr Z Fx.field97_4)<|.yv (.nilCheck Z)<|.d4<|.d4<|.nl) <|.fe<|.tN<|.rg<|.mv Z<|.mv Z<|.nC Z<|.fA Z Fx.field97_4<|.yw (.loadR (vs:=(cFm .u8 o.f.op o.f.nm o.f.fd o.f.a o.f.b (.slice (some ⟨gE9,0,none⟩) (o.f.ex.length+1) cE9) (.slice none 0 0))) Z Fx.agg35 mem2 Z (λj u h=>by rw [Al_Nat_add_assoc];exact app_at hlo (by rw [Nat.add_comm 4 j];exact h)))<|.yw (.build Z (Fx.bld179_3 _ _ _ _ _ _ _))<|.cs (X:=(Nat × Nat) × (Option Addr × Nat)) Fx.call156 Z (λW s=>close_f (K.up u39.up) (wi_ac K.gd.last hq y141.2) (by simp [Value.oneCell',strV]) (by omega) (by omega) hlo (s.pickT (hd:=[_,_,_,_]) (tl:=(AR++bs)) (hd':=[_,_,_,_]) [0,2,1,3] Z Z)) Z λp9 _=>.nl<|.bN<|?_
   refine Sx.reSt (λW s=>s.pickT (hd:=[_,_,_,_]) (tl:=(AR++bs)) (hd':=[_,_,_,_]) [3,0,1,2] rfl rfl) ?_;refine freezeSeq (ds:=(o.f.ex++[v.e]).map (dEx .u8)) (by rw [Al_List_length_map,Al_List_length_append];rfl) (by rw [Al_List_map_append];exact row_put (ds:=o.f.ex.map (dEx .u8)) (hze.up u39.up) hn9 (V1.e.up u39.up).rep rfl (Al_List_length_map ..)) λH8 p8 c8 u8 e8 h8=>?_;refine retN (.inr Z) rfl .nil rfl λW s=>?_;have e0:clgP l (⟨q,o::r,(v::V,bd),true,dn⟩:Ps)=⟨q.nx,r,((fmv (o.f.wEx (o.f.ex++[v.e])))::V,bd || !v.tm),true,dn⟩:=clg_arg rfl hk y141.2;rw [e0];exact ⟨(_,_,_,_,_,AR),⟨(u39.trans u8),⟨((SO.up u39.up).up u8.up),.cons ((VS1.up u39.up).up u8.up) (v:=(fmv (o.f.wEx (o.f.ex++[v.e])))) ⟨ExR.zero rfl (Al_Nat_zero_le _),⟨h8,by show Rep _ (.seq 7 (o.f.args.map _)) _;rw [har];exact Rep.nil4,hnm,hfd⟩⟩⟩⟩,Z,s.pickT (hd:=[_,_,_]) (tl:=(AR++bs)) (hd':=[_,_,_]) [0,1,2] rfl rfl⟩
  refine .blF Z (Fx.bsl32_1 _ _ _ _) Z λb159 H39 u39 m39=>.h1<|.c3 (X:=Nat × Nat) Fx.call155 Z (λW s=>term_f (K.up u39.up) (wi_ac K.gd.last hq y141.2) V1.one (by omega) l1 (s.pickT (hd:=[_,_,_,_]) (tl:=(AR++bs)) (hd':=[_,_,_,_]) [0,2,1,3] Z Z)) Z (λ_ _=>(.yv (.lenSl Fx.sl32 Z)<|.dn<|.yv (.loadR1 Z Fx.agg32 mem2 (app_at4 (j:=5) hlo Z))<|.yv (.fieldAddr Z Fx.field35_5)<|.yv (.fieldAddr Z Fx.field97_4)<|.yv (.nilCheck Z)<|.yv (.move Z)<|.nl)) λp1 _=>.h1<|.apE Fx.row32 Z (λ_ _=>upd3) Z (Rep.mk (n:=1) (c:=1) (ds:=[dEx .u8 zE]) m39 (.single (zx_rep _) Z) Z (Al_Nat_le_refl _) (by decide)) (Nat.succ_pos _) (by simp only [maxLen];omega) (by omega) Z (λ_ _=>(.d4<|.d3<|.nl)) λnews9 gE9 cE9 hn9=>.yw (.indexSl Fx.sl32 Z Z (i:=o.f.ex.length) Z (by omega) (q:=o.f.ex.length * 4) (by omega))<|.nC Z<|.fA Z Fx.field97_4<|.fA Z Fx.field35_5<|.h ?_ (.h ?_ .nn)
  ·
   refine .sR Z Z Fx.size76 (Rep.one V1.e.rep) upd3 (by have:=hn9.len;have:=hze.len;simp only [Al_List_length_append,Al_List_length_cons,Al_List_length_nil,Al_List_length_map] at * <;> omega) (.yv (.fieldAddr Z Fx.field35_5)<|.yv (.fieldAddr Z Fx.field97_4)<|.yv (.nilCheck Z)<|.d4<|.d4<|.nl) <|.h1<|.s1Q (set_row (n:=r.length * 11) (j:=9) (cs':=oC o (.slice (some ⟨gE9,0,none⟩) (o.f.ex.length+1) cE9) (.slice none 0 0)) hlo Z) Z Z Fx.size32 Z upd2 (by rw [Al_List_length_append,hlo];show r.length * 11+9<r.length * 11+11;omega) (.d3<|.yv (.indexSl Fx.sl32 Z Z (i:=o.f.ex.length) Z (by omega) (q:=o.f.ex.length * 4) (by omega))<|.d4<|.d3<|.nl) <|.fe<|.tN<|.rg<|.mv Z<|.mv Z<|.nC Z<|.fA Z Fx.field97_4<|.yw (.loadR (vs:=(cFm .u8 o.f.op o.f.nm o.f.fd o.f.a o.f.b (.slice (some ⟨gE9,0,none⟩) (o.f.ex.length+1) cE9) (.slice none 0 0))) Z Fx.agg35 mem2 Z (λj u h=>by rw [Al_Nat_add_assoc];exact app_at hlo (by rw [Nat.add_comm 4 j];exact h)))<|.yw (.build Z (Fx.bld179_3 _ _ _ _ _ _ _))<|.cs (X:=(Nat × Nat) × (Option Addr × Nat)) Fx.call156 Z (λW s=>close_f (K.up u39.up) (wi_ac K.gd.last hq y141.2) (by simp [Value.oneCell',strV]) (by omega) (by omega) hlo (s.pickT (hd:=[_,_,_,_]) (tl:=(AR++bs)) (hd':=[_,_,_,_]) [0,2,1,3] Z Z)) Z λp9 _=>.nl<|.bN<|?_
   refine Sx.reSt (λW s=>s.pickT (hd:=[_,_,_,_]) (tl:=(AR++bs)) (hd':=[_,_,_,_]) [3,0,1,2] rfl rfl) ?_;refine freezeSeq (ds:=(o.f.ex++[v.e]).map (dEx .u8)) (by rw [Al_List_length_map,Al_List_length_append];rfl) (by rw [Al_List_map_append];exact row_put (ds:=o.f.ex.map (dEx .u8)) (hze.up u39.up) hn9 (V1.e.up u39.up).rep rfl (Al_List_length_map ..)) λH8 p8 c8 u8 e8 h8=>?_;refine retN (.inr Z) rfl .nil rfl λW s=>?_;have e0:clgP l (⟨q,o::r,(v::V,bd),true,dn⟩:Ps)=⟨q.nx,r,((fmv (o.f.wEx (o.f.ex++[v.e])))::V,bd || !v.tm),true,dn⟩:=clg_arg rfl hk y141.2;rw [e0];exact ⟨(_,_,_,_,_,AR),⟨(u39.trans u8),⟨((SO.up u39.up).up u8.up),.cons ((VS1.up u39.up).up u8.up) (v:=(fmv (o.f.wEx (o.f.ex++[v.e])))) ⟨ExR.zero rfl (Al_Nat_zero_le _),⟨h8,by show Rep _ (.seq 7 (o.f.args.map _)) _;rw [har];exact Rep.nil4,hnm,hfd⟩⟩⟩⟩,Z,s.pickT (hd:=[_,_,_]) (tl:=(AR++bs)) (hd':=[_,_,_]) [0,1,2] rfl rfl⟩
  refine .s1Q (set_row (n:=r.length * 11) (j:=9) (cs':=oC o (.slice (some ⟨gE9,0,none⟩) (o.f.ex.length+1) cE9) (.slice none 0 0)) hlo Z) Z Z Fx.size32 Z upd2 (by rw [Al_List_length_append,hlo];show r.length * 11+9<r.length * 11+11;omega) (.d3<|.yv (.indexSl Fx.sl32 Z Z (i:=o.f.ex.length) Z (by omega) (q:=o.f.ex.length * 4) (by omega))<|.d4<|.d3<|.nl) <|.h1<|.sR Z Z Fx.size76 (Rep.one V1.e.rep) upd3 (by have:=hn9.len;have:=hze.len;simp only [Al_List_length_append,Al_List_length_cons,Al_List_length_nil,Al_List_length_map] at * <;> omega) (.yv (.fieldAddr Z Fx.field35_5)<|.yv (.fieldAddr Z Fx.field97_4)<|.yv (.nilCheck Z)<|.d4<|.d4<|.nl) <|.fe<|.tN<|.rg<|.mv Z<|.mv Z<|.nC Z<|.fA Z Fx.field97_4<|.yw (.loadR (vs:=(cFm .u8 o.f.op o.f.nm o.f.fd o.f.a o.f.b (.slice (some ⟨gE9,0,none⟩) (o.f.ex.length+1) cE9) (.slice none 0 0))) Z Fx.agg35 mem2 Z (λj u h=>by rw [Al_Nat_add_assoc];exact app_at hlo (by rw [Nat.add_comm 4 j];exact h)))<|.yw (.build Z (Fx.bld179_3 _ _ _ _ _ _ _))<|.cs (X:=(Nat × Nat) × (Option Addr × Nat)) Fx.call156 Z (λW s=>close_f (K.up u39.up) (wi_ac K.gd.last hq y141.2) (by simp [Value.oneCell',strV]) (by omega) (by omega) hlo (s.pickT (hd:=[_,_,_,_]) (tl:=(AR++bs)) (hd':=[_,_,_,_]) [0,2,1,3] Z Z)) Z λp9 _=>.nl<|.bN<|?_
  refine Sx.reSt (λW s=>s.pickT (hd:=[_,_,_,_]) (tl:=(AR++bs)) (hd':=[_,_,_,_]) [3,0,1,2] rfl rfl) ?_;refine freezeSeq (ds:=(o.f.ex++[v.e]).map (dEx .u8)) (by rw [Al_List_length_map,Al_List_length_append];rfl) (by rw [Al_List_map_append];exact row_put (ds:=o.f.ex.map (dEx .u8)) (hze.up u39.up) hn9 (V1.e.up u39.up).rep rfl (Al_List_length_map ..)) λH8 p8 c8 u8 e8 h8=>?_;refine retN (.inr Z) rfl .nil rfl λW s=>?_;have e0:clgP l (⟨q,o::r,(v::V,bd),true,dn⟩:Ps)=⟨q.nx,r,((fmv (o.f.wEx (o.f.ex++[v.e])))::V,bd || !v.tm),true,dn⟩:=clg_arg rfl hk y141.2;rw [e0];exact ⟨(_,_,_,_,_,AR),⟨(u39.trans u8),⟨((SO.up u39.up).up u8.up),.cons ((VS1.up u39.up).up u8.up) (v:=(fmv (o.f.wEx (o.f.ex++[v.e])))) ⟨ExR.zero rfl (Al_Nat_zero_le _),⟨h8,by show Rep _ (.seq 7 (o.f.args.map _)) _;rw [har];exact Rep.nil4,hnm,hfd⟩⟩⟩⟩,Z,s.pickT (hd:=[_,_,_]) (tl:=(AR++bs)) (hd':=[_,_,_]) [0,1,2] rfl rfl⟩
 rw [h141] at e141;rw [Al_if_neg (by rw [h141];decide)];refine .rg<|.mv Z<|.cs (X:=Unit) Fx.call104 Z (λW s=>fail_f K hq 8 (s.pickT (hd:=[_,_,_]) (tl:=(AR++bs)) (hd':=[_,_,_]) [0,1,2] Z Z)) Z λ_ _=>.nl<|.bN<|?_
 refine retN (.inr Z) rfl .nil rfl λW s=>?_;have n2:∀ {n:UInt8} {w:Str},false=(decide (o.kd=n) && Rq.ac l w q)->o.kd=n->Rq.ac l w q=false:=λe k=>by rw [Al_decide_eq_true k,Al_Bool_true_and] at e;exact e.symm
 have e0:clgP l (⟨q,o::r,(v::V,bd),true,dn⟩:Ps)=(⟨q,o::r,(v::V,bd),true,dn⟩:Ps).at (q.fail l 8):=clg_fail (λe e2=>by rw [Al_decide_eq_true (show o.kd=1 from e),Al_decide_eq_true (show (tkf l q.i).k=0 from e2)] at e9;cases e9) (λe=>by
  rcases e with e | e | e
  ·exact n2 e24 e
  ·exact n2 e40 e
  ·exact n2 e141 e) (n2 e74) (n2 e114)
 rw [e0];exact ⟨(_,_,_,_,_,AR),⟨.refl,⟨S.ops,S.vls⟩⟩,Z,s.pickT (hd:=[_,_,_]) (tl:=(AR++bs)) (hd':=[_,_,_]) [0,1,2] rfl rfl⟩
def Fex (q:Ps):Prop:=∀ o∈q.op,o.f.ex.length<=q.c.i
section
variable {l:Tks} {q:Ps} {c:Rq} {o:Ov} {v:Vl}
theorem fex_push (h:Fex q) (hi:q.c.i<=c.i) (ho:o.f.ex=[]):Fex (pushS o (q.at c)):=λz hz=>by
 rcases Al_List_mem_cons.1 hz with rfl | hz
 ·rw [inh_f,ho];exact Al_Nat_zero_le _
 ·exact Al_Nat_le_trans (h z hz) hi
theorem fex_give (h:Fex q) (hi:q.c.i<=c.i):Fex (giveS v (q.at c)):=λz hz=>Al_Nat_le_trans (h z hz) hi
theorem fex_at (h:Fex q) (hi:q.c.i<=c.i):Fex (q.at c):=λz hz=>Al_Nat_le_trans (h z hz) hi
theorem redL_sub {lv:Nat}:∀ (r:List Ov) (x:Vb),∀ z∈(redL lv r x).1,z∈r
 | [],_,z,h=>h
 | o::r,x,z,h=>by
  rw [redL] at h
  split at h
  ·exact Al_List_mem_cons_of_mem _ (redL_sub r _ z h)
  ·exact h
theorem fex_red {lv:Nat} (h:Fex q):Fex (redP lv q):=λz hz=>h z (redL_sub q.op q.x z hz)
theorem fex_clo {x:Vb} (h:Fex q) (hi:q.c.i<=c.i):Fex (cloS c v x q):=λz hz=>Al_Nat_le_trans (h z (List.mem_of_mem_tail hz)) hi
theorem fex_if {c:Prop} [Decidable c] {a b:Ps} (h1:c->Fex a) (h2:¬ c->Fex b):Fex (if c then a else b):=by
 by_cases hc:c
 ·rw [Al_if_pos hc];exact h1 hc
 ·rw [Al_if_neg hc];exact h2 hc
theorem le_nx (k:Mq q.c.nx c):q.c.i<=c.i:=Al_Nat_le_trans (Nat.le_succ _) k.i
theorem fex_pref {q':Ps} (h:Fex q) (e:prefS l q=some q'):Fex q':=by
 unfold prefS at e
 split at e
 ·injection e with e;subst e;exact fex_push h (le_nx (.refl _)) rfl
 split at e
 ·injection e with e;subst e;exact fex_push h (le_nx (.refl _)) rfl
 split at e
 ·injection e with e;subst e;exact fex_push h (le_nx .wiS) rfl
 split at e
 ·injection e with e;subst e;exact fex_push h (le_nx .wiS) rfl
 split at e
 ·injection e with e;subst e;exact fex_push h (le_nx .amS) rfl
 split at e
 ·injection e with e;subst e;exact fex_push h (le_nx .amS) rfl
 split at e
 ·injection e with e;subst e;exact fex_push h (le_nx (.trans .amS .exS)) rfl
 ·cases e
theorem le_nm:q.c.i<=(q.c.nmS l).i:=Mq.nmS.i
theorem fex_var (h:Fex q):Fex (varP l q):=by
 unfold varP;refine fex_if (λa=>fex_if (λb=>fex_push h ?_ rfl) λ_=>fex_give h ?_) λ_=>fex_give h le_nm
 ·exact Al_Nat_le_trans le_nm (Al_Nat_le_trans (Nat.le_succ _) (Al_Nat_le_trans (Mq.nmS (q:=(q.c.nmS l).nx)).i (Nat.le_succ _)))
 ·exact Al_Nat_le_trans le_nm (Al_Nat_le_trans (Nat.le_succ _) (Mq.nmS (q:=(q.c.nmS l).nx)).i)
theorem fex_arr (h:Fex q):Fex (arrP l q):=by
 unfold arrP;have h2:q.c.i<=((q.c.paS l).exS l [40]).i:=(Mq.trans (a:=q.c) .paS .exS).i;exact fex_if (λ_=>fex_give h (Al_Nat_le_trans h2 (Nat.le_succ _))) λ_=>fex_push h h2 rfl
theorem fex_re2 (h:Fex q):Fex (re2P l q):=by
 unfold re2P
 exact fex_if (λ_=>fex_push h (le_nx (.refl _)) rfl) λ_=>fex_if (λ_=>fex_push h (le_nx (.refl _)) rfl) λ_ =>
  fex_if (λ_=>fex_give h Mq.nbS.i) λ_=>fex_if (λ_=>fex_var h) λ_=>fex_if (λ_=>fex_give h (le_nx (.refl _))) λ_ =>
  fex_if (λ_=>fex_give h (le_nx .paS)) λ_=>fex_if (λ_=>fex_give h (le_nx (.refl _))) λ_=>fex_if (λ_=>fex_give h (le_nx (.refl _))) λ_ =>
  fex_if (λ_=>fex_give h (le_nx .nmS)) λ_=>fex_if (λ_=>fex_push h (le_nx (.trans .paS .exS)) rfl) λ_ =>
  fex_if (λ_=>fex_arr (fex_at h (Nat.le_succ _))) λ_=>fex_at h Mq.fail.i
theorem fex_operand (h:Fex q):Fex (operandP l q):=by
 unfold operandP;cases e:(if fmsB q then prefS l q else none) with
 | some q' =>
  split at e
  ·exact fex_pref h e
  ·cases e
 | none =>
  show Fex (restP l q);unfold restP;exact fex_if (λ_=>fex_give h (Nat.le_succ _)) λ_=>fex_re2 h
theorem fex_bet {op:UInt8} (h:Fex q):Fex (betP l op q):=by
 have f {lv:Nat}:Fex ((redP lv q).at (q.c.fail l 8)):=fex_at (fex_red h) (Mq.fail (q:=q.c)).i;have p {lv:Nat} {o:Ov} (ho:o.f.ex=[]):Fex (pushS o ((redP lv q).at q.c.nx)):=fex_push (fex_red h) (Nat.le_succ _) ho;unfold betP;exact fex_if (λ_=>fex_if (λ_=>f) λ_=>p rfl) λ_=>fex_if (λ_=>fex_if (λ_=>f) λ_=>p rfl) λ_=>fex_if (λ_=>f) λ_=>p rfl
theorem joV_ex (c:Rq):(c.joV l).ex=[]:=by
 unfold Rq.joV
 split
 ·rfl
 split
 ·rfl
 split
 ·rfl
 split <;> rfl
theorem fex_joi (h:Fex q):Fex (joiP l q):=by
 unfold joiP;exact fex_if (λ_=>fex_at h Mq.fail.i) λ_=>fex_push (q:=redP _ q) (c:=q.c.joS l) (fex_red h) (Mq.joS (q:=q.c)).i (joV_ex _)
theorem fex_clg (h:Fex q):Fex (clgP l q):=by
 unfold clgP;refine fex_if (λ_=>h) λ_=>fex_if (λ_=>fex_clo h (Nat.le_succ _)) λ_=>fex_if (λ_=>fex_clo h (le_nx (.trans .exS .nbS))) λ_=>fex_if (λ_=>fex_if (λ_=>fex_clo h (Nat.le_succ _)) λ_=>fex_clo h (Nat.le_succ _)) λ_=>fex_if (λa=>?_) λ_=>fex_if (λ_=>fex_clo h (Nat.le_succ _)) λ_=>fex_at h Mq.fail.i;intro z hz;have hz':z∈(⟨(topO q).kd,(topO q).lv,(topO q).tm,(topO q).op,(topO q).f.wEx ((topO q).f.ex++[tE q.x])⟩:Ov)::q.op.tail:=hz;show z.f.ex.length<=q.c.i+1;rcases Al_List_mem_cons.1 hz' with e | hz
 ·subst e;show ((topO q).f.ex++[tE q.x]).length<=_;rw [Al_List_length_append]
  have:(topO q).f.ex.length<=q.c.i:=by
   unfold topO;cases hq:q.op with
   | nil=>exact Al_Nat_zero_le _
   | cons o r=>exact h o (by rw [hq];exact Al_List_mem_cons_self ..)
  simp only [Al_List_length_cons,Al_List_length_nil];omega
 ·exact Al_Nat_le_trans (h z (List.mem_of_mem_tail hz)) (Nat.le_succ _)
theorem fex_step (h:Fex q):Fex (stepP l q):=by
 unfold stepP;refine fex_if (λ_=>?_) λ_=>fex_operand h;unfold operatorP;cases q.c.sym l with
 | some i=>exact fex_bet h
 | none =>
  show Fex (othP l q);unfold othP;exact fex_if (λ_=>fex_joi h) λ_=>fex_if (λ_=>fex_clg (fex_red h)) λ_=>fex_at h Mq.fail.i
end
end Go.Proofs.YtidclioghdbphaaGreatDoor
