/- Texts of the proof, one behind the other. -/
import Derived.Test.YtidclioghdbphaaGreatDoorMb
set_option linter.all false
set_option maxRecDepth 100000
namespace Go.Proofs.YtidclioghdbphaaGreatDoor
open Go.RowKit Go.Par Go.Sx Tryz
def bO6 (rec:Bs->Ex × Bs) (M:Mk) (d:Nat):Prop:=∀ (H:Hp) (w0 W:World) (bs:List Res) (b:Nat) (arV bv:Value) (left:Int) (by_:Bs),Rep H (.seq 1 ((by_).map dU8)) [bv]->St H w0 (.box b (mkC M arV bv left) 133::bs) W ->
 Calls prg 183 #[.pointer (some ⟨b,0,none⟩),iN d] W λe W'=>∃ z:List Value × Value × Hp,(HUp w0 H z.2.2/\Rep z.2.2 (dEx .i64 (rec by_).1) z.1/\Rep z.2.2 (.seq 1 (((rec by_).2).map dU8)) [z.2.1])/\e=.returned (.agg z.1.toArray)/\St z.2.2 w0 (.box b (mkC M arV z.2.1 left) 133::bs) W'
variable {H:Hp} {n:Nat}
theorem bU4 (h:n<9):Rep H (dEx .i64 (.mk 1 [] (Int64.ofNat n) [])) [.int .i64 1,bJ [],iN n,cL]:=by
 have e:(Int64.ofNat n).toInt=(n:Int):=by
  have key:∀ i∈List.range 9,(Int64.ofNat i).toInt=(i:Int):=aS
  exact key n (bZ.2 h)
 have:=kK (H:=H) (k:=.i64) (op:=1) (nm:=[]) (n:=Int64.ofNat n) (args:=[]) (s:=.slice none 0 0) aS (Rep.empty aS);rw [e] at this;exact this
variable {k:Nat}
theorem cF8 (h:k<6):[Value.int .i64 14,.int .i64 15,.int .i64 11,.int .i64 12,.int .i64 13,.int .i64 14][k]? = some (.int .i64 (([14,15,11,12,13,14]:List UInt8).getD k 14).toNat):=by
 match k,h with
 | 0,_=>rfl
 | 1,_=>rfl
 | 2,_=>rfl
 | 3,_=>rfl
 | 4,_=>rfl
 | 5,_=>rfl
theorem KY (M:Mk) (hM:okM M) (d:Nat) (hd:d<=3) (rec:Bs->Ex × Bs) (hrec:d<=2->bO6 rec M (d+1)):bO6 (bV4 M d rec) M d:=by
 intro H w0 W bs b arV bv left by_ hb s;unfold bV4;refine iB func183 rfl ntmps183 rfl s ?_;refine .sr<|.al gX Z λb4=>.ns<|.mv Z<|.xs (X:=Value) Z (λW s=>pZ 12 aS hb  (s.p2_2 [1,0] Z)) λz9 hz9=>?_
 have hk12:=mQ by_ (n:=12) aS;generalize (cC by_ 12).1=k at hk12|-;generalize (cC by_ 12).2=b1 at hz9|-;refine .aq Z<|.cu (X:=Unit) [(0,_),(1,_),(4,_)] ⟨Z,Z,Z,Jt⟩ (λz=>[]) (λz=>H) (λz=>(.box b (mkC M arV z9 left) 133::.box b4 [.int .i64 0,dV,.int .i64 0,cL] 83::bs)) (λz=>¬ (k<2\/(2<d/\5<k))/\¬ (k<4\/(k=4/\M.params=0))/\¬ k=4/\¬ k=5/\¬ (k=6/\0<M.tables)/\¬ (k=7/\0<M.tables)/\¬ k=8) ?_ λz hC=>?_
 ·
  refine .bk<|.cu (X:=Bool) [(0,_),(1,_),(4,_),(5,_)] ⟨Z,Z,Z,Z,Jt⟩ (λz=>[(10,.bool z)]) (λz=>H) (λz=>(.box b (mkC M arV z9 left) 133::.box b4 [.int .i64 0,dV,.int .i64 0,cL] 83::bs)) (λz=>z=decide (k<2\/(2<d/\5<k))) ?_ λz hC=>?_
  ·
   refine .rg<|.mv Z<|.yw (.lss Z Z)<|.mv Z<|.e2 (λh13=>?_) (λh13=>?_)
   ·exact .g3<|.gV<|.gV<|.gG<|.pT Z<|.aq Z<|.me _ ⟨Z,Jt⟩ ⟨Z,Z,Z,Z,Jt⟩ (λ_ s=>s) (by rw [aQ,aB];first | (rw [aB];omega) | exact ⟨λ_=>by omega,λ_=>rfl⟩ | exact ⟨λh=>(by cases h),λh=>by omega⟩)
   refine .gy (.move Z)<|.gy (.gtr Z Z)<|.gy (.move Z)<|.e2 (λh16=>?_) (λh16=>?_)
   ·exact .gy (.move Z)<|.gy (.gtr Z Z)<|.gy (.pickT Z Z)<|.pF Z<|.aq Z<|.me _ ⟨Z,Jt⟩ ⟨Z,Z,Z,Z,Jt⟩ (λ_ s=>s) (by rw [aQ,aB];first | (rw [aB];omega) | exact ⟨λ_=>by omega,λ_=>rfl⟩ | exact ⟨λh=>(by cases h),λh=>by omega⟩)
   exact .g2<|.gy (.pickF Z Z)<|.pF Z<|.aq Z<|.me _ ⟨Z,Jt⟩ ⟨Z,Z,Z,Z,Jt⟩ (λ_ s=>s) (by rw [aQ,aB];first | (rw [aB];omega) | exact ⟨λ_=>by omega,λ_=>rfl⟩ | exact ⟨λh=>(by cases h),λh=>by omega⟩)
  have e10:=hC;refine .cd Z (λh10=>?_) (λh10=>?_)
  ·have q10:k<2\/(2<d/\5<k):=by rw [h10] at e10;exact aI e10.symm
   refine .sm Z<|.xs (X:=Value) Z (λW s=>pZ 9 aS hz9  (s.p2_2 [0,1] Z)) λz22 hz22=>.yw (.build Z (CB _ _))<|.sX iJ Z Z eD Z<|.zR<|?_
   exact y8 Z (.cell Z cY cU rfl) λW t=>⟨(_,_,H),by rw [show CX M d rec k b1=_ from by rw [CX,aK aD]];exact ⟨.refl,bU4 (mQ _ aS),hz22⟩,Z,(t.p2_1 [0] rfl)⟩
  have q10:¬ (k<2\/(2<d/\5<k)):=by rw [h10] at e10;exact aJ e10.symm
  refine .cu (X:=Bool) [(0,_),(1,_),(4,_),(5,_)] ⟨Z,Z,Z,Z,Jt⟩ (λz=>[(24,.bool z)]) (λz=>H) (λz=>(.box b (mkC M arV z9 left) 133::.box b4 [.int .i64 0,dV,.int .i64 0,cL] 83::bs)) (λz=>z=decide (k<4\/(k=4/\M.params=0))) ?_ λz hC=>?_
  ·
   refine .rg<|.mv Z<|.yw (.lss Z Z)<|.mv Z<|.e2 (λh27=>?_) (λh27=>?_)
   ·exact .g3<|.gV<|.gV<|.gV<|.gV<|.gV<|.gG<|.pT Z<|.aq Z<|.me _ ⟨Z,Jt⟩ ⟨Z,Z,Z,Z,Jt⟩ (λ_ s=>s) (by rw [aQ,aB];first | (rw [aB];omega) | exact ⟨λ_=>by omega,λ_=>rfl⟩ | exact ⟨λh=>(by cases h),λh=>by omega⟩)
   refine .gy (.move Z)<|.gy (.eql Z Z)<|.gy (.move Z)<|.e2 (λh30=>?_) (λh30=>?_)
   ·exact .gy (.move Z)<|.gy (.nilCheck Z)<|.gy (.fieldAddr Z wC)<|.gy (.load Z bQ Hm Z)<|.gy (.eql Z Z)<|.gy (.pickT Z Z)<|.pF Z<|.aq Z<|.me _ ⟨Z,Jt⟩ ⟨Z,Z,Z,Z,Jt⟩ (λ_ s=>s) (by rw [aQ,aB];first | (rw [aB];omega) | exact ⟨λ_=>by omega,λ_=>rfl⟩ | exact ⟨λh=>(by cases h),λh=>by omega⟩)
   exact .g4<|.gG<|.gy (.pickF Z Z)<|.pF Z<|.aq Z<|.me _ ⟨Z,Jt⟩ ⟨Z,Z,Z,Z,Jt⟩ (λ_ s=>s) (by rw [aQ,aB];first | (rw [aB];omega) | exact ⟨λ_=>by omega,λ_=>rfl⟩ | exact ⟨λh=>(by cases h),λh=>by omega⟩)
  have e24:=hC;refine .cd Z (λh24=>?_) (λh24=>?_)
  ·have q24:k<4\/(k=4/\M.params=0):=by rw [h24] at e24;exact aI e24.symm
   refine .sm Z<|.xs (X:=Value × Hp) Z (λW s=>GR hM hz9  (s.p2_2 [0,1] Z)) λz39 hz39=>.yw (.build Z (oO _ _))<|.sX iJ Z Z eD Z<|.zR<|?_
   exact y8 Z (.cell Z cY cU rfl) λW t=>⟨(_,_,z39.2),by rw [show CX M d rec k b1=_ from by rw [CX,aA aD,aK aD]];exact ⟨hz39.1,kK (args:=[]) (by simp [nmB]) (Rep.empty aS),hz39.2⟩,Z,(t.p2_1 [0] rfl)⟩
  have q24:¬ (k<4\/(k=4/\M.params=0)):=by rw [h24] at e24;exact aJ e24.symm
  refine .sm Z<|.yw (.eql Z Z)<|.aq Z<|.ce Z (λh41=>?_) (λh41=>?_)
  ·refine .sq<|.fL 10 [(1,0),(2,0),(3,0),(4,0),(5,0),(0,1),(6,2),(7,0),(8,0),(9,0)]<|.mv Z<|.mv Z<|.nC Z<|.fA Z wC<|.lD Z bQ Hm Z<|.xt (X:=Value) Z (λW s=>lZ H 112 2 aD W s.agr) λv44 H44 hn44 u44=>?_
   obtain ⟨pn44,cn44,e44,_⟩:=hn44.sl;simp only [bV,dL,aP,jY] at e44;subst e44;obtain ⟨bE,oE,hpE,mE⟩:=uO hn44 (k:=(cC b1 M.params).1) (by have:=mQ b1 (n:=M.params) aD;have:=hM.2.2.1;omega);subst hpE;refine .xs (X:=Value) Z (λW s=>pZ M.params aD (hz9.up u44.up)  (s.p2_2 [0,1] Z)) λz50 hz50=>.yw (.indexSl fD Z Z (i:=(cC b1 M.params).1) Z (by have:=mQ b1 (n:=M.params) aD;have:=hM.2.2.1;omega) (q:=oE+(cC b1 M.params).1 * 1) Z)<|.yw (.loadM Z bT mE (k:=0) Z Z)<|.yw (.build Z (oO _ _))<|.fn (tl:=[_]) Z<|.sX iJ Z Z eD Z<|.zR<|?_
   exact y8 Z (.cell Z cY cU rfl) λW t=>⟨(_,_,H44),by rw [show CX M d rec k b1=_ from by rw [CX,aA aD,aA aD,aK aD]];exact ⟨u44,kK (args:=[]) (by simp [nmB]) (Rep.empty aS),hz50⟩,Z,(t.p2_1 [0] rfl)⟩
  refine .sm Z<|.yw (.eql Z Z)<|.aq Z<|.ce Z (λh54=>?_) (λh54=>?_)
  ·refine .sr<|.yw (.build Z (HD _))<|.sX iJ Z Z eD Z<|.zR<|?_
   exact y8 Z (.cell Z cY cU rfl) λW t=>⟨(_,_,H),by rw [show CX M d rec k b1=_ from by rw [CX,aA aD,aA aD,aA aD,aK aD]];exact ⟨.refl,kK (args:=[]) (nm:=[]) aS (Rep.empty aS),hz9⟩,Z,(t.p2_1 [0] rfl)⟩
  refine .cu (X:=Bool) [(0,_),(1,_),(4,_),(5,_)] ⟨Z,Z,Z,Z,Jt⟩ (λz=>[(58,.bool z)]) (λz=>H) (λz=>(.box b (mkC M arV z9 left) 133::.box b4 [.int .i64 0,dV,.int .i64 0,cL] 83::bs)) (λz=>z=decide (k=6/\0<M.tables)) ?_ λz hC=>?_
  ·
   refine .rg<|.mv Z<|.yw (.eql Z Z)<|.mv Z<|.e2 (λh61=>?_) (λh61=>?_)
   ·exact .gy (.move Z)<|.gy (.nilCheck Z)<|.gy (.fieldAddr Z tB)<|.gy (.load Z bQ Hm Z)<|.gy (.gtr Z Z)<|.pT Z<|.aq Z<|.me _ ⟨Z,Jt⟩ ⟨Z,Z,Z,Z,Jt⟩ (λ_ s=>s) (by rw [aQ,aB];first | (rw [aB];omega) | exact ⟨λ_=>by omega,λ_=>rfl⟩ | exact ⟨λh=>(by cases h),λh=>by omega⟩)
   exact .g4<|.gG<|.pF Z<|.aq Z<|.me _ ⟨Z,Jt⟩ ⟨Z,Z,Z,Z,Jt⟩ (λ_ s=>s) (by rw [aQ,aB];first | (rw [aB];omega) | exact ⟨λ_=>by omega,λ_=>rfl⟩ | exact ⟨λh=>(by cases h),λh=>by omega⟩)
  have e58:=hC;refine .cd Z (λh58=>?_) (λh58=>?_)
  ·have q58:k=6/\0<M.tables:=by rw [h58] at e58;exact aI e58.symm
   refine .sm Z<|.mv Z<|.yw (.add Z Z (c:=((d+1:Nat):Int)) ((w6 aD).trans aD))<|.xs (X:=List Value × Value × Hp) Z (λW s=>hrec aD H w0 W _ b arV _ left b1 hz9  (s.p2_2 [0,1] Z)) λz71 hz71=>?_
   obtain ⟨x71,v71,H71⟩:=z71;obtain ⟨u71,r71,q71⟩:=hz71;dsimp only at u71 r71 q71|-;generalize hE71:(rec b1).1=e71 at r71;obtain ⟨op71,nm71,n71,a71⟩:=e71;obtain ⟨p71,c71,rfl,hs71,hl71⟩:=eV r71;refine .bl Z (gH _ _ _ _) Z λb72=>.yw (.build Z (yV _ _ _ _ _))<|.sX iE Z Z eD Z<|.zR<|?_
   refine At.pt (hd:=[_,_,_]) (tl:=bs) (hd':=[_,_,_]) [0,2,1] rfl rfl ?_;refine Sx.freezeBoxN λHf uf mf=>?_;exact y8 Z (.cell Z cY Hm rfl) λW t=>⟨(_,_,Hf),by rw [show CX M d rec k b1=_ from by rw [CX,aA aD,aA aD,aA aD,aA aD,aK aD],hE71];exact ⟨u71.trans uf,kK (nm:=[116,48]) (args:=[.mk op71 nm71 n71 a71]) aS (Rep.mk (n:=1) (c:=1) mf (.single (r71.up uf.up) rfl) rfl (aY _) aS),q71.up uf.up⟩,Z,t.drop⟩
  have q58:¬ (k=6/\0<M.tables):=by rw [h58] at e58;exact aJ e58.symm
  refine .cu (X:=Bool) [(0,_),(1,_),(4,_),(5,_)] ⟨Z,Z,Z,Z,Jt⟩ (λz=>[(74,.bool z)]) (λz=>H) (λz=>(.box b (mkC M arV z9 left) 133::.box b4 [.int .i64 0,dV,.int .i64 0,cL] 83::bs)) (λz=>z=decide (k=7/\0<M.tables)) ?_ λz hC=>?_
  ·
   refine .rg<|.mv Z<|.yw (.eql Z Z)<|.mv Z<|.e2 (λh77=>?_) (λh77=>?_)
   ·exact .gy (.move Z)<|.gy (.nilCheck Z)<|.gy (.fieldAddr Z tB)<|.gy (.load Z bQ Hm Z)<|.gy (.gtr Z Z)<|.pT Z<|.aq Z<|.me _ ⟨Z,Jt⟩ ⟨Z,Z,Z,Z,Jt⟩ (λ_ s=>s) (by rw [aQ,aB];first | (rw [aB];omega) | exact ⟨λ_=>by omega,λ_=>rfl⟩ | exact ⟨λh=>(by cases h),λh=>by omega⟩)
   exact .g4<|.gG<|.pF Z<|.aq Z<|.me _ ⟨Z,Jt⟩ ⟨Z,Z,Z,Z,Jt⟩ (λ_ s=>s) (by rw [aQ,aB];first | (rw [aB];omega) | exact ⟨λ_=>by omega,λ_=>rfl⟩ | exact ⟨λh=>(by cases h),λh=>by omega⟩)
  have e74:=hC;refine .cd Z (λh74=>?_) (λh74=>?_)
  ·have q74:k=7/\0<M.tables:=by rw [h74] at e74;exact aI e74.symm
   refine .sr<|.yw (.build Z (oO _ _))<|.sX iJ Z Z eD Z<|.zR<|?_
   exact y8 Z (.cell Z cY cU rfl) λW t=>⟨(_,_,H),by rw [show CX M d rec k b1=_ from by rw [CX,aA aD,aA aD,aA aD,aA aD,aA aD,aK aD]];exact ⟨.refl,kK (args:=[]) (nm:=[116,48]) aS (Rep.empty aS),hz9⟩,Z,(t.p2_1 [0] rfl)⟩
  have q74:¬ (k=7/\0<M.tables):=by rw [h74] at e74;exact aJ e74.symm
  refine .sm Z<|.yw (.eql Z Z)<|.aq Z<|.ce Z (λh85=>?_) (λh85=>?_)
  ·refine .sm Z<|.mv Z<|.yw (.add Z Z w7)<|.xs (X:=List Value × Value × Hp) Z (λW s=>hrec aD H w0 W _ b arV _ left b1 hz9  (s.p2_2 [0,1] Z)) λz91 hz91=>?_
   obtain ⟨x91,v91,H91⟩:=z91;obtain ⟨u91,r91,q91⟩:=hz91;dsimp only at u91 r91 q91|-;generalize hE91:(rec b1).1=e91 at r91;obtain ⟨op91,nm91,n91,a91⟩:=e91;obtain ⟨p91,c91,rfl,hs91,hl91⟩:=eV r91;refine .bl Z (gH _ _ _ _) Z λb92=>.yw (.build Z (oM _ _ _ _))<|.sX iE Z Z eD Z<|.zR<|?_
   refine At.pt (hd:=[_,_,_]) (tl:=bs) (hd':=[_,_,_]) [0,2,1] rfl rfl ?_;refine Sx.freezeBoxN λHf uf mf=>?_;exact y8 Z (.cell Z cY Hm rfl) λW t=>⟨(_,_,Hf),by rw [show CX M d rec k b1=_ from by rw [CX,aA aD,aA aD,aA aD,aA aD,aA aD,aA aD,aK aD],hE91];exact ⟨u91.trans uf,kK (nm:=[]) (args:=[.mk op91 nm91 n91 a91]) aS (Rep.mk (n:=1) (c:=1) mf (.single (r91.up uf.up) rfl) rfl (aY _) aS),q91.up uf.up⟩,Z,t.drop⟩
  exact .sk<|.bN<|.tN<|.me () trivial ⟨Z,Z,Z,Jt⟩ (λ_ s=>s) aD
 obtain ⟨hc1,hc2,hc3,hc4,hc5,hc6,hc7⟩:=hC;refine .sr<|.bl Z (ZP _ _ _ _ _ _) Z λb94=>.mv Z<|.xs (X:=Value) Z (λW s=>pZ 6 aS hz9  (s.p3_3 [1,0,2] Z)) λz96 hz96=>.yw (.indexSl yR Z Z (i:=(cC b1 6).1) Z (by have:=mQ b1 (n:=6) aS;omega) (q:=(cC b1 6).1) aD)<|.yw (.load (v:=.int .i64 (([14,15,11,12,13,14]:List UInt8).getD (cC b1 6).1 14).toNat) Z bQ cU (cF8 (mQ b1 (n:=6) aS)))<|.a Z Z<|.ns<|.mv Z<|.mv Z<|.yw (.add Z Z w7)<|.xs (X:=List Value × Value × Hp) Z (λW s=>hrec aD H w0 W _ b arV _ left (cC b1 6).2 hz96  (s.p3_3 [0,1,2] Z)) λz102 hz102=>?_
 obtain ⟨x102,v102,H102⟩:=z102;obtain ⟨u102,r102,q102⟩:=hz102;dsimp only at u102 r102 q102|-;generalize hE102:(rec (cC b1 6).2).1=e102 at r102;obtain ⟨op102,nm102,n102,a102⟩:=e102;obtain ⟨p102,c102,rfl,hs102,hl102⟩:=eV r102;refine .al gX Z λb7=>.sX .head Z Z eD Z<|.nt<|.sq<|.fL 8 [(0,0),(1,0),(2,0),(3,0),(4,0),(5,3),(6,1),(7,0)]<|.mv Z<|.yw (.loadW Z cY Hm Z)<|.mv Z<|.mv Z<|.yw (.add Z Z w7)<|.x3 (X:=List Value × Value × Hp) Z (λW s=>hrec aD H102 w0 W _ b arV _ left (rec (cC b1 6).2).2 q102  (s.p4_4 [1,0,2,3] Z)) (λz108 hz108=>(.d3<|.yv (.loadW Z cY cU Z)<|.yv (.move Z)<|.nl)) λz108 hz108=>?_
 obtain ⟨x108,v108,H108⟩:=z108;obtain ⟨u108,r108,q108⟩:=hz108;dsimp only at u108 r108 q108|-;generalize hE108:(rec (rec (cC b1 6).2).2).1=e108 at r108;obtain ⟨op108,nm108,n108,a108⟩:=e108;obtain ⟨p108,c108,rfl,hs108,hl108⟩:=eV r108;refine .bl Z (vP _ _ _ _ _ _ _ _) Z λb109=>.yw (.build Z (oM _ _ _ _))<|.fn (tl:=[_]) Z<|.sX QD Z Z eD Z<|.nt<|.rt<|?_
 refine At.pt (hd:=[_,_,_,_,_]) (tl:=bs) (hd':=[_,_,_]) [0,4,1] rfl rfl ?_;refine Sx.freezeBoxN λHf uf mf=>?_;exact y8 Z (.cell Z cY Hm rfl) λW t=>⟨(_,_,Hf),by rw [show CX M d rec k b1=_ from by rw [CX,aA aD,aA aD,aA aD,aA aD,aA aD,aA aD,aA aD],hE102,hE108];exact ⟨(u102.trans u108).trans uf,kK (nm:=[]) (args:=[.mk op102 nm102 n102 a102,.mk op108 nm108 n108 a108]) aS (Rep.mk (n:=2) (c:=2) mf (dT.app (dT.single ((r102.up u108.up).up uf.up) rfl) (dT.single (r108.up uf.up) rfl)) rfl (aY _) aS),q108.up uf.up⟩,Z,t.drop⟩
theorem uN (M:Mk) (hM:okM M):∀ f,f<=3->bO6 (qK M f) M (3 - f)
 | 0,_=>KY M hM 3 aD _ (λh=>by omega)
 | f+1,hf=>by
  have e:3 - (f+1)=2 - f:=aD
  rw [e];refine KY M hM (2 - f) aD (qK M f) λ_=>?_;rw [show 2 - f+1=3 - f by omega];exact uN M hM f aD
variable {w0 W:World} {bs:List Res} {b:Nat} {M:Mk}
theorem tT {arV bv:Value} {left:Int} {by_:Bs} (hM:okM M) (n:Nat) (hn:n<=100) (hb:Rep H (.seq 1 ((by_).map dU8)) [bv]) (s:St H w0 (.box b (mkC M arV bv left) 133::bs) W) :
 Calls prg 184 #[.pointer (dI b),iN n] W λe W'=>∃ z:Value × Value × Hp,(HUp w0 H z.2.2/\(∃ xs,dT z.2.2 4 ((AJ M n by_).1.map (dEx .i64)) xs/\uS z.2.2 z.1 n xs/\(AJ M n by_).1.length=n)/\Rep z.2.2 (.seq 1 (((AJ M n by_).2).map dU8)) [z.2.1])/\e=.returned z.1/\St z.2.2 w0 (.box b (mkC M arV z.2.1 left) 133::bs) W':=by
 refine iB func184 rfl ntmps184 rfl s ?_;refine .sr<|.a Z Z<|.ns<|.a Z Z<|?_
 refine Sx.row0 83 4 ?_;refine .nt<|.sq<|.sr<|.aq Z<|.bk<|.lp (X:=Nat × Hp × Value × List Value × Value) [(0,_),(1,_)] ⟨Z,Z,Jt⟩ (bs) (λz=>[(5,z.2.2.1),(6,iN z.1)]) (λz=>z.2.1) (λz=>[.row 83 4 z.2.2.1 z.1 z.2.2.2.1,.box b (mkC M arV z.2.2.2.2 left) 133]) (λz=>z.1<=n/\HUp w0 H z.2.1/\∃ (es:List Ex) (b1:Bs),es.length=z.1/\dT z.2.1 4 (es.map (dEx .i64)) z.2.2.2.1/\Rep z.2.1 (.seq 1 ((b1).map dU8)) [z.2.2.2.2]/\AJ M n by_=(es++(AJ M (n - z.1) b1).1,(AJ M (n - z.1) b1).2)) (λz=>n - z.1) (0,H,cL,[],bv) (λ_ s=>s) ⟨Z,Z,Jt⟩ ⟨by dsimp only;omega,.refl,[],by_,Z,dT.nil,hb,Z⟩ λz hC=>?_
 obtain ⟨k,H1,r,xs,bv⟩:=z;dsimp only at hC|-;obtain ⟨hk0,u1,es,b1,hlen,hz,hb1,heq⟩:=hC;refine .sq<|.sm Z<|.mv Z<|.yw (.lss Z Z)<|.nt<|.ce Z (λh9=>?_) (λh9=>?_)
 ·have hk:k<n:=aD
  refine .sk<|.tN<|.sq<|.bk<|.rg<|.mv Z<|.mv Z<|.xs (X:=List Value × Value × Hp) Z (λW s=>uN M hM 2 aS H1 w0 W _ b arV _ left b1 hb1  (s.p2_2 [1,0] Z)) λz14 hz14=>?_
  obtain ⟨x14,v14,H14⟩:=z14;obtain ⟨u14,r14,q14⟩:=hz14;dsimp only at u14 r14 q14|-;generalize hE14:(qK M 2 b1).1=e14 at r14;obtain ⟨op14,nm14,n14,a14⟩:=e14;obtain ⟨p14,c14,rfl,hs14,hl14⟩:=eV r14;exact .bl Z (gH _ _ _ _) Z λb15=>.ap (news:=[.int .i64 op14.toNat,bJ nm14,.int .i64 n14.toInt,.slice p14 a14.length c14]) AU Z (λ_=>iE) Z (.box Hm z0) Z (by simp [Value.oneCell',bJ]) (by simp [maxLen];omega) aD Z λr16 _=>.a Z Z<|.nl<|.bN<|.tN<|.rg<|.mv Z<|.yw (.add Z Z w7)<|.aq Z<|.ag (x:=(k,H1,r,xs,bv)) (k+1,H14,r16,xs++[.int .i64 op14.toNat,bJ nm14,.int .i64 n14.toInt,.slice p14 a14.length c14],v14) ⟨Z,Z,Jt⟩ ⟨Z,Z,Jt⟩ (λ_ s=>(s.p3_2 [2,1] Z)) ⟨by dsimp only;omega,u1.trans u14,es++[.mk op14 nm14 n14 a14],(qK M 2 b1).2,by simp;omega,by dsimp only;rw [bI];exact (hz.up u14.up).snoc r14 Z,q14,by dsimp only;rw [heq,show n - k=(n - (k+1))+1 by omega,AJ,hE14,aV];rfl⟩ (by dsimp only;omega)
 obtain rfl:k=n:=aD
 rw [hZ,AJ,eL] at heq;refine .ex<|.eb<|.sm Z<|.az Z<|?_
 refine At.pt (hd:=[_,_]) (tl:=bs) (hd':=[_,_]) [0,1] rfl rfl ?_;refine Sx.freezeAt λH3 u3 hs3=>?_;exact y9 Z Z λW t=>⟨(r,bv,H3),by rw [heq];exact ⟨u1.trans u3,⟨xs,hz.up u3.up,hs3,hlen⟩,hb1.up u3.up⟩,Z,t⟩
theorem FV:dU prg 133 2=some 2:=by kernel_rfl
def bO2 (rec:Bs->Ex × Bs) (M:Mk) (d:Nat):Prop:=∀ (H:Hp) (w0 W:World) (bs:List Res) (b:Nat) (arV bv:Value) (left:Int) (by_:Bs),Rep H (.seq 1 ((by_).map dU8)) [bv]->St H w0 (.box b (mkC M arV bv left) 133::bs) W ->
 Calls prg 182 #[.pointer (some ⟨b,0,none⟩),iN d] W λe W'=>∃ z:List Value × Value × Hp,(HUp w0 H z.2.2/\Rep z.2.2 (dEx .i64 (rec by_).1) z.1/\Rep z.2.2 (.seq 1 (((rec by_).2).map dU8)) [z.2.1])/\e=.returned (.agg z.1.toArray)/\St z.2.2 w0 (.box b (mkC M arV z.2.1 left) 133::bs) W'
theorem op2 (h:n<2):(((2+UInt8.ofNat n).toNat:Nat):Int)=2+(n:Int):=by
 have key:∀ i∈List.range 2,(2+UInt8.ofNat i).toNat=2+i:=aS
 have:=key n (bZ.2 h);omega
theorem cG0 (h:n<10):(((16+UInt8.ofNat n).toNat:Nat):Int)=16+(n:Int):=by
 have key:∀ i∈List.range 10,(16+UInt8.ofNat i).toNat=16+i:=aS
 have:=key n (bZ.2 h);omega
theorem NI (M:Mk) (hM:okM M) (d:Nat) (hd:d<=2) (rec:Bs->Ex × Bs) (hrec:d<=1->bO2 rec M (d+1)):bO2 (bQ8 M d rec) M d:=by
 intro H w0 W bs b arV bv left by_ hb s;unfold bQ8;refine iB func182 rfl ntmps182 rfl s ?_;refine .sr<|.al gX Z λb4=>.ns<|.mv Z<|.xs (X:=Value) Z (λW s=>pZ 10 aS hb  (s.p2_2 [1,0] Z)) λz10 hz10=>?_
 have hk12:=mQ by_ (n:=10) aS;generalize (cC by_ 10).1=k at hk12|-;generalize (cC by_ 10).2=b1 at hz10|-;refine .aq Z<|.cu (X:=Unit) [(0,_),(4,_)] ⟨Z,Z,Jt⟩ (λz=>[]) (λz=>H) (λz=>(.box b (mkC M arV z10 left) 133::.box b4 [.int .i64 0,dV,.int .i64 0,cL] 83::bs)) (λz=>¬ k=0/\¬ (k=1\/(1<d/\4<k))/\¬ (k=2/\0<M.flags)/\¬ (k=3/\0<M.tables)/\¬ k=5/\¬ (k=6\/k=7)) ?_ λz hC=>?_
 ·
  refine .bk<|.sm Z<|.yw (.eql Z Z)<|.aq Z<|.ce Z (λh11=>?_) (λh11=>?_)
  ·refine .sm Z<|.xs (X:=Value) Z (λW s=>pZ 2 aS hz10  (s.p2_2 [0,1] Z)) λz15 hz15=>.yw (.add Z Z (c:=(((2+UInt8.ofNat (cC b1 2).1).toNat:Nat):Int)) (by have:=mQ b1 (n:=2) aS;rw [op2 this];exact (w6 aD).trans aD))<|.yw (.build Z (HD _))<|.sX iJ Z Z eD Z<|.zR<|?_
   exact y8 Z (.cell Z cY cU rfl) λW t=>⟨(_,_,H),by rw [show GF M d rec k b1=_ from by rw [GF,aK aD]];exact ⟨.refl,kK (args:=[]) (nm:=[]) aS (Rep.empty aS),hz15⟩,Z,(t.p2_1 [0] rfl)⟩
  refine .cu (X:=Bool) [(0,_),(1,_),(4,_),(5,_)] ⟨Z,Z,Z,Z,Jt⟩ (λz=>[(18,.bool z)]) (λz=>H) (λz=>(.box b (mkC M arV z10 left) 133::.box b4 [.int .i64 0,dV,.int .i64 0,cL] 83::bs)) (λz=>z=decide (k=1\/(1<d/\4<k))) ?_ λz hC=>?_
  ·
   refine .rg<|.mv Z<|.yw (.eql Z Z)<|.mv Z<|.e2 (λh21=>?_) (λh21=>?_)
   ·exact .g3<|.gV<|.gV<|.gG<|.pT Z<|.aq Z<|.me _ ⟨Z,Jt⟩ ⟨Z,Z,Z,Z,Jt⟩ (λ_ s=>s) (by rw [aQ,aB];first | (rw [aB];omega) | exact ⟨λ_=>by omega,λ_=>rfl⟩ | exact ⟨λh=>(by cases h),λh=>by omega⟩)
   refine .gy (.move Z)<|.gy (.gtr Z Z)<|.gy (.move Z)<|.e2 (λh24=>?_) (λh24=>?_)
   ·exact .gy (.move Z)<|.gy (.gtr Z Z)<|.gy (.pickT Z Z)<|.pF Z<|.aq Z<|.me _ ⟨Z,Jt⟩ ⟨Z,Z,Z,Z,Jt⟩ (λ_ s=>s) (by rw [aQ,aB];first | (rw [aB];omega) | exact ⟨λ_=>by omega,λ_=>rfl⟩ | exact ⟨λh=>(by cases h),λh=>by omega⟩)
   exact .g2<|.gy (.pickF Z Z)<|.pF Z<|.aq Z<|.me _ ⟨Z,Jt⟩ ⟨Z,Z,Z,Z,Jt⟩ (λ_ s=>s) (by rw [aQ,aB];first | (rw [aB];omega) | exact ⟨λ_=>by omega,λ_=>rfl⟩ | exact ⟨λh=>(by cases h),λh=>by omega⟩)
  have e18:=hC;refine .cd Z (λh18=>?_) (λh18=>?_)
  ·have q18:k=1\/(1<d/\4<k):=by rw [h18] at e18;exact aI e18.symm
   refine .sr<|.yw (.build Z (oO _ _))<|.sX iJ Z Z eD Z<|.zR<|?_
   exact y8 Z (.cell Z cY cU rfl) λW t=>⟨(_,_,H),by rw [show GF M d rec k b1=_ from by rw [GF,aA aD,aK aD]];exact ⟨.refl,kK (args:=[]) (nm:=[98,48]) aS (Rep.empty aS),hz10⟩,Z,(t.p2_1 [0] rfl)⟩
  have q18:¬ (k=1\/(1<d/\4<k)):=by rw [h18] at e18;exact aJ e18.symm
  refine .cu (X:=Bool) [(0,_),(1,_),(4,_),(5,_)] ⟨Z,Z,Z,Z,Jt⟩ (λz=>[(30,.bool z)]) (λz=>H) (λz=>(.box b (mkC M arV z10 left) 133::.box b4 [.int .i64 0,dV,.int .i64 0,cL] 83::bs)) (λz=>z=decide (k=2/\0<M.flags)) ?_ λz hC=>?_
  ·
   refine .rg<|.mv Z<|.yw (.eql Z Z)<|.mv Z<|.e2 (λh33=>?_) (λh33=>?_)
   ·exact .gy (.move Z)<|.gy (.nilCheck Z)<|.gy (.fieldAddr Z FV)<|.gy (.load Z bQ Hm Z)<|.gy (.gtr Z Z)<|.pT Z<|.aq Z<|.me _ ⟨Z,Jt⟩ ⟨Z,Z,Z,Z,Jt⟩ (λ_ s=>s) (by rw [aQ,aB];first | (rw [aB];omega) | exact ⟨λ_=>by omega,λ_=>rfl⟩ | exact ⟨λh=>(by cases h),λh=>by omega⟩)
   exact .g4<|.gG<|.pF Z<|.aq Z<|.me _ ⟨Z,Jt⟩ ⟨Z,Z,Z,Z,Jt⟩ (λ_ s=>s) (by rw [aQ,aB];first | (rw [aB];omega) | exact ⟨λ_=>by omega,λ_=>rfl⟩ | exact ⟨λh=>(by cases h),λh=>by omega⟩)
  have e30:=hC;refine .cd Z (λh30=>?_) (λh30=>?_)
  ·have q30:k=2/\0<M.flags:=by rw [h30] at e30;exact aI e30.symm
   refine .sq<|.fL 10 [(1,0),(2,0),(3,0),(4,0),(5,0),(0,1),(6,2),(7,0),(8,0),(9,0)]<|.mv Z<|.mv Z<|.nC Z<|.fA Z FV<|.lD Z bQ Hm Z<|.xt (X:=Value) Z (λW s=>lZ H 102 2 aD W s.agr) λv40 H40 hn40 u40=>?_
   obtain ⟨pn40,cn40,e40,_⟩:=hn40.sl;simp only [bV,dL,aP,jY] at e40;subst e40;obtain ⟨bE,oE,hpE,mE⟩:=uO hn40 (k:=(cC b1 M.flags).1) (by have:=mQ b1 (n:=M.flags) aD;have:=hM.2.2.2;omega);subst hpE;refine .xs (X:=Value) Z (λW s=>pZ M.flags aD (hz10.up u40.up)  (s.p2_2 [0,1] Z)) λz46 hz46=>.yw (.indexSl fD Z Z (i:=(cC b1 M.flags).1) Z (by have:=mQ b1 (n:=M.flags) aD;have:=hM.2.2.2;omega) (q:=oE+(cC b1 M.flags).1 * 1) Z)<|.yw (.loadM Z bT mE (k:=0) Z Z)<|.yw (.build Z (oO _ _))<|.fn (tl:=[_]) Z<|.sX iJ Z Z eD Z<|.zR<|?_
   exact y8 Z (.cell Z cY cU rfl) λW t=>⟨(_,_,H40),by rw [show GF M d rec k b1=_ from by rw [GF,aA aD,aA aD,aK aD]];exact ⟨u40,kK (args:=[]) (by simp [nmB]) (Rep.empty aS),hz46⟩,Z,(t.p2_1 [0] rfl)⟩
  have q30:¬ (k=2/\0<M.flags):=by rw [h30] at e30;exact aJ e30.symm
  refine .cu (X:=Bool) [(0,_),(1,_),(4,_),(5,_)] ⟨Z,Z,Z,Z,Jt⟩ (λz=>[(50,.bool z)]) (λz=>H) (λz=>(.box b (mkC M arV z10 left) 133::.box b4 [.int .i64 0,dV,.int .i64 0,cL] 83::bs)) (λz=>z=decide (k=3/\0<M.tables)) ?_ λz hC=>?_
  ·
   refine .rg<|.mv Z<|.yw (.eql Z Z)<|.mv Z<|.e2 (λh53=>?_) (λh53=>?_)
   ·exact .gy (.move Z)<|.gy (.nilCheck Z)<|.gy (.fieldAddr Z tB)<|.gy (.load Z bQ Hm Z)<|.gy (.gtr Z Z)<|.pT Z<|.aq Z<|.me _ ⟨Z,Jt⟩ ⟨Z,Z,Z,Z,Jt⟩ (λ_ s=>s) (by rw [aQ,aB];first | (rw [aB];omega) | exact ⟨λ_=>by omega,λ_=>rfl⟩ | exact ⟨λh=>(by cases h),λh=>by omega⟩)
   exact .g4<|.gG<|.pF Z<|.aq Z<|.me _ ⟨Z,Jt⟩ ⟨Z,Z,Z,Z,Jt⟩ (λ_ s=>s) (by rw [aQ,aB];first | (rw [aB];omega) | exact ⟨λ_=>by omega,λ_=>rfl⟩ | exact ⟨λh=>(by cases h),λh=>by omega⟩)
  have e50:=hC;refine .cd Z (λh50=>?_) (λh50=>?_)
  ·have q50:k=3/\0<M.tables:=by rw [h50] at e50;exact aI e50.symm
   refine .sm Z<|.xs (X:=List Value × Value × Hp) Z (λW s=>uN M hM 2 aS H w0 W _ b arV _ left b1 hz10  (s.p2_2 [0,1] Z)) λz61 hz61=>?_
   obtain ⟨x61,v61,H61⟩:=z61;obtain ⟨u61,r61,q61⟩:=hz61;dsimp only at u61 r61 q61|-;generalize hE61:(qK M 2 b1).1=e61 at r61;obtain ⟨op61,nm61,n61,a61⟩:=e61;obtain ⟨p61,c61,rfl,hs61,hl61⟩:=eV r61;refine .bl Z (gH _ _ _ _) Z λb62=>.yw (.build Z (yV _ _ _ _ _))<|.sX iE Z Z eD Z<|.zR<|?_
   refine At.pt (hd:=[_,_,_]) (tl:=bs) (hd':=[_,_,_]) [0,2,1] rfl rfl ?_;refine Sx.freezeBoxN λHf uf mf=>?_;exact y8 Z (.cell Z cY Hm rfl) λW t=>⟨(_,_,Hf),by rw [show GF M d rec k b1=_ from by rw [GF,aA aD,aA aD,aA aD,aK aD],hE61];exact ⟨u61.trans uf,kK (nm:=[116,48]) (args:=[.mk op61 nm61 n61 a61]) aS (Rep.mk (n:=1) (c:=1) mf (.single (r61.up uf.up) rfl) rfl (aY _) aS),q61.up uf.up⟩,Z,t.drop⟩
  have q50:¬ (k=3/\0<M.tables):=by rw [h50] at e50;exact aJ e50.symm
  refine .sm Z<|.yw (.eql Z Z)<|.aq Z<|.ce Z (λh64=>?_) (λh64=>?_)
  ·refine .sm Z<|.mv Z<|.yw (.add Z Z (c:=((d+1:Nat):Int)) ((w6 aD).trans aD))<|.xs (X:=List Value × Value × Hp) Z (λW s=>hrec aD H w0 W _ b arV _ left b1 hz10  (s.p2_2 [0,1] Z)) λz70 hz70=>?_
   obtain ⟨x70,v70,H70⟩:=z70;obtain ⟨u70,r70,q70⟩:=hz70;dsimp only at u70 r70 q70|-;generalize hE70:(rec b1).1=e70 at r70;obtain ⟨op70,nm70,n70,a70⟩:=e70;obtain ⟨p70,c70,rfl,hs70,hl70⟩:=eV r70;refine .bl Z (gH _ _ _ _) Z λb71=>.yw (.build Z (oM _ _ _ _))<|.sX iE Z Z eD Z<|.zR<|?_
   refine At.pt (hd:=[_,_,_]) (tl:=bs) (hd':=[_,_,_]) [0,2,1] rfl rfl ?_;refine Sx.freezeBoxN λHf uf mf=>?_;exact y8 Z (.cell Z cY Hm rfl) λW t=>⟨(_,_,Hf),by rw [show GF M d rec k b1=_ from by rw [GF,aA aD,aA aD,aA aD,aA aD,aK aD],hE70];exact ⟨u70.trans uf,kK (nm:=[]) (args:=[.mk op70 nm70 n70 a70]) aS (Rep.mk (n:=1) (c:=1) mf (.single (r70.up uf.up) rfl) rfl (aY _) aS),q70.up uf.up⟩,Z,t.drop⟩
  refine .cu (X:=Bool) [(0,_),(1,_),(4,_),(5,_)] ⟨Z,Z,Z,Z,Jt⟩ (λz=>[(73,.bool z)]) (λz=>H) (λz=>(.box b (mkC M arV z10 left) 133::.box b4 [.int .i64 0,dV,.int .i64 0,cL] 83::bs)) (λz=>z=decide (k=6\/k=7)) ?_ λz hC=>?_
  ·
   refine .rg<|.mv Z<|.yw (.eql Z Z)<|.mv Z<|.e2 (λh76=>?_) (λh76=>?_)
   ·exact .g2<|.pT Z<|.aq Z<|.me _ ⟨Z,Jt⟩ ⟨Z,Z,Z,Z,Jt⟩ (λ_ s=>s) (by rw [aQ,aB];first | (rw [aB];omega) | exact ⟨λ_=>by omega,λ_=>rfl⟩ | exact ⟨λh=>(by cases h),λh=>by omega⟩)
   exact .gy (.move Z)<|.gy (.eql Z Z)<|.pF Z<|.aq Z<|.me _ ⟨Z,Jt⟩ ⟨Z,Z,Z,Z,Jt⟩ (λ_ s=>s) (by rw [aQ,aB];first | (rw [aB];omega) | exact ⟨λ_=>by omega,λ_=>rfl⟩ | exact ⟨λh=>(by cases h),λh=>by omega⟩)
  have e73:=hC;refine .cd Z (λh73=>?_) (λh73=>?_)
  ·have q73:k=6\/k=7:=by rw [h73] at e73;exact aI e73.symm
   refine .sm Z<|.mv Z<|.yw (.add Z Z (c:=((d+1:Nat):Int)) ((w6 aD).trans aD))<|.xs (X:=List Value × Value × Hp) Z (λW s=>hrec aD H w0 W _ b arV _ left b1 hz10  (s.p2_2 [0,1] Z)) λz83 hz83=>?_
   obtain ⟨x83,v83,H83⟩:=z83;obtain ⟨u83,r83,q83⟩:=hz83;dsimp only at u83 r83 q83|-;generalize hE83:(rec b1).1=e83 at r83;obtain ⟨op83,nm83,n83,a83⟩:=e83;obtain ⟨p83,c83,rfl,hs83,hl83⟩:=eV r83;refine .al gX Z λb6=>.sX .head Z Z eD Z<|.nt<|.sq<|.fL 9 [(0,0),(1,0),(2,0),(3,0),(4,0),(5,0),(6,3),(7,1),(8,0)]<|.mv Z<|.yw (.add Z Z (c:=(((16+UInt8.ofNat k).toNat:Nat):Int)) (by rw [cG0 hk12];exact (w6 aD).trans aD))<|.yw (.loadW Z cY Hm Z)<|.mv Z<|.mv Z<|.yw (.add Z Z (c:=((d+1:Nat):Int)) ((w6 aD).trans aD))<|.x3 (X:=List Value × Value × Hp) Z (λW s=>hrec aD H83 w0 W _ b arV _ left (rec b1).2 q83  (s.p3_3 [1,0,2] Z)) (λz90 hz90=>(.d3<|.yv (.loadW Z cY cU Z)<|.yv (.add Z Z (c:=(((16+UInt8.ofNat k).toNat:Nat):Int)) (by rw [cG0 hk12];exact (w6 aD).trans aD))<|.yv (.move Z)<|.nl)) λz90 hz90=>?_
   obtain ⟨x90,v90,H90⟩:=z90;obtain ⟨u90,r90,q90⟩:=hz90;dsimp only at u90 r90 q90|-;generalize hE90:(rec (rec b1).2).1=e90 at r90;obtain ⟨op90,nm90,n90,a90⟩:=e90;obtain ⟨p90,c90,rfl,hs90,hl90⟩:=eV r90;refine .bl Z (vP _ _ _ _ _ _ _ _) Z λb91=>.yw (.build Z (oM _ _ _ _))<|.fn (tl:=[_]) Z<|.sX lJ Z Z eD Z<|.zR<|?_
   refine At.pt (hd:=[_,_,_,_]) (tl:=bs) (hd':=[_,_,_]) [0,3,1] rfl rfl ?_;refine Sx.freezeBoxN λHf uf mf=>?_;exact y8 Z (.cell Z cY Hm rfl) λW t=>⟨(_,_,Hf),by rw [show GF M d rec k b1=_ from by rw [GF,aA aD,aA aD,aA aD,aA aD,aA aD,aK aD],hE83,hE90];exact ⟨(u83.trans u90).trans uf,kK (nm:=[]) (args:=[.mk op83 nm83 n83 a83,.mk op90 nm90 n90 a90]) aS (Rep.mk (n:=2) (c:=2) mf (dT.app (dT.single ((r83.up u90.up).up uf.up) rfl) (dT.single (r90.up uf.up) rfl)) rfl (aY _) aS),q90.up uf.up⟩,Z,t.drop⟩
  have q73:¬ (k=6\/k=7):=by rw [h73] at e73;exact aJ e73.symm
  exact .sk<|.bN<|.tN<|.me () trivial ⟨Z,Z,Jt⟩ (λ_ s=>s) aD
 obtain ⟨hc1,hc2,hc3,hc4,hc5,hc6⟩:=hC;refine .sm Z<|.xs (X:=Value) Z (λW s=>pZ 6 aS hz10  (s.p2_2 [0,1] Z)) λz94 hz94=>.yw (.add Z Z (c:=(((16+UInt8.ofNat (cC b1 6).1).toNat:Nat):Int)) (by have:=mQ b1 (n:=6) aS;rw [cG0 aD];exact (w6 aD).trans aD))<|.a Z Z<|.ns<|.mv Z<|.xs (X:=List Value × Value × Hp) Z (λW s=>uN M hM 2 aS H w0 W _ b arV _ left (cC b1 6).2 hz94  (s.p2_2 [0,1] Z)) λz97 hz97=>?_
 obtain ⟨x97,v97,H97⟩:=z97;obtain ⟨u97,r97,q97⟩:=hz97;dsimp only at u97 r97 q97|-;generalize hE97:(qK M 2 (cC b1 6).2).1=e97 at r97;obtain ⟨op97,nm97,n97,a97⟩:=e97;obtain ⟨p97,c97,rfl,hs97,hl97⟩:=eV r97;refine .al gX Z λb8=>.sX .head Z Z eD Z<|.nt<|.sq<|.fL 6 [(0,0),(1,0),(2,0),(3,3),(4,1),(5,0)]<|.mv Z<|.yw (.loadW Z cY Hm Z)<|.mv Z<|.x3 (X:=List Value × Value × Hp) Z (λW s=>uN M hM 2 aS H97 w0 W _ b arV _ left (qK M 2 (cC b1 6).2).2 q97  (s.p3_3 [1,0,2] Z)) (λz101 hz101=>(.dn<|.yv (.loadW Z cY cU Z)<|.yv (.move Z)<|.nl)) λz101 hz101=>?_
 obtain ⟨x101,v101,H101⟩:=z101;obtain ⟨u101,r101,q101⟩:=hz101;dsimp only at u101 r101 q101|-;generalize hE101:(qK M 2 (qK M 2 (cC b1 6).2).2).1=e101 at r101;obtain ⟨op101,nm101,n101,a101⟩:=e101;obtain ⟨p101,c101,rfl,hs101,hl101⟩:=eV r101;refine .bl Z (vP _ _ _ _ _ _ _ _) Z λb102=>.yw (.build Z (oM _ _ _ _))<|.fn (tl:=[_]) Z<|.sX lJ Z Z eD Z<|.nt<|.rt<|?_
 refine At.pt (hd:=[_,_,_,_]) (tl:=bs) (hd':=[_,_,_]) [0,3,1] rfl rfl ?_;refine Sx.freezeBoxN λHf uf mf=>?_;exact y8 Z (.cell Z cY Hm rfl) λW t=>⟨(_,_,Hf),by rw [show GF M d rec k b1=_ from by rw [GF,aA aD,aA aD,aA aD,aA aD,aA aD,aA aD],hE97,hE101];exact ⟨(u97.trans u101).trans uf,kK (nm:=[]) (args:=[.mk op97 nm97 n97 a97,.mk op101 nm101 n101 a101]) aS (Rep.mk (n:=2) (c:=2) mf (dT.app (dT.single ((r97.up u101.up).up uf.up) rfl) (dT.single (r101.up uf.up) rfl)) rfl (aY _) aS),q101.up uf.up⟩,Z,t.drop⟩
theorem EF (M:Mk) (hM:okM M):∀ f,f<=2->bO2 (GG M f) M (2 - f)
 | 0,_=>NI M hM 2 aD _ (λh=>by omega)
 | f+1,hf=>by
  have e:2 - (f+1)=1 - f:=aD
  rw [e];refine NI M hM (1 - f) aD (GG M f) λ_=>?_;rw [show 1 - f+1=2 - f by omega];exact EF M hM f aD
theorem xT:jI prg 123=some none:=by kernel_rfl
theorem BA:jI prg 124=some none:=by kernel_rfl
theorem jP:jI prg 228=some (some 6):=by kernel_rfl
theorem zX:dU prg 133 3=some 3:=by kernel_rfl
theorem qV:dU prg 133 4=some 4:=by kernel_rfl
theorem iS:gQ prg 228=some 6:=by kernel_rfl
theorem AS:slN prg 123=some 1:=by kernel_rfl
theorem aG7:nA prg 228=some
 [Go.Value.int Go.IntKind.i64 (Int.ofNat 0),Go.Value.string { data:={ toList:=[] } },
  Go.Value.string { data:={ toList:=[] } },Go.Value.slice none 0 0,Go.Value.slice none 0 0,
  Go.Value.slice none 0 0]:=by kernel_rfl
theorem ZU (x0:Int):eX prg 228 [(0,.int .i64 x0)]=some [.int .i64 x0,dV,dV,cL,cL,cL]:=by kernel_rfl
theorem uW (x0:Int) (x1 x2:ByteArray) (x3p:Option Addr) (x3n x3c:Nat):eX prg 228 [(0,.int .i64 x0),(1,.string x1),(2,.string x2),(3,.slice x3p x3n x3c)]=some [.int .i64 x0,.string x1,.string x2,.slice x3p x3n x3c,cL,cL]:=by kernel_rfl
theorem tJ (x0:Int) (x1:ByteArray) (x3p:Option Addr) (x3n x3c:Nat):eX prg 228 [(0,.int .i64 x0),(1,.string x1),(3,.slice x3p x3n x3c)]=some [.int .i64 x0,.string x1,dV,.slice x3p x3n x3c,cL,cL]:=by kernel_rfl
theorem zL (x0:Int) (x1:ByteArray) (x3p:Option Addr) (x3n x3c:Nat) (x5p:Option Addr) (x5n x5c:Nat):eX prg 228 [(0,.int .i64 x0),(1,.string x1),(3,.slice x3p x3n x3c),(5,.slice x5p x5n x5c)]=some [.int .i64 x0,.string x1,dV,.slice x3p x3n x3c,cL,.slice x5p x5n x5c]:=by kernel_rfl
theorem wW (x0:Int) (x2:ByteArray) (x3p:Option Addr) (x3n x3c:Nat):eX prg 228 [(0,.int .i64 x0),(2,.string x2),(3,.slice x3p x3n x3c)]=some [.int .i64 x0,dV,.string x2,.slice x3p x3n x3c,cL,cL]:=by kernel_rfl
theorem CJ (x0:Int) (x3p:Option Addr) (x3n x3c:Nat) (x4p:Option Addr) (x4n x4c:Nat):eX prg 228 [(0,.int .i64 x0),(3,.slice x3p x3n x3c),(4,.slice x4p x4n x4c)]=some [.int .i64 x0,dV,dV,.slice x3p x3n x3c,.slice x4p x4n x4c,cL]:=by kernel_rfl
theorem zK (x0:Int) (x3p:Option Addr) (x3n x3c:Nat) (x4p:Option Addr) (x4n x4c:Nat) (x5p:Option Addr) (x5n x5c:Nat):eX prg 228 [(0,.int .i64 x0),(3,.slice x3p x3n x3c),(4,.slice x4p x4n x4c),(5,.slice x5p x5n x5c)]=some [.int .i64 x0,dV,dV,.slice x3p x3n x3c,.slice x4p x4n x4c,.slice x5p x5n x5c]:=by kernel_rfl
theorem LQ (x0:Int) (x3p:Option Addr) (x3n x3c:Nat) (x5p:Option Addr) (x5n x5c:Nat):eX prg 228 [(0,.int .i64 x0),(3,.slice x3p x3n x3c),(5,.slice x5p x5n x5c)]=some [.int .i64 x0,dV,dV,.slice x3p x3n x3c,cL,.slice x5p x5n x5c]:=by kernel_rfl
theorem BZ (x0 x1 x2:ByteArray):pG prg 71 3 [(0,.string x0),(1,.string x1),(2,.string x2)]=some (9,[.string x0,.string x1,.string x2]):=by kernel_rfl
def bP9 (bd:Bs × Nat->List Sm × (Bs × Nat)) (M:Mk) (d:Nat):Prop:=∀ (H:Hp) (w0 W:World) (bs:List Res) (b:Nat) (arV bv:Value) (lf:Nat) (by_:Bs),lf<=12->Rep H (.seq 1 (M.ars.map dAr)) [arV]->Rep H (.seq 1 ((by_).map dU8)) [bv]->St H w0 (.box b (mkC M arV bv (lf:Nat)) 133::bs) W ->
 Calls prg 120 #[.pointer (some ⟨b,0,none⟩),iN d] W λe W'=>∃ z:Value × Value × Hp,(HUp w0 H z.2.2/\Rep z.2.2 (.seq 6 ((bd (by_,lf)).1.map (dSm .i64))) [z.1]/\Rep z.2.2 (.seq 1 (((bd (by_,lf)).2.1).map dU8)) [z.2.1]/\(bd (by_,lf)).2.2<=12)/\e=.returned z.1/\St z.2.2 w0 (.box b (mkC M arV z.2.1 ((bd (by_,lf)).2.2:Nat)) 133::bs) W'
def cU2 (bd:Bs × Nat->List Sm × (Bs × Nat)) (M:Mk) (d:Nat):Prop:=∀ (H:Hp) (w0 W:World) (bs:List Res) (b:Nat) (arV bv:Value) (lf:Nat) (by_:Bs) (k:Nat),lf<=12->Rep H (.seq 1 (M.ars.map dAr)) [arV]->Rep H (.seq 1 ((by_).map dU8)) [bv]->St H w0 (.box b (mkC M arV bv (lf:Nat)) 133::bs) W ->
 Calls prg 165 #[.pointer (some ⟨b,0,none⟩),iN k,iN d] W λe W'=>∃ z:List Value × Value × Hp,(HUp w0 H z.2.2/\Rep z.2.2 (dSm .i64 (iF M k d bd by_ lf).1) z.1/\Rep z.2.2 (.seq 1 (((iF M k d bd by_ lf).2.1).map dU8)) [z.2.1]/\(iF M k d bd by_ lf).2.2<=12)/\e=.returned (.agg z.1.toArray)/\St z.2.2 w0 (.box b (mkC M arV z.2.1 ((iF M k d bd by_ lf).2.2:Nat)) 133::bs) W'
def okA (M:Mk):Prop:=okM M/\0<M.ars.length/\M.ars.length<=3/\M.own<M.ars.length/\∀ l∈M.ars,0<l.length/\l.length<=3/\∀ n∈l,n<=2
variable {c:Nat}
theorem okA.len (h:okA M) (hc:c<M.ars.length):0<arL M c/\arL M c<=3:=by
 have:=h.2.2.2.2 _ (aX hc);unfold arL;rw [nY hc];exact ⟨this.1,this.2.1⟩
theorem okA.num (h:okA M) (hc:c<M.ars.length) (hk:k<arL M c):arN M c k<=2:=by
 have:=h.2.2.2.2 _ (aX hc);unfold arL at hk;unfold arN;rw [nY hc] at hk|-;rw [nY hk];exact this.2.2 _ (aX hk)
theorem bN6 {pA:Option Addr} {cA:Nat} (h:Rep H (.seq 1 (M.ars.map dAr)) [.slice pA M.ars.length cA]) (hc:c<M.ars.length):∃ b o p k,pA=some ⟨b,o,none⟩/\lW H b (o+c * 1) [.slice p (arL M c) k]/\Rep H (.seq 1 ((M.ars.getD c []).map VK)) [.slice p (arL M c) k]:=by
 obtain ⟨b,o,cs,e,r,l,m⟩:=h.elem (eR (f:=dAr) hc);unfold dAr at r;obtain ⟨p,k,rfl,_⟩:=r.sl;rw [aP] at r m;refine ⟨b,o,p,k,e,?_,?_⟩
 ·unfold arL;rw [nY hc];exact m
 ·unfold arL;rw [nY hc];exact r
variable {p:Option Addr} {j:Nat}
theorem aG2 (h:Rep H (.seq 1 ((M.ars.getD c []).map VK)) [.slice p (arL M c) k]) (hj:j<arL M c):∃ b o,p=some ⟨b,o,none⟩/\lW H b (o+j * 1) [iN (arN M c j)]:=by
 unfold arL at hj;obtain ⟨b,o,cs,e,r,l,m⟩:=h.elem (eR (f:=VK) hj);unfold VK Rep at r;obtain ⟨rfl,_⟩:=r;refine ⟨b,o,e,?_⟩;unfold arN;rw [nY hj];exact m
theorem DY (h:c<3):[bJ [97],bJ [98],bJ [99]][c]? = some (bJ [UInt8.ofNat (97+c)]):=by
 match c,h with
 | 0,_=>rfl
 | 1,_=>rfl
 | 2,_=>rfl
set_option maxHeartbeats 1000000 in
theorem RK (M:Mk) (hM:okA M) (d:Nat) (hd:d<=3) (bd:Bs × Nat->List Sm × (Bs × Nat)) (hbd:d<3->bP9 bd M (d+1)):cU2 bd M d:=by
 intro H w0 W bs b arV bv lf by_ k hlf hAr hb s;obtain ⟨pA,cA,eA,_⟩:=hAr.sl;simp only [bV,dL,aP] at eA;subst eA;rw [<-aP (f:=dAr)] at hAr;rw [aP] at hAr;have hcapA:=hAr.cap;refine iB func165 rfl ntmps165 rfl s ?_;refine .sr<|.al aG7 Z λb6=>.nt<|.cu (X:=Value) [(0,_),(6,_)] ⟨Z,Z,Jt⟩ (λz=>[]) (λz=>H) (λz=>(.box b (mkC M (.slice pA M.ars.length cA) z (lf:Nat)) 133::.box b6 [.int .i64 0,dV,dV,cL,cL,cL] 228::bs)) (λz=>Rep H (.seq 1 ((if k=12 then (cC by_ 3).2 else by_).map dU8)) [z]/\¬ k=2/\¬ (k=3/\0<M.tables)/\¬ (k=4/\0<M.tables)/\¬ ((k=5\/k=6)/\d<3)/\¬ (k=7/\d<2)/\¬ (k=8\/k=9)/\¬ k=10/\¬ (k=11/\d<3)/\¬ (k=12/\(cC by_ 3).1=0)) ?_ λz hC=>?_
 ·
  refine .bk<|.sm Z<|.yw (.eql Z Z)<|.aq Z<|.ce Z (λh18=>?_) (λh18=>?_)
  ·refine .sm Z<|.xs (X:=List Value × Value × Hp) Z (λW s=>EF M hM.1 2 aS H w0 W _ b _ _ _ by_ hb  (s.p2_2 [1,0] Z)) λz22 hz22=>?_
   obtain ⟨x22,v22,H22⟩:=z22;obtain ⟨u22,r22,q22⟩:=hz22;dsimp only at u22 r22 q22|-;generalize hE22:(GG M 2 by_).1=e22 at r22;obtain ⟨op22,nm22,n22,a22⟩:=e22;obtain ⟨p22,c22,rfl,hs22,hl22⟩:=eV r22;refine .bl Z (gH _ _ _ _) Z λb23=>.yw (.build Z (tJ _ _ _ _ _))<|.sX iE Z Z iS Z<|.zR<|?_
   refine At.pt (hd:=[_,_,_]) (tl:=bs) (hd':=[_,_,_]) [0,2,1] rfl rfl ?_;refine Sx.freezeBoxN λHf uf mf=>?_;exact y8 Z (.cell Z jP Hm rfl) λW t=>⟨(_,_,Hf),by rw [show iF M k d bd by_ lf=_ from by rw [iF,aK aD],hE22];exact ⟨u22.trans uf,nL (kd:=1) (nm:=[98,48]) (hd:=[]) (ex:=[.mk op22 nm22 n22 a22]) (th:=[]) (el:=[]) (by first | decide | simp [nmB]) (by first | decide | simp [nmB]) (Rep.mk (n:=1) (c:=1) mf (.single ((r22).up uf.up) rfl) rfl (aY _) aS) (Rep.empty aS) (Rep.empty aS),q22.up uf.up,hlf⟩,Z,by rw [show iF M k d bd by_ lf=_ from by rw [iF,aK aD],hE22];exact t.drop⟩
  refine .cu (X:=Bool) [(0,_),(1,_),(2,_),(6,_)] ⟨Z,Z,Z,Z,Jt⟩ (λz=>[(25,.bool z)]) (λz=>H) (λz=>(.box b (mkC M (.slice pA M.ars.length cA) bv (lf:Nat)) 133::.box b6 [.int .i64 0,dV,dV,cL,cL,cL] 228::bs)) (λz=>z=decide (k=3/\0<M.tables)) ?_ λz hC=>?_
  ·
   refine .rg<|.mv Z<|.yw (.eql Z Z)<|.mv Z<|.e2 (λh28=>?_) (λh28=>?_)
   ·exact .gy (.move Z)<|.gy (.nilCheck Z)<|.gy (.fieldAddr Z tB)<|.gy (.load Z bQ cU Z)<|.gy (.gtr Z Z)<|.pT Z<|.aq Z<|.me _ ⟨Z,Jt⟩ ⟨Z,Z,Z,Z,Jt⟩ (λ_ s=>(s.p2_2 [1,0] Z)) (by rw [aQ,aB];first | (rw [aB];omega) | exact ⟨λ_=>by omega,λ_=>rfl⟩ | exact ⟨λh=>(by cases h),λh=>by omega⟩)
   exact .g4<|.gG<|.pF Z<|.aq Z<|.me _ ⟨Z,Jt⟩ ⟨Z,Z,Z,Z,Jt⟩ (λ_ s=>(s.p2_2 [1,0] Z)) (by rw [aQ,aB];first | (rw [aB];omega) | exact ⟨λ_=>by omega,λ_=>rfl⟩ | exact ⟨λh=>(by cases h),λh=>by omega⟩)
  have e25:=hC;refine .cd Z (λh25=>?_) (λh25=>?_)
  ·have q25:k=3/\0<M.tables:=by rw [h25] at e25;exact aI e25.symm
   refine .sm Z<|.xs (X:=List Value × Value × Hp) Z (λW s=>uN M hM.1 3 aS H w0 W _ b _ _ _ by_ hb  (s.p2_2 [0,1] Z)) λz36 hz36=>?_
   obtain ⟨x36,v36,H36⟩:=z36;obtain ⟨u36,r36,q36⟩:=hz36;dsimp only at u36 r36 q36|-;generalize hE36:(qK M 3 by_).1=e36 at r36;obtain ⟨op36,nm36,n36,a36⟩:=e36;obtain ⟨p36,c36,rfl,hs36,hl36⟩:=eV r36;refine .mv Z<|.xs (X:=List Value × Value × Hp) Z (λW s=>uN M hM.1 3 aS H36 w0 W _ b _ _ _ _ q36  (s.p2_2 [0,1] Z)) λz38 hz38=>?_
   obtain ⟨x38,v38,H38⟩:=z38;obtain ⟨u38,r38,q38⟩:=hz38;dsimp only at u38 r38 q38|-;generalize hE38:(qK M 3 (qK M 3 by_).2).1=e38 at r38;obtain ⟨op38,nm38,n38,a38⟩:=e38;obtain ⟨p38,c38,rfl,hs38,hl38⟩:=eV r38;refine .bl Z (vP _ _ _ _ _ _ _ _) Z λb39=>.yw (.build Z (tJ _ _ _ _ _))<|.sX iE Z Z iS Z<|.zR<|?_
   refine At.pt (hd:=[_,_,_]) (tl:=bs) (hd':=[_,_,_]) [0,2,1] rfl rfl ?_;refine Sx.freezeBoxN λHf uf mf=>?_;exact y8 Z (.cell Z jP Hm rfl) λW t=>⟨(_,_,Hf),by rw [show iF M k d bd by_ lf=_ from by rw [iF,aA aD,aK aD],hE36,hE38];exact ⟨(u36.trans u38).trans uf,nL (kd:=2) (nm:=[116,48]) (hd:=[]) (ex:=[.mk op36 nm36 n36 a36,.mk op38 nm38 n38 a38]) (th:=[]) (el:=[]) (by first | decide | simp [nmB]) (by first | decide | simp [nmB]) (Rep.mk (n:=2) (c:=2) mf (dT.app (dT.single ((r36.up u38.up).up uf.up) rfl) (dT.single (r38.up uf.up) rfl)) rfl (aY _) aS) (Rep.empty aS) (Rep.empty aS),q38.up uf.up,hlf⟩,Z,by rw [show iF M k d bd by_ lf=_ from by rw [iF,aA aD,aK aD],hE36,hE38];exact t.drop⟩
  have q25:¬ (k=3/\0<M.tables):=by rw [h25] at e25;exact aJ e25.symm
  refine .cu (X:=Bool) [(0,_),(1,_),(2,_),(6,_)] ⟨Z,Z,Z,Z,Jt⟩ (λz=>[(41,.bool z)]) (λz=>H) (λz=>(.box b (mkC M (.slice pA M.ars.length cA) bv (lf:Nat)) 133::.box b6 [.int .i64 0,dV,dV,cL,cL,cL] 228::bs)) (λz=>z=decide (k=4/\0<M.tables)) ?_ λz hC=>?_
  ·
   refine .rg<|.mv Z<|.yw (.eql Z Z)<|.mv Z<|.e2 (λh44=>?_) (λh44=>?_)
   ·exact .gy (.move Z)<|.gy (.nilCheck Z)<|.gy (.fieldAddr Z tB)<|.gy (.load Z bQ Hm Z)<|.gy (.gtr Z Z)<|.pT Z<|.aq Z<|.me _ ⟨Z,Jt⟩ ⟨Z,Z,Z,Z,Jt⟩ (λ_ s=>s) (by rw [aQ,aB];first | (rw [aB];omega) | exact ⟨λ_=>by omega,λ_=>rfl⟩ | exact ⟨λh=>(by cases h),λh=>by omega⟩)
   exact .g4<|.gG<|.pF Z<|.aq Z<|.me _ ⟨Z,Jt⟩ ⟨Z,Z,Z,Z,Jt⟩ (λ_ s=>s) (by rw [aQ,aB];first | (rw [aB];omega) | exact ⟨λ_=>by omega,λ_=>rfl⟩ | exact ⟨λh=>(by cases h),λh=>by omega⟩)
  have e41:=hC;refine .cd Z (λh41=>?_) (λh41=>?_)
  ·have q41:k=4/\0<M.tables:=by rw [h41] at e41;exact aI e41.symm
   refine .sm Z<|.xs (X:=List Value × Value × Hp) Z (λW s=>uN M hM.1 3 aS H w0 W _ b _ _ _ by_ hb  (s.p2_2 [0,1] Z)) λz52 hz52=>?_
   obtain ⟨x52,v52,H52⟩:=z52;obtain ⟨u52,r52,q52⟩:=hz52;dsimp only at u52 r52 q52|-;generalize hE52:(qK M 3 by_).1=e52 at r52;obtain ⟨op52,nm52,n52,a52⟩:=e52;obtain ⟨p52,c52,rfl,hs52,hl52⟩:=eV r52;refine .bl Z (gH _ _ _ _) Z λb53=>.yw (.build Z (tJ _ _ _ _ _))<|.sX iE Z Z iS Z<|.zR<|?_
   refine At.pt (hd:=[_,_,_]) (tl:=bs) (hd':=[_,_,_]) [0,2,1] rfl rfl ?_;refine Sx.freezeBoxN λHf uf mf=>?_;exact y8 Z (.cell Z jP Hm rfl) λW t=>⟨(_,_,Hf),by rw [show iF M k d bd by_ lf=_ from by rw [iF,aA aD,aA aD,aK aD],hE52];exact ⟨u52.trans uf,nL (kd:=3) (nm:=[116,48]) (hd:=[]) (ex:=[.mk op52 nm52 n52 a52]) (th:=[]) (el:=[]) (by first | decide | simp [nmB]) (by first | decide | simp [nmB]) (Rep.mk (n:=1) (c:=1) mf (.single ((r52).up uf.up) rfl) rfl (aY _) aS) (Rep.empty aS) (Rep.empty aS),q52.up uf.up,hlf⟩,Z,by rw [show iF M k d bd by_ lf=_ from by rw [iF,aA aD,aA aD,aK aD],hE52];exact t.drop⟩
  have q41:¬ (k=4/\0<M.tables):=by rw [h41] at e41;exact aJ e41.symm
  refine .cu (X:=Bool) [(0,_),(1,_),(2,_),(6,_)] ⟨Z,Z,Z,Z,Jt⟩ (λz=>[(55,.bool z)]) (λz=>H) (λz=>(.box b (mkC M (.slice pA M.ars.length cA) bv (lf:Nat)) 133::.box b6 [.int .i64 0,dV,dV,cL,cL,cL] 228::bs)) (λz=>z=decide ((k=5\/k=6)/\d<3)) ?_ λz hC=>?_
  ·
   refine .rg<|.mv Z<|.yw (.eql Z Z)<|.mv Z<|.e2 (λh58=>?_) (λh58=>?_)
   ·exact .g2<|.pT Z<|.mv Z<|.gy (.move Z)<|.gy (.lss Z Z)<|.pT Z<|.aq Z<|.me _ ⟨Z,Jt⟩ ⟨Z,Z,Z,Z,Jt⟩ (λ_ s=>s) (by rw [aQ,aB];first | (rw [aB];omega) | exact ⟨λ_=>by omega,λ_=>rfl⟩ | exact ⟨λh=>(by cases h),λh=>by omega⟩)
   refine .gy (.move Z)<|.gy (.eql Z Z)<|.pF Z<|.mv Z<|.e2 (λh62=>?_) (λh62=>?_)
   ·exact .gy (.move Z)<|.gy (.lss Z Z)<|.pT Z<|.aq Z<|.me _ ⟨Z,Jt⟩ ⟨Z,Z,Z,Z,Jt⟩ (λ_ s=>s) (by rw [aQ,aB];first | (rw [aB];omega) | exact ⟨λ_=>by omega,λ_=>rfl⟩ | exact ⟨λh=>(by cases h),λh=>by omega⟩)
   exact .g2<|.pF Z<|.aq Z<|.me _ ⟨Z,Jt⟩ ⟨Z,Z,Z,Z,Jt⟩ (λ_ s=>s) (by rw [aQ,aB];first | (rw [aB];omega) | exact ⟨λ_=>by omega,λ_=>rfl⟩ | exact ⟨λh=>(by cases h),λh=>by omega⟩)
  have e55:=hC;refine .cd Z (λh55=>?_) (λh55=>?_)
  ·have q55:(k=5\/k=6)/\d<3:=by rw [h55] at e55;exact aI e55.symm
   refine .sm Z<|.xs (X:=List Value × Value × Hp) Z (λW s=>EF M hM.1 2 aS H w0 W _ b _ _ _ by_ hb  (s.p2_2 [0,1] Z)) λz67 hz67=>?_
   obtain ⟨x67,v67,H67⟩:=z67;obtain ⟨u67,r67,q67⟩:=hz67;dsimp only at u67 r67 q67|-;generalize hE67:(GG M 2 by_).1=e67 at r67;obtain ⟨op67,nm67,n67,a67⟩:=e67;obtain ⟨p67,c67,rfl,hs67,hl67⟩:=eV r67;refine .al gX Z λb7=>.sX .head Z Z eD Z<|.ns<|.mv Z<|.mv Z<|.yw (.add Z Z (c:=((d+1:Nat):Int)) ((w6 aD).trans aD))<|.xs (X:=Value × Value × Hp) Z (λW s=>hbd aD H67 w0 W _ b _ _ lf _ hlf (hAr.up u67.up) q67  (s.p3_3 [1,0,2] Z)) λz71 hz71=>?_
   obtain ⟨x71,v71,H71⟩:=z71;obtain ⟨u71,r71,q71,l71⟩:=hz71;dsimp only at u71 r71 q71|-;obtain ⟨pb71,cb71,eb71,_⟩:=r71.sl;simp only [bV,dL,aP] at eb71;subst eb71;refine .aq Z<|.sq<|.ft (p:=.light _ _ (.light _ _ (.light _ _ (.light _ _ (.light _ _ (.alt _ _ _ (.alt _ _ _ (.light _ _ (.done)) (.no)) (.alt _ _ _ (.alt _ _ _ (.light _ _ (.done)) (.no)) (.no)))))))) 8 (.light 0 (.light 2 (.light 3 (.light 4 (.light 5 (.alt 1 0 (.alt 6 2 (.light 7 (.done)) (.no)) (.alt 6 2 (.alt 1 0 (.light 7 (.done)) (.no)) (.no)))))))) fT fT Z<|.yw (.loadW Z cY cU Z)<|.mv Z<|.mv Z<|.mv Z<|.yw (.add Z Z (c:=((d+1:Nat):Int)) ((w6 aD).trans aD))<|.h ?_ (.h ?_ .nn)
   ·
    refine .bl Z (gH _ _ _ _) Z λb73=>.h1<|.x3 (X:=Value × Value × Hp) Z (λW s=>hbd aD H71 w0 W _ b _ _ _ _ l71 (hAr.up (u67.trans u71).up) q71  (s.p4_4 [1,0,2,3] Z)) (λz78 hz78=>(.d3<|.yv (.move Z)<|.yv (.loadW Z cY iG Z)<|.nl)) λz78 hz78=>?_
    obtain ⟨x78,v78,H78⟩:=z78;obtain ⟨u78,r78,q78,l78⟩:=hz78;dsimp only at u78 r78 q78|-;obtain ⟨pb78,cb78,eb78,_⟩:=r78.sl;simp only [bV,dL,aP] at eb78;subst eb78;refine .yw (.build Z (zK _ _ _ _ _ _ _ _ _ _))<|.fn (tl:=[_]) Z<|.sX lJ Z Z iS Z<|.zR<|?_
    refine At.pt (hd:=[_,_,_,_]) (tl:=bs) (hd':=[_,_,_]) [1,3,0] rfl rfl ?_;refine Sx.freezeBoxN λHf uf mf=>?_;exact y8 Z (.cell Z jP Hm rfl) λW t=>⟨(_,_,Hf),by rw [show iF M k d bd by_ lf=_ from by rw [iF,aA aD,aA aD,aA aD,aK aD],hE67];exact ⟨(u67.trans (u71.trans u78)).trans uf,nL (kd:=4) (nm:=[]) (hd:=[]) (ex:=[.mk op67 nm67 n67 a67]) (th:=_) (el:=_) (by first | decide | simp [nmB]) (by first | decide | simp [nmB]) (Rep.mk (n:=1) (c:=1) mf (.single ((r67.up (u71.trans u78).up).up uf.up) rfl) rfl (aY _) aS) ((r71.up u78.up).up uf.up) (r78.up uf.up),q78.up uf.up,l78⟩,Z,by rw [show iF M k d bd by_ lf=_ from by rw [iF,aA aD,aA aD,aA aD,aK aD],hE67];exact t.drop⟩
   refine .x3 (X:=Value × Value × Hp) Z (λW s=>hbd aD H71 w0 W _ b _ _ _ _ l71 (hAr.up (u67.trans u71).up) q71  (s.p3_3 [0,1,2] Z)) (λz78 hz78=>(.d3<|.yv (.move Z)<|.yv (.loadW Z cY cU Z)<|.nl)) λz78 hz78=>?_;obtain ⟨x78,v78,H78⟩:=z78;obtain ⟨u78,r78,q78,l78⟩:=hz78;dsimp only at u78 r78 q78|-;obtain ⟨pb78,cb78,eb78,_⟩:=r78.sl;simp only [bV,dL,aP] at eb78;subst eb78;refine .h1<|.bl Z (gH _ _ _ _) Z λb73=>.yw (.build Z (zK _ _ _ _ _ _ _ _ _ _))<|.fn (tl:=[_]) Z<|.sX lJ Z Z iS Z<|.zR<|?_
   refine At.pt (hd:=[_,_,_,_]) (tl:=bs) (hd':=[_,_,_]) [0,3,1] rfl rfl ?_;refine Sx.freezeBoxN λHf uf mf=>?_;exact y8 Z (.cell Z jP Hm rfl) λW t=>⟨(_,_,Hf),by rw [show iF M k d bd by_ lf=_ from by rw [iF,aA aD,aA aD,aA aD,aK aD],hE67];exact ⟨(u67.trans (u71.trans u78)).trans uf,nL (kd:=4) (nm:=[]) (hd:=[]) (ex:=[.mk op67 nm67 n67 a67]) (th:=_) (el:=_) (by first | decide | simp [nmB]) (by first | decide | simp [nmB]) (Rep.mk (n:=1) (c:=1) mf (.single ((r67.up (u71.trans u78).up).up uf.up) rfl) rfl (aY _) aS) ((r71.up u78.up).up uf.up) (r78.up uf.up),q78.up uf.up,l78⟩,Z,by rw [show iF M k d bd by_ lf=_ from by rw [iF,aA aD,aA aD,aA aD,aK aD],hE67];exact t.drop⟩
  have q55:¬ ((k=5\/k=6)/\d<3):=by rw [h55] at e55;exact aJ e55.symm
  refine .cu (X:=Bool) [(0,_),(1,_),(2,_),(6,_)] ⟨Z,Z,Z,Z,Jt⟩ (λz=>[(80,.bool z)]) (λz=>H) (λz=>(.box b (mkC M (.slice pA M.ars.length cA) bv (lf:Nat)) 133::.box b6 [.int .i64 0,dV,dV,cL,cL,cL] 228::bs)) (λz=>z=decide (k=7/\d<2)) ?_ λz hC=>?_
  ·
   refine .rg<|.mv Z<|.yw (.eql Z Z)<|.mv Z<|.e2 (λh83=>?_) (λh83=>?_)
   ·exact .gy (.move Z)<|.gy (.lss Z Z)<|.pT Z<|.aq Z<|.me _ ⟨Z,Jt⟩ ⟨Z,Z,Z,Z,Jt⟩ (λ_ s=>s) (by rw [aQ,aB];first | (rw [aB];omega) | exact ⟨λ_=>by omega,λ_=>rfl⟩ | exact ⟨λh=>(by cases h),λh=>by omega⟩)
   exact .g2<|.pF Z<|.aq Z<|.me _ ⟨Z,Jt⟩ ⟨Z,Z,Z,Z,Jt⟩ (λ_ s=>s) (by rw [aQ,aB];first | (rw [aB];omega) | exact ⟨λ_=>by omega,λ_=>rfl⟩ | exact ⟨λh=>(by cases h),λh=>by omega⟩)
  have e80:=hC;refine .cd Z (λh80=>?_) (λh80=>?_)
  ·have q80:k=7/\d<2:=by rw [h80] at e80;exact aI e80.symm
   refine .sm Z<|.xs (X:=List Value × Value × Hp) Z (λW s=>EF M hM.1 2 aS H w0 W _ b _ _ _ by_ hb  (s.p2_2 [0,1] Z)) λz88 hz88=>?_
   obtain ⟨x88,v88,H88⟩:=z88;obtain ⟨u88,r88,q88⟩:=hz88;dsimp only at u88 r88 q88|-;generalize hE88:(GG M 2 by_).1=e88 at r88;obtain ⟨op88,nm88,n88,a88⟩:=e88;obtain ⟨p88,c88,rfl,hs88,hl88⟩:=eV r88;refine .al gX Z λb9=>.sX .head Z Z eD Z<|.nt<|.sq<|.ft (p:=.light _ _ (.light _ _ (.light _ _ (.light _ _ (.alt _ _ _ (.alt _ _ _ (.light _ _ (.done)) (.no)) (.alt _ _ _ (.alt _ _ _ (.light _ _ (.done)) (.no)) (.no))))))) 7 (.light 0 (.light 2 (.light 3 (.light 4 (.alt 1 0 (.alt 5 2 (.light 6 (.done)) (.no)) (.alt 5 2 (.alt 1 0 (.light 6 (.done)) (.no)) (.no))))))) fT fT Z<|.yw (.loadW Z cY Hm Z)<|.mv Z<|.mv Z<|.yw (.add Z Z (c:=((d+1:Nat):Int)) ((w6 aD).trans aD))<|.h ?_ (.h ?_ .nn)
   ·
    refine .bl Z (gH _ _ _ _) Z λb90=>.h1<|.x3 (X:=Value × Value × Hp) Z (λW s=>hbd aD H88 w0 W _ b _ _ lf _ hlf (hAr.up u88.up) q88  (s.p4_4 [2,0,1,3] Z)) (λz94 hz94=>(.d3<|.yv (.loadW Z cY iG Z)<|.nl)) λz94 hz94=>?_
    obtain ⟨x94,v94,H94⟩:=z94;obtain ⟨u94,r94,q94,l94⟩:=hz94;dsimp only at u94 r94 q94|-;obtain ⟨pb94,cb94,eb94,_⟩:=r94.sl;simp only [bV,dL,aP] at eb94;subst eb94;refine .yw (.build Z (CJ _ _ _ _ _ _ _))<|.fn (tl:=[_]) Z<|.sX lJ Z Z iS Z<|.zR<|?_
    refine At.pt (hd:=[_,_,_,_]) (tl:=bs) (hd':=[_,_,_]) [1,3,0] rfl rfl ?_;refine Sx.freezeBoxN λHf uf mf=>?_;exact y8 Z (.cell Z jP Hm rfl) λW t=>⟨(_,_,Hf),by rw [show iF M k d bd by_ lf=_ from by rw [iF,aA aD,aA aD,aA aD,aA aD,aK aD],hE88];exact ⟨(u88.trans u94).trans uf,nL (kd:=5) (nm:=[]) (hd:=[]) (ex:=[.mk op88 nm88 n88 a88]) (th:=_) (el:=[]) (by first | decide | simp [nmB]) (by first | decide | simp [nmB]) (Rep.mk (n:=1) (c:=1) mf (.single ((r88.up (u94).up).up uf.up) rfl) rfl (aY _) aS) (r94.up uf.up) (Rep.empty aS),q94.up uf.up,l94⟩,Z,by rw [show iF M k d bd by_ lf=_ from by rw [iF,aA aD,aA aD,aA aD,aA aD,aK aD],hE88];exact t.drop⟩
   refine .x3 (X:=Value × Value × Hp) Z (λW s=>hbd aD H88 w0 W _ b _ _ lf _ hlf (hAr.up u88.up) q88  (s.p3_3 [1,0,2] Z)) (λz94 hz94=>(.d3<|.yv (.loadW Z cY cU Z)<|.nl)) λz94 hz94=>?_;obtain ⟨x94,v94,H94⟩:=z94;obtain ⟨u94,r94,q94,l94⟩:=hz94;dsimp only at u94 r94 q94|-;obtain ⟨pb94,cb94,eb94,_⟩:=r94.sl;simp only [bV,dL,aP] at eb94;subst eb94;refine .h1<|.bl Z (gH _ _ _ _) Z λb90=>.yw (.build Z (CJ _ _ _ _ _ _ _))<|.fn (tl:=[_]) Z<|.sX lJ Z Z iS Z<|.zR<|?_
   refine At.pt (hd:=[_,_,_,_]) (tl:=bs) (hd':=[_,_,_]) [0,3,1] rfl rfl ?_;refine Sx.freezeBoxN λHf uf mf=>?_;exact y8 Z (.cell Z jP Hm rfl) λW t=>⟨(_,_,Hf),by rw [show iF M k d bd by_ lf=_ from by rw [iF,aA aD,aA aD,aA aD,aA aD,aK aD],hE88];exact ⟨(u88.trans u94).trans uf,nL (kd:=5) (nm:=[]) (hd:=[]) (ex:=[.mk op88 nm88 n88 a88]) (th:=_) (el:=[]) (by first | decide | simp [nmB]) (by first | decide | simp [nmB]) (Rep.mk (n:=1) (c:=1) mf (.single ((r88.up (u94).up).up uf.up) rfl) rfl (aY _) aS) (r94.up uf.up) (Rep.empty aS),q94.up uf.up,l94⟩,Z,by rw [show iF M k d bd by_ lf=_ from by rw [iF,aA aD,aA aD,aA aD,aA aD,aK aD],hE88];exact t.drop⟩
  have q80:¬ (k=7/\d<2):=by rw [h80] at e80;exact aJ e80.symm
  refine .cu (X:=Bool) [(0,_),(1,_),(2,_),(6,_)] ⟨Z,Z,Z,Z,Jt⟩ (λz=>[(96,.bool z)]) (λz=>H) (λz=>(.box b (mkC M (.slice pA M.ars.length cA) bv (lf:Nat)) 133::.box b6 [.int .i64 0,dV,dV,cL,cL,cL] 228::bs)) (λz=>z=decide (k=8\/k=9)) ?_ λz hC=>?_
  ·
   refine .rg<|.mv Z<|.yw (.eql Z Z)<|.mv Z<|.e2 (λh99=>?_) (λh99=>?_)
   ·exact .g2<|.pT Z<|.aq Z<|.me _ ⟨Z,Jt⟩ ⟨Z,Z,Z,Z,Jt⟩ (λ_ s=>s) (by rw [aQ,aB];first | (rw [aB];omega) | exact ⟨λ_=>by omega,λ_=>rfl⟩ | exact ⟨λh=>(by cases h),λh=>by omega⟩)
   exact .gy (.move Z)<|.gy (.eql Z Z)<|.pF Z<|.aq Z<|.me _ ⟨Z,Jt⟩ ⟨Z,Z,Z,Z,Jt⟩ (λ_ s=>s) (by rw [aQ,aB];first | (rw [aB];omega) | exact ⟨λ_=>by omega,λ_=>rfl⟩ | exact ⟨λh=>(by cases h),λh=>by omega⟩)
  have e96:=hC;refine .cd Z (λh96=>?_) (λh96=>?_)
  ·have q96:k=8\/k=9:=by rw [h96] at e96;exact aI e96.symm
   refine .sm Z<|.mv Z<|.nC Z<|.fA Z qV<|.lD Z xT Hm Z<|.yw (.lenSl AS Z)<|.xs (X:=Value) Z (λW s=>pZ M.ars.length hM.2.1 hb  (s.p2_2 [0,1] Z)) λz109 hz109=>?_
   have hc:=mQ by_ hM.2.1;have hc3:=hM.2.2.1;have hal:=hM.len hc;obtain ⟨bA,oA,pR,cR,hpA,mA,hR⟩:=bN6 hAr hc;subst hpA;refine .a Z Z<|.ns<|.mv Z<|.mv Z<|.nC Z<|.fA Z qV<|.lD Z xT Hm Z<|.mv Z<|.yw (.indexSl AS Z Z (i:=(cC by_ M.ars.length).1) Z aD (q:=oA+(cC by_ M.ars.length).1 * 1) Z)<|.yw (.loadM Z BA mA (k:=0) Z Z)<|.yw (.lenSl yR Z)<|.xs (X:=Value) Z (λW s=>pZ (arL M (cC by_ M.ars.length).1) hal.1 hz109  (s.p2_2 [0,1] Z)) λz119 hz119=>?_
   have hh:=mQ (cC by_ M.ars.length).2 hal.1;have hn2:=hM.num hc hh;obtain ⟨bR,oR,hpR,mR⟩:=aG2 hR hh;subst hpR;refine .aq Z<|.sq<|.ft (p:=.light _ _ (.light _ _ (.light _ _ (.light _ _ (.light _ _ (.light _ _ (.light _ _ (.light _ _ (.light _ _ (.light _ _ (.light _ _ (.light _ _ (.light _ _ (.alt _ _ _ (.light _ _ (.light _ _ (.alt _ _ _ (.light _ _ (.light _ _ (.alt _ _ _ (.light _ _ (.done)) (.no)))) (.no)))) (.alt _ _ _ (.light _ _ (.light _ _ (.alt _ _ _ (.light _ _ (.light _ _ (.alt _ _ _ (.light _ _ (.done)) (.no)))) (.alt _ _ _ (.alt _ _ _ (.light _ _ (.light _ _ (.light _ _ (.done)))) (.no)) (.no))))) (.no)))))))))))))))) 21 (.light 1 (.light 5 (.light 8 (.light 9 (.light 10 (.light 11 (.light 12 (.light 13 (.light 14 (.light 15 (.light 16 (.light 17 (.light 18 (.alt 0 0 (.light 2 (.light 3 (.alt 4 0 (.light 6 (.light 7 (.alt 19 2 (.light 20 (.done)) (.no)))) (.no)))) (.alt 4 0 (.light 6 (.light 7 (.alt 0 0 (.light 2 (.light 3 (.alt 19 2 (.light 20 (.done)) (.no)))) (.alt 19 2 (.alt 0 0 (.light 2 (.light 3 (.light 20 (.done)))) (.no)) (.no))))) (.no)))))))))))))))) fT fT Z<|.mv Z<|.mv Z<|.mv Z<|.mv Z<|.nC Z<|.fA Z qV<|.lD Z xT Hm Z<|.mv Z<|.yw (.indexSl AS Z Z (i:=(cC by_ M.ars.length).1) Z aD (q:=oA+(cC by_ M.ars.length).1 * 1) Z)<|.yw (.loadM Z BA mA (k:=0) Z Z)<|.mv Z<|.yw (.indexSl yR Z Z (i:=(cC (cC by_ M.ars.length).2 (arL M (cC by_ M.ars.length).1)).1) Z aD (q:=oR+(cC (cC by_ M.ars.length).2 (arL M (cC by_ M.ars.length).1)).1 * 1) Z)<|.yw (.loadM Z bQ mR (k:=0) Z Z)<|.h ?_ (.h ?_ .nn)
   ·
    refine .bl Z (BZ _ _ _) Z λb120=>.yw (.indexSl fD Z Z (i:=(cC by_ M.ars.length).1) Z aD (q:=(cC by_ M.ars.length).1) aD)<|.yw (.load (v:=bJ [UInt8.ofNat (97+(cC by_ M.ars.length).1)]) Z bT Hm (DY aD))<|.h1<|.xt (X:=Value) Z (λW s=>lZ H 104 3 aD W s.agr) λv124 H124 hn124 u124=>?_
    obtain ⟨pn124,cn124,e124,_⟩:=hn124.sl;simp only [bV,dL,aP,jY] at e124;subst e124;obtain ⟨bE,oE,hpE,mE⟩:=uO hn124 (k:=(cC (cC by_ M.ars.length).2 (arL M (cC by_ M.ars.length).1)).1) aD;subst hpE;refine .yw (.indexSl fD Z Z (i:=(cC (cC by_ M.ars.length).2 (arL M (cC by_ M.ars.length).1)).1) Z aD (q:=oE+(cC (cC by_ M.ars.length).2 (arL M (cC by_ M.ars.length).1)).1 * 1) Z)<|.yw (.loadM Z bT mE (k:=0) Z Z)<|.h1<|.x3 (X:=Value × Value × Hp) Z (λW s=>tT hM.1 (arN M (cC by_ M.ars.length).1 (cC (cC by_ M.ars.length).2 (arL M (cC by_ M.ars.length).1)).1) aD (hz119.up u124.up)  (s.p3_3 [1,0,2] Z)) (λz139 hz139=>(.yv (.loadM Z bT (mE.up hz139.1.up) (k:=0) Z Z)<|.yv (.indexSl fD Z Z (i:=(cC (cC by_ M.ars.length).2 (arL M (cC by_ M.ars.length).1)).1) Z aD (q:=oE+(cC (cC by_ M.ars.length).2 (arL M (cC by_ M.ars.length).1)).1 * 1) Z)<|.yv (.load (v:=bJ [UInt8.ofNat (97+(cC by_ M.ars.length).1)]) Z bT cU (DY aD))<|.yv (.indexSl fD Z Z (i:=(cC by_ M.ars.length).1) Z aD (q:=(cC by_ M.ars.length).1) aD)<|.d4<|.d4<|.d3<|.yv (.move Z)<|.yv (.move Z)<|.nl)) λz139 hz139=>?_
    obtain ⟨x139,v139,H139⟩:=z139;obtain ⟨u139,⟨xs139,rz139,rs139,rl139⟩,q139⟩:=hz139;dsimp only at u139 rz139 rs139 q139|-;obtain ⟨pn139,cn139,rfl⟩:=rs139.sl;refine .yw (.build Z (uW _ _ _ _ _ _))<|.fn (tl:=[_]) Z<|.sX iE Z Z iS Z<|.zR<|?_
    refine At.pt (hd:=[_,_,_]) (tl:=bs) (hd':=[_,_]) [2,0] rfl rfl ?_;exact y8 Z (.cell Z jP Hm rfl) λW t=>⟨(_,_,H139),by rw [show iF M k d bd by_ lf=_ from by rw [iF,aA aD,aA aD,aA aD,aA aD,aA aD,aK aD],aB8];exact ⟨(u124.trans u139),nL (kd:=6) (nm:=[UInt8.ofNat (97+(cC by_ M.ars.length).1)]) (hd:=(nmB 104 (cC (cC by_ M.ars.length).2 (arL M (cC by_ M.ars.length).1)).1)) (ex:=_) (th:=[]) (el:=[]) (by first | decide | simp [nmB]) (by first | decide | simp [nmB]) (rs139.rep rz139 (by rw [aP];exact rl139)) (Rep.empty aS) (Rep.empty aS),q139,hlf⟩,Z,by rw [show iF M k d bd by_ lf=_ from by rw [iF,aA aD,aA aD,aA aD,aA aD,aA aD,aK aD],aB8];exact t.drop⟩
   refine .xt (X:=Value) Z (λW s=>lZ H 104 3 aD W s.agr) λv124 H124 hn124 u124=>?_;obtain ⟨pn124,cn124,e124,_⟩:=hn124.sl;simp only [bV,dL,aP,jY] at e124;subst e124;obtain ⟨bE,oE,hpE,mE⟩:=uO hn124 (k:=(cC (cC by_ M.ars.length).2 (arL M (cC by_ M.ars.length).1)).1) aD;subst hpE;refine .yw (.indexSl fD Z Z (i:=(cC (cC by_ M.ars.length).2 (arL M (cC by_ M.ars.length).1)).1) Z aD (q:=oE+(cC (cC by_ M.ars.length).2 (arL M (cC by_ M.ars.length).1)).1 * 1) Z)<|.yw (.loadM Z bT mE (k:=0) Z Z)<|.h ?_ (.h ?_ .nn)
   ·
    refine .bl Z (BZ _ _ _) Z λb120=>.yw (.indexSl fD Z Z (i:=(cC by_ M.ars.length).1) Z aD (q:=(cC by_ M.ars.length).1) aD)<|.yw (.load (v:=bJ [UInt8.ofNat (97+(cC by_ M.ars.length).1)]) Z bT Hm (DY aD))<|.h1<|.x3 (X:=Value × Value × Hp) Z (λW s=>tT hM.1 (arN M (cC by_ M.ars.length).1 (cC (cC by_ M.ars.length).2 (arL M (cC by_ M.ars.length).1)).1) aD (hz119.up u124.up)  (s.p3_3 [1,0,2] Z)) (λz139 hz139=>(.yv (.load (v:=bJ [UInt8.ofNat (97+(cC by_ M.ars.length).1)]) Z bT cU (DY aD))<|.yv (.indexSl fD Z Z (i:=(cC by_ M.ars.length).1) Z aD (q:=(cC by_ M.ars.length).1) aD)<|.yv (.loadM Z bT (mE.up hz139.1.up) (k:=0) Z Z)<|.yv (.indexSl fD Z Z (i:=(cC (cC by_ M.ars.length).2 (arL M (cC by_ M.ars.length).1)).1) Z aD (q:=oE+(cC (cC by_ M.ars.length).2 (arL M (cC by_ M.ars.length).1)).1 * 1) Z)<|.d4<|.d4<|.d3<|.yv (.move Z)<|.yv (.move Z)<|.nl)) λz139 hz139=>?_
    obtain ⟨x139,v139,H139⟩:=z139;obtain ⟨u139,⟨xs139,rz139,rs139,rl139⟩,q139⟩:=hz139;dsimp only at u139 rz139 rs139 q139|-;obtain ⟨pn139,cn139,rfl⟩:=rs139.sl;refine .yw (.build Z (uW _ _ _ _ _ _))<|.fn (tl:=[_]) Z<|.sX iE Z Z iS Z<|.zR<|?_
    refine At.pt (hd:=[_,_,_]) (tl:=bs) (hd':=[_,_]) [2,0] rfl rfl ?_;exact y8 Z (.cell Z jP Hm rfl) λW t=>⟨(_,_,H139),by rw [show iF M k d bd by_ lf=_ from by rw [iF,aA aD,aA aD,aA aD,aA aD,aA aD,aK aD],aB8];exact ⟨(u124.trans u139),nL (kd:=6) (nm:=[UInt8.ofNat (97+(cC by_ M.ars.length).1)]) (hd:=(nmB 104 (cC (cC by_ M.ars.length).2 (arL M (cC by_ M.ars.length).1)).1)) (ex:=_) (th:=[]) (el:=[]) (by first | decide | simp [nmB]) (by first | decide | simp [nmB]) (rs139.rep rz139 (by rw [aP];exact rl139)) (Rep.empty aS) (Rep.empty aS),q139,hlf⟩,Z,by rw [show iF M k d bd by_ lf=_ from by rw [iF,aA aD,aA aD,aA aD,aA aD,aA aD,aK aD],aB8];exact t.drop⟩
   refine .x3 (X:=Value × Value × Hp) Z (λW s=>tT hM.1 (arN M (cC by_ M.ars.length).1 (cC (cC by_ M.ars.length).2 (arL M (cC by_ M.ars.length).1)).1) aD (hz119.up u124.up)  (s.p2_2 [0,1] Z)) (λz139 hz139=>(.yv (.loadM Z bT (mE.up hz139.1.up) (k:=0) Z Z)<|.yv (.indexSl fD Z Z (i:=(cC (cC by_ M.ars.length).2 (arL M (cC by_ M.ars.length).1)).1) Z aD (q:=oE+(cC (cC by_ M.ars.length).2 (arL M (cC by_ M.ars.length).1)).1 * 1) Z)<|.d4<|.d4<|.d3<|.yv (.move Z)<|.yv (.move Z)<|.nl)) λz139 hz139=>?_;obtain ⟨x139,v139,H139⟩:=z139;obtain ⟨u139,⟨xs139,rz139,rs139,rl139⟩,q139⟩:=hz139;dsimp only at u139 rz139 rs139 q139|-;obtain ⟨pn139,cn139,rfl⟩:=rs139.sl;refine .h1<|.bl Z (BZ _ _ _) Z λb120=>.yw (.indexSl fD Z Z (i:=(cC by_ M.ars.length).1) Z aD (q:=(cC by_ M.ars.length).1) aD)<|.yw (.load (v:=bJ [UInt8.ofNat (97+(cC by_ M.ars.length).1)]) Z bT Hm (DY aD))<|.yw (.build Z (uW _ _ _ _ _ _))<|.fn (tl:=[_]) Z<|.sX iE Z Z iS Z<|.zR<|?_
   refine At.pt (hd:=[_,_,_]) (tl:=bs) (hd':=[_,_]) [2,1] rfl rfl ?_;exact y8 Z (.cell Z jP Hm rfl) λW t=>⟨(_,_,H139),by rw [show iF M k d bd by_ lf=_ from by rw [iF,aA aD,aA aD,aA aD,aA aD,aA aD,aK aD],aB8];exact ⟨(u124.trans u139),nL (kd:=6) (nm:=[UInt8.ofNat (97+(cC by_ M.ars.length).1)]) (hd:=(nmB 104 (cC (cC by_ M.ars.length).2 (arL M (cC by_ M.ars.length).1)).1)) (ex:=_) (th:=[]) (el:=[]) (by first | decide | simp [nmB]) (by first | decide | simp [nmB]) (rs139.rep rz139 (by rw [aP];exact rl139)) (Rep.empty aS) (Rep.empty aS),q139,hlf⟩,Z,by rw [show iF M k d bd by_ lf=_ from by rw [iF,aA aD,aA aD,aA aD,aA aD,aA aD,aK aD],aB8];exact t.drop⟩
  have q96:¬ (k=8\/k=9):=by rw [h96] at e96;exact aJ e96.symm
  refine .sm Z<|.yw (.eql Z Z)<|.aq Z<|.ce Z (λh141=>?_) (λh141=>?_)
  ·refine .sq<|?_
   obtain ⟨bA,oA,pR,cR,hpA,mA,hR⟩:=bN6 hAr hM.2.2.2.1;subst hpA;have hal:=hM.len hM.2.2.2.1;have hc:=hM.2.2.2.1;refine .fL 13 [(0,0),(1,0),(2,0),(3,0),(4,0),(5,0),(6,0),(7,0),(8,0),(9,0),(10,0),(11,0),(12,2)]<|.mv Z<|.mv Z<|.nC Z<|.fA Z qV<|.lD Z xT Hm Z<|.mv Z<|.nC Z<|.fA Z zX<|.lD Z bQ Hm Z<|.yw (.indexSl AS Z Z (i:=M.own) Z aD (q:=oA+M.own * 1) Z)<|.yw (.loadM Z BA mA (k:=0) Z Z)<|.yw (.lenSl yR Z)<|.xs (X:=Value) Z (λW s=>pZ (arL M M.own) hal.1 hb  (s.p2_2 [0,1] Z)) λz156 hz156=>?_
   have hh:=mQ by_ hal.1;have hn2:=hM.num hM.2.2.2.1 hh;obtain ⟨bR,oR,hpR,mR⟩:=aG2 hR hh;subst hpR;refine .fn (tl:=[_]) Z<|.a Z Z<|.ns<|.mv Z<|.xs (X:=List Value × Value × Hp) Z (λW s=>uN M hM.1 2 aS H w0 W _ b _ _ _ _ hz156  (s.p2_2 [0,1] Z)) λz158 hz158=>?_
   obtain ⟨x158,v158,H158⟩:=z158;obtain ⟨u158,r158,q158⟩:=hz158;dsimp only at u158 r158 q158|-;generalize hE158:(qK M 2 (cC by_ (arL M M.own)).2).1=e158 at r158;obtain ⟨op158,nm158,n158,a158⟩:=e158;obtain ⟨p158,c158,rfl,hs158,hl158⟩:=eV r158;have mA2:=mA.up u158.up;have mR2:=mR.up u158.up;refine .al gX Z λb13=>.sX .head Z Z eD Z<|.nt<|.sq<|.ft (p:=.light _ _ (.light _ _ (.light _ _ (.light _ _ (.light _ _ (.light _ _ (.light _ _ (.light _ _ (.light _ _ (.light _ _ (.light _ _ (.light _ _ (.light _ _ (.light _ _ (.light _ _ (.light _ _ (.alt _ _ _ (.light _ _ (.light _ _ (.alt _ _ _ (.alt _ _ _ (.alt _ _ _ (.light _ _ (.done)) (.no)) (.no)) (.alt _ _ _ (.alt _ _ _ (.alt _ _ _ (.light _ _ (.done)) (.no)) (.no)) (.no))))) (.alt _ _ _ (.alt _ _ _ (.light _ _ (.light _ _ (.alt _ _ _ (.alt _ _ _ (.light _ _ (.done)) (.no)) (.no)))) (.no)) (.no))))))))))))))))))) 23 (.light 1 (.light 4 (.light 6 (.light 7 (.light 8 (.light 9 (.light 10 (.light 11 (.light 12 (.light 13 (.light 14 (.light 15 (.light 16 (.light 17 (.light 18 (.light 19 (.alt 0 0 (.light 2 (.light 3 (.alt 5 0 (.alt 20 2 (.alt 21 2 (.light 22 (.done)) (.no)) (.no)) (.alt 20 2 (.alt 5 0 (.alt 21 2 (.light 22 (.done)) (.no)) (.no)) (.no))))) (.alt 5 0 (.alt 0 0 (.light 2 (.light 3 (.alt 20 2 (.alt 21 2 (.light 22 (.done)) (.no)) (.no)))) (.no)) (.no))))))))))))))))))) fT fT Z<|.mv Z<|.yw (.loadW Z cY Hm Z)<|.mv Z<|.mv Z<|.nC Z<|.fA Z qV<|.lD Z xT cU Z<|.mv Z<|.nC Z<|.fA Z zX<|.lD Z bQ cU Z<|.yw (.indexSl AS Z Z (i:=M.own) Z aD (q:=oA+M.own * 1) Z)<|.yw (.loadM Z BA mA2 (k:=0) Z Z)<|.mv Z<|.yw (.indexSl yR Z Z (i:=(cC by_ (arL M M.own)).1) Z aD (q:=oR+(cC by_ (arL M M.own)).1 * 1) Z)<|.yw (.loadM Z bQ mR2 (k:=0) Z Z)<|.h ?_ (.h ?_ .nn)
   ·
    refine .xt (X:=Value) Z (λW s=>lZ H158 104 3 aD W s.agr) λv159 H159 hn159 u159=>?_;obtain ⟨pn159,cn159,e159,_⟩:=hn159.sl;simp only [bV,dL,aP,jY] at e159;subst e159;obtain ⟨bE,oE,hpE,mE⟩:=uO hn159 (k:=(cC by_ (arL M M.own)).1) aD;subst hpE;refine .yw (.indexSl fD Z Z (i:=(cC by_ (arL M M.own)).1) Z aD (q:=oE+(cC by_ (arL M M.own)).1 * 1) Z)<|.yw (.loadM Z bT mE (k:=0) Z Z)<|.h ?_ (.h ?_ .nn)
    ·
     refine .blR Z (gH _ _ _ _) Z (z:=4) Z aS λb164=>.h1<|.x3 (X:=Value × Value × Hp) Z (λW s=>tT hM.1 (arN M M.own (cC by_ (arL M M.own)).1) aD (q158.up u159.up)  (s.p4_4 [2,0,1,3] Z)) (λz179 hz179=>(.yv (.loadM Z bT (mE.up hz179.1.up) (k:=0) Z Z)<|.yv (.indexSl fD Z Z (i:=(cC by_ (arL M M.own)).1) Z aD (q:=oE+(cC by_ (arL M M.own)).1 * 1) Z)<|.d4<|.d4<|.d4<|.d2<|.yv (.loadW Z cY iG Z)<|.yv (.move Z)<|.nl)) λz179 hz179=>?_
     obtain ⟨x179,v179,H179⟩:=z179;obtain ⟨u179,⟨xs179,rz179,rs179,rl179⟩,q179⟩:=hz179;dsimp only at u179 rz179 rs179 q179|-;obtain ⟨pn179,cn179,rfl⟩:=rs179.sl;refine .h1<|.apR (news:=xs179) AU Z (λ_=>iJ) Z rs179 (by rw [rz179.len,aP,rl179]) rz179.one (by simp [maxLen];omega) aD Z (λ_=>(.yv (.loadM Z bT (mE.up u179.up) (k:=0) Z Z)<|.yv (.indexSl fD Z Z (i:=(cC by_ (arL M M.own)).1) Z aD (q:=oE+(cC by_ (arL M M.own)).1 * 1) Z)<|.d4<|.d4<|.d4<|.d3<|.yv (.move Z)<|.nl)) λp180 c180=>.yw (.build Z (wW _ _ _ _ _))<|.fn (tl:=[_]) Z<|.sX lJ Z Z iS Z<|.zR<|?_
     refine At.pt (hd:=[_,_,_,_]) (tl:=bs) (hd':=[_,_,_]) [1,3,0] rfl rfl ?_;refine Sx.freezeAt λHf uf mf=>?_;exact y8 Z (.cell Z jP Hm rfl) λW t=>⟨(_,_,Hf),by rw [show iF M k d bd by_ lf=_ from by rw [iF,aA aD,aA aD,aA aD,aA aD,aA aD,aA aD,aK aD],aG6,hE158];exact ⟨(u158.trans (u159.trans u179)).trans uf,nL (kd:=7) (nm:=[]) (hd:=(nmB 104 (cC by_ (arL M M.own)).1)) (ex:=(.mk op158 nm158 n158 a158::(AJ M (arN M M.own (cC by_ (arL M M.own)).1) _).1)) (th:=[]) (el:=[]) (by first | decide | simp [nmB]) (by first | decide | simp [nmB]) (mf.rep (z:=4) (dT.app (dT.single (((r158.up u159.up).up u179.up).up uf.up) rfl) (rz179.up uf.up)) (by simp;omega)) (Rep.empty aS) (Rep.empty aS),q179.up uf.up,hlf⟩,Z,by rw [show iF M k d bd by_ lf=_ from by rw [iF,aA aD,aA aD,aA aD,aA aD,aA aD,aA aD,aK aD],aG6,hE158];exact t.drop⟩
    refine .x3 (X:=Value × Value × Hp) Z (λW s=>tT hM.1 (arN M M.own (cC by_ (arL M M.own)).1) aD (q158.up u159.up)  (s.p3_3 [1,0,2] Z)) (λz179 hz179=>(.yv (.loadM Z bT (mE.up hz179.1.up) (k:=0) Z Z)<|.yv (.indexSl fD Z Z (i:=(cC by_ (arL M M.own)).1) Z aD (q:=oE+(cC by_ (arL M M.own)).1 * 1) Z)<|.d4<|.d4<|.d4<|.d2<|.yv (.loadW Z cY cU Z)<|.yv (.move Z)<|.nl)) λz179 hz179=>?_;obtain ⟨x179,v179,H179⟩:=z179;obtain ⟨u179,⟨xs179,rz179,rs179,rl179⟩,q179⟩:=hz179;dsimp only at u179 rz179 rs179 q179|-;obtain ⟨pn179,cn179,rfl⟩:=rs179.sl;refine .h1<|.blR Z (gH _ _ _ _) Z (z:=4) Z aS λb164=>.h1<|.apR (news:=xs179) AU Z (λ_=>.head) Z rs179 (by rw [rz179.len,aP,rl179]) rz179.one (by simp [maxLen];omega) aD Z (λ_=>(.yv (.loadM Z bT (mE.up u179.up) (k:=0) Z Z)<|.yv (.indexSl fD Z Z (i:=(cC by_ (arL M M.own)).1) Z aD (q:=oE+(cC by_ (arL M M.own)).1 * 1) Z)<|.d4<|.d4<|.d4<|.d3<|.yv (.move Z)<|.nl)) λp180 c180=>.yw (.build Z (wW _ _ _ _ _))<|.fn (tl:=[_]) Z<|.sX lJ Z Z iS Z<|.zR<|?_
    refine At.pt (hd:=[_,_,_,_]) (tl:=bs) (hd':=[_,_,_]) [0,3,1] rfl rfl ?_;refine Sx.freezeAt λHf uf mf=>?_;exact y8 Z (.cell Z jP Hm rfl) λW t=>⟨(_,_,Hf),by rw [show iF M k d bd by_ lf=_ from by rw [iF,aA aD,aA aD,aA aD,aA aD,aA aD,aA aD,aK aD],aG6,hE158];exact ⟨(u158.trans (u159.trans u179)).trans uf,nL (kd:=7) (nm:=[]) (hd:=(nmB 104 (cC by_ (arL M M.own)).1)) (ex:=(.mk op158 nm158 n158 a158::(AJ M (arN M M.own (cC by_ (arL M M.own)).1) _).1)) (th:=[]) (el:=[]) (by first | decide | simp [nmB]) (by first | decide | simp [nmB]) (mf.rep (z:=4) (dT.app (dT.single (((r158.up u159.up).up u179.up).up uf.up) rfl) (rz179.up uf.up)) (by simp;omega)) (Rep.empty aS) (Rep.empty aS),q179.up uf.up,hlf⟩,Z,by rw [show iF M k d bd by_ lf=_ from by rw [iF,aA aD,aA aD,aA aD,aA aD,aA aD,aA aD,aK aD],aG6,hE158];exact t.drop⟩
   refine .blR Z (gH _ _ _ _) Z (z:=4) Z aS λb164=>.h1<|.xt (X:=Value) Z (λW s=>lZ H158 104 3 aD W s.agr) λv159 H159 hn159 u159=>?_
   obtain ⟨pn159,cn159,e159,_⟩:=hn159.sl;simp only [bV,dL,aP,jY] at e159;subst e159;obtain ⟨bE,oE,hpE,mE⟩:=uO hn159 (k:=(cC by_ (arL M M.own)).1) aD;subst hpE;refine .yw (.indexSl fD Z Z (i:=(cC by_ (arL M M.own)).1) Z aD (q:=oE+(cC by_ (arL M M.own)).1 * 1) Z)<|.yw (.loadM Z bT mE (k:=0) Z Z)<|.h1<|.x3 (X:=Value × Value × Hp) Z (λW s=>tT hM.1 (arN M M.own (cC by_ (arL M M.own)).1) aD (q158.up u159.up)  (s.p4_4 [2,0,1,3] Z)) (λz179 hz179=>(.yv (.loadM Z bT (mE.up hz179.1.up) (k:=0) Z Z)<|.yv (.indexSl fD Z Z (i:=(cC by_ (arL M M.own)).1) Z aD (q:=oE+(cC by_ (arL M M.own)).1 * 1) Z)<|.d4<|.d4<|.d4<|.d2<|.yv (.loadW Z cY iG Z)<|.yv (.move Z)<|.nl)) λz179 hz179=>?_
   obtain ⟨x179,v179,H179⟩:=z179;obtain ⟨u179,⟨xs179,rz179,rs179,rl179⟩,q179⟩:=hz179;dsimp only at u179 rz179 rs179 q179|-;obtain ⟨pn179,cn179,rfl⟩:=rs179.sl;refine .h1<|.apR (news:=xs179) AU Z (λ_=>iJ) Z rs179 (by rw [rz179.len,aP,rl179]) rz179.one (by simp [maxLen];omega) aD Z (λ_=>(.yv (.loadM Z bT (mE.up u179.up) (k:=0) Z Z)<|.yv (.indexSl fD Z Z (i:=(cC by_ (arL M M.own)).1) Z aD (q:=oE+(cC by_ (arL M M.own)).1 * 1) Z)<|.d4<|.d4<|.d4<|.d3<|.yv (.move Z)<|.nl)) λp180 c180=>.yw (.build Z (wW _ _ _ _ _))<|.fn (tl:=[_]) Z<|.sX lJ Z Z iS Z<|.zR<|?_
   refine At.pt (hd:=[_,_,_,_]) (tl:=bs) (hd':=[_,_,_]) [1,3,0] rfl rfl ?_;refine Sx.freezeAt λHf uf mf=>?_;exact y8 Z (.cell Z jP Hm rfl) λW t=>⟨(_,_,Hf),by rw [show iF M k d bd by_ lf=_ from by rw [iF,aA aD,aA aD,aA aD,aA aD,aA aD,aA aD,aK aD],aG6,hE158];exact ⟨(u158.trans (u159.trans u179)).trans uf,nL (kd:=7) (nm:=[]) (hd:=(nmB 104 (cC by_ (arL M M.own)).1)) (ex:=(.mk op158 nm158 n158 a158::(AJ M (arN M M.own (cC by_ (arL M M.own)).1) _).1)) (th:=[]) (el:=[]) (by first | decide | simp [nmB]) (by first | decide | simp [nmB]) (mf.rep (z:=4) (dT.app (dT.single (((r158.up u159.up).up u179.up).up uf.up) rfl) (rz179.up uf.up)) (by simp;omega)) (Rep.empty aS) (Rep.empty aS),q179.up uf.up,hlf⟩,Z,by rw [show iF M k d bd by_ lf=_ from by rw [iF,aA aD,aA aD,aA aD,aA aD,aA aD,aA aD,aK aD],aG6,hE158];exact t.drop⟩
  refine .cu (X:=Bool) [(0,_),(1,_),(2,_),(6,_)] ⟨Z,Z,Z,Z,Jt⟩ (λz=>[(182,.bool z)]) (λz=>H) (λz=>(.box b (mkC M (.slice pA M.ars.length cA) bv (lf:Nat)) 133::.box b6 [.int .i64 0,dV,dV,cL,cL,cL] 228::bs)) (λz=>z=decide (k=11/\d<3)) ?_ λz hC=>?_
  ·
   refine .rg<|.mv Z<|.yw (.eql Z Z)<|.mv Z<|.e2 (λh185=>?_) (λh185=>?_)
   ·exact .gy (.move Z)<|.gy (.lss Z Z)<|.pT Z<|.aq Z<|.me _ ⟨Z,Jt⟩ ⟨Z,Z,Z,Z,Jt⟩ (λ_ s=>s) (by rw [aQ,aB];first | (rw [aB];omega) | exact ⟨λ_=>by omega,λ_=>rfl⟩ | exact ⟨λh=>(by cases h),λh=>by omega⟩)
   exact .g2<|.pF Z<|.aq Z<|.me _ ⟨Z,Jt⟩ ⟨Z,Z,Z,Z,Jt⟩ (λ_ s=>s) (by rw [aQ,aB];first | (rw [aB];omega) | exact ⟨λ_=>by omega,λ_=>rfl⟩ | exact ⟨λh=>(by cases h),λh=>by omega⟩)
  have e182:=hC;refine .cd Z (λh182=>?_) (λh182=>?_)
  ·have q182:k=11/\d<3:=by rw [h182] at e182;exact aI e182.symm
   refine .sq<|.sm Z<|.xs (X:=Value) Z (λW s=>pZ 2 aS hb  (s.p2_2 [0,1] Z)) λz190 hz190=>.yw (.eql Z Z)<|.nt<|.ce Z (λh191=>?_) (λh191=>?_)
   ·refine .sm Z<|.xs (X:=Value × Value × Hp) Z (λW s=>tT hM.1 2 aS hz190  (s.p2_2 [0,1] Z)) λz193 hz193=>?_
    obtain ⟨x193,v193,H193⟩:=z193;obtain ⟨u193,⟨xs193,rz193,rs193,rl193⟩,q193⟩:=hz193;dsimp only at u193 rz193 rs193 q193|-;obtain ⟨pn193,cn193,rfl⟩:=rs193.sl;refine .a Z Z<|.ns<|.mv Z<|.mv Z<|.mv Z<|.yw (.add Z Z (c:=((d+1:Nat):Int)) ((w6 aD).trans aD))<|.xs (X:=Value × Value × Hp) Z (λW s=>hbd aD H193 w0 W _ b _ _ lf _ hlf (hAr.up u193.up) q193  (s.p2_2 [0,1] Z)) λz198 hz198=>?_
    obtain ⟨x198,v198,H198⟩:=z198;obtain ⟨u198,r198,q198,l198⟩:=hz198;dsimp only at u198 r198 q198|-;obtain ⟨pb198,cb198,eb198,_⟩:=r198.sl;simp only [bV,dL,aP] at eb198;subst eb198;refine .yw (.build Z (LQ _ _ _ _ _ _ _))<|.sX iJ Z Z iS Z<|.nt<|.rt<|.tR<|.bR<|.tR<|?_
    refine At.pt (hd:=[_,_]) (tl:=bs) (hd':=[_,_]) [1,0] rfl rfl ?_;exact y8 Z (.cell Z jP Hm rfl) λW t=>⟨(_,_,H198),by rw [show iF M k d bd by_ lf=_ from by rw [iF,aA aD,aA aD,aA aD,aA aD,aA aD,aA aD,aA aD,aK aD],aK aD];exact ⟨(u193.trans u198),nL (kd:=8) (nm:=[]) (hd:=[]) (ex:=_) (th:=[]) (el:=_) (by first | decide | simp [nmB]) (by first | decide | simp [nmB]) ((rs193.up u198.up).rep (rz193.up u198.up) (by rw [aP];exact rl193)) (Rep.empty aS) r198,q198,l198⟩,Z,by rw [show iF M k d bd by_ lf=_ from by rw [iF,aA aD,aA aD,aA aD,aA aD,aA aD,aA aD,aA aD,aK aD],aK aD];exact t.drop⟩
   refine .sk<|.tN<|.sm Z<|.xs (X:=Value × Hp) Z (λW s=>GR hM.1 hz190  (s.p2_2 [0,1] Z)) λz201 hz201=>.a Z Z<|.ns<|.mv Z<|.xs (X:=List Value × Value × Hp) Z (λW s=>uN M hM.1 3 aS z201.2 w0 W _ b _ _ _ _ hz201.2  (s.p2_2 [0,1] Z)) λz203 hz203=>?_
   obtain ⟨x203,v203,H203⟩:=z203;obtain ⟨u203,r203,q203⟩:=hz203;dsimp only at u203 r203 q203|-;generalize hE203:(qK M 3 (cC (cC by_ 2).2 M.ints).2).1=e203 at r203;obtain ⟨op203,nm203,n203,a203⟩:=e203;obtain ⟨p203,c203,rfl,hs203,hl203⟩:=eV r203;refine .al gX Z λb16=>.sX .head Z Z eD Z<|.nt<|.sq<|.ft (p:=.light _ _ (.light _ _ (.light _ _ (.light _ _ (.light _ _ (.alt _ _ _ (.alt _ _ _ (.light _ _ (.done)) (.no)) (.alt _ _ _ (.alt _ _ _ (.light _ _ (.done)) (.no)) (.no)))))))) 8 (.light 0 (.light 1 (.light 3 (.light 4 (.light 5 (.alt 2 0 (.alt 6 2 (.light 7 (.done)) (.no)) (.alt 6 2 (.alt 2 0 (.light 7 (.done)) (.no)) (.no)))))))) fT fT Z<|.mv Z<|.yw (.loadW Z cY Hm Z)<|.mv Z<|.mv Z<|.yw (.add Z Z (c:=((d+1:Nat):Int)) ((w6 aD).trans aD))<|.h ?_ (.h ?_ .nn)
   ·
    refine .bl Z (gH _ _ _ _) Z λb206=>.h1<|.x3 (X:=Value × Value × Hp) Z (λW s=>hbd aD H203 w0 W _ b _ _ lf _ hlf (hAr.up (hz201.1.trans u203).up) q203  (s.p4_4 [2,0,1,3] Z)) (λz210 hz210=>(.d3<|.yv (.loadW Z cY iG Z)<|.yv (.move Z)<|.nl)) λz210 hz210=>?_
    obtain ⟨x210,v210,H210⟩:=z210;obtain ⟨u210,r210,q210,l210⟩:=hz210;dsimp only at u210 r210 q210|-;obtain ⟨pb210,cb210,eb210,_⟩:=r210.sl;simp only [bV,dL,aP] at eb210;subst eb210;refine .yw (.build Z (zL _ _ _ _ _ _ _ _))<|.fn (tl:=[_]) Z<|.sX lJ Z Z iS Z<|.zR<|?_
    refine At.pt (hd:=[_,_,_,_]) (tl:=bs) (hd':=[_,_,_]) [1,3,0] rfl rfl ?_;refine Sx.freezeBoxN λHf uf mf=>?_;exact y8 Z (.cell Z jP Hm rfl) λW t=>⟨(_,_,Hf),by rw [show iF M k d bd by_ lf=_ from by rw [iF,aA aD,aA aD,aA aD,aA aD,aA aD,aA aD,aA aD,aK aD],aA aD,bJ4,hE203];exact ⟨(hz201.1.trans (u203.trans u210)).trans uf,nL (kd:=9) (nm:=(nmB 120 _)) (hd:=[]) (ex:=[.mk op203 nm203 n203 a203]) (th:=[]) (el:=_) (by first | decide | simp [nmB]) (by first | decide | simp [nmB]) (Rep.mk (n:=1) (c:=1) mf (.single ((r203.up (u210).up).up uf.up) rfl) rfl (aY _) aS) (Rep.empty aS) (r210.up uf.up),q210.up uf.up,l210⟩,Z,by rw [show iF M k d bd by_ lf=_ from by rw [iF,aA aD,aA aD,aA aD,aA aD,aA aD,aA aD,aA aD,aK aD],aA aD,bJ4,hE203];exact t.drop⟩
   refine .x3 (X:=Value × Value × Hp) Z (λW s=>hbd aD H203 w0 W _ b _ _ lf _ hlf (hAr.up (hz201.1.trans u203).up) q203  (s.p3_3 [1,0,2] Z)) (λz210 hz210=>(.d3<|.yv (.loadW Z cY cU Z)<|.yv (.move Z)<|.nl)) λz210 hz210=>?_;obtain ⟨x210,v210,H210⟩:=z210;obtain ⟨u210,r210,q210,l210⟩:=hz210;dsimp only at u210 r210 q210|-;obtain ⟨pb210,cb210,eb210,_⟩:=r210.sl;simp only [bV,dL,aP] at eb210;subst eb210;refine .h1<|.bl Z (gH _ _ _ _) Z λb206=>.yw (.build Z (zL _ _ _ _ _ _ _ _))<|.fn (tl:=[_]) Z<|.sX lJ Z Z iS Z<|.zR<|?_
   refine At.pt (hd:=[_,_,_,_]) (tl:=bs) (hd':=[_,_,_]) [0,3,1] rfl rfl ?_;refine Sx.freezeBoxN λHf uf mf=>?_;exact y8 Z (.cell Z jP Hm rfl) λW t=>⟨(_,_,Hf),by rw [show iF M k d bd by_ lf=_ from by rw [iF,aA aD,aA aD,aA aD,aA aD,aA aD,aA aD,aA aD,aK aD],aA aD,bJ4,hE203];exact ⟨(hz201.1.trans (u203.trans u210)).trans uf,nL (kd:=9) (nm:=(nmB 120 _)) (hd:=[]) (ex:=[.mk op203 nm203 n203 a203]) (th:=[]) (el:=_) (by first | decide | simp [nmB]) (by first | decide | simp [nmB]) (Rep.mk (n:=1) (c:=1) mf (.single ((r203.up (u210).up).up uf.up) rfl) rfl (aY _) aS) (Rep.empty aS) (r210.up uf.up),q210.up uf.up,l210⟩,Z,by rw [show iF M k d bd by_ lf=_ from by rw [iF,aA aD,aA aD,aA aD,aA aD,aA aD,aA aD,aA aD,aK aD],aA aD,bJ4,hE203];exact t.drop⟩
  have q182:¬ (k=11/\d<3):=by rw [h182] at e182;exact aJ e182.symm
  refine .sm Z<|.yw (.eql Z Z)<|.mv Z<|.e2 (λh215=>?_) (λh215=>?_)
  ·refine .gy (.move Z)<|.gd Z Z<|.xs (X:=Value) Z (λW s=>pZ 3 aS hb  (s.p2_2 [0,1] Z)) λz217 hz217=>.gy (.eql Z Z)<|.pT Z<|.aq Z<|.ce Z (λh212=>?_) (λh212=>?_)
   ·refine .sr<|.yw (.build Z (ZU _))<|.sX iJ Z Z iS Z<|.zR<|?_
    refine At.pt (hd:=[_,_]) (tl:=bs) (hd':=[_,_]) [1,0] rfl rfl ?_;exact y8 Z (.cell Z jP Hm rfl) λW t=>⟨(_,_,H),by rw [show iF M k d bd by_ lf=_ from by rw [iF,aA aD,aA aD,aA aD,aA aD,aA aD,aA aD,aA aD,aA aD,aK aD]];exact ⟨.refl,nL (kd:=10) (nm:=[]) (hd:=[]) (ex:=[]) (th:=[]) (el:=[]) (by first | decide | simp [nmB]) (by first | decide | simp [nmB]) (Rep.empty aS) (Rep.empty aS) (Rep.empty aS),hz217,hlf⟩,Z,by rw [show iF M k d bd by_ lf=_ from by rw [iF,aA aD,aA aD,aA aD,aA aD,aA aD,aA aD,aA aD,aA aD,aK aD]];exact t.drop⟩
   exact .sk<|.bN<|.tN<|.me _ trivial ⟨Z,Z,Jt⟩ (λ_ s=>s) (by first | exact ⟨by rw [aA aD];exact hb,aD⟩ | exact ⟨by rw [aK aD];exact hz217,aD⟩)
  exact .g3<|.pF Z<|.aq Z<|.cF Z<|.sk<|.bN<|.tN<|.me _ trivial ⟨Z,Z,Jt⟩ (λ_ s=>s) (by first | exact ⟨by rw [aA aD];exact hb,aD⟩ | exact ⟨by rw [aK aD];exact hz217,aD⟩)
 obtain ⟨hbz,hc1,hc2,hc3,hc4,hc5,hc6,hc7,hc8,hc9⟩:=hC;generalize hb1:(if k=12 then (cC by_ 3).2 else by_)=b1 at hbz;refine .sm Z<|.xs (X:=Value × Hp) Z (λW s=>GR hM.1 hbz  (s.p2_2 [0,1] Z)) λz222 hz222=>.a Z Z<|.ns<|.mv Z<|.mv Z<|.xs (X:=List Value × Value × Hp) Z (λW s=>uN M hM.1 3 aS z222.2 w0 W _ b _ _ _ _ hz222.2  (s.p2_2 [0,1] Z)) λz225 hz225=>?_
 obtain ⟨x225,v225,H225⟩:=z225;obtain ⟨u225,r225,q225⟩:=hz225;dsimp only at u225 r225 q225|-;generalize hE225:(qK M 3 (cC b1 M.ints).2).1=e225 at r225;obtain ⟨op225,nm225,n225,a225⟩:=e225;obtain ⟨p225,c225,rfl,hs225,hl225⟩:=eV r225;refine .bl Z (gH _ _ _ _) Z λb226=>.yw (.build Z (tJ _ _ _ _ _))<|.sX iE Z Z iS Z<|.nt<|.rt<|?_
 refine At.pt (hd:=[_,_,_]) (tl:=bs) (hd':=[_,_,_]) [0,2,1] rfl rfl ?_;refine Sx.freezeBoxN λHf uf mf=>?_;exact y8 Z (.cell Z jP Hm rfl) λW t=>⟨(_,_,Hf),by rw [show iF M k d bd by_ lf=_ from by rw [iF,aA aD,aA aD,aA aD,aA aD,aA aD,aA aD,aA aD,aA aD,aA aD],hb1,cL7,hE225];exact ⟨(hz222.1.trans u225).trans uf,nL (kd:=1) (nm:=(nmB 120 _)) (hd:=[]) (ex:=[.mk op225 nm225 n225 a225]) (th:=[]) (el:=[]) (by first | decide | simp [nmB]) (by first | decide | simp [nmB]) (Rep.mk (n:=1) (c:=1) mf (.single ((r225).up uf.up) rfl) rfl (aY _) aS) (Rep.empty aS) (Rep.empty aS),q225.up uf.up,hlf⟩,Z,by rw [show iF M k d bd by_ lf=_ from by rw [iF,aA aD,aA aD,aA aD,aA aD,aA aD,aA aD,aA aD,aA aD,aA aD],hb1,cL7,hE225];exact t.drop⟩
theorem wB:dU prg 133 7=some 7:=by kernel_rfl
theorem aV0:tQ prg 188=some (228,6,112):=by kernel_rfl
theorem iM:gQ prg 3=some 1:=by kernel_rfl
theorem ZN (x00 x01 x02 x03 x04 x05:Value):pG prg 188 1 [(0,.agg [x00,x01,x02,x03,x04,x05].toArray)]=some (228,[x00,x01,x02,x03,x04,x05]):=by kernel_rfl
def cU1 (st:Nat->Bs->Nat->Sm × (Bs × Nat)) (M:Mk) (d:Nat):Prop:=∀ (H:Hp) (w0 W:World) (bs:List Res) (b:Nat) (arV bv:Value) (lf:Nat) (by_:Bs) (k:Nat),lf<=12->Rep H (.seq 1 (M.ars.map dAr)) [arV]->Rep H (.seq 1 ((by_).map dU8)) [bv]->St H w0 (.box b (mkC M arV bv (lf:Nat)) 133::bs) W ->
 Calls prg 165 #[.pointer (some ⟨b,0,none⟩),iN k,iN d] W λe W'=>∃ z:List Value × Value × Hp,(HUp w0 H z.2.2/\Rep z.2.2 (dSm .i64 (st k by_ lf).1) z.1/\Rep z.2.2 (.seq 1 (((st k by_ lf).2.1).map dU8)) [z.2.1]/\(st k by_ lf).2.2<=12)/\e=.returned (.agg z.1.toArray)/\St z.2.2 w0 (.box b (mkC M arV z.2.1 ((st k by_ lf).2.2:Nat)) 133::bs) W'
theorem TA (M:Mk) (d:Nat) (hd:d<=3) (st:Nat->Bs->Nat->Sm × (Bs × Nat)) (hst_:cU1 st M d) (hmono:∀ k b lf,(st k b lf).2.2<=lf):bP9 (DQ st 13) M d:=by
 intro H w0 W bs b arV bv lf by_ hlf hAr hb s;obtain ⟨pA,cA,eA,_⟩:=hAr.sl;simp only [bV,dL,aP] at eA;subst eA;refine iB func120 rfl ntmps120 rfl s ?_;refine .sr<|.a Z Z<|.ns<|.a Z Z<|?_
 refine Sx.row0 228 6 ?_;refine .nt<|.sq<|.bk<|.lp (X:=Nat × Nat × Hp × Value × List Value × Value × Nat) [(0,_),(1,_)] ⟨Z,Z,Jt⟩ (bs) (λz=>[(5,z.2.2.2.1)]) (λz=>z.2.2.1) (λz=>[.row 228 6 z.2.2.2.1 z.1 z.2.2.2.2.1,.box b (mkC M (.slice pA M.ars.length cA) z.2.2.2.2.2.1 (z.2.2.2.2.2.2:Nat)) 133]) (λz=>z.2.2.2.2.2.2<z.2.1/\z.2.2.2.2.2.2<=12/\z.1+z.2.2.2.2.2.2<=12/\HUp w0 H z.2.2.1/\∃ (es:List Sm) (b1:Bs),es.length=z.1/\dT z.2.2.1 6 (es.map (dSm .i64)) z.2.2.2.2.1/\Rep z.2.2.1 (.seq 1 ((b1).map dU8)) [z.2.2.2.2.2.1]/\DQ st 13 (by_,lf)=(es++(DQ st z.2.1 (b1,z.2.2.2.2.2.2)).1,(DQ st z.2.1 (b1,z.2.2.2.2.2.2)).2)) (λz=>z.2.1) (0,13,H,cL,[],bv,lf) (λ_ s=>s) ⟨Z,Jt⟩ ⟨by dsimp only;omega,hlf,by dsimp only;omega,.refl,[],by_,Z,dT.nil,hb,Z⟩ λz hC=>?_
 obtain ⟨k,f,H1,r,xs,bv,lf1⟩:=z;dsimp only at hC|-;obtain ⟨hf,hl1,hkl,u1,es,b1,hlen,hz,hb1,heq⟩:=hC;obtain ⟨f,rfl⟩:∃ g,f=g+1:=⟨f - 1,aD⟩;obtain ⟨pB,cB,eB,hcB⟩:=hb1.sl;simp only [bV,dL,aP] at eB hcB;subst eB;have hcapB:=hb1.cap;refine .sq<|.sm Z<|.nC Z<|.fA Z qT<|.lD Z qP cU Z<|.yw (.lenSl rP Z)<|.yw (.gtr Z Z)<|.mv Z<|.e2 (λh13=>?_) (λh13=>?_)
 ·have hb0:b1≠[]:=by intro e;rw [e] at h13;simp at h13
  refine .gy (.move Z)<|.gy (.nilCheck Z)<|.gy (.fieldAddr Z wB)<|.gy (.load Z bQ cU Z)<|.gy (.gtr Z Z)<|.pT Z<|.nt<|.ce Z (λh19=>?_) (λh19=>?_)
  ·have hnn:¬ (b1=[]\/lf1=0):=λh=>h.elim hb0 (λe=>by omega);refine .sk<|.tN<|.bk<|.sm Z<|.xs (X:=Value) Z (λW s=>pZ 14 aS hb1  (s.p2_2 [1,0] Z)) λz21 hz21=>.aq Z<|.sq<|.sm Z<|.yw (.eql Z Z)<|.nt<|.ce Z (λh23=>?_) (λh23=>?_)
   ·have h13:(cC b1 14).1=13:=aD
    have heqF:DQ st 13 (by_,lf)=(es,((cC b1 14).2,lf1)):=by rw [heq,DQ,aA hnn,aK h13,eL]
    refine .sm Z<|.az Z<|.tR<|.bR<|.tR<|.bR<|.tR<|?_
    refine At.pt (hd:=[_,_]) (tl:=bs) (hd':=[_,_]) [1,0] rfl rfl ?_;refine iI (ds:=es.map (dSm .i64)) (by simp;omega) hz λH3 p3 c3 u3 hr3 hs3=>?_;exact y9 Z Z λW t=>⟨(r,_,H3),by rw [heqF];exact ⟨u1.trans u3,hs3,hz21.up u3.up,hl1⟩,Z,by rw [heqF];exact t⟩
   have h13:¬ (cC b1 14).1=13:=aD
   refine .sk<|.tN<|.sm Z<|.nC Z<|.fA Z wB<|.lD Z bQ Hm Z<|.yw (.sub Z Z (c:=((lf1 - 1:Nat):Int)) ((w6 aD).trans aD))<|.nC Z<|.fA Z wB<|.st (l':=mkC M (.slice pA M.ars.length cA) z21 (lf1 - 1:Nat)) .head Z Z iM Z (nb Z) Z<|.nt<|.rg<|.mv Z<|.mv Z<|.mv Z<|.mv Z<|.xs (X:=List Value × Value × Hp) Z (λW s=>hst_ H1 w0 W _ b _ _ (lf1 - 1) (cC b1 14).2 (cC b1 14).1 aD (hAr.up u1.up) hz21  (s.p2_2 [0,1] Z)) λz36 hz36=>?_
   have hst:=hmono (cC b1 14).1 (cC b1 14).2 (lf1 - 1);obtain ⟨x36,v36,H36⟩:=z36;obtain ⟨u36,r36,q36,l36⟩:=hz36;dsimp only at u36 r36 q36|-;generalize hE36:(st (cC b1 14).1 (cC b1 14).2 (lf1 - 1))=e36 at r36 q36 l36|-;obtain ⟨e36,b36s,lf36⟩:=e36;dsimp only at r36 q36 l36|-;obtain ⟨kd,nm,hd_,ex,th,el⟩:=e36;obtain ⟨p1,c1,p2,c2,p3,c3,rfl,hs1,hs2,hs3,hn1,hn2⟩:=bS5 r36;rw [hE36] at hst;dsimp only at hst;exact .bl Z (ZN _ _ _ _ _ _) Z λb37=>.ap (news:=[.int .i64 kd.toNat,bJ nm,bJ hd_,.slice p1 ex.length c1,.slice p2 th.length c2,.slice p3 el.length c3]) aV0 Z (λ_=>iE) Z (.box Hm z0) Z (by simp [Value.oneCell',bJ]) (by simp [maxLen];omega) aD Z λr38 _=>.a Z Z<|.nl<|.bN<|.tN<|.ag (x:=(k,f+1,H1,r,xs,.slice pB b1.length cB,lf1)) (k+1,f,H36,r38,xs++[.int .i64 kd.toNat,bJ nm,bJ hd_,.slice p1 ex.length c1,.slice p2 th.length c2,.slice p3 el.length c3],v36,lf36) ⟨Z,Jt⟩ ⟨Z,Z,Jt⟩ (λ_ s=>(s.p3_2 [2,1] Z)) ⟨by dsimp only;have:=hst;omega,l36,by dsimp only;omega,u1.trans u36,es++[.mk kd nm hd_ ex th el],b36s,by simp;omega,by dsimp only;rw [bI];exact (hz.up u36.up).snoc r36 Z,q36,by dsimp only;rw [heq,DQ,aA hnn,aA h13,hE36,aV];rfl⟩ (by dsimp only;omega)
  have hbe:b1=[]\/lf1=0:=.inr aD;have heqF:DQ st 13 (by_,lf)=(es,(b1,lf1)):=by rw [heq,DQ,aK hbe,eL]
  refine .ex<|.eb<|.sm Z<|.az Z<|?_
  refine At.pt (hd:=[_,_]) (tl:=bs) (hd':=[_,_]) [0,1] rfl rfl ?_;refine iI (ds:=es.map (dSm .i64)) (by simp;omega) hz λH3 p3 c3 u3 hr3 hs3=>?_;exact y9 Z Z λW t=>⟨(r,_,H3),by rw [heqF];exact ⟨u1.trans u3,hs3,hb1.up u3.up,hl1⟩,Z,by rw [heqF];exact t⟩
 have hbe:b1=[]\/lf1=0:=.inl (bK aD);have heqF:DQ st 13 (by_,lf)=(es,(b1,lf1)):=by rw [heq,DQ,aK hbe,eL]
 refine .g4<|.gG<|.pF Z<|.nt<|.cF Z<|.ex<|.eb<|.sm Z<|.az Z<|?_
 refine At.pt (hd:=[_,_]) (tl:=bs) (hd':=[_,_]) [0,1] rfl rfl ?_;refine iI (ds:=es.map (dSm .i64)) (by simp;omega) hz λH3 p3 c3 u3 hr3 hs3=>?_;exact y9 Z Z λW t=>⟨(r,_,H3),by rw [heqF];exact ⟨u1.trans u3,hs3,hb1.up u3.up,hl1⟩,Z,by rw [heqF];exact t⟩
theorem EJ (M:Mk) (k d:Nat) (bd:Bs × Nat->List Sm × (Bs × Nat)) (hm:∀ x,(bd x).2.2<=x.2) (b:Bs) (lf:Nat):(iF M k d bd b lf).2.2<=lf:=by
 unfold iF
 split
 ·exact aY _
 split
 ·exact aY _
 split
 ·exact aY _
 split
 ·exact aZ (hm _) (hm _)
 split
 ·exact hm _
 split
 ·exact aY _
 split
 ·exact aY _
 split
 ·split
  ·exact hm _
  ·exact hm _
 split
 ·exact aY _
 ·exact aY _
theorem KD (st:Nat->Bs->Nat->Sm × (Bs × Nat)) (hm:∀ k b lf,(st k b lf).2.2<=lf):∀ f x,(DQ st f x).2.2<=x.2
 | 0,x=>aY _
 | f+1,(b,lf)=>by
  unfold DQ
  split
  ·exact aY _
  ·split
   ·exact aY _
   ·refine aZ (KD st hm f _) (aZ (hm _ _ _) (Nat.sub_le _ _))
theorem TC (M:Mk):∀ f x,(ZA M f x).2.2<=x.2
 | 0,x=>KD _ (λk b lf=>EJ M k 3 _ (λ_=>aY _) b lf) _ _
 | f+1,x=>KD _ (λk b lf=>EJ M k (2 - f) _ (TC M f) b lf) _ _
theorem TB (M:Mk) (hM:okA M):∀ f,f<=3->bP9 (ZA M f) M (3 - f)
 | 0,_=>TA M 3 aD _ (RK M hM 3 aD _ λh=>by omega) λk b lf=>EJ M k 3 _ (λ_=>aY _) b lf
 | f+1,hf=>by
  have e:3 - (f+1)=2 - f:=aD
  rw [e];refine TA M (2 - f) aD (λk=>iF M k (2 - f) (ZA M f)) (RK M hM (2 - f) aD _ λ_=>?_) λk b lf=>EJ M k (2 - f) _ (TC M f) b lf;rw [show 2 - f+1=3 - f by omega];exact TB M hM f aD
theorem aX4:jI prg 135=some (some 2):=by kernel_rfl
theorem FQ:dU prg 135 1=some 1:=by kernel_rfl
theorem aV1:tQ prg 136=some (191,3,64):=by kernel_rfl
theorem aH1:gQ prg 135=some 2:=by kernel_rfl
theorem qO:slN prg 115=some 2:=by kernel_rfl
theorem aG8:nA prg 135=some [Go.Value.int Go.IntKind.u8 (Int.ofNat 0),Go.Value.slice none 0 0]:=by kernel_rfl
theorem LR (x0:ByteArray) (x1p:Option Addr) (x1n x1c:Nat) (x2p:Option Addr) (x2n x2c:Nat):eX prg 191 [(0,.string x0),(1,.slice x1p x1n x1c),(2,.slice x2p x2n x2c)]=some [.string x0,.slice x1p x1n x1c,.slice x2p x2n x2c]:=by kernel_rfl
theorem ZO (x00 x01 x02:Value):pG prg 136 1 [(0,.agg [x00,x01,x02].toArray)]=some (191,[x00,x01,x02]):=by kernel_rfl
theorem WV {α:Type} (l:List α) (n:Nat):l.take (min l.length n)=l.take n:=by
 by_cases h:n<=l.length
 ·rw [pH h]
 ·rw [iK aD,bW,fX aD]
def okB (M:Mk):Prop:=0<M.ints/\M.ints<=3/\M.flags<=2/\0<M.ars.length/\M.ars.length<=3/\M.own<M.ars.length/\∀ l∈M.ars,0<l.length/\l.length<=3/\∀ n∈l,n<=2
theorem cG9 (h:okB M) (hk:k<arL M M.own):okA (M.at k):=by
 obtain ⟨h1,h2,h3,h4,h5,h6,h7⟩:=h;refine ⟨⟨h1,h2,?_,h3⟩,h4,h5,h6,h7⟩;have h8:=h7 _ (aX h6);unfold arL at hk;show arN M M.own k<=2;unfold arN;rw [nY h6] at hk|-;rw [nY hk];exact h8.2.2 _ (aX hk)
set_option maxHeartbeats 1000000 in
theorem LD (M:Mk) (hM:okB M) (l:List Cd) (hll:l.length<=arL M M.own) (H:Hp) (w0 W:World) (bs:List Res) (b:Nat) (arV bv v:Value) (left:Int) (hv:Rep H (.seq 2 (l.map dCd)) [v]) (hAr:Rep H (.seq 1 (M.ars.map dAr)) [arV]) (s:St H w0 (.box b (mkC M arV bv left) 133::bs) W) :
 Calls prg 62 #[.pointer (dI b),v] W λe W'=>∃ z:Value × Nat × Hp × Value × Int,(HUp w0 H z.2.2.1/\Rep z.2.2.1 (.seq 3 ((wR M 0 l).map (dHd .i64))) [z.1])/\e=.returned z.1/\St z.2.2.1 w0 (.box b (mkC { M with params:=z.2.1 } arV z.2.2.2.1 z.2.2.2.2) 133::bs) W':=by
 obtain ⟨pA,cA,eA,_⟩:=hAr.sl;simp only [bV,dL,aP] at eA;subst eA;obtain ⟨bA,oA,pR,cR,hpA,mA,hR⟩:=bN6 hAr hM.2.2.2.2.2.1;subst hpA;obtain ⟨pl,cl,el,_⟩:=hv.sl;simp only [bV,dL,aP] at el;subst el;have hs:=hv;have hcap:=hs.cap;refine iB func62 rfl ntmps62 rfl s ?_;refine .sr<|.a Z Z<|.ns<|.a Z Z<|?_
 refine Sx.row0 191 3 ?_;refine .nt<|.sq<|.sm Z<|.yw (.lenSl qO Z)<|.mv Z<|.nt<|.bk<|.lp (X:=Nat × Nat × Hp × Value × List Value × Value × Int) [(0,_),(8,_),(9,_)] ⟨Z,Z,Z,Jt⟩ (bs) (λz=>[(5,z.2.2.2.1),(10,iN z.1)]) (λz=>z.2.2.1) (λz=>[.row 191 3 z.2.2.2.1 z.1 z.2.2.2.2.1,.box b (mkC ({ M with params:=z.2.1 }) (.slice (some ⟨bA,oA,none⟩) M.ars.length cA) z.2.2.2.2.2.1 z.2.2.2.2.2.2) 133]) (λz=>z.1<=l.length/\HUp w0 H z.2.2.1/\dT z.2.2.1 3 ((wR M 0 (l.take z.1)).map (dHd .i64)) z.2.2.2.2.1) (λz=>l.length - z.1) (0,M.params,H,cL,[],bv,left) (λ_ s=>s) ⟨Z,Z,Jt⟩ ⟨by simp,.refl,dT.nil⟩ λz hC=>?_
 obtain ⟨k,pv,H1,r,xs,bv,left⟩:=z;dsimp only at hC|-;obtain ⟨hk0,u1,hz⟩:=hC;refine .sr<|.yw (.lss Z Z)<|.nt<|.sq<|.ce Z (λh11=>?_) (λh11=>?_)
 ·have hk:k<l.length:=aD
  obtain ⟨bE,oE,cE,hpE,rE,lE,mE⟩:=(hs.up u1.up).elem (eR (f:=dCd) hk);cases hpE;generalize hx:l[k]=cd at rE;obtain ⟨pc,cc,rfl,hcb⟩:=VL rE;have hal:=hM.2.2.2.2.2.2 _ (aX hM.2.2.2.2.2.1);have hown:=hM.2.2.2.2.2.1;have hkA:k<arL M M.own:=aD
  have hokA:okA (M.at k):=cG9 hM hkA;have hn2:arN M M.own k<=2:=(hokA.1).2.2.1;have hk3:k<3:=by have:=(hokA.len hown).2;exact eK hkA this
  obtain ⟨bR,oR,hpR,mR⟩:=aG2 hR hkA;subst hpR;have mA1:=mA.up u1.up;have mR1:=mR.up u1.up;have hccap:=hcb.cap;refine .sk<|.tN<|.sq<|.bk<|.sm Z<|.yw (.indexSl qO Z Z Z aD (q:=oE+k * 2) Z)<|.yw (.loadMW Z aX4 mE Z)<|.al aG8 Z λb7=>.a Z Z<|.sX .head Z Z aH1 Z<|.nt<|.sq<|.fL 16 [(0,0),(1,0),(2,0),(3,0),(4,0),(5,0),(6,0),(7,0),(8,0),(9,0),(10,0),(11,0),(12,0),(13,0),(14,0),(15,0)]<|.mv Z<|.mv Z<|.nC Z<|.fA Z qV<|.lD Z xT iG Z<|.mv Z<|.nC Z<|.fA Z zX<|.lD Z bQ iG Z<|.yw (.indexSl AS Z Z (i:=M.own) Z aD (q:=oA+M.own * 1) Z)<|.yw (.loadM Z BA mA1 (k:=0) Z Z)<|.mv Z<|.yw (.indexSl yR Z Z (i:=k) Z aD (q:=oR+k * 1) Z)<|.yw (.loadM Z bQ mR1 (k:=0) Z Z)<|.nC Z<|.fA Z wC<|.fn (tl:=[_]) Z<|.st (l':=mkC (M.at k) (.slice (some ⟨bA,oA,none⟩) M.ars.length cA) bv left) iE Z Z iM Z (nb Z) Z<|.nt<|.sq<|.fL 10 [(0,0),(1,0),(2,0),(3,0),(4,0),(5,0),(6,0),(7,0),(8,0),(9,0)]<|.mv Z<|.fA Z FQ<|.lD Z qP Hm Z<|.fA Z FQ<|.lD Z qP Hm Z<|.yw (.lenSl rP Z)<|.yw (.xl Z (λW s=>AL H1 cd.bytes.length 40 W s.agr))<|.yw (.cutHi2 rP Z Z (h:=min cd.bytes.length 40) Z (by have:=hcb.len.2.1;omega))<|.nC Z<|.fA Z qT<|.fn (tl:=[_]) Z<|.st (l':=mkC (M.at k) (.slice (some ⟨bA,oA,none⟩) M.ars.length cA) _ left) iE Z Z KF Z (nb Z) Z<|.ns<|.mv Z<|.nC Z<|.fA Z wB<|.st (l':=mkC (M.at k) (.slice (some ⟨bA,oA,none⟩) M.ars.length cA) _ ((12:Nat):Int)) iE Z Z iM Z (nb Z) Z<|?_
  have hb40:=AH hcb (hi:=min cd.bytes.length 40) aD;rw [<-pU,WV] at hb40;refine .nt<|.fL 14 [(0,0),(2,0),(5,0),(6,0),(7,0),(8,0),(10,0),(1,1),(3,0),(4,0),(9,1),(11,3),(12,0),(13,1)]<|.mv Z<|.mv Z<|.mv Z<|.nC Z<|.fA Z wC<|.lD Z bQ iG Z<|.mv Z<|.xt (X:=Value) Z (λW s=>lZ H1 104 3 aD W s.agr) λv45 H45 hn45 u45=>?_
  obtain ⟨pn45,cn45,e45,_⟩:=hn45.sl;simp only [bV,dL,aP,jY] at e45;subst e45;obtain ⟨bN,oN,hpN,mN⟩:=uO hn45 (k:=k) hk3;subst hpN;refine .yw (.indexSl fD Z Z (i:=k) Z aD (q:=oN+k * 1) Z)<|.yw (.loadM Z bT mN (k:=0) Z Z)<|.xt (X:=Value) Z (λW s=>XQ H45 112 (arN M M.own k) aD W s.agr) λv53 H53 hp53 u53=>?_
  have hn53:Rep H53 (.seq 1 ((kZ 112 (arN M M.own k)).map zU)) [v53]:=by
   have h2:=Rep.ps_seq hp53;rw [tM] at h2;exact h2
  obtain ⟨pn53,cn53,e53,_⟩:=hn53.sl;simp only [bV,dL,aP,jY] at e53;subst e53;refine .x3 (X:=Value × Value × Hp) Z (λW s=>TB (M.at k) hokA 3 aS H53 w0 W _ b _ _ 12 (cd.bytes.take 40) aS (hAr.up (u1.trans (u45.trans u53)).up) (hb40.up (u45.trans u53).up)  (s.p3_3 [2,0,1] Z)) (λz55 hz55=>(.yv (.loadM Z bT (mN.up (u53.up.trans hz55.1.up)) (k:=0) Z Z)<|.yv (.indexSl fD Z Z (i:=k) Z aD (q:=oN+k * 1) Z)<|.d3<|.d2<|.yv (.move Z)<|.yv (.move Z)<|.nl)) λz55 hz55=>?_;obtain ⟨x55,v55,H55⟩:=z55;obtain ⟨u55,r55,q55,l55⟩:=hz55;dsimp only at u55 r55 q55|-;obtain ⟨pb55,cb55,eb55,_⟩:=r55.sl;simp only [bV,dL,aP] at eb55;subst eb55;exact .yw (.build Z (LR _ _ _ _ _ _ _))<|.bl Z (ZO _ _ _) Z λb57=>.fn (tl:=[_,_]) Z<|.ap (news:=[bJ (nmB 104 k),.slice pn53 (arN M M.own k) cn53,.slice pb55 (ZA (M.at k) 3 (cd.bytes.take 40,12)).1.length cb55]) aV1 Z (λ_=>lJ) Z (.box Hm z0) Z (by simp [Value.oneCell',bJ]) (by simp [maxLen];omega) aD Z λr58 _=>.a Z Z<|.nl<|.bN<|.tN<|.rg<|.yw (.add Z Z w7)<|.mv Z<|.nt<|.ag (x:=(k,pv,H1,r,xs,bv,left)) (k+1,arN M M.own k,H55,r58,xs++[bJ (nmB 104 k),.slice pn53 (arN M M.own k) cn53,.slice pb55 (ZA (M.at k) 3 (cd.bytes.take 40,12)).1.length cb55],v55,((ZA (M.at k) 3 (cd.bytes.take 40,12)).2.2:Nat)) ⟨Z,Z,Jt⟩ ⟨Z,Z,Z,Jt⟩ (λ_ s=>(s.p4_2 [3,1] Z)) ⟨by dsimp only;omega,u1.trans (u45.trans (u53.trans u55)),by dsimp only;rw [aR9 hk,hx,bI];exact (hz.up ((u45.trans (u53.trans u55)).up)).snoc (bW3 (x:=hdS M k cd) (by simp [hdS,nmB]) (by simpa [hdS,jY,dPs] using hp53.up u55.up) (by simpa [hdS] using r55)) Z⟩ (by dsimp only;omega)
 obtain rfl:k=l.length:=aD
 rw [bW] at hz;refine .ex<|.eb<|.sm Z<|.az Z<|?_
 refine At.pt (hd:=[_,_]) (tl:=bs) (hd':=[_,_]) [0,1] rfl rfl ?_;refine iI (ds:=(wR M 0 l).map (dHd .i64)) (by simp [AN]) hz λH3 p3 c3 u3 hr3 hs3=>?_;exact y9 Z Z λW t=>⟨(r,pv,H3,bv,left),⟨u1.trans u3,hs3⟩,Z,t⟩
structure Prt where
 ints:UInt8
 tables:UInt8
 hs:List Cd
 sec:List Cd
structure Pln where
 flags:UInt8
 links:Bs
 comps:List Prt
def LO (x:Prt):D:=.str [.val (.int .u8 x.ints.toNat),.val (.int .u8 x.tables.toNat),.seq 2 (x.hs.map dCd),.seq 2 (x.sec.map dCd)]
def aF1 (x:Pln):D:=.str [.val (.int .u8 x.flags.toNat),.seq 1 (x.links.map dU8),.seq 4 (x.comps.map LO)]
section
variable {H:Hp}
theorem XJ {x:Prt} {cs:List Value} (h:Rep H (LO x) cs):∃ p1 c1 p2 c2,cs=[.int .u8 x.ints.toNat,.int .u8 x.tables.toNat,.slice p1 x.hs.length c1,.slice p2 x.sec.length c2]/\Rep H (.seq 2 (x.hs.map dCd)) [.slice p1 x.hs.length c1]/\Rep H (.seq 2 (x.sec.map dCd)) [.slice p2 x.sec.length c2]:=by
 rw [LO,xF] at h;obtain ⟨_,rfl,_,_,h⟩:=dY.1 h;obtain ⟨_,rfl,_,_,h⟩:=dY.1 h;obtain ⟨p1,c1,_,rfl,k1,h⟩:=lT.1 h;obtain ⟨p2,c2,_,rfl,k2,h⟩:=lT.1 h;rw [iT] at h;subst h;exact ⟨p1,c1,p2,c2,by simp,(by simpa using k1),(by simpa using k2)⟩
theorem bC9 {x:Prt} {s1 s2:Value} (k1:Rep H (.seq 2 (x.hs.map dCd)) [s1]) (k2:Rep H (.seq 2 (x.sec.map dCd)) [s2]):Rep H (LO x) [.int .u8 x.ints.toNat,.int .u8 x.tables.toNat,s1,s2]:=by
 rw [LO,xF];exact dY.2 ⟨_,Z,Z,Jt,dY.2 ⟨_,Z,Z,Jt,jK.2 ⟨[s1],_,Z,k1,jK.2 ⟨[s2],_,Z,k2,iT.2 rfl⟩⟩⟩⟩
theorem cA3 {x:Cd} {s:Value} (k:Rep H (.seq 1 (x.bytes.map dU8)) [s]):Rep H (dCd x) [.int .u8 x.ps.toNat,s]:=by
 rw [dCd,xF];exact dY.2 ⟨_,Z,Z,Jt,jK.2 ⟨[s],_,Z,k,iT.2 rfl⟩⟩
theorem XL {x:Pln} {cs:List Value} (h:Rep H (aF1 x) cs):∃ p1 c1 p2 c2,cs=[.int .u8 x.flags.toNat,.slice p1 x.links.length c1,.slice p2 x.comps.length c2]/\Rep H (.seq 1 (x.links.map dU8)) [.slice p1 x.links.length c1]/\Rep H (.seq 4 (x.comps.map LO)) [.slice p2 x.comps.length c2]:=by
 rw [aF1,xF] at h;obtain ⟨_,rfl,_,_,h⟩:=dY.1 h;obtain ⟨p1,c1,_,rfl,k1,h⟩:=lT.1 h;obtain ⟨p2,c2,_,rfl,k2,h⟩:=lT.1 h;rw [iT] at h;subst h;exact ⟨p1,c1,p2,c2,by simp,(by simpa using k1),(by simpa using k2)⟩
end
def arK (x:Prt) (k:Nat):List Nat :=
 if h:k<x.hs.length then [x.hs[k].ps.toNat % 3] else if k=0 then [1] else if h:k<x.sec.length then [x.sec[k].ps.toNat % 3] else []
def QR (x:Prt) (m:Nat):List Nat:=(List.range m).flatMap (arK x)
def arP (x:Prt):List Nat:=QR x 3
theorem sC (x:Prt) (m:Nat):QR x (m+1)=QR x m++arK x m:=by simp [QR,kC]
theorem cL8 (x:Prt) (k:Nat):(arK x k).length<=1:=by
 unfold arK;split
 ·simp
 ·split
  ·simp
  ·split <;> simp
theorem ZB (x:Prt):∀ m,(QR x m).length<=m
 | 0=>by simp [QR]
 | m+1=>by
  rw [sC,aC];have:=ZB x m;have:=cL8 x m;omega
theorem cA7 {x:Prt} (h:n∈arK x k):n<=2:=by
 unfold arK at h
 split at h
 ·simp at h;omega
 ·split at h
  ·simp at h;omega
  ·split at h
   ·simp at h;omega
   ·simp at h
theorem aN4 {x:Prt} (h:n∈arP x):n<=2:=by
 obtain ⟨k,_,hk⟩:=List.mem_flatMap.1 h;exact cA7 hk
theorem VQ (x:Prt):(arP x).length=max 1 (max (min x.hs.length 3) (min x.sec.length 3)):=by
 have e:arP x=arK x 0++(arK x 1++arK x 2):=by simp [arP,QR,kC]
 have key:∀ k,(arK x k).length=if k<x.hs.length\/k=0\/k<x.sec.length then 1 else 0:=by
  intro k;unfold arK
  by_cases h1:k<x.hs.length
  ·rw [yY h1,aK (.inl h1)];rfl
  ·rw [qH h1]
   by_cases h2:k=0
   ·rw [aK h2,aK (.inr (.inl h2))];rfl
   ·rw [aA h2]
    by_cases h3:k<x.sec.length
    ·rw [yY h3,aK (.inr (.inr h3))];rfl
    ·rw [qH h3,aA aD];rfl
 rw [e,aC,aC,key,key,key];rw [aK (.inr (.inl Z))]
 split <;> split <;> omega
def fN (p:Pln):List Prt:=if p.comps.length=0 then [⟨0,0,[],[]⟩] else p.comps.take 3
theorem RY (p:Pln):0<(fN p).length/\(fN p).length<=3:=by
 unfold fN
 split
 ·simp
 ·simp only [dG];omega
def tU (k:Nat):Str:=[UInt8.ofNat (97+k)]
def aS5 (c:UInt8) (k:Nat):Fg:=⟨nmB 102 k,decide (((c.toNat / 2 ^ (4+k) % 2:Nat):Int)=1)⟩
def LG (c:UInt8) (n:Nat):List Fg:=(List.range n).map (aS5 c)
theorem aE6 (c:UInt8) (n:Nat):LG c (n+1)=LG c n++[aS5 c n]:=by simp [LG,kC]
theorem aS4 (c:UInt8) (n:Nat):(LG c n).length=n:=by simp [LG]
def XT (n:Nat) (l:Bs) (k:Nat):List Lk:=if 0<(l.getD k 0).toNat % 4 then [⟨tU (k / n),tU (k % n),Int64.ofNat ((l.getD k 0).toNat % 4)⟩] else []
def CF (n:Nat) (l:Bs) (m:Nat):List Lk:=(List.range m).flatMap (XT n l)
theorem yH (n:Nat) (l:Bs) (m:Nat):CF n l (m+1)=CF n l m++XT n l m:=by simp [CF,kC]
theorem SE (n:Nat) (l:Bs):∀ m,(CF n l m).length<=m
 | 0=>by simp [CF]
 | m+1=>by
  rw [yH,aC];have:=SE n l m;have:(XT n l m).length<=1:=by unfold XT;split <;> simp
  omega
def rO (x:Prt):Nat:=1+x.ints.toNat % 3
def vF (x:Prt):Nat:=x.tables.toNat % 2
def vrI (k:Nat):Vr:=⟨nmB 120 k,1,Int64.ofNat k⟩
def bQ5 (k:Nat):Vr:=⟨nmB 116 k,3,0⟩
def QC (n:Nat):List Vr:=(List.range n).map vrI
def TU (n:Nat):List Vr:=(List.range n).map bQ5
theorem aO6 (n:Nat):QC (n+1)=QC n++[vrI n]:=by simp [QC,kC]
theorem aO5 (n:Nat):TU (n+1)=TU n++[bQ5 n]:=by simp [TU,kC]
def vrB:Vr:=⟨[98,48],2,0⟩
def FG (x:Prt):List Vr:=QC (rO x)++[vrB]++TU (vF x)
theorem WK (n:Nat):(QC n).length=n:=by simp [QC]
theorem WJ (n:Nat):(TU n).length=n:=by simp [TU]
def mkP (ars:List (List Nat)) (nf i:Nat) (x:Prt):Mk:={ ints:=rO x,tables:=vF x,flags:=nf,own:=i,ars:=ars,params:=0 }
def JQ (x:Prt):List Cd:=if x.hs.length=0 then [⟨1,[]⟩] else x.hs.take 3
def CO (M:Mk) (x:Prt):List (List Hd):=wR M 0 (JQ x)::(if 0<x.sec.length then [wR M 0 (x.sec.take 3)] else [])
def bM2 (ars:List (List Nat)) (nf i:Nat) (x:Prt):Cp:=⟨tU i,FG x,CO (mkP ars nf i x) x⟩
def DN (ars:List (List Nat)) (nf:Nat) (l:List Prt):List Cp:=l.mapIdx (λi x=>bM2 ars nf i x)
theorem aF5 {ars:List (List Nat)} {nf:Nat} {l:List Prt} (h:k<l.length):DN ars nf (l.take (k+1))=DN ars nf (l.take k)++[bM2 ars nf k l[k]]:=by
 unfold DN;rw [tX h,List.mapIdx_append];simp [iK (tK h)]
theorem SY (ars:List (List Nat)) (nf:Nat) (l:List Prt):(DN ars nf l).length=l.length:=by simp [DN]
def DJ:Str:=[102,108,101,101,116,49]
def sM (p:Pln):List (List Nat):=(fN p).map arP
def KB (p:Pln):Ft :=
 ⟨DJ,LG p.flags (p.flags.toNat % 3),CF (fN p).length p.links (min p.links.length ((fN p).length * (fN p).length)),DN (sM p) (p.flags.toNat % 3) (fN p)⟩
theorem sF:jI prg 115=some none:=by kernel_rfl
theorem wD:dU prg 117 2=some 2:=by kernel_rfl
theorem tC:dU prg 117 3=some 3:=by kernel_rfl
theorem FU:dU prg 135 0=some 0:=by kernel_rfl
theorem KI:tQ prg 124=some (3,1,8):=by kernel_rfl
theorem ED (x0:Int):pG prg 124 1 [(0,.int .i64 x0)]=some (3,[.int .i64 x0]):=by kernel_rfl
theorem OC (n:Nat):Rep H (VK n) [iN n]:=cF4 rfl trivial
theorem aT9 (H:Hp) (x:Prt) (cs:List Value) (w:World) (h:Rep H (LO x) cs) (hA:Agr H w):Calls prg 61 #[.agg cs.toArray] w λr w'=>∃ (v:Value) (H':Hp),Rep H' (.seq 1 ((arP x).map VK)) [v]/\r=.returned v/\wV H w H' w':=by
 obtain ⟨p1,c1,p2,c2,rfl,h1,h2⟩:=XJ h;have hcap1:=h1.cap;have hcap2:=h2.cap;refine Sx.enter (H:=H) func61 rfl ntmps61 rfl hA ?_;refine .sr<|.bx Z Z Z λb1=>.a Z Z<|.ns<|.a Z Z<|?_
 refine Sx.row0 3 1 ?_;refine .nt<|.sq<|.sr<|.aq Z<|.bk<|.lp (X:=Nat × Nat × Value × List Value) [(1,_)] ⟨Z,Jt⟩ [_] (λz=>[(3,z.2.2.1),(4,iN z.1)]) (λz=>H) (λz=>[.row 3 1 z.2.2.1 z.2.1 z.2.2.2]) (λz=>z.1<=3/\z.2.1=(QR x z.1).length/\dT H 1 ((QR x z.1).map VK) z.2.2.2) (λz=>3 - z.1) (0,0,cL,[]) (λ_ s=>s) ⟨Z,Z,Jt⟩ ⟨by simp,Z,dT.nil⟩ λz hC=>?_
 obtain ⟨k,n,r,xs⟩:=z;dsimp only at hC|-;obtain ⟨hk0,hn,hz⟩:=hC;have hn3:=ZB x k;refine .sq<|.sm Z<|.yw (.lss Z Z)<|.nt<|.ce Z (λh6=>?_) (λh6=>?_)
 ·have hk3:k<3:=aD
  refine .sk<|.tN<|.sq<|.bk<|.bk<|.sm Z<|.fA Z wD<|.lD Z sF cU Z<|.yw (.lenSl qO Z)<|.yw (.lss Z Z)<|.aq Z<|.ce Z (λh9=>?_) (λh9=>?_)
  ·have hk:k<x.hs.length:=aD
   obtain ⟨bE,oE,cE,hpE,rE,lE,mE⟩:=h1.elem (eR (f:=dCd) hk);cases hpE;obtain ⟨pc,cc,rfl,_⟩:=VL rE;exact .rg<|.mv Z<|.fA Z wD<|.lD Z sF cU Z<|.mv Z<|.yw (.indexSl qO Z Z Z aD (q:=oE+k * 2) Z)<|.fA Z FU<|.yw (.loadM Z nM mE (k:=0) Z Z)<|.yw (.rem Z Z aS (c:=((x.hs[k].ps.toNat % 3:Nat):Int)) (by rw [dJ aD];omega))<|.yw (.conv Z kN kG (c:=((x.hs[k].ps.toNat % 3:Nat):Int)) (w6 aD))<|.bl Z (ED _) Z λb24=>.ap (news:=[iN (x.hs[k].ps.toNat % 3)]) KI Z (λ_=>iJ) Z (.box Hm z0) Z (by simp [Value.oneCell']) (by simp [maxLen];omega) aD Z λr25 _=>.a Z Z<|.nl<|.bN<|.bN<|.tN<|.rg<|.mv Z<|.yw (.add Z Z w7)<|.aq Z<|.ag (x:=(k,n,r,xs)) (k+1,n+1,r25,xs++[iN (x.hs[k].ps.toNat % 3)]) ⟨Z,Z,Jt⟩ ⟨Z,Jt⟩ (λ_ s=>(s.pick [1,2] _ Z Z)) (by have hA1:arK x k=[x.hs[k].ps.toNat % 3]:=(by unfold arK;rw [yY hk]);exact ⟨by dsimp only;omega,by dsimp only;rw [sC,hA1];simp [hn],by dsimp only;rw [sC,hA1,bI];exact hz.snoc (OC _) Z⟩) (by dsimp only;omega)
  have hna:¬ k<x.hs.length:=aD
  refine .sm Z<|.yw (.eql Z Z)<|.aq Z<|.ce Z (λh26=>?_) (λh26=>?_)
  ·have hb:k=0:=aD
   exact .rg<|.mv Z<|.bl Z (ED _) Z λb30=>.ap (news:=[iN 1]) KI Z (λ_=>iJ) Z (.box Hm z0) Z (by simp [Value.oneCell']) (by simp [maxLen];omega) aD Z λr31 _=>.a Z Z<|.nl<|.bN<|.bN<|.tN<|.rg<|.mv Z<|.yw (.add Z Z w7)<|.aq Z<|.ag (x:=(k,n,r,xs)) (k+1,n+1,r31,xs++[iN 1]) ⟨Z,Z,Jt⟩ ⟨Z,Jt⟩ (λ_ s=>(s.pick [1,2] _ Z Z)) (by have hA1:arK x k=[1]:=(by unfold arK;rw [qH hna,aK hb]);exact ⟨by dsimp only;omega,by dsimp only;rw [sC,hA1];simp [hn],by dsimp only;rw [sC,hA1,bI];exact hz.snoc (OC _) Z⟩) (by dsimp only;omega)
  have hnb:¬ k=0:=aD
  refine .sm Z<|.fA Z tC<|.lD Z sF cU Z<|.yw (.lenSl qO Z)<|.yw (.lss Z Z)<|.aq Z<|.ce Z (λh32=>?_) (λh32=>?_)
  ·have hk:k<x.sec.length:=aD
   obtain ⟨bE,oE,cE,hpE,rE,lE,mE⟩:=h2.elem (eR (f:=dCd) hk);cases hpE;obtain ⟨pc,cc,rfl,_⟩:=VL rE;exact .rg<|.mv Z<|.fA Z tC<|.lD Z sF cU Z<|.mv Z<|.yw (.indexSl qO Z Z Z aD (q:=oE+k * 2) Z)<|.fA Z FU<|.yw (.loadM Z nM mE (k:=0) Z Z)<|.yw (.rem Z Z aS (c:=((x.sec[k].ps.toNat % 3:Nat):Int)) (by rw [dJ aD];omega))<|.yw (.conv Z kN kG (c:=((x.sec[k].ps.toNat % 3:Nat):Int)) (w6 aD))<|.bl Z (ED _) Z λb47=>.ap (news:=[iN (x.sec[k].ps.toNat % 3)]) KI Z (λ_=>iJ) Z (.box Hm z0) Z (by simp [Value.oneCell']) (by simp [maxLen];omega) aD Z λr48 _=>.a Z Z<|.nl<|.bN<|.bN<|.tN<|.rg<|.mv Z<|.yw (.add Z Z w7)<|.aq Z<|.ag (x:=(k,n,r,xs)) (k+1,n+1,r48,xs++[iN (x.sec[k].ps.toNat % 3)]) ⟨Z,Z,Jt⟩ ⟨Z,Jt⟩ (λ_ s=>(s.pick [1,2] _ Z Z)) (by have hA1:arK x k=[x.sec[k].ps.toNat % 3]:=(by unfold arK;rw [qH hna,aA hnb,yY hk]);exact ⟨by dsimp only;omega,by dsimp only;rw [sC,hA1];simp [hn],by dsimp only;rw [sC,hA1,bI];exact hz.snoc (OC _) Z⟩) (by dsimp only;omega)
  have hnc:¬ k<x.sec.length:=aD
  exact .sk<|.bN<|.bN<|.tN<|.rg<|.mv Z<|.yw (.add Z Z w7)<|.aq Z<|.ag (x:=(k,n,r,xs)) (k+1,n,r,xs) ⟨Z,Z,Jt⟩ ⟨Z,Jt⟩ (λ_ s=>(s.pick [0,1] _ Z Z)) (by have hA1:arK x k=[]:=(by unfold arK;rw [qH hna,aA hnb,qH hnc]);exact ⟨by dsimp only;omega,by dsimp only;rw [sC,hA1,eL];exact hn,by dsimp only;rw [sC,hA1,eL];exact hz⟩) (by dsimp only;omega)
 obtain rfl:k=3:=aD
 refine .ex<|.eb<|.sm Z<|.az Z<|?_
 refine At.pm [0] [_] rfl rfl ?_;refine iI (ds:=(QR x 3).map VK) (by simp [hn]) hz λH3 p3 c3 u3 hr3 hs3=>?_;exact y9 Z Z λW t=>⟨r,H3,hs3,Z,u3.grow t⟩
theorem kO:jI prg 74=some none:=by kernel_rfl
theorem AV:kM prg 52=true:=by kernel_rfl
theorem hP:dU prg 76 0=some 0:=by kernel_rfl
theorem gN:dU prg 76 1=some 1:=by kernel_rfl
theorem gS:dU prg 76 2=some 2:=by kernel_rfl
theorem ZZ:jI prg 51=some none:=by kernel_rfl
theorem AZ:jI prg 55=some none:=by kernel_rfl
theorem bP6:jI prg 56=some none:=by kernel_rfl
theorem IW:jI prg 57=some none:=by kernel_rfl
theorem QB:jI prg 59=some (some 4):=by kernel_rfl
theorem KN:jI prg 117=some (some 4):=by kernel_rfl
theorem sE:jI prg 126=some none:=by kernel_rfl
theorem uA:jI prg 127=some none:=by kernel_rfl
theorem qY:jI prg 129=some (some 3):=by kernel_rfl
theorem IT:dU prg 53 0=some 0:=by kernel_rfl
theorem BX:dU prg 53 1=some 1:=by kernel_rfl
theorem IS:dU prg 53 2=some 2:=by kernel_rfl
theorem qF:dU prg 59 1=some 1:=by kernel_rfl
theorem IR:dU prg 59 2=some 2:=by kernel_rfl
theorem uV:dU prg 59 3=some 3:=by kernel_rfl
theorem FZ:dU prg 117 0=some 0:=by kernel_rfl
theorem FY:dU prg 117 1=some 1:=by kernel_rfl
theorem jC:dU prg 129 1=some 1:=by kernel_rfl
theorem kH:dU prg 129 2=some 2:=by kernel_rfl
theorem bP3:tQ prg 55=some (120,2,24):=by kernel_rfl
theorem bP2:tQ prg 56=some (122,3,40):=by kernel_rfl
theorem bP1:tQ prg 57=some (129,3,64):=by kernel_rfl
theorem aV2:tQ prg 123=some (124,1,24):=by kernel_rfl
theorem KH:tQ prg 126=some (131,3,32):=by kernel_rfl
theorem TO:tQ prg 127=some (136,1,24):=by kernel_rfl
theorem aU7:gQ prg 55=some 1:=by kernel_rfl
theorem aU6:gQ prg 56=some 1:=by kernel_rfl
theorem aU5:gQ prg 57=some 1:=by kernel_rfl
theorem TN:gQ prg 59=some 4:=by kernel_rfl
theorem PP:gQ prg 117=some 4:=by kernel_rfl
theorem GZ:gQ prg 126=some 1:=by kernel_rfl
theorem PO:gQ prg 127=some 1:=by kernel_rfl
theorem BV:gQ prg 129=some 3:=by kernel_rfl
theorem aH2:gQ prg 133=some 8:=by kernel_rfl
theorem EU:slN prg 51=some 4:=by kernel_rfl
theorem NA:slN prg 55=some 2:=by kernel_rfl
theorem TK:nA prg 59=some
 [Go.Value.string { data:={ toList:=[] } },Go.Value.slice none 0 0,Go.Value.slice none 0 0,
  Go.Value.slice none 0 0]:=by kernel_rfl
theorem PN:nA prg 117=some
 [Go.Value.int Go.IntKind.u8 (Int.ofNat 0),Go.Value.int Go.IntKind.u8 (Int.ofNat 0),Go.Value.slice none 0 0,
  Go.Value.slice none 0 0]:=by kernel_rfl
theorem BT:nA prg 129=some
 [Go.Value.string { data:={ toList:=[] } },Go.Value.slice none 0 0,Go.Value.slice none 0 0]:=by kernel_rfl
theorem aG9:nA prg 133=some
 [Go.Value.int Go.IntKind.i64 (Int.ofNat 0),Go.Value.int Go.IntKind.i64 (Int.ofNat 0),
  Go.Value.int Go.IntKind.i64 (Int.ofNat 0),Go.Value.int Go.IntKind.i64 (Int.ofNat 0),
  Go.Value.slice none 0 0,Go.Value.int Go.IntKind.i64 (Int.ofNat 0),Go.Value.slice none 0 0,
  Go.Value.int Go.IntKind.i64 (Int.ofNat 0)]:=by kernel_rfl
theorem aW3  : eX prg 117 []=some [.int .u8 0,.int .u8 0,cL,cL]:=by kernel_rfl
theorem RD (x0:ByteArray) (x1:Bool):eX prg 120 [(0,.string x0),(1,.bool x1)]=some [.string x0,.bool x1]:=by kernel_rfl
theorem LS (x0 x1:ByteArray) (x2:Int):eX prg 122 [(0,.string x0),(1,.string x1),(2,.int .i64 x2)]=some [.string x0,.string x1,.int .i64 x2]:=by kernel_rfl
theorem ZW (x0:ByteArray):eX prg 129 [(0,.string x0)]=some [.string x0,cL,cL]:=by kernel_rfl
theorem wX (x0:ByteArray) (x1 x2:Int):eX prg 131 [(0,.string x0),(1,.int .i64 x1),(2,.int .i64 x2)]=some [.string x0,.int .i64 x1,.int .i64 x2]:=by kernel_rfl
theorem FD (x0 x1 x2 x3:Int) (x4p:Option Addr) (x4n x4c:Nat):eX prg 133 [(0,.int .i64 x0),(1,.int .i64 x1),(2,.int .i64 x2),(3,.int .i64 x3),(4,.slice x4p x4n x4c)]=some [.int .i64 x0,.int .i64 x1,.int .i64 x2,.int .i64 x3,.slice x4p x4n x4c,.int .i64 0,cL,.int .i64 0]:=by kernel_rfl
theorem ZV (x0:Int):eX prg 135 [(0,.int .u8 x0)]=some [.int .u8 x0,cL]:=by kernel_rfl
theorem aI8 (x0:ByteArray):eX prg 59 [(0,.string x0)]=some [.string x0,cL,cL,cL]:=by kernel_rfl
theorem ZS (x00 x01:Value):pG prg 115 1 [(0,.agg [x00,x01].toArray)]=some (135,[x00,x01]):=by kernel_rfl
theorem ZR (x0p:Option Addr) (x0n x0c:Nat):pG prg 123 1 [(0,.slice x0p x0n x0c)]=some (124,[.slice x0p x0n x0c]):=by kernel_rfl
theorem EC (x00 x01 x02:Value):pG prg 126 1 [(0,.agg [x00,x01,x02].toArray)]=some (131,[x00,x01,x02]):=by kernel_rfl
theorem LL (x0p:Option Addr) (x0n x0c:Nat):pG prg 127 1 [(0,.slice x0p x0n x0c)]=some (136,[.slice x0p x0n x0c]):=by kernel_rfl
theorem aI5 (x00 x01 x02 x03:Value):pG prg 51 1 [(0,.agg [x00,x01,x02,x03].toArray)]=some (117,[x00,x01,x02,x03]):=by kernel_rfl
theorem aI4 (x00 x01:Value):pG prg 55 1 [(0,.agg [x00,x01].toArray)]=some (120,[x00,x01]):=by kernel_rfl
theorem aI3 (x00 x01 x02:Value):pG prg 56 1 [(0,.agg [x00,x01,x02].toArray)]=some (122,[x00,x01,x02]):=by kernel_rfl
theorem aI2 (x00 x01 x02:Value):pG prg 57 1 [(0,.agg [x00,x01,x02].toArray)]=some (129,[x00,x01,x02]):=by kernel_rfl
theorem fd2 (a m:Nat):Int.fdiv (a:Int) (2 ^ m)=((a / 2 ^ m:Nat):Int):=by
 rw [Int.fdiv_eq_ediv_of_nonneg _ (Int.pow_nonneg aS)];rw [Int.natCast_ediv,Int.natCast_pow];rfl
theorem tm2 (a b:Nat):Int.tmod (a:Int) (b:Int)=((a % b:Nat):Int):=by
 rw [dJ (Int.natCast_nonneg _)];rfl
theorem cS8 (h:n<=3):IntKind.i64.wrap ((n:Int) * n)=((n * n:Nat):Int):=by
 have key:∀ i∈List.range 4,IntKind.i64.wrap ((i:Int) * i)=((i * i:Nat):Int):=aS
 exact key n (bZ.2 aD)
theorem cS4 {a:Nat} (h:a / b<3):IntKind.i64.wrap (Int.tdiv (a:Int) (b:Int))=((a / b:Nat):Int):=by
 rw [jO (Int.natCast_nonneg _),show (a:Int) / (b:Int)=((a / b:Nat):Int) from rfl];have h3:∀ n:Nat,n<3->IntKind.i64.wrap (n:Int)=(n:Int):=λn hn=>w64 aD aD;exact h3 _ h
theorem JG {α β:Type} {f:α->β} (l:List α) (n:Nat):(l.map f).take (min l.length n)=(l.map f).take n:=by
 have:=WV (l.map f) n
 rwa [aP] at this
theorem aY5 (h:j<10):Rep H (dVr .i64 (vrI j)) [bJ (nmB 120 j),.int .i64 1,iN j]:=by
 have:=TV (H:=H) (k:=.i64) (x:=vrI j) (by simp [vrI,nmB]);have e:(Int64.ofNat j).toInt=(j:Int):=iC aD;rw [show (vrI j).init.toInt=(j:Int) from e] at this;exact this
theorem bG4 (a b:Nat) (h:n<4):Rep H (dLk ⟨tU a,tU b,Int64.ofNat n⟩) [bJ (tU a),bJ (tU b),iN n]:=by
 have:=bV9 (H:=H) (x:=⟨tU a,tU b,Int64.ofNat n⟩) (by simp [tU]) (by simp [tU]);have e:(Int64.ofNat n).toInt=(n:Int):=iC aD;simp only [e] at this;exact this
theorem bV8 {l:Bs} (hk:k<l.length) (h:¬ 0<l[k].toNat % 4):XT n l k=[]:=by unfold XT;rw [nY hk,aA h]
theorem bG3 {l:Bs} (hk:k<l.length) (h:0<l[k].toNat % 4):XT n l k=[⟨tU (k / n),tU (k % n),Int64.ofNat (l[k].toNat % 4)⟩]:=by unfold XT;rw [nY hk,aK h]
theorem cG8 {p:Pln} {x:Prt} (hk:k<(fN p).length) (hf:p.flags.toNat % 3<=2) (hpos:0<(fN p).length/\(fN p).length<=3) (hi:0<rO x/\rO x<=3):okB (mkP (sM p) (p.flags.toNat % 3) k x):=by
 refine ⟨hi.1,hi.2,hf,by simpa [mkP,sM] using hpos.1,by simpa [mkP,sM] using hpos.2,by simpa [mkP,sM] using hk,?_⟩;intro l hl;obtain ⟨y,_,rfl⟩:=jX.1 hl;have:=VQ y;exact ⟨aD,aD,λn hn=>aN4 hn⟩
theorem bW9 {p:Pln} {nf:Nat} {x:Prt} (hk:k<(fN p).length) (h:(sM p).getD k []=arP x):(JQ x).length<=arL (mkP (sM p) nf k x) (mkP (sM p) nf k x).own:=by
 show _<=((sM p).getD k []).length;rw [h,VQ];unfold JQ
 split
 ·simp;omega
 ·rw [dG];omega
theorem bU3 {p:Pln} {nf:Nat} {x:Prt} (hk:k<(fN p).length) (h:(sM p).getD k []=arP x):(x.sec.take 3).length<=arL (mkP (sM p) nf k x) (mkP (sM p) nf k x).own:=by
 show _<=((sM p).getD k []).length;rw [h,VQ,dG];omega
theorem SH (M:Mk) (n:Nat):∀ (l:List Cd) (k:Nat),wR { M with params:=n } k l=wR M k l
 | [],_=>rfl
 | c::r,k=>by rw [wR,wR,SH M n r (k+1)];rfl
variable {v:Value}
theorem bI1 {l:List Cd} (h:Rep H (.seq 3 ((wR { M with params:=n } 0 l).map (dHd .i64))) [v]):Rep H (dVs .i64 (wR M 0 l)) [v]:=by rwa [SH] at h
set_option maxHeartbeats 8000000 in
theorem aF8 (H:Hp) (p:Pln) (cs:List Value) (w:World) (h:Rep H (aF1 p) cs) (hA:Agr H w):Calls prg 28 #[.agg cs.toArray] w λr w'=>∃ (v:List Value) (H':Hp),Rep H' (dFt .i64 (KB p)) v/\r=.returned (.agg v.toArray)/\wV H w H' w':=by
 obtain ⟨p1,c1,p2,c2,rfl,h1,h2⟩:=XL h;have hcap1:=h1.cap;have hcap2:=h2.cap;refine Sx.enter (H:=H) func28 rfl ntmps28 rfl hA ?_;refine .sr<|.bx Z Z Z λb1=>.al TK Z λb2=>.ns<|.fA Z IS<|.lD Z ZZ cU Z<|.yw (.lenSl EU Z)<|.yw (.xl Z (λW s=>AL H p.comps.length 3 W s.agr))<|.a Z Z<|.ns<|.fA Z IS<|.lD Z ZZ cU Z<|.mv Z<|.yw (.cutHi2 EU Z Z (h:=min p.comps.length 3) Z (by have:=h2.len.2.1;omega))<|.aq Z<|.cu (X:=Nat × Hp × Value) [(1,_),(2,_)] ⟨Z,Z,Jt⟩ (λz=>[(3,iN z.1),(4,z.2.2)]) (λz=>z.2.1) (λz=>[.box b1 [.int .u8 p.flags.toNat,.slice p1 p.links.length c1,.slice p2 p.comps.length c2] 53,.box b2 [dV,cL,cL,cL] 59]) (λz=>z.1=(fN p).length/\HUp w H z.2.1/\Rep z.2.1 (.seq 4 ((fN p).map LO)) [z.2.2]) ?_ λz hC=>?_
 ·
  refine .sm Z<|.yw (.eql Z Z)<|.nt<|.ce Z (λh31=>?_) (λh31=>?_)
  ·have h0:p.comps.length=0:=aD
   refine .rg<|.yw (.build Z aW3)<|.bl Z (aI5 _ _ _ _) Z λb33=>?_
   refine Sx.freezeBoxN λH1 u1 m1=>?_;exact .a Z Z<|.aq Z<|.me (1,H1,_) ⟨Z,Z,Jt⟩ ⟨Z,Z,Jt⟩ (λ_ s=>s.pick [1,0] [_,_] Z Z) ⟨by rw [fN,aK h0];rfl,u1,by rw [fN,aK h0];exact Rep.mk (n:=1) (c:=1) m1 (.single (bC9 (x:=⟨0,0,[],[]⟩) (Rep.empty aS) (Rep.empty aS)) Z) Z (aY _) aS⟩
  have h0:¬ p.comps.length=0:=aD
  exact .sk<|.tN<|.me (min p.comps.length 3,H,_) ⟨Z,Z,Jt⟩ ⟨Z,Z,Jt⟩ (λ_ s=>s.pick [1,0] [_,_] Z Z) ⟨by rw [fN,aA h0,dG];exact Nat.min_comm _ _,.refl,by rw [fN,aA h0,pU];have:=AH h2 (hi:=min p.comps.length 3) aD;rw [JG] at this;exact this⟩
 obtain ⟨N,H1,pv⟩:=z;dsimp only at hC|-;obtain ⟨hN,u1,hps⟩:=hC;obtain ⟨pp,cp,e,_⟩:=hps.sl;simp only [bV,dL,aP] at e;subst e;subst hN;have hpos:=RY p;have hl1:=h1.up u1.up;have hpcap:=hps.cap;have hf3:p.flags.toNat % 3<=2:=aD
 refine .sr<|.yw (.build Z (aI8 _))<|.al TK Z λb5=>.sX .head Z Z TN Z<|.nt<|.sq<|.sr<|.fA Z IT<|.lD Z nM cU Z<|.yw (.rem Z Z aS (c:=((p.flags.toNat % 3:Nat):Int)) (by rw [dJ aD];omega))<|.yw (.conv Z kN kG (c:=((p.flags.toNat % 3:Nat):Int)) (w6 aD))<|.xt (X:=Value) Z (λW s=>lZ H1 102 (p.flags.toNat % 3) aD W s.agr) λv39 H39 hn39 u39=>?_
 obtain ⟨pn39,cn39,e39,_⟩:=hn39.sl;simp only [bV,dL,aP,jY] at e39;subst e39;refine .yw (.lenSl fD Z)<|.mv Z<|?_
 refine Sx.row0 120 2 ?_;refine .nt<|.bk<|.lp (X:=Nat × Value × List Value) [(1,_),(2,_),(3,_),(4,_),(5,_),(39,_),(40,_)] ⟨Z,Z,Z,Z,Z,Z,Z,Jt⟩ [_,_] (λz=>[(41,iN z.1)]) (λz=>H39) (λz=>[.row 120 2 z.2.1 z.1 z.2.2,.box b5 [bJ DJ,z.2.1,cL,cL] 59]) (λz=>z.1<=(p.flags.toNat % 3)/\dT H39 2 ((LG p.flags z.1).map dFg) z.2.2) (λz=>(p.flags.toNat % 3) - z.1) (0,cL,[]) (λ_ s=>s) ⟨Z,Jt⟩ ⟨by simp,dT.nil⟩ λz hC=>?_
 obtain ⟨k,r,xs⟩:=z;dsimp only at hC|-;obtain ⟨hk0,hz⟩:=hC;refine .sr<|.yw (.lss Z Z)<|.nt<|.sq<|.ce Z (λh42=>?_) (λh42=>?_)
 ·have hk:k<(p.flags.toNat % 3):=aD
  obtain ⟨bE,oE,hpE,mE⟩:=uO hn39 (k:=k) hk;subst hpE;exact .sk<|.tN<|.sq<|.bk<|.sm Z<|.yw (.indexSl fD Z Z (i:=k) Z aD (q:=oE+k * 1) Z)<|.yw (.loadM Z bT mE (k:=0) Z Z)<|.a Z Z<|.aq Z<|.fL 12 [(0,0),(1,0),(2,0),(3,0),(4,0),(5,0),(6,0),(7,0),(8,0),(9,0),(10,0),(11,1)]<|.fA Z qF<|.lD Z AZ cU Z<|.mv Z<|.fA Z IT<|.lD Z nM iG Z<|.mv Z<|.yw (.add Z Z (c:=((4+k:Nat):Int)) ((w6 aD).trans aD))<|.yw (.shr Z Z (m:=4+k) Z (by show 4+k<=8;omega) (c:=((p.flags.toNat / 2 ^ (4+k):Nat):Int)) (fd2 _ _))<|.yw (.rem Z Z aS (c:=((p.flags.toNat / 2 ^ (4+k) % 2:Nat):Int)) (tm2 _ 2))<|.yw (.eql Z Z)<|.yw (.build Z (RD _ _))<|.bl Z (aI4 _ _) Z λb57=>.fn (tl:=[_,_,_]) Z<|.ap (news:=[bJ (nmB 102 k),.bool (aS5 p.flags k).init]) bP3 Z (λ_=>iJ) Z (.box Hm z0) Z (by simp [Value.oneCell',bJ,tU]) (by simp [maxLen];omega) aD Z λr58 _=>.ra cU λp58 c58 e58=>.fA Z qF<|.st iE Z Z aU7 (by rw [e58];rfl) (nb Z) Z<|.nl<|.bN<|.tN<|.rg<|.yw (.add Z Z w7)<|.mv Z<|.nt<|.ag (x:=(k,r,xs)) (k+1,r58,xs++[bJ (nmB 102 k),.bool (aS5 p.flags k).init]) ⟨Z,Jt⟩ ⟨Z,Z,Z,Z,Z,Z,Z,Jt⟩ (λ_ s=>(s.pick [1,2,3,4] _ Z Z)) ⟨by dsimp only;omega,by dsimp only;rw [aE6,bI];exact hz.snoc (bX4 (x:=aS5 p.flags k) (by simp [aS5,nmB])) Z⟩ (by dsimp only;omega)
 obtain rfl:k=(p.flags.toNat % 3):=aD
 refine iI (ds:=(LG p.flags (p.flags.toNat % 3)).map dFg) (by simp [aS4]) hz λH4 p4 c4 u4 e4 hfl=>?_;subst e4;refine .ex<|.eb<|.sr<|.bl Z (BZ _ _ _) Z λb61=>?_
 refine xP λH5 u5 m5=>?_;refine .aq Z<|.sq<|.sr<|.a Z Z<|?_
 refine Sx.row0 122 3 ?_;have hl5:=h1.up (u1.trans (u39.trans (u4.trans u5))).up;obtain ⟨NN,hNN⟩:∃ NN,NN=(fN p).length * (fN p).length:=⟨_,Z⟩;have hN9:NN<=9:=by rw [hNN];exact IX hpos.2 hpos.2
 refine .nt<|.bk<|.lp (X:=Nat × Nat × Value × List Value) [(1,_),(2,_),(3,_),(4,_),(5,_),(8,_)] ⟨Z,Z,Z,Z,Z,Z,Jt⟩ [_,_] (λz=>[(9,iN z.1)]) (λz=>H5) (λz=>[.row 122 3 z.2.2.1 z.2.1 z.2.2.2,.box b5 [bJ DJ,.slice p4 (p.flags.toNat % 3) c4,z.2.2.1,cL] 59]) (λz=>z.1<=p.links.length/\z.1<=NN/\z.2.1=(CF (fN p).length p.links z.1).length/\dT H5 3 ((CF (fN p).length p.links z.1).map dLk) z.2.2.2) (λz=>p.links.length - z.1) (0,0,cL,[]) (λ_ s=>s) ⟨Z,Jt⟩ ⟨by simp,by simp,Z,dT.nil⟩ λz hC=>?_
 obtain ⟨k,m,r,xs⟩:=z;dsimp only at hC|-;obtain ⟨hk0,hk1,hm,hz⟩:=hC;have hmk:=SE (fN p).length p.links k;refine .sq<|.cu (X:=Bool) [(1,_),(2,_),(3,_),(4,_),(5,_),(8,_),(9,_)] ⟨Z,Z,Z,Z,Z,Z,Z,Jt⟩ (λz=>[(73,.bool z)]) (λz=>H5) (λz=>[.row 122 3 r m xs,.box b5 [bJ DJ,.slice p4 (p.flags.toNat % 3) c4,r,cL] 59,.box b2 [dV,cL,cL,cL] 59,.box b1 [.int .u8 p.flags.toNat,.slice p1 p.links.length c1,.slice p2 p.comps.length c2] 53]) (λz=>z=decide (k<p.links.length/\k<NN)) ?_ λz hC=>?_
 ·
  refine .rg<|.mv Z<|.fA Z BX<|.lD Z qP iG Z<|.yw (.lenSl rP Z)<|.yw (.lss Z Z)<|.mv Z<|.e2 (λh67=>?_) (λh67=>?_)
  ·exact .gy (.move Z)<|.gy (.move Z)<|.gy (.move Z)<|.gy (.mul Z Z (c:=((NN:Nat):Int)) (by rw [hNN];exact cS8 hpos.2))<|.gy (.lss Z Z)<|.pT Z<|.nt<|.me _ ⟨Z,Jt⟩ ⟨Z,Z,Z,Z,Z,Z,Z,Jt⟩ (λ_ s=>s.pick [0,1,3,2] [_,_,_,_] Z Z) (by rw [aQ,aB];first | (rw [aB];omega) | exact ⟨λ_=>by omega,λ_=>rfl⟩ | exact ⟨λh=>(by cases h),λh=>by omega⟩)
  exact .g4<|.gG<|.pF Z<|.nt<|.me _ ⟨Z,Jt⟩ ⟨Z,Z,Z,Z,Z,Z,Z,Jt⟩ (λ_ s=>s.pick [0,1,3,2] [_,_,_,_] Z Z) (by rw [aQ,aB];first | (rw [aB];omega) | exact ⟨λ_=>by omega,λ_=>rfl⟩ | exact ⟨λh=>(by cases h),λh=>by omega⟩)
 have e73:=hC;refine .cd Z (λh73=>?_) (λh73=>?_)
 ·have q73:k<p.links.length/\k<NN:=by rw [h73] at e73;exact aI e73.symm
  obtain ⟨hkl,hkn⟩:=q73;obtain ⟨bE,oE,cE,hpE,rE,lE,mE⟩:=hl5.elem (eR (f:=dU8) hkl);cases hpE;obtain rfl:=aJ2 rE
  have hdv:k / (fN p).length<3:=by rw [zY hpos.1];calc k<NN:=hkn
   _=(fN p).length * (fN p).length:=hNN
   _<=3 * (fN p).length:=mD _ hpos.2
  have hmd:k % (fN p).length<3:=eK (rC _ hpos.1) hpos.2;refine .sk<|.tN<|.sq<|.bk<|.sr<|.fA Z BX<|.lD Z qP qL Z<|.mv Z<|.yw (.indexSl rP Z Z (i:=k) Z aD (q:=oE+k * 1) Z)<|.yw (.loadM Z nM mE (k:=0) Z Z)<|.yw (.rem Z Z aS (c:=((p.links[k].toNat % 4:Nat):Int)) (by rw [dJ aD];omega))<|.yw (.gtr Z Z)<|.nt<|.ce Z (λh82=>?_) (λh82=>?_)
  ·have hq:0<p.links[k].toNat % 4:=aD
   exact .fL 23 [(0,0),(1,0),(2,0),(3,0),(4,0),(5,0),(6,0),(7,0),(8,0),(9,0),(10,0),(11,0),(12,0),(13,0),(14,0),(15,0),(16,0),(17,0),(18,0),(19,0),(20,0),(21,0),(22,1)]<|.fA Z IR<|.lD Z bP6 cU Z<|.mv Z<|.mv Z<|.mv Z<|.yw (.quo Z Z aD (c:=((k / (fN p).length:Nat):Int)) (cS4 hdv))<|.yw (.indexSl fD Z Z (i:=k / (fN p).length) Z hdv (q:=k / (fN p).length) aD)<|.yw (.loadM Z bT m5 (k:=k / (fN p).length) aD (DY hdv))<|.mv Z<|.mv Z<|.mv Z<|.yw (.rem Z Z aD (c:=((k % (fN p).length:Nat):Int)) (tm2 _ _))<|.yw (.indexSl fD Z Z (i:=k % (fN p).length) Z hmd (q:=k % (fN p).length) aD)<|.yw (.loadM Z bT m5 (k:=k % (fN p).length) aD (DY hmd))<|.fA Z BX<|.lD Z qP qL Z<|.mv Z<|.yw (.indexSl rP Z Z (i:=k) Z aD (q:=oE+k * 1) Z)<|.yw (.loadM Z nM mE (k:=0) Z Z)<|.yw (.rem Z Z aS (c:=((p.links[k].toNat % 4:Nat):Int)) (by rw [dJ aD];omega))<|.yw (.conv Z kN kG (c:=((p.links[k].toNat % 4:Nat):Int)) (w6 aD))<|.yw (.build Z (LS _ _ _))<|.bl Z (aI3 _ _ _) Z λb105=>.fn (tl:=[_,_,_]) Z<|.ap (news:=[bJ (tU (k / (fN p).length)),bJ (tU (k % (fN p).length)),iN (p.links[k].toNat % 4)]) bP2 Z (λ_=>iJ) Z (.box Hm z0) Z (by simp [Value.oneCell',bJ,tU]) (by simp [maxLen];omega) aD Z λr106 _=>.ra cU λp106 c106 e106=>.fA Z IR<|.st iE Z Z aU6 (by rw [e106];rfl) (nb Z) Z<|.nl<|.bN<|.tN<|.rg<|.mv Z<|.yw (.add Z Z w7)<|.aq Z<|.ag (x:=(k,m,r,xs)) (k+1,m+1,r106,xs++[bJ (tU (k / (fN p).length)),bJ (tU (k % (fN p).length)),iN (p.links[k].toNat % 4)]) ⟨Z,Jt⟩ ⟨Z,Z,Z,Z,Z,Z,Jt⟩ (λ_ s=>(s.pick [1,2,4,3] _ Z Z)) (by have hL:=bG3 (n:=(fN p).length) hkl hq;exact ⟨by dsimp only;omega,by dsimp only;omega,by dsimp only;rw [yH,hL];simp [hm],by dsimp only;rw [yH,hL,bI];exact hz.snoc (bG4 _ _ aD) Z⟩) (by dsimp only;omega)
  have hq:¬ 0<p.links[k].toNat % 4:=aD
  exact .sk<|.bN<|.tN<|.rg<|.mv Z<|.yw (.add Z Z w7)<|.aq Z<|.ag (x:=(k,m,r,xs)) (k+1,m,r,xs) ⟨Z,Jt⟩ ⟨Z,Z,Z,Z,Z,Z,Jt⟩ (λ_ s=>(s.pick [0,1,3,2] _ Z Z)) (by have hL:=bV8 (n:=(fN p).length) hkl hq;exact ⟨by dsimp only;omega,by dsimp only;omega,by dsimp only;rw [yH,hL,eL];exact hm,by dsimp only;rw [yH,hL,eL];exact hz⟩) (by dsimp only;omega)
 have q73:¬ (k<p.links.length/\k<NN):=by rw [h73] at e73;exact aJ e73.symm
 have hkm:k=min p.links.length ((fN p).length * (fN p).length):=by rw [<-hNN];omega
 subst hkm;subst hm;refine iI (ds:=(CF (fN p).length p.links (min p.links.length ((fN p).length * (fN p).length))).map dLk) fG hz λH6 p6 c6 u6 e6 hlk=>?_;subst e6;have hfl6:=hfl.up (u5.trans u6).up;have hps6:=hps.up (u39.trans (u4.trans (u5.trans u6))).up;have m56:=m5.up u6.up;refine .ex<|.eb<|.sr<|.a Z Z<|?_
 refine Sx.row0 124 1 ?_;refine .nt<|.sq<|.sm Z<|.yw (.lenSl EU Z)<|.mv Z<|.nt<|.bk<|.lp (X:=Nat × Hp × Value × List Value) [(2,_),(4,_),(5,_),(8,_),(108,_),(109,_)] ⟨Z,Z,Z,Z,Z,Z,Jt⟩ [_,_,_] (λz=>[(10,z.2.2.1),(110,iN z.1)]) (λz=>z.2.1) (λz=>[.row 124 1 z.2.2.1 z.1 z.2.2.2]) (λz=>z.1<=(fN p).length/\HUp w H6 z.2.1/\dT z.2.1 1 ((((fN p).take z.1).map arP).map dAr) z.2.2.2) (λz=>(fN p).length - z.1) (0,H6,cL,[]) (λ_ s=>s) ⟨Z,Z,Jt⟩ ⟨by simp,.refl,dT.nil⟩ λz hC=>?_
 obtain ⟨k,H2,r,xs⟩:=z;dsimp only at hC|-;obtain ⟨hk0,u2,hz⟩:=hC;refine .sr<|.yw (.lss Z Z)<|.nt<|.sq<|.ce Z (λh111=>?_) (λh111=>?_)
 ·have hk:k<(fN p).length:=aD
  obtain ⟨bE,oE,cE,hpE,rE,lE,mE⟩:=(hps6.up u2.up).elem (eR (f:=LO) hk);cases hpE;refine .sk<|.tN<|.sq<|.bk<|.sr<|.yw (.indexSl EU Z Z Z aD (q:=oE+k * 4) Z)<|.yw (.loadMW Z KN mE lE)<|.al PN Z λb12=>.sV .head Z Z PP lE rE.one Z<|.nt<|.rg<|.mv Z<|.yw (.loadW Z KN Hm lE)<|.xt (X:=Value) Z (λW s=>aT9 H2 _ cE W rE s.agr) λv116 H116 hn116 u116=>?_
  obtain ⟨pn116,cn116,e116,_⟩:=hn116.sl;simp only [bV,dL,aP] at e116;subst e116;exact .bl Z (ZR _ _ _) Z λb117=>.ap (news:=[.slice pn116 (arP (fN p)[k]).length cn116]) aV2 Z (λ_=>iE) Z (.box Hm z0) Z (by simp [Value.oneCell']) (by simp [maxLen];omega) aD Z λr118 _=>.a Z Z<|.nl<|.bN<|.tN<|.rg<|.yw (.add Z Z w7)<|.mv Z<|.nt<|.ag (x:=(k,H2,r,xs)) (k+1,H116,r118,xs++[.slice pn116 (arP (fN p)[k]).length cn116]) ⟨Z,Z,Jt⟩ ⟨Z,Z,Z,Z,Z,Z,Jt⟩ (λ_ s=>(s.pick [2,3,4,5] _ Z Z)) ⟨by dsimp only;omega,u2.trans u116,by dsimp only;rw [tX hk,bI,bI];exact (hz.up u116.up).snoc hn116 Z⟩ (by dsimp only;omega)
 obtain rfl:k=(fN p).length:=aD
 rw [bW] at hz;refine iI (ds:=((fN p).map arP).map dAr) fG hz λH7 p7 c7 u7 e7 har=>?_;subst e7;have u67:=u2.trans u7;have hfl7:=hfl6.up u67.up;have hlk7:=hlk.up u67.up;have hps7:=hps6.up u67.up;have m57:=m56.up u67.up;refine .ex<|.eb<|.sq<|.sm Z<|.yw (.lenSl EU Z)<|.mv Z<|?_
 refine Sx.row0 129 3 ?_;refine .nt<|.bk<|.lp (X:=Nat × Hp × Value × List Value) [(2,_),(5,_),(8,_),(10,_),(120,_),(121,_)] ⟨Z,Z,Z,Z,Z,Z,Jt⟩ [_,_] (λz=>[(122,iN z.1)]) (λz=>z.2.1) (λz=>[.row 129 3 z.2.2.1 z.1 z.2.2.2,.box b5 [bJ DJ,.slice p4 (p.flags.toNat % 3) c4,.slice p6 (CF (fN p).length p.links (min p.links.length ((fN p).length * (fN p).length))).length c6,z.2.2.1] 59]) (λz=>z.1<=(fN p).length/\HUp w H7 z.2.1/\dT z.2.1 3 ((DN (sM p) (p.flags.toNat % 3) ((fN p).take z.1)).map (dCp .i64)) z.2.2.2) (λz=>(fN p).length - z.1) (0,H7,cL,[]) (λ_ s=>s) ⟨Z,Jt⟩ ⟨by simp,.refl,dT.nil⟩ λz hC=>?_
 obtain ⟨k,H2,rc,xs⟩:=z;dsimp only at hC|-;obtain ⟨hk0,u2,hz⟩:=hC;refine .sr<|.yw (.lss Z Z)<|.nt<|.sq<|.ce Z (λh123=>?_) (λh123=>?_)
 ·have hk:k<(fN p).length:=aD
  obtain ⟨bE,oE,cE,hpE,rE,lE,mE⟩:=(hps7.up u2.up).elem (eR (f:=LO) hk);cases hpE;have hpa:(sM p).getD k []=arP (fN p)[k]:=by unfold sM;simp [hk]
  generalize hx:(fN p)[k]=x at rE hpa;obtain ⟨q1,d1,q2,d2,rfl,g1,g2⟩:=XJ rE;have hcap1:=g1.cap;have hcap2:=g2.cap;have hints:0<rO x/\rO x<=3:=by unfold rO;omega
  have htabs:vF x<=1:=by unfold vF;omega
  have m52:=m57.up u2.up;have k3:k<3:=aD
  refine .sk<|.tN<|.sq<|.bk<|.sm Z<|.yw (.indexSl EU Z Z Z aD (q:=oE+k * 4) Z)<|.yw (.loadMW Z KN mE Z)<|.al PN Z λb14=>.a Z Z<|.sX .head Z Z PP Z<|.ns<|.mv Z<|.mv Z<|.yw (.indexSl fD Z Z (i:=k) Z k3 (q:=k) aD)<|.yw (.loadM Z bT m52 (k:=k) aD (DY k3))<|.yw (.build Z (ZW _))<|.al BT Z λb15=>.sX .head Z Z BV Z<|.nt<|.sq<|.sr<|.fA Z FZ<|.lD Z nM cU Z<|.yw (.rem Z Z aS (c:=((x.ints.toNat % 3:Nat):Int)) (by rw [dJ aD];omega))<|.yw (.conv Z kN kG (c:=((x.ints.toNat % 3:Nat):Int)) (w6 aD))<|.yw (.add Z Z (c:=((rO x:Nat):Int)) ((w6 aD).trans (by unfold rO;omega)))<|.xt (X:=Value) Z (λW s=>lZ H2 120 (rO x) aD W s.agr) λv137 H137 hn137 u137=>?_
  obtain ⟨pn137,cn137,e137,_⟩:=hn137.sl;simp only [bV,dL,aP,jY] at e137;subst e137;refine .yw (.lenSl fD Z)<|.mv Z<|?_
  refine Sx.row0 131 3 ?_;refine .nt<|.bk<|.lp (X:=Nat × Value × List Value) [(2,_),(5,_),(8,_),(10,_),(13,_),(14,_),(15,_),(120,_),(121,_),(122,_),(137,_),(138,_)] ⟨Z,Z,Z,Z,Z,Z,Z,Z,Z,Z,Z,Z,Jt⟩ [_,_,_,_,_] (λz=>[(139,iN z.1)]) (λz=>H137) (λz=>[.row 131 3 z.2.1 z.1 z.2.2,.box b15 [bJ (tU k),z.2.1,cL] 129]) (λz=>z.1<=rO x/\dT H137 3 ((QC z.1).map (dVr .i64)) z.2.2) (λz=>rO x - z.1) (0,cL,[]) (λ_ s=>s) ⟨Z,Jt⟩ ⟨by simp,dT.nil⟩ λz hC=>?_
  obtain ⟨j,rv,ys⟩:=z;dsimp only at hC|-;obtain ⟨hj0,hzv⟩:=hC;refine .sr<|.yw (.lss Z Z)<|.nt<|.sq<|.ce Z (λh140=>?_) (λh140=>?_)
  ·have hj:j<rO x:=aD
   obtain ⟨bN,oN,hpN,mN⟩:=uO hn137 (k:=j) hj;subst hpN;exact .sk<|.tN<|.sq<|.bk<|.sm Z<|.yw (.indexSl fD Z Z (i:=j) Z aD (q:=oN+j * 1) Z)<|.yw (.loadM Z bT mN (k:=0) Z Z)<|.a Z Z<|.aq Z<|.rg<|.fA Z jC<|.lD Z sE cU Z<|.mv Z<|.mv Z<|.yw (.build Z (wX _ _ _))<|.bl Z (EC _ _ _) Z λb149=>.ap (news:=[bJ (nmB 120 j),.int .i64 1,iN j]) KH Z (λ_=>iJ) Z (.box Hm z0) Z (by simp [Value.oneCell',bJ,tU]) (by simp [maxLen];omega) aD Z λr150 _=>.ra cU λp150 c150 e150=>.fA Z jC<|.st iE Z Z GZ (by rw [e150];rfl) (nb Z) Z<|.nl<|.bN<|.tN<|.rg<|.yw (.add Z Z w7)<|.mv Z<|.nt<|.ag (x:=(j,rv,ys)) (j+1,r150,ys++[bJ (nmB 120 j),.int .i64 1,iN j]) ⟨Z,Jt⟩ ⟨Z,Z,Z,Z,Z,Z,Z,Z,Z,Z,Z,Z,Jt⟩ (λ_ s=>(s.pick [1,2,3,4,5,6,7] _ Z Z)) ⟨by dsimp only;omega,by dsimp only;rw [aO6,bI];exact hzv.snoc (aY5 aD) Z⟩ (by dsimp only;omega)
  obtain rfl:j=rO x:=aD
  refine .ex<|.eb<|.sr<|.fA Z jC<|.lD Z sE cU Z<|.yw (.build Z (wX _ _ _))<|.bl Z (EC _ _ _) Z λb156=>.ap (news:=[bJ [98,48],.int .i64 2,.int .i64 0]) KH Z (λ_=>iJ) Z (.box Hm z0) Z (by simp [Value.oneCell',bJ,tU]) (by simp [maxLen];omega) aD Z λr157 _=>.ra cU λp157 c157 e157=>.fA Z jC<|.st iE Z Z GZ (by rw [e157];rfl) (nb Z) Z<|.nt<|.sq<|.sr<|.fA Z FY<|.lD Z nM qL Z<|.yw (.rem Z Z aS (c:=((x.tables.toNat % 2:Nat):Int)) (by rw [dJ aD];omega))<|.yw (.conv Z kN kG (c:=((vF x:Nat):Int)) ((w6 aD).trans (by unfold vF;omega)))<|.xt (X:=Value) Z (λW s=>lZ H137 116 (vF x) aD W s.agr) λv163 H163 hn163 u163=>?_
  obtain ⟨pn163,cn163,e163,_⟩:=hn163.sl;simp only [bV,dL,aP,jY] at e163;subst e163;refine .yw (.lenSl fD Z)<|.mv Z<|.nt<|.bk<|.pm [1,2,0,3,4,5,6,7] [_,_,_,_,_,_,_,_] Z Z<|.lp (X:=Nat × Value × List Value) [(2,_),(5,_),(8,_),(10,_),(13,_),(14,_),(15,_),(120,_),(121,_),(122,_),(163,_),(164,_)] ⟨Z,Z,Z,Z,Z,Z,Z,Z,Z,Z,Z,Z,Jt⟩ [_,_,_,_,_,_] (λz=>[(165,iN z.1)]) (λz=>H163) (λz=>[.row 131 3 z.2.1 (rO x+1+z.1) z.2.2,.box b15 [bJ (tU k),z.2.1,cL] 129]) (λz=>z.1<=vF x/\dT H163 3 ((QC (rO x)++[vrB]++TU z.1).map (dVr .i64)) z.2.2) (λz=>vF x - z.1) (0,r157,ys++[bJ [98,48],.int .i64 2,.int .i64 0]) (λ_ s=>s) ⟨Z,Jt⟩ ⟨by simp,by dsimp only;rw [show TU 0=[] from Z,eL,bI];exact (hzv.up u163.up).snoc (TV (x:=vrB) aS) Z⟩ λz hC=>?_
  obtain ⟨i,rv2,zs⟩:=z;dsimp only at hC|-;obtain ⟨hi0,hzt⟩:=hC;refine .sr<|.yw (.lss Z Z)<|.nt<|.sq<|.ce Z (λh166=>?_) (λh166=>?_)
  ·have hi:i<vF x:=aD
   obtain ⟨bN,oN,hpN,mN⟩:=uO hn163 (k:=i) hi;subst hpN;exact .sk<|.tN<|.sq<|.bk<|.sr<|.yw (.indexSl fD Z Z (i:=i) Z aD (q:=oN+i * 1) Z)<|.yw (.loadM Z bT mN (k:=0) Z Z)<|.aq Z<|.rg<|.fA Z jC<|.lD Z sE cU Z<|.mv Z<|.yw (.build Z (wX _ _ _))<|.bl Z (EC _ _ _) Z λb173=>.ap (news:=[bJ (nmB 116 i),.int .i64 3,.int .i64 0]) KH Z (λ_=>iJ) Z (.box Hm z0) Z (by simp [Value.oneCell',bJ,tU]) (by simp [maxLen];omega) aD Z λr174 _=>.ra cU λp174 c174 e174=>.fA Z jC<|.st iE Z Z GZ (by rw [e174];rfl) (nb Z) Z<|.nl<|.bN<|.tN<|.rg<|.yw (.add Z Z w7)<|.mv Z<|.nt<|.ag (x:=(i,rv2,zs)) (i+1,r174,zs++[bJ (nmB 116 i),.int .i64 3,.int .i64 0]) ⟨Z,Jt⟩ ⟨Z,Z,Z,Z,Z,Z,Z,Z,Z,Z,Z,Z,Jt⟩ (λ_ s=>(s.pick [1,2,3,4,5,6,7,8] _ Z Z)) ⟨by dsimp only;omega,by dsimp only;rw [aO5,<-aV,bI];exact hzt.snoc (TV (x:=bQ5 i) (by simp [bQ5,nmB])) Z⟩ (by dsimp only;omega)
  obtain rfl:i=vF x:=aD
  refine iI (ds:=(FG x).map (dVr .i64)) (by simp [FG,WK,WJ];omega) hzt λH8 pV cV u8 e8 hV=>?_;subst e8;have uB:=u137.trans (u163.trans u8);have g1b:=g1.up uB.up;have g2b:=g2.up uB.up;have harb:=har.up (u2.trans uB).up;refine .ex<|.eb<|.sr<|.fA Z FZ<|.lD Z nM iG Z<|.yw (.rem Z Z aS (c:=((x.ints.toNat % 3:Nat):Int)) (by rw [dJ aD];omega))<|.yw (.conv Z kN kG (c:=((x.ints.toNat % 3:Nat):Int)) (w6 aD))<|.yw (.add Z Z (c:=((rO x:Nat):Int)) ((w6 aD).trans (by unfold rO;omega)))<|.fA Z FY<|.lD Z nM iG Z<|.yw (.rem Z Z aS (c:=((x.tables.toNat % 2:Nat):Int)) (by rw [dJ aD];omega))<|.yw (.conv Z kN kG (c:=((vF x:Nat):Int)) ((w6 aD).trans (by unfold vF;omega)))<|.fA Z qF<|.lD Z AZ wI Z<|.yw (.lenSl NA Z)<|.mv Z<|.mv Z<|.yw (.build Z (FD _ _ _ _ _ _ _))<|.al aG9 Z λb20=>.sX .head Z Z aH2 Z<|.nt<|.sq<|.fL 7 [(0,0),(1,0),(2,0),(3,0),(4,0),(5,0),(6,0)]<|.fA Z wD<|.lD Z sF qL Z<|.fA Z wD<|.lD Z sF qL Z<|.yw (.lenSl qO Z)<|.yw (.xl Z (λW s=>AL H8 x.hs.length 3 W s.agr))<|.yw (.cutHi2 qO Z Z (h:=min x.hs.length 3) Z (by have:=g1b.len.2.1;omega))<|.fn (tl:=[_]) Z<|.aq Z<|.cu (X:=Hp × Value) [(2,_),(5,_),(8,_),(10,_),(14,_),(15,_),(20,_),(120,_),(121,_),(122,_)] ⟨Z,Z,Z,Z,Z,Z,Z,Z,Z,Z,Jt⟩ (λz=>[(21,z.2)]) (λz=>z.1) (λz=>[.box b20 (mkC (mkP (sM p) (p.flags.toNat % 3) k x) (.slice p7 (fN p).length c7) (cL) 0) 133,.box b15 [bJ (tU k),.slice pV (rO x+1+vF x) cV,cL] 129,.box b14 [.int .u8 x.ints.toNat,.int .u8 x.tables.toNat,.slice q1 x.hs.length d1,.slice q2 x.sec.length d2] 117,.row 129 3 rc k xs,.box b5 [bJ DJ,.slice p4 (p.flags.toNat % 3) c4,.slice p6 (CF (fN p).length p.links (min p.links.length ((fN p).length * (fN p).length))).length c6,rc] 59,.box b2 [dV,cL,cL,cL] 59,.box b1 [.int .u8 p.flags.toNat,.slice p1 p.links.length c1,.slice p2 p.comps.length c2] 53]) (λz=>HUp w H8 z.1/\Rep z.1 (.seq 2 ((JQ x).map dCd)) [z.2]) ?_ λz hC=>?_
  ·
   refine .sm Z<|.yw (.lenSl qO Z)<|.yw (.eql Z Z)<|.nt<|.ce Z (λh201=>?_) (λh201=>?_)
   ·have h0:x.hs.length=0:=aD
    refine .rg<|.yw (.build Z (ZV _))<|.bl Z (ZS _ _) Z λb203=>?_
    refine Sx.freezeBoxN λH9 u9 m9=>?_;exact .aq Z<|.me (H9,_) ⟨Z,Jt⟩ ⟨Z,Z,Z,Z,Z,Z,Z,Z,Z,Z,Jt⟩ (λ_ s=>s.pick [0,1,3,4,5,6,7] [_,_,_,_,_,_,_] Z Z) ⟨u9,by rw [JQ,aK h0];exact Rep.mk (n:=1) (c:=1) m9 (.single (cA3 (x:=⟨1,[]⟩) (Rep.empty aS)) Z) Z (aY _) aS⟩
   have h0:¬ x.hs.length=0:=aD
   exact .sk<|.tN<|.me (H8,_) ⟨Z,Jt⟩ ⟨Z,Z,Z,Z,Z,Z,Z,Z,Z,Z,Jt⟩ (λ_ s=>s.pick [0,1,3,4,5,6,7] [_,_,_,_,_,_,_] Z Z) ⟨.refl,by rw [JQ,aA h0,pU];have:=AH g1b (hi:=min x.hs.length 3) aD;rwa [JG] at this⟩
  obtain ⟨H9,fv⟩:=z;dsimp only at hC|-;obtain ⟨u9,hfs⟩:=hC;have hoB:okB (mkP (sM p) (p.flags.toNat % 3) k x):=cG8 hk hf3 hpos hints;have hfl3:=bW9 (nf:=p.flags.toNat % 3) hk hpa;have hsl3:=bU3 (nf:=p.flags.toNat % 3) hk hpa;have g2c:=g2b.up u9.up;refine Sx.row0 136 1 ?_;refine .sq<|.fL 5 [(0,0),(1,0),(2,0),(3,3),(4,1)]<|.fA Z kH<|.lD Z uA iG Z<|.mv Z<|.x3 (X:=Value × Nat × Hp × Value × Int) Z (λW s=>LD (mkP (sM p) (p.flags.toNat % 3) k x) hoB (JQ x) hfl3 H9 w W _ b20 _ _ _ _  hfs (by simpa [mkP,sM] using harb.up u9.up) (s.pick [1,0,2,3,4,5,6,7] [_,_,_,_,_,_,_,_] Z Z)) (λz207 hz207=>(.dn<|.yv (.load Z uA iG Z)<|.yv (.fieldAddr Z kH)<|.nl)) λz207 hz207=>?_
  obtain ⟨v207,pv207,H207,bv207,lf207⟩:=z207;obtain ⟨u207,rr207⟩:=hz207;dsimp only at u207 rr207|-;obtain ⟨pn207,cn207,e207,_⟩:=rr207.sl;simp only [bV,dL,aP,AN] at e207;subst e207;refine .bl Z (LL _ _ _) Z λb208=>.fn (tl:=[_,_,_]) Z<|.ap (news:=[.slice pn207 (JQ x).length cn207]) TO Z (λ_=>iE) Z (.box Hm z0) Z (by simp [Value.oneCell']) (by simp [maxLen]) aD Z λr209 _=>.ra iG λp209 c209 e209=>.fA Z kH<|.st lJ Z Z PO (by rw [e209];rfl) (nb Z) Z<|.nt<|.cu (X:=Hp × Value × List Value) [(2,_),(5,_),(8,_),(10,_),(15,_),(120,_),(121,_),(122,_)] ⟨Z,Z,Z,Z,Z,Z,Z,Z,Jt⟩ (λz=>[]) (λz=>z.1) (λz=>[.row 136 1 z.2.1 (CO (mkP (sM p) (p.flags.toNat % 3) k x) x).length z.2.2,.box b15 [bJ (tU k),.slice pV (rO x+1+vF x) cV,z.2.1] 129,.row 129 3 rc k xs,.box b5 [bJ DJ,.slice p4 (p.flags.toNat % 3) c4,.slice p6 (CF (fN p).length p.links (min p.links.length ((fN p).length * (fN p).length))).length c6,rc] 59,.box b2 [dV,cL,cL,cL] 59,.box b1 [.int .u8 p.flags.toNat,.slice p1 p.links.length c1,.slice p2 p.comps.length c2] 53]) (λz=>HUp w H9 z.1/\dT z.1 1 ((CO (mkP (sM p) (p.flags.toNat % 3) k x) x).map (dVs .i64)) z.2.2) ?_ λz hC=>?_
  ·
   refine .sr<|.fA Z tC<|.lD Z sF wI Z<|.yw (.lenSl qO Z)<|.yw (.gtr Z Z)<|.nt<|.ce Z (λh214=>?_) (λh214=>?_)
   ·have hsc:0<x.sec.length:=aD
    refine .fL 11 [(0,0),(1,0),(2,0),(3,0),(4,0),(5,0),(6,0),(7,0),(8,0),(9,3),(10,1)]<|.fA Z kH<|.lD Z uA qL Z<|.fA Z tC<|.lD Z sF wI Z<|.fA Z tC<|.lD Z sF wI Z<|.yw (.lenSl qO Z)<|.yw (.xl Z (λW s=>AL H207 x.sec.length 3 W s.agr))<|.yw (.cutHi2 qO Z Z (h:=min x.sec.length 3) Z (by have:=g2c.len.2.1;omega))<|.x3 (X:=Value × Nat × Hp × Value × Int) Z (λW s=>LD { (mkP (sM p) (p.flags.toNat % 3) k x) with params:=pv207 } hoB (x.sec.take 3) hsl3 H207 w W _ b20 _ _ _ _  (by have:=AH (g2c.up u207.up) (hi:=min x.sec.length 3) aD;rw [JG,<-pU] at this;exact this) (by simpa [mkP,sM] using harb.up (u9.trans u207).up) (s.pick [1,0,2,3,4,5,6,7,8] [_,_,_,_,_,_,_,_,_] Z Z)) (λz224 hz224=>(.d4<|.d3<|.yv (.load Z uA qL Z)<|.yv (.fieldAddr Z kH)<|.nl)) λz224 hz224=>?_
    obtain ⟨v224,pv224,H224,bv224,lf224⟩:=z224;obtain ⟨u224,rr224⟩:=hz224;dsimp only at u224 rr224|-;obtain ⟨pn224,cn224,e224,_⟩:=rr224.sl;simp only [bV,dL,aP,AN] at e224;subst e224;exact .bl Z (LL _ _ _) Z λb225=>.fn (tl:=[_,_,_]) Z<|.ap (news:=[.slice pn224 (x.sec.take 3).length cn224]) TO Z (λ_=>lJ) Z (.box Hm z0) Z (by simp [Value.oneCell']) (by simp [maxLen]) aD Z λr226 _=>.ra qL λp226 c226 e226=>.fA Z kH<|.st QD Z Z PO (by rw [e226];rfl) (nb Z) Z<|.nt<|.me (H224,r226,_) trivial ⟨Z,Z,Z,Z,Z,Z,Z,Z,Jt⟩ (λ_ s=>by rw [show (CO (mkP (sM p) (p.flags.toNat % 3) k x) x).length=0+1+1 by rw [CO,aK hsc];rfl];exact (s.pick [3,4,6,7,8,9] _ Z Z)) ⟨u207.trans u224,by rw [CO,aK hsc];exact dT.app (.single (rr207.up u224.up) Z) (.single (bI1 rr224) Z)⟩
   have hsc:¬ 0<x.sec.length:=aD
   exact .sk<|.tN<|.me (H207,r209,_) trivial ⟨Z,Z,Z,Z,Z,Z,Z,Z,Jt⟩ (λ_ s=>by rw [show (CO (mkP (sM p) (p.flags.toNat % 3) k x) x).length=0+1 by rw [CO,aA hsc];rfl];exact (s.pick [2,3,5,6,7,8] _ Z Z)) ⟨u207,by rw [CO,aA hsc];exact .single rr207 Z⟩
  obtain ⟨H10,rs,ws⟩:=z;dsimp only at hC|-;obtain ⟨u10,hzs⟩:=hC;refine iI (ds:=(CO (mkP (sM p) (p.flags.toNat % 3) k x) x).map (dVs .i64)) fG hzs λHE pS cS u11 e11 hSE=>?_;subst e11;have uE:=uB.trans (u9.trans (u10.trans u11));have hVE:=hV.up (u9.trans (u10.trans u11)).up;exact .rg<|.fA Z uV<|.lD Z IW iG Z<|.yw (.loadW Z qY Hm Z)<|.bl Z (aI2 _ _ _) Z λb231=>.ap (news:=[bJ (tU k),.slice pV (rO x+1+vF x) cV,.slice pS (CO (mkP (sM p) (p.flags.toNat % 3) k x) x).length cS]) bP1 Z (λ_=>iE) Z (.box Hm z0) Z (by simp [Value.oneCell',bJ,tU]) (by simp [maxLen];omega) aD Z λr232 _=>.ra iG λp232 c232 e232=>.fA Z uV<|.st lJ Z Z aU5 (by rw [e232];rfl) (nb Z) Z<|.nl<|.bN<|.tN<|.rg<|.yw (.add Z Z w7)<|.mv Z<|.nt<|.ag (x:=(k,H2,rc,xs)) (k+1,HE,r232,xs++[bJ (tU k),.slice pV (rO x+1+vF x) cV,.slice pS (CO (mkP (sM p) (p.flags.toNat % 3) k x) x).length cS]) ⟨Z,Jt⟩ ⟨Z,Z,Z,Z,Z,Z,Jt⟩ (λ_ s=>(s.pick [2,3,4,5] _ Z Z)) ⟨by dsimp only;omega,u2.trans uE,by dsimp only;rw [aF5 hk,hx,bI];exact (hz.up uE.up).snoc (cA0 (x:=bM2 (sM p) (p.flags.toNat % 3) k x) (by simp [bM2,tU]) hVE hSE) Z⟩ (by dsimp only;omega)
 obtain rfl:k=(fN p).length:=aD
 rw [bW] at hz;refine iI (ds:=(DN (sM p) (p.flags.toNat % 3) (fN p)).map (dCp .i64)) (by simp [SY]) hz λHF pc cc uF eF hcs=>?_;subst eF;have uZ:=u2.trans uF;refine .ex<|.eb<|.sr<|.yw (.loadW Z QB Hm Z)<|.sX iJ Z Z TN Z<|.nt<|.rt<|?_
 exact y8 Z (.cell Z QB cU rfl) λW t=>⟨_,HF,bW7 (x:=KB p) (show DJ.length<=1000000 by decide) (hfl7.up uZ.up) (hlk7.up uZ.up) hcs,Z,((((u1.trans (u39.trans (u4.trans (u5.trans u6)))).trans u67).trans uZ).grow t)⟩
theorem rW:jI prg 29=some none:=by kernel_rfl
theorem IV:jI prg 99=some none:=by kernel_rfl
theorem pP:jI prg 106=some none:=by kernel_rfl
theorem KO:jI prg 108=some (some 3):=by kernel_rfl
theorem qX:dU prg 102 0=some 0:=by kernel_rfl
theorem iD:dU prg 102 1=some 1:=by kernel_rfl
theorem tD:dU prg 102 7=some 7:=by kernel_rfl
theorem jD:dU prg 102 8=some 8:=by kernel_rfl
theorem jT:dU prg 108 0=some 0:=by kernel_rfl
theorem lM:dU prg 108 1=some 1:=by kernel_rfl
theorem aU8:gQ prg 29=some 1:=by kernel_rfl
theorem yT:gQ prg 108=some 3:=by kernel_rfl
theorem aO0:slN prg 99=some 3:=by kernel_rfl
theorem yQ:nA prg 108=some
 [Go.Value.int Go.IntKind.u8 (Int.ofNat 0),Go.Value.string { data:={ toList:=[] } },
  Go.Value.int Go.IntKind.i64 (Int.ofNat 0)]:=by kernel_rfl
theorem cQ:jI prg 35=some (some 7):=by kernel_rfl
theorem aH4:kM prg 158=true:=by kernel_rfl
theorem gO:dU prg 35 2=some 2:=by kernel_rfl
theorem fR:dU prg 35 3=some 3:=by kernel_rfl
theorem fH:dU prg 35 4=some 4:=by kernel_rfl
theorem cB5:YC prg 2=some Go.IntKind.i64:=by kernel_rfl
theorem dK:gQ prg 35=some 7:=by kernel_rfl
theorem fB:nA prg 35=some
 [Go.Value.int Go.IntKind.u8 (Int.ofNat 0),Go.Value.string { data:={ toList:=[] } },
  Go.Value.string { data:={ toList:=[] } },Go.Value.int Go.IntKind.i64 (Int.ofNat 0),
  Go.Value.int Go.IntKind.i64 (Int.ofNat 0),Go.Value.slice none 0 0,Go.Value.slice none 0 0]:=by kernel_rfl
theorem xL (x0:Int) (x1:ByteArray):eX prg 35 [(0,.int .u8 x0),(1,.string x1)]=some [.int .u8 x0,.string x1,dV,.int .i64 0,.int .i64 0,cL,cL]:=by kernel_rfl
theorem WB (x0 x4:Int):eX prg 35 [(0,.int .u8 x0),(4,.int .i64 x4)]=some [.int .u8 x0,dV,dV,.int .i64 0,.int .i64 x4,cL,cL]:=by kernel_rfl
theorem AY:jI prg 97=some (some 11):=by kernel_rfl
theorem wN:jI prg 98=some none:=by kernel_rfl
theorem qZ:jI prg 100=some none:=by kernel_rfl
theorem xS:jI prg 179=some (some 13):=by kernel_rfl
theorem qE:dU prg 97 1=some 1:=by kernel_rfl
theorem uU:dU prg 97 2=some 2:=by kernel_rfl
theorem jF:dU prg 102 2=some 2:=by kernel_rfl
theorem jE:dU prg 102 3=some 3:=by kernel_rfl
theorem mY:dU prg 102 4=some 4:=by kernel_rfl
theorem ZH:tQ prg 98=some (97,11,128):=by kernel_rfl
theorem aV3:tQ prg 100=some (179,13,168):=by kernel_rfl
theorem oJ:gQ prg 4=some 1:=by kernel_rfl
theorem EV:gQ prg 98=some 1:=by kernel_rfl
theorem PQ:gQ prg 100=some 1:=by kernel_rfl
theorem yS:gQ prg 179=some 13:=by kernel_rfl
theorem ET:slN prg 98=some 11:=by kernel_rfl
theorem uT:slN prg 100=some 13:=by kernel_rfl
theorem yP:nA prg 179=some
 [Go.Value.bool false,Go.Value.bool false,Go.Value.int Go.IntKind.u8 (Int.ofNat 0),
  Go.Value.string { data:={ toList:=[] } },Go.Value.int Go.IntKind.i64 (Int.ofNat 0),
  Go.Value.slice none 0 0,Go.Value.int Go.IntKind.u8 (Int.ofNat 0),
  Go.Value.string { data:={ toList:=[] } },Go.Value.string { data:={ toList:=[] } },
  Go.Value.int Go.IntKind.i64 (Int.ofNat 0),Go.Value.int Go.IntKind.i64 (Int.ofNat 0),
  Go.Value.slice none 0 0,Go.Value.slice none 0 0]:=by kernel_rfl
theorem ZT (x00 x01 x02 x03 x04 x05 x06 x07 x08 x09 x010 x011 x012:Value):pG prg 100 1 [(0,.agg [x00,x01,x02,x03,x04,x05,x06,x07,x08,x09,x010,x011,x012].toArray)]=some (179,[x00,x01,x02,x03,x04,x05,x06,x07,x08,x09,x010,x011,x012]):=by kernel_rfl
theorem HA (x00 x01 x02 x03 x04 x05 x06 x07 x08 x09 x010:Value):pG prg 98 1 [(0,.agg [x00,x01,x02,x03,x04,x05,x06,x07,x08,x09,x010].toArray)]=some (97,[x00,x01,x02,x03,x04,x05,x06,x07,x08,x09,x010]):=by kernel_rfl
theorem aW1:kM prg 20=true:=by kernel_rfl
theorem aV7:kM prg 49=true:=by kernel_rfl
theorem aV5:kM prg 94=true:=by kernel_rfl
theorem aH8:kM prg 145=true:=by kernel_rfl
theorem oY:dU prg 102 6=some 6:=by kernel_rfl
theorem FN:dU prg 179 0=some 0:=by kernel_rfl
theorem vX:dU prg 179 2=some 2:=by kernel_rfl
theorem QT:dU prg 179 3=some 6:=by kernel_rfl
theorem yW (x0:Int) (x1 x2:ByteArray):eX prg 35 [(0,.int .u8 x0),(1,.string x1),(2,.string x2)]=some [.int .u8 x0,.string x1,.string x2,.int .i64 0,.int .i64 0,cL,cL]:=by kernel_rfl
theorem nH:jI prg 95=some none:=by kernel_rfl
theorem dQ:dU prg 35 6=some 6:=by kernel_rfl
theorem gZ:dU prg 97 0=some 0:=by kernel_rfl
theorem BW:dU prg 97 3=some 3:=by kernel_rfl
theorem dZ:dU prg 97 4=some 4:=by kernel_rfl
theorem EW:gQ prg 33=some 1:=by kernel_rfl
theorem TM:gQ prg 97=some 11:=by kernel_rfl
theorem TI:nA prg 97=some
 [Go.Value.int Go.IntKind.u8 (Int.ofNat 0),Go.Value.int Go.IntKind.i64 (Int.ofNat 0),Go.Value.bool false,
  Go.Value.int Go.IntKind.u8 (Int.ofNat 0),Go.Value.int Go.IntKind.u8 (Int.ofNat 0),
  Go.Value.string { data:={ toList:=[] } },Go.Value.string { data:={ toList:=[] } },
  Go.Value.int Go.IntKind.i64 (Int.ofNat 0),Go.Value.int Go.IntKind.i64 (Int.ofNat 0),
  Go.Value.slice none 0 0,Go.Value.slice none 0 0]:=by kernel_rfl
theorem jV (x0:Bool) (x20 x21 x22 x23:Value):eX prg 179 [(0,.bool x0),(2,.agg [x20,x21,x22,x23].toArray)]=some [.bool x0,.bool false,x20,x21,x22,x23,.int .u8 0,dV,dV,.int .i64 0,.int .i64 0,cL,cL]:=by kernel_rfl
theorem jA (x30 x31 x32 x33 x34 x35 x36:Value):eX prg 179 [(3,.agg [x30,x31,x32,x33,x34,x35,x36].toArray)]=some [.bool false,.bool false,.int .u8 0,dV,.int .i64 0,cL,x30,x31,x32,x33,x34,x35,x36]:=by kernel_rfl
theorem WA (x0:Int) (x5p:Option Addr) (x5n x5c:Nat):eX prg 35 [(0,.int .u8 x0),(5,.slice x5p x5n x5c)]=some [.int .u8 x0,dV,dV,.int .i64 0,.int .i64 0,.slice x5p x5n x5c,cL]:=by kernel_rfl
theorem CC (x0:Int) (x3p:Option Addr) (x3n x3c:Nat):eX prg 76 [(0,.int .u8 x0),(3,.slice x3p x3n x3c)]=some [.int .u8 x0,dV,.int .i64 0,.slice x3p x3n x3c]:=by kernel_rfl
theorem PU (x00 x01 x02 x03 x10 x11 x12 x13:Value):pG prg 32 2 [(0,.agg [x00,x01,x02,x03].toArray),(1,.agg [x10,x11,x12,x13].toArray)]=some (76,[x00,x01,x02,x03,x10,x11,x12,x13]):=by kernel_rfl
theorem rV (x00 x01 x02 x03 x04 x05 x06:Value):pG prg 33 1 [(0,.agg [x00,x01,x02,x03,x04,x05,x06].toArray)]=some (35,[x00,x01,x02,x03,x04,x05,x06]):=by kernel_rfl
theorem aI7 (x00 x01 x02 x03 x04 x05 x06 x10 x11 x12 x13 x14 x15 x16:Value):pG prg 33 2 [(0,.agg [x00,x01,x02,x03,x04,x05,x06].toArray),(1,.agg [x10,x11,x12,x13,x14,x15,x16].toArray)]=some (35,[x00,x01,x02,x03,x04,x05,x06,x10,x11,x12,x13,x14,x15,x16]):=by kernel_rfl
theorem qG (x0:Int):eX prg 35 [(0,.int .u8 x0)]=some [.int .u8 x0,dV,dV,.int .i64 0,.int .i64 0,cL,cL]:=by kernel_rfl
theorem aI9 (x1:ByteArray):eX prg 35 [(1,.string x1)]=some [.int .u8 0,.string x1,dV,.int .i64 0,.int .i64 0,cL,cL]:=by kernel_rfl
theorem xK (x0:Int) (x1:ByteArray):eX prg 76 [(0,.int .u8 x0),(1,.string x1)]=some [.int .u8 x0,.string x1,.int .i64 0,cL]:=by kernel_rfl
theorem jU (x0 x1:Int) (x40 x41 x42 x43 x44 x45 x46:Value):eX prg 97 [(0,.int .u8 x0),(1,.int .i64 x1),(4,.agg [x40,x41,x42,x43,x44,x45,x46].toArray)]=some [.int .u8 x0,.int .i64 x1,.bool false,.int .u8 0,x40,x41,x42,x43,x44,x45,x46]:=by kernel_rfl
theorem KJ (x0:Int) (x2:Bool) (x3:Int) (x40 x41 x42 x43 x44 x45 x46:Value):eX prg 97 [(0,.int .u8 x0),(2,.bool x2),(3,.int .u8 x3),(4,.agg [x40,x41,x42,x43,x44,x45,x46].toArray)]=some [.int .u8 x0,.int .i64 0,.bool x2,.int .u8 x3,x40,x41,x42,x43,x44,x45,x46]:=by kernel_rfl
theorem yU (x0:Int) (x2:Bool) (x40 x41 x42 x43 x44 x45 x46:Value):eX prg 97 [(0,.int .u8 x0),(2,.bool x2),(4,.agg [x40,x41,x42,x43,x44,x45,x46].toArray)]=some [.int .u8 x0,.int .i64 0,.bool x2,.int .u8 0,x40,x41,x42,x43,x44,x45,x46]:=by kernel_rfl
theorem VZ (x0:Int) (x40 x41 x42 x43 x44 x45 x46:Value):eX prg 97 [(0,.int .u8 x0),(4,.agg [x40,x41,x42,x43,x44,x45,x46].toArray)]=some [.int .u8 x0,.int .i64 0,.bool false,.int .u8 0,x40,x41,x42,x43,x44,x45,x46]:=by kernel_rfl
theorem gP:dU prg 35 1=some 1:=by kernel_rfl
theorem GB (x0 x1:Bool):eX prg 179 [(0,.bool x0),(1,.bool x1)]=some [.bool x0,.bool x1,.int .u8 0,dV,.int .i64 0,cL,.int .u8 0,dV,dV,.int .i64 0,.int .i64 0,cL,cL]:=by kernel_rfl
theorem PZ (x0:Int):eX prg 76 [(0,.int .u8 x0)]=some [.int .u8 x0,dV,.int .i64 0,cL]:=by kernel_rfl
theorem CD (x0 x2:Int):eX prg 76 [(0,.int .u8 x0),(2,.int .i64 x2)]=some [.int .u8 x0,dV,.int .i64 x2,cL]:=by kernel_rfl
theorem HC (x0:Int):eX prg 97 [(0,.int .u8 x0)]=some [.int .u8 x0,.int .i64 0,.bool false,.int .u8 0,.int .u8 0,dV,dV,.int .i64 0,.int .i64 0,cL,cL]:=by kernel_rfl
theorem IU (x0 x1:Int):eX prg 97 [(0,.int .u8 x0),(1,.int .i64 x1)]=some [.int .u8 x0,.int .i64 x1,.bool false,.int .u8 0,.int .u8 0,dV,dV,.int .i64 0,.int .i64 0,cL,cL]:=by kernel_rfl
theorem KM:jI prg 157=some (some 7):=by kernel_rfl
theorem aW6:QQ prg 200=some (19,7):=by kernel_rfl
theorem vY:dU prg 179 1=some 1:=by kernel_rfl
theorem aU3:gQ prg 95=some 1:=by kernel_rfl
theorem BU:gQ prg 157=some 7:=by kernel_rfl
theorem GY:nA prg 157=some
 [Go.Value.int Go.IntKind.u8 (Int.ofNat 0),Go.Value.bool false,Go.Value.bool false,
  Go.Value.bool false,Go.Value.bool false,Go.Value.int Go.IntKind.u8 (Int.ofNat 0),
  Go.Value.int Go.IntKind.u8 (Int.ofNat 0)]:=by kernel_rfl
theorem aW2  : eX prg 157 []=some [.int .u8 0,.bool false,.bool false,.bool false,.bool false,.int .u8 0,.int .u8 0]:=by kernel_rfl
theorem PW (x0 x1 x3:Int):eX prg 97 [(0,.int .u8 x0),(1,.int .i64 x1),(3,.int .u8 x3)]=some [.int .u8 x0,.int .i64 x1,.bool false,.int .u8 x3,.int .u8 0,dV,dV,.int .i64 0,.int .i64 0,cL,cL]:=by kernel_rfl
theorem iP:jI prg 31=some none:=by kernel_rfl
theorem EX:kM prg 74=true:=by kernel_rfl
theorem eY:dU prg 35 0=some 0:=by kernel_rfl
theorem dB:dU prg 35 5=some 5:=by kernel_rfl
theorem GA:dU prg 102 5=some 5:=by kernel_rfl
theorem RB (x1:Bool) (x30 x31 x32 x33 x34 x35 x36:Value):eX prg 179 [(1,.bool x1),(3,.agg [x30,x31,x32,x33,x34,x35,x36].toArray)]=some [.bool false,.bool x1,.int .u8 0,dV,.int .i64 0,cL,x30,x31,x32,x33,x34,x35,x36]:=by kernel_rfl
theorem PX (x0:Int) (x1:ByteArray) (x3p:Option Addr) (x3n x3c:Nat):eX prg 76 [(0,.int .u8 x0),(1,.string x1),(3,.slice x3p x3n x3c)]=some [.int .u8 x0,.string x1,.int .i64 0,.slice x3p x3n x3c]:=by kernel_rfl
theorem aX3:jI prg 165=some (some 22):=by kernel_rfl
theorem aX0:bN4 prg 165=true:=by kernel_rfl
theorem KL:QQ prg 165=some (22,1):=by kernel_rfl
theorem gM:jI prg 33=some none:=by kernel_rfl
theorem TP:kM prg 72=true:=by kernel_rfl
theorem xR:kM prg 76=true:=by kernel_rfl
theorem FP:dU prg 157 1=some 1:=by kernel_rfl
theorem wA:dU prg 157 2=some 2:=by kernel_rfl
theorem fJ:slN prg 33=some 7:=by kernel_rfl
theorem bO8:nA prg 3=some [Go.Value.int Go.IntKind.i64 (Int.ofNat 0)]:=by kernel_rfl
theorem aV6:kM prg 77=true:=by kernel_rfl
theorem QX:dU prg 157 0=some 0:=by kernel_rfl
theorem QW:dU prg 157 3=some 3:=by kernel_rfl
theorem QV:dU prg 157 4=some 4:=by kernel_rfl
theorem QU:dU prg 157 5=some 5:=by kernel_rfl
theorem vZ:dU prg 157 6=some 6:=by kernel_rfl
theorem tA:tQ prg 33=some (35,7,104):=by kernel_rfl
theorem aW0:kM prg 36=true:=by kernel_rfl
theorem aV9:kM prg 37=true:=by kernel_rfl
theorem aV8:kM prg 38=true:=by kernel_rfl
theorem aH7:kM prg 147=true:=by kernel_rfl
theorem aH6:kM prg 149=true:=by kernel_rfl
theorem LU (x0:Int) (x1:ByteArray) (x2:Int):eX prg 108 [(0,.int .u8 x0),(1,.string x1),(2,.int .i64 x2)]=some [.int .u8 x0,.string x1,.int .i64 x2]:=by kernel_rfl
theorem iO:jI prg 94=some none:=by kernel_rfl
theorem aV4:kM prg 95=true:=by kernel_rfl
theorem ZG:tQ prg 99=some (108,3,32):=by kernel_rfl
theorem aU4:gQ prg 94=some 1:=by kernel_rfl
theorem TL:gQ prg 99=some 1:=by kernel_rfl
theorem aU2:nA prg 94=some [Go.Value.pointer none]:=by kernel_rfl
theorem ZY (x2p:Option Addr) (x2n x2c:Nat):eX prg 102 [(2,.slice x2p x2n x2c)]=some [cL,.int .i64 0,.slice x2p x2n x2c,cL,.bool false,.bool false,.bool false,.int .i64 0,.int .i64 0]:=by kernel_rfl
theorem ZX (x2:Int):eX prg 108 [(2,.int .i64 x2)]=some [.int .u8 0,dV,.int .i64 x2]:=by kernel_rfl
theorem AW  : eX prg 35 []=some [.int .u8 0,dV,dV,.int .i64 0,.int .i64 0,cL,cL]:=by kernel_rfl
theorem PT (x00 x01 x02:Value):pG prg 99 1 [(0,.agg [x00,x01,x02].toArray)]=some (108,[x00,x01,x02]):=by kernel_rfl
theorem aW7:QQ prg 163=some (19,1):=by kernel_rfl
theorem dP:jI prg 27=some (some 7):=by kernel_rfl
theorem hQ:dU prg 27 0=some 0:=by kernel_rfl
theorem oL:dU prg 27 1=some 1:=by kernel_rfl
theorem oK:dU prg 27 2=some 2:=by kernel_rfl
theorem iX:dU prg 27 3=some 3:=by kernel_rfl
theorem iW:dU prg 27 4=some 4:=by kernel_rfl
theorem eZ:dU prg 27 5=some 5:=by kernel_rfl
theorem gC:gQ prg 27=some 7:=by kernel_rfl
theorem lH:nA prg 27=some
 [Go.Value.int Go.IntKind.i64 (Int.ofNat 0),Go.Value.string { data:={ toList:=[] } },
  Go.Value.string { data:={ toList:=[] } },Go.Value.int Go.IntKind.i64 (Int.ofNat 0),
  Go.Value.int Go.IntKind.i64 (Int.ofNat 0),Go.Value.slice none 0 0,Go.Value.slice none 0 0]:=by kernel_rfl
theorem QA (x0:Int):eX prg 27 [(0,.int .i64 x0)]=some [.int .i64 x0,dV,dV,.int .i64 0,.int .i64 0,cL,cL]:=by kernel_rfl
theorem bP4  : eX prg 83 []=some [.int .i64 0,dV,.int .i64 0,cL]:=by kernel_rfl
theorem qR:jI prg 25=some none:=by kernel_rfl
theorem jL:dU prg 27 6=some 6:=by kernel_rfl
theorem aU9:gQ prg 25=some 1:=by kernel_rfl
theorem CA (x00 x01 x02 x03 x04 x05 x06:Value):pG prg 25 1 [(0,.agg [x00,x01,x02,x03,x04,x05,x06].toArray)]=some (27,[x00,x01,x02,x03,x04,x05,x06]):=by kernel_rfl
theorem oI:slN prg 25=some 7:=by kernel_rfl
theorem HG (x0:Int) (x1 x2:ByteArray) (x3 x4:Int):eX prg 35 [(0,.int .u8 x0),(1,.string x1),(2,.string x2),(3,.int .i64 x3),(4,.int .i64 x4)]=some [.int .u8 x0,.string x1,.string x2,.int .i64 x3,.int .i64 x4,cL,cL]:=by kernel_rfl
theorem aI0 (x0 x1 x2 x3 x4 x5 x6:ByteArray):pG prg 71 7 [(0,.string x0),(1,.string x1),(2,.string x2),(3,.string x3),(4,.string x4),(5,.string x5),(6,.string x6)]=some (9,[.string x0,.string x1,.string x2,.string x3,.string x4,.string x5,.string x6]):=by kernel_rfl
theorem CE (x0:Int) (x6p:Option Addr) (x6n x6c:Nat):eX prg 27 [(0,.int .i64 x0),(6,.slice x6p x6n x6c)]=some [.int .i64 x0,dV,dV,.int .i64 0,.int .i64 0,cL,.slice x6p x6n x6c]:=by kernel_rfl
theorem PV (x00 x01 x02 x03 x04 x05 x06 x10 x11 x12 x13 x14 x15 x16:Value):pG prg 25 2 [(0,.agg [x00,x01,x02,x03,x04,x05,x06].toArray),(1,.agg [x10,x11,x12,x13,x14,x15,x16].toArray)]=some (27,[x00,x01,x02,x03,x04,x05,x06,x10,x11,x12,x13,x14,x15,x16]):=by kernel_rfl
theorem AX (x0 x3 x4:Int) (x6p:Option Addr) (x6n x6c:Nat):eX prg 27 [(0,.int .i64 x0),(3,.int .i64 x3),(4,.int .i64 x4),(6,.slice x6p x6n x6c)]=some [.int .i64 x0,dV,dV,.int .i64 x3,.int .i64 x4,cL,.slice x6p x6n x6c]:=by kernel_rfl
theorem WC (x0:Int) (x5p:Option Addr) (x5n x5c:Nat):eX prg 27 [(0,.int .i64 x0),(5,.slice x5p x5n x5c)]=some [.int .i64 x0,dV,dV,.int .i64 0,.int .i64 0,.slice x5p x5n x5c,cL]:=by kernel_rfl
end Go.Proofs.YtidclioghdbphaaGreatDoor
