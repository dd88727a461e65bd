/- Texts of the proof, one behind the other. -/
import Derived.Test.YthhoebdlfjffkaaGreatDoorMg
import Derived.Test.YthhoebdlfjffkaaGreatDoorTie
import Derived.ProofKit
import Derived.OpenShut
import Derived.ShutString
import Derived.Lay
import Derived.Stop.LaidErr
import Derived.Stop.Joined
import Derived.Shelf.Vars
import Derived.Lib.LaidTab
import Derived.Lib.SmallJoins
import Derived.SevenTiedAt
set_option linter.all false
set_option maxRecDepth 100000
namespace Go.Proofs.YthhoebdlfjffkaaGreatDoor
open Go.RowKit Go.Par Go.Sx
theorem BK {α:Type} (l:List α) (n:Nat):l.take (min l.length n)=l.take n:=by
 by_cases h:n≤l.length
 ·rw [Nat.min_eq_right h]
 ·rw [Nat.min_eq_left (by omega),List.take_length,List.take_of_length_le (by omega)]
def okB (M:Mk):Prop:=0<M.ints∧M.ints≤3∧M.flags≤2∧0<M.ars.length∧M.ars.length≤3∧M.own<M.ars.length∧∀ l∈M.ars,0<l.length∧l.length≤3∧∀ n∈l,n≤2
theorem UL {M:Mk} (h:okB M) {k:Nat} (hk:k<arL M M.own):okA (M.at k):=by
 obtain ⟨h1,h2,h3,h4,h5,h6,h7⟩:=h;refine ⟨⟨h1,h2,?_,h3⟩,h4,h5,h6,h7⟩;have h8:=h7 _ (List.getElem_mem h6);unfold arL at hk;show arN M M.own k≤2;unfold arN;rw [fC h6] at hk ⊢;rw [fC hk];exact h8.2.2 _ (List.getElem_mem hk)
set_option maxHeartbeats 1000000 in
theorem sS (M:Mk) (hM:okB M) (l:List Cd) (hll:l.length≤arL M M.own) (H:Hp) (w0 W:World) (bs:List Res) (b:Nat) (arV bv v:Value) (left:Int) (hv:Rep H (.seq 2 (l.map dCd)) [v]) (hAr:Rep H (.seq 1 (M.ars.map dAr)) [arV]) (s:St H w0 (.box b (mkC M arV bv left) 172::bs) W) :
 Calls Tryz.prog 67 #[.pointer (some ⟨b,0,none⟩),v] W fun e W'=>∃ z:Value × Nat × Hp × Value × Int,(HUp w0 H z.2.2.1∧Rep z.2.2.1 (.seq 3 ((kI M 0 l).map (dHd .i64))) [z.1])∧e=.returned z.1∧St z.2.2.1 w0 (.box b (mkC { M with params:=z.2.1 } arV z.2.2.2.1 z.2.2.2.2) 172::bs) W':=by
 obtain ⟨pA,cA,eA,_⟩:=hAr.sl;simp only [List.cons.injEq,and_true,List.length_map] at eA;subst eA;obtain ⟨bA,oA,pR,cR,hpA,mA,hR⟩:=PH hAr hM.2.2.2.2.2.1;subst hpA;obtain ⟨pl,cl,el,_⟩:=hv.sl;simp only [List.cons.injEq,and_true,List.length_map] at el;subst el;have hs:=hv;have hcap:=hs.cap;refine Sx.enterS Tryz.func67 rfl Tryz.ntmps67 rfl s ?_;refine .sr<|.a Z Z<|.ns<|.a Z Z<|?_
 refine Sx.row0 158 3 ?_;refine .nt<|.sq<|.sr<|.mv Z<|.yw (.lenSl Fx.sl165 Z)<|.mv Z<|.nt<|.bk<|.lp (X:=Nat × Nat × Hp × Value × List Value × Value × Int) [(0,_),(8,_),(9,_)] ⟨rfl,rfl,rfl,trivial⟩ (bs) (fun z=>[(5,z.2.2.2.1),(10,.int .i64 (z.1:Nat))]) (fun z=>z.2.2.1) (fun z=>[.row 158 3 z.2.2.2.1 z.1 z.2.2.2.2.1,.box b (mkC ({ M with params:=z.2.1 }) (.slice (some ⟨bA,oA,none⟩) M.ars.length cA) z.2.2.2.2.2.1 z.2.2.2.2.2.2) 172]) (fun z=>z.1≤l.length∧HUp w0 H z.2.2.1∧aL z.2.2.1 3 ((kI M 0 (l.take z.1)).map (dHd .i64)) z.2.2.2.2.1) (fun z=>l.length - z.1) (0,M.params,H,.slice none 0 0,[],bv,left) (fun _ s=>s) ⟨rfl,rfl,trivial⟩ ⟨by simp,.refl,aL.nil⟩ fun z hC=>?_
 obtain ⟨k,pv,H1,r,xs,bv,left⟩:=z;dsimp only at hC ⊢;obtain ⟨hk0,u1,hz⟩:=hC;refine .sr<|.yw (.lss Z Z)<|.nt<|.sq<|.cd Z (fun h11=>?_) (fun h11=>?_)
 ·try simp only [dt] at h11
  have hk:k<l.length:=by omega
  obtain ⟨bE,oE,cE,hpE,rE,lE,mE⟩:=(hs.up u1.up).elem (bB (f:=dCd) hk);cases hpE;generalize hx:l[k]=cd at rE;obtain ⟨pc,cc,rfl,hcb⟩:=AP rE;have hal:=hM.2.2.2.2.2.2 _ (List.getElem_mem hM.2.2.2.2.2.1);have hown:=hM.2.2.2.2.2.1;have hkA:k<arL M M.own:=by omega
  have hokA:okA (M.at k):=UL hM hkA;have hn2:arN M M.own k≤2:=(hokA.1).2.2.1;have hk3:k<3:=by have:=(hokA.len hown).2;exact Nat.lt_of_lt_of_le hkA this
  obtain ⟨bR,oR,hpR,mR⟩:=FN hR hkA;subst hpR;have mA1:=mA.up u1.up;have mR1:=mR.up u1.up;have hccap:=hcb.cap;refine .sk<|.tN<|.sq<|.bk<|.sr<|.mv Z<|.yw (.indexSl Fx.sl165 Z Z Z (by omega) (q:=oE+k * 2) Z)<|.yw (.loadMW Z Fx.agg174 mE Z)<|.al Fx.zero174 Z fun b7=>.a Z Z<|.sW .head Z Z Fx.size174 (by simp [Value.oneCell',aB]) Z<|.nt<|.sq<|.fL 16 [(0,0),(1,0),(2,0),(3,0),(4,0),(5,0),(6,0),(7,0),(8,0),(9,0),(10,0),(11,0),(12,0),(13,0),(14,0),(15,0)]<|.mv Z<|.mv Z<|.yw (.nilCheck Z)<|.yw (.fieldAddr Z Fx.field172_4)<|.yw (.load Z Fx.agg169 cC Z)<|.mv Z<|.yw (.nilCheck Z)<|.yw (.fieldAddr Z Fx.field172_3)<|.yw (.load Z Fx.agg3 cC Z)<|.yw (.indexSl Fx.sl169 Z Z (i:=M.own) Z (by omega) (q:=oA+M.own * 1) Z)<|.yw (.loadM Z Fx.agg129 mA1 (k:=0) Z Z)<|.mv Z<|.yw (.indexSl Fx.sl129 Z Z (i:=k) Z (by omega) (q:=oR+k * 1) Z)<|.yw (.loadM Z Fx.agg3 mR1 (k:=0) Z Z)<|.yw (.nilCheck Z)<|.yw (.fieldAddr Z Fx.field172_5)<|.fn (tl:=[_]) Z<|.st (l':=mkC (M.at k) (.slice (some ⟨bA,oA,none⟩) M.ars.length cA) bv left) cJ Z Z Fx.size3 Z (nb Z) Z<|.nt<|.sq<|.fL 10 [(0,0),(1,0),(2,0),(3,0),(4,0),(5,0),(6,0),(7,0),(8,0),(9,0)]<|.mv Z<|.yw (.fieldAddr Z Fx.field174_1)<|.yw (.load Z Fx.agg40 (.head _) Z)<|.yw (.fieldAddr Z Fx.field174_1)<|.yw (.load Z Fx.agg40 (.head _) Z)<|.yw (.lenSl Fx.sl40 Z)<|.yw (.call Fx.call64 Z (fun W s=>oV H1 cd.bytes.length 40 W s.agr))<|.yw (.cutHi2 Fx.sl40 Z Z (h:=min cd.bytes.length 40) Z (by have:=hcb.len.2.1;omega))<|.yw (.nilCheck Z)<|.yw (.fieldAddr Z Fx.field172_6)<|.fn (tl:=[_]) Z<|.st (l':=mkC (M.at k) (.slice (some ⟨bA,oA,none⟩) M.ars.length cA) _ left) cJ Z Z Fx.size40 Z (nb Z) Z<|.ns<|.mv Z<|.yw (.nilCheck Z)<|.yw (.fieldAddr Z Fx.field172_7)<|.st (l':=mkC (M.at k) (.slice (some ⟨bA,oA,none⟩) M.ars.length cA) _ ((12:Nat):Int)) cJ Z Z Fx.size3 Z (nb Z) Z<|?_
  have hb40:=mB hcb (hi:=min cd.bytes.length 40) (by omega);rw [← List.map_take,BK] at hb40;refine .nt<|.fL 14 [(0,0),(2,0),(5,0),(6,0),(7,0),(8,0),(10,0),(1,1),(3,0),(4,0),(9,1),(11,3),(12,0),(13,1)]<|.mv Z<|.mv Z<|.mv Z<|.yw (.nilCheck Z)<|.yw (.fieldAddr Z Fx.field172_5)<|.yw (.load Z Fx.agg3 cC Z)<|.mv Z<|.ct (X:=Value) Fx.call65 Z (fun W s=>fF H1 104 3 (by omega) W s.agr) Z fun v45 H45 hn45 u45=>?_
  obtain ⟨pn45,cn45,e45,_⟩:=hn45.sl;simp only [List.cons.injEq,and_true,List.length_map,dN] at e45;subst e45;obtain ⟨bN,oN,hpN,mN⟩:=jC hn45 (k:=k) hk3;subst hpN;refine .yw (.indexSl Fx.sl52 Z Z (i:=k) Z (by omega) (q:=oN+k * 1) Z)<|.yw (.loadM Z Fx.agg9 mN (k:=0) Z Z)<|.ct (X:=Value) Fx.call65 Z (fun W s=>fF H45 112 (arN M M.own k) (by omega) W s.agr) Z fun v53 H53 hn53 u53=>?_
  obtain ⟨pn53,cn53,e53,_⟩:=hn53.sl;simp only [List.cons.injEq,and_true,List.length_map,dN] at e53;subst e53;refine .c3 (X:=Value × Value × Hp) Fx.call109 Z (fun W s=>yL (M.at k) hokA 3 (by decide) H53 w0 W _ b _ _ 12 (cd.bytes.take 40) (by decide) (hAr.up (u1.trans (u45.trans u53)).up) (hb40.up (u45.trans u53).up)  (s.p3_3 [2,0,1] Z)) Z (fun z55 hz55=>(.yv (.loadM Z Fx.agg9 (mN.up (u53.up.trans hz55.1.up)) (k:=0) Z Z)<|.yv (.indexSl Fx.sl52 Z Z (i:=k) Z (by omega) (q:=oN+k * 1) Z)<|.dn<|.dn<|.dn<|.dn<|.dn<|.yv (.move Z)<|.yv (.move Z)<|.nl)) fun z55 hz55=>?_;obtain ⟨x55,v55,H55⟩:=z55;obtain ⟨u55,r55,q55,l55⟩:=hz55;dsimp only at u55 r55 q55 ⊢;obtain ⟨pb55,cb55,eb55,_⟩:=r55.sl;simp only [List.cons.injEq,and_true,List.length_map] at eb55;subst eb55;exact .yw (.build Z (Fx.bld158_0_1_2 _ _ _ _ _ _ _))<|.bl Z (Fx.bsl152_1 _ _ _) Z fun b57=>.fn (tl:=[_,_]) Z<|.ap (news:=[aB (nmB 104 k),.slice pn53 (arN M M.own k) cn53,.slice pb55 (sG (M.at k) 3 (cd.bytes.take 40,12)).1.length cb55]) Fx.row152 Z (fun _=>fQ) Z (.box (.head _) z0) Z (by simp [Value.oneCell',aB]) (by simp [maxLen];omega) (by omega) Z fun r58 _=>.a Z Z<|.nl<|.bN<|.tN<|.rg<|.yw (.add Z Z (w6 (by omega)))<|.mv Z<|.nt<|.ag (x:=(k,pv,H1,r,xs,bv,left)) (k+1,arN M M.own k,H55,r58,xs++[aB (nmB 104 k),.slice pn53 (arN M M.own k) cn53,.slice pb55 (sG (M.at k) 3 (cd.bytes.take 40,12)).1.length cb55],v55,((sG (M.at k) 3 (cd.bytes.take 40,12)).2.2:Nat)) ⟨rfl,rfl,trivial⟩ ⟨rfl,rfl,rfl,trivial⟩ (fun _ s=>(s.p4_2 [3,1] Z)) ⟨by dsimp only;omega,u1.trans (u45.trans (u53.trans u55)),by dsimp only;rw [KG hk,hx,List.map_append];exact (hz.up ((u45.trans (u53.trans u55)).up)).snoc (AE (x:=hdS M k cd) (by simp [hdS,nmB]) (by simpa [hdS,dN] using hn53.up u55.up) (by simpa [hdS] using r55)) Z⟩ (by dsimp only;omega)
 try simp only [df] at h11
 obtain rfl:k=l.length:=by omega
 rw [List.take_length] at hz;refine .ex<|.tE<|.tE<|.bE<|.tN<|.sr<|.mv Z<|.a Z Z<|.nt<|.rt<|?_
 refine At.pt (hd:=[_,_]) (tl:=bs) (hd':=[_,_]) [0,1] rfl rfl ?_;refine Sx.freezeSeq (ds:=(kI M 0 l).map (dHd .i64)) (by simp [jQ]) hz fun H3 p3 c3 u3 hr3 hs3=>?_;exact Sx.ret1 (.inl rfl) rfl (.tmp rfl) fun W t=>⟨(r,pv,H3,bv,left),⟨u1.trans u3,hs3⟩,rfl,t⟩
theorem vS {H:Hp} (n:Nat):Rep H (AM n) [.int .i64 (n:Nat)]:=UA rfl trivial
theorem KV (H:Hp) (x:Prt) (cs:List Value) (w:World) (h:Rep H (tF x) cs) (hA:Agr H w):Calls Tryz.prog 66 #[.agg cs.toArray] w fun r w'=>∃ (v:Value) (H':Hp),Rep H' (.seq 1 ((arP x).map AM)) [v]∧r=.returned v∧mS H w H' w':=by
 obtain ⟨p1,c1,p2,c2,rfl,h1,h2⟩:=BX h;have hcap1:=h1.cap;have hcap2:=h2.cap;refine Sx.enter (H:=H) Tryz.func66 rfl Tryz.ntmps66 rfl hA ?_;refine .sr<|.bx Z Z Z fun b1=>.a Z Z<|.ns<|.a Z Z<|?_
 refine Sx.row0 3 1 ?_;refine .nt<|.sq<|.sr<|.a Z Z<|.nt<|.bk<|.lp (X:=Nat × Nat × Value × List Value) [(1,_)] ⟨rfl,trivial⟩ [_] (fun z=>[(3,z.2.2.1),(4,.int .i64 (z.1:Nat))]) (fun z=>H) (fun z=>[.row 3 1 z.2.2.1 z.2.1 z.2.2.2]) (fun z=>z.1≤3∧z.2.1=(xB x z.1).length∧aL H 1 ((xB x z.1).map AM) z.2.2.2) (fun z=>3 - z.1) (0,0,.slice none 0 0,[]) (fun _ s=>s) ⟨rfl,rfl,trivial⟩ ⟨by simp,rfl,aL.nil⟩ fun z hC=>?_
 obtain ⟨k,n,r,xs⟩:=z;dsimp only at hC ⊢;obtain ⟨hk0,hn,hz⟩:=hC;have hn3:=wQ x k;refine .sq<|.sr<|.mv Z<|.yw (.lss Z Z)<|.nt<|.cd Z (fun h6=>?_) (fun h6=>?_)
 ·try simp only [dt] at h6
  have hk3:k<3:=by omega
  refine .sk<|.tN<|.sq<|.bk<|.bk<|.sr<|.mv Z<|.yw (.fieldAddr Z Fx.field167_2)<|.yw (.load Z Fx.agg165 aW Z)<|.yw (.lenSl Fx.sl165 Z)<|.yw (.lss Z Z)<|.a Z Z<|.nt<|.cd Z (fun h9=>?_) (fun h9=>?_)
  ·try simp only [dt] at h9
   have hk:k<x.hs.length:=by omega
   obtain ⟨bE,oE,cE,hpE,rE,lE,mE⟩:=h1.elem (bB (f:=dCd) hk);cases hpE;obtain ⟨pc,cc,rfl,_⟩:=AP rE;exact .rg<|.mv Z<|.yw (.fieldAddr Z Fx.field167_2)<|.yw (.load Z Fx.agg165 aW Z)<|.mv Z<|.yw (.indexSl Fx.sl165 Z Z Z (by omega) (q:=oE+k * 2) Z)<|.yw (.fieldAddr Z Fx.field174_0)<|.yw (.loadM Z Fx.agg5 mE (k:=0) Z Z)<|.yw (.rem Z Z (by decide) (c:=((x.hs[k].ps.toNat % 3:Nat):Int)) (by rw [Int.tmod_eq_emod_of_nonneg (by omega)];omega))<|.yw (.conv Z Fx.int5 Fx.int3 (c:=((x.hs[k].ps.toNat % 3:Nat):Int)) (w6 (by omega)))<|.bl Z (Fx.bsl129_1 _) Z fun b24=>.ap (news:=[.int .i64 (x.hs[k].ps.toNat % 3:Nat)]) Fx.row129 Z (fun _=>bQ) Z (.box (.head _) z0) Z (by simp [Value.oneCell']) (by simp [maxLen];omega) (by omega) Z fun r25 _=>.a Z Z<|.nl<|.bN<|.bN<|.tN<|.rg<|.mv Z<|.yw (.add Z Z (w6 (by omega)))<|.a Z Z<|.nt<|.ag (x:=(k,n,r,xs)) (k+1,n+1,r25,xs++[.int .i64 (x.hs[k].ps.toNat % 3:Nat)]) ⟨rfl,rfl,trivial⟩ ⟨rfl,trivial⟩ (fun _ s=>(s.pick [1,2] _ Z Z)) (by have hA1:arK x k=[x.hs[k].ps.toNat % 3]:=(by unfold arK;rw [dif_pos hk]);exact ⟨by dsimp only;omega,by dsimp only;rw [iH,hA1];simp [hn],by dsimp only;rw [iH,hA1,List.map_append];exact hz.snoc (vS _) Z⟩) (by dsimp only;omega)
  try simp only [df] at h9
  have hna:¬ k<x.hs.length:=by omega
  refine .sr<|.mv Z<|.yw (.eql Z Z)<|.a Z Z<|.nt<|.cd Z (fun h26=>?_) (fun h26=>?_)
  ·try simp only [dt] at h26
   have hb:k=0:=by omega
   exact .rg<|.mv Z<|.bl Z (Fx.bsl129_1 _) Z fun b30=>.ap (news:=[.int .i64 (1:Nat)]) Fx.row129 Z (fun _=>bQ) Z (.box (.head _) z0) Z (by simp [Value.oneCell']) (by simp [maxLen];omega) (by omega) Z fun r31 _=>.a Z Z<|.nl<|.bN<|.bN<|.tN<|.rg<|.mv Z<|.yw (.add Z Z (w6 (by omega)))<|.a Z Z<|.nt<|.ag (x:=(k,n,r,xs)) (k+1,n+1,r31,xs++[.int .i64 (1:Nat)]) ⟨rfl,rfl,trivial⟩ ⟨rfl,trivial⟩ (fun _ s=>(s.pick [1,2] _ Z Z)) (by have hA1:arK x k=[1]:=(by unfold arK;rw [dif_neg hna,if_pos hb]);exact ⟨by dsimp only;omega,by dsimp only;rw [iH,hA1];simp [hn],by dsimp only;rw [iH,hA1,List.map_append];exact hz.snoc (vS _) Z⟩) (by dsimp only;omega)
  try simp only [df] at h26
  have hnb:¬ k=0:=by omega
  refine .sr<|.mv Z<|.yw (.fieldAddr Z Fx.field167_3)<|.yw (.load Z Fx.agg165 aW Z)<|.yw (.lenSl Fx.sl165 Z)<|.yw (.lss Z Z)<|.a Z Z<|.nt<|.cd Z (fun h32=>?_) (fun h32=>?_)
  ·try simp only [dt] at h32
   have hk:k<x.sec.length:=by omega
   obtain ⟨bE,oE,cE,hpE,rE,lE,mE⟩:=h2.elem (bB (f:=dCd) hk);cases hpE;obtain ⟨pc,cc,rfl,_⟩:=AP rE;exact .rg<|.mv Z<|.yw (.fieldAddr Z Fx.field167_3)<|.yw (.load Z Fx.agg165 aW Z)<|.mv Z<|.yw (.indexSl Fx.sl165 Z Z Z (by omega) (q:=oE+k * 2) Z)<|.yw (.fieldAddr Z Fx.field174_0)<|.yw (.loadM Z Fx.agg5 mE (k:=0) Z Z)<|.yw (.rem Z Z (by decide) (c:=((x.sec[k].ps.toNat % 3:Nat):Int)) (by rw [Int.tmod_eq_emod_of_nonneg (by omega)];omega))<|.yw (.conv Z Fx.int5 Fx.int3 (c:=((x.sec[k].ps.toNat % 3:Nat):Int)) (w6 (by omega)))<|.bl Z (Fx.bsl129_1 _) Z fun b47=>.ap (news:=[.int .i64 (x.sec[k].ps.toNat % 3:Nat)]) Fx.row129 Z (fun _=>bQ) Z (.box (.head _) z0) Z (by simp [Value.oneCell']) (by simp [maxLen];omega) (by omega) Z fun r48 _=>.a Z Z<|.nl<|.bN<|.bN<|.tN<|.rg<|.mv Z<|.yw (.add Z Z (w6 (by omega)))<|.a Z Z<|.nt<|.ag (x:=(k,n,r,xs)) (k+1,n+1,r48,xs++[.int .i64 (x.sec[k].ps.toNat % 3:Nat)]) ⟨rfl,rfl,trivial⟩ ⟨rfl,trivial⟩ (fun _ s=>(s.pick [1,2] _ Z Z)) (by have hA1:arK x k=[x.sec[k].ps.toNat % 3]:=(by unfold arK;rw [dif_neg hna,if_neg hnb,dif_pos hk]);exact ⟨by dsimp only;omega,by dsimp only;rw [iH,hA1];simp [hn],by dsimp only;rw [iH,hA1,List.map_append];exact hz.snoc (vS _) Z⟩) (by dsimp only;omega)
  try simp only [df] at h32
  have hnc:¬ k<x.sec.length:=by omega
  exact .sk<|.bN<|.bN<|.tN<|.rg<|.mv Z<|.yw (.add Z Z (w6 (by omega)))<|.a Z Z<|.nt<|.ag (x:=(k,n,r,xs)) (k+1,n,r,xs) ⟨rfl,rfl,trivial⟩ ⟨rfl,trivial⟩ (fun _ s=>(s.pick [0,1] _ Z Z)) (by have hA1:arK x k=[]:=(by unfold arK;rw [dif_neg hna,if_neg hnb,dif_neg hnc]);exact ⟨by dsimp only;omega,by dsimp only;rw [iH,hA1,List.append_nil];exact hn,by dsimp only;rw [iH,hA1,List.append_nil];exact hz⟩) (by dsimp only;omega)
 try simp only [df] at h6
 obtain rfl:k=3:=by omega
 refine .ex<|.tE<|.tE<|.bE<|.tN<|.sr<|.mv Z<|.a Z Z<|.nt<|.rt<|?_
 refine At.pm [0] [_] rfl rfl ?_;refine Sx.freezeSeq (ds:=(xB x 3).map AM) (by simp [hn]) hz fun H3 p3 c3 u3 hr3 hs3=>?_;exact Sx.ret1 (.inl rfl) rfl (.tmp rfl) fun W t=>⟨r,H3,hs3,rfl,u3.grow t⟩
theorem fd2 (a m:Nat):Int.fdiv (a:Int) (2 ^ m)=((a / 2 ^ m:Nat):Int):=by
 rw [Int.fdiv_eq_ediv_of_nonneg _ (Int.pow_nonneg (by decide))];rw [Int.natCast_ediv,Int.natCast_pow];rfl
theorem tm2 (a b:Nat):Int.tmod (a:Int) (b:Int)=((a % b:Nat):Int):=by
 rw [Int.tmod_eq_emod_of_nonneg (Int.natCast_nonneg _)];rfl
theorem XF {n:Nat} (h:n≤3):IntKind.i64.wrap ((n:Int) * n)=((n * n:Nat):Int):=by
 have key:∀ i∈List.range 4,IntKind.i64.wrap ((i:Int) * i)=((i * i:Nat):Int):=by decide
 exact key n (List.mem_range.2 (by omega))
theorem XD {a b:Nat} (h:a / b<3):IntKind.i64.wrap (Int.tdiv (a:Int) (b:Int))=((a / b:Nat):Int):=by
 rw [Int.tdiv_eq_ediv_of_nonneg (Int.natCast_nonneg _),show (a:Int) / (b:Int)=((a / b:Nat):Int) from rfl];have h3:∀ n:Nat,n<3→IntKind.i64.wrap (n:Int)=(n:Int):=fun n hn=>w64 (by omega) (by omega);exact h3 _ h
theorem rO {α β:Type} {f:α→β} (l:List α) (n:Nat):(l.map f).take (min l.length n)=(l.map f).take n:=by
 have:=BK (l.map f) n
 rwa [List.length_map] at this
theorem KZ {H:Hp} {j:Nat} (h:j<10):Rep H (dVr .i64 (vrI j)) [aB (nmB 120 j),.int .i64 1,.int .i64 (j:Nat)]:=by
 have:=qI (H:=H) (k:=.i64) (x:=vrI j) (by simp [vrI,nmB]);have e:(Int64.ofNat j).toInt=(j:Int):=Int64.toInt_ofNat_of_lt (by omega);rw [show (vrI j).init.toInt=(j:Int) from e] at this;exact this
theorem NJ {H:Hp} (a b:Nat) {n:Nat} (h:n<4):Rep H (dLk ⟨iY a,iY b,Int64.ofNat n⟩) [aB (iY a),aB (iY b),.int .i64 (n:Nat)]:=by
 have:=zX (H:=H) (x:=⟨iY a,iY b,Int64.ofNat n⟩) (by simp [iY]) (by simp [iY]);have e:(Int64.ofNat n).toInt=(n:Int):=Int64.toInt_ofNat_of_lt (by omega);simp only [e] at this;exact this
theorem RD {n k:Nat} {l:Bs} (hk:k<l.length) (h:¬ 0<l[k].toNat % 4):zW n l k=[]:=by unfold zW;rw [fC hk,if_neg h]
theorem NI {n k:Nat} {l:Bs} (hk:k<l.length) (h:0<l[k].toNat % 4):zW n l k=[⟨iY (k / n),iY (k % n),Int64.ofNat (l[k].toNat % 4)⟩]:=by unfold zW;rw [fC hk,if_pos h]
theorem UJ {p:Pln} {k:Nat} {x:Prt} (hk:k<(aR p).length) (hf:p.flags.toNat % 3≤2) (hpos:0<(aR p).length∧(aR p).length≤3) (hi:0<fU x∧fU x≤3):okB (mkP (fN p) (p.flags.toNat % 3) k x):=by
 refine ⟨hi.1,hi.2,hf,by simpa [mkP,fN] using hpos.1,by simpa [mkP,fN] using hpos.2,by simpa [mkP,fN] using hk,?_⟩;intro l hl;obtain ⟨y,_,rfl⟩:=List.mem_map.1 hl;have:=uC y;exact ⟨by omega,by omega,fun n hn=>IA hn⟩
theorem RO {p:Pln} {k nf:Nat} {x:Prt} (hk:k<(aR p).length) (h:(fN p).getD k []=arP x):(wX x).length≤arL (mkP (fN p) nf k x) (mkP (fN p) nf k x).own:=by
 show _≤((fN p).getD k []).length;rw [h,uC];unfold wX
 split
 ·simp;omega
 ·rw [List.length_take];omega
theorem QK {p:Pln} {k nf:Nat} {x:Prt} (hk:k<(aR p).length) (h:(fN p).getD k []=arP x):(x.sec.take 3).length≤arL (mkP (fN p) nf k x) (mkP (fN p) nf k x).own:=by
 show _≤((fN p).getD k []).length;rw [h,uC,List.length_take];omega
theorem xU (M:Mk) (n:Nat):∀ (l:List Cd) (k:Nat),kI { M with params:=n } k l=kI M k l
 | [],_=>rfl
 | c::r,k=>by rw [kI,kI,xU M n r (k+1)];rfl
theorem NY {H:Hp} {M:Mk} {n:Nat} {l:List Cd} {v:Value} (h:Rep H (.seq 3 ((kI { M with params:=n } 0 l).map (dHd .i64))) [v]):Rep H (dVs .i64 (kI M 0 l)) [v]:=by rwa [xU] at h
set_option maxHeartbeats 8000000 in
theorem FK (H:Hp) (p:Pln) (cs:List Value) (w:World) (h:Rep H (FH p) cs) (hA:Agr H w):Calls Tryz.prog 36 #[.agg cs.toArray] w fun r w'=>∃ (v:List Value) (H':Hp),Rep H' (dFt .i64 (bD p)) v∧r=.returned (.agg v.toArray)∧mS H w H' w':=by
 obtain ⟨p1,c1,p2,c2,rfl,h1,h2⟩:=vI h;have hcap1:=h1.cap;have hcap2:=h2.cap;refine Sx.enter (H:=H) Tryz.func36 rfl Tryz.ntmps36 rfl hA ?_;refine .sr<|.bx Z Z Z fun b1=>.al Fx.zero85 Z fun b2=>.ns<|.yw (.fieldAddr Z Fx.field43_2)<|.yw (.load Z Fx.agg41 aW Z)<|.yw (.lenSl Fx.sl41 Z)<|.yw (.call Fx.call64 Z (fun W s=>oV H p.comps.length 3 W s.agr))<|.a Z Z<|.ns<|.yw (.fieldAddr Z Fx.field43_2)<|.yw (.load Z Fx.agg41 aW Z)<|.mv Z<|.yw (.cutHi2 Fx.sl41 Z Z (h:=min p.comps.length 3) Z (by have:=h2.len.2.1;omega))<|.a Z Z<|.nt<|.cu (X:=Nat × Hp × Value) [(1,_),(2,_)] ⟨rfl,rfl,trivial⟩ (fun z=>[(3,.int .i64 (z.1:Nat)),(4,z.2.2)]) (fun z=>z.2.1) (fun z=>[.box b1 [.int .u8 p.flags.toNat,.slice p1 p.links.length c1,.slice p2 p.comps.length c2] 43,.box b2 [.string ⟨#[]⟩,.slice none 0 0,.slice none 0 0,.slice none 0 0] 85]) (fun z=>z.1=(aR p).length∧HUp w H z.2.1∧Rep z.2.1 (.seq 4 ((aR p).map tF)) [z.2.2]) ?_ fun z hC=>?_
 ·
  refine .sr<|.mv Z<|.yw (.eql Z Z)<|.nt<|.cd Z (fun h31=>?_) (fun h31=>?_)
  ·try simp only [dt] at h31
   have h0:p.comps.length=0:=by omega
   refine .rg<|.yw (.build Z Fx.bld167)<|.bl Z (Fx.bsl41_1 _ _ _ _) Z fun b33=>?_
   refine Sx.freezeBox fun H1 u1 m1=>?_;exact .a Z Z<|.a Z Z<|.nt<|.me (1,H1,_) ⟨rfl,rfl,trivial⟩ ⟨rfl,rfl,trivial⟩ (fun _ s=>s.pick [1,0] [_,_] Z Z) ⟨by rw [aR,if_pos h0];rfl,u1,by rw [aR,if_pos h0];exact Rep.mk (n:=1) (c:=1) m1 (.single (MM (x:=⟨0,0,[],[]⟩) (Rep.empty (by decide)) (Rep.empty (by decide))) Z) Z (Nat.le_refl _) (by decide)⟩
  try simp only [df] at h31
  have h0:¬ p.comps.length=0:=by omega
  exact .sk<|.tN<|.me (min p.comps.length 3,H,_) ⟨rfl,rfl,trivial⟩ ⟨rfl,rfl,trivial⟩ (fun _ s=>s.pick [1,0] [_,_] Z Z) ⟨by rw [aR,if_neg h0,List.length_take];exact Nat.min_comm _ _,.refl,by rw [aR,if_neg h0,List.map_take];have:=mB h2 (hi:=min p.comps.length 3) (by omega);rw [rO] at this;exact this⟩
 obtain ⟨N,H1,pv⟩:=z;dsimp only at hC ⊢;obtain ⟨hN,u1,hps⟩:=hC;obtain ⟨pp,cp,e,_⟩:=hps.sl;simp only [List.cons.injEq,and_true,List.length_map] at e;subst e;subst hN;have hpos:=oP p;have hl1:=h1.up u1.up;have hpcap:=hps.cap;have hf3:p.flags.toNat % 3≤2:=by omega
 refine .sr<|.yw (.build Z (Fx.bld85_0 _))<|.al Fx.zero85 Z fun b5=>.sW .head Z Z Fx.size85 (by simp [Value.oneCell',aB]) Z<|.nt<|.sq<|.sr<|.yw (.fieldAddr Z Fx.field43_0)<|.yw (.load Z Fx.agg5 aW Z)<|.yw (.rem Z Z (by decide) (c:=((p.flags.toNat % 3:Nat):Int)) (by rw [Int.tmod_eq_emod_of_nonneg (by omega)];omega))<|.yw (.conv Z Fx.int5 Fx.int3 (c:=((p.flags.toNat % 3:Nat):Int)) (w6 (by omega)))<|.ct (X:=Value) Fx.call65 Z (fun W s=>fF H1 102 (p.flags.toNat % 3) (by omega) W s.agr) Z fun v39 H39 hn39 u39=>?_
 obtain ⟨pn39,cn39,e39,_⟩:=hn39.sl;simp only [List.cons.injEq,and_true,List.length_map,dN] at e39;subst e39;refine .yw (.lenSl Fx.sl52 Z)<|.mv Z<|?_
 refine Sx.row0 141 2 ?_;refine .nt<|.bk<|.lp (X:=Nat × Value × List Value) [(1,_),(2,_),(3,_),(4,_),(5,_),(39,_),(40,_)] ⟨rfl,rfl,rfl,rfl,rfl,rfl,rfl,trivial⟩ [_,_] (fun z=>[(41,.int .i64 (z.1:Nat))]) (fun z=>H39) (fun z=>[.row 141 2 z.2.1 z.1 z.2.2,.box b5 [aB mY,z.2.1,.slice none 0 0,.slice none 0 0] 85]) (fun z=>z.1≤(p.flags.toNat % 3)∧aL H39 2 ((rD p.flags z.1).map dFg) z.2.2) (fun z=>(p.flags.toNat % 3) - z.1) (0,.slice none 0 0,[]) (fun _ s=>s) ⟨rfl,trivial⟩ ⟨by simp,aL.nil⟩ fun z hC=>?_
 obtain ⟨k,r,xs⟩:=z;dsimp only at hC ⊢;obtain ⟨hk0,hz⟩:=hC;refine .sr<|.yw (.lss Z Z)<|.nt<|.sq<|.cd Z (fun h42=>?_) (fun h42=>?_)
 ·try simp only [dt] at h42
  have hk:k<(p.flags.toNat % 3):=by omega
  obtain ⟨bE,oE,hpE,mE⟩:=jC hn39 (k:=k) hk;subst hpE;exact .sk<|.tN<|.sq<|.bk<|.sr<|.mv Z<|.yw (.indexSl Fx.sl52 Z Z (i:=k) Z (by omega) (q:=oE+k * 1) Z)<|.yw (.loadM Z Fx.agg9 mE (k:=0) Z Z)<|.a Z Z<|.a Z Z<|.nt<|.fL 12 [(0,0),(1,0),(2,0),(3,0),(4,0),(5,0),(6,0),(7,0),(8,0),(9,0),(10,0),(11,1)]<|.yw (.fieldAddr Z Fx.field85_1)<|.yw (.load Z Fx.agg81 aW Z)<|.mv Z<|.yw (.fieldAddr Z Fx.field43_0)<|.yw (.load Z Fx.agg5 cC Z)<|.mv Z<|.yw (.add Z Z (c:=((4+k:Nat):Int)) ((w6 (by omega)).trans (by omega)))<|.yw (.shr Z Z (m:=4+k) Z (by show 4+k≤8;omega) (c:=((p.flags.toNat / 2 ^ (4+k):Nat):Int)) (fd2 _ _))<|.yw (.rem Z Z (by decide) (c:=((p.flags.toNat / 2 ^ (4+k) % 2:Nat):Int)) (tm2 _ 2))<|.yw (.eql Z Z)<|.yw (.build Z (Fx.bld141_0_1 _ _))<|.bl Z (Fx.bsl81_1 _ _) Z fun b57=>.fn (tl:=[_,_,_]) Z<|.ap (news:=[aB (nmB 102 k),.bool (KJ p.flags k).init]) Fx.row81 Z (fun _=>bQ) Z (.box (.head _) z0) Z (by simp [Value.oneCell',aB,iY]) (by simp [maxLen];omega) (by omega) Z fun r58 _=>.ra aW fun p58 c58 e58=>.yw (.fieldAddr Z Fx.field85_1)<|.st cJ Z Z Fx.size81 (by rw [e58];rfl) (nb Z) Z<|.nl<|.bN<|.tN<|.rg<|.yw (.add Z Z (w6 (by omega)))<|.mv Z<|.nt<|.ag (x:=(k,r,xs)) (k+1,r58,xs++[aB (nmB 102 k),.bool (KJ p.flags k).init]) ⟨rfl,trivial⟩ ⟨rfl,rfl,rfl,rfl,rfl,rfl,rfl,trivial⟩ (fun _ s=>(s.pick [1,2,3,4] _ Z Z)) ⟨by dsimp only;omega,by dsimp only;rw [FC,List.map_append];exact hz.snoc (AJ (x:=KJ p.flags k) (by simp [KJ,nmB])) Z⟩ (by dsimp only;omega)
 try simp only [df] at h42
 obtain rfl:k=(p.flags.toNat % 3):=by omega
 refine Sx.freezeSeq (ds:=(rD p.flags (p.flags.toNat % 3)).map dFg) (by simp [rY]) hz fun H4 p4 c4 u4 e4 hfl=>?_;subst e4;refine .ex<|.tE<|.tE<|.bE<|.tN<|.sr<|.bl Z (Fx.bsl52_3 _ _ _) Z fun b61=>?_
 refine Sx.freezeBox fun H5 u5 m5=>?_;refine .a Z Z<|.nt<|.sq<|.sr<|.a Z Z<|?_
 refine Sx.row0 142 3 ?_;have hl5:=h1.up (u1.trans (u39.trans (u4.trans u5))).up;obtain ⟨NN,hNN⟩:∃ NN,NN=(aR p).length * (aR p).length:=⟨_,rfl⟩;have hN9:NN≤9:=by rw [hNN];exact Nat.mul_le_mul hpos.2 hpos.2
 refine .nt<|.bk<|.lp (X:=Nat × Nat × Value × List Value) [(1,_),(2,_),(3,_),(4,_),(5,_),(8,_)] ⟨rfl,rfl,rfl,rfl,rfl,rfl,trivial⟩ [_,_] (fun z=>[(9,.int .i64 (z.1:Nat))]) (fun z=>H5) (fun z=>[.row 142 3 z.2.2.1 z.2.1 z.2.2.2,.box b5 [aB mY,.slice p4 (p.flags.toNat % 3) c4,z.2.2.1,.slice none 0 0] 85]) (fun z=>z.1≤p.links.length∧z.1≤NN∧z.2.1=(mK (aR p).length p.links z.1).length∧aL H5 3 ((mK (aR p).length p.links z.1).map dLk) z.2.2.2) (fun z=>p.links.length - z.1) (0,0,.slice none 0 0,[]) (fun _ s=>s) ⟨rfl,trivial⟩ ⟨by simp,by simp,rfl,aL.nil⟩ fun z hC=>?_
 obtain ⟨k,m,r,xs⟩:=z;dsimp only at hC ⊢;obtain ⟨hk0,hk1,hm,hz⟩:=hC;have hmk:=oU (aR p).length p.links k;refine .sq<|.cu (X:=Bool) [(1,_),(2,_),(3,_),(4,_),(5,_),(8,_),(9,_)] ⟨rfl,rfl,rfl,rfl,rfl,rfl,rfl,trivial⟩ (fun z=>[(73,.bool z)]) (fun z=>H5) (fun z=>[.row 142 3 r m xs,.box b5 [aB mY,.slice p4 (p.flags.toNat % 3) c4,r,.slice none 0 0] 85,.box b2 [.string ⟨#[]⟩,.slice none 0 0,.slice none 0 0,.slice none 0 0] 85,.box b1 [.int .u8 p.flags.toNat,.slice p1 p.links.length c1,.slice p2 p.comps.length c2] 43]) (fun z=>z=decide (k<p.links.length∧k<NN)) ?_ fun z hC=>?_
 ·
  refine .rg<|.mv Z<|.yw (.fieldAddr Z Fx.field43_1)<|.yw (.load Z Fx.agg40 cC Z)<|.yw (.lenSl Fx.sl40 Z)<|.yw (.lss Z Z)<|.mv Z<|.b2 (fun h67=>?_) (fun h67=>?_)
  ·try simp only [dt] at h67
   exact .gd Z Z<|.yw (.move Z)<|.gd Z Z<|.yw (.move Z)<|.gd Z Z<|.yw (.move Z)<|.gd Z Z<|.yw (.mul Z Z (c:=((NN:Nat):Int)) (by rw [hNN];exact XF hpos.2))<|.gd Z Z<|.yw (.lss Z Z)<|.yw (.pickT Z Z)<|.nt<|.me _ ⟨rfl,trivial⟩ ⟨rfl,rfl,rfl,rfl,rfl,rfl,rfl,trivial⟩ (fun _ s=>s.pick [0,1,3,2] [_,_,_,_] Z Z) (by rw [Bool.eq_iff_iff,decide_eq_true_eq];first | (rw [decide_eq_true_eq];omega) | exact ⟨fun _=>by omega,fun _=>rfl⟩ | exact ⟨fun h=>(by cases h),fun h=>by omega⟩)
  try simp only [df] at h67
  exact .gG<|.gG<|.gG<|.gG<|.gG<|.yw (.pickF Z Z)<|.nt<|.me _ ⟨rfl,trivial⟩ ⟨rfl,rfl,rfl,rfl,rfl,rfl,rfl,trivial⟩ (fun _ s=>s.pick [0,1,3,2] [_,_,_,_] Z Z) (by rw [Bool.eq_iff_iff,decide_eq_true_eq];first | (rw [decide_eq_true_eq];omega) | exact ⟨fun _=>by omega,fun _=>rfl⟩ | exact ⟨fun h=>(by cases h),fun h=>by omega⟩)
 have e73:=hC;refine .cd Z (fun h73=>?_) (fun h73=>?_)
 ·have q73:k<p.links.length∧k<NN:=by rw [h73] at e73;exact of_decide_eq_true e73.symm
  obtain ⟨hkl,hkn⟩:=q73;obtain ⟨bE,oE,cE,hpE,rE,lE,mE⟩:=hl5.elem (bB (f:=dU8) hkl);cases hpE;obtain rfl:=FT rE
  have hdv:k / (aR p).length<3:=by rw [Nat.div_lt_iff_lt_mul hpos.1];calc k<NN:=hkn
   _=(aR p).length * (aR p).length:=hNN
   _≤3 * (aR p).length:=Nat.mul_le_mul_right _ hpos.2
  have hmd:k % (aR p).length<3:=Nat.lt_of_lt_of_le (Nat.mod_lt _ hpos.1) hpos.2;refine .sk<|.tN<|.sq<|.bk<|.sr<|.yw (.fieldAddr Z Fx.field43_1)<|.yw (.load Z Fx.agg40 gN Z)<|.mv Z<|.yw (.indexSl Fx.sl40 Z Z (i:=k) Z (by omega) (q:=oE+k * 1) Z)<|.yw (.loadM Z Fx.agg5 mE (k:=0) Z Z)<|.yw (.rem Z Z (by decide) (c:=((p.links[k].toNat % 4:Nat):Int)) (by rw [Int.tmod_eq_emod_of_nonneg (by omega)];omega))<|.yw (.gtr Z Z)<|.nt<|.cd Z (fun h82=>?_) (fun h82=>?_)
  ·try simp only [dt] at h82
   have hq:0<p.links[k].toNat % 4:=by omega
   exact .fL 23 [(0,0),(1,0),(2,0),(3,0),(4,0),(5,0),(6,0),(7,0),(8,0),(9,0),(10,0),(11,0),(12,0),(13,0),(14,0),(15,0),(16,0),(17,0),(18,0),(19,0),(20,0),(21,0),(22,1)]<|.yw (.fieldAddr Z Fx.field85_2)<|.yw (.load Z Fx.agg82 aW Z)<|.mv Z<|.mv Z<|.mv Z<|.yw (.quo Z Z (by omega) (c:=((k / (aR p).length:Nat):Int)) (XD hdv))<|.yw (.indexSl Fx.sl52 Z Z (i:=k / (aR p).length) Z hdv (q:=k / (aR p).length) (by omega))<|.yw (.loadM Z Fx.agg9 m5 (k:=k / (aR p).length) (by omega) (oB hdv))<|.mv Z<|.mv Z<|.mv Z<|.yw (.rem Z Z (by omega) (c:=((k % (aR p).length:Nat):Int)) (tm2 _ _))<|.yw (.indexSl Fx.sl52 Z Z (i:=k % (aR p).length) Z hmd (q:=k % (aR p).length) (by omega))<|.yw (.loadM Z Fx.agg9 m5 (k:=k % (aR p).length) (by omega) (oB hmd))<|.yw (.fieldAddr Z Fx.field43_1)<|.yw (.load Z Fx.agg40 gN Z)<|.mv Z<|.yw (.indexSl Fx.sl40 Z Z (i:=k) Z (by omega) (q:=oE+k * 1) Z)<|.yw (.loadM Z Fx.agg5 mE (k:=0) Z Z)<|.yw (.rem Z Z (by decide) (c:=((p.links[k].toNat % 4:Nat):Int)) (by rw [Int.tmod_eq_emod_of_nonneg (by omega)];omega))<|.yw (.conv Z Fx.int5 Fx.int3 (c:=((p.links[k].toNat % 4:Nat):Int)) (w6 (by omega)))<|.yw (.build Z (Fx.bld142_0_1_2 _ _ _))<|.bl Z (Fx.bsl82_1 _ _ _) Z fun b105=>.fn (tl:=[_,_,_]) Z<|.ap (news:=[aB (iY (k / (aR p).length)),aB (iY (k % (aR p).length)),.int .i64 (p.links[k].toNat % 4:Nat)]) Fx.row82 Z (fun _=>bQ) Z (.box (.head _) z0) Z (by simp [Value.oneCell',aB,iY]) (by simp [maxLen];omega) (by omega) Z fun r106 _=>.ra aW fun p106 c106 e106=>.yw (.fieldAddr Z Fx.field85_2)<|.st cJ Z Z Fx.size82 (by rw [e106];rfl) (nb Z) Z<|.nl<|.bN<|.tN<|.rg<|.mv Z<|.yw (.add Z Z (w6 (by omega)))<|.a Z Z<|.nt<|.ag (x:=(k,m,r,xs)) (k+1,m+1,r106,xs++[aB (iY (k / (aR p).length)),aB (iY (k % (aR p).length)),.int .i64 (p.links[k].toNat % 4:Nat)]) ⟨rfl,trivial⟩ ⟨rfl,rfl,rfl,rfl,rfl,rfl,trivial⟩ (fun _ s=>(s.pick [1,2,4,3] _ Z Z)) (by have hL:=NI (n:=(aR p).length) hkl hq;exact ⟨by dsimp only;omega,by dsimp only;omega,by dsimp only;rw [kR,hL];simp [hm],by dsimp only;rw [kR,hL,List.map_append];exact hz.snoc (NJ _ _ (by omega)) Z⟩) (by dsimp only;omega)
  try simp only [df] at h82
  have hq:¬ 0<p.links[k].toNat % 4:=by omega
  exact .sk<|.bN<|.tN<|.rg<|.mv Z<|.yw (.add Z Z (w6 (by omega)))<|.a Z Z<|.nt<|.ag (x:=(k,m,r,xs)) (k+1,m,r,xs) ⟨rfl,trivial⟩ ⟨rfl,rfl,rfl,rfl,rfl,rfl,trivial⟩ (fun _ s=>(s.pick [0,1,3,2] _ Z Z)) (by have hL:=RD (n:=(aR p).length) hkl hq;exact ⟨by dsimp only;omega,by dsimp only;omega,by dsimp only;rw [kR,hL,List.append_nil];exact hm,by dsimp only;rw [kR,hL,List.append_nil];exact hz⟩) (by dsimp only;omega)
 have q73:¬ (k<p.links.length∧k<NN):=by rw [h73] at e73;exact of_decide_eq_false e73.symm
 have hkm:k=min p.links.length ((aR p).length * (aR p).length):=by rw [← hNN];omega
 subst hkm;subst hm;refine Sx.freezeSeq (ds:=(mK (aR p).length p.links (min p.links.length ((aR p).length * (aR p).length))).map dLk) (by simp) hz fun H6 p6 c6 u6 e6 hlk=>?_;subst e6;have hfl6:=hfl.up (u5.trans u6).up;have hps6:=hps.up (u39.trans (u4.trans (u5.trans u6))).up;have m56:=m5.up u6.up;refine .ex<|.tE<|.tE<|.bE<|.tN<|.sr<|.a Z Z<|?_
 refine Sx.row0 129 1 ?_;refine .nt<|.sq<|.sr<|.mv Z<|.yw (.lenSl Fx.sl41 Z)<|.mv Z<|.nt<|.bk<|.lp (X:=Nat × Hp × Value × List Value) [(2,_),(4,_),(5,_),(8,_),(108,_),(109,_)] ⟨rfl,rfl,rfl,rfl,rfl,rfl,trivial⟩ [_,_,_] (fun z=>[(10,z.2.2.1),(110,.int .i64 (z.1:Nat))]) (fun z=>z.2.1) (fun z=>[.row 129 1 z.2.2.1 z.1 z.2.2.2]) (fun z=>z.1≤(aR p).length∧HUp w H6 z.2.1∧aL z.2.1 1 ((((aR p).take z.1).map arP).map dAr) z.2.2.2) (fun z=>(aR p).length - z.1) (0,H6,.slice none 0 0,[]) (fun _ s=>s) ⟨rfl,rfl,trivial⟩ ⟨by simp,.refl,aL.nil⟩ fun z hC=>?_
 obtain ⟨k,H2,r,xs⟩:=z;dsimp only at hC ⊢;obtain ⟨hk0,u2,hz⟩:=hC;refine .sr<|.yw (.lss Z Z)<|.nt<|.sq<|.cd Z (fun h111=>?_) (fun h111=>?_)
 ·try simp only [dt] at h111
  have hk:k<(aR p).length:=by omega
  obtain ⟨bE,oE,cE,hpE,rE,lE,mE⟩:=(hps6.up u2.up).elem (bB (f:=tF) hk);cases hpE;refine .sk<|.tN<|.sq<|.bk<|.sr<|.yw (.indexSl Fx.sl41 Z Z Z (by omega) (q:=oE+k * 4) Z)<|.yw (.loadMW Z Fx.agg167 mE lE)<|.al Fx.zero167 Z fun b12=>.sV .head Z Z Fx.size167 lE rE.one Z<|.nt<|.rg<|.mv Z<|.yw (.loadW Z Fx.agg167 (.head _) lE)<|.ct (X:=Value) Fx.call66 Z (fun W s=>KV H2 _ cE W rE s.agr) Z fun v116 H116 hn116 u116=>?_
  obtain ⟨pn116,cn116,e116,_⟩:=hn116.sl;simp only [List.cons.injEq,and_true,List.length_map] at e116;subst e116;exact .bl Z (Fx.bsl169_1 _ _ _) Z fun b117=>.ap (news:=[.slice pn116 (arP (aR p)[k]).length cn116]) Fx.row169 Z (fun _=>cJ) Z (.box (.head _) z0) Z (by simp [Value.oneCell']) (by simp [maxLen];omega) (by omega) Z fun r118 _=>.a Z Z<|.nl<|.bN<|.tN<|.rg<|.yw (.add Z Z (w6 (by omega)))<|.mv Z<|.nt<|.ag (x:=(k,H2,r,xs)) (k+1,H116,r118,xs++[.slice pn116 (arP (aR p)[k]).length cn116]) ⟨rfl,rfl,trivial⟩ ⟨rfl,rfl,rfl,rfl,rfl,rfl,trivial⟩ (fun _ s=>(s.pick [2,3,4,5] _ Z Z)) ⟨by dsimp only;omega,u2.trans u116,by dsimp only;rw [bK hk,List.map_append,List.map_append];exact (hz.up u116.up).snoc hn116 Z⟩ (by dsimp only;omega)
 try simp only [df] at h111
 obtain rfl:k=(aR p).length:=by omega
 rw [List.take_length] at hz;refine Sx.freezeSeq (ds:=((aR p).map arP).map dAr) (by simp) hz fun H7 p7 c7 u7 e7 har=>?_;subst e7;have u67:=u2.trans u7;have hfl7:=hfl6.up u67.up;have hlk7:=hlk.up u67.up;have hps7:=hps6.up u67.up;have m57:=m56.up u67.up;refine .ex<|.tE<|.tE<|.bE<|.tN<|.sq<|.sr<|.mv Z<|.yw (.lenSl Fx.sl41 Z)<|.mv Z<|?_
 refine Sx.row0 146 3 ?_;refine .nt<|.bk<|.lp (X:=Nat × Hp × Value × List Value) [(2,_),(5,_),(8,_),(10,_),(120,_),(121,_)] ⟨rfl,rfl,rfl,rfl,rfl,rfl,trivial⟩ [_,_] (fun z=>[(122,.int .i64 (z.1:Nat))]) (fun z=>z.2.1) (fun z=>[.row 146 3 z.2.2.1 z.1 z.2.2.2,.box b5 [aB mY,.slice p4 (p.flags.toNat % 3) c4,.slice p6 (mK (aR p).length p.links (min p.links.length ((aR p).length * (aR p).length))).length c6,z.2.2.1] 85]) (fun z=>z.1≤(aR p).length∧HUp w H7 z.2.1∧aL z.2.1 3 ((pY (fN p) (p.flags.toNat % 3) ((aR p).take z.1)).map (dCp .i64)) z.2.2.2) (fun z=>(aR p).length - z.1) (0,H7,.slice none 0 0,[]) (fun _ s=>s) ⟨rfl,trivial⟩ ⟨by simp,.refl,aL.nil⟩ fun z hC=>?_
 obtain ⟨k,H2,rc,xs⟩:=z;dsimp only at hC ⊢;obtain ⟨hk0,u2,hz⟩:=hC;refine .sr<|.yw (.lss Z Z)<|.nt<|.sq<|.cd Z (fun h123=>?_) (fun h123=>?_)
 ·try simp only [dt] at h123
  have hk:k<(aR p).length:=by omega
  obtain ⟨bE,oE,cE,hpE,rE,lE,mE⟩:=(hps7.up u2.up).elem (bB (f:=tF) hk);cases hpE;have hpa:(fN p).getD k []=arP (aR p)[k]:=by unfold fN;simp [hk]
  generalize hx:(aR p)[k]=x at rE hpa;obtain ⟨q1,d1,q2,d2,rfl,g1,g2⟩:=BX rE;have hcap1:=g1.cap;have hcap2:=g2.cap;have hints:0<fU x∧fU x≤3:=by unfold fU;omega
  have htabs:iS x≤1:=by unfold iS;omega
  have m52:=m57.up u2.up;have k3:k<3:=by omega
  refine .sk<|.tN<|.sq<|.bk<|.sr<|.mv Z<|.yw (.indexSl Fx.sl41 Z Z Z (by omega) (q:=oE+k * 4) Z)<|.yw (.loadMW Z Fx.agg167 mE Z)<|.al Fx.zero167 Z fun b14=>.a Z Z<|.sW .head Z Z Fx.size167 (by simp [Value.oneCell',aB]) Z<|.ns<|.mv Z<|.mv Z<|.yw (.indexSl Fx.sl52 Z Z (i:=k) Z k3 (q:=k) (by omega))<|.yw (.loadM Z Fx.agg9 m52 (k:=k) (by omega) (oB k3))<|.yw (.build Z (Fx.bld146_0 _))<|.al Fx.zero146 Z fun b15=>.sW .head Z Z Fx.size146 (by simp [Value.oneCell',aB]) Z<|.nt<|.sq<|.sr<|.yw (.fieldAddr Z Fx.field167_0)<|.yw (.load Z Fx.agg5 aW Z)<|.yw (.rem Z Z (by decide) (c:=((x.ints.toNat % 3:Nat):Int)) (by rw [Int.tmod_eq_emod_of_nonneg (by omega)];omega))<|.yw (.conv Z Fx.int5 Fx.int3 (c:=((x.ints.toNat % 3:Nat):Int)) (w6 (by omega)))<|.yw (.add Z Z (c:=((fU x:Nat):Int)) ((w6 (by omega)).trans (by unfold fU;omega)))<|.ct (X:=Value) Fx.call65 Z (fun W s=>fF H2 120 (fU x) (by omega) W s.agr) Z fun v137 H137 hn137 u137=>?_
  obtain ⟨pn137,cn137,e137,_⟩:=hn137.sl;simp only [List.cons.injEq,and_true,List.length_map,dN] at e137;subst e137;refine .yw (.lenSl Fx.sl52 Z)<|.mv Z<|?_
  refine Sx.row0 148 3 ?_;refine .nt<|.bk<|.lp (X:=Nat × Value × List Value) [(2,_),(5,_),(8,_),(10,_),(13,_),(14,_),(15,_),(120,_),(121,_),(122,_),(137,_),(138,_)] ⟨rfl,rfl,rfl,rfl,rfl,rfl,rfl,rfl,rfl,rfl,rfl,rfl,trivial⟩ [_,_,_,_,_] (fun z=>[(139,.int .i64 (z.1:Nat))]) (fun z=>H137) (fun z=>[.row 148 3 z.2.1 z.1 z.2.2,.box b15 [aB (iY k),z.2.1,.slice none 0 0] 146]) (fun z=>z.1≤fU x∧aL H137 3 ((yV z.1).map (dVr .i64)) z.2.2) (fun z=>fU x - z.1) (0,.slice none 0 0,[]) (fun _ s=>s) ⟨rfl,trivial⟩ ⟨by simp,aL.nil⟩ fun z hC=>?_
  obtain ⟨j,rv,ys⟩:=z;dsimp only at hC ⊢;obtain ⟨hj0,hzv⟩:=hC;refine .sr<|.yw (.lss Z Z)<|.nt<|.sq<|.cd Z (fun h140=>?_) (fun h140=>?_)
  ·try simp only [dt] at h140
   have hj:j<fU x:=by omega
   obtain ⟨bN,oN,hpN,mN⟩:=jC hn137 (k:=j) hj;subst hpN;exact .sk<|.tN<|.sq<|.bk<|.sr<|.mv Z<|.yw (.indexSl Fx.sl52 Z Z (i:=j) Z (by omega) (q:=oN+j * 1) Z)<|.yw (.loadM Z Fx.agg9 mN (k:=0) Z Z)<|.a Z Z<|.a Z Z<|.nt<|.rg<|.yw (.fieldAddr Z Fx.field146_1)<|.yw (.load Z Fx.agg143 aW Z)<|.mv Z<|.mv Z<|.yw (.build Z (Fx.bld148_0_1_2 _ _ _))<|.bl Z (Fx.bsl143_1 _ _ _) Z fun b149=>.ap (news:=[aB (nmB 120 j),.int .i64 1,.int .i64 (j:Nat)]) Fx.row143 Z (fun _=>bQ) Z (.box (.head _) z0) Z (by simp [Value.oneCell',aB,iY]) (by simp [maxLen];omega) (by omega) Z fun r150 _=>.ra aW fun p150 c150 e150=>.yw (.fieldAddr Z Fx.field146_1)<|.st cJ Z Z Fx.size143 (by rw [e150];rfl) (nb Z) Z<|.nl<|.bN<|.tN<|.rg<|.yw (.add Z Z (w6 (by omega)))<|.mv Z<|.nt<|.ag (x:=(j,rv,ys)) (j+1,r150,ys++[aB (nmB 120 j),.int .i64 1,.int .i64 (j:Nat)]) ⟨rfl,trivial⟩ ⟨rfl,rfl,rfl,rfl,rfl,rfl,rfl,rfl,rfl,rfl,rfl,rfl,trivial⟩ (fun _ s=>(s.pick [1,2,3,4,5,6,7] _ Z Z)) ⟨by dsimp only;omega,by dsimp only;rw [IH,List.map_append];exact hzv.snoc (KZ (by omega)) Z⟩ (by dsimp only;omega)
  try simp only [df] at h140
  obtain rfl:j=fU x:=by omega
  refine .ex<|.tE<|.tE<|.bE<|.tN<|.sr<|.yw (.fieldAddr Z Fx.field146_1)<|.yw (.load Z Fx.agg143 aW Z)<|.yw (.build Z (Fx.bld148_0_1_2 _ _ _))<|.bl Z (Fx.bsl143_1 _ _ _) Z fun b156=>.ap (news:=[aB [98,48],.int .i64 2,.int .i64 0]) Fx.row143 Z (fun _=>bQ) Z (.box (.head _) z0) Z (by simp [Value.oneCell',aB,iY]) (by simp [maxLen];omega) (by omega) Z fun r157 _=>.ra aW fun p157 c157 e157=>.yw (.fieldAddr Z Fx.field146_1)<|.st cJ Z Z Fx.size143 (by rw [e157];rfl) (nb Z) Z<|.nt<|.sq<|.sr<|.yw (.fieldAddr Z Fx.field167_1)<|.yw (.load Z Fx.agg5 gN Z)<|.yw (.rem Z Z (by decide) (c:=((x.tables.toNat % 2:Nat):Int)) (by rw [Int.tmod_eq_emod_of_nonneg (by omega)];omega))<|.yw (.conv Z Fx.int5 Fx.int3 (c:=((iS x:Nat):Int)) ((w6 (by omega)).trans (by unfold iS;omega)))<|.ct (X:=Value) Fx.call65 Z (fun W s=>fF H137 116 (iS x) (by omega) W s.agr) Z fun v163 H163 hn163 u163=>?_
  obtain ⟨pn163,cn163,e163,_⟩:=hn163.sl;simp only [List.cons.injEq,and_true,List.length_map,dN] at e163;subst e163;refine .yw (.lenSl Fx.sl52 Z)<|.mv Z<|.nt<|.bk<|.pm [1,2,0,3,4,5,6,7] [_,_,_,_,_,_,_,_] Z Z<|.lp (X:=Nat × Value × List Value) [(2,_),(5,_),(8,_),(10,_),(13,_),(14,_),(15,_),(120,_),(121,_),(122,_),(163,_),(164,_)] ⟨rfl,rfl,rfl,rfl,rfl,rfl,rfl,rfl,rfl,rfl,rfl,rfl,trivial⟩ [_,_,_,_,_,_] (fun z=>[(165,.int .i64 (z.1:Nat))]) (fun z=>H163) (fun z=>[.row 148 3 z.2.1 (fU x+1+z.1) z.2.2,.box b15 [aB (iY k),z.2.1,.slice none 0 0] 146]) (fun z=>z.1≤iS x∧aL H163 3 ((yV (fU x)++[vrB]++yU z.1).map (dVr .i64)) z.2.2) (fun z=>iS x - z.1) (0,r157,ys++[aB [98,48],.int .i64 2,.int .i64 0]) (fun _ s=>s) ⟨rfl,trivial⟩ ⟨by simp,by dsimp only;rw [show yU 0=[] from Z,List.append_nil,List.map_append];exact (hzv.up u163.up).snoc (qI (x:=vrB) (by decide)) Z⟩ fun z hC=>?_
  obtain ⟨i,rv2,zs⟩:=z;dsimp only at hC ⊢;obtain ⟨hi0,hzt⟩:=hC;refine .sr<|.yw (.lss Z Z)<|.nt<|.sq<|.cd Z (fun h166=>?_) (fun h166=>?_)
  ·try simp only [dt] at h166
   have hi:i<iS x:=by omega
   obtain ⟨bN,oN,hpN,mN⟩:=jC hn163 (k:=i) hi;subst hpN;exact .sk<|.tN<|.sq<|.bk<|.sr<|.yw (.indexSl Fx.sl52 Z Z (i:=i) Z (by omega) (q:=oN+i * 1) Z)<|.yw (.loadM Z Fx.agg9 mN (k:=0) Z Z)<|.a Z Z<|.nt<|.rg<|.yw (.fieldAddr Z Fx.field146_1)<|.yw (.load Z Fx.agg143 aW Z)<|.mv Z<|.yw (.build Z (Fx.bld148_0_1_2 _ _ _))<|.bl Z (Fx.bsl143_1 _ _ _) Z fun b173=>.ap (news:=[aB (nmB 116 i),.int .i64 3,.int .i64 0]) Fx.row143 Z (fun _=>bQ) Z (.box (.head _) z0) Z (by simp [Value.oneCell',aB,iY]) (by simp [maxLen];omega) (by omega) Z fun r174 _=>.ra aW fun p174 c174 e174=>.yw (.fieldAddr Z Fx.field146_1)<|.st cJ Z Z Fx.size143 (by rw [e174];rfl) (nb Z) Z<|.nl<|.bN<|.tN<|.rg<|.yw (.add Z Z (w6 (by omega)))<|.mv Z<|.nt<|.ag (x:=(i,rv2,zs)) (i+1,r174,zs++[aB (nmB 116 i),.int .i64 3,.int .i64 0]) ⟨rfl,trivial⟩ ⟨rfl,rfl,rfl,rfl,rfl,rfl,rfl,rfl,rfl,rfl,rfl,rfl,trivial⟩ (fun _ s=>(s.pick [1,2,3,4,5,6,7,8] _ Z Z)) ⟨by dsimp only;omega,by dsimp only;rw [IG,← List.append_assoc,List.map_append];exact hzt.snoc (qI (x:=PU i) (by simp [PU,nmB])) Z⟩ (by dsimp only;omega)
  try simp only [df] at h166
  obtain rfl:i=iS x:=by omega
  refine Sx.freezeSeq (ds:=(sK x).map (dVr .i64)) (by simp [sK,uM,uL];omega) hzt fun H8 pV cV u8 e8 hV=>?_;subst e8;have uB:=u137.trans (u163.trans u8);have g1b:=g1.up uB.up;have g2b:=g2.up uB.up;have harb:=har.up (u2.trans uB).up;refine .ex<|.tE<|.tE<|.bE<|.tN<|.sr<|.yw (.fieldAddr Z Fx.field167_0)<|.yw (.load Z Fx.agg5 cC Z)<|.yw (.rem Z Z (by decide) (c:=((x.ints.toNat % 3:Nat):Int)) (by rw [Int.tmod_eq_emod_of_nonneg (by omega)];omega))<|.yw (.conv Z Fx.int5 Fx.int3 (c:=((x.ints.toNat % 3:Nat):Int)) (w6 (by omega)))<|.yw (.add Z Z (c:=((fU x:Nat):Int)) ((w6 (by omega)).trans (by unfold fU;omega)))<|.yw (.fieldAddr Z Fx.field167_1)<|.yw (.load Z Fx.agg5 cC Z)<|.yw (.rem Z Z (by decide) (c:=((x.tables.toNat % 2:Nat):Int)) (by rw [Int.tmod_eq_emod_of_nonneg (by omega)];omega))<|.yw (.conv Z Fx.int5 Fx.int3 (c:=((iS x:Nat):Int)) ((w6 (by omega)).trans (by unfold iS;omega)))<|.yw (.fieldAddr Z Fx.field85_1)<|.yw (.load Z Fx.agg81 tC Z)<|.yw (.lenSl Fx.sl81 Z)<|.mv Z<|.mv Z<|.yw (.build Z (Fx.bld172_0_1_2_3_4 _ _ _ _ _ _ _))<|.al Fx.zero172 Z fun b20=>.sW .head Z Z Fx.size172 (by simp [Value.oneCell',aB]) Z<|.nt<|.sq<|.fL 7 [(0,0),(1,0),(2,0),(3,0),(4,0),(5,0),(6,0)]<|.yw (.fieldAddr Z Fx.field167_2)<|.yw (.load Z Fx.agg165 gN Z)<|.yw (.fieldAddr Z Fx.field167_2)<|.yw (.load Z Fx.agg165 gN Z)<|.yw (.lenSl Fx.sl165 Z)<|.yw (.call Fx.call64 Z (fun W s=>oV H8 x.hs.length 3 W s.agr))<|.yw (.cutHi2 Fx.sl165 Z Z (h:=min x.hs.length 3) Z (by have:=g1b.len.2.1;omega))<|.fn (tl:=[_]) Z<|.a Z Z<|.nt<|.cu (X:=Hp × Value) [(2,_),(5,_),(8,_),(10,_),(14,_),(15,_),(20,_),(120,_),(121,_),(122,_)] ⟨rfl,rfl,rfl,rfl,rfl,rfl,rfl,rfl,rfl,rfl,trivial⟩ (fun z=>[(21,z.2)]) (fun z=>z.1) (fun z=>[.box b20 (mkC (mkP (fN p) (p.flags.toNat % 3) k x) (.slice p7 (aR p).length c7) (.slice none 0 0) 0) 172,.box b15 [aB (iY k),.slice pV (fU x+1+iS x) cV,.slice none 0 0] 146,.box b14 [.int .u8 x.ints.toNat,.int .u8 x.tables.toNat,.slice q1 x.hs.length d1,.slice q2 x.sec.length d2] 167,.row 146 3 rc k xs,.box b5 [aB mY,.slice p4 (p.flags.toNat % 3) c4,.slice p6 (mK (aR p).length p.links (min p.links.length ((aR p).length * (aR p).length))).length c6,rc] 85,.box b2 [.string ⟨#[]⟩,.slice none 0 0,.slice none 0 0,.slice none 0 0] 85,.box b1 [.int .u8 p.flags.toNat,.slice p1 p.links.length c1,.slice p2 p.comps.length c2] 43]) (fun z=>HUp w H8 z.1∧Rep z.1 (.seq 2 ((wX x).map dCd)) [z.2]) ?_ fun z hC=>?_
  ·
   refine .sr<|.mv Z<|.yw (.lenSl Fx.sl165 Z)<|.yw (.eql Z Z)<|.nt<|.cd Z (fun h201=>?_) (fun h201=>?_)
   ·try simp only [dt] at h201
    have h0:x.hs.length=0:=by omega
    refine .rg<|.yw (.build Z (Fx.bld174_0 _))<|.bl Z (Fx.bsl165_1 _ _) Z fun b203=>?_
    refine Sx.freezeBox fun H9 u9 m9=>?_;exact .a Z Z<|.nt<|.me (H9,_) ⟨rfl,trivial⟩ ⟨rfl,rfl,rfl,rfl,rfl,rfl,rfl,rfl,rfl,rfl,trivial⟩ (fun _ s=>s.pick [0,1,3,4,5,6,7] [_,_,_,_,_,_,_] Z Z) ⟨u9,by rw [wX,if_pos h0];exact Rep.mk (n:=1) (c:=1) m9 (.single (SF (x:=⟨1,[]⟩) (Rep.empty (by decide))) Z) Z (Nat.le_refl _) (by decide)⟩
   try simp only [df] at h201
   have h0:¬ x.hs.length=0:=by omega
   exact .sk<|.tN<|.me (H8,_) ⟨rfl,trivial⟩ ⟨rfl,rfl,rfl,rfl,rfl,rfl,rfl,rfl,rfl,rfl,trivial⟩ (fun _ s=>s.pick [0,1,3,4,5,6,7] [_,_,_,_,_,_,_] Z Z) ⟨.refl,by rw [wX,if_neg h0,List.map_take];have:=mB g1b (hi:=min x.hs.length 3) (by omega);rwa [rO] at this⟩
  obtain ⟨H9,fv⟩:=z;dsimp only at hC ⊢;obtain ⟨u9,hfs⟩:=hC;have hoB:okB (mkP (fN p) (p.flags.toNat % 3) k x):=UJ hk hf3 hpos hints;have hfl3:=RO (nf:=p.flags.toNat % 3) hk hpa;have hsl3:=QK (nf:=p.flags.toNat % 3) hk hpa;have g2c:=g2b.up u9.up;refine Sx.row0 152 1 ?_;refine .sq<|.fL 5 [(0,0),(1,0),(2,0),(3,3),(4,1)]<|.yw (.fieldAddr Z Fx.field146_2)<|.yw (.load Z Fx.agg144 cC Z)<|.mv Z<|.c3 (X:=Value × Nat × Hp × Value × Int) Fx.call67 Z (fun W s=>sS (mkP (fN p) (p.flags.toNat % 3) k x) hoB (wX x) hfl3 H9 w W _ b20 _ _ _ _  hfs (by simpa [mkP,fN] using harb.up u9.up) (s.pick [1,0,2,3,4,5,6,7] [_,_,_,_,_,_,_,_] Z Z)) Z (fun z207 hz207=>(.dn<|.yv (.load Z Fx.agg144 cC Z)<|.yv (.fieldAddr Z Fx.field146_2)<|.nl)) fun z207 hz207=>?_
  obtain ⟨v207,pv207,H207,bv207,lf207⟩:=z207;obtain ⟨u207,rr207⟩:=hz207;dsimp only at u207 rr207 ⊢;obtain ⟨pn207,cn207,e207,_⟩:=rr207.sl;simp only [List.cons.injEq,and_true,List.length_map,jQ] at e207;subst e207;refine .bl Z (Fx.bsl144_1 _ _ _) Z fun b208=>.fn (tl:=[_,_,_]) Z<|.ap (news:=[.slice pn207 (wX x).length cn207]) Fx.row144 Z (fun _=>cJ) Z (.box (.head _) z0) Z (by simp [Value.oneCell']) (by simp [maxLen]) (by omega) Z fun r209 _=>.ra cC fun p209 c209 e209=>.yw (.fieldAddr Z Fx.field146_2)<|.st fQ Z Z Fx.size144 (by rw [e209];rfl) (nb Z) Z<|.nt<|.cu (X:=Hp × Value × List Value) [(2,_),(5,_),(8,_),(10,_),(15,_),(120,_),(121,_),(122,_)] ⟨rfl,rfl,rfl,rfl,rfl,rfl,rfl,rfl,trivial⟩ (fun z=>[]) (fun z=>z.1) (fun z=>[.row 152 1 z.2.1 (lT (mkP (fN p) (p.flags.toNat % 3) k x) x).length z.2.2,.box b15 [aB (iY k),.slice pV (fU x+1+iS x) cV,z.2.1] 146,.row 146 3 rc k xs,.box b5 [aB mY,.slice p4 (p.flags.toNat % 3) c4,.slice p6 (mK (aR p).length p.links (min p.links.length ((aR p).length * (aR p).length))).length c6,rc] 85,.box b2 [.string ⟨#[]⟩,.slice none 0 0,.slice none 0 0,.slice none 0 0] 85,.box b1 [.int .u8 p.flags.toNat,.slice p1 p.links.length c1,.slice p2 p.comps.length c2] 43]) (fun z=>HUp w H9 z.1∧aL z.1 1 ((lT (mkP (fN p) (p.flags.toNat % 3) k x) x).map (dVs .i64)) z.2.2) ?_ fun z hC=>?_
  ·
   refine .sr<|.yw (.fieldAddr Z Fx.field167_3)<|.yw (.load Z Fx.agg165 tC Z)<|.yw (.lenSl Fx.sl165 Z)<|.yw (.gtr Z Z)<|.nt<|.cd Z (fun h214=>?_) (fun h214=>?_)
   ·try simp only [dt] at h214
    have hsc:0<x.sec.length:=by omega
    refine .fL 11 [(0,0),(1,0),(2,0),(3,0),(4,0),(5,0),(6,0),(7,0),(8,0),(9,3),(10,1)]<|.yw (.fieldAddr Z Fx.field146_2)<|.yw (.load Z Fx.agg144 gN Z)<|.yw (.fieldAddr Z Fx.field167_3)<|.yw (.load Z Fx.agg165 tC Z)<|.yw (.fieldAddr Z Fx.field167_3)<|.yw (.load Z Fx.agg165 tC Z)<|.yw (.lenSl Fx.sl165 Z)<|.yw (.call Fx.call64 Z (fun W s=>oV H207 x.sec.length 3 W s.agr))<|.yw (.cutHi2 Fx.sl165 Z Z (h:=min x.sec.length 3) Z (by have:=g2c.len.2.1;omega))<|.c3 (X:=Value × Nat × Hp × Value × Int) Fx.call67 Z (fun W s=>sS { (mkP (fN p) (p.flags.toNat % 3) k x) with params:=pv207 } hoB (x.sec.take 3) hsl3 H207 w W _ b20 _ _ _ _  (by have:=mB (g2c.up u207.up) (hi:=min x.sec.length 3) (by omega);rw [rO,← List.map_take] at this;exact this) (by simpa [mkP,fN] using harb.up (u9.trans u207).up) (s.pick [1,0,2,3,4,5,6,7,8] [_,_,_,_,_,_,_,_,_] Z Z)) Z (fun z224 hz224=>(.dn<|.dn<|.dn<|.dn<|.dn<|.dn<|.dn<|.yv (.load Z Fx.agg144 gN Z)<|.yv (.fieldAddr Z Fx.field146_2)<|.nl)) fun z224 hz224=>?_
    obtain ⟨v224,pv224,H224,bv224,lf224⟩:=z224;obtain ⟨u224,rr224⟩:=hz224;dsimp only at u224 rr224 ⊢;obtain ⟨pn224,cn224,e224,_⟩:=rr224.sl;simp only [List.cons.injEq,and_true,List.length_map,jQ] at e224;subst e224;exact .bl Z (Fx.bsl144_1 _ _ _) Z fun b225=>.fn (tl:=[_,_,_]) Z<|.ap (news:=[.slice pn224 (x.sec.take 3).length cn224]) Fx.row144 Z (fun _=>fQ) Z (.box (.head _) z0) Z (by simp [Value.oneCell']) (by simp [maxLen]) (by omega) Z fun r226 _=>.ra gN fun p226 c226 e226=>.yw (.fieldAddr Z Fx.field146_2)<|.st EB Z Z Fx.size144 (by rw [e226];rfl) (nb Z) Z<|.nt<|.me (H224,r226,_) trivial ⟨rfl,rfl,rfl,rfl,rfl,rfl,rfl,rfl,trivial⟩ (fun _ s=>by rw [show (lT (mkP (fN p) (p.flags.toNat % 3) k x) x).length=0+1+1 by rw [lT,if_pos hsc];rfl];exact (s.pick [3,4,6,7,8,9] _ Z Z)) ⟨u207.trans u224,by rw [lT,if_pos hsc];exact aL.app (.single (rr207.up u224.up) Z) (.single (NY rr224) Z)⟩
   try simp only [df] at h214
   have hsc:¬ 0<x.sec.length:=by omega
   exact .sk<|.tN<|.me (H207,r209,_) trivial ⟨rfl,rfl,rfl,rfl,rfl,rfl,rfl,rfl,trivial⟩ (fun _ s=>by rw [show (lT (mkP (fN p) (p.flags.toNat % 3) k x) x).length=0+1 by rw [lT,if_neg hsc];rfl];exact (s.pick [2,3,5,6,7,8] _ Z Z)) ⟨u207,by rw [lT,if_neg hsc];exact .single rr207 Z⟩
  obtain ⟨H10,rs,ws⟩:=z;dsimp only at hC ⊢;obtain ⟨u10,hzs⟩:=hC;refine Sx.freezeSeq (ds:=(lT (mkP (fN p) (p.flags.toNat % 3) k x) x).map (dVs .i64)) (by simp) hzs fun HE pS cS u11 e11 hSE=>?_;subst e11;have uE:=uB.trans (u9.trans (u10.trans u11));have hVE:=hV.up (u9.trans (u10.trans u11)).up;exact .rg<|.yw (.fieldAddr Z Fx.field85_3)<|.yw (.load Z Fx.agg83 cC Z)<|.yw (.loadW Z Fx.agg146 (.head _) Z)<|.bl Z (Fx.bsl83_1 _ _ _) Z fun b231=>.ap (news:=[aB (iY k),.slice pV (fU x+1+iS x) cV,.slice pS (lT (mkP (fN p) (p.flags.toNat % 3) k x) x).length cS]) Fx.row83 Z (fun _=>cJ) Z (.box (.head _) z0) Z (by simp [Value.oneCell',aB,iY]) (by simp [maxLen];omega) (by omega) Z fun r232 _=>.ra cC fun p232 c232 e232=>.yw (.fieldAddr Z Fx.field85_3)<|.st fQ Z Z Fx.size83 (by rw [e232];rfl) (nb Z) Z<|.nl<|.bN<|.tN<|.rg<|.yw (.add Z Z (w6 (by omega)))<|.mv Z<|.nt<|.ag (x:=(k,H2,rc,xs)) (k+1,HE,r232,xs++[aB (iY k),.slice pV (fU x+1+iS x) cV,.slice pS (lT (mkP (fN p) (p.flags.toNat % 3) k x) x).length cS]) ⟨rfl,trivial⟩ ⟨rfl,rfl,rfl,rfl,rfl,rfl,trivial⟩ (fun _ s=>(s.pick [2,3,4,5] _ Z Z)) ⟨by dsimp only;omega,u2.trans uE,by dsimp only;rw [FI hk,hx,List.map_append];exact (hz.up uE.up).snoc (uA (x:=AO (fN p) (p.flags.toNat % 3) k x) (by simp [AO,iY]) hVE hSE) Z⟩ (by dsimp only;omega)
 try simp only [df] at h123
 obtain rfl:k=(aR p).length:=by omega
 rw [List.take_length] at hz;refine Sx.freezeSeq (ds:=(pY (fN p) (p.flags.toNat % 3) (aR p)).map (dCp .i64)) (by simp [pD]) hz fun HF pc cc uF eF hcs=>?_;subst eF;have uZ:=u2.trans uF;refine .ex<|.tE<|.tE<|.bE<|.tN<|.sr<|.yw (.loadW Z Fx.agg85 (.head _) Z)<|.sW bQ Z Z Fx.size85 (by simp [Value.oneCell',aB]) Z<|.nt<|.rt<|?_
 exact Sx.ret1 (.inl rfl) rfl (.cell rfl Fx.agg85 aW rfl) fun W t=>⟨_,HF,tX (x:=bD p) (show mY.length≤1000000 by decide) (hfl7.up uZ.up) (hlk7.up uZ.up) hcs,rfl,((((u1.trans (u39.trans (u4.trans (u5.trans u6)))).trans u67).trans uZ).grow t)⟩
theorem Fx.agg43:dF Tryz.prog 43=some (some 3):=by kernel_rfl
theorem Fx.call21:aM Tryz.prog 21=Bool.true:=by kernel_rfl
theorem Fx.call36:aM Tryz.prog 36=Bool.true:=by kernel_rfl
theorem LL:(∀ a b:Str,(a++b).length=a.length+b.length)∧(∀ (x:UInt8) (l:Str),(x::l).length=l.length+1)∧([]:Str).length=0∧(∀ n p,(cY n p).length=2 * n+p.flatten.length+1)∧(∀ (x:Str) (l:List Str),(x::l).flatten=x++l.flatten)∧([]:List Str).flatten=[] :=
 ⟨fun _ _=>List.length_append,fun _ _=>rfl,rfl,dR,fun _ _=>rfl,rfl⟩
theorem yJ (q:Bool):(sZ q).length≤5:=by cases q <;> decide
theorem LJ (op:UInt8) (nm:Str) (n:Int64) (ls:List (Nat × Str)) (A:Nat) (hA:2≤A) (hn:nm.length≤12) (h:∀ x∈ls,x.2.length≤A):(txt op nm n ls).length≤2 * A+22:=by
 have hg:∀ i,(ls.getD i (0,[])).2.length≤A:=fun i=>by
  rw [List.getD_eq_getElem?_getD];cases e:ls[i]? with
  | none=>simp
  | some x=>simpa using h x (List.mem_of_getElem? e)
 have h0:=hg 0;have h1:=hg 1;have ht:=lW op;have hi:=qV n;have o1:=kG (aH op).lv (ls.getD 0 (0,[]));have o2:=kG (pK (aH op).lv) (ls.getD 0 (0,[]));have o3:=kG ((aH op).lv+1) (ls.getD 1 (0,[]));unfold txt
 split
 ·omega
 split
 ·simp only [List.length_append];omega
 split
 ·simp only [List.length_append,List.length_cons,List.length_nil];omega
 split
 ·simp only [List.length_append];omega
 split
 ·omega
 ·simp only [List.length_append];omega
theorem IS (e:Ex):∀ d,e.depth≤d→Ex.all iO e=true→Ex.all dO e=true→e.text.length+22≤46 * 2 ^ d:=by
 induction e using Ex.ind with | _ op nm n args ih
 intro d hd h1 h2;rw [fW] at hd;rw [eR,Bool.and_eq_true] at h1 h2;obtain ⟨d,rfl⟩:∃ k,d=k+1:=⟨d - 1,by omega⟩;have hp:0<2 ^ d:=Nat.pow_pos (by omega)
 have h:=LJ op nm n (args.map fun e=>((aH e.op).lv,Ex.text e)) (46 * 2 ^ d - 22) (by omega) (NC h1.1 h2.1) fun x hx=>by
  obtain ⟨a,ha,rfl⟩:=List.mem_map.1 hx;have:=sC ha;have:=ih a ha d (by omega) (bW ha h1.2) (bW ha h2.2);dsimp only;omega
 rw [bC,Nat.pow_succ];omega
theorem vY {M:Nat}:∀ (l:List Str),(∀ x∈l,x.length≤M)→(iK l).length≤(M+2) * l.length
 | [],_=>by simp [iK,Lib.join_nil]
 | a::r,h=>by
  unfold iK;rw [Lib.join_cons,List.length_append,Lib.joinTail_length];have h1:=h a (.head _)
  have h2:Lib.lens r≤M * r.length:=by
   have h3:∀ x∈r,x.length≤M:=fun x hx=>h x (.tail _ hx);clear h h1;induction r with
   | nil=>simp [Lib.lens]
   | cons b t ih =>
    have h4:=h3 b (.head _);have h5:=ih fun x hx=>h3 x (.tail _ hx);simp only [Lib.lens,List.map_cons,List.sum_cons,List.length_cons,Nat.mul_add] at h5 ⊢;omega
  simp only [List.length_cons,List.length_nil,Nat.mul_add,Nat.add_mul];omega
theorem DD {es:List Str} {A:Nat} (h:∀ x∈es,x.length≤A) (i:Nat):(es.getD i []).length≤A:=by
 rw [List.getD_eq_getElem?_getD];cases e:es[i]? with
 | none=>simp
 | some x=>simpa using h x (List.mem_of_getElem? e)
theorem QH (n:Nat) (kd:UInt8) (nm hd:Str) (es:List Str) (T:Str) (q:Bool) (E:Str) (A:Nat) (h1:nm.length≤12) (h2:hd.length≤12) (h3:es.length≤5) (h4:∀ x∈es,x.length≤A):(stT n kd nm hd es T q E).length≤T.length+E.length+6 * n+6 * A+200:=by
 have g0:=DD h4 0;have g1:=DD h4 1;have j1:=vY es h4;have j2:=vY (es.drop 1) (fun x hx=>h4 x (List.mem_of_mem_drop hx));rw [List.length_drop] at j2;have j3:(A+2) * es.length≤(A+2) * 5:=Nat.mul_le_mul_left _ h3;have j4:(A+2) * (es.length - 1)≤(A+2) * 5:=Nat.mul_le_mul_left _ (by omega);have j5:(A+2) * 5=5 * A+10:=by omega
 unfold stT
 repeat' split
 all_goals (try unfold jR)
 all_goals (try split)
 all_goals (simp only [LL];omega)
def gdq (s:Sm):Bool:=(nE s && iA s) && jY s
theorem KH {kd:UInt8} {nm hd:Str} {ex:List Ex} {th el:List Sm} (h1:iA (.mk kd nm hd ex th el)=true) (h2:jY (.mk kd nm hd ex th el)=true):nm.length≤12∧hd.length≤12:=by
 simp only [iA,Bool.and_eq_true,Bool.or_eq_true,Bool.not_eq_true'] at h1;simp only [jY,Bool.and_eq_true,Bool.or_eq_true,decide_eq_true_eq] at h2;obtain ⟨⟨⟨⟨_,k1⟩,k2⟩,_⟩,_⟩:=(⟨⟨⟨⟨h2.1.1.1.1.1.1,h2.1.1.1.1.2⟩,h2.1.1.1.2⟩,h2.1.1.2⟩,h2.2⟩:((((_∧_)∧_)∧_)∧_))
 constructor
 ·rcases h1.1.1 with h | h
  ·rcases k1 with k | k
   ·rw [h] at k;cases k
   ·simp [k]
  ·exact gM h
 ·rcases h1.1.2 with h | h
  ·rcases k2 with k | k
   ·rw [h] at k;cases k
   ·simp [k]
  ·exact gM h
theorem IQ:∀ (l:List Sm) (n:Nat),Sm.alls gdq l=true→n+Sm.deeps l≤100→(Sm.texts n l).length≤80000 * Sm.counts l:=by
 refine Sm.lists fun l ih=>?_;induction l with
 | nil=>intro n _ _;simp [Sm.texts]
 | cons s t iht =>
  intro n hl hn;obtain ⟨kd,nm,hd,ex,th,el⟩:=s;have h0:=ih _ (.head _);simp only [Sm.th,Sm.el] at h0;simp only [Sm.alls,eU,Bool.and_eq_true] at hl;obtain ⟨⟨⟨hg,h1⟩,h2⟩,h3⟩:=hl;simp only [gdq,Bool.and_eq_true] at hg;obtain ⟨⟨k1,k2⟩,k3⟩:=hg;have hnm:=KH k2 k3;obtain ⟨_,_,k4,k5⟩:=AH k3;have k6:=HR kd;simp only [Sm.deeps,iT] at hn;have q1:=h0.1 (n+1) h1 (by omega);have q2:=h0.2 (n+1) h2 (by omega);have q3:=iht (fun x hx=>ih x (.tail _ hx)) n h3 (by omega)
  have hE:∀ x∈ex.map Ex.text,x.length≤11754:=fun x hx=>by
   obtain ⟨a,ha,rfl⟩:=List.mem_map.1 hx;simp only [nE,List.all_eq_true,decide_eq_true_eq] at k1;simp only [iA,Bool.and_eq_true] at k2;have:=IS a 8 (k1 a ha) (bW ha k2.2) (bW ha k5);omega
  have q4:=QH n kd nm hd (ex.map Ex.text) (Sm.texts (n+1) th) (decide (el.length=0)) (Sm.texts (n+1) el) 11754 hnm.1 hnm.2 (by rw [List.length_map];omega) hE;simp only [Sm.texts,aD,List.length_append,Sm.counts,dP];omega
theorem mO {α:Type} {g:α→Str} {M:Nat}:∀ (l:List α),(∀ x∈l,(g x).length≤M)→((l.map g).flatten).length≤M * l.length
 | [],_=>by simp
 | a::r,h=>by
  have h1:=h a (.head _);have h2:=mO r fun x hx=>h x (.tail _ hx);simp only [List.map_cons,List.flatten_cons,List.length_append,List.length_cons,Nat.mul_add,Nat.mul_one];omega
theorem MF {h:Hd} (h1:kX h=true) (h2:kH h=true) (h3:kY h=true):Sm.alls gdq h.body=true:=by
 simp only [kX,Bool.and_eq_true] at h1;simp only [kH,Bool.and_eq_true] at h2;exact oO _ (oO _ h1.2 h2.2) h3
theorem RK {h:Hd} (n:Nat) (hn:n≤10) (h1:kX h=true) (h2:kH h=true) (h3:kY h=true):(hdT n h).length≤3300000:=by
 have hg:=MF h1 h2 h3;simp only [kX,Bool.and_eq_true,Bool.not_eq_true',Bool.or_eq_false_iff,decide_eq_false_iff_not] at h1;simp only [kH,Bool.and_eq_true,List.all_eq_true] at h2;have k1:=gM h2.1.1;have k2:=vY h.ps (fun x hx=>gM (h2.1.2 x hx));have k3:=IQ h.body (n+1) hg (by omega);have k4:80000 * Sm.counts h.body≤80000 * 40:=Nat.mul_le_mul_left _ (by omega);have k5:(12+2) * h.ps.length≤(12+2) * 4:=Nat.mul_le_mul_left _ (by omega);simp only [hdT,List.length_append,dR,List.flatten_cons,List.flatten_nil,List.length_nil,List.length_cons];omega
theorem DB {N:Nat} {v:List Hd} (n:Nat) (hn:n≤10) (hN:v.length≤N) (h1:v.all kX=true) (h2:v.all kH=true) (h3:v.all kY=true):(qE n v).length≤3300000 * N :=
 Nat.le_trans (mO v fun x hx=>RK n hn (List.all_eq_true.1 h1 x hx) (List.all_eq_true.1 h2 x hx) (List.all_eq_true.1 h3 x hx)) (Nat.mul_le_mul_left _ hN)
theorem BE {N:Nat}:∀ (l:List (List Hd)) (i:Nat),i+l.length≤1000→(∀ v∈l,v.length≤N∧v.all kX=true∧v.all kH=true∧v.all kY=true)→(kW 2 i l).length≤(3300000 * N+200) * l.length
 | [],_,_,_=>by simp [kW]
 | v::r,i,hi,h=>by
  obtain ⟨k0,k1,k2,k3⟩:=h v (.head _);simp only [List.length_cons] at hi;have h2:=BE r (i+1) (by omega) fun x hx=>h x (.tail _ hx)
  have h3:(vsT 2 i v).length≤3300000 * N+200:=by
   have a1:=DB (N:=N) 2 (by omega) k0 k1 k2 k3;have a2:=DB (N:=N) 3 (by omega) k0 k1 k2 k3;have a3:=Lib.itoa_length_le ((i+1:Nat):Int) (by omega) (by omega);unfold vsT
   split
   ·omega
   ·simp only [show (2:Nat)+1=3 from rfl,List.length_append,dR,List.flatten_cons,List.flatten_nil,List.length_nil,List.length_cons];omega
  simp only [kW,List.length_append,List.length_cons,Nat.mul_add,Nat.mul_one];omega
theorem PT {v:Vr} (h1:aS v.nm=true) (h2:gW v=true):(vrT 2 v).length≤100:=by
 have k1:=gM h1;have k2:=qV v.init;have k3:=yJ (decide (v.init.toInt=1));unfold vrT
 split
 ·simp only [LL];omega
 split
 ·simp only [LL];omega
 split
 ·simp only [LL];omega
 ·simp
theorem DR {f:Ft} (h:bU f=0):gY f=true∧tB f=true∧lQ f=true:=by
 unfold bU at h
 split at h
 ·cases h
 split at h
 ·cases h
 split at h
 ·cases h
 rename_i h1 h2 h3;exact ⟨by simpa using h1,by simpa using h2,by simpa using h3⟩
theorem RN {f:Ft} (hok:TR 100 f) (h:bU f=0):(ftT f).length≤100000000000:=by
 obtain ⟨h1,h2,h3⟩:=DR h;simp only [gY,gE,tB,lQ,Bool.and_eq_true,decide_eq_true_eq,List.all_eq_true] at h1 h2 h3;have k1:=h1.2.2;have k2:=h2.2;have k3:=h3.2;rw [nB] at k1 k2 k3;simp only [lM,List.all_eq_true] at k1 k2 k3;have n0:=gM h2.1.1.1.1
 have n1:=mO (g:=fgT) (M:=100) f.flags fun x hx=>by
  have:=gM (h2.1.1.1.2 x hx);have:=yJ x.init;simp only [fgT,dR,List.flatten_cons,List.flatten_nil,List.length_append,List.length_nil,List.length_cons];omega
 have n2:=mO (g:=lkT) (M:=200) f.links fun x hx=>by
  have a:=h2.1.1.2 x hx;have a1:=gM a.1;have a2:=gM a.2;have:=qV x.lat;simp only [lkT,dR,List.flatten_cons,List.flatten_nil,List.length_append,List.length_nil,List.length_cons];omega
 have n3:=mO (g:=cpT) (M:=2000000000) f.comps fun c hc=>by
  have a:=h2.1.2 c hc;have a1:=gM a.1;have b:=h1.2.1 c hc;simp only [jU,Bool.and_eq_true,decide_eq_true_eq] at b;have a2:=mO (g:=vrT 2) (M:=100) c.vars fun v hv=>PT (a.2 v hv) (h3.1.2 c hc v hv);have a3:=BE (N:=100) c.vers 0 (by omega) fun v hv=>⟨((hok.all c hc).all v hv).len,List.all_eq_true.2 (k1 c hc v hv),List.all_eq_true.2 (k2 c hc v hv),List.all_eq_true.2 (k3 c hc v hv)⟩;simp only [cpT,dR,List.flatten_cons,List.flatten_nil,List.length_append,List.length_nil,List.length_cons];omega
 simp only [ftT,dR,List.flatten_cons,List.flatten_nil,List.length_append,List.length_nil,List.length_cons];omega
theorem QQ {N:Nat}:∀ s,tA N s=true→vO s=true
 | .mk _ _ _ ex _ _,h=>by
  simp only [tA,Bool.and_eq_true,List.all_eq_true] at h;simp only [vO,List.all_eq_true,decide_eq_true_eq];intro e he;have:=h.2 e he;simp only [okE,Bool.and_eq_true,decide_eq_true_eq] at this;omega
theorem VK {N:Nat} (hN:N≤1000000) {f:Ft} (h:CL N f):evH okH f=true:=by
 simp only [evH,List.all_eq_true];intro c hc v hv x hx;have k:=((h.all c hc).all v hv).all x hx;have k1:=k.body.cnt;have k2:=k.body.dep;simp only [okH,Bool.and_eq_true,decide_eq_true_eq];exact ⟨⟨by omega,by omega⟩,gQ QQ _ k.body.all⟩
theorem wO (p:Pln):(ftT (bD p)).length≤100000000000:=RN (sD p).sy (fI p)
theorem EH (H:Hp) (G:Gl H) (g:Gt H) (p:Pln) (cs:List Value) (h:Rep H (FH p) cs) (w:World) (hA:Agr H w) :
 Calls Tryz.prog 17 #[.agg cs.toArray] w fun r w'=>∃ (y:List Value) (H':Hp),Rep H' (dFt .u8 (bD p)) y∧r=.returned (.tuple #[aB (ftT (bD p)),.agg y.toArray])∧mS H w H' w':=by
 obtain ⟨p1,c1,p2,c2,rfl,_,_⟩:=vI h;refine Sx.enter (H:=H) Tryz.func17 rfl Tryz.ntmps17 rfl hA ?_;refine .sr<|.bx Z Z Z fun b1=>.a Z Z<|.al Fx.zero49 Z fun b3=>.ns<|.yw (.loadW Z Fx.agg43 aW Z)<|.ct (X:=List Value) Fx.call36 Z (fun W t=>FK H p _ W h t.agr) Z fun x1 H1 hx1 u1=>.ct (X:=List Value) Fx.call34 Z (fun W t=>EE 100 (by decide) H1 (bD p) (sD p) x1 W hx1 t.agr) Z fun x2 H2 hx2 u2=>?_
 obtain ⟨z2,z3,z4,rfl⟩:=rA hx2;refine .al Fx.zero49 Z fun b4=>.sW .head Z Z Fx.size49 (Rep.one hx2) Z<|.nt<|.sq<|.fL 4 [(0,0),(1,0),(2,0),(3,0)]<|.yw (.loadW Z Fx.agg49 (.head _) Z)<|.yw (.cast (v':=aB (ftT (bD p))) (.call Fx.call21 Z (fun W t=>JK H2 ((G.up u1.up).up u2.up) ((g.up u1.up).up u2.up) (bD p) _ hx2 (VK (N:=100) (by decide) (sD p)) (fun _=>Nat.le_trans (wO p) (by decide)) W t.agr)) (by rw [if_pos (fI p)]))<|.yw (.loadW Z Fx.agg49 (.head _) Z)<|.a Z Z<|.fn (tl:=[_]) Z<|.sW bQ Z Z Fx.size49 (Rep.one hx2) Z<|.nt<|.rt<|?_
 exact Sx.retN (.inl rfl) rfl (.cons (.tmp rfl) (.cons (.cell rfl Fx.agg49 aW rfl) .nil)) rfl fun W s=>⟨_,H2,hx2,rfl,(u1.trans u2).grow s⟩
theorem Fx.call17:aM Tryz.prog 17=Bool.true:=by kernel_rfl
theorem Fx.call18:aM Tryz.prog 18=Bool.true:=by kernel_rfl
theorem Fx.int44:vZ Tryz.prog 44=some Go.IntKind.u16:=by kernel_rfl
set_option maxHeartbeats 2000000 in
theorem vJ (H:Hp) (G:Gl H) (g:Gt H) (p:Pln) (cu:Nat) (hcu:cu<65536) (mo:Str) (cs:List Value) (h:Rep H (FH p) cs) (w:World) (hA:Agr H w) :
 Calls Tryz.prog 5 #[.agg cs.toArray,.int .u16 (cu:Nat),aB mo] w fun r w'=>r=.returned (.bool true)∧Ext w w':=by
 have hbl:=wO p;obtain ⟨p1,c1,p2,c2,rfl,_,_⟩:=vI h;refine Sx.enter (H:=H) Tryz.func5 rfl Tryz.ntmps5 rfl hA ?_;refine .sr<|.bx Z Z Z fun b3=>.a Z Z<|.nt<|.sq<|.sr<|.yw (.call Fx.call9 Z (fun W s=>KS H G W s.agr))<|.yw (.not Z)<|.nt<|.cF Z<|.sk<|.tN<|.sr<|.yw (.loadW Z Fx.agg43 (.head _) Z)<|.ct (X:=List Value) Fx.call17 Z (fun W t=>EH H G g p _ h W t.agr) Z fun x1 H1 hx1 u1=>?_
 obtain ⟨z2,z3,z4,rfl⟩:=rA hx1;refine .mv Z<|.yw (.extract Z Z)<|.yw (.extract Z Z)<|.al Fx.zero49 Z fun b8=>.a Z Z<|.sW .head Z Z Fx.size49 (Rep.one hx1) Z<|.ns<|.mv Z<|.ct (X:=Value) Fx.call18 Z (fun W t=>EC H1 (G.up u1.up) (ftT (bD p)) (by omega) (sJ (fI p)) W t.agr) Z fun v2 H2 hv2 u2=>?_
 obtain ⟨pv,cv,e2,_⟩:=hv2.sl;simp only [List.cons.injEq,and_true,List.length_map] at e2;subst e2;have hw2:Rep H2 (.seq 1 ((gR (bD p)).map iM)) [.slice pv (gR (bD p)).length cv]:=by unfold gR;rw [List.length_map];exact hv2
 have hwl:=DX (bD p);have hwp:=DW (fI p);rw [show (fH (ftT (bD p))).length=(gR (bD p)).length by unfold gR;rw [List.length_map]];refine .a Z Z<|.nt<|.sq<|.sr<|.mv Z<|.yw (.lenSl Fx.sl52 Z)<|.yw (.cast (.eql Z Z) (congrArg Value.bool (decide_eq_false (by omega))))<|.mv Z<|.gd Z Z<|.yw (.move Z)<|.gd Z Z<|.yw (.lenS Fx.str9 Z)<|.gd Z Z<|.yw (.gtr Z Z)<|.yw (.pickF Z Z)<|.nt<|.cd Z (fun h38=>?_) (fun h38=>?_)
 ·skip
  refine .sr<|.mv Z<|.yw (.lenSl Fx.sl52 Z)<|.yw (.cast (.gtr Z Z) (congrArg Value.bool (decide_eq_true (by omega))))<|.a Z Z<|.nt<|.rt<|.tR<|?_
  exact Sx.ret1 (.inl rfl) rfl (.tmp rfl) fun W s=>⟨rfl,s.ext⟩
 try simp only [df] at h38
 have hl:(ftT (bD p)).length≤10000:=by omega
 refine .sk<|.tN<|.sr<|.a Z Z<|.nt<|.sq<|.sr<|.mv Z<|.mv Z<|.yw (.conv Z Fx.int44 Fx.int3 (c:=((cu:Nat):Int)) (w6 (by omega)))<|.mv Z<|.yw (.lenSl Fx.sl52 Z)<|.yw (.rem Z Z (by omega) (c:=((cu % (gR (bD p)).length:Nat):Int)) (by rw [Int.tmod_eq_emod_of_nonneg (by omega)];omega))<|.yw (.cutHi2 Fx.sl52 Z Z (h:=cu % (gR (bD p)).length) Z (by have:=Nat.mod_lt cu hwp;have:=hw2.len.2.1;omega))<|?_
 have hmw:=Nat.mod_lt cu hwp;obtain ⟨VS,hVS⟩:∃ VS,VS=(gR (bD p)).take (cu % (gR (bD p)).length):=⟨_,rfl⟩;have hw3:=mB hw2 (Nat.le_of_lt hmw);rw [← List.map_take,← hVS] at hw3;have hvl:VS.length=cu % (gR (bD p)).length:=by rw [hVS,List.length_take];omega
 rw [← hvl] at hw3 ⊢;have hQ4:=VL (fI p) (m:=cu % (gR (bD p)).length) (by rw [← uJ (fI p)];exact hmw) hl;have hVS2:((fH (ftT (bD p))).map (·.t)).take (cu % (gR (bD p)).length)=VS:=hVS.symm;rw [hVS2] at hQ4;have hVsh:∀ x∈VS,x.length≤1000000:=fun x hx=>yT (fI p) x (List.mem_of_mem_take (by rw [hVS] at hx;exact hx));generalize (if cv=0 then pv else pv.map fun q=>q.add 0)=p3 at hw3 ⊢;refine .yw (.lenSl Fx.sl52 Z)<|.mv Z<|.nt<|.bk<|.lp (X:=Nat) [(2,_),(7,_),(48,_),(49,_)] ⟨rfl,rfl,rfl,rfl,trivial⟩ [_,_] (fun k=>[(50,.int .i64 (k:Nat)),(10,aB (iW (VS.take k)))]) (fun k=>H2) (fun k=>[]) (fun k=>k≤VS.length) (fun k=>VS.length - k) 0 (fun _ s=>s) ⟨rfl,rfl,trivial⟩ (Nat.zero_le _) fun k hC=>?_
 have htl:=IY (VS.take k) (fun x hx=>hVsh x (List.mem_of_mem_take hx));rw [List.length_take,Nat.min_eq_left hC] at htl;refine .sr<|.yw (.lss Z Z)<|.nt<|.sq<|.cd Z (fun h51=>?_) (fun h51=>?_)
 ·try simp only [dt] at h51
  have hk:k<VS.length:=by omega
  obtain ⟨bE,oE,cE,hpE,rE,lE,mE⟩:=hw3.elem (bB (f:=iM) hk);cases hpE;obtain ⟨rfl,hwk⟩:=nK rE;exact .sk<|.tN<|.sq<|.bk<|.sr<|.yw (.indexSl Fx.sl52 Z Z Z (by omega) (q:=oE+k * 1) Z)<|.yw (.loadM Z Fx.agg9 mE (k:=0) Z Z)<|.a Z Z<|.nt<|.rg<|.mv Z<|.mv Z<|.yw (.cast (v':=aB (VS[k]++[32])) (.app Z Z (by simp only [List.length_cons,List.length_nil];omega)) Z)<|.yw (.cast (v':=aB (iW (VS.take k)++(VS[k]++[32]))) (.app Z Z (by simp only [List.length_append,List.length_cons,List.length_nil];omega)) Z)<|.a Z Z<|.nl<|.bN<|.tN<|.rg<|.yw (.add Z Z (w6 (by omega)))<|.mv Z<|.nt<|.ag (x:=k) (k+1) ⟨rfl,by rw [show iW (VS.take (k+1))=iW (VS.take k)++(VS[k]++[32]) by rw [bK hk,xJ]];rfl,trivial⟩ ⟨rfl,rfl,rfl,rfl,trivial⟩ (fun _ s=>s) (by show k+1≤_;omega) (by show VS.length - (k+1)<VS.length - k;omega)
 try simp only [df] at h51
 obtain rfl:k=VS.length:=by omega
 rw [List.take_length] at htl ⊢;refine .ex<|.tE<|.tE<|.bE<|.tN<|.sr<|.mv Z<|.cs (X:=Ft × List Value × Hp) Fx.call19 Z (fun W s=>rT ((G.up u1.up).up u2.up) (iW VS) (by omega) s) Z fun z4 hz4=>?_
 obtain ⟨a4,c4,H4⟩:=z4;obtain ⟨hv4,u4,r4⟩:=hz4;dsimp only at hv4 u4 r4 ⊢;have hZ4:(sgZ gFt (iW VS)).e=8:=by rw [hQ4]
 have hY4:(sgZ gFt (iW VS)).o=(iW VS).length:=by rw [hQ4]
 have hE4:pzE (iW VS) a4=8:=by unfold pzE;rw [if_neg (by rw [hZ4];decide),hZ4]
 have hO4:pzO (iW VS) a4=(iW VS).length:=by unfold pzO;rw [if_neg (fun h=>by have:=h.1;rw [hZ4] at this;exact absurd this (by decide))];exact hY4
 have r4:=zG (t:=(iW VS)) r4;obtain ⟨y2_4,y3_4,y4_4,ey4⟩:=rA r4;rw [ey4] at r4 ⊢;refine .mv Z<|.yw (.extract Z Z)<|.yw (.extract Z Z)<|.yw (.extract Z Z)<|.al Fx.zero49 Z fun b13=>.sW .head Z Z Fx.size49 (Rep.one r4) Z<|.a Z Z<|.a Z Z<|.ns<|.mv Z<|.yw (.cast (v':=aB ((ftT (bD p))++([]++125::[]))) (.app Z Z (by simp only [List.length_cons,List.length_nil];omega)) Z)<|.cs (X:=Ft × List Value × Hp) Fx.call19 Z (fun W s=>rT (((G.up u1.up).up u2.up).up u4.up) ((ftT (bD p))++([]++125::[])) (by simp only [List.length_append,List.length_cons,List.length_nil];omega) s) Z fun z5 hz5=>?_
 obtain ⟨a5,c5,H5⟩:=z5;obtain ⟨hv5,u5,r5⟩:=hz5;dsimp only at hv5 u5 r5 ⊢;obtain ⟨hZ5,hY5⟩:=GU (fI p) (g:=[]) (r:=[]) (c:=125) (.inl rfl) (by decide) (by decide) (by simp only [List.length_append,List.length_cons,List.length_nil];omega);have hE5:pzE ((ftT (bD p))++([]++125::[])) a5=8:=by unfold pzE;rw [if_neg (by rw [hZ5];decide),hZ5]
 have hO5:pzO ((ftT (bD p))++([]++125::[])) a5=(ftT (bD p)).length:=by unfold pzO;rw [if_neg (fun h=>by have:=h.1;rw [hZ5] at this;exact absurd this (by decide))];exact hY5
 have r5:=zG (t:=((ftT (bD p))++([]++125::[]))) r5;obtain ⟨y2_5,y3_5,y4_5,ey5⟩:=rA r5;rw [ey5] at r5 ⊢;refine .mv Z<|.yw (.extract Z Z)<|.yw (.extract Z Z)<|.yw (.extract Z Z)<|.al Fx.zero49 Z fun b16=>.sW .head Z Z Fx.size49 (Rep.one r5) Z<|.a Z Z<|.a Z Z<|.ns<|.mv Z<|.yw (.cast (v':=aB ((ftT (bD p))++[32,120])) (.app Z Z (by simp only [List.length_cons,List.length_nil];omega)) Z)<|.mv Z<|.yw (.call Fx.call10 Z (fun W s=>JG mo W))<|?_
 have hmo:(mo.take 5000).length≤5000:=by rw [List.length_take];omega
 generalize mo.take 5000=mo2 at hmo ⊢;refine .yw (.cast (v':=aB ((ftT (bD p))++([32]++120::mo2))) (.app Z Z (by simp only [List.length_append,List.length_cons,List.length_nil];omega)) (by rw [List.append_assoc];rfl))<|.cs (X:=Ft × List Value × Hp) Fx.call19 Z (fun W s=>rT ((((G.up u1.up).up u2.up).up u4.up).up u5.up) ((ftT (bD p))++([32]++120::mo2)) (by simp only [List.length_append,List.length_cons,List.length_nil];omega) s) Z fun z6 hz6=>?_
 obtain ⟨a6,c6,H6⟩:=z6;obtain ⟨hv6,u6,r6⟩:=hz6;dsimp only at hv6 u6 r6 ⊢;obtain ⟨hZ6,hY6⟩:=GU (fI p) (g:=[32]) (r:=mo2) (c:=120) (.inr rfl) (by decide) (by decide) (by simp only [List.length_append,List.length_cons,List.length_nil];omega);have hE6:pzE ((ftT (bD p))++([32]++120::mo2)) a6=8:=by unfold pzE;rw [if_neg (by rw [hZ6];decide),hZ6]
 have hO6:pzO ((ftT (bD p))++([32]++120::mo2)) a6=(ftT (bD p)).length+1:=by unfold pzO;rw [if_neg (fun h=>by have:=h.1;rw [hZ6] at this;exact absurd this (by decide))];exact hY6
 have r6:=zG (t:=((ftT (bD p))++([32]++120::mo2))) r6;obtain ⟨y2_6,y3_6,y4_6,ey6⟩:=rA r6;rw [ey6] at r6 ⊢;refine .mv Z<|.yw (.extract Z Z)<|.yw (.extract Z Z)<|.yw (.extract Z Z)<|.al Fx.zero49 Z fun b19=>.sW .head Z Z Fx.size49 (Rep.one r6) Z<|.a Z Z<|.a Z Z<|.ns<|.mv Z<|.mv Z<|.yw (.lenS Fx.str9 Z)<|.yw (.cast (.eql Z Z) (congrArg Value.bool (decide_eq_true (by rw [hO4]))))<|.mv Z<|.gd Z Z<|.yw (.move Z)<|.gd Z Z<|.yw (.cast (.eql Z Z) (congrArg Value.bool (decide_eq_true (by rw [hE4];rfl))))<|.yw (.pickT Z Z)<|.mv Z<|.gd Z Z<|.yw (.move Z)<|.gd Z Z<|.yw (.move Z)<|.gd Z Z<|.yw (.lenS Fx.str9 Z)<|.gd Z Z<|.yw (.cast (.eql Z Z) (congrArg Value.bool (decide_eq_true (by rw [hO5]))))<|.yw (.pickT Z Z)<|.mv Z<|.gd Z Z<|.yw (.move Z)<|.gd Z Z<|.yw (.cast (.eql Z Z) (congrArg Value.bool (decide_eq_true (by rw [hE5];rfl))))<|.yw (.pickT Z Z)<|.mv Z<|.gd Z Z<|.yw (.move Z)<|.gd Z Z<|.yw (.move Z)<|.gd Z Z<|.yw (.lenS Fx.str9 Z)<|.gd Z Z<|.yw (.add Z Z (c:=(((ftT (bD p)).length+1:Nat):Int)) ((w6 (by omega)).trans (by omega)))<|.gd Z Z<|.yw (.cast (.eql Z Z) (congrArg Value.bool (decide_eq_true (by rw [hO6]))))<|.yw (.pickT Z Z)<|.mv Z<|.gd Z Z<|.yw (.move Z)<|.gd Z Z<|.yw (.cast (.eql Z Z) (congrArg Value.bool (decide_eq_true (by rw [hE6];rfl))))<|.yw (.pickT Z Z)<|.a Z Z<|.nt<|.rt<|?_
 exact Sx.ret1 (.inl rfl) rfl (.tmp rfl) fun W s=>⟨rfl,s.ext⟩
variable {H:Type} {enc:TypeId × Value→H}
theorem wrap {a:Assume} {C:Checked} {os:Os} {f:FuncId} {fn:Func} {s:ChangeSpec} {conds:List PathCond} {apart fresh handsOn PJ:Bool} {X:World→Array Value→Prop}
 (hX:∀ (w w':World) (args:Array Value),w.heap=w'.heap→X w args→X w' args)
 (own:ownKnob C.prog.godebug=none) (started:os.Started) (noInit:C.prog.inits.idxOf? f=none) (hfn:C.prog.funcs[f]? = some fn)
 (witness:∃ (w:World) (tape:Tape) (i:Input),w.os=os∧(w.forCall tape i).Shaped C.prog∧i.vars=[]∧Input.okWide C.prog (w.forCall tape i) .any w.heap.size f i ∧
  ((s.pre enc C.prog fn conds apart (w.forCall tape i).memory i.args∧X (w.forCall tape i).memory i.args)∧sizedMet enc C.prog fn (OpenSpec.ofChange s) apart (w.forCall tape i).memory i.args)∧a.holds C.prog (lone (Frame.enter C.prog f i.args .normal) [] (w.forCall tape i)))
 (contract:∀ (W:World) (base:Nat) (args:Array Value) (ds gs:List (DataW H)) (before:List MemPlace),
  (∀ (j:Nat) t v,fn.params[j]? = some t→args[j]? = some v→Value.okWide C.prog W .any base t v) →
  DataW.Whole enc C.prog fn.params.toList s.vars apart W args.toList ds gs before →
  X W args→W.ShapedOpen C.prog →
  Calls C.prog f args W fun e W'=>∃ v,e=.returned v∧s.post enc C.prog fn apart fresh handsOn PJ W args v W') :
 ReturnsInHanded a C os f .any (fun w args=>(s.pre enc C.prog fn conds apart w args∧X w args)∧sizedMet enc C.prog fn (OpenSpec.ofChange s) apart w args) (s.post enc C.prog fn apart fresh handsOn PJ):=by
 refine returnsInHanded_of_calls own started noInit witness ?_;intro w tape i _ hsh _ hok hpre _;obtain ⟨_,_,_,fn',hfn',_,_,_,_,hval⟩:=hok;have e:fn'=fn:=Option.some.inj (hfn'.symm.trans hfn);subst e;obtain ⟨⟨⟨ds,gs,before,hw,_⟩,hx⟩,_⟩:=hpre;have hw':=DataW.Whole.of_heap (w':=w.forCall tape i) (by rfl) hw;refine (contract (w.forCall tape i) w.heap.size i.args ds gs before hval hw' (hX _ _ _ (by rfl) hx) hsh).mono fun e W' ⟨v,he,hp⟩=>?_;subst he;exact ChangeSpec.post_blind hp

theorem own:ownKnob Tryz.prog.godebug=none:=by kernel_rfl
def qT:List (String × DataW Unit):=[("math/bits.deBruijn32tab",Rows.laid_math_bits_deBruijn32tab),("math/bits.deBruijn64tab",Rows.laid_math_bits_deBruijn64tab),("internal/strconv.uint64pow10",Rows.laid_internal_strconv_uint64pow10),("rootcause/lexer.words",Rows.laid_rootcause_lexer_words),("rootcause/lexer.symbols",Rows.laid_rootcause_lexer_symbols),("rootcause/syntax.shapes",Rows.laid_rootcause_syntax_shapes),("rootcause/syntax.forms",Rows.laid_rootcause_syntax_forms)]
theorem WS:Tryz.prog.globalNamed "internal/strconv.uint64pow10" = some 4:=by kernel_rfl
theorem WR:(Tryz.prog.globals[4]?).map (·.type)=some 261:=by kernel_rfl
theorem OV:Tryz.prog.cellsOf 261=20:=by kernel_rfl
theorem KQ:Tryz.prog.cellsOf 250=1:=by kernel_rfl
theorem VU:(Rows.laid_internal_strconv_uint64pow10:DataW Unit)=Lib.tabData .u64 Lib.pow10Tab:=by kernel_rfl
theorem WN {W:World} (h:laidMet Tryz.prog qT W):Gt (AW W):=by
 intro W' hA;have h1:Lib.TabIs Tryz.prog W "internal/strconv.uint64pow10" .u64 Lib.pow10Tab:=Lib.tabIs_of_head WS WR Tryz.underlying261 Tryz.underlying250 KQ OV (VU ▸ h.tail.tail);unfold Lib.TabIs World.var? at *;rw [WS] at *;simp only [Option.bind_some] at *
 split at h1
 ·rename_i cs T m hb;rw [hA 4 _ hb];exact h1
 ·cases h1
theorem WQ {W:World} (h:laidMet Tryz.prog qT W):Gl (AW W) :=
 ⟨qU (t:=201) (.arr 24 (.str [.int .i64,.bool,.int .i64,.strg])) _ (by kernel_rfl) (by kernel_rfl) (by kernel_rfl) (by kernel_rfl) (by kernel_rfl) h.tail.tail.tail.tail.tail,
  qU (t:=257) (.arr 11 (.str [.bool,.bool,.int .i64,.int .i64,.bool,.bool])) _ (by kernel_rfl) (by kernel_rfl) (by kernel_rfl) (by kernel_rfl) (by kernel_rfl) h.tail.tail.tail.tail.tail.tail,
  qU (t:=242) (.arr 39 .strg) _ (by kernel_rfl) (by kernel_rfl) (by kernel_rfl) (by kernel_rfl) (by kernel_rfl) h.tail.tail.tail,
  qU (t:=220) (.arr 25 .strg) _ (by kernel_rfl) (by kernel_rfl) (by kernel_rfl) (by kernel_rfl) (by kernel_rfl) h.tail.tail.tail.tail⟩
theorem NP (os:Os) (args:Array Value):laidMet Tryz.prog qT ((World.laidAll Tryz.prog os qT).forCall (fun _ _=>0) ⟨#[],args,[]⟩).memory :=
 laidMet_laidAll _ (by kernel_rfl) (by kernel_rfl)
theorem CU (os:Os) (args:Array Value):((World.laidAll Tryz.prog os qT).forCall (fun _ _=>0) ⟨#[],args,[]⟩).Shaped Tryz.prog :=
 World.shaped_of_ZipB (by kernel_rfl) (by kernel_rfl)
theorem OI {W W':World} (h:Ext W W'):∀ may,W.keptBut W' may:=fun may=>(Ext.below h).frame may
theorem zY:laidOutB Tryz.prog=true:=by kernel_rfl
end Go.Proofs.YthhoebdlfjffkaaGreatDoor
