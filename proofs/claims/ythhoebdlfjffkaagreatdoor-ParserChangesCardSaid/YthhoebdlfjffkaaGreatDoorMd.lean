/- Texts of the proof, one behind the other. -/
import Derived.Test.YthhoebdlfjffkaaGreatDoorMc
import Derived.ProofKit
import Derived.Lib.LaidTab
import Derived.Deep.Slices
import Derived.Deep.Fields
import Derived.OpenShut
import Derived.ChangeKeysEq
import Derived.RangeFuncNested
import Derived.RangeFuncLeaves
import Derived.RangeFuncCalls
import Derived.OwnWalkIn
import Derived.TacticsIn
set_option linter.all false
set_option maxRecDepth 100000
namespace Go.Proofs.YthhoebdlfjffkaaGreatDoor
open Go.RowKit Go.Par Go.Sx
def wfE (D:Nat) (e:Ex):Prop:=e.depth<=D/\Ex.all lP e=true/\Ex.all wS e=true
variable {D:Nat}
theorem wfE.mono {D':Nat} {e:Ex} (h:wfE D e) (k:D<=D'):wfE D' e:=⟨cN h.1 k,h.2⟩
theorem aT8 {op:UInt8} {nm:Str} {n:Int64} (h:lP (.mk op nm n [])=true) (h2:wS (.mk op nm n [])=true):wfE (D+1) (.mk op nm n []) :=
 ⟨by rw [sH];simp [Ex.deeps],by rw [nK,h];rfl,by rw [nK,h2];rfl⟩
theorem bH1 (op:UInt8) (nm:Str) (n:Int64) (l m:List Ex) (h:l.length=m.length):lP (.mk op nm n l)=lP (.mk op nm n m):=by simp only [lP,h]
def e0:Ex:=.mk 4 [] 0 []
variable {a:Ex}
theorem cJ4 {op:UInt8} {nm:Str} (h:lP (.mk op nm 0 [e0])=true) (h2:wS (.mk op nm 0 [])=true) (ha:wfE D a):wfE (D+1) (.mk op nm 0 [a]):=by
 refine ⟨?_,?_,?_⟩
 ·rw [sH];simp only [Ex.deeps];have:=ha.1;omega
 ·rw [nK,bH1 op nm 0 [a] [e0] rfl,h];simp [Ex.alls,ha.2.1]
 ·rw [nK,show wS (.mk op nm 0 [a])=wS (.mk op nm 0 []) from rfl,h2];simp [Ex.alls,ha.2.2]
theorem cJ3 {op:UInt8} {b:Ex} (h:lP (.mk op [] 0 [e0,e0])=true) (h2:wS (.mk op [] 0 [])=true) (ha:wfE D a) (hb:wfE D b):wfE (D+1) (.mk op [] 0 [a,b]):=by
 refine ⟨?_,?_,?_⟩
 ·rw [sH];simp only [Ex.deeps];have:=ha.1;have:=hb.1;omega
 ·rw [nK,bH1 op [] 0 [a,b] [e0,e0] rfl,h];simp [Ex.alls,ha.2.1,hb.2.1]
 ·rw [nK,show wS (.mk op [] 0 [a,b])=wS (.mk op [] 0 []) from rfl,h2];simp [Ex.alls,ha.2.2,hb.2.2]
theorem bF7:∀ c∈([120,112,102,104]:List UInt8),∀ k∈List.range 3,fK (nmB c k)=true:=by decide +kernel
variable {k:Nat}
theorem cM9 (h:k<3):fK (nmB 120 k)=true:=bF7 120 (by decide) k (bQ.2 h)
theorem dB9 (h:k<3):fK (nmB 112 k)=true:=bF7 112 (by decide) k (bQ.2 h)
theorem dC0 (h:k<3):fK (nmB 102 k)=true:=bF7 102 (by decide) k (bQ.2 h)
theorem cX1 (h:k<3):fK (nmB 104 k)=true:=bF7 104 (by decide) k (bQ.2 h)
theorem aC7 (h:k<3):fK [UInt8.ofNat (97+k)]=true:=by
 have:∀ k∈List.range 3,fK [UInt8.ofNat (97+k)]=true:=by decide +kernel
 exact this k (bQ.2 h)
theorem cB1:fK [116,48]=true:=by decide +kernel
theorem cB3:fK [98,48]=true:=by decide +kernel
structure JP (M:Mk):Prop where
 i0:0<M.ints
 i3:M.ints<=3
 p2:M.params<=2
 f2:M.flags<=2
 a3:M.ars.length<=3
 a0:0<M.ars.length
 ar2:∀ c h,arN M c h<=2
 al:∀ c,c<M.ars.length->0<arL M c/\arL M c<=3
 own:M.own<M.ars.length
theorem dF0 (nm:Str):lP (.mk 5 nm 0 [])=true:=by simp [lP,wJ,cW,shapes]
theorem dE6 {nm:Str} (h:fK nm=true):wS (.mk 5 nm 0 [])=true:=by simp [wS,h]
theorem wfV {nm:Str} (h:fK nm=true):wfE (D+1) (.mk 5 nm 0 []):=aT8 (dF0 nm) (dE6 h)
variable {M:Mk}
theorem bF4 (hM:JP M) {d:Nat} {rec:Bs->Ex × Bs} (h:∀ b,wfE D (rec b).1) (b:Bs):wfE (D+1) (EA M d rec k b).1:=by
 unfold EA
 split
 ·have h9:=jB b (n:=9) (by omega);refine aT8 ?_ rfl;simp only [lP,aF];refine ⟨by decide,?_⟩;simp only [aN];rw [aB,iX (by omega)];omega
 split
 ·exact wfV (cM9 (by have:=jB b hM.i0;have:=hM.i3;omega))
 split
 ·rename_i h1 h2;exact wfV (dB9 (by have:=jB b (n:=M.params) (by omega);have:=hM.p2;omega))
 split
 ·exact aT8 (by decide) (by decide)
 split
 ·exact cJ4 (by decide +kernel) (by decide +kernel) (h _)
 split
 ·exact aT8 (by decide +kernel) (by decide +kernel)
 split
 ·exact cJ4 (by decide +kernel) (by decide +kernel) (h _)
 ·have key:∀ i∈List.range 6,lP (.mk (([14,15,11,12,13,14]:List UInt8).getD i 14) [] 0 [e0,e0])=true/\wS (.mk (([14,15,11,12,13,14]:List UInt8).getD i 14) [] 0 [])=true:=by decide +kernel
  obtain ⟨k1,k2⟩:=key _ (bQ.2 (jB b (n:=6) (by omega)));exact cJ3 k1 k2 (h _) (h _)
theorem RL {M:Mk} (hM:JP M):∀ f b,wfE (f+2) (pM M f b).1
 | 0,b=>bF4 hM (λ_=>aT8 (by decide) (by decide)) _
 | f+1,b=>bF4 hM (RL hM f) _
theorem bF6 {M:Mk} (hM:JP M):∀ n b,∀ e∈(yJ M n b).1,wfE 4 e
 | 0,b,_,h=>by cases h
 | n+1,b,e,he=>by
  rcases bJ.1 he with rfl | he
  ·exact RL hM 2 b
  ·exact bF6 hM n _ e he
theorem bD6 (hM:JP M) {d:Nat} {rec:Bs->Ex × Bs} (hk:k<10) (hD:4<=D) (h:∀ b,wfE D (rec b).1) (b:Bs):wfE (D+1) (FP M d rec k b).1:=by
 have hn:∀ b,wfE D (pM M 2 b).1:=λb=>(RL hM 2 b).mono hD;unfold FP
 split
 ·have key:∀ i∈List.range 2,lP (.mk (2+UInt8.ofNat i) [] 0 [])=true/\wS (.mk (2+UInt8.ofNat i) [] 0 [])=true:=by decide +kernel
  obtain ⟨k1,k2⟩:=key _ (bQ.2 (jB b (n:=2) (by omega)));exact aT8 k1 k2
 split
 ·exact wfV cB3
 split
 ·rename_i h1;exact wfV (dC0 (by have:=jB b h1.2;have:=hM.f2;omega))
 split
 ·exact cJ4 (by decide +kernel) (by decide +kernel) (hn _)
 split
 ·exact cJ4 (by decide +kernel) (by decide +kernel) (h _)
 split
 ·rename_i h1;rcases h1 with rfl | rfl
  ·exact cJ3 (by decide +kernel) (by decide +kernel) (h _) (h _)
  ·exact cJ3 (by decide +kernel) (by decide +kernel) (h _) (h _)
 ·have key:∀ i∈List.range 6,lP (.mk (16+UInt8.ofNat i) [] 0 [e0,e0])=true/\wS (.mk (16+UInt8.ofNat i) [] 0 [])=true:=by decide +kernel
  obtain ⟨k1,k2⟩:=key _ (bQ.2 (jB b (n:=6) (by omega)));exact cJ3 k1 k2 (hn _) (hn _)
theorem bD8 {M:Mk} (hM:JP M):∀ f b,wfE (f+6) (BC M f b).1
 | 0,b=>bD6 hM (jB _ (by omega)) (by omega) (λ_=>(aT8 (D:=0) (by decide) (by decide)).mono (by omega)) _
 | f+1,b=>bD6 hM (jB _ (by omega)) (by omega) (bD8 hM f) _
structure Wf (D lf:Nat) (l:List Sm) (lf':Nat):Prop where
 cnt:Sm.counts l+lf'<=lf
 dep:Sm.deeps l<=D
 frm:Sm.alls BE l=true
 nam:Sm.alls vB l=true
 sma:Sm.alls GQ l=true
theorem cZ2 {l:List Ex} (h:∀ e∈l,wfE 8 e):Ex.alls lP l=true:=by
 induction l with
 | nil=>rfl
 | cons e r ih=>rw [Ex.alls,(h e (by simp)).2.1,ih λx hx=>h x (by simp [hx])];rfl
theorem cZ1 {l:List Ex} (h:∀ e∈l,wfE 8 e):Ex.alls wS l=true:=by
 induction l with
 | nil=>rfl
 | cons e r ih=>rw [Ex.alls,(h e (by simp)).2.2,ih λx hx=>h x (by simp [hx])];rfl
def kdB (kd:UInt8) (nm hd:Str) (n:Nat) (t e:Bool):Bool :=
 uI kd && decide ((fM kd).lo<=n) && decide (n<=(fM kd).hi) && ((fM kd).nm || decide (nm=[])) && ((fM kd).hd || decide (hd=[])) && ((fM kd).th || t) && ((fM kd).el || e)
def knB (kd:UInt8) (nm hd:Str):Bool:=(!(fM kd).nm || fK nm) && (!(fM kd).hd || fK hd)
theorem CI {lf lf':Nat} {kd:UInt8} {nm hd:Str} {ex:List Ex} {th el:List Sm} (h1:Sm.counts th+Sm.counts el+lf'<=lf) (h2:kdB kd nm hd ex.length (decide (th.length=0)) (decide (el.length=0))=true) (h3:knB kd nm hd=true) (h4:∀ e∈ex,wfE 8 e)
 (ht:Sm.deeps th<=D/\Sm.alls BE th=true/\Sm.alls vB th=true/\Sm.alls GQ th=true) (he:Sm.deeps el<=D/\Sm.alls BE el=true/\Sm.alls vB el=true/\Sm.alls GQ el=true) :
 Wf (D+1) (lf+1) [.mk kd nm hd ex th el] lf':=by
 refine ⟨?_,?_,?_,?_,?_⟩
 ·simp only [Sm.counts,iG];omega
 ·simp only [Sm.deeps,yF];have:=ht.1;have:=he.1;omega
 ·have hf:BE (.mk kd nm hd ex th el)=true:=by
   simp only [BE,cZ2 h4,lA];exact h2
  simp [Sm.alls,oM,hf,ht.2.1,he.2.1]
 ·have hf:vB (.mk kd nm hd ex th el)=true:=by
   simp only [vB,cZ1 h4,lA];exact h3
  simp [Sm.alls,oM,hf,ht.2.2.1,he.2.2.1]
 ·have hf:GQ (.mk kd nm hd ex th el)=true:=by
   simp only [GQ,aP,aB];exact λe m=>(h4 e m).1
  simp [Sm.alls,oM,hf,ht.2.2.2,he.2.2.2]
theorem uU:Sm.deeps []<=D/\Sm.alls BE []=true/\Sm.alls vB []=true/\Sm.alls GQ []=true:=⟨cM _,Z,Z,Z⟩
theorem Wf.all {lf lf':Nat} {l:List Sm} (h:Wf D lf l lf'):Sm.deeps l<=D/\Sm.alls BE l=true/\Sm.alls vB l=true/\Sm.alls GQ l=true:=⟨h.dep,h.frm,h.nam,h.sma⟩
theorem OD {e:Ex} (h:wfE 8 e):∀ x∈[e],wfE 8 x:=λx hx=>by rw [dQ.1 hx];exact h
theorem cU5 {e e2:Ex} (h:wfE 8 e) (k:wfE 8 e2):∀ x∈[e,e2],wfE 8 x:=λx hx=>by
 rcases bJ.1 hx with rfl | hx
 ·exact h
 ·rw [dQ.1 hx];exact k
variable {n:Nat}
theorem aW0 (hM:JP M) {b:Bs} :∀ x∈(yJ M n b).1,wfE 8 x:=λx hx=>(bF6 hM n b x hx).mono (by omega)
theorem cN1 {e:Ex} (h:wfE 8 e) (hM:JP M) {b:Bs} :∀ x∈e::(yJ M n b).1,wfE 8 x:=λx hx=>by
 rcases bJ.1 hx with rfl | hx
 ·exact h
 ·exact aW0 hM x hx
theorem kd1 (nm:Str):kdB 1 nm [] 1 true true=true:=by simp [kdB,uI,fM,forms]
theorem kn1 {nm:Str} (h:fK nm=true):knB 1 nm []=true:=by simp [knB,uI,fM,forms,h]
theorem kd6 (nm hd:Str) (h:n<=4):kdB 6 nm hd n true true=true:=by simp [kdB,uI,fM,forms,h]
theorem kn6 {nm hd:Str} (h:fK nm=true) (k:fK hd=true):knB 6 nm hd=true:=by simp [knB,uI,fM,forms,h,k]
theorem kd7 (hd:Str) (h0:1<=n) (h:n<=5):kdB 7 [] hd n true true=true:=by simp [kdB,uI,fM,forms,h0,h]
theorem kn7 {hd:Str} (k:fK hd=true):knB 7 [] hd=true:=by simp [knB,uI,fM,forms,k]
theorem kd9 (nm:Str) (b:Bool):kdB 9 nm [] 1 true b=true:=by simp [kdB,uI,fM,forms]
theorem kn9 {nm:Str} (h:fK nm=true):knB 9 nm []=true:=by simp [knB,uI,fM,forms,h]
theorem kd4 (a b:Bool):kdB 4 [] [] 1 a b=true:=by revert a b;decide
theorem kd5 (a:Bool):kdB 5 [] [] 1 a true=true:=by revert a;decide
theorem kd8 (a:Bool):kdB 8 [] [] 2 true a=true:=by revert a;decide
theorem bE8 (hM:JP M) (k d:Nat) {bd:Bs × Nat->List Sm × (Bs × Nat)} (hb:∀ x,Wf D x.2 (bd x).1 (bd x).2.2) (b:Bs) (lf:Nat):Wf (D+1) (lf+1) [(jI M k d bd b lf).1] (jI M k d bd b lf).2.2:=by
 have hn:∀ f b,f<=6->wfE 8 (pM M f b).1:=λf b hf=>(RL hM f b).mono (by omega);have ht:∀ b,wfE 8 (BC M 2 b).1:=λb=>bD8 hM 2 b;have z:Sm.counts []=0:=rfl;unfold jI
 split
 ·exact CI (lf':=lf) (by simp only [z];omega) (kd1 _) (kn1 cB3) (OD (ht _)) uU uU
 split
 ·exact CI (lf':=lf) (by simp only [z];omega) (by simp [kdB,uI,fM,forms]) (by simp [knB,uI,fM,forms,cB1]) (cU5 (hn _ _ (by omega)) (hn _ _ (by omega))) uU uU
 split
 ·exact CI (lf':=lf) (by simp only [z];omega) (by simp [kdB,uI,fM,forms]) (by simp [knB,uI,fM,forms,cB1]) (OD (hn _ _ (by omega))) uU uU
 split
 ·have h1:=hb ((BC M 2 b).2,lf);have h2:=hb (bd ((BC M 2 b).2,lf)).2;exact CI (by have:=h1.cnt;have:=h2.cnt;simp only at *;omega) (kd4 _ _) (by decide) (OD (ht _)) h1.all h2.all
 split
 ·have h1:=hb ((BC M 2 b).2,lf);exact CI (by have:=h1.cnt;simp only at *;omega) (kd5 _) (by decide) (OD (ht _)) h1.all uU
 split
 ·have hc:=jB b hM.a0;have ha:=hM.al _ hc;have hh:=jB (bY b M.ars.length).2 ha.1;have h3:=hM.a3;exact CI (lf':=lf) (by simp only [z];omega) (by rw [(DM _ _ _).1];exact kd6 _ _ (cN (hM.ar2 _ _) (by omega))) (kn6 (aC7 (by omega)) (cX1 (by omega))) (aW0 hM) uU uU
 split
 ·have ha:=hM.al _ hM.own;have hh:=jB b ha.1;exact CI (lf':=lf) (by simp only [z];omega) (by rw [aH,(DM _ _ _).1];exact kd7 _ (by omega) (Nat.succ_le_succ (cN (hM.ar2 _ _) (by omega)))) (kn7 (cX1 (by omega))) (cN1 (hn _ _ (by omega)) hM) uU uU
 split
 ·split
  ·have h1:=hb ((yJ M 2 (bY b 2).2).2,lf);exact CI (by have:=h1.cnt;simp only at *;omega) (by rw [(DM _ _ _).1];exact kd8 _) (by decide) (aW0 hM) uU h1.all
  ·have h1:=hb ((pM M 3 (bY (bY b 2).2 M.ints).2).2,lf);have hx:=jB (bY b 2).2 hM.i0;have h3:=hM.i3;exact CI (lf':=(bd ((pM M 3 (bY (bY b 2).2 M.ints).2).2,lf)).2.2) (by have:=h1.cnt;simp only at *;omega) (kd9 _ _) (kn9 (cM9 (by omega))) (OD (hn _ _ (by omega))) uU h1.all
 split
 ·exact CI (lf':=lf) (by simp only [z];omega) (by decide) (by decide) (λ_ h=>by cases h) uU uU
 ·have h3:=hM.i3;exact CI (lf':=lf) (by simp only [z];omega) (kd1 _) (kn1 (cM9 (by have:=jB (if k=12 then (bY b 3).2 else b) hM.i0;omega))) (OD (hn _ _ (by omega))) uU uU
theorem aF1 {st:Nat->Bs->Nat->Sm × (Bs × Nat)} {D:Nat} (hs:∀ k b lf,Wf D (lf+1) [(st k b lf).1] (st k b lf).2.2):∀ f x,Wf D x.2 (BF st f x).1 (BF st f x).2.2
 | 0,x=>⟨by simp [BF,Sm.counts],cM _,Z,Z,Z⟩
 | f+1,(b,lf)=>by
  unfold BF
  split
  ·exact ⟨by simp [Sm.counts],cM _,Z,Z,Z⟩
  ·rename_i hne
   split
   ·exact ⟨by simp [Sm.counts],cM _,Z,Z,Z⟩
   ·have h1:=hs (bY b 14).1 (bY b 14).2 (lf - 1);have h2:=aF1 hs f (st (bY b 14).1 (bY b 14).2 (lf - 1)).2;have hl:lf≠0:=λe=>hne (.inr e)
    have al:∀ (q:Sm->Bool) (s:Sm) (l:List Sm),Sm.alls q [s]=true->Sm.alls q l=true->Sm.alls q (s::l)=true:=λq s l a b=>by
     simp only [Sm.alls,aF] at a|-;exact ⟨a.1,b⟩
    refine ⟨?_,?_,al _ _ _ h1.frm h2.frm,al _ _ _ h1.nam h2.nam,al _ _ _ h1.sma h2.sma⟩
    ·have a1:=h1.cnt;have a2:=h2.cnt;simp only [Sm.counts] at a1|-;omega
    ·have a1:=h1.dep;have a2:=h2.dep;simp only [Sm.deeps] at a1|-;omega
theorem bI1 {M:Mk} (hM:JP M):∀ f x,Wf (f+1) x.2 (OX M f x).1 (OX M f x).2.2
 | 0,x=>aF1 (λk b lf=>bE8 hM k 3 (D:=0) (λx=>⟨by simp [Sm.counts],cM _,Z,Z,Z⟩) b lf) 13 x
 | f+1,x=>aF1 (λk b lf=>bE8 hM k (2 - f) (bI1 hM f) b lf) 13 x
structure cH9 (h:Hd):Prop where
 nam:BU h=true
 frm:HG h=true
 sma:DH h=true
theorem JP.at (h:JP M) (k:Nat):JP (M.at k):=⟨h.i0,h.i3,h.ar2 _ _,h.f2,h.a3,h.a0,h.ar2,h.al,h.own⟩
theorem cY3 (hM:JP M) (hk:k<3) (c:Cd):cH9 (hdS M k c):=by
 have h:=bI1 (hM.at k) 3 (c.bytes.take 40,12);have hc:=h.cnt;have hd:=h.dep;simp only at hc;have h2:=hM.ar2 M.own k;refine ⟨?_,h.frm,?_⟩
 ·simp only [BU,hdS,aF];refine ⟨⟨cX1 hk,?_⟩,h.nam⟩;simp only [zH,aP,jC,bQ];rintro _ ⟨i,hi,rfl⟩;exact dB9 (by omega)
 ·simp only [DH,hdS,aF,h.sma,bV,lK];simp only [dY,mO,bM];refine ⟨⟨by omega,eJ (by omega)⟩,eJ (by omega)⟩
theorem aD7 {M:Mk} (hM:JP M):∀ (l:List Cd) (k:Nat),k+l.length<=3->∀ h∈BV M k l,cH9 h
 | [],k,_,h,hh=>by cases hh
 | c::r,k,hk,h,hh=>by
  simp only [aH] at hk;rcases bJ.1 hh with rfl | hh
  ·exact cY3 hM (by omega) c
  ·exact aD7 hM r (k+1) (by omega) h hh
theorem cH5 (ks:List Str) (s:Str):(WE ks s).length<=ks.length+1:=by
 unfold WE;split <;> simp
theorem ID:∀ (v:List Hd) (ks:List Str),(JR ks v).length<=ks.length+v.length
 | [],ks=>by simp [JR]
 | h::v,ks=>by
  have:=ID v (aI8 ks h);have h2:=cH5 ks h.nm;simp only [JR,nS,aH,aI8] at this|-;omega
theorem cR1 (x:Prt):0<(arP x).length/\(arP x).length<=3:=by
 have h:=RX x;have h2:=UA x 3;unfold arP at *;omega
variable {i:Nat}
theorem cB7 (p:Pln) (hi:i<(fJ p).length) (x:Prt):JP (mkP (rW p) (p.flags.toNat % 3) i x):=by
 have hp:=IJ p;have hl:(rW p).length=(fJ p).length:=by simp [rW]
 refine ⟨by simp only [mkP,sF];omega,by simp only [mkP,sF];omega,by simp [mkP],by simp only [mkP];omega,by simp only [mkP];omega,by simp only [mkP];omega,aY0,?_,by simp only [mkP];omega⟩;intro c hc;simp only [mkP] at hc;simp only [arL,mkP];rw [oO hc];have hm:=cD hc;generalize (rW p)[c]=l at hm;obtain ⟨y,_,rfl⟩:=jC.1 hm;exact cR1 y
theorem bD1 (hM:JP M) (x:Prt):1<=(EN M x).length/\(EN M x).length<=2/\∀ v∈EN M x,v.length<=3/\∀ h∈v,cH9 h:=by
 have hf:=aO1 x;refine ⟨by simp [EN],by unfold EN;split <;> simp,λv hv=>?_⟩;unfold EN at hv;rcases bJ.1 hv with rfl | hv
 ·exact ⟨by rw [AV];exact hf,aD7 hM _ 0 (by omega)⟩
 ·split at hv
  ·rw [dQ.1 hv];exact ⟨by rw [AV,dJ];omega,aD7 hM _ 0 (by rw [dJ];omega)⟩
  ·cases hv
theorem bM7 {c:Cp} (h:c.vers.length<=2) (hv:∀ v∈c.vers,v.length<=3):(RO c).length<=6:=by
 unfold RO
 match hc:c.vers,h with
 | [],_=>simp
 | [v],_ =>
  have:=ID v [];have:=hv v (by rw [hc];simp);simp only [nS,uR,aS] at *;omega
 | [v,w],_ =>
  have:=ID v [];have:=ID w (JR [] v);have:=hv v (by rw [hc];simp);have:=hv w (by rw [hc];simp);simp only [nS,uR,aS] at *;omega
theorem aA8 (x:Prt):(PU x).length<=8/\∀ v∈PU x,fK v.nm=true/\vS v=true:=by
 refine ⟨by simp only [PU,aD,SB,SA,gT,sF,yD];omega,λv hv=>?_⟩;simp only [PU,aA7,aA6,gJ,jC,bQ,dQ] at hv;rcases hv with (⟨i,hi,rfl⟩ | rfl) | ⟨i,hi,rfl⟩
 ·simp only [sF] at hi;refine ⟨cM9 (by omega),?_⟩;rw [show vS (vrI i)=decide ((Int64.ofNat i).toInt≠-9223372036854775808) from rfl,aB,iX (by omega)];omega
 ·exact ⟨cB3,by decide⟩
 ·simp only [yD] at hi;obtain rfl:i=0:=by omega
  exact ⟨cB1,by decide⟩
theorem HN (p:Pln):kA (mX p)=0:=by
 have hp:=IJ p
 have hcs:∀ c∈(mX p).comps,∃ i x,i<(fJ p).length/\c=aE7 (rW p) (p.flags.toNat % 3) i x:=by
  intro c hc;simp only [mX,JY] at hc;obtain ⟨i,hi,rfl⟩:=List.mem_mapIdx.1 hc;exact ⟨i,_,hi,Z⟩
 have hhd:∀ c∈(mX p).comps,∀ v∈c.vers,∀ h∈v,cH9 h:=by
  intro c hc v hv h hh;obtain ⟨i,x,hi,rfl⟩:=hcs c hc;exact ((bD1 (cB7 p hi x) x).2.2 v hv).2 h hh
 have ev:∀ q:Hd->Bool,(∀ h,cH9 h->q h=true)->evH q (mX p)=true:=by
  intro q hq;simp only [evH,aP];exact λc hc v hv h hh=>hq h (hhd c hc v hv h hh)
 have h9:(fJ p).length * (fJ p).length<=9:=yU hp.2 hp.2;have hmin:min p.links.length ((fJ p).length * (fJ p).length)<=(fJ p).length * (fJ p).length:=Nat.min_le_right _ _
 have h1:uW (mX p)=true:=by
  simp only [uW,aF,ev DH λh k=>k.sma,bV];refine ⟨?_,?_⟩
  ·simp only [tB,mX,IW,OM,aF,aB];have:=IP (fJ p).length p.links (min p.links.length ((fJ p).length * (fJ p).length));refine ⟨⟨⟨by omega,by omega⟩,by omega⟩,dU (by omega)⟩
  ·rw [aP];intro c hc;obtain ⟨i,x,hi,rfl⟩:=hcs c hc;obtain ⟨v1,v2,v3⟩:=bD1 (cB7 p hi x) x;have v4:=bM7 (c:=aE7 (rW p) (p.flags.toNat % 3) i x) v2 λv hv=>(v3 v hv).1;simp only [BP,aF,aB];exact ⟨⟨⟨(aA8 x).1,v1⟩,cN v2 (by omega)⟩,by omega⟩
 have hlk:∀ l∈(mX p).links,fK l.fr=true/\fK l.to=true/\lkB l=true:=by
  intro l hl;simp only [mX,EW,List.mem_flatMap,bQ] at hl;obtain ⟨k,hk,hl⟩:=hl;unfold aD3 at hl
  split at hl
  ·rename_i h0;rw [dQ.1 hl]
   have hd:k / (fJ p).length<(fJ p).length:=by
    rw [xI hp.1];omega
   have hm:=xH k hp.1;refine ⟨aC7 (by omega),aC7 (by omega),?_⟩;simp only [lkB,aF,aB];rw [iX (by omega)];omega
  ·cases hl
 have h2:QU (mX p)=true:=by
  simp only [QU,aF,ev BU λh k=>k.nam,bV];refine ⟨⟨⟨show fK FU=true by decide +kernel,?_⟩,?_⟩,?_⟩
  ·simp only [mX,MX,aP,jC,bQ];rintro _ ⟨k,hk,rfl⟩;exact dC0 (by omega)
  ·rw [aP];intro l hl;rw [(hlk l hl).1,(hlk l hl).2.1];rfl
  ·rw [aP];intro c hc;obtain ⟨i,x,hi,rfl⟩:=hcs c hc;rw [aF,aP];exact ⟨aC7 (by omega),λv hv=>((aA8 x).2 v hv).1⟩
 have h3:FA (mX p)=true:=by
  simp only [FA,aF,ev HG λh k=>k.frm,bV];refine ⟨?_,?_⟩
  ·rw [aP];exact λl hl=>(hlk l hl).2.2
  ·rw [aP];intro c hc;obtain ⟨i,x,hi,rfl⟩:=hcs c hc;rw [aP];exact λv hv=>((aA8 x).2 v hv).2
 simp [kA,h1,h2,h3]
structure Sg where
 r:List Tk
 e:Nat
 o:Nat
def cM6 (n:Nat):List Tk->Nat
 | []=>n
 | t::_=>t.o
def Sg.tl (s:Sg):Sg:=⟨s.r.tail,s.e,s.o⟩
def Sg.fail (n c:Nat) (s:Sg):Sg:=if s.e=0 then ⟨s.r,c,cM6 n s.r⟩ else s
section
variable {α β:Type}
def up (n:Nat) (g:Pz α) (s:Sg):Sg:=if s.e=0 then (match g s.r with | .ok _ r=>⟨r,s.e,s.o⟩ | .er r c=>⟨r,c,cM6 n r⟩) else s
def vl (g:Pz α) (s:Sg) (x:α):Prop:=s.e=0->∀ a r,g s.r=.ok a r->x=a
def Cz (g:Pz α):Prop:=∀ r r' c,g r=.er r' c->c≠0
theorem Rs.bind_er {x:Rs α} {f:α->List Tk->Rs β} {r:List Tk} {c:Nat} (h:x.bind f=.er r c):x=.er r c\/∃ a q,x=.ok a q/\f a q=.er r c:=by
 cases x with
 | ok a q=>exact .inr ⟨a,q,Z,h⟩
 | er q d=>left;injection h with h1 h2;subst h1;subst h2;rfl
theorem Cz.pure (a:α):Cz (eR a):=λr r' c e=>by cases e
theorem Cz.bind {g:Pz α} {f:α->Pz β} (h:Cz g) (k:∀ a,Cz (f a)):Cz (cK g f):=λr r' c e=>by
 rcases Rs.bind_er e with e | ⟨a,q,_,e⟩
 ·exact h _ _ _ e
 ·exact k _ _ _ _ e
theorem Cz.nd (w:Str):Cz (gNd w):=λr r' c e=>by
 unfold gNd at e
 split at e
 ·cases e
 ·injection e with _ e;omega
theorem Cz.nn (w:Str):Cz (gNn w):=λr r' c e=>by
 unfold gNn at e
 split at e
 ·cases e
 ·injection e with _ e;omega
theorem Cz.nm:Cz gNm:=λr r' c e=>by
 unfold gNm at e
 split at e
 ·injection e with _ e;omega
 ·split at e
  ·cases e
  ·injection e with _ e;omega
theorem Cz.nu:Cz gNu:=λr r' c e=>by
 unfold gNu at e
 split at e
 ·injection e with _ e;omega
 ·split at e
  ·split at e
   ·cases e
   ·injection e with _ e;omega
  ·injection e with _ e;omega
theorem Cz.alt {w:Str} {p q:Pz α} (h:Cz p) (k:Cz q):Cz (jH w p q):=λr r' c e=>by
 unfold jH at e
 split at e
 ·exact h _ _ _ e
 ·exact k _ _ _ e
theorem Cz.manyF {w:Str} {p:Pz α} (h:Cz p):∀ f,Cz (wK w p f)
 | 0=>λr r' c e=>by unfold wK at e;injection e with _ e;omega
 | f+1=>.alt (.bind h λ_=>.bind (Cz.manyF h f) λ_=>.pure _) (.pure _)
theorem Cz.many {w:Str} {p:Pz α} (h:Cz p):Cz (jV w p):=λr r' c e=>Cz.manyF h _ _ _ _ e
theorem yC {n:Nat} {g:Pz α} {s:Sg} (h:s.e≠0):up n g s=s:=by unfold up;rw [aA h]
theorem dE {n:Nat} {a:α} {s:Sg}:up n (eR a) s=s:=by
 unfold up eR
 split <;> rfl
theorem dB {a:α} {s:Sg}:vl (eR a) s a:=λ_ b r e=>by injection e
theorem aH4 {g:Pz α} {s:Sg} {x:α} (h:s.e≠0):vl g s x:=λk=>absurd k h
theorem aH8 {n:Nat} {g:Pz α} {s:Sg} {r:List Tk} {c:Nat} (hz:Cz g) (h:g s.r=.er r c) (h0:s.e=0):(up n g s).e≠0:=by
 unfold up;rw [aE h0,h];exact hz _ _ _ h
theorem aO {n:Nat} {g:Pz α} {f:α->Pz β} {s:Sg} {x:α} (hz:Cz g) (hx:vl g s x):up n (cK g f) s=up n (f x) (up n g s):=by
 by_cases h0:s.e=0
 ·cases hg:g s.r with
  | er r c =>
   rw [yC (aH8 hz hg h0)];unfold up cK;rw [aE h0,aE h0,hg]
   rfl
  | ok a r =>
   obtain rfl:=hx h0 a r hg;have e:up n g s=⟨r,s.e,s.o⟩:=by unfold up;rw [aE h0,hg]
   rw [e];unfold up cK;rw [aE h0,aE h0,hg]
   rfl
 ·rw [yC h0,yC h0,yC h0]
theorem aM {n:Nat} {g:Pz α} {f:α->Pz β} {s:Sg} {x:α} {y:β} (hx:vl g s x) (hy:vl (f x) (up n g s) y):vl (cK g f) s y:=by
 intro h0 b r e;obtain ⟨a,q,h1,h2⟩:=Rs.bind_ok e;obtain rfl:=hx h0 a q h1;have e:up n g s=⟨q,s.e,s.o⟩:=by unfold up;rw [aE h0,h1]
 rw [e] at hy;exact hy h0 b r h2
def ac (w:Str) (s:Sg):Bool:=decide (s.e=0) && isT w s.r
theorem WF {w:Str} {s:Sg} (h:ac w s=true):s.e=0/\isT w s.r=true:=by
 unfold ac at h;rw [aF,aB] at h;exact h
theorem eU {n:Nat} {w:Str} {p q:Pz α} {s:Sg} (h:ac w s=true):up n (jH w p q) s=up n p s.tl:=by
 obtain ⟨h0,h1⟩:=WF h;unfold up jH Sg.tl;simp only [h0,h1,aN]
theorem eG {w:Str} {p q:Pz α} {s:Sg} {x:α} (h:ac w s=true) (hx:vl p s.tl x):vl (jH w p q) s x:=by
 obtain ⟨h0,h1⟩:=WF h;intro _ a r e;unfold jH at e;rw [aE h1] at e;exact hx h0 a r e
theorem aZ {n:Nat} {w:Str} {p q:Pz α} {s:Sg} (h:ac w s=false):up n (jH w p q) s=up n q s:=by
 by_cases h0:s.e=0
 ·have h1:isT w s.r=false:=by
   unfold ac at h;rw [dU h0,gM] at h;exact h
  unfold up jH;simp only [h0,h1,aN,aC,aL]
 ·rw [yC h0,yC h0]
theorem aY {w:Str} {p q:Pz α} {s:Sg} {x:α} (h:ac w s=false) (hx:vl q s x):vl (jH w p q) s x:=by
 intro h0 a r e
 have h1:isT w s.r=false:=by
  unfold ac at h;rw [dU h0,gM] at h;exact h
 unfold jH at e;rw [aA (by rw [h1];decide)] at e;exact hx h0 a r e
theorem FO {n:Nat} {w:Str} {s:Sg} (h:ac w s=true):up n (gNd w) s=s.tl:=by
 obtain ⟨h0,h1⟩:=WF h;unfold up gNd Sg.tl;simp only [h0,h1,aN]
theorem cU4 {n:Nat} {w:Str} {s:Sg} (h:ac w s=false):up n (gNd w) s=s.fail n 8:=by
 unfold Sg.fail
 by_cases h0:s.e=0
 ·have h1:isT w s.r=false:=by
   unfold ac at h;rw [dU h0,gM] at h;exact h
  unfold up gNd;simp only [h0,h1,aN,aC,aL]
 ·rw [yC h0,aA h0]
theorem aU {g:Pz Unit} {s:Sg}:vl g s ():=λ_ _ _ _=>rfl
end
theorem cS0:∀ w∈words,rV (w.headD 0)=true/\w.length<=12:=by decide +kernel
theorem dA4:∀ w∈symbols,rV (w.headD 0)=false/\kK (w.headD 0)=false:=by decide +kernel
variable {r w:Str}
theorem aK1 {c:UInt8} (e:(c::r).take (bK (c::r)).2=w):w.headD 0=c:=by
 have h:=(zE (l:=c::r) (by simp)).1;obtain ⟨k,hk⟩:∃ k,(bK (c::r)).2=k+1:=⟨(bK (c::r)).2 - 1,by omega⟩;rw [hk] at e;subst e
 rfl
theorem cP9 {c:UInt8} (h:kK c=true):rV c=false:=by
 have key:∀ i∈List.range 256,kK (UInt8.ofNat i)=true->rV (UInt8.ofNat i)=false:=by decide +kernel
 have:=key c.toNat (bQ.2 c.toNat_lt);rw [oH] at this;exact this h
theorem aV2 {m:Str} (h:m≠[]) (hw:w∈words\/w∈symbols) (e:m.take (bK m).2=w):(bK m).1=2\/(bK m).1=4:=by
 match m,h with
 | c::r,_ =>
  have hh:=aK1 e;cases h1:rV c with
  | true =>
   have hw1:w∈words:=by
    rcases hw with hw | hw
    ·exact hw
    ·have:=(dA4 w hw).1;rw [hh,h1] at this;cases this
   cases h4:words.contains ((c::r).take (pre kY (c::r))) with
   | true=>left;simp only [bK,aG,h1,h4,aN]
   | false =>
    by_cases h5:pre kY (c::r)<=12
    ·simp only [bK,aG,h1,h4,h5,aN,aC,aL] at e;rw [e] at h4;rw [iL.2 hw1] at h4;cases h4
    ·simp only [bK,aG,h1,h4,h5,aN,aC,aL] at e;rw [aI] at e;have h6:=yM kY (c::r);have h7:=(cS0 w hw1).2;rw [<-e] at h7;omega
  | false =>
   have hw1:w∈symbols:=by
    rcases hw with hw | hw
    ·have:=(cS0 w hw).1;rw [hh,h1] at this;cases this
    ·exact hw
   have h4:kK c=false:=by
    have:=(dA4 w hw1).2;rw [hh] at this;exact this
   cases hx:symbols.find? (λx=>x.isPrefixOf (c::r)) with
   | some x=>right;simp only [bK,aG,h1,h4,hx,aC,aL]
   | none =>
    simp only [bK,aG,h1,h4,hx,aC,aL] at e;rw [aI] at e;have:=List.find?_eq_none.1 hx w hw1;rw [<-e] at this;exact absurd (kC.2 (List.prefix_refl _)) this
theorem XJ {m:Str} {c0:UInt8} (h:m≠[]) (hc:c0=50\/c0=51) (e:m.take (bK m).2=[c0]):(bK m).1=3:=by
 match m,h with
 | c::r,_ =>
  have hh:c0=c:=aK1 e;have h4:kK c=true:=by rw [<-hh];rcases hc with rfl | rfl <;> decide
  have h1:=cP9 h4;have h5:pre kK (c::r)=1\/c≠48:=.inr (by rw [<-hh];rcases hc with rfl | rfl <;> decide);simp only [bK,aG,h1,h4,h5,aN,aC,aL]
def Tkg (t:Tk):Prop:=(t.t∈words\/t.t∈symbols->t.k=2\/t.k=4)/\(t.t=[50]\/t.t=[51]->t.k=3)/\t.t≠[]
theorem cS8:∀ (f o:Nat) (m:Str),∀ t∈GP f o m,Tkg t
 | 0,_,_,t,h=>by cases h
 | f+1,o,m,t,h=>by
  by_cases h0:m=[]
  ·rw [h0,wQ] at h;cases h
  ·rw [tU h0] at h;rcases bJ.1 h with rfl | h
   ·refine ⟨λhw=>aV2 h0 hw rfl,λhc=>?_,λe=>?_⟩
    ·rcases hc with hc | hc
     ·exact XJ h0 (.inl Z) hc
     ·exact XJ h0 (.inr Z) hc
    ·have hb:=zE h0;have h2:=congrArg List.length e;rw [dJ] at h2;simp only [aS] at h2;omega
   ·exact cS8 f _ _ t h
theorem XS (s:Str):∀ t∈sE s,Tkg t:=cS8 _ _ _
theorem cO2 {t:Tk} {r:List Tk} (h:Tkg t) (hw:w∈words\/w∈symbols):isT w (t::r)=decide (t.t=w):=by
 show ((t.k == 2 || t.k == 4) && decide (t.t=w))=_
 by_cases e:t.t=w
 ·have h1:=h.1 (by rw [e];exact hw);rw [dU e];rcases h1 with h1 | h1 <;> rw [h1] <;> rfl
 ·rw [eJ e,Bool.and_false]
theorem cO3 {t:Tk} {r:List Tk} (h:Tkg t) (hw:w=[50]\/w=[51]):isN w (t::r)=decide (t.t=w):=by
 show (t.k == 3 && decide (t.t=w))=_
 by_cases e:t.t=w
 ·have h1:=h.2.1 (by rw [e];exact hw);rw [dU e,h1]
  rfl
 ·rw [eJ e,Bool.and_false]
theorem cA7 (l:Str) (c:UInt8):oJ (l++[c])=10 * oJ l+(c.toNat - 48):=by
 unfold oJ;rw [rJ]
 rfl
theorem cA6:∀ (r:Str) (v:Nat),v<=r.foldl (λv c=>10 * v+(c.toNat - 48)) v
 | [],v=>aK _
 | c::r,v=>by
  rw [nS];have:=cA6 r (10 * v+(c.toNat - 48));omega
theorem cM7 (l r:Str):oJ l<=oJ (l++r):=by
 unfold oJ;rw [rJ];exact cA6 r _
theorem XN (t:Str) (i:Nat):oJ (t.take i)<=oJ t:=by
 have h:=cM7 (t.take i) (t.drop i);rw [eT] at h;exact h
variable {t:Str}
theorem XO {c:UInt8} (h:t[i]? = some c):oJ (t.take (i+1))=10 * oJ (t.take i)+(c.toNat - 48):=by
 rw [List.take_succ,h];exact cA7 _ _
theorem XM:oJ []=0:=rfl
def toks (o:Nat) (m:Str):List Tk:=GP (m.length+1) o m
def BL (m:Str):Nat:=m.length - (fZ false m).length
theorem aJ2 (m:Str):BL m<=m.length:=Nat.sub_le _ _
theorem TQ (m:Str):m.drop (BL m)=fZ false m:=KS false m
theorem bX0 (o:Nat):toks o []=[]:=wQ _ _
theorem WW {o:Nat} {m:Str} (h:m≠[]):toks o m=⟨(bK m).1,m.take (bK m).2,o⟩::toks (o+(bK m).2+BL (m.drop (bK m).2)) (m.drop ((bK m).2+BL (m.drop (bK m).2))):=by
 have hr:=zE h;have hs:=qQ false (m.drop (bK m).2);rw [dK] at hs;unfold toks;rw [tU h,<-gO,TQ]
 have e:o+(bK m).2+BL (m.drop (bK m).2)=o+(m.length - (fZ false (m.drop (bK m).2)).length):=by
  unfold BL;rw [dK];omega
 rw [e,IA _ _ _ _ _ (wO _)];omega
theorem bN0 (s:Str):sE s=toks (BL s) (s.drop (BL s)):=by
 unfold toks sE;rw [TQ];have hs:=qQ false s;exact IA _ _ _ _ (by omega) (by omega)
theorem aI2:∀ (f o:Nat) (m:Str),(GP f o m).length<=m.length
 | 0,_,_=>by rw [GP];simp
 | f+1,o,m=>by
  by_cases h0:m=[]
  ·subst h0;rw [wQ];simp
  ·have hr:=zE h0;have hs:=qQ false (m.drop (bK m).2);rw [dK] at hs;rw [tU h0,aH];have:=aI2 f (o+(m.length - (fZ false (m.drop (bK m).2)).length)) (fZ false (m.drop (bK m).2));omega
theorem CN (s:Str):(sE s).length<=s.length:=cN (aI2 _ _ _) (qQ false s)
def gX (lv:Nat):Pz Ex:=pX lv
def gL (lv:Nat) (a:Ex):Pz Ex:=pL lv a
def Sg.mu (s:Sg):Nat:=if s.e=0 then s.r.length+1 else 0
variable {s:Sg}
theorem Sg.mu_er (h:s.e≠0):s.mu=0:=by unfold Sg.mu;rw [aA h]
theorem jE {α:Type} {g:Pz α} (h:Shr g) (hz:Cz g):(up n g s).mu<=s.mu:=by
 by_cases h0:s.e=0
 ·cases hg:g s.r with
  | er r c=>rw [Sg.mu_er (aH8 hz hg h0)];exact cM _
  | ok a r =>
   have:=h _ _ _ hg;unfold up;rw [aE h0,hg];unfold Sg.mu;simp only [h0,aN];omega
 ·rw [yC h0];exact aK _
theorem qH (h:ac w s=true):s.tl.mu<s.mu:=by
 obtain ⟨h0,h1⟩:=WF h;have:=nJ h1;unfold Sg.mu Sg.tl;simp only [h0,aN];omega
theorem Cz.ex (lv:Nat):Cz (gX lv):=by
 have prim:∀ rec:List Tk->Rs Ex,(∀ r r' c,rec r=.er r' c->c≠0)->∀ r r' c,qW rec r=.er r' c->c≠0:=by
  intro rec hr r r' c e
  have nd:∀ {α:Type} (w:Str) (r:List Tk) (f:List Tk->Rs α),(∀ r r' c,f r=.er r' c->c≠0)->∀ r' c,wF w r f=.er r' c->c≠0:=by
   intro α w r f hf r' c e;unfold wF at e
   split at e
   ·exact hf _ _ _ e
   ·injection e with _ e;omega
  have nm:∀ {α:Type} (r:List Tk) (f:Str->List Tk->Rs α),(∀ s r r' c,f s r=.er r' c->c≠0)->∀ r' c,DN r f=.er r' c->c≠0:=by
   intro α r f hf r' c e;unfold DN at e
   split at e
   ·injection e with _ e;omega
   ·split at e
    ·exact hf _ _ _ _ e
    ·injection e with _ e;omega
  have rb:∀ (r:List Tk) (f:Ex->List Tk->Rs Ex),(∀ x r r' c,f x r=.er r' c->c≠0)->∀ r' c,(rec r).bind f=.er r' c->c≠0:=by
   intro r f hf r' c e;rcases Rs.bind_er e with e | ⟨a,q,_,e⟩
   ·exact hr _ _ _ e
   ·exact hf _ _ _ _ e
  unfold qW at e
  split at e
  ·injection e with _ e;omega
  ·split at e
   ·split at e
    ·cases e
    ·injection e with _ e;omega
   split at e
   ·cases e
   split at e
   ·cases e
   split at e
   ·cases e
   split at e
   ·exact nm _ _ (λs r r' c e=>by cases e) _ _ e
   split at e
   ·exact rb _ _ (λx r r' c e=>nd _ _ _ (λr r' c e=>by cases e) _ _ e) _ _ e
   split at e
   ·exact nm _ _ (λs r r' c e=>nd _ _ _ (λr r' c e=>rb _ _ (λx r r' c e=>nd _ _ _ (λr r' c e=>by cases e) _ _ e) _ _ e) _ _ e) _ _ e
   split at e
   ·split at e
    ·exact rb _ _ (λx r r' c e=>nd _ _ _ (λr r' c e=>by cases e) _ _ e) _ _ e
    ·cases e
   ·injection e with _ e;omega
 have key:∀ f,(∀ lv r r' c,pE f (.ex lv) r=.er r' c->c≠0)/\(∀ lv a r r' c,pE f (.lp lv a) r=.er r' c->c≠0):=by
  intro f;induction f with
  | zero=>exact ⟨λlv r r' c e=>by unfold pE at e;injection e with _ e;omega,λlv a r r' c e=>by unfold pE at e;injection e with _ e;omega⟩
  | succ f ih =>
   obtain ⟨ih1,ih2⟩:=ih;refine ⟨λlv r r' c e=>?_,λlv a r r' c e=>?_⟩
   ·rw [QC] at e
    split at e
    ·rcases Rs.bind_er e with e | ⟨a,q,_,e⟩
     ·exact ih1 _ _ _ _ e
     ·exact ih2 _ _ _ _ _ e
    split at e
    ·rcases Rs.bind_er e with e | ⟨a,q,_,e⟩
     ·exact ih1 _ _ _ _ e
     ·cases e
    split at e
    ·rcases Rs.bind_er e with e | ⟨a,q,_,e⟩
     ·exact ih1 _ _ _ _ e
     ·cases e
    ·exact prim _ (λr r' c e=>ih1 _ _ _ _ e) _ _ _ e
   ·rw [QB] at e
    split at e
    ·cases e
    ·rcases Rs.bind_er e with e | ⟨b,q,_,e⟩
     ·exact ih1 _ _ _ _ e
     ·split at e
      ·cases e
      ·exact ih2 _ _ _ _ _ e
 exact λr r' c e=>(key _).1 _ _ _ _ e
theorem Shs.gx (lv:Nat):Shs (gX lv):=λr a r' e=>(GX _).1 _ _ _ _ e
theorem OL {lv:Nat} (h:lv<5):gX lv=cK (gX (lv+1)) (gL lv):=funext λ_=>aC0 h
theorem GL:gX 5=jH [45] (cK (gX 5) λx=>eR (opE 9 [x])) (jH [110,111,116] (cK (gX 5) λx=>eR (opE 10 [x])) (qW (gX 0))):=funext λ_=>JS
def opS (lv:Nat) (s:Sg):Option UInt8:=if s.e=0 then opAt lv s.r else none
theorem bW3 {lv:Nat} (h:opS lv s=none):up n (gL lv a) s=s/\vl (gL lv a) s a:=by
 by_cases h0:s.e=0
 ·unfold opS at h;rw [aE h0] at h;refine ⟨?_,λ_ b r e=>?_⟩
  ·unfold up gL;rw [aE h0,DL h]
  ·unfold gL at e;rw [DL h] at e;injection e
 ·exact ⟨yC h0,aH4 h0⟩
def gK (lv:Nat) (op:UInt8) (a:Ex) (b:Ex):Pz Ex:=if lv=2 then eR (opE op [a,b]) else gL lv (opE op [a,b])
theorem lpS {lv:Nat} {op:UInt8} (hl:lv<=4) (h:opS lv s=some op):s.e=0/\gL lv a s.r=cK (gX (lv+1)) (gK lv op a) s.tl.r:=by
 unfold opS at h
 by_cases h0:s.e=0
 ·rw [aE h0] at h;refine ⟨h0,?_⟩;show pL lv a s.r=_;rw [aC1 hl h];refine Rs.bind_congr rfl λb q _=>?_;unfold gK
  split <;> rfl
 ·rw [aA h0] at h;cases h
theorem aU1 {lv:Nat} {op:UInt8} (hl:lv<=4) (h:opS lv s=some op):up n (gL lv a) s=up n (cK (gX (lv+1)) (gK lv op a)) s.tl:=by
 obtain ⟨h0,h1⟩:=lpS (a:=a) hl h;unfold up;rw [aE h0,h1,aE (show s.tl.e=0 from h0)]
 rfl
theorem aT9 {lv:Nat} {x:Ex} {op:UInt8} (hl:lv<=4) (h:opS lv s=some op) (hx:vl (cK (gX (lv+1)) (gK lv op a)) s.tl x):vl (gL lv a) s x:=by
 obtain ⟨h0,h1⟩:=lpS (a:=a) hl h;intro _ b r e;rw [h1] at e;exact hx h0 b r e
def aN9 (op:UInt8) (nm:Str):Pz Ex:=cK (gX 0) λx=>cK (gNd [93]) λ_=>eR (.mk op nm 0 [x])
def cD9:Pz Ex:=cK gNu λv=>eR (.mk 1 [] v [])
def VU:Pz Ex:=cK gNm λs=>jH [91] (aN9 6 s) (eR (.mk 5 s 0 []))
def aN4:List Tk->Bool
 | []=>false
 | t::_=>decide (t.k=3)
def BM:Pz Ex:=λr=>if aN4 r then cD9 r else VU r
def gY:Pz Ex :=
 jH [116,114,117,101] (eR (opE 2 []))<|jH [102,97,108,115,101] (eR (opE 3 []))<|jH [110,111,119] (eR (opE 4 []))<|jH [115,105,122,101] (cK gNm λs=>eR (.mk 8 s 0 []))<|jH [104,97,115] (cK gNm λs=>cK (gNd [91]) λ_=>aN9 7 s)<|jH [40] (cK (gX 0) λx=>cK (gNd [41]) λ_=>eR x) BM
theorem aM0 {α:Type} (r:List Tk) (f:Str->Pz α):(DN r λs q=>f s q)=cK gNm f r:=by
 unfold DN cK gNm;cases r with
 | nil=>rfl
 | cons t q =>
  simp only
  split <;> rfl
theorem MK {α:Type} (w:Str) (r:List Tk) (f:Pz α):(wF w r λq=>f q)=cK (gNd w) (λ_=>f) r:=by
 unfold wF cK gNd
 split <;> rfl
theorem aN3 {t:Tk} {q:List Tk} (h:isT w (t::q)=true):(t.k=2\/t.k=4)/\t.t=w:=by
 unfold isT at h;rw [aF,aB,cO,fC,fC] at h;exact h
theorem cY0 {t:Tk} {q:List Tk} (h:t.k=3):isT w (t::q)=false:=by
 cases e:isT w (t::q) with
 | false=>rfl
 | true =>
  have:=(aN3 e).1;rw [h] at this
  revert this
  decide
theorem RG:qW (gX 0)=gY:=funext λr=>by
 cases r with
 | nil=>rfl
 | cons t q =>
  by_cases h3:t.k=3
  ·have e:gY (t::q)=cD9 (t::q):=by
    unfold gY jH BM aN4;simp only [cY0 h3,aC,aL,h3,decide_true,aN]
   rw [e];unfold qW cD9 cK gNu;simp only [h3,aN]
   split <;> rfl
  ·have hl:BM (t::q)=VU (t::q):=by
    unfold BM aN4;simp only [h3,xQ,aC,aL]
   unfold qW;simp only [h3,aL];unfold gY jH;refine ifC rfl (ifC rfl (ifC rfl (ifC ?_ ?_)))
   ·exact aM0 q λs=>eR _
   by_cases hp:isT [40] (t::q)=true
   ·have hn:isT [104,97,115] (t::q)=false:=by
     cases e:isT [104,97,115] (t::q) with
     | false=>rfl
     | true =>
      have h1:=(aN3 hp).2;have h2:=(aN3 e).2;rw [h1] at h2
      revert h2
      decide
    simp only [hp,hn,aN,aC,aL];refine Rs.bind_congr rfl λx r2 _=>?_;exact MK [41] r2 (eR x)
   ·simp only [hp,aC,aL];refine ifC ?_ ?_
    ·rw [yW,<-aM0];unfold DN;cases q with
     | nil=>rfl
     | cons t2 q2 =>
      simp only;refine ifC ?_ rfl;rw [<-MK];unfold wF;refine ifC ?_ rfl;refine Rs.bind_congr rfl λx r4 _=>?_;exact MK [93] r4 (eR _)
    ·rw [hl];unfold VU cK gNm;simp only
     by_cases h1:t.k=1
     ·simp only [h1,aN];show _=jH [91] (aN9 6 t.t) (eR (.mk 5 t.t 0 [])) q;unfold jH;refine ifC ?_ rfl;refine Rs.bind_congr rfl λx r4 _=>?_;exact MK [93] r4 (eR _)
     ·simp only [h1,aL]
      rfl
section
variable {α β:Type}
theorem BB {n:Nat} {g:Pz α} {f:α->β} {s:Sg}:up n (cK g λa=>eR (f a)) s=up n g s:=by
 unfold up cK eR
 by_cases h0:s.e=0
 ·simp only [h0,aN];cases g s.r <;> rfl
 ·simp only [h0,aL]
theorem yL {g:Pz α} {f:α->β} {s:Sg} {x:α} (h:vl g s x):vl (cK g λa=>eR (f a)) s (f x):=by
 intro h0 b r e;obtain ⟨a,q,h1,h2⟩:=Rs.bind_ok e;obtain rfl:=h h0 a q h1;injection h2
theorem gP {w w':Str} {s:Sg} (h:ac w s=true) (hne:w≠w'):ac w' s=false:=by
 cases e:ac w' s with
 | false=>rfl
 | true =>
  have h1:=(WF h).2;have h2:=(WF e).2;cases hr:s.r with
  | nil=>rw [hr] at h1;cases h1
  | cons t q =>
   rw [hr] at h1 h2;exact absurd ((aN3 h1).2.symm.trans (aN3 h2).2) hne
theorem cX3 {n:Nat} {w:Str} {p:Pz α} {s:Sg} {x:α} (hp:Shr p) (hz:Cz p) (h:ac w s=true) (hx:vl p s.tl x):up n (jV w p) s=up n (jV w p) (up n p s.tl):=by
 conv=>lhs;rw [CR hp]
 rw [eU h,aO hz hx,BB]
theorem cN3 {n:Nat} {w:Str} {p:Pz α} {s:Sg} {x:α} {l:List α} (hp:Shr p) (h:ac w s=true) (hx:vl p s.tl x) (hl:vl (jV w p) (up n p s.tl) l):vl (jV w p) s (x::l):=by
 rw [CR hp];exact eG h (aM hx (yL hl))
theorem cX4 {n:Nat} {w:Str} {p:Pz α} {s:Sg} (hp:Shr p) (h:ac w s=false):up n (jV w p) s=s:=by
 rw [CR hp,aZ h,dE]
theorem cN4 {w:Str} {p:Pz α} {s:Sg} (hp:Shr p) (h:ac w s=false):vl (jV w p) s []:=by
 rw [CR hp];exact aY h dB
end
theorem Cz.st {b:Pz (List Sm)} (h:Cz b):Cz (gSt b):=by
 have hx:Cz gEx:=Cz.ex 0;have blk:Cz (qP b):=.bind (.nd _) λ_=>.bind h λ_=>.bind (.nd _) λ_=>.pure _;have els:Cz (FS b):=.alt blk (.pure _);have oth:Cz (vD b):=.alt blk (.bind (.nd _) λ_=>.pure _);have lst:Cz (jN gEx):=.bind (.nd _) λ_=>.alt (.pure _) (.bind hx λ_=>.bind (.many hx) λ_=>.bind (.nd _) λ_=>.pure _)
 exact .alt (.bind hx λ_=>.bind blk λ_=>.bind els λ_=>.pure _)<|.alt (.bind hx λ_=>.bind blk λ_=>.pure _)<|.alt (.bind hx λ_=>.bind (.nd _) λ_=>.bind hx λ_=>.bind oth λ_=>.pure _)<|.alt (.bind .nm λ_=>.bind (.nd _) λ_=>.bind hx λ_=>.bind oth λ_=>.pure _)<|.alt (.bind .nm λ_=>.bind (.nd _) λ_=>.bind .nm λ_=>.bind lst λ_=>.bind (.nd _) λ_=>.pure _)<|.alt (.bind hx λ_=>.bind (.nd _) λ_=>.bind .nm λ_=>.bind lst λ_=>.bind (.nd _) λ_=>.pure _)<|.alt (.bind (.nd _) λ_=>.pure _)<|.alt (.bind .nm λ_=>.bind (.nd _) λ_=>.bind hx λ_=>.bind (.nd _) λ_=>.bind (.nd _) λ_=>.pure _)<|.bind .nm λ_=>.alt (.bind hx λ_=>.bind (.nd _) λ_=>.bind (.nd _) λ_=>.bind hx λ_=>.bind (.nd _) λ_=>.pure _)
  (.bind (.nd _) λ_=>.bind hx λ_=>.bind (.nd _) λ_=>.pure _)
theorem Cz.bF:∀ f,Cz (gBF f)
 | 0=>λr r' c e=>by unfold gBF at e;injection e with _ e;omega
 | f+1=>λr r' c e=>by
  unfold gBF at e
  split at e
  ·cases e
  ·rcases Rs.bind_er e with e | ⟨a,q,_,e⟩
   ·exact Cz.st (Cz.bF f) _ _ _ e
   ·rcases Rs.bind_er e with e | ⟨l,q2,_,e⟩
    ·exact Cz.bF f _ _ _ e
    ·cases e
theorem Cz.b:Cz gB:=λr r' c e=>Cz.bF _ _ _ _ e
def goB (s:Sg):Bool:=decide (s.e=0) && !isT [125] s.r
theorem dD2 (h:goB s=false):up n gB s=s/\vl gB s []:=by
 by_cases h0:s.e=0
 ·have h1:isT [125] s.r=true:=by
   unfold goB at h;rw [dU h0,gM] at h;simpa using h
  have e:gB s.r=.ok [] s.r:=by rw [TJ,aE h1]
  refine ⟨?_,λ_ b r e2=>?_⟩
  ·unfold up;rw [aE h0,e]
  ·rw [e] at e2;injection e2
 ·exact ⟨yC h0,aH4 h0⟩
theorem bG9 (h:goB s=true):s.e=0/\gB s.r=cK (gSt gB) (λa=>cK gB λl=>eR (a::l)) s.r:=by
 unfold goB at h;rw [aF,aB] at h;refine ⟨h.1,?_⟩;rw [TJ,aA (by simpa using h.2)]
 rfl
theorem dD1 {x:Sm} (h:goB s=true) (hx:vl (gSt gB) s x):up n gB s=up n gB (up n (gSt gB) s):=by
 obtain ⟨h0,h1⟩:=bG9 h
 have e:up n gB s=up n (cK (gSt gB) (λa=>cK gB λl=>eR (a::l))) s:=by
  unfold up;rw [aE h0,aE h0,h1]
 rw [e,aO (Cz.st Cz.b) hx,BB]
theorem cY6 {x:Sm} {l:List Sm} (h:goB s=true) (hx:vl (gSt gB) s x) (hl:vl gB (up n (gSt gB) s) l):vl gB s (x::l):=by
 obtain ⟨h0,h1⟩:=bG9 h;have e:vl (cK (gSt gB) (λa=>cK gB λl=>eR (a::l))) s (x::l):=aM hx (yL hl);intro _ b r e2;rw [h1] at e2;exact e h0 b r e2
section
variable {α:Type}
theorem Cz.blk:Cz (qP gB):=.bind (.nd _) λ_=>.bind Cz.b λ_=>.bind (.nd _) λ_=>.pure _
theorem Cz.list {p:Pz α} (h:Cz p):Cz (jN p):=.bind (.nd _) λ_=>.alt (.pure _) (.bind h λ_=>.bind (.many h) λ_=>.bind (.nd _) λ_=>.pure _)
theorem Cz.tr:Cz gTr:=.alt (.pure _) (.bind (.nd _) λ_=>.pure _)
theorem Cz.fg:Cz gFg:=.bind .nm λ_=>.bind (.nd _) λ_=>.bind .tr λ_=>.bind (.nd _) λ_=>.pure _
theorem Cz.lk:Cz gLk:=.bind .nm λ_=>.bind (.nd _) λ_=>.bind .nm λ_=>.bind (.nd _) λ_=>.bind .nu λ_=>.bind (.nd _) λ_=>.pure _
theorem Cz.int:Cz EZ:=.alt (.bind .nu λ_=>.pure _) .nu
theorem Cz.vr:Cz gVr:=.bind .nm λ_=>.bind (.nd _) λ_=>.alt (.bind (.nd _) λ_=>.bind .int λ_=>.bind (.nd _) λ_=>.pure _)<|.alt (.bind (.nd _) λ_=>.bind .tr λ_=>.bind (.nd _) λ_=>.pure _)<|.bind (.nd _) λ_=>.bind (.nd _) λ_=>.pure _
theorem Cz.hd:Cz gHd:=.bind .nm λ_=>.bind (.list .nm) λ_=>.bind .blk λ_=>.pure _
theorem Cz.vs:Cz gVs:=.many .hd
theorem Cz.vn (w:Str):Cz (gVn w):=.bind (.nn _) λ_=>.bind (.nd _) λ_=>.bind .vs λ_=>.bind (.nd _) λ_=>.pure _
theorem Cz.vm:Cz gVm:=.alt (.bind (.vn _) λ_=>.alt (.bind (.vn _) λ_=>.pure _) (.pure _)) (.pure _)
theorem Cz.cp:Cz gCp:=.bind .nm λ_=>.bind (.nd _) λ_=>.bind (.many .vr) λ_=>.bind .vs λ_=>.bind .vm λ_=>.bind (.nd _) λ_=>.pure _
theorem Cz.ft:Cz gFt:=.bind (.nd _) λ_=>.bind .nm λ_=>.bind (.nd _) λ_=>.bind (.many .fg) λ_=>.bind (.many .lk) λ_=>.bind (.many .cp) λ_=>.bind (.nd _) λ_=>.pure _
end
def Sg.cl (n:Nat) (s:Sg):Sg:=if s.r=[] then s else s.fail n 8
def sg0 (t:Str):Sg:=if 20000<t.length then ⟨[],3,0⟩ else ⟨sE t,0,0⟩
def sgZ {α:Type} (g:Pz α) (t:Str):Sg:=(up t.length g (sg0 t)).cl t.length
theorem cV4 {α:Type} {g:Pz α} {x y:α} (hx:vl g (sg0 t) x) (hy:vl g (sg0 t) y) (hz:Cz g) (h:(sgZ g t).e=0):x=y:=by
 have h0:(sg0 t).e=0:=by
  by_cases k:(sg0 t).e=0
  ·exact k
  ·unfold sgZ at h;rw [yC k] at h;unfold Sg.cl at h
   split at h
   ·exact h
   ·unfold Sg.fail at h;rw [aA k] at h;exact h
 cases hg:g (sg0 t).r with
 | ok a r=>rw [hx h0 a r hg,hy h0 a r hg]
 | er r c =>
  have k:=aH8 (n:=t.length) hz hg h0;unfold sgZ Sg.cl at h
  split at h
  ·exact absurd h k
  ·unfold Sg.fail at h;rw [aA k] at h;exact absurd h k
def Suf {α:Type} (g:Pz α):Prop:=∀ r,(∀ a r',g r=.ok a r'->r'<:+r)/\(∀ r' c,g r=.er r' c->r'<:+r)
section
variable {α β:Type}
theorem Suf.bind {g:Pz α} {f:α->Pz β} (h:Suf g) (k:∀ a,Suf (f a)):Suf (cK g f):=λr=>by
 refine ⟨λb r' e=>?_,λr' c e=>?_⟩
 ·obtain ⟨a,q,h1,h2⟩:=Rs.bind_ok e;exact ((k a q).1 _ _ h2).trans ((h r).1 _ _ h1)
 ·rcases Rs.bind_er e with e | ⟨a,q,h1,h2⟩
  ·exact (h r).2 _ _ e
  ·exact ((k a q).2 _ _ h2).trans ((h r).1 _ _ h1)
theorem Suf.pure (a:α):Suf (eR a):=λr=>⟨λb r' e=>by injection e with _ e;rw [e];exact dI _,λr' c e=>by cases e⟩
theorem Suf.alt {w:Str} {p q:Pz α} (h:Suf p) (k:Suf q):Suf (jH w p q):=λr=>by
 refine ⟨λb r' e=>?_,λr' c e=>?_⟩
 ·unfold jH at e
  split at e
  ·exact ((h _).1 _ _ e).trans (nF r)
  ·exact (k _).1 _ _ e
 ·unfold jH at e
  split at e
  ·exact ((h _).2 _ _ e).trans (nF r)
  ·exact (k _).2 _ _ e
theorem Suf.nd (w:Str):Suf (gNd w):=λr=>by
 refine ⟨λb r' e=>?_,λr' c e=>?_⟩
 ·unfold gNd at e
  split at e
  ·injection e with _ e;subst e;exact nF r
  ·cases e
 ·unfold gNd at e
  split at e
  ·cases e
  ·injection e with e _;subst e;exact dI _
theorem Suf.nn (w:Str):Suf (gNn w):=λr=>by
 refine ⟨λb r' e=>?_,λr' c e=>?_⟩
 ·unfold gNn at e
  split at e
  ·injection e with _ e;subst e;exact nF r
  ·cases e
 ·unfold gNn at e
  split at e
  ·cases e
  ·injection e with e _;subst e;exact dI _
theorem Suf.nm:Suf gNm:=λr=>by
 refine ⟨λb r' e=>?_,λr' c e=>?_⟩
 ·unfold gNm at e
  split at e
  ·cases e
  ·split at e
   ·injection e with _ e;subst e;exact lM _ _
   ·cases e
 ·unfold gNm at e
  split at e
  ·injection e with e _;subst e;exact dI _
  ·split at e
   ·cases e
   ·injection e with e _;subst e;exact dI _
theorem Suf.nu:Suf gNu:=λr=>by
 refine ⟨λb r' e=>?_,λr' c e=>?_⟩
 ·unfold gNu at e
  split at e
  ·cases e
  ·split at e
   ·split at e
    ·injection e with _ e;subst e;exact lM _ _
    ·cases e
   ·cases e
 ·unfold gNu at e
  split at e
  ·injection e with e _;subst e;exact dI _
  ·split at e
   ·split at e
    ·cases e
    ·injection e with e _;subst e;exact dI _
   ·injection e with e _;subst e;exact dI _
theorem Suf.manyF {w:Str} {p:Pz α} (h:Suf p):∀ f,Suf (wK w p f)
 | 0=>λr=>⟨λb r' e=>(by unfold wK at e;cases e),λr' c e=>(by unfold wK at e;injection e with e _;subst e;exact dI _)⟩
 | f+1=>.alt (.bind h λ_=>.bind (Suf.manyF h f) λ_=>.pure _) (.pure _)
theorem Suf.many {w:Str} {p:Pz α} (h:Suf p):Suf (jV w p):=λr=>Suf.manyF h _ r
theorem Suf.up {g:Pz α} {n:Nat} {s:Sg} {ts:List Tk} (h:Suf g) (hs:s.r<:+ts):(up n g s).r<:+ts:=by
 unfold Go.Proofs.YthhoebdlfjffkaaGreatDoor.up
 split
 ·cases e:g s.r with
  | ok a r=>exact ((h _).1 _ _ e).trans hs
  | er r c=>exact ((h _).2 _ _ e).trans hs
 ·exact hs
theorem Suf.tl {s:Sg} {ts:List Tk} (hs:s.r<:+ts):s.tl.r<:+ts:=(nF s.r).trans hs
end
theorem Suf.ex (lv:Nat):Suf (gX lv):=by
 have st:∀ (r:List Tk),r.tail<:+r:=nF
 have prim:∀ rec:List Tk->Rs Ex,Suf rec->Suf (qW rec):=by
  intro rec hr r;refine ⟨λa r' e=>?_,λr' c e=>?_⟩
  ·unfold qW at e
   split at e
   ·cases e
   ·rename_i t q
    have fin:∀ {b:Ex} {l:List Tk},(Rs.ok b l:Rs Ex)=.ok a r'->l<:+q->r'<:+(t::q):=by
     intro b l e hl;injection e with _ e;subst e;exact hl.trans (lM _ _)
    split at e
    ·split at e
     ·exact fin e (dI _)
     ·cases e
    split at e
    ·exact fin e (dI _)
    split at e
    ·exact fin e (dI _)
    split at e
    ·exact fin e (dI _)
    split at e
    ·obtain ⟨t2,r2,rfl,_,e⟩:=AU e;exact fin e (lM _ _)
    split at e
    ·obtain ⟨x,r2,h1,e⟩:=Rs.bind_ok e;obtain ⟨_,e⟩:=pC e;exact fin e ((st _).trans ((hr _).1 _ _ h1))
    split at e
    ·obtain ⟨t2,r2,rfl,_,e⟩:=AU e;obtain ⟨_,e⟩:=pC e;obtain ⟨x,r4,h1,e⟩:=Rs.bind_ok e;obtain ⟨_,e⟩:=pC e;exact fin e ((st _).trans (((hr _).1 _ _ h1).trans ((st _).trans (lM _ _))))
    split at e
    ·split at e
     ·obtain ⟨x,r4,h1,e⟩:=Rs.bind_ok e;obtain ⟨_,e⟩:=pC e;exact fin e ((st _).trans (((hr _).1 _ _ h1).trans (st _)))
     ·exact fin e (dI _)
    ·cases e
  ·unfold qW at e
   split at e
   ·injection e with e _;subst e;exact dI _
   ·rename_i t q;have q0:q<:+(t::q):=lM _ _
    have nd:∀ {w:Str} {z:List Tk} {f:List Tk->Rs Ex},wF w z f=.er r' c->z<:+(t::q)->(∀ y,y<:+(t::q)->f y=.er r' c->r'<:+(t::q))->r'<:+(t::q):=by
     intro w z f e hz hf;unfold wF at e
     split at e
     ·exact hf _ ((st _).trans hz) e
     ·injection e with e _;subst e;exact hz
    have nm:∀ {z:List Tk} {f:Str->List Tk->Rs Ex},DN z f=.er r' c->z<:+(t::q)->(∀ x y,y<:+(t::q)->f x y=.er r' c->r'<:+(t::q))->r'<:+(t::q):=by
     intro z f e hz hf;unfold DN at e
     split at e
     ·injection e with e _;subst e;exact hz
     ·split at e
      ·exact hf _ _ ((lM _ _).trans hz) e
      ·injection e with e _;subst e;exact hz
    have rb:∀ {z:List Tk} {f:Ex->List Tk->Rs Ex},(rec z).bind f=.er r' c->z<:+(t::q)->(∀ x y,y<:+(t::q)->f x y=.er r' c->r'<:+(t::q))->r'<:+(t::q):=by
     intro z f e hz hf;rcases Rs.bind_er e with e | ⟨a,y,h1,e⟩
     ·exact ((hr _).2 _ _ e).trans hz
     ·exact hf _ _ (((hr _).1 _ _ h1).trans hz) e
    split at e
    ·split at e
     ·cases e
     ·injection e with e _;subst e;exact dI _
    split at e
    ·cases e
    split at e
    ·cases e
    split at e
    ·cases e
    split at e
    ·exact nm e q0 λ_ _ _ e=>by cases e
    split at e
    ·exact rb e q0 λ_ _ hy e=>nd e hy λ_ _ e=>by cases e
    split at e
    ·exact nm e q0 λ_ _ hy e=>nd e hy λ_ hy e=>rb e hy λ_ _ hy e=>nd e hy λ_ _ e=>by cases e
    split at e
    ·split at e
     ·exact rb e ((st _).trans q0) λ_ _ hy e=>nd e hy λ_ _ e=>by cases e
     ·cases e
    ·injection e with e _;subst e;exact dI _
 have key:∀ f,(∀ lv,Suf (pE f (.ex lv)))/\(∀ lv a,Suf (pE f (.lp lv a))):=by
  intro f;induction f with
  | zero=>exact ⟨λlv r=>⟨λa r' e=>(by unfold pE at e;cases e),λr' c e=>(by unfold pE at e;injection e with e _;subst e;exact dI _)⟩,λlv a r=>⟨λa r' e=>(by unfold pE at e;cases e),λr' c e=>(by unfold pE at e;injection e with e _;subst e;exact dI _)⟩⟩
  | succ f ih =>
   obtain ⟨ih1,ih2⟩:=ih
   have un:∀ op,Suf (λr=>(pE f (.ex 5) r.tail).bind λx r2=>.ok (opE op [x]) r2):=by
    intro op r;refine ⟨λa r' e=>?_,λr' c e=>?_⟩
    ·obtain ⟨x,q,h1,e⟩:=Rs.bind_ok e;injection e with _ e
     subst e;exact ((ih1 _ _).1 _ _ h1).trans (st _)
    ·rcases Rs.bind_er e with e | ⟨x,q,_,e⟩
     ·exact ((ih1 _ _).2 _ _ e).trans (st _)
     ·cases e
   refine ⟨λlv r=>?_,λlv a r=>?_⟩
   ·rw [QC]
    split
    ·exact Suf.bind (ih1 _) (λa=>ih2 lv a) r
    split
    ·exact un 9 r
    split
    ·exact un 10 r
    ·exact prim _ (ih1 0) r
   ·rw [QB]
    split
    ·exact Suf.pure a r
    ·rename_i op _
     have:Suf (λq=>(pE f (.ex (lv+1)) q).bind λb r2=>if lv=2 then .ok (opE op [a,b]) r2 else pE f (.lp lv (opE op [a,b])) r2):=by
      refine Suf.bind (ih1 _) λb=>?_;intro q;dsimp only
      split
      ·exact Suf.pure _ q
      ·exact ih2 _ _ q
     exact ⟨λb r' e=>((this r.tail).1 _ _ e).trans (st _),λr' c e=>((this r.tail).2 _ _ e).trans (st _)⟩
 exact λr=>(key _).1 lv r
def tkH (n:Nat):List Tk->Tk
 | []=>⟨0,[],n⟩
 | t::_=>t
theorem cS9 (n:Nat) (r:List Tk):(tkH n r).o=cM6 n r:=by cases r <;> rfl
def tcB (n:Nat) (w:Str) (s:Sg):Bool:=decide (s.e=0) && decide ((tkH n s.r).t=w)
theorem cS1:∀ w∈words++symbols,w≠[]:=by decide +kernel
variable {ts:List Tk}
theorem aC9 {r:List Tk} {P:Tk->Prop} (hg:∀ t∈ts,P t) (hs:r<:+ts):∀ t∈r,P t:=λt h=>hg t (hs.subset h)
theorem aU3 (hg:∀ t∈ts,Tkg t) (hs:s.r<:+ts) (hw:w∈words\/w∈symbols):tcB n w s=ac w s:=by
 unfold tcB ac
 congr 1
 have h:=aC9 hg hs;cases e:s.r with
 | nil =>
  have:=cS1 w (gJ.2 hw);show decide ([]=w)=false;exact eJ λk=>this k.symm
 | cons t q =>
  rw [cO2 (h t (by rw [e];exact eE ..)) hw]
  rfl
def acS (w:Str) (s:Sg):Sg:=if ac w s then s.tl else s
theorem iS (h:ac w s=true):acS w s=s.tl:=by unfold acS;rw [aE h]
theorem iT (h:ac w s=false):acS w s=s:=by unfold acS;rw [aA (by rw [h];decide)]
theorem aF7 (hs:s.r<:+ts):(acS w s).r<:+ts:=by
 unfold acS
 split
 ·exact Suf.tl hs
 ·exact hs
theorem cB5:up n (gNd w) s=if ac w s then s.tl else s.fail n 8:=by
 split
 ·rename_i h;exact FO h
 ·rename_i h;exact cU4 (by simpa using h)
theorem aL7 (hg:∀ t∈ts,Tkg t) (hs:s.r<:+ts) (hw:w=[50]\/w=[51]):up n (gNn w) s=if tcB n w s then s.tl else s.fail n 8:=by
 have h:=aC9 hg hs
 have e1:isN w s.r=decide ((tkH n s.r).t=w):=by
  cases e:s.r with
  | nil =>
   show false=decide ([]=w);exact (eJ λk=>by rcases hw with rfl | rfl <;> cases k).symm
  | cons t q =>
   rw [cO3 (h t (by rw [e];exact eE ..)) hw]
   rfl
 unfold up gNn tcB Sg.fail Sg.tl;rw [e1]
 by_cases h0:s.e=0
 ·cases decide ((tkH n s.r).t=w) <;> simp [h0]
 ·simp [h0]
theorem aL8:up n gNm s=if s.e=0/\(tkH n s.r).k=1 then s.tl else s.fail n 8:=by
 unfold up gNm Sg.fail Sg.tl
 by_cases h0:s.e=0
 ·cases e:s.r with
  | nil =>
   have:¬ ((tkH n []).k=1):=by show ¬ ((0:UInt8)=1);decide
   simp [h0,this]
  | cons t q =>
   have hk:(tkH n (t::q)).k=t.k:=rfl
   by_cases h1:t.k=1 <;> simp [h0,hk,h1]
 ·simp [h0]
theorem XP:vl gNm s (if s.e=0/\(tkH n s.r).k=1 then (tkH n s.r).t else []):=by
 intro h0 a r e;unfold gNm at e;cases hr:s.r with
 | nil=>rw [hr] at e;cases e
 | cons t q =>
  rw [hr] at e;have hk:(tkH n (t::q)).k=t.k:=rfl
  by_cases h1:t.k=1
  ·simp only [h1,aN] at e;injection e with e _
   simp [h0,hk,h1,<-e,tkH]
  ·simp only [h1,aL] at e;cases e
theorem bO3 {op:UInt8} {nm:Str} {n:Int64} :(Ex.mk op nm n []).depth=1:=by rw [sH];simp [Ex.deeps]
theorem cQ0 {op:UInt8} {nm:Str} {n:Int64} :(Ex.mk op nm n [a]).depth=a.depth+1:=by rw [sH];simp [Ex.deeps]
theorem dF2 {op:UInt8} {nm:Str} {n:Int64} {b:Ex} :(Ex.mk op nm n [a,b]).depth=max a.depth b.depth+1:=by rw [sH];simp [Ex.deeps]
theorem aK3 {rec:List Tk->Rs Ex} (hr:∀ q a r',rec q=.ok a r'->a.depth+r'.length<=q.length) {r:List Tk} {r':List Tk} (h:qW rec r=.ok a r'):a.depth+r'.length<=r.length:=by
 unfold qW at h;cases r with
 | nil=>cases h
 | cons t q =>
  simp only at h
  have fin:∀ {b:Ex} {l:List Tk},(Rs.ok b l:Rs Ex)=.ok a r'->b.depth+l.length<=q.length+1->a.depth+r'.length<=(t::q).length:=by
   intro b l e hl;injection e with e1 e2
   subst e1;subst e2;rw [aH];omega
  split at h
  ·split at h
   ·exact fin h (by rw [bO3];omega)
   ·cases h
  split at h
  ·exact fin h (by unfold opE;rw [bO3];omega)
  split at h
  ·exact fin h (by unfold opE;rw [bO3];omega)
  split at h
  ·exact fin h (by unfold opE;rw [bO3];omega)
  split at h
  ·obtain ⟨t2,r2,rfl,_,h⟩:=AU h;exact fin h (by rw [bO3];simp;omega)
  split at h
  ·obtain ⟨x,r2,h1,h⟩:=Rs.bind_ok h;obtain ⟨h2,h⟩:=pC h;have:=hr _ _ _ h1;have:=nJ h2;exact fin h (by omega)
  split at h
  ·obtain ⟨t2,r2,rfl,_,h⟩:=AU h;obtain ⟨h2,h⟩:=pC h;obtain ⟨x,r4,h1,h⟩:=Rs.bind_ok h;obtain ⟨h3,h⟩:=pC h;have:=hr _ _ _ h1;have:=nJ h2;have:=nJ h3;exact fin h (by rw [cQ0];simp;omega)
  split at h
  ·split at h
   ·rename_i h2;obtain ⟨x,r4,h1,h⟩:=Rs.bind_ok h;obtain ⟨h3,h⟩:=pC h;have:=hr _ _ _ h1;have:=nJ h2;have:=nJ h3;exact fin h (by rw [cQ0];omega)
   ·exact fin h (by rw [bO3];omega)
  ·cases h
theorem aL0:∀ f,(∀ lv r a r',pE f (.ex lv) r=.ok a r'->a.depth+r'.length<=r.length)/\(∀ lv x r a r' K,pE f (.lp lv x) r=.ok a r'->x.depth+r.length<=K->a.depth+r'.length<=K)
 | 0=>⟨λlv r a r' e=>(by unfold pE at e;cases e),λlv x r a r' K e=>(by unfold pE at e;cases e)⟩
 | f+1=>by
  obtain ⟨ih1,ih2⟩:=aL0 f;refine ⟨λlv r a r' h=>?_,λlv x r a r' K h hK=>?_⟩
  ·rw [QC] at h
   split at h
   ·obtain ⟨b,q,h1,h2⟩:=Rs.bind_ok h;exact ih2 _ _ _ _ _ _ h2 (ih1 _ _ _ _ h1)
   split at h
   ·rename_i e;obtain ⟨b,q,h1,h2⟩:=Rs.bind_ok h;have:=ih1 _ _ _ _ h1;have:=nJ e;injection h2 with e1 e2;subst e1;subst e2;unfold opE;rw [cQ0];omega
   split at h
   ·rename_i e;obtain ⟨b,q,h1,h2⟩:=Rs.bind_ok h;have:=ih1 _ _ _ _ h1;have:=nJ e;injection h2 with e1 e2;subst e1;subst e2;unfold opE;rw [cQ0];omega
   ·exact aK3 (λq b r2 e=>ih1 _ _ _ _ e) h
  ·rw [QB] at h
   split at h
   ·injection h with e1 e2;subst e1;subst e2;exact hK
   ·rename_i op e;obtain ⟨b,q,h1,h2⟩:=Rs.bind_ok h;have h3:=ih1 _ _ _ _ h1;have:=RK e;have h4:(opE op [x,b]).depth+q.length<=K:=by unfold opE;rw [dF2];omega
    split at h2
    ·injection h2 with e1 e2;subst e1;subst e2;exact h4
    ·exact ih2 _ _ _ _ _ _ h2 h4
theorem TI {lv:Nat} {r r':List Tk} (h:gX lv r=.ok a r'):a.depth+r'.length<=r.length:=(aL0 _).1 _ _ _ _ h
theorem bW0 {x:Ex} (hx:vl (gX 0) (sg0 t) x) (h:(sgZ (gX 0) t).e=0):x.depth<=20000:=by
 have h0:(sg0 t).e=0:=by
  by_cases k:(sg0 t).e=0
  ·exact k
  ·unfold sgZ at h;rw [yC k] at h;unfold Sg.cl at h
   split at h
   ·exact h
   ·unfold Sg.fail at h;rw [aA k] at h;exact h
 cases hg:gX 0 (sg0 t).r with
 | er r c =>
  have k:=aH8 (n:=t.length) (Cz.ex 0) hg h0;unfold sgZ Sg.cl at h
  split at h
  ·exact absurd h k
  ·unfold Sg.fail at h;rw [aA k] at h;exact absurd h k
 | ok a r =>
  have:=TI hg;rw [hx h0 a r hg]
  have hl:(sg0 t).r.length<=20000:=by
   unfold sg0
   split
   ·simp
   ·have:=CN t;show (sE t).length<=20000;omega
  omega
end Go.Proofs.YthhoebdlfjffkaaGreatDoor
namespace Go.Sx
open Go.RowKit Go.Par
inductive Ty where
 | int (k:IntKind)
 | bool
 | strg
 | seq (τ:Ty)
 | str (fs:List Ty)
 | arr (n:Nat) (τ:Ty)
mutual
def Ty.cells:Ty->Nat
 | .int _=>1
 | .bool=>1
 | .strg=>1
 | .seq _=>1
 | .str fs=>Ty.cellsL fs
 | .arr n τ=>n * Ty.cells τ
def Ty.cellsL:List Ty->Nat
 | []=>0
 | τ::r=>Ty.cells τ+Ty.cellsL r
end
mutual
def Ty.at (P:Program):Ty->TypeId->Bool
 | .int k,t=>match P.underlying t with | some (.int k')=>decide (k'=k) | _=>false
 | .bool,t=>match P.underlying t with | some .bool=>true | _=>false
 | .strg,t=>match P.underlying t with | some .string=>true | _=>false
 | .seq τ,t=>match P.underlying t with | some (.slice e)=>Ty.at P τ e && decide (P.cellsOf e=Ty.cells τ) && decide (0<Ty.cells τ) | _=>false
 | .str fs,t=>match P.underlying t with | some (.struct g)=>decide (P.cellsOf t=Ty.cellsL fs) && Ty.atL P fs g.toList 0 | _=>false
 | .arr n τ,t=>match P.underlying t with | some (.array m e)=>decide (m=n) && Ty.at P τ e && decide (P.cellsOf e=Ty.cells τ) && decide (P.cellsOf t=n * Ty.cells τ) | _=>false
def Ty.atL (P:Program):List Ty->List Field->Nat->Bool
 | [],[],_=>true
 | τ::r,f::g,o=>Ty.at P τ f.type && decide (f.offset=o) && decide (P.cellsOf f.type=Ty.cells τ) && Ty.atL P r g (o+Ty.cells τ)
 | _,_,_=>false
end
mutual
def Ty.has:Ty->D->Prop
 | .int k,d=>∃ n,d=.val (.int k n)/\(Lit.int k n).wf=true
 | .bool,d=>∃ b,d=.val (.bool b)
 | .strg,d=>∃ s:ByteArray,d=.any (.string s)
 | .seq τ,d=>∃ ds,d=.seq (Ty.cells τ) ds/\∀ x∈ds,Ty.has τ x
 | .str fs,d=>∃ ds,d=.str ds/\Ty.hasL fs ds
 | .arr _ _,_=>False
def Ty.hasL:List Ty->List D->Prop
 | [],ds=>ds=[]
 | τ::r,ds=>∃ d q,ds=d::q/\Ty.has τ d/\Ty.hasL r q
end
mutual
def Ty.opn:Ty->Bool
 | .int _=>true
 | .bool=>true
 | .strg=>true
 | .seq τ=>Ty.opn τ
 | .str fs=>Ty.opnL fs
 | .arr _ _=>false
def Ty.opnL:List Ty->Bool
 | []=>true
 | τ::r=>Ty.opn τ && Ty.opnL r
end
mutual
def Ty.pln:Ty->Bool
 | .int _=>true
 | .bool=>true
 | .strg=>true
 | .seq _=>false
 | .str fs=>Ty.plnL fs
 | .arr _ τ=>Ty.pln τ
def Ty.plnL:List Ty->Bool
 | []=>true
 | τ::r=>Ty.pln τ && Ty.plnL r
end
def WD (W:World):Hp:=λb=>W.heap[b]?
theorem cH3 (W:World):Agr (WD W) W:=λ_ _ h=>h
variable {W:World} {v:Value}
theorem TU {a:Addr} (h:W.cell? a=some v):∃ cs t m,W.heap[a.block]? = some (.cells cs t m)/\a.spot=Option.none/\cs[a.off]? = some v:=by
 unfold World.cell? at h
 split at h
 ·rename_i cs t m e
  split at h
  ·cases h
  ·rename_i hs;exact ⟨cs,t,m,e,by simpa using hs,h⟩
 ·cases h
theorem cR5 (a:Addr) (x y:Nat):(a.add x).add y=a.add (x+y):=by
 by_cases hx:x=0
 ·subst hx;simp [Addr.add]
 ·by_cases hy:y=0
  ·subst hy;simp [Addr.add]
  ·simp [Addr.add,hx,hy,iQ]
section
variable {H:Type} {enc:TypeId × Value->H} {P:Program} {base:Nat} {sp:Nat->Bool} {held:Bool}
mutual
theorem Ty.opens (W:World):∀ (τ:Ty) (t:TypeId) (fuel:Nat) (cs:List Value) (x:DataW H × List MemPlace),Ty.at P τ t=true->Ty.opn τ=true->DataW.trod enc P W base sp held fuel t cs=some x->∃ d,Ty.has τ d/\Rep (WD W) d cs
 | .int k,t,fuel,cs,x,ha,_,h=>by
  unfold Ty.at at ha
  split at ha
  ·rename_i k' hu;obtain rfl:k'=k:=by simpa using ha
   obtain ⟨n,rfl,_,hw⟩:=DataW.trod_int hu h;refine ⟨.val (.int k' n),?_,?_⟩
   ·unfold Ty.has;exact ⟨n,Z,hw⟩
   ·unfold Rep;exact ⟨Z,Z,Jt⟩
  ·cases ha
 | .bool,t,fuel,cs,x,ha,_,h=>by
  unfold Ty.at at ha
  split at ha
  ·rename_i hu;obtain ⟨b,rfl,_⟩:=DataW.trod_bool hu h;refine ⟨.val (.bool b),?_,?_⟩
   ·unfold Ty.has;exact ⟨b,Z⟩
   ·unfold Rep;exact ⟨Z,Z,Jt⟩
  ·cases ha
 | .strg,t,fuel,cs,x,ha,_,h=>by
  unfold Ty.at at ha
  split at ha
  ·rename_i hu;obtain ⟨s,rfl,_⟩:=DataW.trod_string hu h;refine ⟨.any (.string s),?_,?_⟩
   ·unfold Ty.has;exact ⟨s,Z⟩
   ·unfold Rep;exact ⟨Z,Z⟩
  ·cases ha
 | .arr _ _,_,_,_,_,_,ho,_=>by simp [Ty.opn] at ho
 | .str fs,t,fuel,cs,x,ha,ho,h=>by
  unfold Ty.at at ha
  split at ha
  ·rename_i g hu;simp only [aF,aB] at ha;unfold Ty.opn at ho;obtain ⟨xs,n,_,rfl,hl,hlen,hf⟩:=DataW.trod_struct hu h
   obtain ⟨ds,h1,h2⟩:=Ty.opensL W fs g.toList 0 n cs ha.2 ho (by rw [hl,ha.1];omega) (λi f hi=>by
    have hi2:g[i]? = some f:=by simpa using hi
    have:=hf i f hi2;have hlt:i<xs.length:=by rw [hlen];exact (Array.getElem?_eq_some_iff.1 hi2).1
    rw [List.getElem?_eq_getElem hlt] at this;exact ⟨_,this⟩)
   refine ⟨.str ds,?_,?_⟩
   ·unfold Ty.has;exact ⟨ds,Z,h1⟩
   ·unfold Rep;simpa using h2
  ·cases ha
 | .seq τ,t,fuel,cs,x,ha,ho,h=>by
  unfold Ty.at at ha
  split at ha
  ·rename_i e hu;simp only [aF,aB] at ha;obtain ⟨⟨ha,hz⟩,h0⟩:=ha;unfold Ty.opn at ho;rcases Go.Deep.open_slice hu h with ⟨rfl,-⟩ | ⟨a,len,cap,m,n,D,Pl,rfl,-,hl,hm,hmm,-,hi⟩
   ·refine ⟨.seq (Ty.cells τ) [],?_,.empty (by simp [maxLen])⟩;unfold Ty.has;exact ⟨[],Z,by simp⟩
   have hlm:len<=m:=by rw [hmm];split <;> omega
   have key:∀ q,q<=len->∃ ds l,ds.length=q/\(∀ x∈ds,Ty.has τ x)/\dA (WD W) (Ty.cells τ) ds l/\l.length=q * Ty.cells τ/\∀ (j:Nat) u,l[j]? = some u->W.cell? (a.add j)=some u:=by
    intro q;induction q with
    | zero=>intro _;exact ⟨[],[],Z,by simp,dA.nil,by simp,by simp⟩
    | succ q ih =>
     intro hq;obtain ⟨ds,l,h1,h2,h3,h4,h5⟩:=ih (by omega);obtain ⟨cs',hc,ht⟩:=hi q (by omega);rw [hz] at hc;obtain ⟨_,hcl,hat⟩:=World.cells?_some hc;obtain ⟨d,hd,hr⟩:=Ty.opens W τ e n cs' _ ha ho ht;refine ⟨ds++[d],l++cs',by simp [h1],?_,h3.snoc hr hcl,by rw [aD,h4,hcl,jT],?_⟩
     ·intro x hx;rcases gJ.1 hx with hx | hx
      ·exact h2 x hx
      ·rw [dQ.1 hx];exact hd
     ·intro j u hj
      by_cases hjl:j<l.length
      ·rw [List.getElem?_append_left hjl] at hj;exact h5 j u hj
      ·rw [List.getElem?_append_right (by omega)] at hj;have hjc:=(List.getElem?_eq_some_iff.1 hj).1;have:=hat (j - l.length) (by omega);rw [hj] at this;have h9:q * Ty.cells τ+(j - l.length)=j:=by omega
       have h10:(a.add (q * Ty.cells τ)).add (j - l.length)=a.add j:=by rw [cR5,h9]
       rw [<-h10];exact this
   obtain ⟨ds,l,h1,h2,h3,h4,h5⟩:=key len (aK _);refine ⟨.seq (Ty.cells τ) ds,?_,?_⟩
   ·unfold Ty.has;exact ⟨ds,Z,h2⟩
   by_cases hl0:len=0
   ·subst hl0;obtain rfl:=cQ h1;exact .empty hm
   ·have hlp:0<l.length:=by rw [h4];exact Nat.mul_pos (by omega) h0
    have hc0:=h5 0 _ (List.getElem?_eq_getElem hlp);rw [show a.add 0=a by simp [Addr.add]] at hc0;obtain ⟨arr,t',mk,hb,hs,_⟩:=TU hc0;obtain ⟨ab,ao,ap⟩:=a;simp only at hs hb;subst hs;refine .mk ⟨arr,t',mk,hb,λj u hu=>?_⟩ h3 h1 hl hm;have h6:=h5 j u hu;rw [Addr.add_lit] at h6;obtain ⟨arr',t'',mk',hb',_,h7⟩:=TU h6;have e2:=aW (hb.symm.trans hb');injection e2 with e3
    subst e3;exact h7
  ·cases ha
theorem Ty.opensL (W:World):∀ (fs:List Ty) (g:List Field) (o n:Nat) (cs:List Value),Ty.atL P fs g o=true->Ty.opnL fs=true->cs.length=o+Ty.cellsL fs ->
 (∀ (i:Nat) f,g[i]? = some f->∃ y,DataW.trod enc P W base sp held n f.type ((cs.drop f.offset).take (P.cellsOf f.type))=some y)->∃ ds,Ty.hasL fs ds/\wT (WD W) ds (cs.drop o)
 | [],[],o,n,cs,_,_,hl,_=>by
  refine ⟨[],by unfold Ty.hasL;rfl,?_⟩;unfold wT;exact iC (by simp only [Ty.cellsL] at hl;omega)
 | [],_::_,_,_,_,ha,_,_,_=>by simp [Ty.atL] at ha
 | _::_,[],_,_,_,ha,_,_,_=>by simp [Ty.atL] at ha
 | τ::r,f::g,o,n,cs,ha,ho,hl,hf=>by
  unfold Ty.atL at ha;unfold Ty.opnL at ho;simp only [aF,aB] at ha ho;obtain ⟨⟨⟨a1,a2⟩,a3⟩,a4⟩:=ha;obtain ⟨y,hy⟩:=hf 0 f rfl;rw [a2,a3] at hy;obtain ⟨d,h1,h2⟩:=Ty.opens W τ f.type n _ y a1 ho.1 hy;unfold Ty.cellsL at hl;obtain ⟨ds,h3,h4⟩:=Ty.opensL W r g (o+Ty.cells τ) n cs a4 ho.2 (by omega) (λi f' hi=>hf (i+1) f' (by simpa using hi));refine ⟨d::ds,by unfold Ty.hasL;exact ⟨d,ds,Z,h1,h3⟩,?_⟩;unfold wT;exact ⟨_,_,by rw [<-gO,eT],h2,h4⟩
end
mutual
def QI:DataW H->List Value
 | .lit (.int k n)=>[.int k n]
 | .lit (.bool b)=>[.bool b]
 | .lit (.string l)=>[.string ⟨l.toArray⟩]
 | .agg ps=>HK ps
 | _=>[]
def HK:List (DataW H)->List Value
 | []=>[]
 | d::r=>QI d++HK r
end
mutual
theorem Ty.flat (W:World):∀ (τ:Ty) (t:TypeId) (fuel:Nat) (cs:List Value) (x:DataW H × List MemPlace),Ty.at P τ t=true->Ty.pln τ=true->DataW.trod enc P W base sp held fuel t cs=some x->cs=QI x.1
 | .int k,t,fuel,cs,x,ha,_,h=>by
  unfold Ty.at at ha
  split at ha
  ·rename_i k' hu;obtain ⟨n,rfl,rfl,hw⟩:=DataW.trod_int hu h;simp only [QI]
  ·cases ha
 | .bool,t,fuel,cs,x,ha,_,h=>by
  unfold Ty.at at ha
  split at ha
  ·rename_i hu;obtain ⟨b,rfl,rfl⟩:=DataW.trod_bool hu h;simp only [QI]
  ·cases ha
 | .strg,t,fuel,cs,x,ha,_,h=>by
  unfold Ty.at at ha
  split at ha
  ·rename_i hu;obtain ⟨s,rfl,rfl,_⟩:=DataW.trod_string hu h;simp only [QI]
  ·cases ha
 | .seq _,_,_,_,_,_,ho,_=>by simp [Ty.pln] at ho
 | .str fs,t,fuel,cs,x,ha,ho,h=>by
  unfold Ty.at at ha
  split at ha
  ·rename_i g hu;simp only [aF,aB] at ha;unfold Ty.pln at ho;obtain ⟨xs,n,_,rfl,hl,hlen,hf⟩:=DataW.trod_struct hu h;have h2:=Ty.flatL W fs g.toList 0 n cs xs ha.2 ho (by rw [hl,ha.1];omega) (by simpa using hlen) (λi f hi=>hf i f (by simpa using hi));simpa [QI] using h2
  ·cases ha
 | .arr k τ,t,fuel,cs,x,ha,ho,h=>by
  unfold Ty.at at ha
  split at ha
  ·rename_i m e hu;simp only [aF,aB] at ha;obtain ⟨⟨⟨hm,ha⟩,hz⟩,hct⟩:=ha;subst hm;unfold Ty.pln at ho;obtain ⟨xs,n,_,rfl,hl,hlen,hf⟩:=DataW.trod_array hu h
   have key:∀ (xs:List (DataW H × List MemPlace)) (cs:List Value),cs.length=xs.length * Ty.cells τ->(∀ i,i<xs.length->DataW.trod enc P W base sp held n e ((cs.drop (i * Ty.cells τ)).take (Ty.cells τ))=xs[i]?)->cs=HK (xs.map (·.1)):=by
    intro xs;induction xs with
    | nil=>intro cs hc _;simp at hc;simp [hc,HK]
    | cons y r ih =>
     intro cs hc hi;have h0:=hi 0 (by simp);simp only [tT,uT,List.getElem?_cons_zero] at h0;have e0:=Ty.flat W τ e n _ y ha ho h0
     have e1:=ih (cs.drop (Ty.cells τ)) (by rw [dK,hc,aH,jT];omega) (λi hlt=>by
      have:=hi (i+1) (by simp;omega);rw [List.getElem?_cons_succ] at this;rw [<-this,gO,show Ty.cells τ+i * Ty.cells τ=(i+1) * Ty.cells τ by rw [jT];omega])
     simp only [dT,HK];rw [<-e0,<-e1,eT]
   have h2:=key xs cs (by rw [hl,hct,hlen]) (λi hlt=>by
    have:=hf i (by omega);rw [hz] at this;exact this)
   simpa [QI] using h2
  ·cases ha
theorem Ty.flatL (W:World):∀ (fs:List Ty) (g:List Field) (o n:Nat) (cs:List Value) (xs:List (DataW H × List MemPlace)),Ty.atL P fs g o=true->Ty.plnL fs=true->cs.length=o+Ty.cellsL fs->xs.length=g.length ->
 (∀ (i:Nat) f,g[i]? = some f->DataW.trod enc P W base sp held n f.type ((cs.drop f.offset).take (P.cellsOf f.type))=xs[i]?)->cs.drop o=HK (xs.map (·.1))
 | [],[],o,n,cs,xs,_,_,hl,hx,_=>by
  obtain rfl:=cQ hx;simp only [jD,HK];exact iC (by simp only [Ty.cellsL] at hl;omega)
 | [],_::_,_,_,_,_,ha,_,_,_,_=>by simp [Ty.atL] at ha
 | _::_,[],_,_,_,_,ha,_,_,_,_=>by simp [Ty.atL] at ha
 | τ::r,f::g,o,n,cs,[],ha,ho,hl,hx,hf=>by simp at hx
 | τ::r,f::g,o,n,cs,y::xs,ha,ho,hl,hx,hf=>by
  unfold Ty.atL at ha;unfold Ty.plnL at ho;simp only [aF,aB] at ha ho;obtain ⟨⟨⟨a1,a2⟩,a3⟩,a4⟩:=ha;have hy:=hf 0 f rfl;rw [a2,a3,List.getElem?_cons_zero] at hy;have e0:=Ty.flat W τ f.type n _ y a1 ho.1 hy;unfold Ty.cellsL at hl
  have e1:=Ty.flatL W r g (o+Ty.cells τ) n cs xs a4 ho.2 (by omega) (by simpa using hx) (λi f' hi=>by
   have:=hf (i+1) f' (by simpa using hi);rw [List.getElem?_cons_succ] at this;exact this)
  simp only [dT,HK];rw [<-e0,<-e1,<-gO,eT]
end
end
theorem MP {P:Program} {name:String} {dat:DataW Unit} {rest:List (String × DataW Unit)} {g:Nat} {t:TypeId} (τ:Ty) (cs:List Value)
 (hg:P.globalNamed name=some g) (hty:(P.globals[g]?).map (·.type)=some t) (ha:Ty.at P τ t=true) (hp:Ty.pln τ=true) (hc:QI dat=cs) (h:laidMet P ((name,dat)::rest) W):lB (WD W) g 0 cs:=by
 obtain ⟨ps,⟨g',t',cs',fuel,p,q,hg',ht',hvar,hd,_,_⟩,_⟩:=h;obtain rfl:=aW (hg.symm.trans hg');obtain rfl:=aW (hty.symm.trans ht');have e:=Ty.flat W τ t fuel cs'.toList _ ha hp hd;dsimp only at e;rw [hc] at e;unfold World.var? at hvar;rw [hg] at hvar;simp only [kJ] at hvar
 split at hvar
 ·rename_i arr T m hb;refine ⟨arr,T,m,hb,λj u hu=>?_⟩;obtain rfl:=aW hvar;rw [fV];rw [<-e] at hu;simpa using hu
 ·cases hvar
theorem bG2 {α β:Type} {f:α->β}:∀ {ds:List β},(∀ x∈ds,∃ y,x=f y)->∃ l:List α,ds=l.map f
 | [],_=>⟨[],Z⟩
 | d::r,h=>by
  obtain ⟨y,rfl⟩:=h d Hm;obtain ⟨l,rfl⟩:=bG2 (ds:=r) λx hx=>h x (.tail _ hx);exact ⟨y::l,Z⟩
theorem cD5 {n:Int} (h:(Lit.int .u8 n).wf=true):∃ x:UInt8,n=x.toNat:=by
 have e1:IntKind.u8.min=0:=rfl;have e2:IntKind.u8.max=255:=rfl;simp only [Lit.wf,e1,e2,aF,aB] at h;exact ⟨UInt8.ofNat n.toNat,by simp [uM];omega⟩
end Go.Sx
/- Drawn regions with several heavy operations that do not wait for one another: the light ones are decided as early as they can, the heavy ones in every order. -/
namespace Go.Sx
open Go.RowKit Go.Par
inductive Pi0 where
 | done
 | no
 | light (i:Nat) (r:Pi0)
 | alt (i k:Nat) (r q:Pi0)
inductive PlT where
 | done
 | no
 | light (i:Nat) (o:Oper) (r:PlT)
 | alt (i k:Nat) (o:Oper) (r q:PlT)
def BO (l:List Oper):Pi0->PlT
 | .done=>.done
 | .no=>.no
 | .light i r=>.light i l[i]! (BO l r)
 | .alt i k r q=>.alt i k l[i]! (BO l r) (BO l q)
def okT (ops:Array Oper) (n:Nat):List Nat->List Nat->Pi0->Bool
 | D,A,.done=>A.isEmpty && (List.range n).all λj=>D.contains j
 | D,A,.no=>!A.isEmpty && (List.range n).all λj=>D.contains j || A.contains j || A.any λi=>pU ops n j i
 | D,A,.light i r=>A.isEmpty && decide (i<n) && !D.contains i && ((List.range n).all λj=>!Region.waitsFor .any ops i j || D.contains j) && okT ops n (i::D) [] r
 | D,A,.alt i k r q=>decide (i<n) && !D.contains i && ((List.range n).all λj=>!Region.waitsFor .any ops i j || D.contains j) && (!(k == 1) || D.all λj=>pU ops n i j) && okT ops n (i::D) [] r && okT ops n D (i::A) q
section
variable {dfs:List Deferred} {P:Program} {ops:Array Oper} {w0:World} {n N:Nat}
def iU (dfs:List Deferred) (P:Program) (ops:Array Oper) (n:Nat) (w0:World) (N:Nat) (E:Sl->Hp->List Res->Prop):PlT->List (Nat × Oper × Value)->Sl->Hp->List Res->Prop
 | .done,_,L,H,bs=>E L H bs
 | .no,_,_,_,_=>True
 | .light i o r,pa,L,H,bs=>∃ v,(∀ a W,Fr dfs N L a->St H w0 bs W->Yq P ops o v a W)/\(∀ t,o.dst=some t->t<N)/\iU dfs P ops n w0 N E r ((i,o,v)::pa) (putL o.dst v L) H bs
 | .alt i k o r q,pa,L,H,bs=>((∀ t,o.dst=some t->t<N)/\At dfs N L H w0 bs (one P ops (λ_ _ _=>False) o λa' W'=>∃ v H' bs',Fr dfs N (putL o.dst v L) a'/\St H' w0 bs' W'/\(k=1\/(∀ W,St H' w0 bs' W->St H w0 bs W)\/kH dfs P ops n w0 N L H' bs' i pa)/\iU dfs P ops n w0 N E r pa (putL o.dst v L) H' bs'))/\iU dfs P ops n w0 N E q pa L H bs
structure GT (dfs:List Deferred) (P:Program) (ops:Array Oper) (l:List Oper) (w0:World) (n N:Nat) (a0:Act) (E:Sl->Hp->List Res->Prop) (listed:Array Bool) (a:Act) (W:World) (val:Nat->Value) (dec:Nat->Bool) (D:List Nat) (L:Sl) (H:Hp) (bs:List Res) (pa:List (Nat × Oper × Value)):Prop where
 head:HeadInv .any ops n listed
 frame:a=frm ops val (st listed) n a0
 full:Fr dfs N L (frm ops val dec n a0)
 sub:∀ i,i<n->st listed i=true->dec i=true
 world:St H w0 bs W
 light:∀ i o,i<n->ops[i]? = some o->dec i=true->st listed i=false->∀ W,St H w0 bs W->Yq P ops o (val i) (frm ops val dec n a0) W
 past:∀ i o,i<n->ops[i]? = some o->dec i=true->st listed i=false->(i,o,val i)∈pa
 set:∀ j,dec j=D.contains j
 deps:∀ i j,i<n->j<n->dec i=true->Region.waitsFor .any ops i j=true->dec j=true
variable {l:List Oper} {a0:Act} {E:Sl->Hp->List Res->Prop} {Q:Exit->Act->World->Prop} {listed:Array Bool} {a:Act} {W:World} {val:Nat->Value} {dec:Nat->Bool} {D A:List Nat} {L:Sl} {H:Hp} {bs:List Res} {pa:List (Nat × Oper × Value)}
theorem RE {i:Nat} (h:∀ j,dec j=D.contains j):∀ j,upd dec i true j=(i::D).contains j:=λj=>by
 by_cases e:j=i
 ·subst e;rw [jL];simp
 ·rw [fO _ _ e,h j,List.contains_cons];have:(j == i)=false:=by simpa using e
  rw [this];simp
theorem LZ {i:Nat} (h:((List.range n).all λj=>!Region.waitsFor .any ops i j || D.contains j)=true) {j:Nat} (hj:j<n) (hw:Region.waitsFor .any ops i j=true):D.contains j=true:=by
 have:=aP.1 h j (bQ.2 hj);rw [hw] at this;simpa using this
theorem GT.decide (F:Fit ops n []) {i:Nat} {o:Oper} (I:GT dfs P ops l w0 n N a0 E listed a W val dec D L H bs pa) (hi:i<n) (ho:ops[i]? = some o) (hiD:D.contains i=false) (hwt:((List.range n).all λj=>!Region.waitsFor .any ops i j || D.contains j)=true)
 {v:Value} (hy:∀ a W,Fr dfs N L a->St H w0 bs W->Yq P ops o v a W) (hN:∀ t,o.dst=some t->t<N) :
 GT dfs P ops l w0 n N a0 E listed a W (upd val i v) (upd dec i true) (i::D) (putL o.dst v L) H bs ((i,o,v)::pa):=by
 have hdi:dec i=false:=(I.set i).trans hiD;have hdeps:∀ j,j<n->Region.waitsFor .any ops i j=true->dec j=true:=λj hj hw=>(I.set j).trans (LZ hwt hj hw)
 have hii:∀ j,j<n->Region.waitsFor .any ops i j=true->j≠i:=λj hj hw e=>by
  have:=hdeps j hj hw;rw [e,hdi] at this;cases this
 have hli:st listed i=false:=by
  cases h:st listed i with
  | false=>rfl
  | true=>have:=I.sub i hi h;rw [hdi] at this;cases this
 have hput:=RV (a0:=a0) (val:=val) (v:=v) F hi ho hdi;refine ⟨I.head,?_,?_,?_,I.world,?_,?_,RE I.set,?_⟩
 ·rw [I.frame];refine kQ _ _ _ _ a0 n λk _=>⟨Z,λhk=>(fO _ _ λe=>?_).symm⟩;subst e;rw [hli] at hk;cases hk
 ·rw [hput];exact I.full.putL v hN
 ·intro j hj hs
  by_cases e:j=i
  ·subst e;exact jL _ _ _
  ·rw [fO _ _ e];exact I.sub j hj hs
 ·intro j oj hj hoj hd hs W hW
  by_cases e:j=i
  ·subst e;obtain rfl:oj=o:=aW (hoj.symm.trans ho);rw [jL];refine Yq.same (λcs b=>F.sel j oj cs b ho) (λt ht=>?_) (hy _ W I.full hW);refine vT F hj ho (λk hk hw=>?_) t ht;have hkd:=hdeps k hk hw;have hki:=hii k hk hw;exact ⟨by rw [fO _ _ hki];exact hkd,hkd,fO _ _ hki⟩
  ·rw [fO _ _ e] at hd|-;refine Yq.same (λcs b=>F.sel j oj cs b hoj) (λt ht=>?_) (I.light j oj hj hoj hd hs W hW);refine vT F hj hoj (λk hk hw=>?_) t ht;have hkd:=I.deps j k hj hk hd hw;have hki:k≠i:=λe=>by subst e;rw [hdi] at hkd;cases hkd
   exact ⟨by rw [fO _ _ hki];exact hkd,hkd,fO _ _ hki⟩
 ·intro j oj hj hoj hd hs
  by_cases e:j=i
  ·subst e;obtain rfl:oj=o:=aW (hoj.symm.trans ho);rw [jL];exact .head _
  ·rw [fO _ _ e] at hd|-;exact .tail _ (I.past j oj hj hoj hd hs)
 ·intro j k hj hk hd hw
  by_cases e:j=i
  ·subst e;rw [fO _ _ (hii k hk hw)];exact hdeps k hk hw
  ·rw [fO _ _ e] at hd;have:=I.deps j k hj hk hd hw
   by_cases e2:k=i
   ·subst e2;exact jL _ _ _
   ·rw [fO _ _ e2];exact this
theorem GT.step (F:Fit ops n []) {i:Nat} {o:Oper} {W':World} (I:GT dfs P ops l w0 n N a0 E listed a W val dec D L H bs pa) (hi:i<n) (ho:ops[i]? = some o) (hr:i∈Region.ready .any ops listed) (hd:dec i=true) (hx:Ext W W') :
 GT dfs P ops l w0 n N a0 E (listed.setIfInBounds i true) (a.put o.dst (val i)) W' val dec D L H bs pa:=by
 have hun:st listed i=false:=(mem_ready.1 hr).1;have e1:kE ops i=o.dst:=by simp [kE,ho]
 refine ⟨I.head.set hr hi,?_,I.full,?_,I.world.more hx,?_,?_,I.set,I.deps⟩
 ·rw [I.frame,tP val (st listed) (st (listed.setIfInBounds i true)) a0 i fY hun (λk hk=>jJ hk) n hi F.apart,e1]
 ·intro j hj hs
  by_cases e:j=i
  ·subst e;exact hd
  ·rw [jJ e] at hs;exact I.sub j hj hs
 ·intro j oj hj hoj hdj hs;have e:j≠i:=λe=>by subst e;rw [fY] at hs;cases hs
  rw [jJ e] at hs;exact I.light j oj hj hoj hdj hs
 ·intro j oj hj hoj hdj hs;have e:j≠i:=λe=>by subst e;rw [fY] at hs;cases hs
  rw [jJ e] at hs;exact I.past j oj hj hoj hdj hs
theorem GT.heavy (F:Fit ops n []) {i k:Nat} {o:Oper} {v:Value} {W':World} {H':Hp} {bs':List Res} (I:GT dfs P ops l w0 n N a0 E listed a W val dec D L H bs pa) (hi:i<n) (ho:ops[i]? = some o) (hiD:D.contains i=false) (hwt:((List.range n).all λj=>!Region.waitsFor .any ops i j || D.contains j)=true) (hk1:(!(k == 1) || D.all λj=>pU ops n i j)=true) (hN:∀ t,o.dst=some t->t<N) (hr:i∈Region.ready .any ops listed)
 (hs:St H' w0 bs' W') (hws:k=1\/(∀ W,St H' w0 bs' W->St H w0 bs W)\/kH dfs P ops n w0 N L H' bs' i pa) :
 GT dfs P ops l w0 n N a0 E (listed.setIfInBounds i true) (a.put o.dst v) W' (upd val i v) (upd dec i true) (i::D) (putL o.dst v L) H' bs' pa:=by
 have hdi:dec i=false:=(I.set i).trans hiD;have hdeps:∀ j,j<n->Region.waitsFor .any ops i j=true->dec j=true:=λj hj hw=>(I.set j).trans (LZ hwt hj hw)
 have hii:∀ j,j<n->Region.waitsFor .any ops i j=true->j≠i:=λj hj hw e=>by
  have:=hdeps j hj hw;rw [e,hdi] at this;cases this
 have hun:st listed i=false:=(mem_ready.1 hr).1;have e1:kE ops i=o.dst:=by simp [kE,ho]
 have hput:=RV (a0:=a0) (val:=val) (v:=v) F hi ho hdi;refine ⟨I.head.set hr hi,?_,?_,?_,hs,?_,?_,RE I.set,?_⟩
 ·rw [I.frame,tP (upd val i v) (st listed) (st (listed.setIfInBounds i true)) a0 i fY hun (λk hk=>jJ hk) n hi F.apart,e1,jL]
  congr 1
  refine kQ _ _ _ _ a0 n λk _=>⟨Z,λhk=>(fO _ _ λe=>?_).symm⟩;subst e;rw [hun] at hk;cases hk
 ·rw [hput];exact I.full.putL v hN
 ·intro j hj hs
  by_cases e:j=i
  ·subst e;exact jL _ _ _
  ·rw [fO _ _ e];rw [jJ e] at hs;exact I.sub j hj hs
 ·intro j oj hj hoj hd hs W hW;have e:j≠i:=λe=>by subst e;rw [fY] at hs;cases hs
  rw [jJ e] at hs;rw [fO _ _ e] at hd|-
  have hdone:pU ops n i j=true->False:=λh1=>by
   obtain ⟨_,oi,hoi,hall⟩:=mem_ready.1 hr
   have h2:=sY I.head n i j h1 (λok hok x hx hb=>by
    obtain rfl:ok=oi:=aW (hok.symm.trans hoi);exact hall x hx hb)
   rw [getD_both hs] at h2;cases h2
  have hy:Yq P ops oj (val j) (frm ops val dec n a0) W:=by
   rcases hws with hk | hw | hw
   ·subst hk;have hjD:j∈D:=by have:=(I.set j).symm.trans hd;simpa using this
    simp only [beq_self_eq_true,zZ,sT] at hk1;exact (hdone (aP.1 hk1 j hjD)).elim
   ·exact I.light j oj hj hoj hd hs W (hw W hW)
   ·rcases hw.at (I.past j oj hj hoj hd hs) with h1 | h1
    ·exact (hdone h1).elim
    ·exact h1 _ W I.full hW
  refine Yq.same (λcs b=>F.sel j oj cs b hoj) (λt ht=>?_) hy;refine vT F hj hoj (λk hk hw=>?_) t ht;have hkd:=I.deps j k hj hk hd hw;have hki:k≠i:=λe=>by subst e;rw [hdi] at hkd;cases hkd
  exact ⟨by rw [fO _ _ hki];exact hkd,hkd,fO _ _ hki⟩
 ·intro j oj hj hoj hd hs;have e:j≠i:=λe=>by subst e;rw [fY] at hs;cases hs
  rw [jJ e] at hs;rw [fO _ _ e] at hd|-;exact I.past j oj hj hoj hd hs
 ·intro j k hj hk hd hw
  by_cases e:j=i
  ·subst e;rw [fO _ _ (hii k hk hw)];exact hdeps k hk hw
  ·rw [fO _ _ e] at hd;have:=I.deps j k hj hk hd hw
   by_cases e2:k=i
   ·subst e2;exact jL _ _ _
   ·rw [fO _ _ e2];exact this
theorem TT (hl:ops=l.toArray) {j:Nat} (hj:j<n) (hjD:D.contains j=false) (hnr:∀ i,D.contains i=false->i<n->pU ops n j i=false) :
 ∀ (q:Pi0) (A:List Nat),(q=.no\/∃ i k r q',q=.alt i k r q')->okT ops n D A q=true->(∀ i∈A,D.contains i=false/\i<n/\i≠j)->iU dfs P ops n w0 N E (BO l q) pa L H bs ->
  ∃ k r,((List.range n).all λx=>!Region.waitsFor .any ops j x || D.contains x)=true/\(!(k == 1) || D.all λx=>pU ops n j x)=true/\okT ops n (j::D) [] r=true/\(∀ t,(l[j]!).dst=some t->t<N) /\
   At dfs N L H w0 bs (one P ops (λ_ _ _=>False) l[j]! λa' W'=>∃ v H' bs',Fr dfs N (putL (l[j]!).dst v L) a'/\St H' w0 bs' W'/\(k=1\/(∀ W,St H' w0 bs' W->St H w0 bs W)\/kH dfs P ops n w0 N L H' bs' j pa)/\iU dfs P ops n w0 N E (BO l r) pa (putL (l[j]!).dst v L) H' bs'):=by
 intro q;induction q with
 | done=>rintro A (h | ⟨_,_,_,_,h⟩) <;> cases h
 | light i r=>rintro A (h | ⟨_,_,_,_,h⟩) <;> cases h
 | no =>
  intro A _ hok hA _
  exfalso
  simp only [okT,aF] at hok;have:=aP.1 hok.2 j (bQ.2 hj);simp only [cO] at this;rcases this with (h | h) | h
  ·rw [hjD] at h;cases h
  ·exact (hA j (by simpa using h)).2.2 rfl
  ·obtain ⟨i,hi,hre⟩:=pI.1 h;rw [hnr i (hA i hi).1 (hA i hi).2.1] at hre;cases hre
 | alt i k r q' ihr ihq =>
  intro A _ hok hA hF;simp only [okT,aF,aB,dY] at hok;obtain ⟨⟨⟨⟨⟨h1,h2⟩,h3⟩,h4⟩,h5⟩,h6⟩:=hok;unfold BO iU at hF
  by_cases e:i=j
  ·subst e;exact ⟨k,r,h3,h4,h5,hF.1.1,hF.1.2⟩
  ·have hq:q'=.no\/∃ i k r q'',q'=.alt i k r q'':=by
    cases q' with
    | done=>simp [okT] at h6
    | light i r=>simp [okT] at h6
    | no=>exact .inl rfl
    | alt i k r q=>exact .inr ⟨_,_,_,_,Z⟩
   refine ihq (i::A) hq h6 (λx hx=>?_) hF.2;rcases bJ.1 hx with rfl | hx
   ·exact ⟨h2,h1,e⟩
   ·exact hA x hx
theorem aW6 (hl:ops=l.toArray) (F:Fit ops n []) (hend:∀ L H bs,E L H bs->At dfs N L H w0 bs (wpList P ops Q (ops.toList.drop n))) :
 ∀ (m:Nat) (p:Pi0) (listed:Array Bool) (a:Act) (W:World) (val:Nat->Value) (dec:Nat->Bool) (D:List Nat) (L:Sl) (H:Hp) (bs:List Res) (pa:List (Nat × Oper × Value)),cnt (st listed) n=m->okT ops n D [] p=true ->
  iU dfs P ops n w0 N E (BO l p) pa L H bs->GT dfs P ops l w0 n N a0 E listed a W val dec D L H bs pa->wpAny P .any ops Q (m+(ops.size - n)) listed a W:=by
 have hop:∀ i,i<n->ops[i]? = some l[i]! := λi hi=>by
  have h1:i<ops.size:=by have:=F.lt;omega
  subst hl;have h2:i<l.length:=by simpa using h1
  simp [h2]
 intro m;induction m with
 | zero =>
  intro p;induction p with
  | done =>
   intro listed a W val dec D L H bs pa hm hok hF I;have hall:=vE _ n hm
   have hcan:listed=((List.range ops.size).map λk=>Decidable.decide (k<n)).toArray:=by
    apply zA
    ·simp [I.head.size]
    ·intro k h1 h2;have hk:k<ops.size:=by rw [<-I.head.size];exact h1
     simp only [sQ,wP,uO]
     by_cases hkn:k<n
     ·have:=hall k hkn;simp [st,h1] at this;simp [this,hkn]
     ·have:=I.head.tail k (by omega) hk;simp [h1] at this;simp [this,hkn]
   rw [fV];have hlen:(ops.toList.drop n).length=ops.size - n:=by simp
   rw [<-hlen];refine wpAny_of_seq (ops.toList.drop n) n listed a W (λj=>by simp [List.getElem?_drop]) (by rw [hlen,hcan];exact F.seq) ?_
   have hfr:a=frm ops val dec n a0:=by
    rw [I.frame];exact kQ _ _ _ _ a0 n (λk hk=>⟨by rw [hall k hk,I.sub k hk (hall k hk)],λ_=>rfl⟩)
   rw [hfr];exact hend L H bs hF _ W I.full I.world
  | no =>
   intro listed a W val dec D L H bs pa hm hok hF I;simp [okT] at hok
  | light i r ih =>
   intro listed a W val dec D L H bs pa hm hok hF I;have hall:=vE _ n hm;simp only [okT,aF,aB,dY] at hok;have:=I.sub i hok.1.1.1.2 (hall i hok.1.1.1.2);rw [I.set i,hok.1.1.2] at this;cases this
  | alt i k r q ih1 ih2 =>
   intro listed a W val dec D L H bs pa hm hok hF I;have hall:=vE _ n hm;simp only [okT,aF,aB,dY] at hok;have:=I.sub i hok.1.1.1.1.1 (hall i hok.1.1.1.1.1);rw [I.set i,hok.1.1.1.1.2] at this;cases this
 | succ m ih =>
  have one_step:∀ (p:Pi0) (listed:Array Bool) (a:Act) (W:World) (val:Nat->Value) (dec:Nat->Bool) (D:List Nat) (L:Sl) (H:Hp) (bs:List Res) (pa:List (Nat × Oper × Value)),cnt (st listed) n=m+1->okT ops n D [] p=true ->
   iU dfs P ops n w0 N E (BO l p) pa L H bs->GT dfs P ops l w0 n N a0 E listed a W val dec D L H bs pa->(p=.done\/p=.no\/∃ i k r q,p=.alt i k r q)->wpAny P .any ops Q (m+1+(ops.size - n)) listed a W:=by
   intro p listed a W val dec D L H bs pa hm hok hF I hp;obtain ⟨k0,hk0,hun0,hbelow⟩:=IV (st listed) n (by omega);have hk0s:k0<ops.size:=by have:=F.lt;omega
   have hready0:k0∈Region.ready .any ops listed:=by
    refine mem_ready.2 ⟨hun0,ops[k0],Array.getElem?_eq_getElem hk0s,λe he hb=>?_⟩;have hlt:=F.back k0 _ (Array.getElem?_eq_getElem hk0s) e he hb;have:=hbelow e.on hlt;have hsz:e.on<listed.size:=by rw [I.head.size];omega
    simpa [st,hsz] using this
   rw [show m+1+(ops.size - n)=(m+(ops.size - n))+1 by omega];refine ⟨λh0=>(by rw [h0] at hready0;cases hready0),λj hj=>?_⟩
   have hjn:j<n:=by
    rcases jU j n with h | h
    ·exact h
    ·exact absurd hj (DK F.sink F.chain I.head _ k0 rfl hk0 rfl hun0 j h)
   obtain ⟨hun,oj,hoj,hall⟩:=mem_ready.1 hj
   have hcnt:cnt (st (listed.setIfInBounds j true)) n=m:=by
    have:=CS (st listed) (st (listed.setIfInBounds j true)) j fY hun (λk hk=>jJ hk) n hjn;omega
   have hS:∀ k,k<n->Region.waitsFor .any ops j k=true->st listed k=true:=by
    intro k hk hw;obtain ⟨oi,hoi,e,he,hb,hon⟩:=Region.waitsFor_spec hw;obtain rfl:oi=oj:=aW (hoi.symm.trans hoj);have h1:=hall e he hb;rw [hon] at h1;have hsz:k<listed.size:=by rw [I.head.size];have:=F.lt;omega
    simp [hsz] at h1;simp [st,hsz,h1]
   have hev:∀ t∈oj.looksAt ops,a.eval (.tmp t)=(frm ops val dec n a0).eval (.tmp t):=λt ht=>by
    rw [I.frame];exact vT F hjn hoj (λk hk hw=>⟨hS k hk hw,I.sub k hk (hS k hk hw),Z⟩) t ht
   cases hd:dec j with
   | true =>
    have hy:Yq P ops oj (val j) a W:=Yq.same (λcs b=>F.sel j oj cs b hoj) hev (I.light j oj hjn hoj hd hun W I.world);exact hy.wpOp hoj λW' hx=>ih p _ _ _ _ _ _ _ _ _ _ hcnt hok hF (I.step F hjn hoj hj hd hx)
   | false =>
    have hjD:D.contains j=false:=(I.set j).symm.trans hd
    have hch:p=.no\/∃ i k r q',p=.alt i k r q':=by
     rcases hp with rfl | rfl | h
     ·exfalso
      simp only [okT,aF] at hok;have:=aP.1 hok.2 j (bQ.2 hjn);rw [hjD] at this;cases this
     ·exact .inl Z
     ·exact .inr h
    obtain ⟨k,r,h1,h2,h3,h4,h5⟩:=TT hl hjn hjD (λi hi hin=>by
     cases hre:pU ops n j i with
     | false=>rfl
     | true =>
      have h2:=sY I.head n j i hre (λok hok e he hb=>by
       obtain rfl:ok=oj:=aW (hok.symm.trans hoj);exact hall e he hb)
      have h3:st listed i=false:=by
       cases h:st listed i with
       | false=>rfl
       | true=>have:=I.sub i hin h;rw [I.set i,hi] at this;cases this
      rw [getD_both h3] at h2;cases h2) p [] hch hok (λi hi=>by cases hi) hF
    have hoj2:=hop j hjn;obtain rfl:oj=l[j]! := aW (hoj.symm.trans hoj2);refine ST hoj (λcs b=>F.sel j _ cs b hoj) hev (λb W' ⟨v,H',bs',hf,_⟩=>hf.defers) I.full.defers ?_ (h5 _ W I.full I.world);rintro v W' ⟨v',H',bs',hf,hs,hw,hp'⟩
    have hvv:putL (l[j]!).dst v' L=putL (l[j]!).dst v L:=by
     cases hdst:(l[j]!).dst with
     | none=>rfl
     | some t =>
      rw [hdst] at hf;have h1:=hf.slot t v' (by unfold putL look;rw [oX,pT]);have h2:t<N:=h4 t hdst;have h3:=(I.full.put (by simpa [rT] using h2) v).slot t v (by unfold look;rw [oX,pT]);rw [h3] at h1;rw [h1]
    rw [hvv] at hp';exact ih r _ _ _ _ _ _ _ _ _ _ hcnt h3 hp' (I.heavy F hjn hoj hjD h1 h2 h4 hj hs hw)
  intro p;induction p with
  | done=>exact λlisted a W val dec D L H bs pa hm hok hF I=>one_step _ listed a W val dec D L H bs pa hm hok hF I (.inl Z)
  | no=>exact λlisted a W val dec D L H bs pa hm hok hF I=>one_step _ listed a W val dec D L H bs pa hm hok hF I (.inr (.inl Z))
  | alt i k r q _ _=>exact λlisted a W val dec D L H bs pa hm hok hF I=>one_step _ listed a W val dec D L H bs pa hm hok hF I (.inr (.inr ⟨_,_,_,_,Z⟩))
  | light i r ihr =>
   intro listed a W val dec D L H bs pa hm hok hF I;simp only [okT,aF,aB,dY] at hok;obtain ⟨⟨⟨⟨_,hi⟩,hiD⟩,hwt⟩,hok'⟩:=hok;unfold BO iU at hF;obtain ⟨v,hy,hN,hF'⟩:=hF;exact ihr listed a W _ _ _ _ H bs _ hm hok' hF' (I.decide F hi (hop i hi) hiD hwt hy hN)
theorem dD6 {id:Nat} {l:List Oper} {p:PlT} {Q:Exit->Act->World->Prop} {L:Sl} {H:Hp} {bs:List Res} (n:Nat) (p0:Pi0) (hm:P.follows .mixedOrders=true) (hB:(aV7 l.toArray n [] && okT l.toArray n [] [] p0)=true) (ht:BO l p0=p)
 (h:iU dfs P l.toArray n w0 N (λL H bs=>At dfs N L H w0 bs (wpList P l.toArray Q (l.drop n))) p [] L H bs):At dfs N L H w0 bs ((Code.region id l.toArray true).wp P Q):=by
 simp only [aF] at hB;obtain ⟨h1,h2⟩:=hB;have F:=Fit.of h1;have hlt:n<l.length:=by simpa using F.lt
 subst ht;intro a W f s;refine wp_region_any hm ?_;have hsz:l.toArray.size=l.length:=by simp
 have hc0:∀ m,m<=n->cnt (st (Array.replicate l.toArray.size false)) m=m:=by
  intro m;induction m with
  | zero=>intro _;rfl
  | succ m ih =>
   intro hm;unfold cnt;rw [ih (by omega)]
   have:st (Array.replicate l.toArray.size false) m=false:=by
    have:m<l.length:=by omega
    simp [st,this]
   rw [this];simp
 have hfrm:∀ (val:Nat->Value) (m:Nat),frm l.toArray val (λ_=>false) m a=a:=λval m=>by
  induction m with
  | zero=>rfl
  | succ m ih=>unfold frm;simp [ih]
 have hall:∀ m,m<=n->∀ k,k<m->st (Array.replicate l.toArray.size false) k=false:=λm hm k hk=>by
  have:k<l.length:=by omega
  simp [st,this]
 have hh:HeadInv .any l.toArray n (Array.replicate l.toArray.size false):=by
  refine ⟨by simp,λj oj hj hl=>?_,λt ht ht'=>?_⟩
  ·exfalso
   rcases jU j l.length with h | h
   ·simp [h] at hl
   ·simp [h] at hl
  ·have:t<l.length:=by simpa using ht'
   simp [this]
 have key:=aW6 (Q:=Q) (a0:=a) (l:=l) rfl F (λL H bs h=>by simpa using h) n p0 (Array.replicate l.toArray.size false) a _ (λ_=>undef) (λ_=>false) [] L H bs [] (hc0 n (aK _)) h2 h
  ⟨hh,?_,by rw [hfrm];exact f,?_,s.more ((Ext.refl W).drew),λ_ _ _ _ h=>(by cases h),λ_ _ _ _ h=>(by cases h),λ_=>rfl,λ_ _ _ _ h=>(by cases h)⟩
 ·have:n+(l.toArray.size - n)=l.toArray.size:=by rw [hsz];omega
  rw [this] at key;exact key
 ·rw [kQ (λ_=>undef) (λ_=>undef) _ (λ_=>false) a n (λk hk=>⟨hall n (aK _) k hk,λ_=>rfl⟩),hfrm]
 ·intro i hi hs;rw [hall n (aK _) i hi] at hs;cases hs
end
section
variable {dfs:List Deferred} {P:Program} {n:Nat} {L:Sl} {H:Hp} {w0:World} {bs:List Res} {Q:Exit->Act->World->Prop} {ops:Array Oper} {rest:List Oper} {K:Act->World->Prop}
variable {d:Option Tmp} {ty:TypeId} {pos:String} {aft:Array Edge} {g:Option (Nat × Bool)} {v:Value} {t:Tmp} {op:Op} {x y z:Operand} {T T':TypeId}
variable {N hn:Nat} {pa:List (Nat × Oper × Value)} {E:Sl->Hp->List Res->Prop} {r q:PlT} {i k:Nat}
def uK (dfs:List Deferred) (P:Program) (ops:Array Oper) (n:Nat) (w0:World) (N:Nat) (E:Sl->Hp->List Res->Prop) (i k:Nat) (o:Oper) (r:PlT) (pa:List (Nat × Oper × Value)) (L:Sl) (H:Hp) (bs:List Res):Prop :=
 (∀ t,o.dst=some t->t<N)/\At dfs N L H w0 bs (one P ops (λ_ _ _=>False) o λa' W'=>∃ v H' bs',Fr dfs N (putL o.dst v L) a'/\St H' w0 bs' W'/\(k=1\/(∀ W,St H' w0 bs' W->St H w0 bs W)\/kH dfs P ops n w0 N L H' bs' i pa)/\iU dfs P ops n w0 N E r pa (putL o.dst v L) H' bs')
theorem iU.h1 {o:Oper} (h:uK dfs P ops hn w0 N E i k o r pa L H bs):iU dfs P ops hn w0 N E (.alt i k o r .no) pa L H bs:=⟨h,Jt⟩
theorem iU.h {o:Oper} (h:uK dfs P ops hn w0 N E i k o r pa L H bs) (hq:iU dfs P ops hn w0 N E q pa L H bs):iU dfs P ops hn w0 N E (.alt i k o r q) pa L H bs:=⟨h,hq⟩
theorem iU.nn:iU dfs P ops hn w0 N E .no pa L H bs:=trivial
theorem iU.yv (hy:Yl P L H w0 bs ⟨some t,op,ty,pos,aft,none⟩ v) (ht:Nat.blt t N=true) (h:iU dfs P ops hn w0 N E r ((i,⟨some t,op,ty,pos,aft,none⟩,v)::pa) ((t,v)::L) H bs):iU dfs P ops hn w0 N E (.light i ⟨some t,op,ty,pos,aft,none⟩ r) pa L H bs :=
 ⟨v,λa W f s=>.inl ⟨by simp [Region.wanted],hy a W (λx u e=>f.ev e) s⟩,rN ht,h⟩
theorem iU.m (hx:ev L x=some v) (ht:Nat.blt t N=true) (h:iU dfs P ops hn w0 N E r ((i,⟨some t,.move x,ty,pos,aft,none⟩,v)::pa) ((t,v)::L) H bs):iU dfs P ops hn w0 N E (.light i ⟨some t,.move x,ty,pos,aft,none⟩ r) pa L H bs:=.yv (.move hx) ht h
theorem uK.into {H':Hp} {bs':List Res} (hw:k=1\/(∀ W,St H' w0 bs' W->St H w0 bs W)\/kH dfs P ops hn w0 N L H' bs' i pa) (h:iU dfs P ops hn w0 N E r pa ((t,v)::L) H' bs') :
 At dfs N ((t,v)::L) H' w0 bs' (λa' W'=>∃ v H' bs',Fr dfs N (putL (some t) v L) a'/\St H' w0 bs' W'/\(k=1\/(∀ W,St H' w0 bs' W->St H w0 bs W)\/kH dfs P ops hn w0 N L H' bs' i pa)/\iU dfs P ops hn w0 N E r pa (putL (some t) v L) H' bs'):=λ_ _ f s=>⟨v,H',bs',f,s,hw,h⟩
theorem uK.al {l:List Value} (hz:mD P T=some l) (ht:Nat.blt t N=true) (h:∀ b,iU dfs P ops hn w0 N E r pa ((t,.pointer (some ⟨b,0,none⟩))::L) H (.box b l T::bs)):uK dfs P ops hn w0 N E i k ⟨some t,.alloc T,ty,pos,aft,none⟩ r pa L H bs :=
 ⟨rN ht,alloc hz ht λb=>uK.into (.inr<|.inl λ_ s=>s.drop) (h b)⟩
theorem uK.bl {ps:List (Nat × Operand)} {pv:List (Nat × Value)} {len:Nat} {e:TypeId} {l:List Value} (hv:evp L ps=some pv) (hb:oK P T len pv=some (e,l)) (ht:Nat.blt t N=true)
 (h:∀ b,iU dfs P ops hn w0 N E r pa ((t,.slice (some ⟨b,0,none⟩) len len)::L) H (.box b l e::bs)):uK dfs P ops hn w0 N E i k ⟨some t,.buildSlice T len ps.toArray,ty,pos,aft,none⟩ r pa L H bs :=
 ⟨rN ht,buildSlice hv hb ht λb=>uK.into (.inr<|.inl λ_ s=>s.drop) (h b)⟩
theorem uK.ct {X:Type} {f:FuncId} {xs:List Operand} {vs:List Value} {ats:Array TypeId} {C:X->Hp->Prop} {val:X->Value} (hf:cU P f=true) (hv:evs L xs=some vs)
 (hc:∀ W,St H w0 bs W->Calls P f vs.toArray W λe W'=>∃ x H',C x H'/\e=.returned (val x)/\BX H W H' W') (ht:Nat.blt t N=true)
 (h:∀ x H',C x H'->HUp w0 H H'->iU dfs P ops hn w0 N E r pa ((t,val x)::L) H' bs):uK dfs P ops hn w0 N E i k ⟨some t,.call ⟨.value (.func f),xs.toArray,ats⟩,ty,pos,aft,none⟩ r pa L H bs :=
 ⟨rN ht,cG4 hf hv hc ht λx H' hx u=>uK.into (.inr<|.inl λ_ s=>s.weakH u.up) (h x H' hx u)⟩
theorem uK.c3 {X:Type} {f:FuncId} {xs:List Operand} {vs:List Value} {ats:Array TypeId} {C:X->Prop} {val:X->Value} {H':X->Hp} {bs':X->List Res} (hf:cU P f=true) (hv:evs L xs=some vs)
 (hc:∀ W,St H w0 bs W->Calls P f vs.toArray W λe W'=>∃ x,C x/\e=.returned (val x)/\St (H' x) w0 (bs' x) W') (ht:Nat.blt t N=true)
 (hr:∀ x,C x->kH dfs P ops hn w0 N L (H' x) (bs' x) i pa) (h:∀ x,C x->iU dfs P ops hn w0 N E r pa ((t,val x)::L) (H' x) (bs' x)):uK dfs P ops hn w0 N E i 2 ⟨some t,.call ⟨.value (.func f),xs.toArray,ats⟩,ty,pos,aft,none⟩ r pa L H bs :=
 ⟨rN ht,bH9 hf hv hc ht λx hx=>uK.into (.inr<|.inr<|hr x hx) (h x hx)⟩
theorem iU.fn {l tl:List Oper} {nn:Nat} (ht:l.drop nn=tl) (h:At dfs N L H w0 bs (wpList P ops Q tl)):iU dfs P ops hn w0 N (λL H bs=>At dfs N L H w0 bs (wpList P ops Q (l.drop nn))) .done pa L H bs:=by
 subst ht;exact h
theorem At.ft {id:Nat} {l:List Oper} {p:PlT} (nn:Nat) (p0:Pi0) (hm:P.follows .mixedOrders=true) (hB:(aV7 l.toArray nn [] && okT l.toArray nn [] [] p0)=true) (ht:BO l p0=p)
 (h:iU dfs P l.toArray nn w0 n (λL H bs=>At dfs n L H w0 bs (wpList P l.toArray Q (l.drop nn))) p [] L H bs):At dfs n L H w0 bs ((Code.region id l.toArray true).wp P Q):=dD6 nn p0 hm hB ht h
end
end Go.Sx

namespace Go.Sx
open Go.RowKit Go.Par
section
variable {dfs:List Deferred} {P:Program} {L:Sl} {H H':Hp} {w0:World} {bs bs':List Res} {ty:TypeId} {pos:String} {aft:Array Edge} {t:Tmp} {op:Op} {ops:Array Oper} {N hn i n j:Nat} {pa:List (Nat × Oper × Value)} {E:Sl->Hp->List Res->Prop} {r:List (Nat × Nat × Oper)} {rest:List Oper} {Q:Exit->Act->World->Prop} {o:Oper} {v:Value} {b c:Bool} {u:Tmp}
theorem iU.yw {r:PlT} (hy:Yl P L H w0 bs ⟨some t,op,ty,pos,aft,none⟩ v) (h:iU dfs P ops hn w0 N E r ((i,⟨some t,op,ty,pos,aft,none⟩,v)::pa) ((t,v)::L) H bs) (ht:Nat.blt t N=true:=by rfl):iU dfs P ops hn w0 N E (.light i ⟨some t,op,ty,pos,aft,none⟩ r) pa L H bs:=.yv hy ht h
theorem iU.mv {r:PlT} {x:Operand} (hx:ev L x=some v) (h:iU dfs P ops hn w0 N E r ((i,⟨some t,.move x,ty,pos,aft,none⟩,v)::pa) ((t,v)::L) H bs) (ht:Nat.blt t N=true:=by rfl):iU dfs P ops hn w0 N E (.light i ⟨some t,.move x,ty,pos,aft,none⟩ r) pa L H bs:=.m hx ht h
end
section
variable {dfs:List Deferred} {P:Program} {L:Sl} {H H':Hp} {w0:World} {bs bs':List Res} {ty:TypeId} {pos:String} {aft:Array Edge} {t:Tmp} {op:Op} {ops:Array Oper} {N hn i n j:Nat} {pa:List (Nat × Oper × Value)} {E:Sl->Hp->List Res->Prop} {r:List (Nat × Nat × Oper)} {rest:List Oper} {Q:Exit->Act->World->Prop} {o:Oper} {v:Value} {b c:Bool} {u:Tmp}
theorem iU.fA {x:Operand} {T:TypeId} {k a off o':Nat} {r:PlT} (hp:ev L x=some (.pointer (some ⟨a,off,none⟩))) (hF:dL P T k=some o') (h:iU dfs P ops hn w0 N E r ((i,⟨some t,.fieldAddr T x k,ty,pos,aft,none⟩,(.pointer (some ⟨a,off+o',none⟩)))::pa) ((t,(.pointer (some ⟨a,off+o',none⟩)))::L) H bs) (ht:Nat.blt t N=true:=by rfl):iU dfs P ops hn w0 N E (.light i ⟨some t,.fieldAddr T x k,ty,pos,aft,none⟩ r) pa L H bs:=.yv (.fieldAddr hp hF) ht h
theorem iU.lD {x:Operand} {T t':TypeId} {a off:Nat} {l:List Value} {r:PlT} (hp:ev L x=some (.pointer (some ⟨a,off,none⟩))) (hT:jP P T=some none) (hm:Res.box a l t'∈bs) (hv:l[off]? = some v) (h:iU dfs P ops hn w0 N E r ((i,⟨some t,.load T x,ty,pos,aft,none⟩,v)::pa) ((t,v)::L) H bs) (ht:Nat.blt t N=true:=by rfl):iU dfs P ops hn w0 N E (.light i ⟨some t,.load T x,ty,pos,aft,none⟩ r) pa L H bs:=.yv (.load hp hT hm hv) ht h
theorem iU.nC {x:Operand} {p:Addr} {r:PlT} (hx:ev L x=some (.pointer (some p))) (h:iU dfs P ops hn w0 N E r ((i,⟨some t,.nilCheck x,ty,pos,aft,none⟩,(.pointer (some p)))::pa) ((t,(.pointer (some p)))::L) H bs) (ht:Nat.blt t N=true:=by rfl):iU dfs P ops hn w0 N E (.light i ⟨some t,.nilCheck x,ty,pos,aft,none⟩ r) pa L H bs:=.yv (.nilCheck hx) ht h
end
def yP (H:Hp) (v:Value) (n:Nat) (xs:List Value):Prop:=(v=.slice none 0 0/\n=0)\/∃ b c,v=.slice (some ⟨b,0,none⟩) n c/\n<=c/\c<=maxLen/\lB H b 0 xs
variable {H:Hp} {v:Value} {n z:Nat} {xs:List Value}
theorem yP.rep {ds:List D} (h:yP H v n xs) (hz:dA H z ds xs) (hn:ds.length=n):Rep H (.seq z ds) [v]:=by
 rcases h with ⟨rfl,rfl⟩ | ⟨b,c,rfl,h1,h2,h3⟩
 ·obtain rfl:=cQ hn;exact .empty (by simp [maxLen])
 ·exact .mk h3 hz hn h1 h2
theorem yP.sl (h:yP H v n xs):∃ p c,v=.slice p n c:=by
 rcases h with ⟨rfl,rfl⟩ | ⟨b,c,rfl,_⟩
 ·exact ⟨_,_,Z⟩
 ·exact ⟨_,_,Z⟩
variable {bs bs':List Res}
theorem Upd.new {x y:Res} (h:Upd bs x y bs'):y∈bs':=by
 induction h with
 | head=>exact .head _
 | tail _ ih=>exact .tail _ ih
variable {H':Hp}
theorem yP.up (h:yP H v n xs) (u:Up H H'):yP H' v n xs:=by
 rcases h with h | ⟨b,c,e,h1,h2,h3⟩
 ·exact .inl h
 ·exact .inr ⟨b,c,e,h1,h2,h3.up u⟩
section
variable {dfs:List Deferred} {P:Program} {n:Nat} {L:Sl} {H:Hp} {w0:World} {bs:List Res} {Q:Exit->Act->World->Prop} {ops:Array Oper} {rest:List Oper} {K:Act->World->Prop}
variable {d:Option Tmp} {ty:TypeId} {pos:String} {aft:Array Edge} {v:Value} {t:Tmp} {x y:Operand} {T:TypeId}
theorem St.boxRowZ {b m z:Nat} {l:List Value} {e:TypeId} {W:World} (h:St H w0 (.box b l e::bs) W) (hz:l.length=m * z) (hl:m<=maxLen):St H w0 (.row e z (.slice (some ⟨b,0,none⟩) m m) m l::bs) W:=by
 have hb:=h.own _ Hm;refine ⟨h.ext,h.agr,λx hx=>?_,?_⟩
 ·rcases bJ.1 hx with rfl | hx
  ·exact ⟨⟨hz,.inr ⟨b,m,l.toArray,Z,hb.1.1,hb.1.2,aK _,hl,by simpa using hz,by rw [<-hz];simp⟩⟩,λc e=>hb.2 c e⟩
  ·exact h.own x (.tail _ hx)
 ·have h1:=h.apart;rw [lR] at h1|-;exact ⟨λz hz c e=>h1.1 z hz c e,h1.2⟩
theorem cR3 {e:TypeId} {size bytes m k:Nat} {r v:Value} {xs news:List Value} {bs':Value->List Res} (hT:tM P T=some (e,size,bytes)) (hx:ev L x=some r) (hm:∀ r',Upd bs (.row e size r k xs) (.row e size r' (k+m) (xs++news)) (bs' r'))
 (hy:ev L y=some v) (hs:yP H v m news) (hl:news.length=m * size) (h1:∀ u∈news,u.oneCell'=true) (h63:k+m<=maxLen) (hb:(k+m) * bytes<=140737488355328) (ht:Nat.blt t n=true)
 (h:∀ r',At dfs n ((t,r')::L) H w0 (bs' r') K):At dfs n L H w0 bs (one P ops Q ⟨some t,.call ⟨.builtin .append,#[x,y],#[T,T]⟩,ty,pos,aft,none⟩ K):=by
 rcases hs with ⟨rfl,rfl⟩ | ⟨b,c,rfl,_,_,hmem⟩
 ·have hn:news=[]:=cQ (by rw [hl,tT]);subst hn;have e2:bs' r=bs:=(hm r).same (by rw [nH,aX]);have h2:=h r;rw [e2] at h2;exact aY1 hT hx (hm r).mem hy ht h2
 ·exact aF6 hT hx hm hy (λW s j u e=>by rw [Addr.add_lit];exact hmem.cell s.agr e) hl h1 h63 hb ht λr' _=>h r'
variable {N hn i:Nat} {pa:List (Nat × Oper × Value)} {E:Sl->Hp->List Res->Prop} {q:PlT}
theorem uK.apR {e:TypeId} {size bytes m k:Nat} {r v:Value} {xs news:List Value} {bs':Value->List Res} (hT:tM P T=some (e,size,bytes)) (hx:ev L x=some r) (hm:∀ r',Upd bs (.row e size r k xs) (.row e size r' (k+m) (xs++news)) (bs' r'))
 (hy:ev L y=some v) (hs:yP H v m news) (hl:news.length=m * size) (h1:∀ u∈news,u.oneCell'=true) (h63:k+m<=maxLen) (hb:(k+m) * bytes<=140737488355328) (ht:Nat.blt t N=true)
 (hr:∀ r',kH dfs P ops hn w0 N L H (bs' r') i pa) (h:∀ p c,iU dfs P ops hn w0 N E q pa ((t,.slice p (k+m) c)::L) H (bs' (.slice p (k+m) c))):uK dfs P ops hn w0 N E i 2 ⟨some t,.call ⟨.builtin .append,#[x,y],#[T,T]⟩,ty,pos,aft,none⟩ q pa L H bs :=
 ⟨rN ht,cR3 hT hx hm hy hs hl h1 h63 hb ht λr'=>At.ra (hm r').new λp c e=>by subst e;exact uK.into (.inr<|.inr<|hr _) (h p c)⟩
theorem uK.blR {ps:List (Nat × Operand)} {pv:List (Nat × Value)} {len z k:Nat} {e:TypeId} {l:List Value} (hv:evp L ps=some pv) (hb:oK P T len pv=some (e,l)) (ht:Nat.blt t N=true) (hz:l.length=len * z) (hl:len<=maxLen)
 (h:∀ b,iU dfs P ops hn w0 N E q pa ((t,.slice (some ⟨b,0,none⟩) len len)::L) H (.row e z (.slice (some ⟨b,0,none⟩) len len) len l::bs)):uK dfs P ops hn w0 N E i k ⟨some t,.buildSlice T len ps.toArray,ty,pos,aft,none⟩ q pa L H bs :=
 ⟨rN ht,buildSlice hv hb ht λb=>reSt (λ_ s=>s.boxRowZ hz hl) (uK.into (.inr<|.inl λ_ s=>s.drop) (h b))⟩
theorem freezeAt {e:TypeId} {size k:Nat} {r:Value} {xs:List Value} {G:Act->World->Prop} (h:∀ H',HUp w0 H H'->yP H' r k xs->At dfs n L H' w0 bs G):At dfs n L H w0 (.row e size r k xs::bs) G :=
 YA λH' u hr=>h H' u (by
  rcases hr with h | ⟨b,c,e,h1,h2,h3⟩
  ·exact .inl h
  ·exact .inr ⟨b,c,e,h1,h2,h3⟩)
end
section
variable {dfs:List Deferred} {P:Program} {n:Nat} {L:Sl} {H:Hp} {w0:World} {bs:List Res} {Q:Exit->Act->World->Prop} {ops:Array Oper} {rest:List Oper} {K:Act->World->Prop}
variable {d:Option Tmp} {ty:TypeId} {pos:String} {aft:Array Edge} {v:Value} {t:Tmp} {x y:Operand} {T:TypeId}
theorem ND {e:TypeId} {size bytes m c k:Nat} {p:Option Addr} {r:Value} {xs:List Value} {ds:List D} {bs':List Value->Value->List Res} (hT:tM P T=some (e,size,bytes)) (hx:ev L x=some r)
 (hm:∀ news r',Upd bs (.row e size r k xs) (.row e size r' (k+m) (xs++news)) (bs' news r')) (hy:ev L y=some (.slice p m c)) (hr:Rep H (.seq size ds) [.slice p m c])
 (h63:k+m<=maxLen) (hb:(k+m) * bytes<=140737488355328) (ht:Nat.blt t n=true)
 (h:∀ news r',dA H size ds news->At dfs n ((t,r')::L) H w0 (bs' news r') K):At dfs n L H w0 bs (one P ops Q ⟨some t,.call ⟨.builtin .append,#[x,y],#[T,T]⟩,ty,pos,aft,none⟩ K):=by
 have hlen:=hr.len;unfold Rep at hr;obtain ⟨p',c',h1,h2,h3,h4⟩:=hr;injection h1 with h1 _
 injection h1 with e1 e2 e3
 subst e1 e3;rcases h4 with h4 | ⟨b,off,cs,rfl,hmem,hz⟩
 ·subst h4;obtain rfl:m=0:=e2;cases p with
  | some A=>exact aF6 hT hx (hm []) hy (λW s j u e=>by simp at e) (by simp) (by simp) h63 hb ht λr' _=>h [] r' .nil
  | none =>
   obtain ⟨hu,i,z,hi,hz,hsz,hby,hzs,h0⟩:=ES hT;have e4:bs' [] r=bs:=(hm [] r).same (by rw [nH,aX]);have h5:=h [] r .nil;rw [e4] at h5;intro a W f s;refine mH rfl ?_;unfold Oper.wp;have hown:W.ownsRow w0.heap.size e size r k xs:=(s.own _ (hm [] r).mem).1
   have hrun:(Builtin.append_ #[T,T] ty #[r,.slice none 0 c]).run P W=.ok r W:=by
    rcases hown.2 with ⟨rfl,rfl⟩ | ⟨g,cap,cur,rfl,hbg,hgc,hnc,hcm,hcs,htake⟩
    ·simp [Builtin.append_,run_underlying hu,sizeOf,typeInfo,hi,Builtin.lenOf,Builtin.firstCells]
    ·simp [Builtin.append_,run_underlying hu,sizeOf,typeInfo,hi,Builtin.lenOf,Builtin.firstCells,hnc,storeCells]
   simp [execOp,resolve,invoke,builtin,f.ev hx,f.ev hy,hrun,Result.andThen,Oper.upon];exact h5 _ _ (f.put ht _) s
 ·exact aF6 hT hx (hm cs) hy (λW s j u e=>by rw [Addr.add_lit];exact hmem.cell s.agr e) (by rw [hz.len,e2]) hz.one h63 hb ht λr' _=>h cs r' hz
theorem At.apD {e:TypeId} {size bytes m c k:Nat} {p:Option Addr} {r:Value} {xs:List Value} {ds:List D} {bs':List Value->Value->List Res} (hT:tM P T=some (e,size,bytes)) (hx:ev L x=some r)
 (hm:∀ news r',Upd bs (.row e size r k xs) (.row e size r' (k+m) (xs++news)) (bs' news r')) (hy:ev L y=some (.slice p m c)) (hr:Rep H (.seq size ds) [.slice p m c])
 (h63:k+m<=maxLen) (hb:(k+m) * bytes<=140737488355328) (ht:Nat.blt t n=true)
 (h:∀ news r',dA H size ds news->At dfs n ((t,r')::L) H w0 (bs' news r') (wpList P ops Q rest)):At dfs n L H w0 bs (wpList P ops Q (⟨some t,.call ⟨.builtin .append,#[x,y],#[T,T]⟩,ty,pos,aft,none⟩::rest)):=cons (ND hT hx hm hy hr h63 hb ht h)
theorem At.blR {ps:List (Nat × Operand)} {pv:List (Nat × Value)} {len z:Nat} {e:TypeId} {l:List Value} (hv:evp L ps=some pv) (hb:oK P T len pv=some (e,l)) (ht:Nat.blt t n=true) (hz:l.length=len * z) (hl:len<=maxLen)
 (h:∀ b,At dfs n ((t,.slice (some ⟨b,0,none⟩) len len)::L) H w0 (.row e z (.slice (some ⟨b,0,none⟩) len len) len l::bs) (wpList P ops Q rest)):At dfs n L H w0 bs (wpList P ops Q (⟨some t,.buildSlice T len ps.toArray,ty,pos,aft,none⟩::rest)) :=
 .bl hv hb ht λb=>reSt (λ_ s=>s.boxRowZ hz hl) (h b)
theorem At.rs {e:TypeId} {size k:Nat} {r:Value} {xs:List Value} {G:Act->World->Prop} (hm:Res.row e size r k xs∈bs) (hk:0<k) (h:∀ g c,r=.slice (some ⟨g,0,none⟩) k c->At dfs n L H w0 bs G):At dfs n L H w0 bs G:=λa W f s=>by
 have ho:W.ownsRow w0.heap.size e size r k xs:=(s.own _ hm).1;rcases ho.2 with ⟨hr,h0⟩ | ⟨g,cap,cur,hr,_⟩
 ·omega
 ·exact h g cap hr a W f s
theorem Yl.fld {i:Nat} {u:Value} (hx:ev L x=some v) (hr:∀ W,(Instr.field T v i).run P W=.ok u W) {gd:Option (Nat × Bool)}:Yl P L H w0 bs ⟨d,.field T x i,ty,pos,aft,gd⟩ u:=.of_run λa W f s=>by
 unfold execOp;simp only [f x _ hx,Sem.run_bind,hr W,Result.andThen,Sem.run_pure]
theorem NZ:∀ (vs l more:List Value) (off:Nat),off+vs.length<=l.length->kO (l++more) off vs=kO l off vs++more
 | [],l,more,off,_=>rfl
 | v::r,l,more,off,h=>by
  unfold kO;rw [aH] at h;rw [List.set_append_left _ _ (by omega)];exact NZ r (l.set off v) more (off+1) (by rw [List.length_set];omega)
theorem PX:∀ (vs p l:List Value) (off:Nat),kO (p++l) (p.length+off) vs=p++kO l off vs
 | [],p,l,off=>rfl
 | v::r,p,l,off=>by
  unfold kO;rw [nZ _ _ (by omega),show p.length+off - p.length=off by omega,iQ];exact PX r p (l.set off v) (off+1)
theorem dA.put {H:Hp} {z:Nat} {d:D} {vs:List Value} (hd:Rep H d vs) (hz:vs.length=z):∀ {ds:List D} {l:List Value} {i:Nat},dA H z ds l->i<ds.length->dA H z (ds.set i d) (kO l (i * z) vs)
 | [],l,i,_,hi=>by simp at hi
 | d0::r,l,0,h,_=>by
  unfold dA at h;obtain ⟨x,y,rfl,h1,h2,h3⟩:=h;rw [qO,tT,NZ _ _ _ _ (by omega)];have:=OA vs [] x (by omega);simp only [bU,aS] at this;rw [this];unfold dA;exact ⟨vs,y,Z,hz,hd,h3⟩
 | d0::r,l,i+1,h,hi=>by
  unfold dA at h;obtain ⟨x,y,rfl,h1,h2,h3⟩:=h;have:=dA.put hd hz (i:=i) h3 (by simpa using hi);rw [List.set_cons_succ,show (i+1) * z=x.length+i * z by rw [h1,jT];omega,PX];unfold dA;exact ⟨x,_,Z,h1,h2,this⟩
theorem EQ:∀ (vs l:List Value) (off:Nat),(kO l off vs).length=l.length
 | [],l,off=>rfl
 | v::r,l,off=>by unfold kO;rw [EQ r,List.length_set]
variable {N hn i:Nat} {pa:List (Nat × Oper × Value)} {E:Sl->Hp->List Res->Prop} {q:PlT} {fr:List (Nat × Nat × Oper)}
theorem uK.apD {e:TypeId} {size bytes m c k:Nat} {p:Option Addr} {r:Value} {xs:List Value} {ds:List D} {bs':List Value->Value->List Res} (hT:tM P T=some (e,size,bytes)) (hx:ev L x=some r)
 (hm:∀ news r',Upd bs (.row e size r k xs) (.row e size r' (k+m) (xs++news)) (bs' news r')) (hy:ev L y=some (.slice p m c)) (hr:Rep H (.seq size ds) [.slice p m c])
 (h63:k+m<=maxLen) (hb:(k+m) * bytes<=140737488355328) (ht:Nat.blt t N=true)
 (hr2:∀ news r',kH dfs P ops hn w0 N L H (bs' news r') i pa) (h:∀ news p c,dA H size ds news->iU dfs P ops hn w0 N E q pa ((t,.slice p (k+m) c)::L) H (bs' news (.slice p (k+m) c))) :
 uK dfs P ops hn w0 N E i 2 ⟨some t,.call ⟨.builtin .append,#[x,y],#[T,T]⟩,ty,pos,aft,none⟩ q pa L H bs :=
 ⟨rN ht,ND hT hx hm hy hr h63 hb ht λnews r' hz=>At.ra (hm news r').new λp c e=>by subst e;exact uK.into (.inr<|.inr<|hr2 _ _) (h news p c hz)⟩
theorem fF.apD {e:TypeId} {size bytes m c k:Nat} {p:Option Addr} {r:Value} {xs:List Value} {ds:List D} {bs':List Value->Value->List Res} (hT:tM P T=some (e,size,bytes)) (hx:ev L x=some r)
 (hm:∀ news r',Upd bs (.row e size r k xs) (.row e size r' (k+m) (xs++news)) (bs' news r')) (hy:ev L y=some (.slice p m c)) (hr:Rep H (.seq size ds) [.slice p m c])
 (h63:k+m<=maxLen) (hb:(k+m) * bytes<=140737488355328) (ht:Nat.blt t N=true)
 (hr2:∀ news r',kH dfs P ops hn w0 N L H (bs' news r') i pa) (h:∀ news p c,dA H size ds news->fF dfs P ops hn w0 N E fr pa ((t,.slice p (k+m) c)::L) H (bs' news (.slice p (k+m) c))) :
 fF dfs P ops hn w0 N E ((i,3,⟨some t,.call ⟨.builtin .append,#[x,y],#[T,T]⟩,ty,pos,aft,none⟩)::fr) pa L H bs :=
 ⟨rN ht,ND hT hx hm hy hr h63 hb ht λnews r' hz=>At.ra (hm news r').new λp c e=>by subst e;exact fF.into (.inr<|.inr<|hr2 _ _) (h news p c hz)⟩
theorem fF.apD0 {e:TypeId} {size bytes m c:Nat} {p:Option Addr} {r:Value} {ds:List D} {bs':List Value->Value->List Res} (hT:tM P T=some (e,size,bytes)) (hx:ev L x=some r)
 (hm:∀ news r',Upd bs (.row e size r 0 []) (.row e size r' m news) (bs' news r')) (hy:ev L y=some (.slice p m c)) (hr:Rep H (.seq size ds) [.slice p m c])
 (h63:m<=maxLen) (hb:m * bytes<=140737488355328) (ht:Nat.blt t N=true)
 (hr2:∀ news r',kH dfs P ops hn w0 N L H (bs' news r') i pa) (h:∀ news p c,dA H size ds news->fF dfs P ops hn w0 N E fr pa ((t,.slice p m c)::L) H (bs' news (.slice p m c))) :
 fF dfs P ops hn w0 N E ((i,3,⟨some t,.call ⟨.builtin .append,#[x,y],#[T,T]⟩,ty,pos,aft,none⟩)::fr) pa L H bs :=
 .apD hT hx (k:=0) (xs:=[]) (λnews r'=>by rw [fV];exact hm news r') hy hr (by omega) (by rw [fV];exact hb) ht hr2 λnews p c hz=>by rw [fV];exact h news p c hz
end
inductive EK where
 | b | s | i
def cF6 (P:Program) (t:TypeId):Option EK :=
 match P.underlying t with
 | some .bool=>some .b
 | some .string=>some .s
 | some (.int _)=>some .i
 | _=>none
def cZ4:EK->Value->Value->Option Bool
 | .b,.bool a,.bool b=>some (decide (a=b))
 | .s,.string a,.string b=>some (decide (a=b))
 | .i,.int k a,.int k' b=>if k=k' then some (decide (a=b)) else none
 | _,_,_=>none
def bO1:List (Nat × EK)->List Value->List Value->Option Bool
 | [],_,_=>some true
 | (o,k)::r,cs,ds =>
  match cs[o]?,ds[o]? with
  | some a,some b =>
   match cZ4 k a b,bO1 r cs ds with
   | some p,some q=>some (p && q)
   | _,_=>none
  | _,_=>none
def cZ0 (P:Program) (f:Field):Option (Nat × EK):=if f.name = "_" then none else (cF6 P f.type).map λk=>(f.offset,k)
def eqT (P:Program) (T:TypeId):Option (List (Nat × EK)) :=
 match P.underlying T with
 | some (.struct fs)=>if P.stoodInHeld T || P.eqGuardType P.depth T then none else fs.toList.mapM (cZ0 P)
 | _=>none
section
variable {dfs:List Deferred} {P:Program}
theorem TP {t:TypeId} {k:EK} (h:cF6 P t=some k):P.plainKey t=true:=by
 unfold cF6 at h;unfold Program.plainKey
 split at h <;> simp_all
theorem bZ1 {t:TypeId} {k:EK} {a b:Value} {r:Bool} (hk:cF6 P t=some k) (h:cZ4 k a b=some r) (d:Nat) (w:World):(Op.equalIn (d+1) t a b).run P w=.ok r w:=by
 unfold cF6 at hk;unfold cZ4 at h
 split at h
 ·split at hk <;> simp only [kS,reduceCtorEq] at hk
  rename_i hu;rw [run_equalIn_bool w d t _ _ hu];cases h
  rfl
 ·split at hk <;> simp only [kS,reduceCtorEq] at hk
  rename_i hu;rw [run_equalIn_string w d t _ _ hu];cases h
  congr 1
  rw [bD,fC,aB]
  constructor
  ·intro e;rwa [ByteArray.toList_eq,ByteArray.toList_eq,sA,<-ByteArray.ext_iff] at e
  ·intro e;rw [e]
 ·split at hk <;> simp only [kS,reduceCtorEq] at hk
  rename_i hu
  split at h
  ·rename_i e;subst e;rw [run_equalIn_int w d t _ _ _ _ hu];cases h
   rfl
  ·cases h
 ·cases h
theorem aJ7 (d:Nat) (w:World) (cs ds:List Value):∀ (fs:List Field) (ks:List (Nat × EK)) (r:Bool),fs.mapM (cZ0 P)=some ks->bO1 ks cs ds=some r->(Op.eqFields (d+1) cs.toArray ds.toArray fs).run P w=.ok r w
 | [],ks,r,hk,hr=>by
  simp at hk;subst hk;simp only [bO1,kS] at hr;subst hr;simp [Op.eqFields]
 | f::fs,ks,r,hk,hr=>by
  rw [yX] at hk;simp only [bind,dS,pure,kS] at hk;obtain ⟨k,hk1,ks',hk2,rfl⟩:=hk;unfold cZ0 at hk1
  split at hk1
  ·cases hk1
  rename_i hn;rw [eC] at hk1;obtain ⟨e,he,rfl⟩:=hk1;simp only [bO1] at hr
  split at hr
  ·rename_i a b ha hb
   split at hr
   ·rename_i p q hp hq;cases hr;have h1:=run_part_plain w (TP he) (xs:=cs.toArray) (off:=f.offset) (v:=a) (by simpa using ha);have h2:=run_part_plain w (TP he) (xs:=ds.toArray) (off:=f.offset) (v:=b) (by simpa using hb);have h3:=bZ1 he hp d w;have h4:=aJ7 d w cs ds fs ks' q hk2 hq;simp only [Op.eqFields,hn,ne_eq,not_false_eq_true,aN,Sem.run_bind,h1,h2,h3,Result.andThen_ok];cases p
    ·simp
    ·simpa using h4
   ·cases hr
  ·cases hr
theorem cL4 {T:TypeId} {ks:List (Nat × EK)} {cs ds:List Value} {r:Bool} (hT:eqT P T=some ks) (hr:bO1 ks cs ds=some r) (w:World) :
 (Op.equal T (.agg cs.toArray) (.agg ds.toArray)).run P w=.ok r w/\P.eqGuardType P.depth T=false:=by
 unfold eqT at hT
 split at hT
 ·rename_i fs hu
  split at hT
  ·cases hT
  rename_i hb;rw [Bool.not_eq_true,mO] at hb;have hf:P.fieldsOf T=fs:=by simp [Program.fieldsOf,hu]
  refine ⟨?_,hb.2⟩;show (Op.equalIn (9998+1+1) T _ _).run P w=_;rw [run_equalIn_struct w (9998+1) T _ _ (by rw [hf];exact hu) hb.1,hf];exact aJ7 9998 w cs ds fs.toList ks r hT hr
 ·cases hT
variable {n:Nat} {L:Sl} {H:Hp} {w0:World} {bs:List Res} {d:Option Tmp} {ty:TypeId} {pos:String} {aft:Array Edge} {g:Option (Nat × Bool)} {x y:Operand} {T T':TypeId}
theorem Yl.neA {ks:List (Nat × EK)} {cs ds:List Value} {r:Bool} (hT:eqT P T=some ks) (hx:ev L x=some (.agg cs.toArray)) (hy:ev L y=some (.agg ds.toArray)) (hr:bO1 ks cs ds=some r):Yl P L H w0 bs ⟨d,.binOp .neq T x y T',ty,pos,aft,g⟩ (.bool (!r)):=.of_run λa W f _=>by
 obtain ⟨h1,h2⟩:=cL4 hT hr W;unfold execOp;simp [f x _ hx,f y _ hy,eqGuard,h2,binOp,h1]
theorem fF.gd {ops:Array Oper} {N hn i k j:Nat} {b:Bool} {u:Tmp} {op:Op} {pa:List (Nat × Oper × Value)} {E:Sl->Hp->List Res->Prop} {q:List (Nat × Nat × Oper)} (hd:(ops[j]?).bind (·.dst)=some u) (hs:look L u=some (.bool b)) (h:fF dfs P ops hn w0 N E ((i,k+1,⟨d,op,ty,pos,aft,none⟩)::q) pa L H bs) :
 fF dfs P ops hn w0 N E ((i,k+1,⟨d,op,ty,pos,aft,some (j,b)⟩)::q) pa L H bs:=⟨h.1,cD6 hd hs h.2⟩
end
variable {c:Nat}
theorem Rep.cells {ds:List D} {p:Option Addr} (h:Rep H (.seq z ds) [.slice p n c]):∃ cf:Nat->List Value,∀ i d,ds[i]? = some d->∃ b off,p=some ⟨b,off,none⟩/\Rep H d (cf i)/\(cf i).length=z/\lB H b (off+i * z) (cf i):=by
 classical
 refine ⟨λi=>if h:∃ cs,∀ d,ds[i]? = some d->∃ b off,p=some ⟨b,off,none⟩/\Rep H d cs/\cs.length=z/\lB H b (off+i * z) cs then Classical.choose h else [],λi d hd=>?_⟩
 have ex:∃ cs,∀ d,ds[i]? = some d->∃ b off,p=some ⟨b,off,none⟩/\Rep H d cs/\cs.length=z/\lB H b (off+i * z) cs:=by
  obtain ⟨b,off,cs,h1,h2,h3,h4⟩:=h.elem hd;refine ⟨cs,λd' hd'=>?_⟩;rw [hd] at hd';injection hd' with e
  subst e;exact ⟨b,off,h1,h2,h3,h4⟩
 simp only [zY ex];exact Classical.choose_spec ex d hd
variable {l:List Value} {k:Nat}
theorem dA8 {vs:List Value} (h:(l.drop k).take vs.length=vs):∀ (j:Nat) u,vs[j]? = some u->l[k+j]? = some u:=λj u hj=>by
 rw [<-h,List.getElem?_take] at hj
 split at hj
 ·rw [List.getElem?_drop] at hj;exact hj
 ·cases hj
section
variable {dfs:List Deferred} {P:Program} {n:Nat} {L:Sl} {H:Hp} {w0:World} {bs:List Res} {Q:Exit->Act->World->Prop} {ops:Array Oper} {rest:List Oper} {K:Act->World->Prop}
variable {d:Option Tmp} {ty:TypeId} {pos:String} {aft:Array Edge} {v:Value} {t:Tmp} {x:Operand}
theorem cG5 {X:Type} {f:FuncId} {xs:List Operand} {vs fi ca:List Value} {ats:Array TypeId} {C:X->Prop} {val:X->Value} {H':X->Hp} {bs':X->List Res} (hx:ev L x=some (.func (.func f) fi.toArray ca.toArray)) (hf:cU P f=true) (hv:evs L xs=some vs)
 (hc:∀ W,St H w0 bs W->Calls P f (fi++vs++ca).toArray W λe W'=>∃ x,C x/\e=.returned (val x)/\St (H' x) w0 (bs' x) W') (ht:Nat.blt t n=true)
 (h:∀ x,C x->At dfs n ((t,val x)::L) (H' x) w0 (bs' x) K) :
 At dfs n L H w0 bs (one P ops Q ⟨some t,.call ⟨.value x,xs.toArray,ats⟩,ty,pos,aft,none⟩ K):=by
 intro a W f0 s;refine mH rfl ?_;unfold Oper.wp;rw [TN hf (λx u e=>f0.ev e) hx hv];refine (hc W s).mono ?_;rintro e W' ⟨x,hx,rfl,hs⟩;exact h x hx _ _ (f0.put ht _) hs
theorem At.sv {X:Type} {f:FuncId} {xs:List Operand} {vs fi ca:List Value} {ats:Array TypeId} {C:X->Prop} {val:X->Value} {H':X->Hp} {bs':X->List Res} (hx:ev L x=some (.func (.func f) fi.toArray ca.toArray)) (hf:cU P f=true) (hv:evs L xs=some vs)
 (hc:∀ W,St H w0 bs W->Calls P f (fi++vs++ca).toArray W λe W'=>∃ x,C x/\e=.returned (val x)/\St (H' x) w0 (bs' x) W') (ht:Nat.blt t n=true)
 (h:∀ x,C x->At dfs n ((t,val x)::L) (H' x) w0 (bs' x) (wpList P ops Q rest)):At dfs n L H w0 bs (wpList P ops Q (⟨some t,.call ⟨.value x,xs.toArray,ats⟩,ty,pos,aft,none⟩::rest)):=cons (cG5 hx hf hv hc ht h)
theorem Yl.mkF {fn:Fn} {fs cs:List Operand} {fi ca:List Value} {g:Option (Nat × Bool)} (h1:evs L fs=some fi) (h2:evs L cs=some ca):Yl P L H w0 bs ⟨d,.makeFunc fn fs.toArray cs.toArray,ty,pos,aft,g⟩ (.func fn fi.toArray ca.toArray):=.of_run λa W f _=>by
 unfold execOp;simp [FV f h1,FV f h2,Instr.makeFunc]
/-! ### Stores in a drawn region's head -/
section
variable {N hn i:Nat} {pa:List (Nat × Oper × Value)} {E:Sl->Hp->List Res->Prop} {r:List (Nat × Nat × Oper)} {T:TypeId} {y:Operand} {bs':List Res}
theorem fF.into0 (hr:kH dfs P ops hn w0 N L H bs' i pa) (h:fF dfs P ops hn w0 N E r pa L H bs') :
 At dfs N L H w0 bs' (λa' W'=>∃ v H' bs'',Fr dfs N (putL none v L) a'/\St H' w0 bs'' W'/\(2=1\/(∀ W,St H' w0 bs'' W->St H w0 bs W)\/kH dfs P ops hn w0 N L H' bs'' i pa)/\fF dfs P ops hn w0 N E r pa (putL none v L) H' bs''):=λ_ _ f s=>⟨undef,H,bs',f,s,.inr (.inr hr),h⟩
theorem fF.sW {b:Nat} {l vs:List Value} {t':TypeId} (hm:Upd bs (.box b l t') (.box b vs t') bs') (hp:ev L x=some (.pointer (some ⟨b,0,none⟩))) (hv:ev L y=some (.agg vs.toArray)) (hT:gH P T=some vs.length) (h1:∀ u∈vs,u.oneCell'=true) (ho:l.length=vs.length)
 (hr:kH dfs P ops hn w0 N L H bs' i pa) (h:fF dfs P ops hn w0 N E r pa L H bs'):fF dfs P ops hn w0 N E ((i,3,⟨none,.store T x y,ty,pos,aft,none⟩)::r) pa L H bs :=
 ⟨λ_ e=>(by cases e),aB3 hp hv hT h1 hm ho (into0 hr h)⟩
theorem fF.st {b off:Nat} {l l':List Value} {t':TypeId} (hm:Upd bs (.box b l t') (.box b l' t') bs') (hp:ev L x=some (.pointer (some ⟨b,off,none⟩))) (hv:ev L y=some v) (hT:gH P T=some 1) (h1:v.oneCell'=true) (ho:Nat.blt off l.length=true) (hl:l.set off v=l')
 (hr:kH dfs P ops hn w0 N L H bs' i pa) (h:fF dfs P ops hn w0 N E r pa L H bs'):fF dfs P ops hn w0 N E ((i,3,⟨none,.store T x y,ty,pos,aft,none⟩)::r) pa L H bs :=
 ⟨λ_ e=>(by cases e),store hp hv hT h1 hm (by simpa [rT] using ho) hl (into0 hr h)⟩
end
section
variable {N hn i k:Nat} {pa:List (Nat × Oper × Value)} {E:Sl->Hp->List Res->Prop} {r:PlT} {T:TypeId} {y:Operand} {bs':List Res}
theorem uK.blF {ps:List (Nat × Operand)} {pv:List (Nat × Value)} {len:Nat} {e:TypeId} {l:List Value} (hv:evp L ps=some pv) (hb:oK P T len pv=some (e,l)) (ht:Nat.blt t N=true)
 (h:∀ b H1,HUp w0 H H1->lB H1 b 0 l->iU dfs P ops hn w0 N E r pa ((t,.slice (some ⟨b,0,none⟩) len len)::L) H1 bs):uK dfs P ops hn w0 N E i k ⟨some t,.buildSlice T len ps.toArray,ty,pos,aft,none⟩ r pa L H bs :=
 ⟨rN ht,buildSlice hv hb ht λb=>dD λH1 u m=>uK.into (.inr<|.inl λ_ s=>s.weakH u.up) (h b H1 u m)⟩
theorem uK.into0 (hr:kH dfs P ops hn w0 N L H bs' i pa) (h:iU dfs P ops hn w0 N E r pa L H bs') :
 At dfs N L H w0 bs' (λa' W'=>∃ v H' bs'',Fr dfs N (putL none v L) a'/\St H' w0 bs'' W'/\(k=1\/(∀ W,St H' w0 bs'' W->St H w0 bs W)\/kH dfs P ops hn w0 N L H' bs'' i pa)/\iU dfs P ops hn w0 N E r pa (putL none v L) H' bs''):=λ_ _ f s=>⟨undef,H,bs',f,s,.inr (.inr hr),h⟩
end
end
section
variable {dfs:List Deferred} {P:Program} {L:Sl} {H:Hp} {w0:World} {bs:List Res} {ops:Array Oper}
variable {ty:TypeId} {pos:String} {aft:Array Edge} {t:Tmp}
variable {N hn i k:Nat} {pa:List (Nat × Oper × Value)} {E:Sl->Hp->List Res->Prop} {r:List (Nat × Nat × Oper)} {T:TypeId}
theorem fF.blF {ps:List (Nat × Operand)} {pv:List (Nat × Value)} {len:Nat} {e:TypeId} {l:List Value} (hv:evp L ps=some pv) (hb:oK P T len pv=some (e,l)) (ht:Nat.blt t N=true)
 (h:∀ b H1,HUp w0 H H1->lB H1 b 0 l->fF dfs P ops hn w0 N E r pa ((t,.slice (some ⟨b,0,none⟩) len len)::L) H1 bs):fF dfs P ops hn w0 N E ((i,k+1,⟨some t,.buildSlice T len ps.toArray,ty,pos,aft,none⟩)::r) pa L H bs :=
 ⟨rN ht,buildSlice hv hb ht λb=>dD λH1 u m=>fF.into (.inr<|.inl λ_ s=>s.weakH u.up) (h b H1 u m)⟩
end
class FW (F:Fence):Prop where
 fn:∀ f,F.fn f
 depth:F.depth=none
 calls:∀ {n:Nat} {P:Program} {f:FuncId} {args:Array Value} {w:World} {R:Ending->World->Prop},Calls P f args w R->CallsIn F n P f args w R
 rows:∀ {n:Nat} {P:Program} {r:String} {args:Array Value} {w:World} {R:Value->World->Prop},Rows P r args w R->RowsIn F n P r args w R
instance:FW Fence.wide:=⟨λ_=>trivial,Z,λh=>callsIn_wide.2 h,λh c cs _=>let ⟨v,w',r,s⟩:=h c cs;⟨v,w',r,stepsIn_wide.2 s⟩⟩
instance {l:Nat}:FW (Fence.wide.inRound l):=⟨λ_=>trivial,Z,λh=>CallsIn.inRound l (callsIn_wide.2 h),λh c cs _=>let ⟨v,w',r,s⟩:=h c cs;⟨v,w',r,stepsIn_wide.2 s⟩⟩
section
variable {dfs:List Deferred} {P:Program} {n m:Nat} {L:Sl} {H:Hp} {w0:World} {bs:List Res} {Q:Exit->Act->World->Prop} {ops:Array Oper} {rest:List Oper} {K:Act->World->Prop} {F:Fence}
variable {d:Option Tmp} {ty:TypeId} {pos:String} {aft:Array Edge} {g:Option (Nat × Bool)} {v:Value} {t:Tmp} {op:Op} {x y:Operand} {T:TypeId}
theorem aT5 [hF:FW F] {o:Oper} {a:Act} {w:World} (hd:∀ c,o.op≠.defer c) (h:o.wp P a w K (λ_ _ _=>False)):o.wpIn F m P a w K Q:=by
 unfold Oper.wpIn;refine ⟨λf _=>hF.fn f,?_⟩;rw [Oper.semAt_plain F _ _ hd];unfold Oper.wp at h;generalize (execOp a.eval o).run P w=r at *;cases r with
 | ok z w' =>
  cases z <;> simp only [Oper.upon] at h <;> simp only [Oper.uponIn]
  case value u=>exact h
  case skip=>exact h
  case defer d=>exact h
  case enter f args =>
   refine ⟨λe=>(by rw [hF.depth] at e;cases e),hF.calls (h.mono ?_)⟩;intro e w'' q;cases e with
   | returned v=>exact q
   | panicked c=>exact q.elim
   | outgrown=>obtain ⟨_,_,q⟩:=q;exact q.elim
  case row rw args=>exact ⟨λe=>(by rw [hF.depth] at e;cases e),hF.rows h⟩
 | halt z w' =>
  cases z <;> simp only [Oper.upon] at h
theorem YJ [hF:FW F] {o:Oper} (hd:∀ c,o.op≠.defer c) (h:At dfs n L H w0 bs (one P ops (λ_ _ _=>False) o (wpListIn F m P ops Q rest))):At dfs n L H w0 bs (wpListIn F m P ops Q (o::rest)):=by
 intro a W f s;have h1:=h a W f s;unfold one at h1;unfold wpListIn;cases hw:Region.wanted o (yielded ops a.tmps) with
 | true =>
  rw [hw] at h1;simp only [aN] at h1|-;rcases h1 with h1 | ⟨_,_,_,h1⟩
  ·exact aT5 hd h1
  ·exact h1.elim
 | false =>
  rw [hw] at h1;simp only [aC,aL] at h1|-;exact ⟨λf _=>hF.fn f,h1⟩
theorem At.rgI {id:Nat} {l:List Oper} (h:At dfs n L H w0 bs (wpListIn F m P l.toArray Q l)):At dfs n L H w0 bs ((Code.region id l.toArray false).wpIn F m P Q):=λa W f s=>wpIn_region_lit (h a W f s)
theorem At.rgW {id:Nat} {l:List Oper} (m:Nat) (h:At dfs n L H w0 bs (wpListIn Fence.wide m P l.toArray Q l)):At dfs n L H w0 bs ((Code.region id l.toArray false).wp P Q):=λa W f s=>wpIn_wide.1 (wpIn_region_lit (h a W f s))
theorem At.nlI (h:At dfs n L H w0 bs (Q .normal)):At dfs n L H w0 bs (wpListIn F m P ops Q []):=h
theorem At.yvI [FW F] (hy:Yl P L H w0 bs ⟨some t,op,ty,pos,aft,none⟩ v) (ht:Nat.blt t n=true) (h:At dfs n ((t,v)::L) H w0 bs (wpListIn F m P ops Q rest)) (hd:∀ c,op≠.defer c:=by intro c e;cases e):At dfs n L H w0 bs (wpListIn F m P ops Q (⟨some t,op,ty,pos,aft,none⟩::rest)):=YJ hd (yl hy ht h)
theorem At.mI [FW F] (hx:ev L x=some v) (ht:Nat.blt t n=true) (h:At dfs n ((t,v)::L) H w0 bs (wpListIn F m P ops Q rest)):At dfs n L H w0 bs (wpListIn F m P ops Q (⟨some t,.move x,ty,pos,aft,none⟩::rest)):=.yvI (.move hx) ht h
theorem At.blI [FW F] {ps:List (Nat × Operand)} {pv:List (Nat × Value)} {len:Nat} {e:TypeId} {l:List Value} (hv:evp L ps=some pv) (hb:oK P T len pv=some (e,l)) (ht:Nat.blt t n=true)
 (h:∀ b,At dfs n ((t,.slice (some ⟨b,0,none⟩) len len)::L) H w0 (.box b l e::bs) (wpListIn F m P ops Q rest)):At dfs n L H w0 bs (wpListIn F m P ops Q (⟨some t,.buildSlice T len ps.toArray,ty,pos,aft,none⟩::rest)):=YJ (by intro c e;cases e) (buildSlice hv hb ht h)
theorem At.alI [FW F] {l:List Value} (hz:mD P T=some l) (ht:Nat.blt t n=true) (h:∀ b,At dfs n ((t,.pointer (some ⟨b,0,none⟩))::L) H w0 (.box b l T::bs) (wpListIn F m P ops Q rest)):At dfs n L H w0 bs (wpListIn F m P ops Q (⟨some t,.alloc T,ty,pos,aft,none⟩::rest)):=YJ (by intro c e;cases e) (alloc hz ht h)
theorem At.stI [FW F] {b off:Nat} {l l':List Value} {t':TypeId} {bs':List Res} (hm:Upd bs (.box b l t') (.box b l' t') bs') (hp:ev L x=some (.pointer (some ⟨b,off,none⟩))) (hv:ev L y=some v) (hT:gH P T=some 1) (h1:v.oneCell'=true) (ho:off<l.length) (hl:l.set off v=l') (h:At dfs n L H w0 bs' (wpListIn F m P ops Q rest)) :
 At dfs n L H w0 bs (wpListIn F m P ops Q (⟨none,.store T x y,ty,pos,aft,none⟩::rest)):=YJ (by intro c e;cases e) (store hp hv hT h1 hm ho hl h)
theorem At.sWI [FW F] {b:Nat} {l vs:List Value} {t':TypeId} {bs':List Res} (hm:Upd bs (.box b l t') (.box b vs t') bs') (hp:ev L x=some (.pointer (some ⟨b,0,none⟩))) (hv:ev L y=some (.agg vs.toArray)) (hT:gH P T=some vs.length) (h1:∀ u∈vs,u.oneCell'=true) (ho:l.length=vs.length) (h:At dfs n L H w0 bs' (wpListIn F m P ops Q rest)) :
 At dfs n L H w0 bs (wpListIn F m P ops Q (⟨none,.store T x y,ty,pos,aft,none⟩::rest)):=YJ (by intro c e;cases e) (aB3 hp hv hT h1 hm ho h)
end
/-! ### The caller's side of a range over a function -/
section
variable {H:Hp} {w0 W W':World} {bs:List Res}
theorem St.beside {row:Option Nat} (s:St H w0 bs W) (g:W.grownBy W' row) (hr:∀ r,row=some r->w0.heap.size<=r/\H r=none/\∀ x∈bs,x.blk≠some r):St H w0 bs W':=by
 have hb:∀ k,k<W.heap.size->(∀ r,row=some r->k≠r)->W'.heap[k]? = W.heap[k]? := λk hk hn=>g.block k hk (λe=>hn k e.symm rfl);refine ⟨?_,?_,?_,s.apart⟩
 ·have e:=s.ext;unfold Ext at e|-;refine ⟨g.os.trans e.os,g.tape.trans e.tape,g.output.trans e.output,cN e.size g.size,λk hk=>?_⟩;exact (hb k (jO hk e.size) (λr e' h=>by have:=(hr r e').1;omega)).trans (e.block k hk)
 ·intro b o e;have:=s.agr b o e;rw [hb b (sI this) (λr e' h=>by subst h;rw [(hr b e').2.1] at e;cases e)];exact this
 ·intro x hx;exact ⟨(s.own x hx).1.keep g.size (λb e=>hb b ((s.own x hx).1.lt e).2 (λr e' h=>by subst h;exact (hr b e').2.2 x hx e)),(s.own x hx).2⟩
def aL5:List Res->Bool
 | []=>true
 | .box ..::r=>aL5 r
 | .row ..::r=>aL5 r
 | _::_=>false
theorem KU:∀ {bs:List Res},aL5 bs=true->∀ x∈bs,∀ base,x.ok base W->∀ b,x.blk=some b->∃ o,W.heap[b]? = some o/\o.isCells=true
 | [],_,x,hx,_,_,_,_=>by cases hx
 | .box c l t::r,h,x,hx,base,ho,b,e=>by
  rcases bJ.1 hx with rfl | hx
  ·obtain rfl:c=b:=aW e;exact ⟨_,ho.2,Z⟩
  ·exact KU (bs:=r) h x hx base ho b e
 | .row et size v n xs::r,h,x,hx,base,ho,b,e=>by
  rcases bJ.1 hx with rfl | hx
  ·obtain ⟨_,⟨rfl,_⟩ | ⟨g,cap,cur,rfl,hg,hc,_⟩⟩:=ho
   ·cases e
   ·obtain rfl:g=b:=aW e;exact ⟨_,hc,Z⟩
  ·exact KU (bs:=r) h x hx base ho b e
 | .obj ..::_,h,_,_,_,_,_,_=>by cases h
 | .big ..::_,h,_,_,_,_,_,_=>by cases h
theorem aC5 (s:St H w0 bs W) (h:aL5 bs=true) {r:Nat} {o:Obj} (ho:W.heap[r]? = some o) (hc:o.isCells=false):∀ x∈bs,x.blk≠some r:=by
 intro x hx e;obtain ⟨o',h1,h2⟩:=KU h x hx _ (s.own x hx).1 r e;rw [ho] at h1;cases h1;rw [hc] at h2;cases h2
theorem dB4 {α Z:Type} {B:Nat} {C:List α->Z->Prop} {rs:Z->List Res} (hB:w0.heap.size<=B) (hH:∀ r,B<=r->H r=none) (hn:∀ pre z,C pre z->aL5 (rs z)=true) :
 OwnFrom B (λpre W=>∃ z,C pre z/\St H w0 (rs z) W):=by
 rintro pre X Y row ⟨z,hz,s⟩ hg hr
 exact ⟨z,hz,s.beside hg λr e=>by
  obtain ⟨h1,o,h2,h3⟩:=hr r e;exact ⟨cN hB h1,hH r h1,aC5 s (hn _ _ hz) h2 h3⟩⟩
theorem St.less {H':Hp} (s:St H' w0 bs W) (u:Up H H'):St H w0 bs W:=⟨s.ext,λb o e=>s.agr b o (u b o e),λx hx=>⟨(s.own x hx).1,λb e=>by
 cases h:H b with
 | none=>rfl
 | some o=>have:=(s.own x hx).2 b e;rw [u b o h] at this;cases this⟩,s.apart⟩
theorem St.front {tl:List Res} (s:St H w0 (bs++tl) W):St H w0 bs W:=⟨s.ext,s.agr,λx hx=>s.own x (sP _ hx),(kR.1 s.apart).1⟩
def tailOf (B:Nat) (W:World):List Res:=.big W.heap.size::(List.range' B (W.heap.size - B)).filterMap λk=>match W.heap[k]? with
 | some o=>if o.isCells then none else some (.obj k o)
 | none=>none
theorem KV {B:Nat} {x:Res} (h:x∈tailOf B W):x=.big W.heap.size\/∃ k o,x=.obj k o/\W.heap[k]? = some o/\o.isCells=false/\B<=k:=by
 rcases bJ.1 h with rfl | h
 ·exact .inl Z
 ·obtain ⟨k,hk,he⟩:=uN.1 h;cases ho:W.heap[k]? with
  | none=>rw [ho] at he;cases he
  | some o =>
   rw [ho] at he;cases hc:o.isCells with
   | true=>simp [hc] at he
   | false=>exact .inr ⟨k,o,by simpa [hc] using he.symm,ho,hc,by have:=List.mem_range'_1.1 hk;omega⟩
theorem St.tailOf {B:Nat} (s:St H w0 bs W) (hn:aL5 bs=true) (hB:w0.heap.size<=B) (hH:∀ r,B<=r->H r=none):St H w0 (bs++tailOf B W) W:=by
 refine ⟨s.ext,s.agr,?_,kR.2 ⟨s.apart,?_,?_⟩⟩
 ·intro x hx;rcases gJ.1 hx with hx | hx
  ·exact s.own x hx
  ·rcases KV hx with rfl | ⟨k,o,rfl,ho,hc,hk⟩
   ·exact ⟨aK _,λb e=>by cases e⟩
   ·exact ⟨⟨cN hB hk,ho⟩,λb e=>by obtain rfl:k=b:=aW e;exact hH k hk⟩
 ·refine .cons (λy _ b e=>by cases e) ?_;refine List.Pairwise.filterMap _ ?_ (List.pairwise_lt_range' (s:=B) (n:=W.heap.size - B));intro k j hlt x hx y hy b e e'
  have key:∀ (m:Nat) (u:Res),(match W.heap[m]? with | some o=>if o.isCells then none else some (Res.obj m o) | none=>none)=some u->u.blk=some m:=by
   intro m u hu;cases ho:W.heap[m]? with
   | none=>rw [ho] at hu;cases hu
   | some o =>
    rw [ho] at hu;cases hc:o.isCells with
    | true=>simp [hc] at hu
    | false =>
     simp [hc] at hu;rw [<-hu];rfl
  have h1:=key k x hx;have h2:=key j y hy;rw [h1] at e;rw [h2] at e';cases e;cases e';omega
 ·intro x hx y hy b e e';rcases KV hy with rfl | ⟨k,o,rfl,ho,hc,hk⟩
  ·cases e'
  ·obtain rfl:k=b:=aW e';exact aC5 s hn ho hc x hx e
theorem St.keepsFrom {B:Nat} (s:St H w0 (bs++Sx.tailOf B W) W'):KeepsFrom B W W':=by
 refine ⟨?_,λk o hk ho hc=>?_⟩
 ·exact (s.own _ (rU _ (eE ..))).1
 ·have hm:Res.obj k o∈Sx.tailOf B W:=by
   refine gA _ (uN.2 ⟨k,List.mem_range'_1.2 ?_,?_⟩)
   ·have:=sI ho;omega
   ·rw [ho];simp [hc]
  exact ((s.own _ (rU _ hm)).1).2
def KpH (H:Hp) (W W':World):Prop:=Agr H W->Agr H W'
def rE {α Z:Type} (C:List α->Z->Prop) (rs:Z->List Res) (H:Hp) (w0:World) (tl:List Res) (xs:List α):Exit->Act->World->Prop
 | .normal,_,W=>∃ z,C xs z/\St H w0 (rs z++tl) W
 | _,_,_=>False
theorem At.rE {α Z:Type} {C:List α->Z->Prop} {rs:Z->List Res} {tl:List Res} {xs:List α} {dfs:List Deferred} {n:Nat} {L:Sl} {H':Hp} (z:Z) (u:Up H H') (hz:C xs z) (hb:bs=rs z++tl) :
 At dfs n L H' w0 bs (Sx.rE C rs H w0 tl xs .normal):=λa W f s=>⟨z,hz,by rw [<-hb];exact s.less u⟩
end
/-! ### A function with a range over a function in it -/
section
variable {P:Program} {n:Nat} {L:Sl} {H:Hp} {w0:World} {bs bs':List Res} {fn:Func} {R:Ending->World->Prop} {v:Value} {D:Nat}
theorem enterM {f:FuncId} {c:Code} {args:List Value} {w:World} (hf:P.funcs[f]? = some fn) (hb:fn.body=some c) (hn:fn.ntmps=n) (hl:Nat.ble args.length n=true) (hA:Agr H w)
 (h:At [] n (PW 0 args) H w [] (c.wp P (bodyPostM Fence.wide 9 P fn R))):Calls P f args.toArray w R:=by
 refine callsIn_wide.1 (callsIn_of_wp_marks (n:=9) hf hb trivial (wpIn_wide.2 (h _ _ ⟨?_,Z,?_⟩ (.start hA))))
 ·have:args.length<=n:=nY hl;simp [hn];omega
 ·intro t v e;obtain ⟨_,h2⟩:=MC args 0 t v e;rw [BJ] at h2;have hlt:t<args.length:=(List.getElem?_eq_some_iff.1 h2).1;rw [Al_Array_getD_eq_getD_getElem?];rw [Array.getElem?_append_left (by simpa using hlt)];simp [h2]
theorem St.shut {W:World} (s:St H w0 bs W) (u:Upd bs (.obj D (.deferred (some []))) (.obj D (.deferred none)) bs'):St H w0 bs' (W.putObj D (.deferred none)):=by
 obtain ⟨h1,h2⟩:=(s.own _ u.mem).1;have hlt:=sI h2;have e:=s.ext;refine s.upd u ?_ (by simp [World.putObj]) ?_ ⟨h1,World.putObj_heap_same hlt⟩ (λb e=>.inl e)
 ·unfold Ext at e|-;exact e.grown (grownBy_putObj' W D _) (by omega) (λk e=>by cases e;exact h1)
 ·intro b _ hne;exact World.putObj_heap_other (λh=>hne (by rw [h];rfl))
theorem ret0M {e:Exit} (he:e=.ret\/e=.normal) (h:At [] n L H w0 bs (bodyPost P fn R e)):At [] n L H w0 bs (bodyPostM Fence.wide 9 P fn R e):=by
 intro a W f s;obtain ⟨h1,v,h2,h3⟩:bodyPost P fn R .ret a W:=by rcases he with rfl | rfl <;> exact h a W f s
 have h4:LeavesInM Fence.wide 9 P fn a.tmps R a.defers .returning W:=by
  rw [h1];exact ⟨v,h2,h3⟩
 rcases he with rfl | rfl <;> exact h4
theorem retM {e:Exit} (he:e=.ret\/e=.normal) (u:Upd bs (.obj D (.deferred (some []))) (.obj D (.deferred none)) bs') (h:At [] n L H w0 bs' (bodyPost P fn R .ret)) :
 At [{ target:=.collected D,args:=#[] }] n L H w0 bs (bodyPostM Fence.wide 9 P fn R e):=by
 intro a W f s;obtain ⟨_,v,h2,h3⟩:=h { a with defers:=[] } _ ⟨f.size,Z,f.slot⟩ (s.shut u)
 have h4:LeavesInM Fence.wide 9 P fn a.tmps R a.defers .returning W:=by
  rw [f.defers];exact ⟨(by intro e;cases e),.inl ⟨D,_,Z,run_takeDeferred (s.own _ u.mem).1.2,v,h2,h3⟩⟩
 rcases he with rfl | rfl <;> exact h4
end
/-! ### The iterator's side -/
section
variable {dfs:List Deferred} {P:Program} {n m l:Nat} {L:Sl} {H:Hp} {w0:World} {bs:List Res} {Q:Exit->Act->World->Prop} {ops:Array Oper} {rest:List Oper} {F:Fence}
variable {d:Option Tmp} {ty:TypeId} {pos:String} {aft:Array Edge} {g:Option (Nat × Bool)} {t:Tmp} {x:Operand} {xs:List Operand} {vs:List Value} {ats:Array TypeId}
theorem Ext.grownBy {W W':World} (e:Ext W W'):W.grownBy W' none:=by
 unfold Ext at e;exact ⟨e.os,e.tape,e.output,e.size,λk hk _=>e.block k hk⟩
theorem AbidesFrom.ext {β:Type} {B:Nat} {J:β->World->Prop} (h:AbidesFrom B J) {s:β} {W W':World} (hs:J s W) (e:Ext W W'):J s W':=h s W W' none hs (Ext.grownBy e) (λr h=>by cases h)
theorem aW8 {a:Act} {W W':World} {r:Next} (f0:∀ x u,ev L x=some u->a.eval x=u) (hx:ev L x=some (.func (.yield l) #[] #[])) (hv:evs L xs=some vs) (hr:(Instr.yield l vs.toArray).run P W=.ok r W') :
 (execOp a.eval ⟨d,.call ⟨.value x,xs.toArray,ats⟩,ty,pos,aft,g⟩).run P W=.ok r W':=by
 unfold execOp;simp [resolve,Deferred.ofValue,f0 _ _ hx,invoke,FV f0 hv,hr]
theorem At.yd [hF:FW F] {J Jx:World->Prop} (hx:ev L x=some (.func (.yield l) #[] #[])) (hv:evs L xs=some vs) (ht:Nat.blt t n=true)
 (hy:∀ W,St H w0 bs W->YieldAt F (m - 1) P l vs.toArray W λe W'=>(e=.returned (.bool true)/\J W'/\KpH H W W')\/(e=.returned (.bool false)/\Jx W'))
 (h1:∀ w1,J w1->At dfs n ((t,.bool true)::L) H w1 [] (wpListIn F m P ops Q rest))
 (h2:∀ w1,Jx w1->At dfs n ((t,.bool false)::L) (λ_=>none) w1 [] (wpListIn F m P ops Q rest)) :
 At dfs n L H w0 bs (wpListIn F m P ops Q (⟨some t,.call ⟨.value x,xs.toArray,ats⟩,ty,pos,aft,none⟩::rest)):=by
 intro a W f s;unfold wpListIn;rw [aE (by simp [Region.wanted])];unfold Oper.wpIn;refine ⟨λf _=>hF.fn f,?_⟩;rw [Oper.semAt_plain F _ _ (by intro c e;cases e)];obtain ⟨fn,tmps,assign,body,hr,hR⟩:=hy W s;rw [aW8 (λx u e=>f.ev e) hx hv hr];refine ⟨λe=>(by rw [hF.depth] at e;cases e),hR.mono ?_⟩;rintro e W' (⟨rfl,hj,hk⟩ | ⟨rfl,hj⟩)
 ·exact h1 W' hj _ _ (f.put ht _) (.start (hk s.agr))
 ·exact h2 W' hj _ _ (f.put ht _) (.start (λb o e=>by cases e))
theorem At.lj {c:Code} {X:Type} (L':X->Sl) (J:X->World->Prop) (C:X->Prop) (μ:X->Nat) (x0:X) (hC:C x0) (hL:Sub L (L' x0)) (hJ:J x0 w0)
 (round:∀ x w1,C x->J x w1->At dfs n (L' x) H w1 [] (c.wp P (Exit.then (λa W=>∃ y w2,(C y/\μ y<μ x)/\J y w2/\Fr dfs n (L' y) a/\St H w2 [] W) Q))) :
 At dfs n L H w0 [] ((Code.loop c).wp P Q):=by
 intro a W f s;refine wp_loop_ghost (λm a W=>∃ x w1,μ x=m/\C x/\J x w1/\Fr dfs n (L' x) a/\St H w1 [] W) _ ⟨x0,w0,Z,hC,hJ,f.sub hL,s⟩ ?_;rintro m a W ⟨x,w1,rfl,hx,hj,f,s⟩;refine wp_mono (round x w1 hx hj a W f s) λe a' W' q=>?_;cases e <;> first | exact q | skip
 obtain ⟨y,w2,⟨hy,hlt⟩,hj,fy,sy⟩:=q;exact ⟨_,hlt,y,w2,Z,hy,hj,fy,sy⟩
theorem At.aj {X:Type} {J:X->World->Prop} {L':X->Sl} {C:X->Prop} {μ:X->Nat} {x:X} (y:X) (hC:C y) (hm:μ y<μ x) (hJ:J y w0) (hL:Sub L (L' y)) :
 At dfs n L H w0 [] (λa W=>∃ y w2,(C y/\μ y<μ x)/\J y w2/\Fr dfs n (L' y) a/\St H w2 [] W):=λ_ W f s=>⟨y,w0,⟨hC,hm⟩,hJ,f.sub hL,s⟩
theorem seqStops {α:Type} {gf:Nat} {lb:List Value} {enc:α->Value} {S:List α->Prop} {N:Nat} {w:World} {fn:Func} {c:Code} (hf:P.funcs[gf]? = some fn) (hb:fn.body=some c) (hn:fn.ntmps=n) (hl:Nat.ble (lb.length+1) n=true)
 (hA:∀ W,Ext w W->Agr H W)
 (h:∀ l (J Jx:List α->World->Prop) W,(∀ s A B,J s A->Ext A B->J s B)->(∀ s A B,Jx s A->Ext A B->Jx s B) ->
  (∀ pre x W1,J pre W1->pre.length<N->YieldAt Fence.wide 7 P l #[enc x] W1 λe W'=>(e=.returned (.bool true)/\J (pre++[x]) W'/\KpH H W1 W')\/(e=.returned (.bool false)/\Jx (pre++[x]) W')) ->
  J [] W->At [] n (PW 0 (.func (.yield l) #[] #[]::lb)) H W [] (c.wp P (bodyPost P fn λe W'=>(∃ v,e=.returned v)/\((∃ xs,S xs/\J xs W')\/(∃ pre,True/\Jx pre W'))))) :
 SeqStopsK Fence.wide 8 P gf lb.toArray (λx=>#[enc x]) (KpH H) S (λ_=>True) N w:=by
 intro l J Jx W hW hJ hJx hY h0;refine callsIn_wide.2 ?_;have:(#[Value.func (.yield l) #[] #[]]++lb.toArray:Array Value)=(Value.func (.yield l) #[] #[]::lb).toArray:=by simp
 rw [this];exact enter hf hb hn hl (hA W (by unfold Ext;exact hW)) (h l J Jx W (λs A B h e=>Sx.AbidesFrom.ext hJ h e) (λs A B h e=>Sx.AbidesFrom.ext hJx h e) hY h0)
end
variable {W:World}
theorem Res.ok.base {b:Nat} {x:Res} (h:x.ok c W) (hb:b<=c):x.ok b W:=by
 cases x with
 | box d l t=>exact ⟨cN hb h.1,h.2⟩
 | obj d o=>exact ⟨cN hb h.1,h.2⟩
 | big d=>exact h
 | row et size v n xs =>
  obtain ⟨hl,⟨rfl,h0⟩ | ⟨g,cap,cur,rfl,hg,hc,hr⟩⟩:=h
  ·exact ⟨hl,.inl ⟨Z,h0⟩⟩
  ·exact ⟨hl,.inr ⟨g,cap,cur,Z,cN hb hg,hc,hr⟩⟩
variable {w0 W':World}
theorem St.join (s:St H w0 bs W) (u:HUp W H H') (k:St H' W bs' W'):St H' w0 (bs'++bs) W':=by
 refine ⟨s.ext.trans k.ext,k.agr,λx hx=>?_,kR.2 ⟨k.apart,s.apart,λx hx y hy b e e'=>?_⟩⟩
 ·rcases gJ.1 hx with hx | hx
  ·exact ⟨(k.own x hx).1.base s.ext.size,(k.own x hx).2⟩
  ·exact ⟨(s.own x hx).1.ext k.ext,λb e=>u.new b ((s.own x hx).2 b e) ((s.own x hx).1.lt e).2⟩
 ·have h1:=((k.own x hx).1.lt e).1;have h2:=((s.own y hy).1.lt e').2;omega
section
variable {dfs:List Deferred} {P:Program} {L:Sl} {H:Hp} {w0:World} {bs:List Res} {ops:Array Oper}
variable {ty:TypeId} {pos:String} {aft:Array Edge} {t:Tmp} {x:Operand}
variable {N hn i k:Nat} {pa:List (Nat × Oper × Value)} {E:Sl->Hp->List Res->Prop} {r:List (Nat × Nat × Oper)}
theorem fF.v3 {X:Type} {f:FuncId} {xs:List Operand} {vs fi ca:List Value} {ats:Array TypeId} {C:X->Prop} {val:X->Value} {H':X->Hp} {bs':X->List Res} (hx:ev L x=some (.func (.func f) fi.toArray ca.toArray)) (hf:cU P f=true) (hv:evs L xs=some vs)
 (hc:∀ W,St H w0 bs W->Calls P f (fi++vs++ca).toArray W λe W'=>∃ x,C x/\e=.returned (val x)/\St (H' x) w0 (bs' x) W') (ht:Nat.blt t N=true)
 (hr:∀ x,C x->kH dfs P ops hn w0 N L (H' x) (bs' x) i pa) (h:∀ x,C x->fF dfs P ops hn w0 N E r pa ((t,val x)::L) (H' x) (bs' x)):fF dfs P ops hn w0 N E ((i,3,⟨some t,.call ⟨.value x,xs.toArray,ats⟩,ty,pos,aft,none⟩)::r) pa L H bs :=
 ⟨rN ht,cG5 hx hf hv hc ht λx hx=>fF.into (.inr<|.inr<|hr x hx) (h x hx)⟩
end
end Go.Sx
namespace Go.Proofs.YthhoebdlfjffkaaGreatDoor
open Go.RowKit Go.Par Go.Sx
theorem aR2 (x0 x1 x2 x3 x4 x5 x6 x7 x8 x9 x10 x11 x12 x13 x14 x15 x16 x17 x18 x19 x20 x21 x22 x23 x24:ByteArray):oK prg 52 25 [(0,.string x0),(1,.string x1),(2,.string x2),(3,.string x3),(4,.string x4),(5,.string x5),(6,.string x6),(7,.string x7),(8,.string x8),(9,.string x9),(10,.string x10),(11,.string x11),(12,.string x12),(13,.string x13),(14,.string x14),(15,.string x15),(16,.string x16),(17,.string x17),(18,.string x18),(19,.string x19),(20,.string x20),(21,.string x21),(22,.string x22),(23,.string x23),(24,.string x24)]=some (9,[.string x0,.string x1,.string x2,.string x3,.string x4,.string x5,.string x6,.string x7,.string x8,.string x9,.string x10,.string x11,.string x12,.string x13,.string x14,.string x15,.string x16,.string x17,.string x18,.string x19,.string x20,.string x21,.string x22,.string x23,.string x24]):=by kernel_rfl
theorem aR1 (x0 x1 x2 x3 x4 x5 x6 x7 x8 x9 x10 x11 x12 x13 x14 x15 x16 x17 x18 x19 x20 x21 x22 x23 x24 x25 x26 x27 x28 x29 x30 x31 x32 x33 x34 x35 x36 x37 x38:ByteArray):oK prg 52 39 [(0,.string x0),(1,.string x1),(2,.string x2),(3,.string x3),(4,.string x4),(5,.string x5),(6,.string x6),(7,.string x7),(8,.string x8),(9,.string x9),(10,.string x10),(11,.string x11),(12,.string x12),(13,.string x13),(14,.string x14),(15,.string x15),(16,.string x16),(17,.string x17),(18,.string x18),(19,.string x19),(20,.string x20),(21,.string x21),(22,.string x22),(23,.string x23),(24,.string x24),(25,.string x25),(26,.string x26),(27,.string x27),(28,.string x28),(29,.string x29),(30,.string x30),(31,.string x31),(32,.string x32),(33,.string x33),(34,.string x34),(35,.string x35),(36,.string x36),(37,.string x37),(38,.string x38)]=some (9,[.string x0,.string x1,.string x2,.string x3,.string x4,.string x5,.string x6,.string x7,.string x8,.string x9,.string x10,.string x11,.string x12,.string x13,.string x14,.string x15,.string x16,.string x17,.string x18,.string x19,.string x20,.string x21,.string x22,.string x23,.string x24,.string x25,.string x26,.string x27,.string x28,.string x29,.string x30,.string x31,.string x32,.string x33,.string x34,.string x35,.string x36,.string x37,.string x38]):=by kernel_rfl
theorem qC:jP prg 133=some (some 3):=by kernel_rfl
theorem UU:cU prg 131=true:=by kernel_rfl
theorem GH:cU prg 132=true:=by kernel_rfl
theorem bA5:cU prg 133=true:=by kernel_rfl
theorem bA4:cU prg 134=true:=by kernel_rfl
theorem lW:gH prg 133=some 3:=by kernel_rfl
theorem xV:mD prg 133=some
 [Go.Value.int Go.IntKind.i64 (Int.ofNat 0),Go.Value.string { data:={ toList:=[] } },
  Go.Value.int Go.IntKind.i64 (Int.ofNat 0)]:=by kernel_rfl
theorem nG (x0:Int) (x1:ByteArray) (x2:Int):gE prg 133 [(0,.int .i64 x0),(1,.string x1),(2,.int .i64 x2)]=some [.int .i64 x0,.string x1,.int .i64 x2]:=by kernel_rfl
theorem ZH:cU prg 92=true:=by kernel_rfl
theorem bQ8:cU prg 93=true:=by kernel_rfl
theorem nW:dL prg 133 1=some 1:=by kernel_rfl
theorem cI2:tM prg 73=some (133,3,32):=by kernel_rfl
theorem bC1 (x00 x01 x02:Value):oK prg 73 1 [(0,.agg [x00,x01,x02].toArray)]=some (133,[x00,x01,x02]):=by kernel_rfl
theorem xP:jP prg 5=some none:=by kernel_rfl
theorem bB9:aE9 prg 40=true:=by kernel_rfl
theorem tY:dL prg 172 6=some 6:=by kernel_rfl
theorem bC4 (x0 x1:Int):oK prg 40 2 [(0,.int .u8 x0),(1,.int .u8 x1)]=some (5,[.int .u8 x0,.int .u8 x1]):=by kernel_rfl
theorem qT:cU prg 65=true:=by kernel_rfl
theorem lX:cU prg 143=true:=by kernel_rfl
theorem WK:dL prg 172 0=some 0:=by kernel_rfl
theorem nA:cU prg 160=true:=by kernel_rfl
theorem LN:cU prg 162=true:=by kernel_rfl
theorem wV:dL prg 172 1=some 1:=by kernel_rfl
theorem AH:dL prg 172 5=some 5:=by kernel_rfl
theorem CU:slN prg 129=some 1:=by kernel_rfl
theorem DE (x0:Int):gE prg 33 [(0,.int .i64 x0)]=some [.int .i64 x0,.string ⟨#[]⟩,.int .i64 0,.slice none 0 0]:=by kernel_rfl
theorem rA (x0:Int) (x1:ByteArray):gE prg 33 [(0,.int .i64 x0),(1,.string x1)]=some [.int .i64 x0,.string x1,.int .i64 0,.slice none 0 0]:=by kernel_rfl
theorem HU (x0:Int) (x1:ByteArray) (x3p:Option Addr) (x3n x3c:Nat):gE prg 33 [(0,.int .i64 x0),(1,.string x1),(3,.slice x3p x3n x3c)]=some [.int .i64 x0,.string x1,.int .i64 0,.slice x3p x3n x3c]:=by kernel_rfl
theorem NM (x0 x2:Int):gE prg 33 [(0,.int .i64 x0),(2,.int .i64 x2)]=some [.int .i64 x0,.string ⟨#[]⟩,.int .i64 x2,.slice none 0 0]:=by kernel_rfl
theorem qZ (x0:Int) (x3p:Option Addr) (x3n x3c:Nat):gE prg 33 [(0,.int .i64 x0),(3,.slice x3p x3n x3c)]=some [.int .i64 x0,.string ⟨#[]⟩,.int .i64 0,.slice x3p x3n x3c]:=by kernel_rfl
theorem QO (x0 x1 x2 x3 x4 x5:Int):oK prg 129 6 [(0,.int .i64 x0),(1,.int .i64 x1),(2,.int .i64 x2),(3,.int .i64 x3),(4,.int .i64 x4),(5,.int .i64 x5)]=some (3,[.int .i64 x0,.int .i64 x1,.int .i64 x2,.int .i64 x3,.int .i64 x4,.int .i64 x5]):=by kernel_rfl
theorem fT (x00 x01 x02 x03:Value):oK prg 31 1 [(0,.agg [x00,x01,x02,x03].toArray)]=some (33,[x00,x01,x02,x03]):=by kernel_rfl
theorem yA (x00 x01 x02 x03 x10 x11 x12 x13:Value):oK prg 31 2 [(0,.agg [x00,x01,x02,x03].toArray),(1,.agg [x10,x11,x12,x13].toArray)]=some (33,[x00,x01,x02,x03,x10,x11,x12,x13]):=by kernel_rfl
theorem vJ:tM prg 31=some (33,4,56):=by kernel_rfl
theorem zV:cU prg 159=true:=by kernel_rfl
theorem KG:dL prg 172 2=some 2:=by kernel_rfl
theorem FL:jP prg 129=some none:=by kernel_rfl
theorem CC:jP prg 169=some none:=by kernel_rfl
theorem fH:jP prg 205=some (some 6):=by kernel_rfl
theorem tH:cU prg 109=true:=by kernel_rfl
theorem xZ:cU prg 161=true:=by kernel_rfl
theorem EI:dL prg 172 3=some 3:=by kernel_rfl
theorem tZ:dL prg 172 4=some 4:=by kernel_rfl
theorem fB:gH prg 205=some 6:=by kernel_rfl
theorem FF:slN prg 169=some 1:=by kernel_rfl
theorem rO:mD prg 205=some
 [Go.Value.int Go.IntKind.i64 (Int.ofNat 0),Go.Value.string { data:={ toList:=[] } },
  Go.Value.string { data:={ toList:=[] } },Go.Value.slice none 0 0,Go.Value.slice none 0 0,
  Go.Value.slice none 0 0]:=by kernel_rfl
theorem QQ (x0:Int):gE prg 205 [(0,.int .i64 x0)]=some [.int .i64 x0,.string ⟨#[]⟩,.string ⟨#[]⟩,.slice none 0 0,.slice none 0 0,.slice none 0 0]:=by kernel_rfl
theorem yT (x0:Int) (x1 x2:ByteArray) (x3p:Option Addr) (x3n x3c:Nat):gE prg 205 [(0,.int .i64 x0),(1,.string x1),(2,.string x2),(3,.slice x3p x3n x3c)]=some [.int .i64 x0,.string x1,.string x2,.slice x3p x3n x3c,.slice none 0 0,.slice none 0 0]:=by kernel_rfl
theorem xO (x0:Int) (x1:ByteArray) (x3p:Option Addr) (x3n x3c:Nat):gE prg 205 [(0,.int .i64 x0),(1,.string x1),(3,.slice x3p x3n x3c)]=some [.int .i64 x0,.string x1,.string ⟨#[]⟩,.slice x3p x3n x3c,.slice none 0 0,.slice none 0 0]:=by kernel_rfl
theorem DX (x0:Int) (x1:ByteArray) (x3p:Option Addr) (x3n x3c:Nat) (x5p:Option Addr) (x5n x5c:Nat):gE prg 205 [(0,.int .i64 x0),(1,.string x1),(3,.slice x3p x3n x3c),(5,.slice x5p x5n x5c)]=some [.int .i64 x0,.string x1,.string ⟨#[]⟩,.slice x3p x3n x3c,.slice none 0 0,.slice x5p x5n x5c]:=by kernel_rfl
theorem BH (x0:Int) (x2:ByteArray) (x3p:Option Addr) (x3n x3c:Nat):gE prg 205 [(0,.int .i64 x0),(2,.string x2),(3,.slice x3p x3n x3c)]=some [.int .i64 x0,.string ⟨#[]⟩,.string x2,.slice x3p x3n x3c,.slice none 0 0,.slice none 0 0]:=by kernel_rfl
theorem GN (x0:Int) (x3p:Option Addr) (x3n x3c:Nat) (x4p:Option Addr) (x4n x4c:Nat):gE prg 205 [(0,.int .i64 x0),(3,.slice x3p x3n x3c),(4,.slice x4p x4n x4c)]=some [.int .i64 x0,.string ⟨#[]⟩,.string ⟨#[]⟩,.slice x3p x3n x3c,.slice x4p x4n x4c,.slice none 0 0]:=by kernel_rfl
theorem DW (x0:Int) (x3p:Option Addr) (x3n x3c:Nat) (x4p:Option Addr) (x4n x4c:Nat) (x5p:Option Addr) (x5n x5c:Nat):gE prg 205 [(0,.int .i64 x0),(3,.slice x3p x3n x3c),(4,.slice x4p x4n x4c),(5,.slice x5p x5n x5c)]=some [.int .i64 x0,.string ⟨#[]⟩,.string ⟨#[]⟩,.slice x3p x3n x3c,.slice x4p x4n x4c,.slice x5p x5n x5c]:=by kernel_rfl
theorem BG (x0:Int) (x3p:Option Addr) (x3n x3c:Nat) (x5p:Option Addr) (x5n x5c:Nat):gE prg 205 [(0,.int .i64 x0),(3,.slice x3p x3n x3c),(5,.slice x5p x5n x5c)]=some [.int .i64 x0,.string ⟨#[]⟩,.string ⟨#[]⟩,.slice x3p x3n x3c,.slice none 0 0,.slice x5p x5n x5c]:=by kernel_rfl
theorem bA0:cU prg 144=true:=by kernel_rfl
theorem AG:dL prg 172 7=some 7:=by kernel_rfl
theorem ZB:tM prg 156=some (205,6,112):=by kernel_rfl
theorem QM (x00 x01 x02 x03 x04 x05:Value):oK prg 156 1 [(0,.agg [x00,x01,x02,x03,x04,x05].toArray)]=some (205,[x00,x01,x02,x03,x04,x05]):=by kernel_rfl
theorem bV4:jP prg 174=some (some 2):=by kernel_rfl
theorem JF:cU prg 64=true:=by kernel_rfl
theorem KD:dL prg 174 1=some 1:=by kernel_rfl
theorem PD:tM prg 152=some (158,3,64):=by kernel_rfl
theorem aY7:gH prg 174=some 2:=by kernel_rfl
theorem tQ:slN prg 165=some 2:=by kernel_rfl
theorem aY3:mD prg 174=some [Go.Value.int Go.IntKind.u8 (Int.ofNat 0),Go.Value.slice none 0 0]:=by kernel_rfl
theorem QZ (x0:ByteArray) (x1p:Option Addr) (x1n x1c:Nat) (x2p:Option Addr) (x2n x2c:Nat):gE prg 158 [(0,.string x0),(1,.slice x1p x1n x1c),(2,.slice x2p x2n x2c)]=some [.string x0,.slice x1p x1n x1c,.slice x2p x2n x2c]:=by kernel_rfl
theorem HR (x00 x01 x02:Value):oK prg 152 1 [(0,.agg [x00,x01,x02].toArray)]=some (158,[x00,x01,x02]):=by kernel_rfl
theorem wA:jP prg 165=some none:=by kernel_rfl
theorem AI:dL prg 167 2=some 2:=by kernel_rfl
theorem wW:dL prg 167 3=some 3:=by kernel_rfl
theorem KE:dL prg 174 0=some 0:=by kernel_rfl
theorem PF:tM prg 129=some (3,1,8):=by kernel_rfl
theorem AX (x0:Int):oK prg 129 1 [(0,.int .i64 x0)]=some (3,[.int .i64 x0]):=by kernel_rfl
theorem ZX:cU prg 13=true:=by kernel_rfl
theorem ZT:cU prg 28=true:=by kernel_rfl
theorem aT4:jP prg 41=some none:=by kernel_rfl
theorem NS:jP prg 81=some none:=by kernel_rfl
theorem VL:jP prg 82=some none:=by kernel_rfl
theorem NR:jP prg 83=some none:=by kernel_rfl
theorem AY:jP prg 85=some (some 4):=by kernel_rfl
theorem CE:jP prg 143=some none:=by kernel_rfl
theorem nO:jP prg 144=some none:=by kernel_rfl
theorem CD:jP prg 146=some (some 3):=by kernel_rfl
theorem PR:jP prg 167=some (some 4):=by kernel_rfl
theorem bR9:cU prg 66=true:=by kernel_rfl
theorem ZO:cU prg 67=true:=by kernel_rfl
theorem NJ:dL prg 43 0=some 0:=by kernel_rfl
theorem GE:dL prg 43 1=some 1:=by kernel_rfl
theorem NI:dL prg 43 2=some 2:=by kernel_rfl
theorem vY:dL prg 85 1=some 1:=by kernel_rfl
theorem yR:dL prg 85 2=some 2:=by kernel_rfl
theorem vX:dL prg 85 3=some 3:=by kernel_rfl
theorem mW:dL prg 146 1=some 1:=by kernel_rfl
theorem fX:dL prg 146 2=some 2:=by kernel_rfl
theorem KI:dL prg 167 0=some 0:=by kernel_rfl
theorem KH:dL prg 167 1=some 1:=by kernel_rfl
theorem aQ6:tM prg 81=some (141,2,24):=by kernel_rfl
theorem aQ5:tM prg 82=some (142,3,40):=by kernel_rfl
theorem aQ4:tM prg 83=some (146,3,64):=by kernel_rfl
theorem JD:tM prg 143=some (148,3,32):=by kernel_rfl
theorem zS:tM prg 144=some (152,1,24):=by kernel_rfl
theorem bQ0:tM prg 169=some (129,1,24):=by kernel_rfl
theorem YX:gH prg 81=some 1:=by kernel_rfl
theorem YW:gH prg 82=some 1:=by kernel_rfl
theorem YV:gH prg 83=some 1:=by kernel_rfl
theorem yH:gH prg 85=some 4:=by kernel_rfl
theorem GA:gH prg 143=some 1:=by kernel_rfl
theorem xX:gH prg 144=some 1:=by kernel_rfl
theorem CW:gH prg 146=some 3:=by kernel_rfl
theorem UF:gH prg 167=some 4:=by kernel_rfl
theorem aY8:gH prg 172=some 8:=by kernel_rfl
theorem IZ:slN prg 41=some 4:=by kernel_rfl
theorem aF9:slN prg 81=some 2:=by kernel_rfl
theorem zK:mD prg 85=some
 [Go.Value.string { data:={ toList:=[] } },Go.Value.slice none 0 0,Go.Value.slice none 0 0,
  Go.Value.slice none 0 0]:=by kernel_rfl
theorem FY:mD prg 146=some
 [Go.Value.string { data:={ toList:=[] } },Go.Value.slice none 0 0,Go.Value.slice none 0 0]:=by kernel_rfl
theorem UB:mD prg 167=some
 [Go.Value.int Go.IntKind.u8 (Int.ofNat 0),Go.Value.int Go.IntKind.u8 (Int.ofNat 0),Go.Value.slice none 0 0,
  Go.Value.slice none 0 0]:=by kernel_rfl
theorem aY4:mD prg 172=some
 [Go.Value.int Go.IntKind.i64 (Int.ofNat 0),Go.Value.int Go.IntKind.i64 (Int.ofNat 0),
  Go.Value.int Go.IntKind.i64 (Int.ofNat 0),Go.Value.int Go.IntKind.i64 (Int.ofNat 0),
  Go.Value.slice none 0 0,Go.Value.int Go.IntKind.i64 (Int.ofNat 0),Go.Value.slice none 0 0,
  Go.Value.int Go.IntKind.i64 (Int.ofNat 0)]:=by kernel_rfl
theorem WS (x0:ByteArray) (x1:Bool):gE prg 141 [(0,.string x0),(1,.bool x1)]=some [.string x0,.bool x1]:=by kernel_rfl
theorem RB (x0 x1:ByteArray) (x2:Int):gE prg 142 [(0,.string x0),(1,.string x1),(2,.int .i64 x2)]=some [.string x0,.string x1,.int .i64 x2]:=by kernel_rfl
theorem QR (x0:ByteArray):gE prg 146 [(0,.string x0)]=some [.string x0,.slice none 0 0,.slice none 0 0]:=by kernel_rfl
theorem BI (x0:ByteArray) (x1 x2:Int):gE prg 148 [(0,.string x0),(1,.int .i64 x1),(2,.int .i64 x2)]=some [.string x0,.int .i64 x1,.int .i64 x2]:=by kernel_rfl
theorem bU4  : gE prg 167 []=some [.int .u8 0,.int .u8 0,.slice none 0 0,.slice none 0 0]:=by kernel_rfl
theorem JQ (x0 x1 x2 x3:Int) (x4p:Option Addr) (x4n x4c:Nat):gE prg 172 [(0,.int .i64 x0),(1,.int .i64 x1),(2,.int .i64 x2),(3,.int .i64 x3),(4,.slice x4p x4n x4c)]=some [.int .i64 x0,.int .i64 x1,.int .i64 x2,.int .i64 x3,.slice x4p x4n x4c,.int .i64 0,.slice none 0 0,.int .i64 0]:=by kernel_rfl
theorem aS1 (x0:Int):gE prg 174 [(0,.int .u8 x0)]=some [.int .u8 x0,.slice none 0 0]:=by kernel_rfl
theorem bC8 (x0:ByteArray):gE prg 85 [(0,.string x0)]=some [.string x0,.slice none 0 0,.slice none 0 0,.slice none 0 0]:=by kernel_rfl
theorem DV (x00 x01 x02:Value):oK prg 143 1 [(0,.agg [x00,x01,x02].toArray)]=some (148,[x00,x01,x02]):=by kernel_rfl
theorem vK (x0p:Option Addr) (x0n x0c:Nat):oK prg 144 1 [(0,.slice x0p x0n x0c)]=some (152,[.slice x0p x0n x0c]):=by kernel_rfl
theorem aR6 (x00 x01:Value):oK prg 165 1 [(0,.agg [x00,x01].toArray)]=some (174,[x00,x01]):=by kernel_rfl
theorem aR5 (x0p:Option Addr) (x0n x0c:Nat):oK prg 169 1 [(0,.slice x0p x0n x0c)]=some (129,[.slice x0p x0n x0c]):=by kernel_rfl
theorem bC3 (x00 x01 x02 x03:Value):oK prg 41 1 [(0,.agg [x00,x01,x02,x03].toArray)]=some (167,[x00,x01,x02,x03]):=by kernel_rfl
theorem VD (x00 x01:Value):oK prg 81 1 [(0,.agg [x00,x01].toArray)]=some (141,[x00,x01]):=by kernel_rfl
theorem VC (x00 x01 x02:Value):oK prg 82 1 [(0,.agg [x00,x01,x02].toArray)]=some (142,[x00,x01,x02]):=by kernel_rfl
theorem VB (x00 x01 x02:Value):oK prg 83 1 [(0,.agg [x00,x01,x02].toArray)]=some (146,[x00,x01,x02]):=by kernel_rfl
theorem JL:jP prg 156=some none:=by kernel_rfl
theorem CB:cU prg 60=true:=by kernel_rfl
theorem KC:dL prg 205 0=some 0:=by kernel_rfl
theorem WJ:dL prg 205 1=some 1:=by kernel_rfl
theorem KB:dL prg 205 2=some 2:=by kernel_rfl
theorem iJ:dL prg 205 3=some 3:=by kernel_rfl
theorem EH:dL prg 205 4=some 4:=by kernel_rfl
theorem EG:dL prg 205 5=some 5:=by kernel_rfl
theorem bQ2:QW prg 206=some Go.IntKind.u8:=by kernel_rfl
theorem JC:tM prg 159=some (208,6,112):=by kernel_rfl
theorem aP9:slN prg 156=some 6:=by kernel_rfl
theorem wL (x0:Int) (x1 x2:ByteArray) (x4p:Option Addr) (x4n x4c:Nat) (x5p:Option Addr) (x5n x5c:Nat):gE prg 208 [(0,.int .u8 x0),(1,.string x1),(2,.string x2),(4,.slice x4p x4n x4c),(5,.slice x5p x5n x5c)]=some [.int .u8 x0,.string x1,.string x2,.slice none 0 0,.slice x4p x4n x4c,.slice x5p x5n x5c]:=by kernel_rfl
theorem DU (x00 x01 x02 x03 x04 x05:Value):oK prg 159 1 [(0,.agg [x00,x01,x02,x03,x04,x05].toArray)]=some (208,[x00,x01,x02,x03,x04,x05]):=by kernel_rfl
theorem aA3:jP prg 141=some (some 2):=by kernel_rfl
theorem aA2:jP prg 142=some (some 3):=by kernel_rfl
theorem sL:jP prg 148=some (some 3):=by kernel_rfl
theorem bV5:jP prg 152=some none:=by kernel_rfl
theorem PS:jP prg 158=some (some 3):=by kernel_rfl
theorem NF:dL prg 85 0=some 0:=by kernel_rfl
theorem WO:dL prg 141 0=some 0:=by kernel_rfl
theorem KM:dL prg 141 1=some 1:=by kernel_rfl
theorem WN:dL prg 142 0=some 0:=by kernel_rfl
theorem KL:dL prg 142 1=some 1:=by kernel_rfl
theorem KK:dL prg 142 2=some 2:=by kernel_rfl
theorem WM:dL prg 146 0=some 0:=by kernel_rfl
theorem WL:dL prg 148 0=some 0:=by kernel_rfl
theorem AK:dL prg 148 1=some 1:=by kernel_rfl
theorem xA:dL prg 148 2=some 2:=by kernel_rfl
theorem KJ:dL prg 158 0=some 0:=by kernel_rfl
theorem rQ:dL prg 158 1=some 1:=by kernel_rfl
theorem AJ:dL prg 158 2=some 2:=by kernel_rfl
theorem bQ3:QW prg 149=some Go.IntKind.u8:=by kernel_rfl
theorem aQ8:tM prg 45=some (102,2,24):=by kernel_rfl
theorem aQ7:tM prg 46=some (105,3,40):=by kernel_rfl
theorem UM:tM prg 47=some (110,3,64):=by kernel_rfl
theorem ZE:tM prg 107=some (151,3,32):=by kernel_rfl
theorem ZD:tM prg 108=some (155,1,24):=by kernel_rfl
theorem ZC:tM prg 153=some (162,3,64):=by kernel_rfl
theorem YZ:gH prg 45=some 1:=by kernel_rfl
theorem YY:gH prg 46=some 1:=by kernel_rfl
theorem PC:gH prg 47=some 1:=by kernel_rfl
theorem sJ:gH prg 49=some 4:=by kernel_rfl
theorem UK:gH prg 107=some 1:=by kernel_rfl
theorem LH:gH prg 108=some 1:=by kernel_rfl
theorem UJ:gH prg 141=some 2:=by kernel_rfl
theorem UI:gH prg 142=some 3:=by kernel_rfl
theorem xW:gH prg 148=some 3:=by kernel_rfl
theorem UH:gH prg 153=some 1:=by kernel_rfl
theorem UG:gH prg 158=some 3:=by kernel_rfl
theorem bI5:slN prg 82=some 3:=by kernel_rfl
theorem bI4:slN prg 83=some 3:=by kernel_rfl
theorem aQ2:slN prg 143=some 3:=by kernel_rfl
theorem aQ1:slN prg 144=some 1:=by kernel_rfl
theorem aQ0:slN prg 152=some 3:=by kernel_rfl
theorem vW:mD prg 49=some
 [Go.Value.string { data:={ toList:=[] } },Go.Value.slice none 0 0,Go.Value.slice none 0 0,
  Go.Value.slice none 0 0]:=by kernel_rfl
theorem UE:mD prg 141=some [Go.Value.string { data:={ toList:=[] } },Go.Value.bool false]:=by kernel_rfl
theorem UD:mD prg 142=some
 [Go.Value.string { data:={ toList:=[] } },Go.Value.string { data:={ toList:=[] } },
  Go.Value.int Go.IntKind.i64 (Int.ofNat 0)]:=by kernel_rfl
theorem LE:mD prg 148=some
 [Go.Value.string { data:={ toList:=[] } },Go.Value.int Go.IntKind.i64 (Int.ofNat 0),
  Go.Value.int Go.IntKind.i64 (Int.ofNat 0)]:=by kernel_rfl
theorem UC:mD prg 158=some
 [Go.Value.string { data:={ toList:=[] } },Go.Value.slice none 0 0,Go.Value.slice none 0 0]:=by kernel_rfl
theorem WT (x0:ByteArray) (x1:Bool):gE prg 102 [(0,.string x0),(1,.bool x1)]=some [.string x0,.bool x1]:=by kernel_rfl
theorem RC (x0 x1:ByteArray) (x2:Int):gE prg 105 [(0,.string x0),(1,.string x1),(2,.int .i64 x2)]=some [.string x0,.string x1,.int .i64 x2]:=by kernel_rfl
theorem aS9 (x0:ByteArray):gE prg 110 [(0,.string x0)]=some [.string x0,.slice none 0 0,.slice none 0 0]:=by kernel_rfl
theorem RA (x0:ByteArray) (x1 x2:Int):gE prg 151 [(0,.string x0),(1,.int .u8 x1),(2,.int .i64 x2)]=some [.string x0,.int .u8 x1,.int .i64 x2]:=by kernel_rfl
theorem QY (x0:ByteArray) (x1p:Option Addr) (x1n x1c:Nat) (x2p:Option Addr) (x2n x2c:Nat):gE prg 162 [(0,.string x0),(1,.slice x1p x1n x1c),(2,.slice x2p x2n x2c)]=some [.string x0,.slice x1p x1n x1c,.slice x2p x2n x2c]:=by kernel_rfl
theorem bD0 (x0:ByteArray):gE prg 49 [(0,.string x0)]=some [.string x0,.slice none 0 0,.slice none 0 0,.slice none 0 0]:=by kernel_rfl
theorem QP (x00 x01 x02:Value):oK prg 107 1 [(0,.agg [x00,x01,x02].toArray)]=some (151,[x00,x01,x02]):=by kernel_rfl
theorem HT (x00:Value):oK prg 108 1 [(0,.agg [x00].toArray)]=some (155,[x00]):=by kernel_rfl
theorem QN (x00 x01 x02:Value):oK prg 153 1 [(0,.agg [x00,x01,x02].toArray)]=some (162,[x00,x01,x02]):=by kernel_rfl
theorem VG (x00 x01:Value):oK prg 45 1 [(0,.agg [x00,x01].toArray)]=some (102,[x00,x01]):=by kernel_rfl
theorem VF (x00 x01 x02:Value):oK prg 46 1 [(0,.agg [x00,x01,x02].toArray)]=some (105,[x00,x01,x02]):=by kernel_rfl
theorem LX (x00 x01 x02:Value):oK prg 47 1 [(0,.agg [x00,x01,x02].toArray)]=some (110,[x00,x01,x02]):=by kernel_rfl
theorem bQ6:eqT prg 102=some [(0,Go.Sx.EK.s),(1,Go.Sx.EK.b)]:=by kernel_rfl
theorem bQ5:eqT prg 105=some [(0,Go.Sx.EK.s),(1,Go.Sx.EK.s),(2,Go.Sx.EK.i)]:=by kernel_rfl
theorem bQ4:eqT prg 151=some [(0,Go.Sx.EK.s),(1,Go.Sx.EK.i),(2,Go.Sx.EK.i)]:=by kernel_rfl
theorem bA6:cU prg 123=true:=by kernel_rfl
theorem LT:cU prg 124=true:=by kernel_rfl
theorem LS:cU prg 125=true:=by kernel_rfl
theorem bT2:cU prg 39=true:=by kernel_rfl
theorem bT1:cU prg 40=true:=by kernel_rfl
theorem bT0:cU prg 41=true:=by kernel_rfl
theorem bS9:cU prg 42=true:=by kernel_rfl
theorem bR5:cU prg 78=true:=by kernel_rfl
theorem bR4:cU prg 79=true:=by kernel_rfl
theorem bR3:cU prg 80=true:=by kernel_rfl
theorem bR2:cU prg 81=true:=by kernel_rfl
theorem bR1:cU prg 82=true:=by kernel_rfl
theorem xG:jP prg 28=some none:=by kernel_rfl
theorem aT0:jP prg 94=some none:=by kernel_rfl
theorem NQ:jP prg 96=some (some 3):=by kernel_rfl
theorem NP:jP prg 97=some none:=by kernel_rfl
theorem FJ:cU prg 50=true:=by kernel_rfl
theorem gW:cU prg 72=true:=by kernel_rfl
theorem eK:cU prg 73=true:=by kernel_rfl
theorem FI:cU prg 91=true:=by kernel_rfl
theorem GI:cU prg 118=true:=by kernel_rfl
theorem NE:dL prg 96 0=some 0:=by kernel_rfl
theorem tF:dL prg 96 1=some 1:=by kernel_rfl
theorem yQ:dL prg 99 0=some 0:=by kernel_rfl
theorem pO:dL prg 99 1=some 1:=by kernel_rfl
theorem aG0:dL prg 99 2=some 2:=by kernel_rfl
theorem GB:dL prg 99 4=some 7:=by kernel_rfl
theorem lS:dL prg 99 5=some 8:=by kernel_rfl
theorem ZA:gH prg 28=some 1:=by kernel_rfl
theorem FG:gH prg 96=some 3:=by kernel_rfl
theorem aF8:slN prg 97=some 3:=by kernel_rfl
theorem IY:mD prg 96=some
 [Go.Value.int Go.IntKind.u8 (Int.ofNat 0),Go.Value.string { data:={ toList:=[] } },
  Go.Value.int Go.IntKind.i64 (Int.ofNat 0)]:=by kernel_rfl
theorem bC7 (x2:Int):gE prg 96 [(2,.int .i64 x2)]=some [.int .u8 0,.string ⟨#[]⟩,.int .i64 x2]:=by kernel_rfl
end Go.Proofs.YthhoebdlfjffkaaGreatDoor
