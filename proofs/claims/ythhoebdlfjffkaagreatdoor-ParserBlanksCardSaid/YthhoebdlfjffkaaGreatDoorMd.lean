/- Texts of the proof, one behind the other. -/
import Derived.Test.YthhoebdlfjffkaaGreatDoorMc
import Derived.ProofKit
import Derived.Lib.LaidTab
import Derived.Deep.Slices
import Derived.Deep.Fields
import Derived.OpenShut
import Derived.ChangeKeysEq
import Derived.RangeFuncNested
import Derived.RangeFuncLeaves
import Derived.RangeFuncCalls
import Derived.OwnWalkIn
import Derived.TacticsIn
set_option linter.all false
set_option maxRecDepth 100000
namespace Go.Proofs.YthhoebdlfjffkaaGreatDoor
open Go.RowKit Go.Par Go.Sx
def wfE (D:Nat) (e:Ex):Prop:=e.depth≤D∧Ex.all dQ e=true∧Ex.all iS e=true
theorem wfE.mono {D D':Nat} {e:Ex} (h:wfE D e) (k:D≤D'):wfE D' e:=⟨Nat.le_trans h.1 k,h.2⟩
theorem EM {D:Nat} {op:UInt8} {nm:Str} {n:Int64} (h:dQ (.mk op nm n [])=true) (h2:iS (.mk op nm n [])=true):wfE (D+1) (.mk op nm n []) :=
 ⟨by rw [fY];simp [Ex.deeps],by rw [eW,h];rfl,by rw [eW,h2];rfl⟩
theorem II (op:UInt8) (nm:Str) (n:Int64) (l m:List Ex) (h:l.length=m.length):dQ (.mk op nm n l)=dQ (.mk op nm n m):=by simp only [dQ,h]
def e0:Ex:=.mk 4 [] 0 []
theorem QL {D:Nat} {op:UInt8} {nm:Str} {a:Ex} (h:dQ (.mk op nm 0 [e0])=true) (h2:iS (.mk op nm 0 [])=true) (ha:wfE D a):wfE (D+1) (.mk op nm 0 [a]):=by
 refine ⟨?_,?_,?_⟩
 ·rw [fY];simp only [Ex.deeps];have:=ha.1;omega
 ·rw [eW,II op nm 0 [a] [e0] rfl,h];simp [Ex.alls,ha.2.1]
 ·rw [eW,show iS (.mk op nm 0 [a])=iS (.mk op nm 0 []) from rfl,h2];simp [Ex.alls,ha.2.2]
theorem QK {D:Nat} {op:UInt8} {a b:Ex} (h:dQ (.mk op [] 0 [e0,e0])=true) (h2:iS (.mk op [] 0 [])=true) (ha:wfE D a) (hb:wfE D b):wfE (D+1) (.mk op [] 0 [a,b]):=by
 refine ⟨?_,?_,?_⟩
 ·rw [fY];simp only [Ex.deeps];have:=ha.1;have:=hb.1;omega
 ·rw [eW,II op [] 0 [a,b] [e0,e0] rfl,h];simp [Ex.alls,ha.2.1,hb.2.1]
 ·rw [eW,show iS (.mk op [] 0 [a,b])=iS (.mk op [] 0 []) from rfl,h2];simp [Ex.alls,ha.2.2,hb.2.2]
theorem HL:∀ c∈([120,112,102,104]:List UInt8),∀ k∈List.range 3,aV (nmB c k)=true:=by decide +kernel
theorem RT {k:Nat} (h:k<3):aV (nmB 120 k)=true:=HL 120 (by decide) k (List.mem_range.2 h)
theorem XI {k:Nat} (h:k<3):aV (nmB 112 k)=true:=HL 112 (by decide) k (List.mem_range.2 h)
theorem XJ {k:Nat} (h:k<3):aV (nmB 102 k)=true:=HL 102 (by decide) k (List.mem_range.2 h)
theorem VM {k:Nat} (h:k<3):aV (nmB 104 k)=true:=HL 104 (by decide) k (List.mem_range.2 h)
theorem AD {k:Nat} (h:k<3):aV [UInt8.ofNat (97+k)]=true:=by
 have:∀ k∈List.range 3,aV [UInt8.ofNat (97+k)]=true:=by decide +kernel
 exact this k (List.mem_range.2 h)
theorem NU:aV [116,48]=true:=by decide +kernel
theorem NW:aV [98,48]=true:=by decide +kernel
structure qB (M:Mk):Prop where
 i0:0<M.ints
 i3:M.ints≤3
 p2:M.params≤2
 f2:M.flags≤2
 a3:M.ars.length≤3
 a0:0<M.ars.length
 ar2:∀ c h,arN M c h≤2
 al:∀ c,c<M.ars.length→0<arL M c∧arL M c≤3
 own:M.own<M.ars.length
theorem YQ (nm:Str):dQ (.mk 5 nm 0 [])=true:=by simp [dQ,iQ,aI,shapes]
theorem YL {nm:Str} (h:aV nm=true):iS (.mk 5 nm 0 [])=true:=by simp [iS,h]
theorem wfV {D:Nat} {nm:Str} (h:aV nm=true):wfE (D+1) (.mk 5 nm 0 []):=EM (YQ nm) (YL h)
theorem HI {M:Mk} (hM:qB M) {d D k:Nat} {rec:Bs→Ex × Bs} (h:∀ b,wfE D (rec b).1) (b:Bs):wfE (D+1) (lW M d rec k b).1:=by
 unfold lW
 split
 ·have h9:=cD b (n:=9) (by omega);refine EM ?_ rfl;simp only [dQ,Bool.and_eq_true];refine ⟨by decide,?_⟩;simp only [if_true];rw [decide_eq_true_eq,Int64.toInt_ofNat_of_lt (by omega)];omega
 split
 ·exact wfV (RT (by have:=cD b hM.i0;have:=hM.i3;omega))
 split
 ·rename_i h1 h2;exact wfV (XI (by have:=cD b (n:=M.params) (by omega);have:=hM.p2;omega))
 split
 ·exact EM (by decide) (by decide)
 split
 ·exact QL (by decide +kernel) (by decide +kernel) (h _)
 split
 ·exact EM (by decide +kernel) (by decide +kernel)
 split
 ·exact QL (by decide +kernel) (by decide +kernel) (h _)
 ·have key:∀ i∈List.range 6,dQ (.mk (([14,15,11,12,13,14]:List UInt8).getD i 14) [] 0 [e0,e0])=true∧iS (.mk (([14,15,11,12,13,14]:List UInt8).getD i 14) [] 0 [])=true:=by decide +kernel
  obtain ⟨k1,k2⟩:=key _ (List.mem_range.2 (cD b (n:=6) (by omega)));exact QK k1 k2 (h _) (h _)
theorem uJ {M:Mk} (hM:qB M):∀ f b,wfE (f+2) (fC M f b).1
 | 0,b=>HI hM (fun _=>EM (by decide) (by decide)) _
 | f+1,b=>HI hM (uJ hM f) _
theorem HK {M:Mk} (hM:qB M):∀ n b,∀ e∈(jB M n b).1,wfE 4 e
 | 0,b,_,h=>by cases h
 | n+1,b,e,he=>by
  rcases List.mem_cons.1 he with rfl | he
  ·exact uJ hM 2 b
  ·exact HK hM n _ e he
theorem GM {M:Mk} (hM:qB M) {d D k:Nat} {rec:Bs→Ex × Bs} (hk:k<10) (hD:4≤D) (h:∀ b,wfE D (rec b).1) (b:Bs):wfE (D+1) (nE M d rec k b).1:=by
 have hn:∀ b,wfE D (fC M 2 b).1:=fun b=>(uJ hM 2 b).mono hD;unfold nE
 split
 ·have key:∀ i∈List.range 2,dQ (.mk (2+UInt8.ofNat i) [] 0 [])=true∧iS (.mk (2+UInt8.ofNat i) [] 0 [])=true:=by decide +kernel
  obtain ⟨k1,k2⟩:=key _ (List.mem_range.2 (cD b (n:=2) (by omega)));exact EM k1 k2
 split
 ·exact wfV NW
 split
 ·rename_i h1;exact wfV (XJ (by have:=cD b h1.2;have:=hM.f2;omega))
 split
 ·exact QL (by decide +kernel) (by decide +kernel) (hn _)
 split
 ·exact QL (by decide +kernel) (by decide +kernel) (h _)
 split
 ·rename_i h1;rcases h1 with rfl | rfl
  ·exact QK (by decide +kernel) (by decide +kernel) (h _) (h _)
  ·exact QK (by decide +kernel) (by decide +kernel) (h _) (h _)
 ·have key:∀ i∈List.range 6,dQ (.mk (16+UInt8.ofNat i) [] 0 [e0,e0])=true∧iS (.mk (16+UInt8.ofNat i) [] 0 [])=true:=by decide +kernel
  obtain ⟨k1,k2⟩:=key _ (List.mem_range.2 (cD b (n:=6) (by omega)));exact QK k1 k2 (hn _) (hn _)
theorem GO {M:Mk} (hM:qB M):∀ f b,wfE (f+6) (jZ M f b).1
 | 0,b=>GM hM (cD _ (by omega)) (by omega) (fun _=>(EM (D:=0) (by decide) (by decide)).mono (by omega)) _
 | f+1,b=>GM hM (cD _ (by omega)) (by omega) (GO hM f) _
structure Wf (D lf:Nat) (l:List Sm) (lf':Nat):Prop where
 cnt:Sm.counts l+lf'≤lf
 dep:Sm.deeps l≤D
 frm:Sm.alls kD l=true
 nam:Sm.alls iF l=true
 sma:Sm.alls nO l=true
theorem WK {l:List Ex} (h:∀ e∈l,wfE 8 e):Ex.alls dQ l=true:=by
 induction l with
 | nil=>rfl
 | cons e r ih=>rw [Ex.alls,(h e (by simp)).2.1,ih fun x hx=>h x (by simp [hx])];rfl
theorem WJ {l:List Ex} (h:∀ e∈l,wfE 8 e):Ex.alls iS l=true:=by
 induction l with
 | nil=>rfl
 | cons e r ih=>rw [Ex.alls,(h e (by simp)).2.2,ih fun x hx=>h x (by simp [hx])];rfl
def kdB (kd:UInt8) (nm hd:Str) (n:Nat) (t e:Bool):Bool :=
 gW kd && decide ((aW kd).lo≤n) && decide (n≤(aW kd).hi) && ((aW kd).nm || decide (nm=[])) && ((aW kd).hd || decide (hd=[])) && ((aW kd).th || t) && ((aW kd).el || e)
def knB (kd:UInt8) (nm hd:Str):Bool:=(!(aW kd).nm || aV nm) && (!(aW kd).hd || aV hd)
theorem kU {D lf lf':Nat} {kd:UInt8} {nm hd:Str} {ex:List Ex} {th el:List Sm} (h1:Sm.counts th+Sm.counts el+lf'≤lf) (h2:kdB kd nm hd ex.length (decide (th.length=0)) (decide (el.length=0))=true) (h3:knB kd nm hd=true) (h4:∀ e∈ex,wfE 8 e)
 (ht:Sm.deeps th≤D∧Sm.alls kD th=true∧Sm.alls iF th=true∧Sm.alls nO th=true) (he:Sm.deeps el≤D∧Sm.alls kD el=true∧Sm.alls iF el=true∧Sm.alls nO el=true) :
 Wf (D+1) (lf+1) [.mk kd nm hd ex th el] lf':=by
 refine ⟨?_,?_,?_,?_,?_⟩
 ·simp only [Sm.counts,dR];omega
 ·simp only [Sm.deeps,iY];have:=ht.1;have:=he.1;omega
 ·have hf:kD (.mk kd nm hd ex th el)=true:=by
   simp only [kD,WK h4,Bool.and_true];exact h2
  simp [Sm.alls,fB,hf,ht.2.1,he.2.1]
 ·have hf:iF (.mk kd nm hd ex th el)=true:=by
   simp only [iF,WJ h4,Bool.and_true];exact h3
  simp [Sm.alls,fB,hf,ht.2.2.1,he.2.2.1]
 ·have hf:nO (.mk kd nm hd ex th el)=true:=by
   simp only [nO,List.all_eq_true,decide_eq_true_eq];exact fun e m=>(h4 e m).1
  simp [Sm.alls,fB,hf,ht.2.2.2,he.2.2.2]
theorem iB {D:Nat}:Sm.deeps []≤D∧Sm.alls kD []=true∧Sm.alls iF []=true∧Sm.alls nO []=true:=⟨Nat.zero_le _,rfl,rfl,rfl⟩
theorem Wf.all {D lf lf':Nat} {l:List Sm} (h:Wf D lf l lf'):Sm.deeps l≤D∧Sm.alls kD l=true∧Sm.alls iF l=true∧Sm.alls nO l=true:=⟨h.dep,h.frm,h.nam,h.sma⟩
theorem sI {e:Ex} (h:wfE 8 e):∀ x∈[e],wfE 8 x:=fun x hx=>by rw [List.mem_singleton.1 hx];exact h
theorem UM {e e2:Ex} (h:wfE 8 e) (k:wfE 8 e2):∀ x∈[e,e2],wfE 8 x:=fun x hx=>by
 rcases List.mem_cons.1 hx with rfl | hx
 ·exact h
 ·rw [List.mem_singleton.1 hx];exact k
theorem FJ {M:Mk} (hM:qB M) {n:Nat} {b:Bs}:∀ x∈(jB M n b).1,wfE 8 x:=fun x hx=>(HK hM n b x hx).mono (by omega)
theorem RU {e:Ex} (h:wfE 8 e) {M:Mk} (hM:qB M) {n:Nat} {b:Bs}:∀ x∈e::(jB M n b).1,wfE 8 x:=fun x hx=>by
 rcases List.mem_cons.1 hx with rfl | hx
 ·exact h
 ·exact FJ hM x hx
theorem kd1 (nm:Str):kdB 1 nm [] 1 true true=true:=by simp [kdB,gW,aW,forms]
theorem kn1 {nm:Str} (h:aV nm=true):knB 1 nm []=true:=by simp [knB,gW,aW,forms,h]
theorem kd6 (nm hd:Str) {n:Nat} (h:n≤4):kdB 6 nm hd n true true=true:=by simp [kdB,gW,aW,forms,h]
theorem kn6 {nm hd:Str} (h:aV nm=true) (k:aV hd=true):knB 6 nm hd=true:=by simp [knB,gW,aW,forms,h,k]
theorem kd7 (hd:Str) {n:Nat} (h0:1≤n) (h:n≤5):kdB 7 [] hd n true true=true:=by simp [kdB,gW,aW,forms,h0,h]
theorem kn7 {hd:Str} (k:aV hd=true):knB 7 [] hd=true:=by simp [knB,gW,aW,forms,k]
theorem kd9 (nm:Str) (b:Bool):kdB 9 nm [] 1 true b=true:=by simp [kdB,gW,aW,forms]
theorem kn9 {nm:Str} (h:aV nm=true):knB 9 nm []=true:=by simp [knB,gW,aW,forms,h]
theorem kd4 (a b:Bool):kdB 4 [] [] 1 a b=true:=by revert a b;decide
theorem kd5 (a:Bool):kdB 5 [] [] 1 a true=true:=by revert a;decide
theorem kd8 (a:Bool):kdB 8 [] [] 2 true a=true:=by revert a;decide
theorem GZ {M:Mk} (hM:qB M) (k d:Nat) {D:Nat} {bd:Bs × Nat→List Sm × (Bs × Nat)} (hb:∀ x,Wf D x.2 (bd x).1 (bd x).2.2) (b:Bs) (lf:Nat):Wf (D+1) (lf+1) [(cO M k d bd b lf).1] (cO M k d bd b lf).2.2:=by
 have hn:∀ f b,f≤6→wfE 8 (fC M f b).1:=fun f b hf=>(uJ hM f b).mono (by omega);have ht:∀ b,wfE 8 (jZ M 2 b).1:=fun b=>GO hM 2 b;have z:Sm.counts []=0:=rfl;unfold cO
 split
 ·exact kU (lf':=lf) (by simp only [z];omega) (kd1 _) (kn1 NW) (sI (ht _)) iB iB
 split
 ·exact kU (lf':=lf) (by simp only [z];omega) (by simp [kdB,gW,aW,forms]) (by simp [knB,gW,aW,forms,NU]) (UM (hn _ _ (by omega)) (hn _ _ (by omega))) iB iB
 split
 ·exact kU (lf':=lf) (by simp only [z];omega) (by simp [kdB,gW,aW,forms]) (by simp [knB,gW,aW,forms,NU]) (sI (hn _ _ (by omega))) iB iB
 split
 ·have h1:=hb ((jZ M 2 b).2,lf);have h2:=hb (bd ((jZ M 2 b).2,lf)).2;exact kU (by have:=h1.cnt;have:=h2.cnt;simp only at *;omega) (kd4 _ _) (by decide) (sI (ht _)) h1.all h2.all
 split
 ·have h1:=hb ((jZ M 2 b).2,lf);exact kU (by have:=h1.cnt;simp only at *;omega) (kd5 _) (by decide) (sI (ht _)) h1.all iB
 split
 ·have hc:=cD b hM.a0;have ha:=hM.al _ hc;have hh:=cD (aF b M.ars.length).2 ha.1;have h3:=hM.a3;exact kU (lf':=lf) (by simp only [z];omega) (by rw [(lN _ _ _).1];exact kd6 _ _ (Nat.le_trans (hM.ar2 _ _) (by omega))) (kn6 (AD (by omega)) (VM (by omega))) (FJ hM) iB iB
 split
 ·have ha:=hM.al _ hM.own;have hh:=cD b ha.1;exact kU (lf':=lf) (by simp only [z];omega) (by rw [List.length_cons,(lN _ _ _).1];exact kd7 _ (by omega) (Nat.succ_le_succ (Nat.le_trans (hM.ar2 _ _) (by omega)))) (kn7 (VM (by omega))) (RU (hn _ _ (by omega)) hM) iB iB
 split
 ·split
  ·have h1:=hb ((jB M 2 (aF b 2).2).2,lf);exact kU (by have:=h1.cnt;simp only at *;omega) (by rw [(lN _ _ _).1];exact kd8 _) (by decide) (FJ hM) iB h1.all
  ·have h1:=hb ((fC M 3 (aF (aF b 2).2 M.ints).2).2,lf);have hx:=cD (aF b 2).2 hM.i0;have h3:=hM.i3;exact kU (lf':=(bd ((fC M 3 (aF (aF b 2).2 M.ints).2).2,lf)).2.2) (by have:=h1.cnt;simp only at *;omega) (kd9 _ _) (kn9 (RT (by omega))) (sI (hn _ _ (by omega))) iB h1.all
 split
 ·exact kU (lf':=lf) (by simp only [z];omega) (by decide) (by decide) (fun _ h=>by cases h) iB iB
 ·have h3:=hM.i3;exact kU (lf':=lf) (by simp only [z];omega) (kd1 _) (kn1 (RT (by have:=cD (if k=12 then (aF b 3).2 else b) hM.i0;omega))) (sI (hn _ _ (by omega))) iB iB
theorem BI {st:Nat→Bs→Nat→Sm × (Bs × Nat)} {D:Nat} (hs:∀ k b lf,Wf D (lf+1) [(st k b lf).1] (st k b lf).2.2):∀ f x,Wf D x.2 (kE st f x).1 (kE st f x).2.2
 | 0,x=>⟨by simp [kE,Sm.counts],Nat.zero_le _,rfl,rfl,rfl⟩
 | f+1,(b,lf)=>by
  unfold kE
  split
  ·exact ⟨by simp [Sm.counts],Nat.zero_le _,rfl,rfl,rfl⟩
  ·rename_i hne
   split
   ·exact ⟨by simp [Sm.counts],Nat.zero_le _,rfl,rfl,rfl⟩
   ·have h1:=hs (aF b 14).1 (aF b 14).2 (lf - 1);have h2:=BI hs f (st (aF b 14).1 (aF b 14).2 (lf - 1)).2;have hl:lf≠0:=fun e=>hne (.inr e)
    have al:∀ (q:Sm→Bool) (s:Sm) (l:List Sm),Sm.alls q [s]=true→Sm.alls q l=true→Sm.alls q (s::l)=true:=fun q s l a b=>by
     simp only [Sm.alls,Bool.and_eq_true] at a ⊢;exact ⟨a.1,b⟩
    refine ⟨?_,?_,al _ _ _ h1.frm h2.frm,al _ _ _ h1.nam h2.nam,al _ _ _ h1.sma h2.sma⟩
    ·have a1:=h1.cnt;have a2:=h2.cnt;simp only [Sm.counts] at a1 ⊢;omega
    ·have a1:=h1.dep;have a2:=h2.dep;simp only [Sm.deeps] at a1 ⊢;omega
theorem IR {M:Mk} (hM:qB M):∀ f x,Wf (f+1) x.2 (tB M f x).1 (tB M f x).2.2
 | 0,x=>BI (fun k b lf=>GZ hM k 3 (D:=0) (fun x=>⟨by simp [Sm.counts],Nat.zero_le _,rfl,rfl,rfl⟩) b lf) 13 x
 | f+1,x=>BI (fun k b lf=>GZ hM k (2 - f) (IR hM f) b lf) 13 x
structure QH (h:Hd):Prop where
 nam:kM h=true
 frm:lK h=true
 sma:lJ h=true
theorem qB.at {M:Mk} (h:qB M) (k:Nat):qB (M.at k):=⟨h.i0,h.i3,h.ar2 _ _,h.f2,h.a3,h.a0,h.ar2,h.al,h.own⟩
theorem VX {M:Mk} (hM:qB M) {k:Nat} (hk:k<3) (c:Cd):QH (hdS M k c):=by
 have h:=IR (hM.at k) 3 (c.bytes.take 40,12);have hc:=h.cnt;have hd:=h.dep;simp only at hc;have h2:=hM.ar2 M.own k;refine ⟨?_,h.frm,?_⟩
 ·simp only [kM,hdS,Bool.and_eq_true];refine ⟨⟨VM hk,?_⟩,h.nam⟩;simp only [jN,List.all_eq_true,List.mem_map,List.mem_range];rintro _ ⟨i,hi,rfl⟩;exact XI (by omega)
 ·simp only [lJ,hdS,Bool.and_eq_true,h.sma,and_true,dP];simp only [Bool.not_eq_true',Bool.or_eq_false_iff,decide_eq_false_iff_not];refine ⟨⟨by omega,decide_eq_false (by omega)⟩,decide_eq_false (by omega)⟩
theorem AN {M:Mk} (hM:qB M):∀ (l:List Cd) (k:Nat),k+l.length≤3→∀ h∈kN M k l,QH h
 | [],k,_,h,hh=>by cases hh
 | c::r,k,hk,h,hh=>by
  simp only [List.length_cons] at hk;rcases List.mem_cons.1 hh with rfl | hh
  ·exact VX hM (by omega) c
  ·exact AN hM r (k+1) (by omega) h hh
theorem QD (ks:List Str) (s:Str):(xS ks s).length≤ks.length+1:=by
 unfold xS;split <;> simp
theorem oU:∀ (v:List Hd) (ks:List Str),(qC ks v).length≤ks.length+v.length
 | [],ks=>by simp [qC]
 | h::v,ks=>by
  have:=oU v (CC ks h);have h2:=QD ks h.nm;simp only [qC,List.foldl_cons,List.length_cons,CC] at this ⊢;omega
theorem TG (x:Prt):0<(arP x).length∧(arP x).length≤3:=by
 have h:=uW x;have h2:=wZ x 3;unfold arP at *;omega
theorem NY (p:Pln) {i:Nat} (hi:i<(aU p).length) (x:Prt):qB (mkP (fP p) (p.flags.toNat % 3) i x):=by
 have hp:=oZ p;have hl:(fP p).length=(aU p).length:=by simp [fP]
 refine ⟨by simp only [mkP,fW];omega,by simp only [mkP,fW];omega,by simp [mkP],by simp only [mkP];omega,by simp only [mkP];omega,by simp only [mkP];omega,GG,?_,by simp only [mkP];omega⟩;intro c hc;simp only [mkP] at hc;simp only [arL,mkP];rw [fD hc];have hm:=List.getElem_mem hc;generalize (fP p)[c]=l at hm;obtain ⟨y,_,rfl⟩:=List.mem_map.1 hm;exact TG y
theorem GJ {M:Mk} (hM:qB M) (x:Prt):1≤(mD M x).length∧(mD M x).length≤2∧∀ v∈mD M x,v.length≤3∧∀ h∈v,QH h:=by
 have hf:=DU x;refine ⟨by simp [mD],by unfold mD;split <;> simp,fun v hv=>?_⟩;unfold mD at hv;rcases List.mem_cons.1 hv with rfl | hv
 ·exact ⟨by rw [jW];exact hf,AN hM _ 0 (by omega)⟩
 ·split at hv
  ·rw [List.mem_singleton.1 hv];exact ⟨by rw [jW,List.length_take];omega,AN hM _ 0 (by rw [List.length_take];omega)⟩
  ·cases hv
theorem KL {c:Cp} (h:c.vers.length≤2) (hv:∀ v∈c.vers,v.length≤3):(uL c).length≤6:=by
 unfold uL
 match hc:c.vers,h with
 | [],_=>simp
 | [v],_ =>
  have:=oU v [];have:=hv v (by rw [hc];simp);simp only [List.foldl_cons,List.foldl_nil,List.length_nil] at *;omega
 | [v,w],_ =>
  have:=oU v [];have:=oU w (qC [] v);have:=hv v (by rw [hc];simp);have:=hv w (by rw [hc];simp);simp only [List.foldl_cons,List.foldl_nil,List.length_nil] at *;omega
theorem zN (x:Prt):(tG x).length≤8∧∀ v∈tG x,aV v.nm=true∧gY v=true:=by
 refine ⟨by simp only [tG,List.length_append,vE,vD,List.length_singleton,fW,iX];omega,fun v hv=>?_⟩;simp only [tG,zM,zL,List.mem_append,List.mem_map,List.mem_range,List.mem_singleton] at hv;rcases hv with (⟨i,hi,rfl⟩ | rfl) | ⟨i,hi,rfl⟩
 ·simp only [fW] at hi;refine ⟨RT (by omega),?_⟩;rw [show gY (vrI i)=decide ((Int64.ofNat i).toInt≠-9223372036854775808) from rfl,decide_eq_true_eq,Int64.toInt_ofNat_of_lt (by omega)];omega
 ·exact ⟨NW,by decide⟩
 ·simp only [iX] at hi;obtain rfl:i=0:=by omega
  exact ⟨NU,by decide⟩
theorem gC (p:Pln):dA (bK p)=0:=by
 have hp:=oZ p
 have hcs:∀ c∈(bK p).comps,∃ i x,i<(aU p).length∧c=BE (fP p) (p.flags.toNat % 3) i x:=by
  intro c hc;simp only [bK,qI] at hc;obtain ⟨i,hi,rfl⟩:=List.mem_mapIdx.1 hc;exact ⟨i,_,hi,rfl⟩
 have hhd:∀ c∈(bK p).comps,∀ v∈c.vers,∀ h∈v,QH h:=by
  intro c hc v hv h hh;obtain ⟨i,x,hi,rfl⟩:=hcs c hc;exact ((GJ (NY p hi x) x).2.2 v hv).2 h hh
 have ev:∀ q:Hd→Bool,(∀ h,QH h→q h=true)→evH q (bK p)=true:=by
  intro q hq;simp only [evH,List.all_eq_true];exact fun c hc v hv h hh=>hq h (hhd c hc v hv h hh)
 have h9:(aU p).length * (aU p).length≤9:=Nat.mul_le_mul hp.2 hp.2;have hmin:min p.links.length ((aU p).length * (aU p).length)≤(aU p).length * (aU p).length:=Nat.min_le_right _ _
 have h1:hG (bK p)=true:=by
  simp only [hG,Bool.and_eq_true,ev lJ fun h k=>k.sma,and_true];refine ⟨?_,?_⟩
  ·simp only [gI,bK,pT,sO,Bool.and_eq_true,decide_eq_true_eq];have:=pJ (aU p).length p.links (min p.links.length ((aU p).length * (aU p).length));refine ⟨⟨⟨by omega,by omega⟩,by omega⟩,decide_eq_true (by omega)⟩
  ·rw [List.all_eq_true];intro c hc;obtain ⟨i,x,hi,rfl⟩:=hcs c hc;obtain ⟨v1,v2,v3⟩:=GJ (NY p hi x) x;have v4:=KL (c:=BE (fP p) (p.flags.toNat % 3) i x) v2 fun v hv=>(v3 v hv).1;simp only [kA,Bool.and_eq_true,decide_eq_true_eq];exact ⟨⟨⟨(zN x).1,v1⟩,Nat.le_trans v2 (by omega)⟩,by omega⟩
 have hlk:∀ l∈(bK p).links,aV l.fr=true∧aV l.to=true∧lkB l=true:=by
  intro l hl;simp only [bK,mT,List.mem_flatMap,List.mem_range] at hl;obtain ⟨k,hk,hl⟩:=hl;unfold AI at hl
  split at hl
  ·rename_i h0;rw [List.mem_singleton.1 hl]
   have hd:k / (aU p).length<(aU p).length:=by
    rw [Nat.div_lt_iff_lt_mul hp.1];omega
   have hm:=Nat.mod_lt k hp.1;refine ⟨AD (by omega),AD (by omega),?_⟩;simp only [lkB,Bool.and_eq_true,decide_eq_true_eq];rw [Int64.toInt_ofNat_of_lt (by omega)];omega
  ·cases hl
 have h2:tW (bK p)=true:=by
  simp only [tW,Bool.and_eq_true,ev kM fun h k=>k.nam,and_true];refine ⟨⟨⟨show aV nI=true by decide +kernel,?_⟩,?_⟩,?_⟩
  ·simp only [bK,rQ,List.all_eq_true,List.mem_map,List.mem_range];rintro _ ⟨k,hk,rfl⟩;exact XJ (by omega)
  ·rw [List.all_eq_true];intro l hl;rw [(hlk l hl).1,(hlk l hl).2.1];rfl
  ·rw [List.all_eq_true];intro c hc;obtain ⟨i,x,hi,rfl⟩:=hcs c hc;rw [Bool.and_eq_true,List.all_eq_true];exact ⟨AD (by omega),fun v hv=>((zN x).2 v hv).1⟩
 have h3:lY (bK p)=true:=by
  simp only [lY,Bool.and_eq_true,ev lK fun h k=>k.frm,and_true];refine ⟨?_,?_⟩
  ·rw [List.all_eq_true];exact fun l hl=>(hlk l hl).2.2
  ·rw [List.all_eq_true];intro c hc;obtain ⟨i,x,hi,rfl⟩:=hcs c hc;rw [List.all_eq_true];exact fun v hv=>((zN x).2 v hv).2
 simp [dA,h1,h2,h3]
end Go.Proofs.YthhoebdlfjffkaaGreatDoor
namespace Go.Proofs.YthhoebdlfjffkaaGreatDoor
structure Sg where
 r:List Tk
 e:Nat
 o:Nat
def RQ (n:Nat):List Tk→Nat
 | []=>n
 | t::_=>t.o
def Sg.tl (s:Sg):Sg:=⟨s.r.tail,s.e,s.o⟩
def Sg.fail (n c:Nat) (s:Sg):Sg:=if s.e=0 then ⟨s.r,c,RQ n s.r⟩ else s
section
variable {α β:Type}
def up (n:Nat) (g:Pz α) (s:Sg):Sg:=if s.e=0 then (match g s.r with | .ok _ r=>⟨r,s.e,s.o⟩ | .er r c=>⟨r,c,RQ n r⟩) else s
def vl (g:Pz α) (s:Sg) (x:α):Prop:=s.e=0→∀ a r,g s.r=.ok a r→x=a
def Cz (g:Pz α):Prop:=∀ r r' c,g r=.er r' c→c≠0
theorem Rs.bind_er {x:Rs α} {f:α→List Tk→Rs β} {r:List Tk} {c:Nat} (h:x.bind f=.er r c):x=.er r c∨∃ a q,x=.ok a q∧f a q=.er r c:=by
 cases x with
 | ok a q=>exact .inr ⟨a,q,rfl,h⟩
 | er q d=>left;injection h with h1 h2;subst h1;subst h2;rfl
theorem Cz.pure (a:α):Cz (aS a):=fun r r' c e=>by cases e
theorem Cz.bind {g:Pz α} {f:α→Pz β} (h:Cz g) (k:∀ a,Cz (f a)):Cz (aH g f):=fun r r' c e=>by
 rcases Rs.bind_er e with e | ⟨a,q,_,e⟩
 ·exact h _ _ _ e
 ·exact k _ _ _ _ e
theorem Cz.nd (w:Str):Cz (gNd w):=fun r r' c e=>by
 unfold gNd at e
 split at e
 ·cases e
 ·injection e with _ e;omega
theorem Cz.nn (w:Str):Cz (gNn w):=fun r r' c e=>by
 unfold gNn at e
 split at e
 ·cases e
 ·injection e with _ e;omega
theorem Cz.nm:Cz gNm:=fun r r' c e=>by
 unfold gNm at e
 split at e
 ·injection e with _ e;omega
 ·split at e
  ·cases e
  ·injection e with _ e;omega
theorem Cz.nu:Cz gNu:=fun r r' c e=>by
 unfold gNu at e
 split at e
 ·injection e with _ e;omega
 ·split at e
  ·split at e
   ·cases e
   ·injection e with _ e;omega
  ·injection e with _ e;omega
theorem Cz.alt {w:Str} {p q:Pz α} (h:Cz p) (k:Cz q):Cz (dB w p q):=fun r r' c e=>by
 unfold dB at e
 split at e
 ·exact h _ _ _ e
 ·exact k _ _ _ e
theorem Cz.manyF {w:Str} {p:Pz α} (h:Cz p):∀ f,Cz (jG w p f)
 | 0=>fun r r' c e=>by unfold jG at e;injection e with _ e;omega
 | f+1=>.alt (.bind h fun _=>.bind (Cz.manyF h f) fun _=>.pure _) (.pure _)
theorem Cz.many {w:Str} {p:Pz α} (h:Cz p):Cz (dJ w p):=fun r r' c e=>Cz.manyF h _ _ _ _ e
theorem kF {n:Nat} {g:Pz α} {s:Sg} (h:s.e≠0):up n g s=s:=by unfold up;rw [if_neg h]
theorem bJ {n:Nat} {a:α} {s:Sg}:up n (aS a) s=s:=by
 unfold up aS
 split <;> rfl
theorem bC {a:α} {s:Sg}:vl (aS a) s a:=fun _ b r e=>by injection e
theorem LU {g:Pz α} {s:Sg} {x:α} (h:s.e≠0):vl g s x:=fun k=>absurd k h
theorem GK {n:Nat} {g:Pz α} {s:Sg} {r:List Tk} {c:Nat} (hz:Cz g) (h:g s.r=.er r c) (h0:s.e=0):(up n g s).e≠0:=by
 unfold up;rw [if_pos h0,h];exact hz _ _ _ h
theorem aB {n:Nat} {g:Pz α} {f:α→Pz β} {s:Sg} {x:α} (hz:Cz g) (hx:vl g s x):up n (aH g f) s=up n (f x) (up n g s):=by
 by_cases h0:s.e=0
 ·cases hg:g s.r with
  | er r c =>
   rw [kF (GK hz hg h0)];unfold up aH;rw [if_pos h0,if_pos h0,hg]
   rfl
  | ok a r =>
   obtain rfl:=hx h0 a r hg;have e:up n g s=⟨r,s.e,s.o⟩:=by unfold up;rw [if_pos h0,hg]
   rw [e];unfold up aH;rw [if_pos h0,if_pos h0,hg]
   rfl
 ·rw [kF h0,kF h0,kF h0]
theorem aC {n:Nat} {g:Pz α} {f:α→Pz β} {s:Sg} {x:α} {y:β} (hx:vl g s x) (hy:vl (f x) (up n g s) y):vl (aH g f) s y:=by
 intro h0 b r e;obtain ⟨a,q,h1,h2⟩:=Rs.bind_ok e;obtain rfl:=hx h0 a q h1;have e:up n g s=⟨q,s.e,s.o⟩:=by unfold up;rw [if_pos h0,h1]
 rw [e] at hy;exact hy h0 b r h2
def ac (w:Str) (s:Sg):Bool:=decide (s.e=0) && isT w s.r
theorem BL {w:Str} {s:Sg} (h:ac w s=true):s.e=0∧isT w s.r=true:=by
 unfold ac at h;rw [Bool.and_eq_true,decide_eq_true_eq] at h;exact h
theorem cU {n:Nat} {w:Str} {p q:Pz α} {s:Sg} (h:ac w s=true):up n (dB w p q) s=up n p s.tl:=by
 obtain ⟨h0,h1⟩:=BL h;unfold up dB Sg.tl;simp only [h0,h1,if_true]
theorem cJ {w:Str} {p q:Pz α} {s:Sg} {x:α} (h:ac w s=true) (hx:vl p s.tl x):vl (dB w p q) s x:=by
 obtain ⟨h0,h1⟩:=BL h;intro _ a r e;unfold dB at e;rw [if_pos h1] at e;exact hx h0 a r e
theorem aM {n:Nat} {w:Str} {p q:Pz α} {s:Sg} (h:ac w s=false):up n (dB w p q) s=up n q s:=by
 by_cases h0:s.e=0
 ·have h1:isT w s.r=false:=by
   unfold ac at h;rw [decide_eq_true h0,Bool.true_and] at h;exact h
  unfold up dB;simp only [h0,h1,if_true,Bool.false_eq_true,if_false]
 ·rw [kF h0,kF h0]
theorem aL {w:Str} {p q:Pz α} {s:Sg} {x:α} (h:ac w s=false) (hx:vl q s x):vl (dB w p q) s x:=by
 intro h0 a r e
 have h1:isT w s.r=false:=by
  unfold ac at h;rw [decide_eq_true h0,Bool.true_and] at h;exact h
 unfold dB at e;rw [if_neg (by rw [h1];decide)] at e;exact hx h0 a r e
theorem zO {n:Nat} {w:Str} {s:Sg} (h:ac w s=true):up n (gNd w) s=s.tl:=by
 obtain ⟨h0,h1⟩:=BL h;unfold up gNd Sg.tl;simp only [h0,h1,if_true]
theorem UL {n:Nat} {w:Str} {s:Sg} (h:ac w s=false):up n (gNd w) s=s.fail n 8:=by
 unfold Sg.fail
 by_cases h0:s.e=0
 ·have h1:isT w s.r=false:=by
   unfold ac at h;rw [decide_eq_true h0,Bool.true_and] at h;exact h
  unfold up gNd;simp only [h0,h1,if_true,Bool.false_eq_true,if_false]
 ·rw [kF h0,if_neg h0]
theorem aG {g:Pz Unit} {s:Sg}:vl g s ():=fun _ _ _ _=>rfl
end
theorem TP:∀ w∈words,iK (w.headD 0)=true∧w.length≤12:=by decide +kernel
theorem WW:∀ w∈symbols,iK (w.headD 0)=false∧dX (w.headD 0)=false:=by decide +kernel
theorem CL {c:UInt8} {r w:Str} (e:(c::r).take (aJ (c::r)).2=w):w.headD 0=c:=by
 have h:=(kR (l:=c::r) (by simp)).1;obtain ⟨k,hk⟩:∃ k,(aJ (c::r)).2=k+1:=⟨(aJ (c::r)).2 - 1,by omega⟩;rw [hk] at e;subst e
 rfl
theorem SU {c:UInt8} (h:dX c=true):iK c=false:=by
 have key:∀ i∈List.range 256,dX (UInt8.ofNat i)=true→iK (UInt8.ofNat i)=false:=by decide +kernel
 have:=key c.toNat (List.mem_range.2 c.toNat_lt);rw [UInt8.ofNat_toNat] at this;exact this h
theorem FB {m w:Str} (h:m≠[]) (hw:w∈words∨w∈symbols) (e:m.take (aJ m).2=w):(aJ m).1=2∨(aJ m).1=4:=by
 match m,h with
 | c::r,_ =>
  have hh:=CL e;cases h1:iK c with
  | true =>
   have hw1:w∈words:=by
    rcases hw with hw | hw
    ·exact hw
    ·have:=(WW w hw).1;rw [hh,h1] at this;cases this
   cases h4:words.contains ((c::r).take (pre eG (c::r))) with
   | true=>left;simp only [aJ,List.headD_cons,h1,h4,if_true]
   | false =>
    by_cases h5:pre eG (c::r)≤12
    ·simp only [aJ,List.headD_cons,h1,h4,h5,if_true,Bool.false_eq_true,if_false] at e;rw [e] at h4;rw [List.contains_iff_mem.2 hw1] at h4;cases h4
    ·simp only [aJ,List.headD_cons,h1,h4,h5,if_true,Bool.false_eq_true,if_false] at e;rw [List.take_length] at e;have h6:=nU eG (c::r);have h7:=(TP w hw1).2;rw [← e] at h7;omega
  | false =>
   have hw1:w∈symbols:=by
    rcases hw with hw | hw
    ·have:=(TP w hw).1;rw [hh,h1] at this;cases this
    ·exact hw
   have h4:dX c=false:=by
    have:=(WW w hw1).2;rw [hh] at this;exact this
   cases hx:symbols.find? (fun x=>x.isPrefixOf (c::r)) with
   | some x=>right;simp only [aJ,List.headD_cons,h1,h4,hx,Bool.false_eq_true,if_false]
   | none =>
    simp only [aJ,List.headD_cons,h1,h4,hx,Bool.false_eq_true,if_false] at e;rw [List.take_length] at e;have:=List.find?_eq_none.1 hx w hw1;rw [← e] at this;exact absurd (List.isPrefixOf_iff_prefix.2 (List.prefix_refl _)) this
theorem yB {m:Str} {c0:UInt8} (h:m≠[]) (hc:c0=50∨c0=51) (e:m.take (aJ m).2=[c0]):(aJ m).1=3:=by
 match m,h with
 | c::r,_ =>
  have hh:c0=c:=CL e;have h4:dX c=true:=by rw [← hh];rcases hc with rfl | rfl <;> decide
  have h1:=SU h4;have h5:pre dX (c::r)=1∨c≠48:=.inr (by rw [← hh];rcases hc with rfl | rfl <;> decide);simp only [aJ,List.headD_cons,h1,h4,h5,if_true,Bool.false_eq_true,if_false]
def Tkg (t:Tk):Prop:=(t.t∈words∨t.t∈symbols→t.k=2∨t.k=4)∧(t.t=[50]∨t.t=[51]→t.k=3)∧t.t≠[]
theorem TU:∀ (f o:Nat) (m:Str),∀ t∈pW f o m,Tkg t
 | 0,_,_,t,h=>by cases h
 | f+1,o,m,t,h=>by
  by_cases h0:m=[]
  ·rw [h0,jU] at h;cases h
  ·rw [iW h0] at h;rcases List.mem_cons.1 h with rfl | h
   ·refine ⟨fun hw=>FB h0 hw rfl,fun hc=>?_,fun e=>?_⟩
    ·rcases hc with hc | hc
     ·exact yB h0 (.inl rfl) hc
     ·exact yB h0 (.inr rfl) hc
    ·have hb:=kR h0;have h2:=congrArg List.length e;rw [List.length_take] at h2;simp only [List.length_nil] at h2;omega
   ·exact TU f _ _ t h
theorem KO (s:Str):∀ t∈gP s,Tkg t:=TU _ _ _
theorem SE {w:Str} {t:Tk} {r:List Tk} (h:Tkg t) (hw:w∈words∨w∈symbols):isT w (t::r)=decide (t.t=w):=by
 show ((t.k == 2 || t.k == 4) && decide (t.t=w))=_
 by_cases e:t.t=w
 ·have h1:=h.1 (by rw [e];exact hw);rw [decide_eq_true e];rcases h1 with h1 | h1 <;> rw [h1] <;> rfl
 ·rw [decide_eq_false e,Bool.and_false]
theorem SF {w:Str} {t:Tk} {r:List Tk} (h:Tkg t) (hw:w=[50]∨w=[51]):isN w (t::r)=decide (t.t=w):=by
 show (t.k == 3 && decide (t.t=w))=_
 by_cases e:t.t=w
 ·have h1:=h.2.1 (by rw [e];exact hw);rw [decide_eq_true e,h1]
  rfl
 ·rw [decide_eq_false e,Bool.and_false]
theorem NQ (l:Str) (c:UInt8):fO (l++[c])=10 * fO l+(c.toNat - 48):=by
 unfold fO;rw [List.foldl_append]
 rfl
theorem NP:∀ (r:Str) (v:Nat),v≤r.foldl (fun v c=>10 * v+(c.toNat - 48)) v
 | [],v=>Nat.le_refl _
 | c::r,v=>by
  rw [List.foldl_cons];have:=NP r (10 * v+(c.toNat - 48));omega
theorem RR (l r:Str):fO l≤fO (l++r):=by
 unfold fO;rw [List.foldl_append];exact NP r _
theorem KI (t:Str) (i:Nat):fO (t.take i)≤fO t:=by
 have h:=RR (t.take i) (t.drop i);rw [List.take_append_drop] at h;exact h
theorem KJ {t:Str} {i:Nat} {c:UInt8} (h:t[i]? = some c):fO (t.take (i+1))=10 * fO (t.take i)+(c.toNat - 48):=by
 rw [List.take_succ,h];exact NQ _ _
theorem KH:fO []=0:=rfl
def toks (o:Nat) (m:Str):List Tk:=pW (m.length+1) o m
def iD (m:Str):Nat:=m.length - (bZ false m).length
theorem CE (m:Str):iD m≤m.length:=Nat.sub_le _ _
theorem wS (m:Str):m.drop (iD m)=bZ false m:=EX false m
theorem BV (o:Nat):toks o []=[]:=jU _ _
theorem rY {o:Nat} {m:Str} (h:m≠[]):toks o m=⟨(aJ m).1,m.take (aJ m).2,o⟩::toks (o+(aJ m).2+iD (m.drop (aJ m).2)) (m.drop ((aJ m).2+iD (m.drop (aJ m).2))):=by
 have hr:=kR h;have hs:=fI false (m.drop (aJ m).2);rw [List.length_drop] at hs;unfold toks;rw [iW h,← List.drop_drop,wS]
 have e:o+(aJ m).2+iD (m.drop (aJ m).2)=o+(m.length - (bZ false (m.drop (aJ m).2)).length):=by
  unfold iD;rw [List.length_drop];omega
 rw [e,rZ _ _ _ _ _ (Nat.lt_succ_self _)];omega
theorem yG (s:Str):gP s=toks (iD s) (s.drop (iD s)):=by
 unfold toks gP;rw [wS];have hs:=fI false s;exact rZ _ _ _ _ (by omega) (by omega)
theorem BX:∀ (f o:Nat) (m:Str),(pW f o m).length≤m.length
 | 0,_,_=>by rw [pW];simp
 | f+1,o,m=>by
  by_cases h0:m=[]
  ·subst h0;rw [jU];simp
  ·have hr:=kR h0;have hs:=fI false (m.drop (aJ m).2);rw [List.length_drop] at hs;rw [iW h0,List.length_cons];have:=BX f (o+(m.length - (bZ false (m.drop (aJ m).2)).length)) (bZ false (m.drop (aJ m).2));omega
theorem oD (s:Str):(gP s).length≤s.length:=Nat.le_trans (BX _ _ _) (fI false s)
def gX (lv:Nat):Pz Ex:=pX lv
def gL (lv:Nat) (a:Ex):Pz Ex:=pL lv a
def Sg.mu (s:Sg):Nat:=if s.e=0 then s.r.length+1 else 0
theorem Sg.mu_er {s:Sg} (h:s.e≠0):s.mu=0:=by unfold Sg.mu;rw [if_neg h]
theorem eT {α:Type} {n:Nat} {g:Pz α} {s:Sg} (h:Shr g) (hz:Cz g):(up n g s).mu≤s.mu:=by
 by_cases h0:s.e=0
 ·cases hg:g s.r with
  | er r c=>rw [Sg.mu_er (GK hz hg h0)];exact Nat.zero_le _
  | ok a r =>
   have:=h _ _ _ hg;unfold up;rw [if_pos h0,hg];unfold Sg.mu;simp only [h0,if_true];omega
 ·rw [kF h0];exact Nat.le_refl _
theorem kX {w:Str} {s:Sg} (h:ac w s=true):s.tl.mu<s.mu:=by
 obtain ⟨h0,h1⟩:=BL h;have:=eE h1;unfold Sg.mu Sg.tl;simp only [h0,if_true];omega
theorem Cz.ex (lv:Nat):Cz (gX lv):=by
 have prim:∀ rec:List Tk→Rs Ex,(∀ r r' c,rec r=.er r' c→c≠0)→∀ r r' c,gA rec r=.er r' c→c≠0:=by
  intro rec hr r r' c e
  have nd:∀ {α:Type} (w:Str) (r:List Tk) (f:List Tk→Rs α),(∀ r r' c,f r=.er r' c→c≠0)→∀ r' c,jA w r f=.er r' c→c≠0:=by
   intro α w r f hf r' c e;unfold jA at e
   split at e
   ·exact hf _ _ _ e
   ·injection e with _ e;omega
  have nm:∀ {α:Type} (r:List Tk) (f:Str→List Tk→Rs α),(∀ s r r' c,f s r=.er r' c→c≠0)→∀ r' c,lO r f=.er r' c→c≠0:=by
   intro α r f hf r' c e;unfold lO at e
   split at e
   ·injection e with _ e;omega
   ·split at e
    ·exact hf _ _ _ _ e
    ·injection e with _ e;omega
  have rb:∀ (r:List Tk) (f:Ex→List Tk→Rs Ex),(∀ x r r' c,f x r=.er r' c→c≠0)→∀ r' c,(rec r).bind f=.er r' c→c≠0:=by
   intro r f hf r' c e;rcases Rs.bind_er e with e | ⟨a,q,_,e⟩
   ·exact hr _ _ _ e
   ·exact hf _ _ _ _ e
  unfold gA at e
  split at e
  ·injection e with _ e;omega
  ·split at e
   ·split at e
    ·cases e
    ·injection e with _ e;omega
   split at e
   ·cases e
   split at e
   ·cases e
   split at e
   ·cases e
   split at e
   ·exact nm _ _ (fun s r r' c e=>by cases e) _ _ e
   split at e
   ·exact rb _ _ (fun x r r' c e=>nd _ _ _ (fun r r' c e=>by cases e) _ _ e) _ _ e
   split at e
   ·exact nm _ _ (fun s r r' c e=>nd _ _ _ (fun r r' c e=>rb _ _ (fun x r r' c e=>nd _ _ _ (fun r r' c e=>by cases e) _ _ e) _ _ e) _ _ e) _ _ e
   split at e
   ·split at e
    ·exact rb _ _ (fun x r r' c e=>nd _ _ _ (fun r r' c e=>by cases e) _ _ e) _ _ e
    ·cases e
   ·injection e with _ e;omega
 have key:∀ f,(∀ lv r r' c,pE f (.ex lv) r=.er r' c→c≠0)∧(∀ lv a r r' c,pE f (.lp lv a) r=.er r' c→c≠0):=by
  intro f;induction f with
  | zero=>exact ⟨fun lv r r' c e=>by unfold pE at e;injection e with _ e;omega,fun lv a r r' c e=>by unfold pE at e;injection e with _ e;omega⟩
  | succ f ih =>
   obtain ⟨ih1,ih2⟩:=ih;refine ⟨fun lv r r' c e=>?_,fun lv a r r' c e=>?_⟩
   ·rw [vW] at e
    split at e
    ·rcases Rs.bind_er e with e | ⟨a,q,_,e⟩
     ·exact ih1 _ _ _ _ e
     ·exact ih2 _ _ _ _ _ e
    split at e
    ·rcases Rs.bind_er e with e | ⟨a,q,_,e⟩
     ·exact ih1 _ _ _ _ e
     ·cases e
    split at e
    ·rcases Rs.bind_er e with e | ⟨a,q,_,e⟩
     ·exact ih1 _ _ _ _ e
     ·cases e
    ·exact prim _ (fun r r' c e=>ih1 _ _ _ _ e) _ _ _ e
   ·rw [vV] at e
    split at e
    ·cases e
    ·rcases Rs.bind_er e with e | ⟨b,q,_,e⟩
     ·exact ih1 _ _ _ _ e
     ·split at e
      ·cases e
      ·exact ih2 _ _ _ _ _ e
 exact fun r r' c e=>(key _).1 _ _ _ _ e
theorem Shs.gx (lv:Nat):Shs (gX lv):=fun r a r' e=>(qJ _).1 _ _ _ _ e
theorem AR {lv:Nat} (h:lv<5):gX lv=aH (gX (lv+1)) (gL lv):=funext fun _=>zX h
theorem DS:gX 5=dB [45] (aH (gX 5) fun x=>aS (opE 9 [x])) (dB [110,111,116] (aH (gX 5) fun x=>aS (opE 10 [x])) (gA (gX 0))):=funext fun _=>qZ
def opS (lv:Nat) (s:Sg):Option UInt8:=if s.e=0 then opAt lv s.r else none
theorem LY {n lv:Nat} {a:Ex} {s:Sg} (h:opS lv s=none):up n (gL lv a) s=s∧vl (gL lv a) s a:=by
 by_cases h0:s.e=0
 ·unfold opS at h;rw [if_pos h0] at h;refine ⟨?_,fun _ b r e=>?_⟩
  ·unfold up gL;rw [if_pos h0,pC h]
  ·unfold gL at e;rw [pC h] at e;injection e
 ·exact ⟨kF h0,LU h0⟩
def gK (lv:Nat) (op:UInt8) (a:Ex) (b:Ex):Pz Ex:=if lv=2 then aS (opE op [a,b]) else gL lv (opE op [a,b])
theorem lpS {lv:Nat} {a:Ex} {s:Sg} {op:UInt8} (hl:lv≤4) (h:opS lv s=some op):s.e=0∧gL lv a s.r=aH (gX (lv+1)) (gK lv op a) s.tl.r:=by
 unfold opS at h
 by_cases h0:s.e=0
 ·rw [if_pos h0] at h;refine ⟨h0,?_⟩;show pL lv a s.r=_;rw [HC hl h];refine Rs.bind_congr rfl fun b q _=>?_;unfold gK
  split <;> rfl
 ·rw [if_neg h0] at h;cases h
theorem LX {n lv:Nat} {a:Ex} {s:Sg} {op:UInt8} (hl:lv≤4) (h:opS lv s=some op):up n (gL lv a) s=up n (aH (gX (lv+1)) (gK lv op a)) s.tl:=by
 obtain ⟨h0,h1⟩:=lpS (a:=a) hl h;unfold up;rw [if_pos h0,h1,if_pos (show s.tl.e=0 from h0)]
 rfl
theorem LT {lv:Nat} {a x:Ex} {s:Sg} {op:UInt8} (hl:lv≤4) (h:opS lv s=some op) (hx:vl (aH (gX (lv+1)) (gK lv op a)) s.tl x):vl (gL lv a) s x:=by
 obtain ⟨h0,h1⟩:=lpS (a:=a) hl h;intro _ b r e;rw [h1] at e;exact hx h0 b r e
def FR (op:UInt8) (nm:Str):Pz Ex:=aH (gX 0) fun x=>aH (gNd [93]) fun _=>aS (.mk op nm 0 [x])
def SI:Pz Ex:=aH gNu fun v=>aS (.mk 1 [] v [])
def FQ:Pz Ex:=aH gNm fun s=>dB [91] (FR 6 s) (aS (.mk 5 s 0 []))
def IC:List Tk→Bool
 | []=>false
 | t::_=>decide (t.k=3)
def mX:Pz Ex:=fun r=>if IC r then SI r else FQ r
def eL:Pz Ex :=
 dB [116,114,117,101] (aS (opE 2 []))<|dB [102,97,108,115,101] (aS (opE 3 []))<|dB [110,111,119] (aS (opE 4 []))<|dB [115,105,122,101] (aH gNm fun s=>aS (.mk 8 s 0 []))<|dB [104,97,115] (aH gNm fun s=>aH (gNd [91]) fun _=>FR 7 s)<|dB [40] (aH (gX 0) fun x=>aH (gNd [41]) fun _=>aS x) mX
theorem DC {α:Type} (r:List Tk) (f:Str→Pz α):(lO r fun s q=>f s q)=aH gNm f r:=by
 unfold lO aH gNm;cases r with
 | nil=>rfl
 | cons t q =>
  simp only
  split <;> rfl
theorem rD {α:Type} (w:Str) (r:List Tk) (f:Pz α):(jA w r fun q=>f q)=aH (gNd w) (fun _=>f) r:=by
 unfold jA aH gNd
 split <;> rfl
theorem DM {w:Str} {t:Tk} {q:List Tk} (h:isT w (t::q)=true):(t.k=2∨t.k=4)∧t.t=w:=by
 unfold isT at h;rw [Bool.and_eq_true,decide_eq_true_eq,Bool.or_eq_true,beq_iff_eq,beq_iff_eq] at h;exact h
theorem VU {w:Str} {t:Tk} {q:List Tk} (h:t.k=3):isT w (t::q)=false:=by
 cases e:isT w (t::q) with
 | false=>rfl
 | true =>
  have:=(DM e).1;rw [h] at this
  revert this
  decide
theorem RK:gA (gX 0)=eL:=funext fun r=>by
 cases r with
 | nil=>rfl
 | cons t q =>
  by_cases h3:t.k=3
  ·have e:eL (t::q)=SI (t::q):=by
    unfold eL dB mX IC;simp only [VU h3,Bool.false_eq_true,if_false,h3,decide_true,if_true]
   rw [e];unfold gA SI aH gNu;simp only [h3,if_true]
   split <;> rfl
  ·have hl:mX (t::q)=FQ (t::q):=by
    unfold mX IC;simp only [h3,decide_false,Bool.false_eq_true,if_false]
   unfold gA;simp only [h3,if_false];unfold eL dB;refine ifC rfl (ifC rfl (ifC rfl (ifC ?_ ?_)))
   ·exact DC q fun s=>aS _
   by_cases hp:isT [40] (t::q)=true
   ·have hn:isT [104,97,115] (t::q)=false:=by
     cases e:isT [104,97,115] (t::q) with
     | false=>rfl
     | true =>
      have h1:=(DM hp).2;have h2:=(DM e).2;rw [h1] at h2
      revert h2
      decide
    simp only [hp,hn,if_true,Bool.false_eq_true,if_false];refine Rs.bind_congr rfl fun x r2 _=>?_;exact rD [41] r2 (aS x)
   ·simp only [hp,Bool.false_eq_true,if_false];refine ifC ?_ ?_
    ·rw [List.tail_cons,← DC];unfold lO;cases q with
     | nil=>rfl
     | cons t2 q2 =>
      simp only;refine ifC ?_ rfl;rw [← rD];unfold jA;refine ifC ?_ rfl;refine Rs.bind_congr rfl fun x r4 _=>?_;exact rD [93] r4 (aS _)
    ·rw [hl];unfold FQ aH gNm;simp only
     by_cases h1:t.k=1
     ·simp only [h1,if_true];show _=dB [91] (FR 6 t.t) (aS (.mk 5 t.t 0 [])) q;unfold dB;refine ifC ?_ rfl;refine Rs.bind_congr rfl fun x r4 _=>?_;exact rD [93] r4 (aS _)
     ·simp only [h1,if_false]
      rfl
section
variable {α β:Type}
theorem nR {n:Nat} {g:Pz α} {f:α→β} {s:Sg}:up n (aH g fun a=>aS (f a)) s=up n g s:=by
 unfold up aH aS
 by_cases h0:s.e=0
 ·simp only [h0,if_true];cases g s.r <;> rfl
 ·simp only [h0,if_false]
theorem nD {g:Pz α} {f:α→β} {s:Sg} {x:α} (h:vl g s x):vl (aH g fun a=>aS (f a)) s (f x):=by
 intro h0 b r e;obtain ⟨a,q,h1,h2⟩:=Rs.bind_ok e;obtain rfl:=h h0 a q h1;injection h2
theorem YE {w w':Str} {s:Sg} (h:ac w s=true) (hne:w≠w'):ac w' s=false:=by
 cases e:ac w' s with
 | false=>rfl
 | true =>
  have h1:=(BL h).2;have h2:=(BL e).2;cases hr:s.r with
  | nil=>rw [hr] at h1;cases h1
  | cons t q =>
   rw [hr] at h1 h2;exact absurd ((DM h1).2.symm.trans (DM h2).2) hne
theorem VN {n:Nat} {w:Str} {p:Pz α} {s:Sg} {x:α} (hp:Shr p) (hz:Cz p) (h:ac w s=true) (hx:vl p s.tl x):up n (dJ w p) s=up n (dJ w p) (up n p s.tl):=by
 conv=>lhs;rw [mW hp]
 rw [cU h,aB hz hx,nR]
theorem RW {n:Nat} {w:Str} {p:Pz α} {s:Sg} {x:α} {l:List α} (hp:Shr p) (h:ac w s=true) (hx:vl p s.tl x) (hl:vl (dJ w p) (up n p s.tl) l):vl (dJ w p) s (x::l):=by
 rw [mW hp];exact cJ h (aC hx (nD hl))
theorem VO {n:Nat} {w:Str} {p:Pz α} {s:Sg} (hp:Shr p) (h:ac w s=false):up n (dJ w p) s=s:=by
 rw [mW hp,aM h,bJ]
theorem RX {w:Str} {p:Pz α} {s:Sg} (hp:Shr p) (h:ac w s=false):vl (dJ w p) s []:=by
 rw [mW hp];exact aL h bC
end
theorem Cz.st {b:Pz (List Sm)} (h:Cz b):Cz (gSt b):=by
 have hx:Cz gEx:=Cz.ex 0;have blk:Cz (iT b):=.bind (.nd _) fun _=>.bind h fun _=>.bind (.nd _) fun _=>.pure _;have els:Cz (sN b):=.alt blk (.pure _);have oth:Cz (kO b):=.alt blk (.bind (.nd _) fun _=>.pure _);have lst:Cz (eN gEx):=.bind (.nd _) fun _=>.alt (.pure _) (.bind hx fun _=>.bind (.many hx) fun _=>.bind (.nd _) fun _=>.pure _)
 exact .alt (.bind hx fun _=>.bind blk fun _=>.bind els fun _=>.pure _)<|.alt (.bind hx fun _=>.bind blk fun _=>.pure _)<|.alt (.bind hx fun _=>.bind (.nd _) fun _=>.bind hx fun _=>.bind oth fun _=>.pure _)<|.alt (.bind .nm fun _=>.bind (.nd _) fun _=>.bind hx fun _=>.bind oth fun _=>.pure _)<|.alt (.bind .nm fun _=>.bind (.nd _) fun _=>.bind .nm fun _=>.bind lst fun _=>.bind (.nd _) fun _=>.pure _)<|.alt (.bind hx fun _=>.bind (.nd _) fun _=>.bind .nm fun _=>.bind lst fun _=>.bind (.nd _) fun _=>.pure _)<|.alt (.bind (.nd _) fun _=>.pure _)<|.alt (.bind .nm fun _=>.bind (.nd _) fun _=>.bind hx fun _=>.bind (.nd _) fun _=>.bind (.nd _) fun _=>.pure _)<|.bind .nm fun _=>.alt (.bind hx fun _=>.bind (.nd _) fun _=>.bind (.nd _) fun _=>.bind hx fun _=>.bind (.nd _) fun _=>.pure _)
  (.bind (.nd _) fun _=>.bind hx fun _=>.bind (.nd _) fun _=>.pure _)
theorem Cz.bF:∀ f,Cz (gBF f)
 | 0=>fun r r' c e=>by unfold gBF at e;injection e with _ e;omega
 | f+1=>fun r r' c e=>by
  unfold gBF at e
  split at e
  ·cases e
  ·rcases Rs.bind_er e with e | ⟨a,q,_,e⟩
   ·exact Cz.st (Cz.bF f) _ _ _ e
   ·rcases Rs.bind_er e with e | ⟨l,q2,_,e⟩
    ·exact Cz.bF f _ _ _ e
    ·cases e
theorem Cz.b:Cz gB:=fun r r' c e=>Cz.bF _ _ _ _ e
def goB (s:Sg):Bool:=decide (s.e=0) && !isT [125] s.r
theorem XV {n:Nat} {s:Sg} (h:goB s=false):up n gB s=s∧vl gB s []:=by
 by_cases h0:s.e=0
 ·have h1:isT [125] s.r=true:=by
   unfold goB at h;rw [decide_eq_true h0,Bool.true_and] at h;simpa using h
  have e:gB s.r=.ok [] s.r:=by rw [IH,if_pos h1]
  refine ⟨?_,fun _ b r e2=>?_⟩
  ·unfold up;rw [if_pos h0,e]
  ·rw [e] at e2;injection e2
 ·exact ⟨kF h0,LU h0⟩
theorem IG {s:Sg} (h:goB s=true):s.e=0∧gB s.r=aH (gSt gB) (fun a=>aH gB fun l=>aS (a::l)) s.r:=by
 unfold goB at h;rw [Bool.and_eq_true,decide_eq_true_eq] at h;refine ⟨h.1,?_⟩;rw [IH,if_neg (by simpa using h.2)]
 rfl
theorem XU {n:Nat} {s:Sg} {x:Sm} (h:goB s=true) (hx:vl (gSt gB) s x):up n gB s=up n gB (up n (gSt gB) s):=by
 obtain ⟨h0,h1⟩:=IG h
 have e:up n gB s=up n (aH (gSt gB) (fun a=>aH gB fun l=>aS (a::l))) s:=by
  unfold up;rw [if_pos h0,if_pos h0,h1]
 rw [e,aB (Cz.st Cz.b) hx,nR]
theorem WD {n:Nat} {s:Sg} {x:Sm} {l:List Sm} (h:goB s=true) (hx:vl (gSt gB) s x) (hl:vl gB (up n (gSt gB) s) l):vl gB s (x::l):=by
 obtain ⟨h0,h1⟩:=IG h;have e:vl (aH (gSt gB) (fun a=>aH gB fun l=>aS (a::l))) s (x::l):=aC hx (nD hl);intro _ b r e2;rw [h1] at e2;exact e h0 b r e2
section
variable {α:Type}
theorem Cz.blk:Cz (iT gB):=.bind (.nd _) fun _=>.bind Cz.b fun _=>.bind (.nd _) fun _=>.pure _
theorem Cz.list {p:Pz α} (h:Cz p):Cz (eN p):=.bind (.nd _) fun _=>.alt (.pure _) (.bind h fun _=>.bind (.many h) fun _=>.bind (.nd _) fun _=>.pure _)
theorem Cz.tr:Cz gTr:=.alt (.pure _) (.bind (.nd _) fun _=>.pure _)
theorem Cz.fg:Cz gFg:=.bind .nm fun _=>.bind (.nd _) fun _=>.bind .tr fun _=>.bind (.nd _) fun _=>.pure _
theorem Cz.lk:Cz gLk:=.bind .nm fun _=>.bind (.nd _) fun _=>.bind .nm fun _=>.bind (.nd _) fun _=>.bind .nu fun _=>.bind (.nd _) fun _=>.pure _
theorem Cz.int:Cz sM:=.alt (.bind .nu fun _=>.pure _) .nu
theorem Cz.vr:Cz gVr:=.bind .nm fun _=>.bind (.nd _) fun _=>.alt (.bind (.nd _) fun _=>.bind .int fun _=>.bind (.nd _) fun _=>.pure _)<|.alt (.bind (.nd _) fun _=>.bind .tr fun _=>.bind (.nd _) fun _=>.pure _)<|.bind (.nd _) fun _=>.bind (.nd _) fun _=>.pure _
theorem Cz.hd:Cz gHd:=.bind .nm fun _=>.bind (.list .nm) fun _=>.bind .blk fun _=>.pure _
theorem Cz.vs:Cz gVs:=.many .hd
theorem Cz.vn (w:Str):Cz (gVn w):=.bind (.nn _) fun _=>.bind (.nd _) fun _=>.bind .vs fun _=>.bind (.nd _) fun _=>.pure _
theorem Cz.vm:Cz gVm:=.alt (.bind (.vn _) fun _=>.alt (.bind (.vn _) fun _=>.pure _) (.pure _)) (.pure _)
theorem Cz.cp:Cz gCp:=.bind .nm fun _=>.bind (.nd _) fun _=>.bind (.many .vr) fun _=>.bind .vs fun _=>.bind .vm fun _=>.bind (.nd _) fun _=>.pure _
theorem Cz.ft:Cz gFt:=.bind (.nd _) fun _=>.bind .nm fun _=>.bind (.nd _) fun _=>.bind (.many .fg) fun _=>.bind (.many .lk) fun _=>.bind (.many .cp) fun _=>.bind (.nd _) fun _=>.pure _
end
def Sg.cl (n:Nat) (s:Sg):Sg:=if s.r=[] then s else s.fail n 8
def sg0 (t:Str):Sg:=if 20000<t.length then ⟨[],3,0⟩ else ⟨gP t,0,0⟩
def sgZ {α:Type} (g:Pz α) (t:Str):Sg:=(up t.length g (sg0 t)).cl t.length
def Suf {α:Type} (g:Pz α):Prop:=∀ r,(∀ a r',g r=.ok a r'→r'<:+r)∧(∀ r' c,g r=.er r' c→r'<:+r)
section
variable {α β:Type}
theorem Suf.bind {g:Pz α} {f:α→Pz β} (h:Suf g) (k:∀ a,Suf (f a)):Suf (aH g f):=fun r=>by
 refine ⟨fun b r' e=>?_,fun r' c e=>?_⟩
 ·obtain ⟨a,q,h1,h2⟩:=Rs.bind_ok e;exact ((k a q).1 _ _ h2).trans ((h r).1 _ _ h1)
 ·rcases Rs.bind_er e with e | ⟨a,q,h1,h2⟩
  ·exact (h r).2 _ _ e
  ·exact ((k a q).2 _ _ h2).trans ((h r).1 _ _ h1)
theorem Suf.pure (a:α):Suf (aS a):=fun r=>⟨fun b r' e=>by injection e with _ e;rw [e];exact List.suffix_refl _,fun r' c e=>by cases e⟩
theorem Suf.alt {w:Str} {p q:Pz α} (h:Suf p) (k:Suf q):Suf (dB w p q):=fun r=>by
 refine ⟨fun b r' e=>?_,fun r' c e=>?_⟩
 ·unfold dB at e
  split at e
  ·exact ((h _).1 _ _ e).trans (List.tail_suffix r)
  ·exact (k _).1 _ _ e
 ·unfold dB at e
  split at e
  ·exact ((h _).2 _ _ e).trans (List.tail_suffix r)
  ·exact (k _).2 _ _ e
theorem Suf.nd (w:Str):Suf (gNd w):=fun r=>by
 refine ⟨fun b r' e=>?_,fun r' c e=>?_⟩
 ·unfold gNd at e
  split at e
  ·injection e with _ e;subst e;exact List.tail_suffix r
  ·cases e
 ·unfold gNd at e
  split at e
  ·cases e
  ·injection e with e _;subst e;exact List.suffix_refl _
theorem Suf.nn (w:Str):Suf (gNn w):=fun r=>by
 refine ⟨fun b r' e=>?_,fun r' c e=>?_⟩
 ·unfold gNn at e
  split at e
  ·injection e with _ e;subst e;exact List.tail_suffix r
  ·cases e
 ·unfold gNn at e
  split at e
  ·cases e
  ·injection e with e _;subst e;exact List.suffix_refl _
theorem Suf.nm:Suf gNm:=fun r=>by
 refine ⟨fun b r' e=>?_,fun r' c e=>?_⟩
 ·unfold gNm at e
  split at e
  ·cases e
  ·split at e
   ·injection e with _ e;subst e;exact List.suffix_cons _ _
   ·cases e
 ·unfold gNm at e
  split at e
  ·injection e with e _;subst e;exact List.suffix_refl _
  ·split at e
   ·cases e
   ·injection e with e _;subst e;exact List.suffix_refl _
theorem Suf.nu:Suf gNu:=fun r=>by
 refine ⟨fun b r' e=>?_,fun r' c e=>?_⟩
 ·unfold gNu at e
  split at e
  ·cases e
  ·split at e
   ·split at e
    ·injection e with _ e;subst e;exact List.suffix_cons _ _
    ·cases e
   ·cases e
 ·unfold gNu at e
  split at e
  ·injection e with e _;subst e;exact List.suffix_refl _
  ·split at e
   ·split at e
    ·cases e
    ·injection e with e _;subst e;exact List.suffix_refl _
   ·injection e with e _;subst e;exact List.suffix_refl _
theorem Suf.manyF {w:Str} {p:Pz α} (h:Suf p):∀ f,Suf (jG w p f)
 | 0=>fun r=>⟨fun b r' e=>(by unfold jG at e;cases e),fun r' c e=>(by unfold jG at e;injection e with e _;subst e;exact List.suffix_refl _)⟩
 | f+1=>.alt (.bind h fun _=>.bind (Suf.manyF h f) fun _=>.pure _) (.pure _)
theorem Suf.many {w:Str} {p:Pz α} (h:Suf p):Suf (dJ w p):=fun r=>Suf.manyF h _ r
theorem Suf.up {g:Pz α} {n:Nat} {s:Sg} {ts:List Tk} (h:Suf g) (hs:s.r<:+ts):(up n g s).r<:+ts:=by
 unfold Go.Proofs.YthhoebdlfjffkaaGreatDoor.up
 split
 ·cases e:g s.r with
  | ok a r=>exact ((h _).1 _ _ e).trans hs
  | er r c=>exact ((h _).2 _ _ e).trans hs
 ·exact hs
theorem Suf.tl {s:Sg} {ts:List Tk} (hs:s.r<:+ts):s.tl.r<:+ts:=(List.tail_suffix s.r).trans hs
end
theorem Suf.ex (lv:Nat):Suf (gX lv):=by
 have st:∀ (r:List Tk),r.tail<:+r:=List.tail_suffix
 have prim:∀ rec:List Tk→Rs Ex,Suf rec→Suf (gA rec):=by
  intro rec hr r;refine ⟨fun a r' e=>?_,fun r' c e=>?_⟩
  ·unfold gA at e
   split at e
   ·cases e
   ·rename_i t q
    have fin:∀ {b:Ex} {l:List Tk},(Rs.ok b l:Rs Ex)=.ok a r'→l<:+q→r'<:+(t::q):=by
     intro b l e hl;injection e with _ e;subst e;exact hl.trans (List.suffix_cons _ _)
    split at e
    ·split at e
     ·exact fin e (List.suffix_refl _)
     ·cases e
    split at e
    ·exact fin e (List.suffix_refl _)
    split at e
    ·exact fin e (List.suffix_refl _)
    split at e
    ·exact fin e (List.suffix_refl _)
    split at e
    ·obtain ⟨t2,r2,rfl,_,e⟩:=mS e;exact fin e (List.suffix_cons _ _)
    split at e
    ·obtain ⟨x,r2,h1,e⟩:=Rs.bind_ok e;obtain ⟨_,e⟩:=gM e;exact fin e ((st _).trans ((hr _).1 _ _ h1))
    split at e
    ·obtain ⟨t2,r2,rfl,_,e⟩:=mS e;obtain ⟨_,e⟩:=gM e;obtain ⟨x,r4,h1,e⟩:=Rs.bind_ok e;obtain ⟨_,e⟩:=gM e;exact fin e ((st _).trans (((hr _).1 _ _ h1).trans ((st _).trans (List.suffix_cons _ _))))
    split at e
    ·split at e
     ·obtain ⟨x,r4,h1,e⟩:=Rs.bind_ok e;obtain ⟨_,e⟩:=gM e;exact fin e ((st _).trans (((hr _).1 _ _ h1).trans (st _)))
     ·exact fin e (List.suffix_refl _)
    ·cases e
  ·unfold gA at e
   split at e
   ·injection e with e _;subst e;exact List.suffix_refl _
   ·rename_i t q;have q0:q<:+(t::q):=List.suffix_cons _ _
    have nd:∀ {w:Str} {z:List Tk} {f:List Tk→Rs Ex},jA w z f=.er r' c→z<:+(t::q)→(∀ y,y<:+(t::q)→f y=.er r' c→r'<:+(t::q))→r'<:+(t::q):=by
     intro w z f e hz hf;unfold jA at e
     split at e
     ·exact hf _ ((st _).trans hz) e
     ·injection e with e _;subst e;exact hz
    have nm:∀ {z:List Tk} {f:Str→List Tk→Rs Ex},lO z f=.er r' c→z<:+(t::q)→(∀ x y,y<:+(t::q)→f x y=.er r' c→r'<:+(t::q))→r'<:+(t::q):=by
     intro z f e hz hf;unfold lO at e
     split at e
     ·injection e with e _;subst e;exact hz
     ·split at e
      ·exact hf _ _ ((List.suffix_cons _ _).trans hz) e
      ·injection e with e _;subst e;exact hz
    have rb:∀ {z:List Tk} {f:Ex→List Tk→Rs Ex},(rec z).bind f=.er r' c→z<:+(t::q)→(∀ x y,y<:+(t::q)→f x y=.er r' c→r'<:+(t::q))→r'<:+(t::q):=by
     intro z f e hz hf;rcases Rs.bind_er e with e | ⟨a,y,h1,e⟩
     ·exact ((hr _).2 _ _ e).trans hz
     ·exact hf _ _ (((hr _).1 _ _ h1).trans hz) e
    split at e
    ·split at e
     ·cases e
     ·injection e with e _;subst e;exact List.suffix_refl _
    split at e
    ·cases e
    split at e
    ·cases e
    split at e
    ·cases e
    split at e
    ·exact nm e q0 fun _ _ _ e=>by cases e
    split at e
    ·exact rb e q0 fun _ _ hy e=>nd e hy fun _ _ e=>by cases e
    split at e
    ·exact nm e q0 fun _ _ hy e=>nd e hy fun _ hy e=>rb e hy fun _ _ hy e=>nd e hy fun _ _ e=>by cases e
    split at e
    ·split at e
     ·exact rb e ((st _).trans q0) fun _ _ hy e=>nd e hy fun _ _ e=>by cases e
     ·cases e
    ·injection e with e _;subst e;exact List.suffix_refl _
 have key:∀ f,(∀ lv,Suf (pE f (.ex lv)))∧(∀ lv a,Suf (pE f (.lp lv a))):=by
  intro f;induction f with
  | zero=>exact ⟨fun lv r=>⟨fun a r' e=>(by unfold pE at e;cases e),fun r' c e=>(by unfold pE at e;injection e with e _;subst e;exact List.suffix_refl _)⟩,fun lv a r=>⟨fun a r' e=>(by unfold pE at e;cases e),fun r' c e=>(by unfold pE at e;injection e with e _;subst e;exact List.suffix_refl _)⟩⟩
  | succ f ih =>
   obtain ⟨ih1,ih2⟩:=ih
   have un:∀ op,Suf (fun r=>(pE f (.ex 5) r.tail).bind fun x r2=>.ok (opE op [x]) r2):=by
    intro op r;refine ⟨fun a r' e=>?_,fun r' c e=>?_⟩
    ·obtain ⟨x,q,h1,e⟩:=Rs.bind_ok e;injection e with _ e
     subst e;exact ((ih1 _ _).1 _ _ h1).trans (st _)
    ·rcases Rs.bind_er e with e | ⟨x,q,_,e⟩
     ·exact ((ih1 _ _).2 _ _ e).trans (st _)
     ·cases e
   refine ⟨fun lv r=>?_,fun lv a r=>?_⟩
   ·rw [vW]
    split
    ·exact Suf.bind (ih1 _) (fun a=>ih2 lv a) r
    split
    ·exact un 9 r
    split
    ·exact un 10 r
    ·exact prim _ (ih1 0) r
   ·rw [vV]
    split
    ·exact Suf.pure a r
    ·rename_i op _
     have:Suf (fun q=>(pE f (.ex (lv+1)) q).bind fun b r2=>if lv=2 then .ok (opE op [a,b]) r2 else pE f (.lp lv (opE op [a,b])) r2):=by
      refine Suf.bind (ih1 _) fun b=>?_;intro q;dsimp only
      split
      ·exact Suf.pure _ q
      ·exact ih2 _ _ q
     exact ⟨fun b r' e=>((this r.tail).1 _ _ e).trans (st _),fun r' c e=>((this r.tail).2 _ _ e).trans (st _)⟩
 exact fun r=>(key _).1 lv r
def tkH (n:Nat):List Tk→Tk
 | []=>⟨0,[],n⟩
 | t::_=>t
theorem WU (n:Nat) (r:List Tk):(tkH n r).o=RQ n r:=by cases r <;> rfl
def tcB (n:Nat) (w:Str) (s:Sg):Bool:=decide (s.e=0) && decide ((tkH n s.r).t=w)
theorem TQ:∀ w∈words++symbols,w≠[]:=by decide +kernel
theorem HO {r ts:List Tk} {P:Tk→Prop} (hg:∀ t∈ts,P t) (hs:r<:+ts):∀ t∈r,P t:=fun t h=>hg t (hs.subset h)
theorem ER {n:Nat} {w:Str} {s:Sg} {ts:List Tk} (hg:∀ t∈ts,Tkg t) (hs:s.r<:+ts) (hw:w∈words∨w∈symbols):tcB n w s=ac w s:=by
 unfold tcB ac
 congr 1
 have h:=HO hg hs;cases e:s.r with
 | nil =>
  have:=TQ w (List.mem_append.2 hw);show decide ([]=w)=false;exact decide_eq_false fun k=>this k.symm
 | cons t q =>
  rw [SE (h t (by rw [e];exact List.mem_cons_self ..)) hw]
  rfl
def acS (w:Str) (s:Sg):Sg:=if ac w s then s.tl else s
theorem fK {w:Str} {s:Sg} (h:ac w s=true):acS w s=s.tl:=by unfold acS;rw [if_pos h]
theorem fM {w:Str} {s:Sg} (h:ac w s=false):acS w s=s:=by unfold acS;rw [if_neg (by rw [h];decide)]
theorem IU {w:Str} {s:Sg} {ts:List Tk} (hs:s.r<:+ts):(acS w s).r<:+ts:=by
 unfold acS
 split
 ·exact Suf.tl hs
 ·exact hs
theorem XL {n:Nat} {w:Str} {s:Sg}:up n (gNd w) s=if ac w s then s.tl else s.fail n 8:=by
 split
 ·rename_i h;exact zO h
 ·rename_i h;exact UL (by simpa using h)
theorem XH {n:Nat} {w:Str} {s:Sg} {ts:List Tk} (hg:∀ t∈ts,Tkg t) (hs:s.r<:+ts) (hw:w=[50]∨w=[51]):up n (gNn w) s=if tcB n w s then s.tl else s.fail n 8:=by
 have h:=HO hg hs
 have e1:isN w s.r=decide ((tkH n s.r).t=w):=by
  cases e:s.r with
  | nil =>
   show false=decide ([]=w);exact (decide_eq_false fun k=>by rcases hw with rfl | rfl <;> cases k).symm
  | cons t q =>
   rw [SF (h t (by rw [e];exact List.mem_cons_self ..)) hw]
   rfl
 unfold up gNn tcB Sg.fail Sg.tl;rw [e1]
 by_cases h0:s.e=0
 ·cases decide ((tkH n s.r).t=w) <;> simp [h0]
 ·simp [h0]
theorem TZ {n:Nat} {s:Sg}:up n gNm s=if s.e=0∧(tkH n s.r).k=1 then s.tl else s.fail n 8:=by
 unfold up gNm Sg.fail Sg.tl
 by_cases h0:s.e=0
 ·cases e:s.r with
  | nil =>
   have:¬ ((tkH n []).k=1):=by show ¬ ((0:UInt8)=1);decide
   simp [h0,this]
  | cons t q =>
   have hk:(tkH n (t::q)).k=t.k:=rfl
   by_cases h1:t.k=1 <;> simp [h0,hk,h1]
 ·simp [h0]
theorem NT {n:Nat} {s:Sg}:vl gNm s (if s.e=0∧(tkH n s.r).k=1 then (tkH n s.r).t else []):=by
 intro h0 a r e;unfold gNm at e;cases hr:s.r with
 | nil=>rw [hr] at e;cases e
 | cons t q =>
  rw [hr] at e;have hk:(tkH n (t::q)).k=t.k:=rfl
  by_cases h1:t.k=1
  ·simp only [h1,if_true] at e;injection e with e _
   simp [h0,hk,h1,← e,tkH]
  ·simp only [h1,if_false] at e;cases e
theorem LD {op:UInt8} {nm:Str} {n:Int64}:(Ex.mk op nm n []).depth=1:=by rw [fY];simp [Ex.deeps]
theorem SV {op:UInt8} {nm:Str} {n:Int64} {a:Ex}:(Ex.mk op nm n [a]).depth=a.depth+1:=by rw [fY];simp [Ex.deeps]
theorem YS {op:UInt8} {nm:Str} {n:Int64} {a b:Ex}:(Ex.mk op nm n [a,b]).depth=max a.depth b.depth+1:=by rw [fY];simp [Ex.deeps]
theorem CN {rec:List Tk→Rs Ex} (hr:∀ q a r',rec q=.ok a r'→a.depth+r'.length≤q.length) {r:List Tk} {a:Ex} {r':List Tk} (h:gA rec r=.ok a r'):a.depth+r'.length≤r.length:=by
 unfold gA at h;cases r with
 | nil=>cases h
 | cons t q =>
  simp only at h
  have fin:∀ {b:Ex} {l:List Tk},(Rs.ok b l:Rs Ex)=.ok a r'→b.depth+l.length≤q.length+1→a.depth+r'.length≤(t::q).length:=by
   intro b l e hl;injection e with e1 e2
   subst e1;subst e2;rw [List.length_cons];omega
  split at h
  ·split at h
   ·exact fin h (by rw [LD];omega)
   ·cases h
  split at h
  ·exact fin h (by unfold opE;rw [LD];omega)
  split at h
  ·exact fin h (by unfold opE;rw [LD];omega)
  split at h
  ·exact fin h (by unfold opE;rw [LD];omega)
  split at h
  ·obtain ⟨t2,r2,rfl,_,h⟩:=mS h;exact fin h (by rw [LD];simp;omega)
  split at h
  ·obtain ⟨x,r2,h1,h⟩:=Rs.bind_ok h;obtain ⟨h2,h⟩:=gM h;have:=hr _ _ _ h1;have:=eE h2;exact fin h (by omega)
  split at h
  ·obtain ⟨t2,r2,rfl,_,h⟩:=mS h;obtain ⟨h2,h⟩:=gM h;obtain ⟨x,r4,h1,h⟩:=Rs.bind_ok h;obtain ⟨h3,h⟩:=gM h;have:=hr _ _ _ h1;have:=eE h2;have:=eE h3;exact fin h (by rw [SV];simp;omega)
  split at h
  ·split at h
   ·rename_i h2;obtain ⟨x,r4,h1,h⟩:=Rs.bind_ok h;obtain ⟨h3,h⟩:=gM h;have:=hr _ _ _ h1;have:=eE h2;have:=eE h3;exact fin h (by rw [SV];omega)
   ·exact fin h (by rw [LD];omega)
  ·cases h
theorem CW:∀ f,(∀ lv r a r',pE f (.ex lv) r=.ok a r'→a.depth+r'.length≤r.length)∧(∀ lv x r a r' K,pE f (.lp lv x) r=.ok a r'→x.depth+r.length≤K→a.depth+r'.length≤K)
 | 0=>⟨fun lv r a r' e=>(by unfold pE at e;cases e),fun lv x r a r' K e=>(by unfold pE at e;cases e)⟩
 | f+1=>by
  obtain ⟨ih1,ih2⟩:=CW f;refine ⟨fun lv r a r' h=>?_,fun lv x r a r' K h hK=>?_⟩
  ·rw [vW] at h
   split at h
   ·obtain ⟨b,q,h1,h2⟩:=Rs.bind_ok h;exact ih2 _ _ _ _ _ _ h2 (ih1 _ _ _ _ h1)
   split at h
   ·rename_i e;obtain ⟨b,q,h1,h2⟩:=Rs.bind_ok h;have:=ih1 _ _ _ _ h1;have:=eE e;injection h2 with e1 e2;subst e1;subst e2;unfold opE;rw [SV];omega
   split at h
   ·rename_i e;obtain ⟨b,q,h1,h2⟩:=Rs.bind_ok h;have:=ih1 _ _ _ _ h1;have:=eE e;injection h2 with e1 e2;subst e1;subst e2;unfold opE;rw [SV];omega
   ·exact CN (fun q b r2 e=>ih1 _ _ _ _ e) h
  ·rw [vV] at h
   split at h
   ·injection h with e1 e2;subst e1;subst e2;exact hK
   ·rename_i op e;obtain ⟨b,q,h1,h2⟩:=Rs.bind_ok h;have h3:=ih1 _ _ _ _ h1;have:=uI e;have h4:(opE op [x,b]).depth+q.length≤K:=by unfold opE;rw [YS];omega
    split at h2
    ·injection h2 with e1 e2;subst e1;subst e2;exact h4
    ·exact ih2 _ _ _ _ _ _ h2 h4
theorem DT {lv:Nat} {r r':List Tk} {a:Ex} (h:gX lv r=.ok a r'):a.depth+r'.length≤r.length:=(CW _).1 _ _ _ _ h
theorem LV {t:Str} {x:Ex} (hx:vl (gX 0) (sg0 t) x) (h:(sgZ (gX 0) t).e=0):x.depth≤20000:=by
 have h0:(sg0 t).e=0:=by
  by_cases k:(sg0 t).e=0
  ·exact k
  ·unfold sgZ at h;rw [kF k] at h;unfold Sg.cl at h
   split at h
   ·exact h
   ·unfold Sg.fail at h;rw [if_neg k] at h;exact h
 cases hg:gX 0 (sg0 t).r with
 | er r c =>
  have k:=GK (n:=t.length) (Cz.ex 0) hg h0;unfold sgZ Sg.cl at h
  split at h
  ·exact absurd h k
  ·unfold Sg.fail at h;rw [if_neg k] at h;exact absurd h k
 | ok a r =>
  have:=DT hg;rw [hx h0 a r hg]
  have hl:(sg0 t).r.length≤20000:=by
   unfold sg0
   split
   ·simp
   ·have:=oD t;show (gP t).length≤20000;omega
  omega
end Go.Proofs.YthhoebdlfjffkaaGreatDoor
namespace Go.Sx
open Go.RowKit Go.Par
inductive Ty where
 | int (k:IntKind)
 | bool
 | strg
 | seq (τ:Ty)
 | str (fs:List Ty)
 | arr (n:Nat) (τ:Ty)
mutual
def Ty.cells:Ty→Nat
 | .int _=>1
 | .bool=>1
 | .strg=>1
 | .seq _=>1
 | .str fs=>Ty.cellsL fs
 | .arr n τ=>n * Ty.cells τ
def Ty.cellsL:List Ty→Nat
 | []=>0
 | τ::r=>Ty.cells τ+Ty.cellsL r
end
mutual
def Ty.at (P:Program):Ty→TypeId→Bool
 | .int k,t=>match P.underlying t with | some (.int k')=>decide (k'=k) | _=>false
 | .bool,t=>match P.underlying t with | some .bool=>true | _=>false
 | .strg,t=>match P.underlying t with | some .string=>true | _=>false
 | .seq τ,t=>match P.underlying t with | some (.slice e)=>Ty.at P τ e && decide (P.cellsOf e=Ty.cells τ) && decide (0<Ty.cells τ) | _=>false
 | .str fs,t=>match P.underlying t with | some (.struct g)=>decide (P.cellsOf t=Ty.cellsL fs) && Ty.atL P fs g.toList 0 | _=>false
 | .arr n τ,t=>match P.underlying t with | some (.array m e)=>decide (m=n) && Ty.at P τ e && decide (P.cellsOf e=Ty.cells τ) && decide (P.cellsOf t=n * Ty.cells τ) | _=>false
def Ty.atL (P:Program):List Ty→List Field→Nat→Bool
 | [],[],_=>true
 | τ::r,f::g,o=>Ty.at P τ f.type && decide (f.offset=o) && decide (P.cellsOf f.type=Ty.cells τ) && Ty.atL P r g (o+Ty.cells τ)
 | _,_,_=>false
end
mutual
def Ty.has:Ty→D→Prop
 | .int k,d=>∃ n,d=.val (.int k n)∧(Lit.int k n).wf=true
 | .bool,d=>∃ b,d=.val (.bool b)
 | .strg,d=>∃ s:ByteArray,d=.any (.string s)
 | .seq τ,d=>∃ ds,d=.seq (Ty.cells τ) ds∧∀ x∈ds,Ty.has τ x
 | .str fs,d=>∃ ds,d=.str ds∧Ty.hasL fs ds
 | .arr _ _,_=>False
def Ty.hasL:List Ty→List D→Prop
 | [],ds=>ds=[]
 | τ::r,ds=>∃ d q,ds=d::q∧Ty.has τ d∧Ty.hasL r q
end
mutual
def Ty.opn:Ty→Bool
 | .int _=>true
 | .bool=>true
 | .strg=>true
 | .seq τ=>Ty.opn τ
 | .str fs=>Ty.opnL fs
 | .arr _ _=>false
def Ty.opnL:List Ty→Bool
 | []=>true
 | τ::r=>Ty.opn τ && Ty.opnL r
end
mutual
def Ty.pln:Ty→Bool
 | .int _=>true
 | .bool=>true
 | .strg=>true
 | .seq _=>false
 | .str fs=>Ty.plnL fs
 | .arr _ τ=>Ty.pln τ
def Ty.plnL:List Ty→Bool
 | []=>true
 | τ::r=>Ty.pln τ && Ty.plnL r
end
def xR (W:World):Hp:=fun b=>W.heap[b]?
theorem QB (W:World):Agr (xR W) W:=fun _ _ h=>h
theorem wW {W:World} {a:Addr} {v:Value} (h:W.cell? a=some v):∃ cs t m,W.heap[a.block]? = some (.cells cs t m)∧a.spot=Option.none∧cs[a.off]? = some v:=by
 unfold World.cell? at h
 split at h
 ·rename_i cs t m e
  split at h
  ·cases h
  ·rename_i hs;exact ⟨cs,t,m,e,by simpa using hs,h⟩
 ·cases h
theorem TK (a:Addr) (x y:Nat):(a.add x).add y=a.add (x+y):=by
 by_cases hx:x=0
 ·subst hx;simp [Addr.add]
 ·by_cases hy:y=0
  ·subst hy;simp [Addr.add]
  ·simp [Addr.add,hx,hy,Nat.add_assoc]
section
variable {H:Type} {enc:TypeId × Value→H} {P:Program} {base:Nat} {sp:Nat→Bool} {held:Bool}
mutual
theorem Ty.opens (W:World):∀ (τ:Ty) (t:TypeId) (fuel:Nat) (cs:List Value) (x:DataW H × List MemPlace),Ty.at P τ t=true→Ty.opn τ=true→DataW.trod enc P W base sp held fuel t cs=some x→∃ d,Ty.has τ d∧Rep (xR W) d cs
 | .int k,t,fuel,cs,x,ha,_,h=>by
  unfold Ty.at at ha
  split at ha
  ·rename_i k' hu;obtain rfl:k'=k:=by simpa using ha
   obtain ⟨n,rfl,_,hw⟩:=DataW.trod_int hu h;refine ⟨.val (.int k' n),?_,?_⟩
   ·unfold Ty.has;exact ⟨n,rfl,hw⟩
   ·unfold Rep;exact ⟨rfl,rfl,trivial⟩
  ·cases ha
 | .bool,t,fuel,cs,x,ha,_,h=>by
  unfold Ty.at at ha
  split at ha
  ·rename_i hu;obtain ⟨b,rfl,_⟩:=DataW.trod_bool hu h;refine ⟨.val (.bool b),?_,?_⟩
   ·unfold Ty.has;exact ⟨b,rfl⟩
   ·unfold Rep;exact ⟨rfl,rfl,trivial⟩
  ·cases ha
 | .strg,t,fuel,cs,x,ha,_,h=>by
  unfold Ty.at at ha
  split at ha
  ·rename_i hu;obtain ⟨s,rfl,_⟩:=DataW.trod_string hu h;refine ⟨.any (.string s),?_,?_⟩
   ·unfold Ty.has;exact ⟨s,rfl⟩
   ·unfold Rep;exact ⟨rfl,rfl⟩
  ·cases ha
 | .arr _ _,_,_,_,_,_,ho,_=>by simp [Ty.opn] at ho
 | .str fs,t,fuel,cs,x,ha,ho,h=>by
  unfold Ty.at at ha
  split at ha
  ·rename_i g hu;simp only [Bool.and_eq_true,decide_eq_true_eq] at ha;unfold Ty.opn at ho;obtain ⟨xs,n,_,rfl,hl,hlen,hf⟩:=DataW.trod_struct hu h
   obtain ⟨ds,h1,h2⟩:=Ty.opensL W fs g.toList 0 n cs ha.2 ho (by rw [hl,ha.1];omega) (fun i f hi=>by
    have hi2:g[i]? = some f:=by simpa using hi
    have:=hf i f hi2;have hlt:i<xs.length:=by rw [hlen];exact (Array.getElem?_eq_some_iff.1 hi2).1
    rw [List.getElem?_eq_getElem hlt] at this;exact ⟨_,this⟩)
   refine ⟨.str ds,?_,?_⟩
   ·unfold Ty.has;exact ⟨ds,rfl,h1⟩
   ·unfold Rep;simpa using h2
  ·cases ha
 | .seq τ,t,fuel,cs,x,ha,ho,h=>by
  unfold Ty.at at ha
  split at ha
  ·rename_i e hu;simp only [Bool.and_eq_true,decide_eq_true_eq] at ha;obtain ⟨⟨ha,hz⟩,h0⟩:=ha;unfold Ty.opn at ho;rcases Go.Deep.open_slice hu h with ⟨rfl,-⟩ | ⟨a,len,cap,m,n,D,Pl,rfl,-,hl,hm,hmm,-,hi⟩
   ·refine ⟨.seq (Ty.cells τ) [],?_,.empty (by simp [maxLen])⟩;unfold Ty.has;exact ⟨[],rfl,by simp⟩
   have hlm:len≤m:=by rw [hmm];split <;> omega
   have key:∀ q,q≤len→∃ ds l,ds.length=q∧(∀ x∈ds,Ty.has τ x)∧aN (xR W) (Ty.cells τ) ds l∧l.length=q * Ty.cells τ∧∀ (j:Nat) u,l[j]? = some u→W.cell? (a.add j)=some u:=by
    intro q;induction q with
    | zero=>intro _;exact ⟨[],[],rfl,by simp,aN.nil,by simp,by simp⟩
    | succ q ih =>
     intro hq;obtain ⟨ds,l,h1,h2,h3,h4,h5⟩:=ih (by omega);obtain ⟨cs',hc,ht⟩:=hi q (by omega);rw [hz] at hc;obtain ⟨_,hcl,hat⟩:=World.cells?_some hc;obtain ⟨d,hd,hr⟩:=Ty.opens W τ e n cs' _ ha ho ht;refine ⟨ds++[d],l++cs',by simp [h1],?_,h3.snoc hr hcl,by rw [List.length_append,h4,hcl,Nat.succ_mul],?_⟩
     ·intro x hx;rcases List.mem_append.1 hx with hx | hx
      ·exact h2 x hx
      ·rw [List.mem_singleton.1 hx];exact hd
     ·intro j u hj
      by_cases hjl:j<l.length
      ·rw [List.getElem?_append_left hjl] at hj;exact h5 j u hj
      ·rw [List.getElem?_append_right (by omega)] at hj;have hjc:=(List.getElem?_eq_some_iff.1 hj).1;have:=hat (j - l.length) (by omega);rw [hj] at this;have h9:q * Ty.cells τ+(j - l.length)=j:=by omega
       have h10:(a.add (q * Ty.cells τ)).add (j - l.length)=a.add j:=by rw [TK,h9]
       rw [← h10];exact this
   obtain ⟨ds,l,h1,h2,h3,h4,h5⟩:=key len (Nat.le_refl _);refine ⟨.seq (Ty.cells τ) ds,?_,?_⟩
   ·unfold Ty.has;exact ⟨ds,rfl,h2⟩
   by_cases hl0:len=0
   ·subst hl0;obtain rfl:=List.eq_nil_of_length_eq_zero h1;exact .empty hm
   ·have hlp:0<l.length:=by rw [h4];exact Nat.mul_pos (by omega) h0
    have hc0:=h5 0 _ (List.getElem?_eq_getElem hlp);rw [show a.add 0=a by simp [Addr.add]] at hc0;obtain ⟨arr,t',mk,hb,hs,_⟩:=wW hc0;obtain ⟨ab,ao,ap⟩:=a;simp only at hs hb;subst hs;refine .mk ⟨arr,t',mk,hb,fun j u hu=>?_⟩ h3 h1 hl hm;have h6:=h5 j u hu;rw [Addr.add_lit] at h6;obtain ⟨arr',t'',mk',hb',_,h7⟩:=wW h6;have e2:=Option.some.inj (hb.symm.trans hb');injection e2 with e3
    subst e3;exact h7
  ·cases ha
theorem Ty.opensL (W:World):∀ (fs:List Ty) (g:List Field) (o n:Nat) (cs:List Value),Ty.atL P fs g o=true→Ty.opnL fs=true→cs.length=o+Ty.cellsL fs →
 (∀ (i:Nat) f,g[i]? = some f→∃ y,DataW.trod enc P W base sp held n f.type ((cs.drop f.offset).take (P.cellsOf f.type))=some y)→∃ ds,Ty.hasL fs ds∧jD (xR W) ds (cs.drop o)
 | [],[],o,n,cs,_,_,hl,_=>by
  refine ⟨[],by unfold Ty.hasL;rfl,?_⟩;unfold jD;exact List.drop_of_length_le (by simp only [Ty.cellsL] at hl;omega)
 | [],_::_,_,_,_,ha,_,_,_=>by simp [Ty.atL] at ha
 | _::_,[],_,_,_,ha,_,_,_=>by simp [Ty.atL] at ha
 | τ::r,f::g,o,n,cs,ha,ho,hl,hf=>by
  unfold Ty.atL at ha;unfold Ty.opnL at ho;simp only [Bool.and_eq_true,decide_eq_true_eq] at ha ho;obtain ⟨⟨⟨a1,a2⟩,a3⟩,a4⟩:=ha;obtain ⟨y,hy⟩:=hf 0 f rfl;rw [a2,a3] at hy;obtain ⟨d,h1,h2⟩:=Ty.opens W τ f.type n _ y a1 ho.1 hy;unfold Ty.cellsL at hl;obtain ⟨ds,h3,h4⟩:=Ty.opensL W r g (o+Ty.cells τ) n cs a4 ho.2 (by omega) (fun i f' hi=>hf (i+1) f' (by simpa using hi));refine ⟨d::ds,by unfold Ty.hasL;exact ⟨d,ds,rfl,h1,h3⟩,?_⟩;unfold jD;exact ⟨_,_,by rw [← List.drop_drop,List.take_append_drop],h2,h4⟩
end
mutual
def tT:DataW H→List Value
 | .lit (.int k n)=>[.int k n]
 | .lit (.bool b)=>[.bool b]
 | .lit (.string l)=>[.string ⟨l.toArray⟩]
 | .agg ps=>oL ps
 | _=>[]
def oL:List (DataW H)→List Value
 | []=>[]
 | d::r=>tT d++oL r
end
mutual
theorem Ty.flat (W:World):∀ (τ:Ty) (t:TypeId) (fuel:Nat) (cs:List Value) (x:DataW H × List MemPlace),Ty.at P τ t=true→Ty.pln τ=true→DataW.trod enc P W base sp held fuel t cs=some x→cs=tT x.1
 | .int k,t,fuel,cs,x,ha,_,h=>by
  unfold Ty.at at ha
  split at ha
  ·rename_i k' hu;obtain ⟨n,rfl,rfl,hw⟩:=DataW.trod_int hu h;simp only [tT]
  ·cases ha
 | .bool,t,fuel,cs,x,ha,_,h=>by
  unfold Ty.at at ha
  split at ha
  ·rename_i hu;obtain ⟨b,rfl,rfl⟩:=DataW.trod_bool hu h;simp only [tT]
  ·cases ha
 | .strg,t,fuel,cs,x,ha,_,h=>by
  unfold Ty.at at ha
  split at ha
  ·rename_i hu;obtain ⟨s,rfl,rfl,_⟩:=DataW.trod_string hu h;simp only [tT]
  ·cases ha
 | .seq _,_,_,_,_,_,ho,_=>by simp [Ty.pln] at ho
 | .str fs,t,fuel,cs,x,ha,ho,h=>by
  unfold Ty.at at ha
  split at ha
  ·rename_i g hu;simp only [Bool.and_eq_true,decide_eq_true_eq] at ha;unfold Ty.pln at ho;obtain ⟨xs,n,_,rfl,hl,hlen,hf⟩:=DataW.trod_struct hu h;have h2:=Ty.flatL W fs g.toList 0 n cs xs ha.2 ho (by rw [hl,ha.1];omega) (by simpa using hlen) (fun i f hi=>hf i f (by simpa using hi));simpa [tT] using h2
  ·cases ha
 | .arr k τ,t,fuel,cs,x,ha,ho,h=>by
  unfold Ty.at at ha
  split at ha
  ·rename_i m e hu;simp only [Bool.and_eq_true,decide_eq_true_eq] at ha;obtain ⟨⟨⟨hm,ha⟩,hz⟩,hct⟩:=ha;subst hm;unfold Ty.pln at ho;obtain ⟨xs,n,_,rfl,hl,hlen,hf⟩:=DataW.trod_array hu h
   have key:∀ (xs:List (DataW H × List MemPlace)) (cs:List Value),cs.length=xs.length * Ty.cells τ→(∀ i,i<xs.length→DataW.trod enc P W base sp held n e ((cs.drop (i * Ty.cells τ)).take (Ty.cells τ))=xs[i]?)→cs=oL (xs.map (·.1)):=by
    intro xs;induction xs with
    | nil=>intro cs hc _;simp at hc;simp [hc,oL]
    | cons y r ih =>
     intro cs hc hi;have h0:=hi 0 (by simp);simp only [Nat.zero_mul,List.drop_zero,List.getElem?_cons_zero] at h0;have e0:=Ty.flat W τ e n _ y ha ho h0
     have e1:=ih (cs.drop (Ty.cells τ)) (by rw [List.length_drop,hc,List.length_cons,Nat.succ_mul];omega) (fun i hlt=>by
      have:=hi (i+1) (by simp;omega);rw [List.getElem?_cons_succ] at this;rw [← this,List.drop_drop,show Ty.cells τ+i * Ty.cells τ=(i+1) * Ty.cells τ by rw [Nat.succ_mul];omega])
     simp only [List.map_cons,oL];rw [← e0,← e1,List.take_append_drop]
   have h2:=key xs cs (by rw [hl,hct,hlen]) (fun i hlt=>by
    have:=hf i (by omega);rw [hz] at this;exact this)
   simpa [tT] using h2
  ·cases ha
theorem Ty.flatL (W:World):∀ (fs:List Ty) (g:List Field) (o n:Nat) (cs:List Value) (xs:List (DataW H × List MemPlace)),Ty.atL P fs g o=true→Ty.plnL fs=true→cs.length=o+Ty.cellsL fs→xs.length=g.length →
 (∀ (i:Nat) f,g[i]? = some f→DataW.trod enc P W base sp held n f.type ((cs.drop f.offset).take (P.cellsOf f.type))=xs[i]?)→cs.drop o=oL (xs.map (·.1))
 | [],[],o,n,cs,xs,_,_,hl,hx,_=>by
  obtain rfl:=List.eq_nil_of_length_eq_zero hx;simp only [List.map_nil,oL];exact List.drop_of_length_le (by simp only [Ty.cellsL] at hl;omega)
 | [],_::_,_,_,_,_,ha,_,_,_,_=>by simp [Ty.atL] at ha
 | _::_,[],_,_,_,_,ha,_,_,_,_=>by simp [Ty.atL] at ha
 | τ::r,f::g,o,n,cs,[],ha,ho,hl,hx,hf=>by simp at hx
 | τ::r,f::g,o,n,cs,y::xs,ha,ho,hl,hx,hf=>by
  unfold Ty.atL at ha;unfold Ty.plnL at ho;simp only [Bool.and_eq_true,decide_eq_true_eq] at ha ho;obtain ⟨⟨⟨a1,a2⟩,a3⟩,a4⟩:=ha;have hy:=hf 0 f rfl;rw [a2,a3,List.getElem?_cons_zero] at hy;have e0:=Ty.flat W τ f.type n _ y a1 ho.1 hy;unfold Ty.cellsL at hl
  have e1:=Ty.flatL W r g (o+Ty.cells τ) n cs xs a4 ho.2 (by omega) (by simpa using hx) (fun i f' hi=>by
   have:=hf (i+1) f' (by simpa using hi);rw [List.getElem?_cons_succ] at this;exact this)
  simp only [List.map_cons,oL];rw [← e0,← e1,← List.drop_drop,List.take_append_drop]
end
end
theorem rK {P:Program} {W:World} {name:String} {dat:DataW Unit} {rest:List (String × DataW Unit)} {g:Nat} {t:TypeId} (τ:Ty) (cs:List Value)
 (hg:P.globalNamed name=some g) (hty:(P.globals[g]?).map (·.type)=some t) (ha:Ty.at P τ t=true) (hp:Ty.pln τ=true) (hc:tT dat=cs) (h:laidMet P ((name,dat)::rest) W):dV (xR W) g 0 cs:=by
 obtain ⟨ps,⟨g',t',cs',fuel,p,q,hg',ht',hvar,hd,_,_⟩,_⟩:=h;obtain rfl:=Option.some.inj (hg.symm.trans hg');obtain rfl:=Option.some.inj (hty.symm.trans ht');have e:=Ty.flat W τ t fuel cs'.toList _ ha hp hd;dsimp only at e;rw [hc] at e;unfold World.var? at hvar;rw [hg] at hvar;simp only [Option.bind_some] at hvar
 split at hvar
 ·rename_i arr T m hb;refine ⟨arr,T,m,hb,fun j u hu=>?_⟩;obtain rfl:=Option.some.inj hvar;rw [Nat.zero_add];rw [← e] at hu;simpa using hu
 ·cases hvar
theorem HT {α β:Type} {f:α→β}:∀ {ds:List β},(∀ x∈ds,∃ y,x=f y)→∃ l:List α,ds=l.map f
 | [],_=>⟨[],rfl⟩
 | d::r,h=>by
  obtain ⟨y,rfl⟩:=h d (.head _);obtain ⟨l,rfl⟩:=HT (ds:=r) fun x hx=>h x (.tail _ hx);exact ⟨y::l,rfl⟩
theorem VZ {n:Int} (h:(Lit.int .u8 n).wf=true):∃ x:UInt8,n=x.toNat:=by
 have e1:IntKind.u8.min=0:=rfl;have e2:IntKind.u8.max=255:=rfl;simp only [Lit.wf,e1,e2,Bool.and_eq_true,decide_eq_true_eq] at h;exact ⟨UInt8.ofNat n.toNat,by simp [UInt8.toNat_ofNat'];omega⟩
end Go.Sx
/- Drawn regions with several heavy operations that do not wait for one another: the light ones are decided as early as they can, the heavy ones in every order. -/
namespace Go.Sx
open Go.RowKit Go.Par
inductive Pi0 where
 | done
 | no
 | light (i:Nat) (r:Pi0)
 | alt (i k:Nat) (r q:Pi0)
inductive PlT where
 | done
 | no
 | light (i:Nat) (o:Oper) (r:PlT)
 | alt (i k:Nat) (o:Oper) (r q:PlT)
def kH (l:List Oper):Pi0→PlT
 | .done=>.done
 | .no=>.no
 | .light i r=>.light i l[i]! (kH l r)
 | .alt i k r q=>.alt i k l[i]! (kH l r) (kH l q)
def okT (ops:Array Oper) (n:Nat):List Nat→List Nat→Pi0→Bool
 | D,A,.done=>A.isEmpty && (List.range n).all fun j=>D.contains j
 | D,A,.no=>!A.isEmpty && (List.range n).all fun j=>D.contains j || A.contains j || A.any fun i=>iE ops n j i
 | D,A,.light i r=>A.isEmpty && decide (i<n) && !D.contains i && ((List.range n).all fun j=>!Region.waitsFor .any ops i j || D.contains j) && okT ops n (i::D) [] r
 | D,A,.alt i k r q=>decide (i<n) && !D.contains i && ((List.range n).all fun j=>!Region.waitsFor .any ops i j || D.contains j) && (!(k == 1) || D.all fun j=>iE ops n i j) && okT ops n (i::D) [] r && okT ops n D (i::A) q
section
variable {dfs:List Deferred} {P:Program} {ops:Array Oper} {w0:World} {n N:Nat}
def dC (dfs:List Deferred) (P:Program) (ops:Array Oper) (n:Nat) (w0:World) (N:Nat) (E:Sl→Hp→List Res→Prop):PlT→List (Nat × Oper × Value)→Sl→Hp→List Res→Prop
 | .done,_,L,H,bs=>E L H bs
 | .no,_,_,_,_=>True
 | .light i o r,pa,L,H,bs=>∃ v,(∀ a W,Fr dfs N L a→St H w0 bs W→Yq P ops o v a W)∧(∀ t,o.dst=some t→t<N)∧dC dfs P ops n w0 N E r ((i,o,v)::pa) (putL o.dst v L) H bs
 | .alt i k o r q,pa,L,H,bs=>((∀ t,o.dst=some t→t<N)∧At dfs N L H w0 bs (one P ops (fun _ _ _=>False) o fun a' W'=>∃ v H' bs',Fr dfs N (putL o.dst v L) a'∧St H' w0 bs' W'∧(k=1∨(∀ W,St H' w0 bs' W→St H w0 bs W)∨eI dfs P ops n w0 N L H' bs' i pa)∧dC dfs P ops n w0 N E r pa (putL o.dst v L) H' bs'))∧dC dfs P ops n w0 N E q pa L H bs
structure GT (dfs:List Deferred) (P:Program) (ops:Array Oper) (l:List Oper) (w0:World) (n N:Nat) (a0:Act) (E:Sl→Hp→List Res→Prop) (listed:Array Bool) (a:Act) (W:World) (val:Nat→Value) (dec:Nat→Bool) (D:List Nat) (L:Sl) (H:Hp) (bs:List Res) (pa:List (Nat × Oper × Value)):Prop where
 head:HeadInv .any ops n listed
 frame:a=frm ops val (st listed) n a0
 full:Fr dfs N L (frm ops val dec n a0)
 sub:∀ i,i<n→st listed i=true→dec i=true
 world:St H w0 bs W
 light:∀ i o,i<n→ops[i]? = some o→dec i=true→st listed i=false→∀ W,St H w0 bs W→Yq P ops o (val i) (frm ops val dec n a0) W
 past:∀ i o,i<n→ops[i]? = some o→dec i=true→st listed i=false→(i,o,val i)∈pa
 set:∀ j,dec j=D.contains j
 deps:∀ i j,i<n→j<n→dec i=true→Region.waitsFor .any ops i j=true→dec j=true
variable {l:List Oper} {a0:Act} {E:Sl→Hp→List Res→Prop} {Q:Exit→Act→World→Prop} {listed:Array Bool} {a:Act} {W:World} {val:Nat→Value} {dec:Nat→Bool} {D A:List Nat} {L:Sl} {H:Hp} {bs:List Res} {pa:List (Nat × Oper × Value)}
theorem uC {i:Nat} (h:∀ j,dec j=D.contains j):∀ j,upd dec i true j=(i::D).contains j:=fun j=>by
 by_cases e:j=i
 ·subst e;rw [cW];simp
 ·rw [aX _ _ e,h j,List.contains_cons];have:(j == i)=false:=by simpa using e
  rw [this];simp
theorem qT {i:Nat} (h:((List.range n).all fun j=>!Region.waitsFor .any ops i j || D.contains j)=true) {j:Nat} (hj:j<n) (hw:Region.waitsFor .any ops i j=true):D.contains j=true:=by
 have:=List.all_eq_true.1 h j (List.mem_range.2 hj);rw [hw] at this;simpa using this
theorem GT.decide (F:Fit ops n []) {i:Nat} {o:Oper} (I:GT dfs P ops l w0 n N a0 E listed a W val dec D L H bs pa) (hi:i<n) (ho:ops[i]? = some o) (hiD:D.contains i=false) (hwt:((List.range n).all fun j=>!Region.waitsFor .any ops i j || D.contains j)=true)
 {v:Value} (hy:∀ a W,Fr dfs N L a→St H w0 bs W→Yq P ops o v a W) (hN:∀ t,o.dst=some t→t<N) :
 GT dfs P ops l w0 n N a0 E listed a W (upd val i v) (upd dec i true) (i::D) (putL o.dst v L) H bs ((i,o,v)::pa):=by
 have hdi:dec i=false:=(I.set i).trans hiD;have hdeps:∀ j,j<n→Region.waitsFor .any ops i j=true→dec j=true:=fun j hj hw=>(I.set j).trans (qT hwt hj hw)
 have hii:∀ j,j<n→Region.waitsFor .any ops i j=true→j≠i:=fun j hj hw e=>by
  have:=hdeps j hj hw;rw [e,hdi] at this;cases this
 have hli:st listed i=false:=by
  cases h:st listed i with
  | false=>rfl
  | true=>have:=I.sub i hi h;rw [hdi] at this;cases this
 have hput:=uT (a0:=a0) (val:=val) (v:=v) F hi ho hdi;refine ⟨I.head,?_,?_,?_,I.world,?_,?_,uC I.set,?_⟩
 ·rw [I.frame];refine dN _ _ _ _ a0 n fun k _=>⟨rfl,fun hk=>(aX _ _ fun e=>?_).symm⟩;subst e;rw [hli] at hk;cases hk
 ·rw [hput];exact I.full.putL v hN
 ·intro j hj hs
  by_cases e:j=i
  ·subst e;exact cW _ _ _
  ·rw [aX _ _ e];exact I.sub j hj hs
 ·intro j oj hj hoj hd hs W hW
  by_cases e:j=i
  ·subst e;obtain rfl:oj=o:=Option.some.inj (hoj.symm.trans ho);rw [cW];refine Yq.same (fun cs b=>F.sel j oj cs b ho) (fun t ht=>?_) (hy _ W I.full hW);refine iL F hj ho (fun k hk hw=>?_) t ht;have hkd:=hdeps k hk hw;have hki:=hii k hk hw;exact ⟨by rw [aX _ _ hki];exact hkd,hkd,aX _ _ hki⟩
  ·rw [aX _ _ e] at hd ⊢;refine Yq.same (fun cs b=>F.sel j oj cs b hoj) (fun t ht=>?_) (I.light j oj hj hoj hd hs W hW);refine iL F hj hoj (fun k hk hw=>?_) t ht;have hkd:=I.deps j k hj hk hd hw;have hki:k≠i:=fun e=>by subst e;rw [hdi] at hkd;cases hkd
   exact ⟨by rw [aX _ _ hki];exact hkd,hkd,aX _ _ hki⟩
 ·intro j oj hj hoj hd hs
  by_cases e:j=i
  ·subst e;obtain rfl:oj=o:=Option.some.inj (hoj.symm.trans ho);rw [cW];exact .head _
  ·rw [aX _ _ e] at hd ⊢;exact .tail _ (I.past j oj hj hoj hd hs)
 ·intro j k hj hk hd hw
  by_cases e:j=i
  ·subst e;rw [aX _ _ (hii k hk hw)];exact hdeps k hk hw
  ·rw [aX _ _ e] at hd;have:=I.deps j k hj hk hd hw
   by_cases e2:k=i
   ·subst e2;exact cW _ _ _
   ·rw [aX _ _ e2];exact this
theorem GT.step (F:Fit ops n []) {i:Nat} {o:Oper} {W':World} (I:GT dfs P ops l w0 n N a0 E listed a W val dec D L H bs pa) (hi:i<n) (ho:ops[i]? = some o) (hr:i∈Region.ready .any ops listed) (hd:dec i=true) (hx:Ext W W') :
 GT dfs P ops l w0 n N a0 E (listed.setIfInBounds i true) (a.put o.dst (val i)) W' val dec D L H bs pa:=by
 have hun:st listed i=false:=(mem_ready.1 hr).1;have e1:dE ops i=o.dst:=by simp [dE,ho]
 refine ⟨I.head.set hr hi,?_,I.full,?_,I.world.more hx,?_,?_,I.set,I.deps⟩
 ·rw [I.frame,gQ val (st listed) (st (listed.setIfInBounds i true)) a0 i bD hun (fun k hk=>cQ hk) n hi F.apart,e1]
 ·intro j hj hs
  by_cases e:j=i
  ·subst e;exact hd
  ·rw [cQ e] at hs;exact I.sub j hj hs
 ·intro j oj hj hoj hdj hs;have e:j≠i:=fun e=>by subst e;rw [bD] at hs;cases hs
  rw [cQ e] at hs;exact I.light j oj hj hoj hdj hs
 ·intro j oj hj hoj hdj hs;have e:j≠i:=fun e=>by subst e;rw [bD] at hs;cases hs
  rw [cQ e] at hs;exact I.past j oj hj hoj hdj hs
theorem GT.heavy (F:Fit ops n []) {i k:Nat} {o:Oper} {v:Value} {W':World} {H':Hp} {bs':List Res} (I:GT dfs P ops l w0 n N a0 E listed a W val dec D L H bs pa) (hi:i<n) (ho:ops[i]? = some o) (hiD:D.contains i=false) (hwt:((List.range n).all fun j=>!Region.waitsFor .any ops i j || D.contains j)=true) (hk1:(!(k == 1) || D.all fun j=>iE ops n i j)=true) (hN:∀ t,o.dst=some t→t<N) (hr:i∈Region.ready .any ops listed)
 (hs:St H' w0 bs' W') (hws:k=1∨(∀ W,St H' w0 bs' W→St H w0 bs W)∨eI dfs P ops n w0 N L H' bs' i pa) :
 GT dfs P ops l w0 n N a0 E (listed.setIfInBounds i true) (a.put o.dst v) W' (upd val i v) (upd dec i true) (i::D) (putL o.dst v L) H' bs' pa:=by
 have hdi:dec i=false:=(I.set i).trans hiD;have hdeps:∀ j,j<n→Region.waitsFor .any ops i j=true→dec j=true:=fun j hj hw=>(I.set j).trans (qT hwt hj hw)
 have hii:∀ j,j<n→Region.waitsFor .any ops i j=true→j≠i:=fun j hj hw e=>by
  have:=hdeps j hj hw;rw [e,hdi] at this;cases this
 have hun:st listed i=false:=(mem_ready.1 hr).1;have e1:dE ops i=o.dst:=by simp [dE,ho]
 have hput:=uT (a0:=a0) (val:=val) (v:=v) F hi ho hdi;refine ⟨I.head.set hr hi,?_,?_,?_,hs,?_,?_,uC I.set,?_⟩
 ·rw [I.frame,gQ (upd val i v) (st listed) (st (listed.setIfInBounds i true)) a0 i bD hun (fun k hk=>cQ hk) n hi F.apart,e1,cW]
  congr 1
  refine dN _ _ _ _ a0 n fun k _=>⟨rfl,fun hk=>(aX _ _ fun e=>?_).symm⟩;subst e;rw [hun] at hk;cases hk
 ·rw [hput];exact I.full.putL v hN
 ·intro j hj hs
  by_cases e:j=i
  ·subst e;exact cW _ _ _
  ·rw [aX _ _ e];rw [cQ e] at hs;exact I.sub j hj hs
 ·intro j oj hj hoj hd hs W hW;have e:j≠i:=fun e=>by subst e;rw [bD] at hs;cases hs
  rw [cQ e] at hs;rw [aX _ _ e] at hd ⊢
  have hdone:iE ops n i j=true→False:=fun h1=>by
   obtain ⟨_,oi,hoi,hall⟩:=mem_ready.1 hr
   have h2:=gE I.head n i j h1 (fun ok hok x hx hb=>by
    obtain rfl:ok=oi:=Option.some.inj (hok.symm.trans hoi);exact hall x hx hb)
   rw [getD_both hs] at h2;cases h2
  have hy:Yq P ops oj (val j) (frm ops val dec n a0) W:=by
   rcases hws with hk | hw | hw
   ·subst hk;have hjD:j∈D:=by have:=(I.set j).symm.trans hd;simpa using this
    simp only [beq_self_eq_true,Bool.not_true,Bool.false_or] at hk1;exact (hdone (List.all_eq_true.1 hk1 j hjD)).elim
   ·exact I.light j oj hj hoj hd hs W (hw W hW)
   ·rcases hw.at (I.past j oj hj hoj hd hs) with h1 | h1
    ·exact (hdone h1).elim
    ·exact h1 _ W I.full hW
  refine Yq.same (fun cs b=>F.sel j oj cs b hoj) (fun t ht=>?_) hy;refine iL F hj hoj (fun k hk hw=>?_) t ht;have hkd:=I.deps j k hj hk hd hw;have hki:k≠i:=fun e=>by subst e;rw [hdi] at hkd;cases hkd
  exact ⟨by rw [aX _ _ hki];exact hkd,hkd,aX _ _ hki⟩
 ·intro j oj hj hoj hd hs;have e:j≠i:=fun e=>by subst e;rw [bD] at hs;cases hs
  rw [cQ e] at hs;rw [aX _ _ e] at hd ⊢;exact I.past j oj hj hoj hd hs
 ·intro j k hj hk hd hw
  by_cases e:j=i
  ·subst e;rw [aX _ _ (hii k hk hw)];exact hdeps k hk hw
  ·rw [aX _ _ e] at hd;have:=I.deps j k hj hk hd hw
   by_cases e2:k=i
   ·subst e2;exact cW _ _ _
   ·rw [aX _ _ e2];exact this
theorem wV (hl:ops=l.toArray) {j:Nat} (hj:j<n) (hjD:D.contains j=false) (hnr:∀ i,D.contains i=false→i<n→iE ops n j i=false) :
 ∀ (q:Pi0) (A:List Nat),(q=.no∨∃ i k r q',q=.alt i k r q')→okT ops n D A q=true→(∀ i∈A,D.contains i=false∧i<n∧i≠j)→dC dfs P ops n w0 N E (kH l q) pa L H bs →
  ∃ k r,((List.range n).all fun x=>!Region.waitsFor .any ops j x || D.contains x)=true∧(!(k == 1) || D.all fun x=>iE ops n j x)=true∧okT ops n (j::D) [] r=true∧(∀ t,(l[j]!).dst=some t→t<N) ∧
   At dfs N L H w0 bs (one P ops (fun _ _ _=>False) l[j]! fun a' W'=>∃ v H' bs',Fr dfs N (putL (l[j]!).dst v L) a'∧St H' w0 bs' W'∧(k=1∨(∀ W,St H' w0 bs' W→St H w0 bs W)∨eI dfs P ops n w0 N L H' bs' j pa)∧dC dfs P ops n w0 N E (kH l r) pa (putL (l[j]!).dst v L) H' bs'):=by
 intro q;induction q with
 | done=>rintro A (h | ⟨_,_,_,_,h⟩) <;> cases h
 | light i r=>rintro A (h | ⟨_,_,_,_,h⟩) <;> cases h
 | no =>
  intro A _ hok hA _
  exfalso
  simp only [okT,Bool.and_eq_true] at hok;have:=List.all_eq_true.1 hok.2 j (List.mem_range.2 hj);simp only [Bool.or_eq_true] at this;rcases this with (h | h) | h
  ·rw [hjD] at h;cases h
  ·exact (hA j (by simpa using h)).2.2 rfl
  ·obtain ⟨i,hi,hre⟩:=List.any_eq_true.1 h;rw [hnr i (hA i hi).1 (hA i hi).2.1] at hre;cases hre
 | alt i k r q' ihr ihq =>
  intro A _ hok hA hF;simp only [okT,Bool.and_eq_true,decide_eq_true_eq,Bool.not_eq_true'] at hok;obtain ⟨⟨⟨⟨⟨h1,h2⟩,h3⟩,h4⟩,h5⟩,h6⟩:=hok;unfold kH dC at hF
  by_cases e:i=j
  ·subst e;exact ⟨k,r,h3,h4,h5,hF.1.1,hF.1.2⟩
  ·have hq:q'=.no∨∃ i k r q'',q'=.alt i k r q'':=by
    cases q' with
    | done=>simp [okT] at h6
    | light i r=>simp [okT] at h6
    | no=>exact .inl rfl
    | alt i k r q=>exact .inr ⟨_,_,_,_,rfl⟩
   refine ihq (i::A) hq h6 (fun x hx=>?_) hF.2;rcases List.mem_cons.1 hx with rfl | hx
   ·exact ⟨h2,h1,e⟩
   ·exact hA x hx
theorem FT (hl:ops=l.toArray) (F:Fit ops n []) (hend:∀ L H bs,E L H bs→At dfs N L H w0 bs (wpList P ops Q (ops.toList.drop n))) :
 ∀ (m:Nat) (p:Pi0) (listed:Array Bool) (a:Act) (W:World) (val:Nat→Value) (dec:Nat→Bool) (D:List Nat) (L:Sl) (H:Hp) (bs:List Res) (pa:List (Nat × Oper × Value)),cnt (st listed) n=m→okT ops n D [] p=true →
  dC dfs P ops n w0 N E (kH l p) pa L H bs→GT dfs P ops l w0 n N a0 E listed a W val dec D L H bs pa→wpAny P .any ops Q (m+(ops.size - n)) listed a W:=by
 have hop:∀ i,i<n→ops[i]? = some l[i]! := fun i hi=>by
  have h1:i<ops.size:=by have:=F.lt;omega
  subst hl;have h2:i<l.length:=by simpa using h1
  simp [h2]
 intro m;induction m with
 | zero =>
  intro p;induction p with
  | done =>
   intro listed a W val dec D L H bs pa hm hok hF I;have hall:=iI _ n hm
   have hcan:listed=((List.range ops.size).map fun k=>Decidable.decide (k<n)).toArray:=by
    apply Array.ext
    ·simp [I.head.size]
    ·intro k h1 h2;have hk:k<ops.size:=by rw [← I.head.size];exact h1
     simp only [List.getElem_toArray,List.getElem_map,List.getElem_range]
     by_cases hkn:k<n
     ·have:=hall k hkn;simp [st,h1] at this;simp [this,hkn]
     ·have:=I.head.tail k (by omega) hk;simp [h1] at this;simp [this,hkn]
   rw [Nat.zero_add];have hlen:(ops.toList.drop n).length=ops.size - n:=by simp
   rw [← hlen];refine wpAny_of_seq (ops.toList.drop n) n listed a W (fun j=>by simp [List.getElem?_drop]) (by rw [hlen,hcan];exact F.seq) ?_
   have hfr:a=frm ops val dec n a0:=by
    rw [I.frame];exact dN _ _ _ _ a0 n (fun k hk=>⟨by rw [hall k hk,I.sub k hk (hall k hk)],fun _=>rfl⟩)
   rw [hfr];exact hend L H bs hF _ W I.full I.world
  | no =>
   intro listed a W val dec D L H bs pa hm hok hF I;simp [okT] at hok
  | light i r ih =>
   intro listed a W val dec D L H bs pa hm hok hF I;have hall:=iI _ n hm;simp only [okT,Bool.and_eq_true,decide_eq_true_eq,Bool.not_eq_true'] at hok;have:=I.sub i hok.1.1.1.2 (hall i hok.1.1.1.2);rw [I.set i,hok.1.1.2] at this;cases this
  | alt i k r q ih1 ih2 =>
   intro listed a W val dec D L H bs pa hm hok hF I;have hall:=iI _ n hm;simp only [okT,Bool.and_eq_true,decide_eq_true_eq,Bool.not_eq_true'] at hok;have:=I.sub i hok.1.1.1.1.1 (hall i hok.1.1.1.1.1);rw [I.set i,hok.1.1.1.1.2] at this;cases this
 | succ m ih =>
  have one_step:∀ (p:Pi0) (listed:Array Bool) (a:Act) (W:World) (val:Nat→Value) (dec:Nat→Bool) (D:List Nat) (L:Sl) (H:Hp) (bs:List Res) (pa:List (Nat × Oper × Value)),cnt (st listed) n=m+1→okT ops n D [] p=true →
   dC dfs P ops n w0 N E (kH l p) pa L H bs→GT dfs P ops l w0 n N a0 E listed a W val dec D L H bs pa→(p=.done∨p=.no∨∃ i k r q,p=.alt i k r q)→wpAny P .any ops Q (m+1+(ops.size - n)) listed a W:=by
   intro p listed a W val dec D L H bs pa hm hok hF I hp;obtain ⟨k0,hk0,hun0,hbelow⟩:=pQ (st listed) n (by omega);have hk0s:k0<ops.size:=by have:=F.lt;omega
   have hready0:k0∈Region.ready .any ops listed:=by
    refine mem_ready.2 ⟨hun0,ops[k0],Array.getElem?_eq_getElem hk0s,fun e he hb=>?_⟩;have hlt:=F.back k0 _ (Array.getElem?_eq_getElem hk0s) e he hb;have:=hbelow e.on hlt;have hsz:e.on<listed.size:=by rw [I.head.size];omega
    simpa [st,hsz] using this
   rw [show m+1+(ops.size - n)=(m+(ops.size - n))+1 by omega];refine ⟨fun h0=>(by rw [h0] at hready0;cases hready0),fun j hj=>?_⟩
   have hjn:j<n:=by
    rcases Nat.lt_or_ge j n with h | h
    ·exact h
    ·exact absurd hj (lM F.sink F.chain I.head _ k0 rfl hk0 rfl hun0 j h)
   obtain ⟨hun,oj,hoj,hall⟩:=mem_ready.1 hj
   have hcnt:cnt (st (listed.setIfInBounds j true)) n=m:=by
    have:=lD (st listed) (st (listed.setIfInBounds j true)) j bD hun (fun k hk=>cQ hk) n hjn;omega
   have hS:∀ k,k<n→Region.waitsFor .any ops j k=true→st listed k=true:=by
    intro k hk hw;obtain ⟨oi,hoi,e,he,hb,hon⟩:=Region.waitsFor_spec hw;obtain rfl:oi=oj:=Option.some.inj (hoi.symm.trans hoj);have h1:=hall e he hb;rw [hon] at h1;have hsz:k<listed.size:=by rw [I.head.size];have:=F.lt;omega
    simp [hsz] at h1;simp [st,hsz,h1]
   have hev:∀ t∈oj.looksAt ops,a.eval (.tmp t)=(frm ops val dec n a0).eval (.tmp t):=fun t ht=>by
    rw [I.frame];exact iL F hjn hoj (fun k hk hw=>⟨hS k hk hw,I.sub k hk (hS k hk hw),rfl⟩) t ht
   cases hd:dec j with
   | true =>
    have hy:Yq P ops oj (val j) a W:=Yq.same (fun cs b=>F.sel j oj cs b hoj) hev (I.light j oj hjn hoj hd hun W I.world);exact hy.wpOp hoj fun W' hx=>ih p _ _ _ _ _ _ _ _ _ _ hcnt hok hF (I.step F hjn hoj hj hd hx)
   | false =>
    have hjD:D.contains j=false:=(I.set j).symm.trans hd
    have hch:p=.no∨∃ i k r q',p=.alt i k r q':=by
     rcases hp with rfl | rfl | h
     ·exfalso
      simp only [okT,Bool.and_eq_true] at hok;have:=List.all_eq_true.1 hok.2 j (List.mem_range.2 hjn);rw [hjD] at this;cases this
     ·exact .inl Z
     ·exact .inr h
    obtain ⟨k,r,h1,h2,h3,h4,h5⟩:=wV hl hjn hjD (fun i hi hin=>by
     cases hre:iE ops n j i with
     | false=>rfl
     | true =>
      have h2:=gE I.head n j i hre (fun ok hok e he hb=>by
       obtain rfl:ok=oj:=Option.some.inj (hok.symm.trans hoj);exact hall e he hb)
      have h3:st listed i=false:=by
       cases h:st listed i with
       | false=>rfl
       | true=>have:=I.sub i hin h;rw [I.set i,hi] at this;cases this
      rw [getD_both h3] at h2;cases h2) p [] hch hok (fun i hi=>by cases hi) hF
    have hoj2:=hop j hjn;obtain rfl:oj=l[j]! := Option.some.inj (hoj.symm.trans hoj2);refine vX hoj (fun cs b=>F.sel j _ cs b hoj) hev (fun b W' ⟨v,H',bs',hf,_⟩=>hf.defers) I.full.defers ?_ (h5 _ W I.full I.world);rintro v W' ⟨v',H',bs',hf,hs,hw,hp'⟩
    have hvv:putL (l[j]!).dst v' L=putL (l[j]!).dst v L:=by
     cases hdst:(l[j]!).dst with
     | none=>rfl
     | some t =>
      rw [hdst] at hf;have h1:=hf.slot t v' (by unfold putL look;rw [Nat.beq_refl,cond_true]);have h2:t<N:=h4 t hdst;have h3:=(I.full.put (by simpa [Nat.blt_eq] using h2) v).slot t v (by unfold look;rw [Nat.beq_refl,cond_true]);rw [h3] at h1;rw [h1]
    rw [hvv] at hp';exact ih r _ _ _ _ _ _ _ _ _ _ hcnt h3 hp' (I.heavy F hjn hoj hjD h1 h2 h4 hj hs hw)
  intro p;induction p with
  | done=>exact fun listed a W val dec D L H bs pa hm hok hF I=>one_step _ listed a W val dec D L H bs pa hm hok hF I (.inl rfl)
  | no=>exact fun listed a W val dec D L H bs pa hm hok hF I=>one_step _ listed a W val dec D L H bs pa hm hok hF I (.inr (.inl rfl))
  | alt i k r q _ _=>exact fun listed a W val dec D L H bs pa hm hok hF I=>one_step _ listed a W val dec D L H bs pa hm hok hF I (.inr (.inr ⟨_,_,_,_,rfl⟩))
  | light i r ihr =>
   intro listed a W val dec D L H bs pa hm hok hF I;simp only [okT,Bool.and_eq_true,decide_eq_true_eq,Bool.not_eq_true'] at hok;obtain ⟨⟨⟨⟨_,hi⟩,hiD⟩,hwt⟩,hok'⟩:=hok;unfold kH dC at hF;obtain ⟨v,hy,hN,hF'⟩:=hF;exact ihr listed a W _ _ _ _ H bs _ hm hok' hF' (I.decide F hi (hop i hi) hiD hwt hy hN)
theorem XZ {id:Nat} {l:List Oper} {p:PlT} {Q:Exit→Act→World→Prop} {L:Sl} {H:Hp} {bs:List Res} (n:Nat) (p0:Pi0) (hm:P.follows .mixedOrders=true) (hB:(FG l.toArray n [] && okT l.toArray n [] [] p0)=true) (ht:kH l p0=p)
 (h:dC dfs P l.toArray n w0 N (fun L H bs=>At dfs N L H w0 bs (wpList P l.toArray Q (l.drop n))) p [] L H bs):At dfs N L H w0 bs ((Code.region id l.toArray true).wp P Q):=by
 simp only [Bool.and_eq_true] at hB;obtain ⟨h1,h2⟩:=hB;have F:=Fit.of h1;have hlt:n<l.length:=by simpa using F.lt
 subst ht;intro a W f s;refine wp_region_any hm ?_;have hsz:l.toArray.size=l.length:=by simp
 have hc0:∀ m,m≤n→cnt (st (Array.replicate l.toArray.size false)) m=m:=by
  intro m;induction m with
  | zero=>intro _;rfl
  | succ m ih =>
   intro hm;unfold cnt;rw [ih (by omega)]
   have:st (Array.replicate l.toArray.size false) m=false:=by
    have:m<l.length:=by omega
    simp [st,this]
   rw [this];simp
 have hfrm:∀ (val:Nat→Value) (m:Nat),frm l.toArray val (fun _=>false) m a=a:=fun val m=>by
  induction m with
  | zero=>rfl
  | succ m ih=>unfold frm;simp [ih]
 have hall:∀ m,m≤n→∀ k,k<m→st (Array.replicate l.toArray.size false) k=false:=fun m hm k hk=>by
  have:k<l.length:=by omega
  simp [st,this]
 have hh:HeadInv .any l.toArray n (Array.replicate l.toArray.size false):=by
  refine ⟨by simp,fun j oj hj hl=>?_,fun t ht ht'=>?_⟩
  ·exfalso
   rcases Nat.lt_or_ge j l.length with h | h
   ·simp [h] at hl
   ·simp [h] at hl
  ·have:t<l.length:=by simpa using ht'
   simp [this]
 have key:=FT (Q:=Q) (a0:=a) (l:=l) rfl F (fun L H bs h=>by simpa using h) n p0 (Array.replicate l.toArray.size false) a _ (fun _=>undef) (fun _=>false) [] L H bs [] (hc0 n (Nat.le_refl _)) h2 h
  ⟨hh,?_,by rw [hfrm];exact f,?_,s.more ((Ext.refl W).drew),fun _ _ _ _ h=>(by cases h),fun _ _ _ _ h=>(by cases h),fun _=>rfl,fun _ _ _ _ h=>(by cases h)⟩
 ·have:n+(l.toArray.size - n)=l.toArray.size:=by rw [hsz];omega
  rw [this] at key;exact key
 ·rw [dN (fun _=>undef) (fun _=>undef) _ (fun _=>false) a n (fun k hk=>⟨hall n (Nat.le_refl _) k hk,fun _=>rfl⟩),hfrm]
 ·intro i hi hs;rw [hall n (Nat.le_refl _) i hi] at hs;cases hs
end
section
variable {dfs:List Deferred} {P:Program} {n:Nat} {L:Sl} {H:Hp} {w0:World} {bs:List Res} {Q:Exit→Act→World→Prop} {ops:Array Oper} {rest:List Oper} {K:Act→World→Prop}
variable {d:Option Tmp} {ty:TypeId} {pos:String} {aft:Array Edge} {g:Option (Nat × Bool)} {v:Value} {t:Tmp} {op:Op} {x y z:Operand} {T T':TypeId}
variable {N hn:Nat} {pa:List (Nat × Oper × Value)} {E:Sl→Hp→List Res→Prop} {r q:PlT} {i k:Nat}
def iN (dfs:List Deferred) (P:Program) (ops:Array Oper) (n:Nat) (w0:World) (N:Nat) (E:Sl→Hp→List Res→Prop) (i k:Nat) (o:Oper) (r:PlT) (pa:List (Nat × Oper × Value)) (L:Sl) (H:Hp) (bs:List Res):Prop :=
 (∀ t,o.dst=some t→t<N)∧At dfs N L H w0 bs (one P ops (fun _ _ _=>False) o fun a' W'=>∃ v H' bs',Fr dfs N (putL o.dst v L) a'∧St H' w0 bs' W'∧(k=1∨(∀ W,St H' w0 bs' W→St H w0 bs W)∨eI dfs P ops n w0 N L H' bs' i pa)∧dC dfs P ops n w0 N E r pa (putL o.dst v L) H' bs')
theorem dC.h1 {o:Oper} (h:iN dfs P ops hn w0 N E i k o r pa L H bs):dC dfs P ops hn w0 N E (.alt i k o r .no) pa L H bs:=⟨h,trivial⟩
theorem dC.h {o:Oper} (h:iN dfs P ops hn w0 N E i k o r pa L H bs) (hq:dC dfs P ops hn w0 N E q pa L H bs):dC dfs P ops hn w0 N E (.alt i k o r q) pa L H bs:=⟨h,hq⟩
theorem dC.nn:dC dfs P ops hn w0 N E .no pa L H bs:=trivial
theorem dC.yv (hy:Yl P L H w0 bs ⟨some t,op,ty,pos,aft,none⟩ v) (ht:Nat.blt t N=true) (h:dC dfs P ops hn w0 N E r ((i,⟨some t,op,ty,pos,aft,none⟩,v)::pa) ((t,v)::L) H bs):dC dfs P ops hn w0 N E (.light i ⟨some t,op,ty,pos,aft,none⟩ r) pa L H bs :=
 ⟨v,fun a W f s=>.inl ⟨by simp [Region.wanted],hy a W (fun x u e=>f.ev e) s⟩,gJ ht,h⟩
theorem dC.m (hx:ev L x=some v) (ht:Nat.blt t N=true) (h:dC dfs P ops hn w0 N E r ((i,⟨some t,.move x,ty,pos,aft,none⟩,v)::pa) ((t,v)::L) H bs):dC dfs P ops hn w0 N E (.light i ⟨some t,.move x,ty,pos,aft,none⟩ r) pa L H bs:=.yv (.move hx) ht h
theorem iN.into {H':Hp} {bs':List Res} (hw:k=1∨(∀ W,St H' w0 bs' W→St H w0 bs W)∨eI dfs P ops hn w0 N L H' bs' i pa) (h:dC dfs P ops hn w0 N E r pa ((t,v)::L) H' bs') :
 At dfs N ((t,v)::L) H' w0 bs' (fun a' W'=>∃ v H' bs',Fr dfs N (putL (some t) v L) a'∧St H' w0 bs' W'∧(k=1∨(∀ W,St H' w0 bs' W→St H w0 bs W)∨eI dfs P ops hn w0 N L H' bs' i pa)∧dC dfs P ops hn w0 N E r pa (putL (some t) v L) H' bs'):=fun _ _ f s=>⟨v,H',bs',f,s,hw,h⟩
theorem iN.al {l:List Value} (hz:dY P T=some l) (ht:Nat.blt t N=true) (h:∀ b,dC dfs P ops hn w0 N E r pa ((t,.pointer (some ⟨b,0,none⟩))::L) H (.box b l T::bs)):iN dfs P ops hn w0 N E i k ⟨some t,.alloc T,ty,pos,aft,none⟩ r pa L H bs :=
 ⟨gJ ht,alloc hz ht fun b=>iN.into (.inr<|.inl fun _ s=>s.drop) (h b)⟩
theorem iN.bl {ps:List (Nat × Operand)} {pv:List (Nat × Value)} {len:Nat} {e:TypeId} {l:List Value} (hv:evp L ps=some pv) (hb:fG P T len pv=some (e,l)) (ht:Nat.blt t N=true)
 (h:∀ b,dC dfs P ops hn w0 N E r pa ((t,.slice (some ⟨b,0,none⟩) len len)::L) H (.box b l e::bs)):iN dfs P ops hn w0 N E i k ⟨some t,.buildSlice T len ps.toArray,ty,pos,aft,none⟩ r pa L H bs :=
 ⟨gJ ht,buildSlice hv hb ht fun b=>iN.into (.inr<|.inl fun _ s=>s.drop) (h b)⟩
theorem iN.ct {X:Type} {f:FuncId} {xs:List Operand} {vs:List Value} {ats:Array TypeId} {C:X→Hp→Prop} {val:X→Value} (hf:aK P f=true) (hv:evs L xs=some vs)
 (hc:∀ W,St H w0 bs W→Calls P f vs.toArray W fun e W'=>∃ x H',C x H'∧e=.returned (val x)∧nB H W H' W') (ht:Nat.blt t N=true)
 (h:∀ x H',C x H'→HUp w0 H H'→dC dfs P ops hn w0 N E r pa ((t,val x)::L) H' bs):iN dfs P ops hn w0 N E i k ⟨some t,.call ⟨.value (.func f),xs.toArray,ats⟩,ty,pos,aft,none⟩ r pa L H bs :=
 ⟨gJ ht,PQ hf hv hc ht fun x H' hx u=>iN.into (.inr<|.inl fun _ s=>s.weakH u.up) (h x H' hx u)⟩
theorem iN.c3 {X:Type} {f:FuncId} {xs:List Operand} {vs:List Value} {ats:Array TypeId} {C:X→Prop} {val:X→Value} {H':X→Hp} {bs':X→List Res} (hf:aK P f=true) (hv:evs L xs=some vs)
 (hc:∀ W,St H w0 bs W→Calls P f vs.toArray W fun e W'=>∃ x,C x∧e=.returned (val x)∧St (H' x) w0 (bs' x) W') (ht:Nat.blt t N=true)
 (hr:∀ x,C x→eI dfs P ops hn w0 N L (H' x) (bs' x) i pa) (h:∀ x,C x→dC dfs P ops hn w0 N E r pa ((t,val x)::L) (H' x) (bs' x)):iN dfs P ops hn w0 N E i 2 ⟨some t,.call ⟨.value (.func f),xs.toArray,ats⟩,ty,pos,aft,none⟩ r pa L H bs :=
 ⟨gJ ht,IP hf hv hc ht fun x hx=>iN.into (.inr<|.inr<|hr x hx) (h x hx)⟩
theorem dC.fn {l tl:List Oper} {nn:Nat} (ht:l.drop nn=tl) (h:At dfs N L H w0 bs (wpList P ops Q tl)):dC dfs P ops hn w0 N (fun L H bs=>At dfs N L H w0 bs (wpList P ops Q (l.drop nn))) .done pa L H bs:=by
 subst ht;exact h
theorem At.ft {id:Nat} {l:List Oper} {p:PlT} (nn:Nat) (p0:Pi0) (hm:P.follows .mixedOrders=true) (hB:(FG l.toArray nn [] && okT l.toArray nn [] [] p0)=true) (ht:kH l p0=p)
 (h:dC dfs P l.toArray nn w0 n (fun L H bs=>At dfs n L H w0 bs (wpList P l.toArray Q (l.drop nn))) p [] L H bs):At dfs n L H w0 bs ((Code.region id l.toArray true).wp P Q):=XZ nn p0 hm hB ht h
end
end Go.Sx

namespace Go.Sx
open Go.RowKit Go.Par
section
variable {dfs:List Deferred} {P:Program} {L:Sl} {H H':Hp} {w0:World} {bs bs':List Res} {ty:TypeId} {pos:String} {aft:Array Edge} {t:Tmp} {op:Op} {ops:Array Oper} {N hn i n j:Nat} {pa:List (Nat × Oper × Value)} {E:Sl→Hp→List Res→Prop} {r:List (Nat × Nat × Oper)} {rest:List Oper} {Q:Exit→Act→World→Prop} {o:Oper} {v:Value} {b c:Bool} {u:Tmp}
theorem dC.yw {r:PlT} (hy:Yl P L H w0 bs ⟨some t,op,ty,pos,aft,none⟩ v) (h:dC dfs P ops hn w0 N E r ((i,⟨some t,op,ty,pos,aft,none⟩,v)::pa) ((t,v)::L) H bs) (ht:Nat.blt t N=true:=by rfl):dC dfs P ops hn w0 N E (.light i ⟨some t,op,ty,pos,aft,none⟩ r) pa L H bs:=.yv hy ht h
theorem dC.mv {r:PlT} {x:Operand} (hx:ev L x=some v) (h:dC dfs P ops hn w0 N E r ((i,⟨some t,.move x,ty,pos,aft,none⟩,v)::pa) ((t,v)::L) H bs) (ht:Nat.blt t N=true:=by rfl):dC dfs P ops hn w0 N E (.light i ⟨some t,.move x,ty,pos,aft,none⟩ r) pa L H bs:=.m hx ht h
end
end Go.Sx
namespace Go.Sx
open Go.RowKit Go.Par
def jH (H:Hp) (v:Value) (n:Nat) (xs:List Value):Prop:=(v=.slice none 0 0∧n=0)∨∃ b c,v=.slice (some ⟨b,0,none⟩) n c∧n≤c∧c≤maxLen∧dV H b 0 xs
theorem jH.rep {H:Hp} {v:Value} {n z:Nat} {xs:List Value} {ds:List D} (h:jH H v n xs) (hz:aN H z ds xs) (hn:ds.length=n):Rep H (.seq z ds) [v]:=by
 rcases h with ⟨rfl,rfl⟩ | ⟨b,c,rfl,h1,h2,h3⟩
 ·obtain rfl:=List.eq_nil_of_length_eq_zero hn;exact .empty (by simp [maxLen])
 ·exact .mk h3 hz hn h1 h2
theorem jH.sl {H:Hp} {v:Value} {n:Nat} {xs:List Value} (h:jH H v n xs):∃ p c,v=.slice p n c:=by
 rcases h with ⟨rfl,rfl⟩ | ⟨b,c,rfl,_⟩
 ·exact ⟨_,_,rfl⟩
 ·exact ⟨_,_,rfl⟩
theorem Upd.new {bs bs':List Res} {x y:Res} (h:Upd bs x y bs'):y∈bs':=by
 induction h with
 | head=>exact .head _
 | tail _ ih=>exact .tail _ ih
theorem jH.up {H H':Hp} {v:Value} {n:Nat} {xs:List Value} (h:jH H v n xs) (u:Up H H'):jH H' v n xs:=by
 rcases h with h | ⟨b,c,e,h1,h2,h3⟩
 ·exact .inl h
 ·exact .inr ⟨b,c,e,h1,h2,h3.up u⟩
section
variable {dfs:List Deferred} {P:Program} {n:Nat} {L:Sl} {H:Hp} {w0:World} {bs:List Res} {Q:Exit→Act→World→Prop} {ops:Array Oper} {rest:List Oper} {K:Act→World→Prop}
variable {d:Option Tmp} {ty:TypeId} {pos:String} {aft:Array Edge} {v:Value} {t:Tmp} {x y:Operand} {T:TypeId}
theorem St.boxRowZ {b m z:Nat} {l:List Value} {e:TypeId} {W:World} (h:St H w0 (.box b l e::bs) W) (hz:l.length=m * z) (hl:m≤maxLen):St H w0 (.row e z (.slice (some ⟨b,0,none⟩) m m) m l::bs) W:=by
 have hb:=h.own _ (.head _);refine ⟨h.ext,h.agr,fun x hx=>?_,?_⟩
 ·rcases List.mem_cons.1 hx with rfl | hx
  ·exact ⟨⟨hz,.inr ⟨b,m,l.toArray,rfl,hb.1.1,hb.1.2,Nat.le_refl _,hl,by simpa using hz,by rw [← hz];simp⟩⟩,fun c e=>hb.2 c e⟩
  ·exact h.own x (.tail _ hx)
 ·have h1:=h.apart;rw [List.pairwise_cons] at h1 ⊢;exact ⟨fun z hz c e=>h1.1 z hz c e,h1.2⟩
theorem TI {e:TypeId} {size bytes m k:Nat} {r v:Value} {xs news:List Value} {bs':Value→List Res} (hT:hU P T=some (e,size,bytes)) (hx:ev L x=some r) (hm:∀ r',Upd bs (.row e size r k xs) (.row e size r' (k+m) (xs++news)) (bs' r'))
 (hy:ev L y=some v) (hs:jH H v m news) (hl:news.length=m * size) (h1:∀ u∈news,u.oneCell'=true) (h63:k+m≤maxLen) (hb:(k+m) * bytes≤140737488355328) (ht:Nat.blt t n=true)
 (h:∀ r',At dfs n ((t,r')::L) H w0 (bs' r') K):At dfs n L H w0 bs (one P ops Q ⟨some t,.call ⟨.builtin .append,#[x,y],#[T,T]⟩,ty,pos,aft,none⟩ K):=by
 rcases hs with ⟨rfl,rfl⟩ | ⟨b,c,rfl,_,_,hmem⟩
 ·have hn:news=[]:=List.eq_nil_of_length_eq_zero (by rw [hl,Nat.zero_mul]);subst hn;have e2:bs' r=bs:=(hm r).same (by rw [Nat.add_zero,List.append_nil]);have h2:=h r;rw [e2] at h2;exact GH hT hx (hm r).mem hy ht h2
 ·exact BK hT hx hm hy (fun W s j u e=>by rw [Addr.add_lit];exact hmem.cell s.agr e) hl h1 h63 hb ht fun r' _=>h r'
variable {N hn i:Nat} {pa:List (Nat × Oper × Value)} {E:Sl→Hp→List Res→Prop} {q:PlT}
theorem iN.apR {e:TypeId} {size bytes m k:Nat} {r v:Value} {xs news:List Value} {bs':Value→List Res} (hT:hU P T=some (e,size,bytes)) (hx:ev L x=some r) (hm:∀ r',Upd bs (.row e size r k xs) (.row e size r' (k+m) (xs++news)) (bs' r'))
 (hy:ev L y=some v) (hs:jH H v m news) (hl:news.length=m * size) (h1:∀ u∈news,u.oneCell'=true) (h63:k+m≤maxLen) (hb:(k+m) * bytes≤140737488355328) (ht:Nat.blt t N=true)
 (hr:∀ r',eI dfs P ops hn w0 N L H (bs' r') i pa) (h:∀ p c,dC dfs P ops hn w0 N E q pa ((t,.slice p (k+m) c)::L) H (bs' (.slice p (k+m) c))):iN dfs P ops hn w0 N E i 2 ⟨some t,.call ⟨.builtin .append,#[x,y],#[T,T]⟩,ty,pos,aft,none⟩ q pa L H bs :=
 ⟨gJ ht,TI hT hx hm hy hs hl h1 h63 hb ht fun r'=>At.ra (hm r').new fun p c e=>by subst e;exact iN.into (.inr<|.inr<|hr _) (h p c)⟩
theorem iN.blR {ps:List (Nat × Operand)} {pv:List (Nat × Value)} {len z k:Nat} {e:TypeId} {l:List Value} (hv:evp L ps=some pv) (hb:fG P T len pv=some (e,l)) (ht:Nat.blt t N=true) (hz:l.length=len * z) (hl:len≤maxLen)
 (h:∀ b,dC dfs P ops hn w0 N E q pa ((t,.slice (some ⟨b,0,none⟩) len len)::L) H (.row e z (.slice (some ⟨b,0,none⟩) len len) len l::bs)):iN dfs P ops hn w0 N E i k ⟨some t,.buildSlice T len ps.toArray,ty,pos,aft,none⟩ q pa L H bs :=
 ⟨gJ ht,buildSlice hv hb ht fun b=>reSt (fun _ s=>s.boxRowZ hz hl) (iN.into (.inr<|.inl fun _ s=>s.drop) (h b))⟩
theorem freezeAt {e:TypeId} {size k:Nat} {r:Value} {xs:List Value} {G:Act→World→Prop} (h:∀ H',HUp w0 H H'→jH H' r k xs→At dfs n L H' w0 bs G):At dfs n L H w0 (.row e size r k xs::bs) G :=
 yO fun H' u hr=>h H' u (by
  rcases hr with h | ⟨b,c,e,h1,h2,h3⟩
  ·exact .inl h
  ·exact .inr ⟨b,c,e,h1,h2,h3⟩)
end
section
variable {dfs:List Deferred} {P:Program} {n:Nat} {L:Sl} {H:Hp} {w0:World} {bs:List Res} {Q:Exit→Act→World→Prop} {ops:Array Oper} {rest:List Oper} {K:Act→World→Prop}
variable {d:Option Tmp} {ty:TypeId} {pos:String} {aft:Array Edge} {v:Value} {t:Tmp} {x y:Operand} {T:TypeId}
theorem uY {e:TypeId} {size bytes m c k:Nat} {p:Option Addr} {r:Value} {xs:List Value} {ds:List D} {bs':List Value→Value→List Res} (hT:hU P T=some (e,size,bytes)) (hx:ev L x=some r)
 (hm:∀ news r',Upd bs (.row e size r k xs) (.row e size r' (k+m) (xs++news)) (bs' news r')) (hy:ev L y=some (.slice p m c)) (hr:Rep H (.seq size ds) [.slice p m c])
 (h63:k+m≤maxLen) (hb:(k+m) * bytes≤140737488355328) (ht:Nat.blt t n=true)
 (h:∀ news r',aN H size ds news→At dfs n ((t,r')::L) H w0 (bs' news r') K):At dfs n L H w0 bs (one P ops Q ⟨some t,.call ⟨.builtin .append,#[x,y],#[T,T]⟩,ty,pos,aft,none⟩ K):=by
 have hlen:=hr.len;unfold Rep at hr;obtain ⟨p',c',h1,h2,h3,h4⟩:=hr;injection h1 with h1 _
 injection h1 with e1 e2 e3
 subst e1 e3;rcases h4 with h4 | ⟨b,off,cs,rfl,hmem,hz⟩
 ·subst h4;obtain rfl:m=0:=e2;cases p with
  | some A=>exact BK hT hx (hm []) hy (fun W s j u e=>by simp at e) (by simp) (by simp) h63 hb ht fun r' _=>h [] r' .nil
  | none =>
   obtain ⟨hu,i,z,hi,hz,hsz,hby,hzs,h0⟩:=mM hT;have e4:bs' [] r=bs:=(hm [] r).same (by rw [Nat.add_zero,List.append_nil]);have h5:=h [] r .nil;rw [e4] at h5;intro a W f s;refine dT rfl ?_;unfold Oper.wp;have hown:W.ownsRow w0.heap.size e size r k xs:=(s.own _ (hm [] r).mem).1
   have hrun:(Builtin.append_ #[T,T] ty #[r,.slice none 0 c]).run P W=.ok r W:=by
    rcases hown.2 with ⟨rfl,rfl⟩ | ⟨g,cap,cur,rfl,hbg,hgc,hnc,hcm,hcs,htake⟩
    ·simp [Builtin.append_,run_underlying hu,sizeOf,typeInfo,hi,Builtin.lenOf,Builtin.firstCells]
    ·simp [Builtin.append_,run_underlying hu,sizeOf,typeInfo,hi,Builtin.lenOf,Builtin.firstCells,hnc,storeCells]
   simp [execOp,resolve,invoke,builtin,f.ev hx,f.ev hy,hrun,Result.andThen,Oper.upon];exact h5 _ _ (f.put ht _) s
 ·exact BK hT hx (hm cs) hy (fun W s j u e=>by rw [Addr.add_lit];exact hmem.cell s.agr e) (by rw [hz.len,e2]) hz.one h63 hb ht fun r' _=>h cs r' hz
theorem At.apD {e:TypeId} {size bytes m c k:Nat} {p:Option Addr} {r:Value} {xs:List Value} {ds:List D} {bs':List Value→Value→List Res} (hT:hU P T=some (e,size,bytes)) (hx:ev L x=some r)
 (hm:∀ news r',Upd bs (.row e size r k xs) (.row e size r' (k+m) (xs++news)) (bs' news r')) (hy:ev L y=some (.slice p m c)) (hr:Rep H (.seq size ds) [.slice p m c])
 (h63:k+m≤maxLen) (hb:(k+m) * bytes≤140737488355328) (ht:Nat.blt t n=true)
 (h:∀ news r',aN H size ds news→At dfs n ((t,r')::L) H w0 (bs' news r') (wpList P ops Q rest)):At dfs n L H w0 bs (wpList P ops Q (⟨some t,.call ⟨.builtin .append,#[x,y],#[T,T]⟩,ty,pos,aft,none⟩::rest)):=cons (uY hT hx hm hy hr h63 hb ht h)
theorem At.blR {ps:List (Nat × Operand)} {pv:List (Nat × Value)} {len z:Nat} {e:TypeId} {l:List Value} (hv:evp L ps=some pv) (hb:fG P T len pv=some (e,l)) (ht:Nat.blt t n=true) (hz:l.length=len * z) (hl:len≤maxLen)
 (h:∀ b,At dfs n ((t,.slice (some ⟨b,0,none⟩) len len)::L) H w0 (.row e z (.slice (some ⟨b,0,none⟩) len len) len l::bs) (wpList P ops Q rest)):At dfs n L H w0 bs (wpList P ops Q (⟨some t,.buildSlice T len ps.toArray,ty,pos,aft,none⟩::rest)) :=
 .bl hv hb ht fun b=>reSt (fun _ s=>s.boxRowZ hz hl) (h b)
theorem At.rs {e:TypeId} {size k:Nat} {r:Value} {xs:List Value} {G:Act→World→Prop} (hm:Res.row e size r k xs∈bs) (hk:0<k) (h:∀ g c,r=.slice (some ⟨g,0,none⟩) k c→At dfs n L H w0 bs G):At dfs n L H w0 bs G:=fun a W f s=>by
 have ho:W.ownsRow w0.heap.size e size r k xs:=(s.own _ hm).1;rcases ho.2 with ⟨hr,h0⟩ | ⟨g,cap,cur,hr,_⟩
 ·omega
 ·exact h g cap hr a W f s
theorem Yl.fld {i:Nat} {u:Value} (hx:ev L x=some v) (hr:∀ W,(Instr.field T v i).run P W=.ok u W) {gd:Option (Nat × Bool)}:Yl P L H w0 bs ⟨d,.field T x i,ty,pos,aft,gd⟩ u:=.of_run fun a W f s=>by
 unfold execOp;simp only [f x _ hx,Sem.run_bind,hr W,Result.andThen,Sem.run_pure]
theorem sD:∀ (vs l more:List Value) (off:Nat),off+vs.length≤l.length→dL (l++more) off vs=dL l off vs++more
 | [],l,more,off,_=>rfl
 | v::r,l,more,off,h=>by
  unfold dL;rw [List.length_cons] at h;rw [List.set_append_left _ _ (by omega)];exact sD r (l.set off v) more (off+1) (by rw [List.length_set];omega)
theorem tI:∀ (vs p l:List Value) (off:Nat),dL (p++l) (p.length+off) vs=p++dL l off vs
 | [],p,l,off=>rfl
 | v::r,p,l,off=>by
  unfold dL;rw [List.set_append_right _ _ (by omega),show p.length+off - p.length=off by omega,Nat.add_assoc];exact tI r p (l.set off v) (off+1)
theorem aN.put {H:Hp} {z:Nat} {d:D} {vs:List Value} (hd:Rep H d vs) (hz:vs.length=z):∀ {ds:List D} {l:List Value} {i:Nat},aN H z ds l→i<ds.length→aN H z (ds.set i d) (dL l (i * z) vs)
 | [],l,i,_,hi=>by simp at hi
 | d0::r,l,0,h,_=>by
  unfold aN at h;obtain ⟨x,y,rfl,h1,h2,h3⟩:=h;rw [List.set_cons_zero,Nat.zero_mul,sD _ _ _ _ (by omega)];have:=sE vs [] x (by omega);simp only [List.nil_append,List.length_nil] at this;rw [this];unfold aN;exact ⟨vs,y,rfl,hz,hd,h3⟩
 | d0::r,l,i+1,h,hi=>by
  unfold aN at h;obtain ⟨x,y,rfl,h1,h2,h3⟩:=h;have:=aN.put hd hz (i:=i) h3 (by simpa using hi);rw [List.set_cons_succ,show (i+1) * z=x.length+i * z by rw [h1,Nat.succ_mul];omega,tI];unfold aN;exact ⟨x,_,rfl,h1,h2,this⟩
theorem mK:∀ (vs l:List Value) (off:Nat),(dL l off vs).length=l.length
 | [],l,off=>rfl
 | v::r,l,off=>by unfold dL;rw [mK r,List.length_set]
variable {N hn i:Nat} {pa:List (Nat × Oper × Value)} {E:Sl→Hp→List Res→Prop} {q:PlT} {fr:List (Nat × Nat × Oper)}
theorem bQ.apD {e:TypeId} {size bytes m c k:Nat} {p:Option Addr} {r:Value} {xs:List Value} {ds:List D} {bs':List Value→Value→List Res} (hT:hU P T=some (e,size,bytes)) (hx:ev L x=some r)
 (hm:∀ news r',Upd bs (.row e size r k xs) (.row e size r' (k+m) (xs++news)) (bs' news r')) (hy:ev L y=some (.slice p m c)) (hr:Rep H (.seq size ds) [.slice p m c])
 (h63:k+m≤maxLen) (hb:(k+m) * bytes≤140737488355328) (ht:Nat.blt t N=true)
 (hr2:∀ news r',eI dfs P ops hn w0 N L H (bs' news r') i pa) (h:∀ news p c,aN H size ds news→bQ dfs P ops hn w0 N E fr pa ((t,.slice p (k+m) c)::L) H (bs' news (.slice p (k+m) c))) :
 bQ dfs P ops hn w0 N E ((i,3,⟨some t,.call ⟨.builtin .append,#[x,y],#[T,T]⟩,ty,pos,aft,none⟩)::fr) pa L H bs :=
 ⟨gJ ht,uY hT hx hm hy hr h63 hb ht fun news r' hz=>At.ra (hm news r').new fun p c e=>by subst e;exact bQ.into (.inr<|.inr<|hr2 _ _) (h news p c hz)⟩
theorem bQ.apD0 {e:TypeId} {size bytes m c:Nat} {p:Option Addr} {r:Value} {ds:List D} {bs':List Value→Value→List Res} (hT:hU P T=some (e,size,bytes)) (hx:ev L x=some r)
 (hm:∀ news r',Upd bs (.row e size r 0 []) (.row e size r' m news) (bs' news r')) (hy:ev L y=some (.slice p m c)) (hr:Rep H (.seq size ds) [.slice p m c])
 (h63:m≤maxLen) (hb:m * bytes≤140737488355328) (ht:Nat.blt t N=true)
 (hr2:∀ news r',eI dfs P ops hn w0 N L H (bs' news r') i pa) (h:∀ news p c,aN H size ds news→bQ dfs P ops hn w0 N E fr pa ((t,.slice p m c)::L) H (bs' news (.slice p m c))) :
 bQ dfs P ops hn w0 N E ((i,3,⟨some t,.call ⟨.builtin .append,#[x,y],#[T,T]⟩,ty,pos,aft,none⟩)::fr) pa L H bs :=
 .apD hT hx (k:=0) (xs:=[]) (fun news r'=>by rw [Nat.zero_add];exact hm news r') hy hr (by omega) (by rw [Nat.zero_add];exact hb) ht hr2 fun news p c hz=>by rw [Nat.zero_add];exact h news p c hz
end
inductive EK where
 | b | s | i
def PI (P:Program) (t:TypeId):Option EK :=
 match P.underlying t with
 | some .bool=>some .b
 | some .string=>some .s
 | some (.int _)=>some .i
 | _=>none
def WM:EK→Value→Value→Option Bool
 | .b,.bool a,.bool b=>some (decide (a=b))
 | .s,.string a,.string b=>some (decide (a=b))
 | .i,.int k a,.int k' b=>if k=k' then some (decide (a=b)) else none
 | _,_,_=>none
def LB:List (Nat × EK)→List Value→List Value→Option Bool
 | [],_,_=>some true
 | (o,k)::r,cs,ds =>
  match cs[o]?,ds[o]? with
  | some a,some b =>
   match WM k a b,LB r cs ds with
   | some p,some q=>some (p && q)
   | _,_=>none
  | _,_=>none
def WI (P:Program) (f:Field):Option (Nat × EK):=if f.name = "_" then none else (PI P f.type).map fun k=>(f.offset,k)
def eqT (P:Program) (T:TypeId):Option (List (Nat × EK)) :=
 match P.underlying T with
 | some (.struct fs)=>if P.stoodInHeld T || P.eqGuardType P.depth T then none else fs.toList.mapM (WI P)
 | _=>none
section
variable {dfs:List Deferred} {P:Program}
theorem wR {t:TypeId} {k:EK} (h:PI P t=some k):P.plainKey t=true:=by
 unfold PI at h;unfold Program.plainKey
 split at h <;> simp_all
theorem NA {t:TypeId} {k:EK} {a b:Value} {r:Bool} (hk:PI P t=some k) (h:WM k a b=some r) (d:Nat) (w:World):(Op.equalIn (d+1) t a b).run P w=.ok r w:=by
 unfold PI at hk;unfold WM at h
 split at h
 ·split at hk <;> simp only [Option.some.injEq,reduceCtorEq] at hk
  rename_i hu;rw [run_equalIn_bool w d t _ _ hu];cases h
  rfl
 ·split at hk <;> simp only [Option.some.injEq,reduceCtorEq] at hk
  rename_i hu;rw [run_equalIn_string w d t _ _ hu];cases h
  congr 1
  rw [Bool.eq_iff_iff,beq_iff_eq,decide_eq_true_eq]
  constructor
  ·intro e;rwa [ByteArray.toList_eq,ByteArray.toList_eq,Array.toList_inj,← ByteArray.ext_iff] at e
  ·intro e;rw [e]
 ·split at hk <;> simp only [Option.some.injEq,reduceCtorEq] at hk
  rename_i hu
  split at h
  ·rename_i e;subst e;rw [run_equalIn_int w d t _ _ _ _ hu];cases h
   rfl
  ·cases h
 ·cases h
theorem CI (d:Nat) (w:World) (cs ds:List Value):∀ (fs:List Field) (ks:List (Nat × EK)) (r:Bool),fs.mapM (WI P)=some ks→LB ks cs ds=some r→(Op.eqFields (d+1) cs.toArray ds.toArray fs).run P w=.ok r w
 | [],ks,r,hk,hr=>by
  simp at hk;subst hk;simp only [LB,Option.some.injEq] at hr;subst hr;simp [Op.eqFields]
 | f::fs,ks,r,hk,hr=>by
  rw [List.mapM_cons] at hk;simp only [bind,Option.bind_eq_some_iff,pure,Option.some.injEq] at hk;obtain ⟨k,hk1,ks',hk2,rfl⟩:=hk;unfold WI at hk1
  split at hk1
  ·cases hk1
  rename_i hn;rw [Option.map_eq_some_iff] at hk1;obtain ⟨e,he,rfl⟩:=hk1;simp only [LB] at hr
  split at hr
  ·rename_i a b ha hb
   split at hr
   ·rename_i p q hp hq;cases hr;have h1:=run_part_plain w (wR he) (xs:=cs.toArray) (off:=f.offset) (v:=a) (by simpa using ha);have h2:=run_part_plain w (wR he) (xs:=ds.toArray) (off:=f.offset) (v:=b) (by simpa using hb);have h3:=NA he hp d w;have h4:=CI d w cs ds fs ks' q hk2 hq;simp only [Op.eqFields,hn,ne_eq,not_false_eq_true,if_true,Sem.run_bind,h1,h2,h3,Result.andThen_ok];cases p
    ·simp
    ·simpa using h4
   ·cases hr
  ·cases hr
theorem RH {T:TypeId} {ks:List (Nat × EK)} {cs ds:List Value} {r:Bool} (hT:eqT P T=some ks) (hr:LB ks cs ds=some r) (w:World) :
 (Op.equal T (.agg cs.toArray) (.agg ds.toArray)).run P w=.ok r w∧P.eqGuardType P.depth T=false:=by
 unfold eqT at hT
 split at hT
 ·rename_i fs hu
  split at hT
  ·cases hT
  rename_i hb;rw [Bool.not_eq_true,Bool.or_eq_false_iff] at hb;have hf:P.fieldsOf T=fs:=by simp [Program.fieldsOf,hu]
  refine ⟨?_,hb.2⟩;show (Op.equalIn (9998+1+1) T _ _).run P w=_;rw [run_equalIn_struct w (9998+1) T _ _ (by rw [hf];exact hu) hb.1,hf];exact CI 9998 w cs ds fs.toList ks r hT hr
 ·cases hT
variable {n:Nat} {L:Sl} {H:Hp} {w0:World} {bs:List Res} {d:Option Tmp} {ty:TypeId} {pos:String} {aft:Array Edge} {g:Option (Nat × Bool)} {x y:Operand} {T T':TypeId}
theorem Yl.neA {ks:List (Nat × EK)} {cs ds:List Value} {r:Bool} (hT:eqT P T=some ks) (hx:ev L x=some (.agg cs.toArray)) (hy:ev L y=some (.agg ds.toArray)) (hr:LB ks cs ds=some r):Yl P L H w0 bs ⟨d,.binOp .neq T x y T',ty,pos,aft,g⟩ (.bool (!r)):=.of_run fun a W f _=>by
 obtain ⟨h1,h2⟩:=RH hT hr W;unfold execOp;simp [f x _ hx,f y _ hy,eqGuard,h2,binOp,h1]
end
theorem Rep.cells {H:Hp} {z n c:Nat} {ds:List D} {p:Option Addr} (h:Rep H (.seq z ds) [.slice p n c]):∃ cf:Nat→List Value,∀ i d,ds[i]? = some d→∃ b off,p=some ⟨b,off,none⟩∧Rep H d (cf i)∧(cf i).length=z∧dV H b (off+i * z) (cf i):=by
 classical
 refine ⟨fun i=>if h:∃ cs,∀ d,ds[i]? = some d→∃ b off,p=some ⟨b,off,none⟩∧Rep H d cs∧cs.length=z∧dV H b (off+i * z) cs then Classical.choose h else [],fun i d hd=>?_⟩
 have ex:∃ cs,∀ d,ds[i]? = some d→∃ b off,p=some ⟨b,off,none⟩∧Rep H d cs∧cs.length=z∧dV H b (off+i * z) cs:=by
  obtain ⟨b,off,cs,h1,h2,h3,h4⟩:=h.elem hd;refine ⟨cs,fun d' hd'=>?_⟩;rw [hd] at hd';injection hd' with e
  subst e;exact ⟨b,off,h1,h2,h3,h4⟩
 simp only [dif_pos ex];exact Classical.choose_spec ex d hd
theorem WX {vs l:List Value} {k:Nat} (h:(l.drop k).take vs.length=vs):∀ (j:Nat) u,vs[j]? = some u→l[k+j]? = some u:=fun j u hj=>by
 rw [← h,List.getElem?_take] at hj
 split at hj
 ·rw [List.getElem?_drop] at hj;exact hj
 ·cases hj
section
variable {dfs:List Deferred} {P:Program} {n:Nat} {L:Sl} {H:Hp} {w0:World} {bs:List Res} {Q:Exit→Act→World→Prop} {ops:Array Oper} {rest:List Oper} {K:Act→World→Prop}
variable {d:Option Tmp} {ty:TypeId} {pos:String} {aft:Array Edge} {v:Value} {t:Tmp} {x:Operand}
theorem PR {X:Type} {f:FuncId} {xs:List Operand} {vs fi ca:List Value} {ats:Array TypeId} {C:X→Prop} {val:X→Value} {H':X→Hp} {bs':X→List Res} (hx:ev L x=some (.func (.func f) fi.toArray ca.toArray)) (hf:aK P f=true) (hv:evs L xs=some vs)
 (hc:∀ W,St H w0 bs W→Calls P f (fi++vs++ca).toArray W fun e W'=>∃ x,C x∧e=.returned (val x)∧St (H' x) w0 (bs' x) W') (ht:Nat.blt t n=true)
 (h:∀ x,C x→At dfs n ((t,val x)::L) (H' x) w0 (bs' x) K) :
 At dfs n L H w0 bs (one P ops Q ⟨some t,.call ⟨.value x,xs.toArray,ats⟩,ty,pos,aft,none⟩ K):=by
 intro a W f0 s;refine dT rfl ?_;unfold Oper.wp;rw [wQ hf (fun x u e=>f0.ev e) hx hv];refine (hc W s).mono ?_;rintro e W' ⟨x,hx,rfl,hs⟩;exact h x hx _ _ (f0.put ht _) hs
theorem At.sv {X:Type} {f:FuncId} {xs:List Operand} {vs fi ca:List Value} {ats:Array TypeId} {C:X→Prop} {val:X→Value} {H':X→Hp} {bs':X→List Res} (hx:ev L x=some (.func (.func f) fi.toArray ca.toArray)) (hf:aK P f=true) (hv:evs L xs=some vs)
 (hc:∀ W,St H w0 bs W→Calls P f (fi++vs++ca).toArray W fun e W'=>∃ x,C x∧e=.returned (val x)∧St (H' x) w0 (bs' x) W') (ht:Nat.blt t n=true)
 (h:∀ x,C x→At dfs n ((t,val x)::L) (H' x) w0 (bs' x) (wpList P ops Q rest)):At dfs n L H w0 bs (wpList P ops Q (⟨some t,.call ⟨.value x,xs.toArray,ats⟩,ty,pos,aft,none⟩::rest)):=cons (PR hx hf hv hc ht h)
theorem Yl.mkF {fn:Fn} {fs cs:List Operand} {fi ca:List Value} {g:Option (Nat × Bool)} (h1:evs L fs=some fi) (h2:evs L cs=some ca):Yl P L H w0 bs ⟨d,.makeFunc fn fs.toArray cs.toArray,ty,pos,aft,g⟩ (.func fn fi.toArray ca.toArray):=.of_run fun a W f _=>by
 unfold execOp;simp [nJ f h1,nJ f h2,Instr.makeFunc]
/-! ### Stores in a drawn region's head -/
section
variable {N hn i:Nat} {pa:List (Nat × Oper × Value)} {E:Sl→Hp→List Res→Prop} {r:List (Nat × Nat × Oper)} {T:TypeId} {y:Operand} {bs':List Res}
end
section
variable {N hn i k:Nat} {pa:List (Nat × Oper × Value)} {E:Sl→Hp→List Res→Prop} {r:PlT} {T:TypeId} {y:Operand} {bs':List Res}
theorem iN.blF {ps:List (Nat × Operand)} {pv:List (Nat × Value)} {len:Nat} {e:TypeId} {l:List Value} (hv:evp L ps=some pv) (hb:fG P T len pv=some (e,l)) (ht:Nat.blt t N=true)
 (h:∀ b H1,HUp w0 H H1→dV H1 b 0 l→dC dfs P ops hn w0 N E r pa ((t,.slice (some ⟨b,0,none⟩) len len)::L) H1 bs):iN dfs P ops hn w0 N E i k ⟨some t,.buildSlice T len ps.toArray,ty,pos,aft,none⟩ r pa L H bs :=
 ⟨gJ ht,buildSlice hv hb ht fun b=>freezeBox fun H1 u m=>iN.into (.inr<|.inl fun _ s=>s.weakH u.up) (h b H1 u m)⟩
theorem iN.into0 (hr:eI dfs P ops hn w0 N L H bs' i pa) (h:dC dfs P ops hn w0 N E r pa L H bs') :
 At dfs N L H w0 bs' (fun a' W'=>∃ v H' bs'',Fr dfs N (putL none v L) a'∧St H' w0 bs'' W'∧(k=1∨(∀ W,St H' w0 bs'' W→St H w0 bs W)∨eI dfs P ops hn w0 N L H' bs'' i pa)∧dC dfs P ops hn w0 N E r pa (putL none v L) H' bs''):=fun _ _ f s=>⟨undef,H,bs',f,s,.inr (.inr hr),h⟩
end
end
section
variable {dfs:List Deferred} {P:Program} {L:Sl} {H:Hp} {w0:World} {bs:List Res} {ops:Array Oper}
variable {ty:TypeId} {pos:String} {aft:Array Edge} {t:Tmp}
variable {N hn i k:Nat} {pa:List (Nat × Oper × Value)} {E:Sl→Hp→List Res→Prop} {r:List (Nat × Nat × Oper)} {T:TypeId}
theorem bQ.blF {ps:List (Nat × Operand)} {pv:List (Nat × Value)} {len:Nat} {e:TypeId} {l:List Value} (hv:evp L ps=some pv) (hb:fG P T len pv=some (e,l)) (ht:Nat.blt t N=true)
 (h:∀ b H1,HUp w0 H H1→dV H1 b 0 l→bQ dfs P ops hn w0 N E r pa ((t,.slice (some ⟨b,0,none⟩) len len)::L) H1 bs):bQ dfs P ops hn w0 N E ((i,k+1,⟨some t,.buildSlice T len ps.toArray,ty,pos,aft,none⟩)::r) pa L H bs :=
 ⟨gJ ht,buildSlice hv hb ht fun b=>freezeBox fun H1 u m=>bQ.into (.inr<|.inl fun _ s=>s.weakH u.up) (h b H1 u m)⟩
end
class FW (F:Fence):Prop where
 fn:∀ f,F.fn f
 depth:F.depth=none
 calls:∀ {n:Nat} {P:Program} {f:FuncId} {args:Array Value} {w:World} {R:Ending→World→Prop},Calls P f args w R→CallsIn F n P f args w R
 rows:∀ {n:Nat} {P:Program} {r:String} {args:Array Value} {w:World} {R:Value→World→Prop},Rows P r args w R→RowsIn F n P r args w R
instance:FW Fence.wide:=⟨fun _=>trivial,rfl,fun h=>callsIn_wide.2 h,fun h c cs _=>let ⟨v,w',r,s⟩:=h c cs;⟨v,w',r,stepsIn_wide.2 s⟩⟩
instance {l:Nat}:FW (Fence.wide.inRound l):=⟨fun _=>trivial,rfl,fun h=>CallsIn.inRound l (callsIn_wide.2 h),fun h c cs _=>let ⟨v,w',r,s⟩:=h c cs;⟨v,w',r,stepsIn_wide.2 s⟩⟩
section
variable {dfs:List Deferred} {P:Program} {n m:Nat} {L:Sl} {H:Hp} {w0:World} {bs:List Res} {Q:Exit→Act→World→Prop} {ops:Array Oper} {rest:List Oper} {K:Act→World→Prop} {F:Fence}
variable {d:Option Tmp} {ty:TypeId} {pos:String} {aft:Array Edge} {g:Option (Nat × Bool)} {v:Value} {t:Tmp} {op:Op} {x y:Operand} {T:TypeId}
theorem EJ [hF:FW F] {o:Oper} {a:Act} {w:World} (hd:∀ c,o.op≠.defer c) (h:o.wp P a w K (fun _ _ _=>False)):o.wpIn F m P a w K Q:=by
 unfold Oper.wpIn;refine ⟨fun f _=>hF.fn f,?_⟩;rw [Oper.semAt_plain F _ _ hd];unfold Oper.wp at h;generalize (execOp a.eval o).run P w=r at *;cases r with
 | ok z w' =>
  cases z <;> simp only [Oper.upon] at h <;> simp only [Oper.uponIn]
  case value u=>exact h
  case skip=>exact h
  case defer d=>exact h
  case enter f args =>
   refine ⟨fun e=>(by rw [hF.depth] at e;cases e),hF.calls (h.mono ?_)⟩;intro e w'' q;cases e with
   | returned v=>exact q
   | panicked c=>exact q.elim
   | outgrown=>obtain ⟨_,_,q⟩:=q;exact q.elim
  case row rw args=>exact ⟨fun e=>(by rw [hF.depth] at e;cases e),hF.rows h⟩
 | halt z w' =>
  cases z <;> simp only [Oper.upon] at h
theorem yX [hF:FW F] {o:Oper} (hd:∀ c,o.op≠.defer c) (h:At dfs n L H w0 bs (one P ops (fun _ _ _=>False) o (wpListIn F m P ops Q rest))):At dfs n L H w0 bs (wpListIn F m P ops Q (o::rest)):=by
 intro a W f s;have h1:=h a W f s;unfold one at h1;unfold wpListIn;cases hw:Region.wanted o (yielded ops a.tmps) with
 | true =>
  rw [hw] at h1;simp only [if_true] at h1 ⊢;rcases h1 with h1 | ⟨_,_,_,h1⟩
  ·exact EJ hd h1
  ·exact h1.elim
 | false =>
  rw [hw] at h1;simp only [Bool.false_eq_true,if_false] at h1 ⊢;exact ⟨fun f _=>hF.fn f,h1⟩
theorem At.rgI {id:Nat} {l:List Oper} (h:At dfs n L H w0 bs (wpListIn F m P l.toArray Q l)):At dfs n L H w0 bs ((Code.region id l.toArray false).wpIn F m P Q):=fun a W f s=>wpIn_region_lit (h a W f s)
theorem At.rgW {id:Nat} {l:List Oper} (m:Nat) (h:At dfs n L H w0 bs (wpListIn Fence.wide m P l.toArray Q l)):At dfs n L H w0 bs ((Code.region id l.toArray false).wp P Q):=fun a W f s=>wpIn_wide.1 (wpIn_region_lit (h a W f s))
theorem At.nlI (h:At dfs n L H w0 bs (Q .normal)):At dfs n L H w0 bs (wpListIn F m P ops Q []):=h
theorem At.yvI [FW F] (hy:Yl P L H w0 bs ⟨some t,op,ty,pos,aft,none⟩ v) (ht:Nat.blt t n=true) (h:At dfs n ((t,v)::L) H w0 bs (wpListIn F m P ops Q rest)) (hd:∀ c,op≠.defer c:=by intro c e;cases e):At dfs n L H w0 bs (wpListIn F m P ops Q (⟨some t,op,ty,pos,aft,none⟩::rest)):=yX hd (yl hy ht h)
theorem At.mI [FW F] (hx:ev L x=some v) (ht:Nat.blt t n=true) (h:At dfs n ((t,v)::L) H w0 bs (wpListIn F m P ops Q rest)):At dfs n L H w0 bs (wpListIn F m P ops Q (⟨some t,.move x,ty,pos,aft,none⟩::rest)):=.yvI (.move hx) ht h
theorem At.blI [FW F] {ps:List (Nat × Operand)} {pv:List (Nat × Value)} {len:Nat} {e:TypeId} {l:List Value} (hv:evp L ps=some pv) (hb:fG P T len pv=some (e,l)) (ht:Nat.blt t n=true)
 (h:∀ b,At dfs n ((t,.slice (some ⟨b,0,none⟩) len len)::L) H w0 (.box b l e::bs) (wpListIn F m P ops Q rest)):At dfs n L H w0 bs (wpListIn F m P ops Q (⟨some t,.buildSlice T len ps.toArray,ty,pos,aft,none⟩::rest)):=yX (by intro c e;cases e) (buildSlice hv hb ht h)
theorem At.alI [FW F] {l:List Value} (hz:dY P T=some l) (ht:Nat.blt t n=true) (h:∀ b,At dfs n ((t,.pointer (some ⟨b,0,none⟩))::L) H w0 (.box b l T::bs) (wpListIn F m P ops Q rest)):At dfs n L H w0 bs (wpListIn F m P ops Q (⟨some t,.alloc T,ty,pos,aft,none⟩::rest)):=yX (by intro c e;cases e) (alloc hz ht h)
theorem At.stI [FW F] {b off:Nat} {l l':List Value} {t':TypeId} {bs':List Res} (hm:Upd bs (.box b l t') (.box b l' t') bs') (hp:ev L x=some (.pointer (some ⟨b,off,none⟩))) (hv:ev L y=some v) (hT:bT P T=some 1) (h1:v.oneCell'=true) (ho:off<l.length) (hl:l.set off v=l') (h:At dfs n L H w0 bs' (wpListIn F m P ops Q rest)) :
 At dfs n L H w0 bs (wpListIn F m P ops Q (⟨none,.store T x y,ty,pos,aft,none⟩::rest)):=yX (by intro c e;cases e) (store hp hv hT h1 hm ho hl h)
theorem At.sWI [FW F] {b:Nat} {l vs:List Value} {t':TypeId} {bs':List Res} (hm:Upd bs (.box b l t') (.box b vs t') bs') (hp:ev L x=some (.pointer (some ⟨b,0,none⟩))) (hv:ev L y=some (.agg vs.toArray)) (hT:bT P T=some vs.length) (h1:∀ u∈vs,u.oneCell'=true) (ho:l.length=vs.length) (h:At dfs n L H w0 bs' (wpListIn F m P ops Q rest)) :
 At dfs n L H w0 bs (wpListIn F m P ops Q (⟨none,.store T x y,ty,pos,aft,none⟩::rest)):=yX (by intro c e;cases e) (EU hp hv hT h1 hm ho h)
end
/-! ### The caller's side of a range over a function -/
section
variable {H:Hp} {w0 W W':World} {bs:List Res}
theorem St.beside {row:Option Nat} (s:St H w0 bs W) (g:W.grownBy W' row) (hr:∀ r,row=some r→w0.heap.size≤r∧H r=none∧∀ x∈bs,x.blk≠some r):St H w0 bs W':=by
 have hb:∀ k,k<W.heap.size→(∀ r,row=some r→k≠r)→W'.heap[k]? = W.heap[k]? := fun k hk hn=>g.block k hk (fun e=>hn k e.symm rfl);refine ⟨?_,?_,?_,s.apart⟩
 ·have e:=s.ext;unfold Ext at e ⊢;refine ⟨g.os.trans e.os,g.tape.trans e.tape,g.output.trans e.output,Nat.le_trans e.size g.size,fun k hk=>?_⟩;exact (hb k (Nat.lt_of_lt_of_le hk e.size) (fun r e' h=>by have:=(hr r e').1;omega)).trans (e.block k hk)
 ·intro b o e;have:=s.agr b o e;rw [hb b (fZ this) (fun r e' h=>by subst h;rw [(hr b e').2.1] at e;cases e)];exact this
 ·intro x hx;exact ⟨(s.own x hx).1.keep g.size (fun b e=>hb b ((s.own x hx).1.lt e).2 (fun r e' h=>by subst h;exact (hr b e').2.2 x hx e)),(s.own x hx).2⟩
def CZ:List Res→Bool
 | []=>true
 | .box ..::r=>CZ r
 | .row ..::r=>CZ r
 | _::_=>false
theorem qK:∀ {bs:List Res},CZ bs=true→∀ x∈bs,∀ base,x.ok base W→∀ b,x.blk=some b→∃ o,W.heap[b]? = some o∧o.isCells=true
 | [],_,x,hx,_,_,_,_=>by cases hx
 | .box c l t::r,h,x,hx,base,ho,b,e=>by
  rcases List.mem_cons.1 hx with rfl | hx
  ·obtain rfl:c=b:=Option.some.inj e;exact ⟨_,ho.2,rfl⟩
  ·exact qK (bs:=r) h x hx base ho b e
 | .row et size v n xs::r,h,x,hx,base,ho,b,e=>by
  rcases List.mem_cons.1 hx with rfl | hx
  ·obtain ⟨_,⟨rfl,_⟩ | ⟨g,cap,cur,rfl,hg,hc,_⟩⟩:=ho
   ·cases e
   ·obtain rfl:g=b:=Option.some.inj e;exact ⟨_,hc,rfl⟩
  ·exact qK (bs:=r) h x hx base ho b e
 | .obj ..::_,h,_,_,_,_,_,_=>by cases h
 | .big ..::_,h,_,_,_,_,_,_=>by cases h
theorem AB (s:St H w0 bs W) (h:CZ bs=true) {r:Nat} {o:Obj} (ho:W.heap[r]? = some o) (hc:o.isCells=false):∀ x∈bs,x.blk≠some r:=by
 intro x hx e;obtain ⟨o',h1,h2⟩:=qK h x hx _ (s.own x hx).1 r e;rw [ho] at h1;cases h1;rw [hc] at h2;cases h2
theorem XC {α Z:Type} {B:Nat} {C:List α→Z→Prop} {rs:Z→List Res} (hB:w0.heap.size≤B) (hH:∀ r,B≤r→H r=none) (hn:∀ pre z,C pre z→CZ (rs z)=true) :
 OwnFrom B (fun pre W=>∃ z,C pre z∧St H w0 (rs z) W):=by
 rintro pre X Y row ⟨z,hz,s⟩ hg hr
 exact ⟨z,hz,s.beside hg fun r e=>by
  obtain ⟨h1,o,h2,h3⟩:=hr r e;exact ⟨Nat.le_trans hB h1,hH r h1,AB s (hn _ _ hz) h2 h3⟩⟩
theorem St.less {H':Hp} (s:St H' w0 bs W) (u:Up H H'):St H w0 bs W:=⟨s.ext,fun b o e=>s.agr b o (u b o e),fun x hx=>⟨(s.own x hx).1,fun b e=>by
 cases h:H b with
 | none=>rfl
 | some o=>have:=(s.own x hx).2 b e;rw [u b o h] at this;cases this⟩,s.apart⟩
theorem St.front {tl:List Res} (s:St H w0 (bs++tl) W):St H w0 bs W:=⟨s.ext,s.agr,fun x hx=>s.own x (List.mem_append_left _ hx),(List.pairwise_append.1 s.apart).1⟩
def tailOf (B:Nat) (W:World):List Res:=.big W.heap.size::(List.range' B (W.heap.size - B)).filterMap fun k=>match W.heap[k]? with
 | some o=>if o.isCells then none else some (.obj k o)
 | none=>none
theorem qL {B:Nat} {x:Res} (h:x∈tailOf B W):x=.big W.heap.size∨∃ k o,x=.obj k o∧W.heap[k]? = some o∧o.isCells=false∧B≤k:=by
 rcases List.mem_cons.1 h with rfl | h
 ·exact .inl Z
 ·obtain ⟨k,hk,he⟩:=List.mem_filterMap.1 h;cases ho:W.heap[k]? with
  | none=>rw [ho] at he;cases he
  | some o =>
   rw [ho] at he;cases hc:o.isCells with
   | true=>simp [hc] at he
   | false=>exact .inr ⟨k,o,by simpa [hc] using he.symm,ho,hc,by have:=List.mem_range'_1.1 hk;omega⟩
theorem St.tailOf {B:Nat} (s:St H w0 bs W) (hn:CZ bs=true) (hB:w0.heap.size≤B) (hH:∀ r,B≤r→H r=none):St H w0 (bs++tailOf B W) W:=by
 refine ⟨s.ext,s.agr,?_,List.pairwise_append.2 ⟨s.apart,?_,?_⟩⟩
 ·intro x hx;rcases List.mem_append.1 hx with hx | hx
  ·exact s.own x hx
  ·rcases qL hx with rfl | ⟨k,o,rfl,ho,hc,hk⟩
   ·exact ⟨Nat.le_refl _,fun b e=>by cases e⟩
   ·exact ⟨⟨Nat.le_trans hB hk,ho⟩,fun b e=>by obtain rfl:k=b:=Option.some.inj e;exact hH k hk⟩
 ·refine .cons (fun y _ b e=>by cases e) ?_;refine List.Pairwise.filterMap _ ?_ (List.pairwise_lt_range' (s:=B) (n:=W.heap.size - B));intro k j hlt x hx y hy b e e'
  have key:∀ (m:Nat) (u:Res),(match W.heap[m]? with | some o=>if o.isCells then none else some (Res.obj m o) | none=>none)=some u→u.blk=some m:=by
   intro m u hu;cases ho:W.heap[m]? with
   | none=>rw [ho] at hu;cases hu
   | some o =>
    rw [ho] at hu;cases hc:o.isCells with
    | true=>simp [hc] at hu
    | false =>
     simp [hc] at hu;rw [← hu];rfl
  have h1:=key k x hx;have h2:=key j y hy;rw [h1] at e;rw [h2] at e';cases e;cases e';omega
 ·intro x hx y hy b e e';rcases qL hy with rfl | ⟨k,o,rfl,ho,hc,hk⟩
  ·cases e'
  ·obtain rfl:k=b:=Option.some.inj e';exact AB s hn ho hc x hx e
theorem St.keepsFrom {B:Nat} (s:St H w0 (bs++Sx.tailOf B W) W'):KeepsFrom B W W':=by
 refine ⟨?_,fun k o hk ho hc=>?_⟩
 ·exact (s.own _ (List.mem_append_right _ (List.mem_cons_self ..))).1
 ·have hm:Res.obj k o∈Sx.tailOf B W:=by
   refine List.mem_cons_of_mem _ (List.mem_filterMap.2 ⟨k,List.mem_range'_1.2 ?_,?_⟩)
   ·have:=fZ ho;omega
   ·rw [ho];simp [hc]
  exact ((s.own _ (List.mem_append_right _ hm)).1).2
def KpH (H:Hp) (W W':World):Prop:=Agr H W→Agr H W'
def rE {α Z:Type} (C:List α→Z→Prop) (rs:Z→List Res) (H:Hp) (w0:World) (tl:List Res) (xs:List α):Exit→Act→World→Prop
 | .normal,_,W=>∃ z,C xs z∧St H w0 (rs z++tl) W
 | _,_,_=>False
theorem At.rE {α Z:Type} {C:List α→Z→Prop} {rs:Z→List Res} {tl:List Res} {xs:List α} {dfs:List Deferred} {n:Nat} {L:Sl} {H':Hp} (z:Z) (u:Up H H') (hz:C xs z) (hb:bs=rs z++tl) :
 At dfs n L H' w0 bs (Sx.rE C rs H w0 tl xs .normal):=fun a W f s=>⟨z,hz,by rw [← hb];exact s.less u⟩
end
/-! ### A function with a range over a function in it -/
section
variable {P:Program} {n:Nat} {L:Sl} {H:Hp} {w0:World} {bs bs':List Res} {fn:Func} {R:Ending→World→Prop} {v:Value} {D:Nat}
theorem enterM {f:FuncId} {c:Code} {args:List Value} {w:World} (hf:P.funcs[f]? = some fn) (hb:fn.body=some c) (hn:fn.ntmps=n) (hl:Nat.ble args.length n=true) (hA:Agr H w)
 (h:At [] n (vN 0 args) H w [] (c.wp P (bodyPostM Fence.wide 9 P fn R))):Calls P f args.toArray w R:=by
 refine callsIn_wide.1 (callsIn_of_wp_marks (n:=9) hf hb trivial (wpIn_wide.2 (h _ _ ⟨?_,rfl,?_⟩ (.start hA))))
 ·have:args.length≤n:=Nat.le_of_ble_eq_true hl;simp [hn];omega
 ·intro t v e;obtain ⟨_,h2⟩:=qX args 0 t v e;rw [Nat.sub_zero] at h2;have hlt:t<args.length:=(List.getElem?_eq_some_iff.1 h2).1;rw [Array.getD_eq_getD_getElem?];rw [Array.getElem?_append_left (by simpa using hlt)];simp [h2]
theorem St.shut {W:World} (s:St H w0 bs W) (u:Upd bs (.obj D (.deferred (some []))) (.obj D (.deferred none)) bs'):St H w0 bs' (W.putObj D (.deferred none)):=by
 obtain ⟨h1,h2⟩:=(s.own _ u.mem).1;have hlt:=fZ h2;have e:=s.ext;refine s.upd u ?_ (by simp [World.putObj]) ?_ ⟨h1,World.putObj_heap_same hlt⟩ (fun b e=>.inl e)
 ·unfold Ext at e ⊢;exact e.grown (grownBy_putObj' W D _) (by omega) (fun k e=>by cases e;exact h1)
 ·intro b _ hne;exact World.putObj_heap_other (fun h=>hne (by rw [h];rfl))
theorem ret0M {e:Exit} (he:e=.ret∨e=.normal) (h:At [] n L H w0 bs (bodyPost P fn R e)):At [] n L H w0 bs (bodyPostM Fence.wide 9 P fn R e):=by
 intro a W f s;obtain ⟨h1,v,h2,h3⟩:bodyPost P fn R .ret a W:=by rcases he with rfl | rfl <;> exact h a W f s
 have h4:LeavesInM Fence.wide 9 P fn a.tmps R a.defers .returning W:=by
  rw [h1];exact ⟨v,h2,h3⟩
 rcases he with rfl | rfl <;> exact h4
theorem retM {e:Exit} (he:e=.ret∨e=.normal) (u:Upd bs (.obj D (.deferred (some []))) (.obj D (.deferred none)) bs') (h:At [] n L H w0 bs' (bodyPost P fn R .ret)) :
 At [{ target:=.collected D,args:=#[] }] n L H w0 bs (bodyPostM Fence.wide 9 P fn R e):=by
 intro a W f s;obtain ⟨_,v,h2,h3⟩:=h { a with defers:=[] } _ ⟨f.size,rfl,f.slot⟩ (s.shut u)
 have h4:LeavesInM Fence.wide 9 P fn a.tmps R a.defers .returning W:=by
  rw [f.defers];exact ⟨(by intro e;cases e),.inl ⟨D,_,rfl,run_takeDeferred (s.own _ u.mem).1.2,v,h2,h3⟩⟩
 rcases he with rfl | rfl <;> exact h4
end
/-! ### The iterator's side -/
section
variable {dfs:List Deferred} {P:Program} {n m l:Nat} {L:Sl} {H:Hp} {w0:World} {bs:List Res} {Q:Exit→Act→World→Prop} {ops:Array Oper} {rest:List Oper} {F:Fence}
variable {d:Option Tmp} {ty:TypeId} {pos:String} {aft:Array Edge} {g:Option (Nat × Bool)} {t:Tmp} {x:Operand} {xs:List Operand} {vs:List Value} {ats:Array TypeId}
theorem Ext.grownBy {W W':World} (e:Ext W W'):W.grownBy W' none:=by
 unfold Ext at e;exact ⟨e.os,e.tape,e.output,e.size,fun k hk _=>e.block k hk⟩
theorem AbidesFrom.ext {β:Type} {B:Nat} {J:β→World→Prop} (h:AbidesFrom B J) {s:β} {W W':World} (hs:J s W) (e:Ext W W'):J s W':=h s W W' none hs (Ext.grownBy e) (fun r h=>by cases h)
theorem FV {a:Act} {W W':World} {r:Next} (f0:∀ x u,ev L x=some u→a.eval x=u) (hx:ev L x=some (.func (.yield l) #[] #[])) (hv:evs L xs=some vs) (hr:(Instr.yield l vs.toArray).run P W=.ok r W') :
 (execOp a.eval ⟨d,.call ⟨.value x,xs.toArray,ats⟩,ty,pos,aft,g⟩).run P W=.ok r W':=by
 unfold execOp;simp [resolve,Deferred.ofValue,f0 _ _ hx,invoke,nJ f0 hv,hr]
theorem At.yd [hF:FW F] {J Jx:World→Prop} (hx:ev L x=some (.func (.yield l) #[] #[])) (hv:evs L xs=some vs) (ht:Nat.blt t n=true)
 (hy:∀ W,St H w0 bs W→YieldAt F (m - 1) P l vs.toArray W fun e W'=>(e=.returned (.bool true)∧J W'∧KpH H W W')∨(e=.returned (.bool false)∧Jx W'))
 (h1:∀ w1,J w1→At dfs n ((t,.bool true)::L) H w1 [] (wpListIn F m P ops Q rest))
 (h2:∀ w1,Jx w1→At dfs n ((t,.bool false)::L) (fun _=>none) w1 [] (wpListIn F m P ops Q rest)) :
 At dfs n L H w0 bs (wpListIn F m P ops Q (⟨some t,.call ⟨.value x,xs.toArray,ats⟩,ty,pos,aft,none⟩::rest)):=by
 intro a W f s;unfold wpListIn;rw [if_pos (by simp [Region.wanted])];unfold Oper.wpIn;refine ⟨fun f _=>hF.fn f,?_⟩;rw [Oper.semAt_plain F _ _ (by intro c e;cases e)];obtain ⟨fn,tmps,assign,body,hr,hR⟩:=hy W s;rw [FV (fun x u e=>f.ev e) hx hv hr];refine ⟨fun e=>(by rw [hF.depth] at e;cases e),hR.mono ?_⟩;rintro e W' (⟨rfl,hj,hk⟩ | ⟨rfl,hj⟩)
 ·exact h1 W' hj _ _ (f.put ht _) (.start (hk s.agr))
 ·exact h2 W' hj _ _ (f.put ht _) (.start (fun b o e=>by cases e))
theorem At.lj {c:Code} {X:Type} (L':X→Sl) (J:X→World→Prop) (C:X→Prop) (μ:X→Nat) (x0:X) (hC:C x0) (hL:Sub L (L' x0)) (hJ:J x0 w0)
 (round:∀ x w1,C x→J x w1→At dfs n (L' x) H w1 [] (c.wp P (Exit.then (fun a W=>∃ y w2,(C y∧μ y<μ x)∧J y w2∧Fr dfs n (L' y) a∧St H w2 [] W) Q))) :
 At dfs n L H w0 [] ((Code.loop c).wp P Q):=by
 intro a W f s;refine wp_loop_ghost (fun m a W=>∃ x w1,μ x=m∧C x∧J x w1∧Fr dfs n (L' x) a∧St H w1 [] W) _ ⟨x0,w0,rfl,hC,hJ,f.sub hL,s⟩ ?_;rintro m a W ⟨x,w1,rfl,hx,hj,f,s⟩;refine wp_mono (round x w1 hx hj a W f s) fun e a' W' q=>?_;cases e <;> first | exact q | skip
 obtain ⟨y,w2,⟨hy,hlt⟩,hj,fy,sy⟩:=q;exact ⟨_,hlt,y,w2,rfl,hy,hj,fy,sy⟩
theorem At.aj {X:Type} {J:X→World→Prop} {L':X→Sl} {C:X→Prop} {μ:X→Nat} {x:X} (y:X) (hC:C y) (hm:μ y<μ x) (hJ:J y w0) (hL:Sub L (L' y)) :
 At dfs n L H w0 [] (fun a W=>∃ y w2,(C y∧μ y<μ x)∧J y w2∧Fr dfs n (L' y) a∧St H w2 [] W):=fun _ W f s=>⟨y,w0,⟨hC,hm⟩,hJ,f.sub hL,s⟩
theorem seqStops {α:Type} {gf:Nat} {lb:List Value} {enc:α→Value} {S:List α→Prop} {N:Nat} {w:World} {fn:Func} {c:Code} (hf:P.funcs[gf]? = some fn) (hb:fn.body=some c) (hn:fn.ntmps=n) (hl:Nat.ble (lb.length+1) n=true)
 (hA:∀ W,Ext w W→Agr H W)
 (h:∀ l (J Jx:List α→World→Prop) W,(∀ s A B,J s A→Ext A B→J s B)→(∀ s A B,Jx s A→Ext A B→Jx s B) →
  (∀ pre x W1,J pre W1→pre.length<N→YieldAt Fence.wide 7 P l #[enc x] W1 fun e W'=>(e=.returned (.bool true)∧J (pre++[x]) W'∧KpH H W1 W')∨(e=.returned (.bool false)∧Jx (pre++[x]) W')) →
  J [] W→At [] n (vN 0 (.func (.yield l) #[] #[]::lb)) H W [] (c.wp P (bodyPost P fn fun e W'=>(∃ v,e=.returned v)∧((∃ xs,S xs∧J xs W')∨(∃ pre,True∧Jx pre W'))))) :
 SeqStopsK Fence.wide 8 P gf lb.toArray (fun x=>#[enc x]) (KpH H) S (fun _=>True) N w:=by
 intro l J Jx W hW hJ hJx hY h0;refine callsIn_wide.2 ?_;have:(#[Value.func (.yield l) #[] #[]]++lb.toArray:Array Value)=(Value.func (.yield l) #[] #[]::lb).toArray:=by simp
 rw [this];exact enter hf hb hn hl (hA W (by unfold Ext;exact hW)) (h l J Jx W (fun s A B h e=>Sx.AbidesFrom.ext hJ h e) (fun s A B h e=>Sx.AbidesFrom.ext hJx h e) hY h0)
end
theorem Res.ok.base {b c:Nat} {W:World} {x:Res} (h:x.ok c W) (hb:b≤c):x.ok b W:=by
 cases x with
 | box d l t=>exact ⟨Nat.le_trans hb h.1,h.2⟩
 | obj d o=>exact ⟨Nat.le_trans hb h.1,h.2⟩
 | big d=>exact h
 | row et size v n xs =>
  obtain ⟨hl,⟨rfl,h0⟩ | ⟨g,cap,cur,rfl,hg,hc,hr⟩⟩:=h
  ·exact ⟨hl,.inl ⟨rfl,h0⟩⟩
  ·exact ⟨hl,.inr ⟨g,cap,cur,rfl,Nat.le_trans hb hg,hc,hr⟩⟩
theorem St.join {H H':Hp} {w0 W W':World} {bs bs':List Res} (s:St H w0 bs W) (u:HUp W H H') (k:St H' W bs' W'):St H' w0 (bs'++bs) W':=by
 refine ⟨s.ext.trans k.ext,k.agr,fun x hx=>?_,List.pairwise_append.2 ⟨k.apart,s.apart,fun x hx y hy b e e'=>?_⟩⟩
 ·rcases List.mem_append.1 hx with hx | hx
  ·exact ⟨(k.own x hx).1.base s.ext.size,(k.own x hx).2⟩
  ·exact ⟨(s.own x hx).1.ext k.ext,fun b e=>u.new b ((s.own x hx).2 b e) ((s.own x hx).1.lt e).2⟩
 ·have h1:=((k.own x hx).1.lt e).1;have h2:=((s.own y hy).1.lt e').2;omega
section
variable {dfs:List Deferred} {P:Program} {L:Sl} {H:Hp} {w0:World} {bs:List Res} {ops:Array Oper}
variable {ty:TypeId} {pos:String} {aft:Array Edge} {t:Tmp} {x:Operand}
variable {N hn i k:Nat} {pa:List (Nat × Oper × Value)} {E:Sl→Hp→List Res→Prop} {r:List (Nat × Nat × Oper)}
theorem bQ.v3 {X:Type} {f:FuncId} {xs:List Operand} {vs fi ca:List Value} {ats:Array TypeId} {C:X→Prop} {val:X→Value} {H':X→Hp} {bs':X→List Res} (hx:ev L x=some (.func (.func f) fi.toArray ca.toArray)) (hf:aK P f=true) (hv:evs L xs=some vs)
 (hc:∀ W,St H w0 bs W→Calls P f (fi++vs++ca).toArray W fun e W'=>∃ x,C x∧e=.returned (val x)∧St (H' x) w0 (bs' x) W') (ht:Nat.blt t N=true)
 (hr:∀ x,C x→eI dfs P ops hn w0 N L (H' x) (bs' x) i pa) (h:∀ x,C x→bQ dfs P ops hn w0 N E r pa ((t,val x)::L) (H' x) (bs' x)):bQ dfs P ops hn w0 N E ((i,3,⟨some t,.call ⟨.value x,xs.toArray,ats⟩,ty,pos,aft,none⟩)::r) pa L H bs :=
 ⟨gJ ht,PR hx hf hv hc ht fun x hx=>bQ.into (.inr<|.inr<|hr x hx) (h x hx)⟩
end
end Go.Sx
namespace Go.Proofs.YthhoebdlfjffkaaGreatDoor
open Go.RowKit Go.Par Go.Sx
open Go.RowKit Go.Par Go.Sx
open Go.RowKit Go.Par Go.Sx
end Go.Proofs.YthhoebdlfjffkaaGreatDoor
namespace Go.Proofs.YthhoebdlfjffkaaGreatDoor
open Go.RowKit Go.Par Go.Sx
theorem Fx.agg5:dG Tryz.prog 5=some none:=by kernel_rfl
theorem Fx.bytes40:BG Tryz.prog 40=Bool.true:=by kernel_rfl
theorem Fx.field172_6:aO Tryz.prog 172 6=some 6:=by kernel_rfl
theorem Fx.bsl40_2 (x0:Int) (x1:Int):fG Tryz.prog 40 2 [(0,.int .u8 x0),(1,.int .u8 x1)]=some (5,[.int .u8 x0,.int .u8 x1]):=by kernel_rfl
theorem Fx.call65:aK Tryz.prog 65=Bool.true:=by kernel_rfl
theorem Fx.call143:aK Tryz.prog 143=Bool.true:=by kernel_rfl
theorem Fx.field172_0:aO Tryz.prog 172 0=some 0:=by kernel_rfl
theorem Fx.call160:aK Tryz.prog 160=Bool.true:=by kernel_rfl
theorem Fx.call162:aK Tryz.prog 162=Bool.true:=by kernel_rfl
theorem Fx.field172_1:aO Tryz.prog 172 1=some 1:=by kernel_rfl
theorem Fx.field172_5:aO Tryz.prog 172 5=some 5:=by kernel_rfl
theorem Fx.sl129:slN Tryz.prog 129=some 1:=by kernel_rfl
theorem Fx.bld33_0 (x0:Int):bX Tryz.prog 33 [(0,.int .i64 x0)]=some [.int .i64 x0,.string ⟨#[]⟩,.int .i64 0,.slice none 0 0]:=by kernel_rfl
theorem Fx.bld33_0_1 (x0:Int) (x1:ByteArray):bX Tryz.prog 33 [(0,.int .i64 x0),(1,.string x1)]=some [.int .i64 x0,.string x1,.int .i64 0,.slice none 0 0]:=by kernel_rfl
theorem Fx.bld33_0_1_3 (x0:Int) (x1:ByteArray) (x3p:Option Addr) (x3n x3c:Nat):bX Tryz.prog 33 [(0,.int .i64 x0),(1,.string x1),(3,.slice x3p x3n x3c)]=some [.int .i64 x0,.string x1,.int .i64 0,.slice x3p x3n x3c]:=by kernel_rfl
theorem Fx.bld33_0_2 (x0:Int) (x2:Int):bX Tryz.prog 33 [(0,.int .i64 x0),(2,.int .i64 x2)]=some [.int .i64 x0,.string ⟨#[]⟩,.int .i64 x2,.slice none 0 0]:=by kernel_rfl
theorem Fx.bld33_0_3 (x0:Int) (x3p:Option Addr) (x3n x3c:Nat):bX Tryz.prog 33 [(0,.int .i64 x0),(3,.slice x3p x3n x3c)]=some [.int .i64 x0,.string ⟨#[]⟩,.int .i64 0,.slice x3p x3n x3c]:=by kernel_rfl
theorem Fx.bsl129_6 (x0:Int) (x1:Int) (x2:Int) (x3:Int) (x4:Int) (x5:Int):fG Tryz.prog 129 6 [(0,.int .i64 x0),(1,.int .i64 x1),(2,.int .i64 x2),(3,.int .i64 x3),(4,.int .i64 x4),(5,.int .i64 x5)]=some (3,[.int .i64 x0,.int .i64 x1,.int .i64 x2,.int .i64 x3,.int .i64 x4,.int .i64 x5]):=by kernel_rfl
theorem Fx.bsl31_1 (x00 x01 x02 x03:Value):fG Tryz.prog 31 1 [(0,.agg [x00,x01,x02,x03].toArray)]=some (33,[x00,x01,x02,x03]):=by kernel_rfl
theorem Fx.bsl31_2 (x00 x01 x02 x03:Value) (x10 x11 x12 x13:Value):fG Tryz.prog 31 2 [(0,.agg [x00,x01,x02,x03].toArray),(1,.agg [x10,x11,x12,x13].toArray)]=some (33,[x00,x01,x02,x03,x10,x11,x12,x13]):=by kernel_rfl
theorem Fx.row31:hU Tryz.prog 31=some (33,4,56):=by kernel_rfl
theorem Fx.call159:aK Tryz.prog 159=Bool.true:=by kernel_rfl
theorem Fx.field172_2:aO Tryz.prog 172 2=some 2:=by kernel_rfl
theorem Fx.agg129:dG Tryz.prog 129=some none:=by kernel_rfl
theorem Fx.agg169:dG Tryz.prog 169=some none:=by kernel_rfl
theorem Fx.agg205:dG Tryz.prog 205=some (some 6):=by kernel_rfl
theorem Fx.call109:aK Tryz.prog 109=Bool.true:=by kernel_rfl
theorem Fx.call161:aK Tryz.prog 161=Bool.true:=by kernel_rfl
theorem Fx.field172_3:aO Tryz.prog 172 3=some 3:=by kernel_rfl
theorem Fx.field172_4:aO Tryz.prog 172 4=some 4:=by kernel_rfl
theorem Fx.size205:bT Tryz.prog 205=some 6:=by kernel_rfl
theorem Fx.sl169:slN Tryz.prog 169=some 1:=by kernel_rfl
theorem Fx.zero205:dY Tryz.prog 205=some
 [Go.Value.int Go.IntKind.i64 (Int.ofNat 0),Go.Value.string { data:={ toList:=[] } },
  Go.Value.string { data:={ toList:=[] } },Go.Value.slice none 0 0,Go.Value.slice none 0 0,
  Go.Value.slice none 0 0]:=by kernel_rfl
theorem Fx.bld205_0 (x0:Int):bX Tryz.prog 205 [(0,.int .i64 x0)]=some [.int .i64 x0,.string ⟨#[]⟩,.string ⟨#[]⟩,.slice none 0 0,.slice none 0 0,.slice none 0 0]:=by kernel_rfl
theorem Fx.bld205_0_1_2_3 (x0:Int) (x1:ByteArray) (x2:ByteArray) (x3p:Option Addr) (x3n x3c:Nat):bX Tryz.prog 205 [(0,.int .i64 x0),(1,.string x1),(2,.string x2),(3,.slice x3p x3n x3c)]=some [.int .i64 x0,.string x1,.string x2,.slice x3p x3n x3c,.slice none 0 0,.slice none 0 0]:=by kernel_rfl
theorem Fx.bld205_0_1_3 (x0:Int) (x1:ByteArray) (x3p:Option Addr) (x3n x3c:Nat):bX Tryz.prog 205 [(0,.int .i64 x0),(1,.string x1),(3,.slice x3p x3n x3c)]=some [.int .i64 x0,.string x1,.string ⟨#[]⟩,.slice x3p x3n x3c,.slice none 0 0,.slice none 0 0]:=by kernel_rfl
theorem Fx.bld205_0_1_3_5 (x0:Int) (x1:ByteArray) (x3p:Option Addr) (x3n x3c:Nat) (x5p:Option Addr) (x5n x5c:Nat):bX Tryz.prog 205 [(0,.int .i64 x0),(1,.string x1),(3,.slice x3p x3n x3c),(5,.slice x5p x5n x5c)]=some [.int .i64 x0,.string x1,.string ⟨#[]⟩,.slice x3p x3n x3c,.slice none 0 0,.slice x5p x5n x5c]:=by kernel_rfl
theorem Fx.bld205_0_2_3 (x0:Int) (x2:ByteArray) (x3p:Option Addr) (x3n x3c:Nat):bX Tryz.prog 205 [(0,.int .i64 x0),(2,.string x2),(3,.slice x3p x3n x3c)]=some [.int .i64 x0,.string ⟨#[]⟩,.string x2,.slice x3p x3n x3c,.slice none 0 0,.slice none 0 0]:=by kernel_rfl
theorem Fx.bld205_0_3_4 (x0:Int) (x3p:Option Addr) (x3n x3c:Nat) (x4p:Option Addr) (x4n x4c:Nat):bX Tryz.prog 205 [(0,.int .i64 x0),(3,.slice x3p x3n x3c),(4,.slice x4p x4n x4c)]=some [.int .i64 x0,.string ⟨#[]⟩,.string ⟨#[]⟩,.slice x3p x3n x3c,.slice x4p x4n x4c,.slice none 0 0]:=by kernel_rfl
theorem Fx.bld205_0_3_4_5 (x0:Int) (x3p:Option Addr) (x3n x3c:Nat) (x4p:Option Addr) (x4n x4c:Nat) (x5p:Option Addr) (x5n x5c:Nat):bX Tryz.prog 205 [(0,.int .i64 x0),(3,.slice x3p x3n x3c),(4,.slice x4p x4n x4c),(5,.slice x5p x5n x5c)]=some [.int .i64 x0,.string ⟨#[]⟩,.string ⟨#[]⟩,.slice x3p x3n x3c,.slice x4p x4n x4c,.slice x5p x5n x5c]:=by kernel_rfl
theorem Fx.bld205_0_3_5 (x0:Int) (x3p:Option Addr) (x3n x3c:Nat) (x5p:Option Addr) (x5n x5c:Nat):bX Tryz.prog 205 [(0,.int .i64 x0),(3,.slice x3p x3n x3c),(5,.slice x5p x5n x5c)]=some [.int .i64 x0,.string ⟨#[]⟩,.string ⟨#[]⟩,.slice x3p x3n x3c,.slice none 0 0,.slice x5p x5n x5c]:=by kernel_rfl
theorem Fx.call144:aK Tryz.prog 144=Bool.true:=by kernel_rfl
theorem Fx.field172_7:aO Tryz.prog 172 7=some 7:=by kernel_rfl
theorem Fx.row156:hU Tryz.prog 156=some (205,6,112):=by kernel_rfl
theorem Fx.bsl156_1 (x00 x01 x02 x03 x04 x05:Value):fG Tryz.prog 156 1 [(0,.agg [x00,x01,x02,x03,x04,x05].toArray)]=some (205,[x00,x01,x02,x03,x04,x05]):=by kernel_rfl
theorem Fx.agg174:dG Tryz.prog 174=some (some 2):=by kernel_rfl
theorem Fx.call64:aK Tryz.prog 64=Bool.true:=by kernel_rfl
theorem Fx.field174_1:aO Tryz.prog 174 1=some 1:=by kernel_rfl
theorem Fx.row152:hU Tryz.prog 152=some (158,3,64):=by kernel_rfl
theorem Fx.size174:bT Tryz.prog 174=some 2:=by kernel_rfl
theorem Fx.sl165:slN Tryz.prog 165=some 2:=by kernel_rfl
theorem Fx.zero174:dY Tryz.prog 174=some [Go.Value.int Go.IntKind.u8 (Int.ofNat 0),Go.Value.slice none 0 0]:=by kernel_rfl
theorem Fx.bld158_0_1_2 (x0:ByteArray) (x1p:Option Addr) (x1n x1c:Nat) (x2p:Option Addr) (x2n x2c:Nat):bX Tryz.prog 158 [(0,.string x0),(1,.slice x1p x1n x1c),(2,.slice x2p x2n x2c)]=some [.string x0,.slice x1p x1n x1c,.slice x2p x2n x2c]:=by kernel_rfl
theorem Fx.bsl152_1 (x00 x01 x02:Value):fG Tryz.prog 152 1 [(0,.agg [x00,x01,x02].toArray)]=some (158,[x00,x01,x02]):=by kernel_rfl
theorem Fx.agg165:dG Tryz.prog 165=some none:=by kernel_rfl
theorem Fx.field167_2:aO Tryz.prog 167 2=some 2:=by kernel_rfl
theorem Fx.field167_3:aO Tryz.prog 167 3=some 3:=by kernel_rfl
theorem Fx.field174_0:aO Tryz.prog 174 0=some 0:=by kernel_rfl
theorem Fx.row129:hU Tryz.prog 129=some (3,1,8):=by kernel_rfl
theorem Fx.bsl129_1 (x0:Int):fG Tryz.prog 129 1 [(0,.int .i64 x0)]=some (3,[.int .i64 x0]):=by kernel_rfl
theorem Fx.call13:aK Tryz.prog 13=Bool.true:=by kernel_rfl
theorem Fx.call28:aK Tryz.prog 28=Bool.true:=by kernel_rfl
theorem Fx.agg41:dG Tryz.prog 41=some none:=by kernel_rfl
theorem Fx.agg81:dG Tryz.prog 81=some none:=by kernel_rfl
theorem Fx.agg82:dG Tryz.prog 82=some none:=by kernel_rfl
theorem Fx.agg83:dG Tryz.prog 83=some none:=by kernel_rfl
theorem Fx.agg85:dG Tryz.prog 85=some (some 4):=by kernel_rfl
theorem Fx.agg143:dG Tryz.prog 143=some none:=by kernel_rfl
theorem Fx.agg144:dG Tryz.prog 144=some none:=by kernel_rfl
theorem Fx.agg146:dG Tryz.prog 146=some (some 3):=by kernel_rfl
theorem Fx.agg167:dG Tryz.prog 167=some (some 4):=by kernel_rfl
theorem Fx.call66:aK Tryz.prog 66=Bool.true:=by kernel_rfl
theorem Fx.call67:aK Tryz.prog 67=Bool.true:=by kernel_rfl
theorem Fx.field43_0:aO Tryz.prog 43 0=some 0:=by kernel_rfl
theorem Fx.field43_1:aO Tryz.prog 43 1=some 1:=by kernel_rfl
theorem Fx.field43_2:aO Tryz.prog 43 2=some 2:=by kernel_rfl
theorem Fx.field85_1:aO Tryz.prog 85 1=some 1:=by kernel_rfl
theorem Fx.field85_2:aO Tryz.prog 85 2=some 2:=by kernel_rfl
theorem Fx.field85_3:aO Tryz.prog 85 3=some 3:=by kernel_rfl
theorem Fx.field146_1:aO Tryz.prog 146 1=some 1:=by kernel_rfl
theorem Fx.field146_2:aO Tryz.prog 146 2=some 2:=by kernel_rfl
theorem Fx.field167_0:aO Tryz.prog 167 0=some 0:=by kernel_rfl
theorem Fx.field167_1:aO Tryz.prog 167 1=some 1:=by kernel_rfl
theorem Fx.row81:hU Tryz.prog 81=some (141,2,24):=by kernel_rfl
theorem Fx.row82:hU Tryz.prog 82=some (142,3,40):=by kernel_rfl
theorem Fx.row83:hU Tryz.prog 83=some (146,3,64):=by kernel_rfl
theorem Fx.row143:hU Tryz.prog 143=some (148,3,32):=by kernel_rfl
theorem Fx.row144:hU Tryz.prog 144=some (152,1,24):=by kernel_rfl
theorem Fx.row169:hU Tryz.prog 169=some (129,1,24):=by kernel_rfl
theorem Fx.size81:bT Tryz.prog 81=some 1:=by kernel_rfl
theorem Fx.size82:bT Tryz.prog 82=some 1:=by kernel_rfl
theorem Fx.size83:bT Tryz.prog 83=some 1:=by kernel_rfl
theorem Fx.size85:bT Tryz.prog 85=some 4:=by kernel_rfl
theorem Fx.size143:bT Tryz.prog 143=some 1:=by kernel_rfl
theorem Fx.size144:bT Tryz.prog 144=some 1:=by kernel_rfl
theorem Fx.size146:bT Tryz.prog 146=some 3:=by kernel_rfl
theorem Fx.size167:bT Tryz.prog 167=some 4:=by kernel_rfl
theorem Fx.size172:bT Tryz.prog 172=some 8:=by kernel_rfl
theorem Fx.sl41:slN Tryz.prog 41=some 4:=by kernel_rfl
theorem Fx.sl81:slN Tryz.prog 81=some 2:=by kernel_rfl
theorem Fx.zero85:dY Tryz.prog 85=some
 [Go.Value.string { data:={ toList:=[] } },Go.Value.slice none 0 0,Go.Value.slice none 0 0,
  Go.Value.slice none 0 0]:=by kernel_rfl
theorem Fx.zero146:dY Tryz.prog 146=some
 [Go.Value.string { data:={ toList:=[] } },Go.Value.slice none 0 0,Go.Value.slice none 0 0]:=by kernel_rfl
theorem Fx.zero167:dY Tryz.prog 167=some
 [Go.Value.int Go.IntKind.u8 (Int.ofNat 0),Go.Value.int Go.IntKind.u8 (Int.ofNat 0),Go.Value.slice none 0 0,
  Go.Value.slice none 0 0]:=by kernel_rfl
theorem Fx.zero172:dY Tryz.prog 172=some
 [Go.Value.int Go.IntKind.i64 (Int.ofNat 0),Go.Value.int Go.IntKind.i64 (Int.ofNat 0),
  Go.Value.int Go.IntKind.i64 (Int.ofNat 0),Go.Value.int Go.IntKind.i64 (Int.ofNat 0),
  Go.Value.slice none 0 0,Go.Value.int Go.IntKind.i64 (Int.ofNat 0),Go.Value.slice none 0 0,
  Go.Value.int Go.IntKind.i64 (Int.ofNat 0)]:=by kernel_rfl
theorem Fx.bld141_0_1 (x0:ByteArray) (x1:Bool):bX Tryz.prog 141 [(0,.string x0),(1,.bool x1)]=some [.string x0,.bool x1]:=by kernel_rfl
theorem Fx.bld142_0_1_2 (x0:ByteArray) (x1:ByteArray) (x2:Int):bX Tryz.prog 142 [(0,.string x0),(1,.string x1),(2,.int .i64 x2)]=some [.string x0,.string x1,.int .i64 x2]:=by kernel_rfl
theorem Fx.bld146_0 (x0:ByteArray):bX Tryz.prog 146 [(0,.string x0)]=some [.string x0,.slice none 0 0,.slice none 0 0]:=by kernel_rfl
theorem Fx.bld148_0_1_2 (x0:ByteArray) (x1:Int) (x2:Int):bX Tryz.prog 148 [(0,.string x0),(1,.int .i64 x1),(2,.int .i64 x2)]=some [.string x0,.int .i64 x1,.int .i64 x2]:=by kernel_rfl
theorem Fx.bld167  : bX Tryz.prog 167 []=some [.int .u8 0,.int .u8 0,.slice none 0 0,.slice none 0 0]:=by kernel_rfl
theorem Fx.bld172_0_1_2_3_4 (x0:Int) (x1:Int) (x2:Int) (x3:Int) (x4p:Option Addr) (x4n x4c:Nat):bX Tryz.prog 172 [(0,.int .i64 x0),(1,.int .i64 x1),(2,.int .i64 x2),(3,.int .i64 x3),(4,.slice x4p x4n x4c)]=some [.int .i64 x0,.int .i64 x1,.int .i64 x2,.int .i64 x3,.slice x4p x4n x4c,.int .i64 0,.slice none 0 0,.int .i64 0]:=by kernel_rfl
theorem Fx.bld174_0 (x0:Int):bX Tryz.prog 174 [(0,.int .u8 x0)]=some [.int .u8 x0,.slice none 0 0]:=by kernel_rfl
theorem Fx.bld85_0 (x0:ByteArray):bX Tryz.prog 85 [(0,.string x0)]=some [.string x0,.slice none 0 0,.slice none 0 0,.slice none 0 0]:=by kernel_rfl
theorem Fx.bsl143_1 (x00 x01 x02:Value):fG Tryz.prog 143 1 [(0,.agg [x00,x01,x02].toArray)]=some (148,[x00,x01,x02]):=by kernel_rfl
theorem Fx.bsl144_1 (x0p:Option Addr) (x0n x0c:Nat):fG Tryz.prog 144 1 [(0,.slice x0p x0n x0c)]=some (152,[.slice x0p x0n x0c]):=by kernel_rfl
theorem Fx.bsl165_1 (x00 x01:Value):fG Tryz.prog 165 1 [(0,.agg [x00,x01].toArray)]=some (174,[x00,x01]):=by kernel_rfl
theorem Fx.bsl169_1 (x0p:Option Addr) (x0n x0c:Nat):fG Tryz.prog 169 1 [(0,.slice x0p x0n x0c)]=some (129,[.slice x0p x0n x0c]):=by kernel_rfl
theorem Fx.bsl41_1 (x00 x01 x02 x03:Value):fG Tryz.prog 41 1 [(0,.agg [x00,x01,x02,x03].toArray)]=some (167,[x00,x01,x02,x03]):=by kernel_rfl
theorem Fx.bsl81_1 (x00 x01:Value):fG Tryz.prog 81 1 [(0,.agg [x00,x01].toArray)]=some (141,[x00,x01]):=by kernel_rfl
theorem Fx.bsl82_1 (x00 x01 x02:Value):fG Tryz.prog 82 1 [(0,.agg [x00,x01,x02].toArray)]=some (142,[x00,x01,x02]):=by kernel_rfl
theorem Fx.bsl83_1 (x00 x01 x02:Value):fG Tryz.prog 83 1 [(0,.agg [x00,x01,x02].toArray)]=some (146,[x00,x01,x02]):=by kernel_rfl
theorem Fx.agg156:dG Tryz.prog 156=some none:=by kernel_rfl
theorem Fx.call60:aK Tryz.prog 60=Bool.true:=by kernel_rfl
theorem Fx.field205_0:aO Tryz.prog 205 0=some 0:=by kernel_rfl
theorem Fx.field205_1:aO Tryz.prog 205 1=some 1:=by kernel_rfl
theorem Fx.field205_2:aO Tryz.prog 205 2=some 2:=by kernel_rfl
theorem Fx.field205_3:aO Tryz.prog 205 3=some 3:=by kernel_rfl
theorem Fx.field205_4:aO Tryz.prog 205 4=some 4:=by kernel_rfl
theorem Fx.field205_5:aO Tryz.prog 205 5=some 5:=by kernel_rfl
theorem Fx.int206:xI Tryz.prog 206=some Go.IntKind.u8:=by kernel_rfl
theorem Fx.row159:hU Tryz.prog 159=some (208,6,112):=by kernel_rfl
theorem Fx.sl156:slN Tryz.prog 156=some 6:=by kernel_rfl
theorem Fx.bld208_0_1_2_4_5 (x0:Int) (x1:ByteArray) (x2:ByteArray) (x4p:Option Addr) (x4n x4c:Nat) (x5p:Option Addr) (x5n x5c:Nat):bX Tryz.prog 208 [(0,.int .u8 x0),(1,.string x1),(2,.string x2),(4,.slice x4p x4n x4c),(5,.slice x5p x5n x5c)]=some [.int .u8 x0,.string x1,.string x2,.slice none 0 0,.slice x4p x4n x4c,.slice x5p x5n x5c]:=by kernel_rfl
theorem Fx.bsl159_1 (x00 x01 x02 x03 x04 x05:Value):fG Tryz.prog 159 1 [(0,.agg [x00,x01,x02,x03,x04,x05].toArray)]=some (208,[x00,x01,x02,x03,x04,x05]):=by kernel_rfl
theorem Fx.agg141:dG Tryz.prog 141=some (some 2):=by kernel_rfl
theorem Fx.agg142:dG Tryz.prog 142=some (some 3):=by kernel_rfl
theorem Fx.agg148:dG Tryz.prog 148=some (some 3):=by kernel_rfl
theorem Fx.agg152:dG Tryz.prog 152=some none:=by kernel_rfl
theorem Fx.agg158:dG Tryz.prog 158=some (some 3):=by kernel_rfl
theorem Fx.field85_0:aO Tryz.prog 85 0=some 0:=by kernel_rfl
theorem Fx.field141_0:aO Tryz.prog 141 0=some 0:=by kernel_rfl
theorem Fx.field141_1:aO Tryz.prog 141 1=some 1:=by kernel_rfl
theorem Fx.field142_0:aO Tryz.prog 142 0=some 0:=by kernel_rfl
theorem Fx.field142_1:aO Tryz.prog 142 1=some 1:=by kernel_rfl
theorem Fx.field142_2:aO Tryz.prog 142 2=some 2:=by kernel_rfl
theorem Fx.field146_0:aO Tryz.prog 146 0=some 0:=by kernel_rfl
theorem Fx.field148_0:aO Tryz.prog 148 0=some 0:=by kernel_rfl
theorem Fx.field148_1:aO Tryz.prog 148 1=some 1:=by kernel_rfl
theorem Fx.field148_2:aO Tryz.prog 148 2=some 2:=by kernel_rfl
theorem Fx.field158_0:aO Tryz.prog 158 0=some 0:=by kernel_rfl
theorem Fx.field158_1:aO Tryz.prog 158 1=some 1:=by kernel_rfl
theorem Fx.field158_2:aO Tryz.prog 158 2=some 2:=by kernel_rfl
theorem Fx.int149:xI Tryz.prog 149=some Go.IntKind.u8:=by kernel_rfl
theorem Fx.row45:hU Tryz.prog 45=some (102,2,24):=by kernel_rfl
theorem Fx.row46:hU Tryz.prog 46=some (105,3,40):=by kernel_rfl
theorem Fx.row47:hU Tryz.prog 47=some (110,3,64):=by kernel_rfl
theorem Fx.row107:hU Tryz.prog 107=some (151,3,32):=by kernel_rfl
theorem Fx.row108:hU Tryz.prog 108=some (155,1,24):=by kernel_rfl
theorem Fx.row153:hU Tryz.prog 153=some (162,3,64):=by kernel_rfl
theorem Fx.size45:bT Tryz.prog 45=some 1:=by kernel_rfl
theorem Fx.size46:bT Tryz.prog 46=some 1:=by kernel_rfl
theorem Fx.size47:bT Tryz.prog 47=some 1:=by kernel_rfl
theorem Fx.size49:bT Tryz.prog 49=some 4:=by kernel_rfl
theorem Fx.size107:bT Tryz.prog 107=some 1:=by kernel_rfl
theorem Fx.size108:bT Tryz.prog 108=some 1:=by kernel_rfl
theorem Fx.size141:bT Tryz.prog 141=some 2:=by kernel_rfl
theorem Fx.size142:bT Tryz.prog 142=some 3:=by kernel_rfl
theorem Fx.size148:bT Tryz.prog 148=some 3:=by kernel_rfl
theorem Fx.size153:bT Tryz.prog 153=some 1:=by kernel_rfl
theorem Fx.size158:bT Tryz.prog 158=some 3:=by kernel_rfl
theorem Fx.sl82:slN Tryz.prog 82=some 3:=by kernel_rfl
theorem Fx.sl83:slN Tryz.prog 83=some 3:=by kernel_rfl
theorem Fx.sl143:slN Tryz.prog 143=some 3:=by kernel_rfl
theorem Fx.sl144:slN Tryz.prog 144=some 1:=by kernel_rfl
theorem Fx.sl152:slN Tryz.prog 152=some 3:=by kernel_rfl
theorem Fx.zero49:dY Tryz.prog 49=some
 [Go.Value.string { data:={ toList:=[] } },Go.Value.slice none 0 0,Go.Value.slice none 0 0,
  Go.Value.slice none 0 0]:=by kernel_rfl
theorem Fx.zero141:dY Tryz.prog 141=some [Go.Value.string { data:={ toList:=[] } },Go.Value.bool false]:=by kernel_rfl
theorem Fx.zero142:dY Tryz.prog 142=some
 [Go.Value.string { data:={ toList:=[] } },Go.Value.string { data:={ toList:=[] } },
  Go.Value.int Go.IntKind.i64 (Int.ofNat 0)]:=by kernel_rfl
theorem Fx.zero148:dY Tryz.prog 148=some
 [Go.Value.string { data:={ toList:=[] } },Go.Value.int Go.IntKind.i64 (Int.ofNat 0),
  Go.Value.int Go.IntKind.i64 (Int.ofNat 0)]:=by kernel_rfl
theorem Fx.zero158:dY Tryz.prog 158=some
 [Go.Value.string { data:={ toList:=[] } },Go.Value.slice none 0 0,Go.Value.slice none 0 0]:=by kernel_rfl
theorem Fx.bld102_0_1 (x0:ByteArray) (x1:Bool):bX Tryz.prog 102 [(0,.string x0),(1,.bool x1)]=some [.string x0,.bool x1]:=by kernel_rfl
theorem Fx.bld105_0_1_2 (x0:ByteArray) (x1:ByteArray) (x2:Int):bX Tryz.prog 105 [(0,.string x0),(1,.string x1),(2,.int .i64 x2)]=some [.string x0,.string x1,.int .i64 x2]:=by kernel_rfl
theorem Fx.bld110_0 (x0:ByteArray):bX Tryz.prog 110 [(0,.string x0)]=some [.string x0,.slice none 0 0,.slice none 0 0]:=by kernel_rfl
theorem Fx.bld151_0_1_2 (x0:ByteArray) (x1:Int) (x2:Int):bX Tryz.prog 151 [(0,.string x0),(1,.int .u8 x1),(2,.int .i64 x2)]=some [.string x0,.int .u8 x1,.int .i64 x2]:=by kernel_rfl
theorem Fx.bld162_0_1_2 (x0:ByteArray) (x1p:Option Addr) (x1n x1c:Nat) (x2p:Option Addr) (x2n x2c:Nat):bX Tryz.prog 162 [(0,.string x0),(1,.slice x1p x1n x1c),(2,.slice x2p x2n x2c)]=some [.string x0,.slice x1p x1n x1c,.slice x2p x2n x2c]:=by kernel_rfl
theorem Fx.bld49_0 (x0:ByteArray):bX Tryz.prog 49 [(0,.string x0)]=some [.string x0,.slice none 0 0,.slice none 0 0,.slice none 0 0]:=by kernel_rfl
theorem Fx.bsl107_1 (x00 x01 x02:Value):fG Tryz.prog 107 1 [(0,.agg [x00,x01,x02].toArray)]=some (151,[x00,x01,x02]):=by kernel_rfl
theorem Fx.bsl108_1 (x00:Value):fG Tryz.prog 108 1 [(0,.agg [x00].toArray)]=some (155,[x00]):=by kernel_rfl
theorem Fx.bsl153_1 (x00 x01 x02:Value):fG Tryz.prog 153 1 [(0,.agg [x00,x01,x02].toArray)]=some (162,[x00,x01,x02]):=by kernel_rfl
theorem Fx.bsl45_1 (x00 x01:Value):fG Tryz.prog 45 1 [(0,.agg [x00,x01].toArray)]=some (102,[x00,x01]):=by kernel_rfl
theorem Fx.bsl46_1 (x00 x01 x02:Value):fG Tryz.prog 46 1 [(0,.agg [x00,x01,x02].toArray)]=some (105,[x00,x01,x02]):=by kernel_rfl
theorem Fx.bsl47_1 (x00 x01 x02:Value):fG Tryz.prog 47 1 [(0,.agg [x00,x01,x02].toArray)]=some (110,[x00,x01,x02]):=by kernel_rfl
theorem Fx.eqt102:eqT Tryz.prog 102=some [(0,Go.Sx.EK.s),(1,Go.Sx.EK.b)]:=by kernel_rfl
theorem Fx.eqt105:eqT Tryz.prog 105=some [(0,Go.Sx.EK.s),(1,Go.Sx.EK.s),(2,Go.Sx.EK.i)]:=by kernel_rfl
theorem Fx.eqt151:eqT Tryz.prog 151=some [(0,Go.Sx.EK.s),(1,Go.Sx.EK.i),(2,Go.Sx.EK.i)]:=by kernel_rfl
theorem Fx.call123:aK Tryz.prog 123=Bool.true:=by kernel_rfl
theorem Fx.call124:aK Tryz.prog 124=Bool.true:=by kernel_rfl
theorem Fx.call125:aK Tryz.prog 125=Bool.true:=by kernel_rfl
theorem Fx.call39:aK Tryz.prog 39=Bool.true:=by kernel_rfl
theorem Fx.call40:aK Tryz.prog 40=Bool.true:=by kernel_rfl
theorem Fx.call41:aK Tryz.prog 41=Bool.true:=by kernel_rfl
theorem Fx.call42:aK Tryz.prog 42=Bool.true:=by kernel_rfl
theorem Fx.call78:aK Tryz.prog 78=Bool.true:=by kernel_rfl
theorem Fx.call79:aK Tryz.prog 79=Bool.true:=by kernel_rfl
theorem Fx.call80:aK Tryz.prog 80=Bool.true:=by kernel_rfl
theorem Fx.call81:aK Tryz.prog 81=Bool.true:=by kernel_rfl
theorem Fx.call82:aK Tryz.prog 82=Bool.true:=by kernel_rfl
theorem Fx.agg28:dG Tryz.prog 28=some none:=by kernel_rfl
theorem Fx.agg94:dG Tryz.prog 94=some none:=by kernel_rfl
theorem Fx.agg96:dG Tryz.prog 96=some (some 3):=by kernel_rfl
theorem Fx.agg97:dG Tryz.prog 97=some none:=by kernel_rfl
theorem Fx.call50:aK Tryz.prog 50=Bool.true:=by kernel_rfl
theorem Fx.call72:aK Tryz.prog 72=Bool.true:=by kernel_rfl
theorem Fx.call73:aK Tryz.prog 73=Bool.true:=by kernel_rfl
theorem Fx.call91:aK Tryz.prog 91=Bool.true:=by kernel_rfl
theorem Fx.call118:aK Tryz.prog 118=Bool.true:=by kernel_rfl
theorem Fx.field96_0:aO Tryz.prog 96 0=some 0:=by kernel_rfl
theorem Fx.field96_1:aO Tryz.prog 96 1=some 1:=by kernel_rfl
theorem Fx.field99_0:aO Tryz.prog 99 0=some 0:=by kernel_rfl
theorem Fx.field99_1:aO Tryz.prog 99 1=some 1:=by kernel_rfl
theorem Fx.field99_2:aO Tryz.prog 99 2=some 2:=by kernel_rfl
theorem Fx.field99_4:aO Tryz.prog 99 4=some 7:=by kernel_rfl
theorem Fx.field99_5:aO Tryz.prog 99 5=some 8:=by kernel_rfl
theorem Fx.size28:bT Tryz.prog 28=some 1:=by kernel_rfl
theorem Fx.size96:bT Tryz.prog 96=some 3:=by kernel_rfl
theorem Fx.sl97:slN Tryz.prog 97=some 3:=by kernel_rfl
theorem Fx.zero96:dY Tryz.prog 96=some
 [Go.Value.int Go.IntKind.u8 (Int.ofNat 0),Go.Value.string { data:={ toList:=[] } },
  Go.Value.int Go.IntKind.i64 (Int.ofNat 0)]:=by kernel_rfl
theorem Fx.bld96_2 (x2:Int):bX Tryz.prog 96 [(2,.int .i64 x2)]=some [.int .u8 0,.string ⟨#[]⟩,.int .i64 x2]:=by kernel_rfl
def bW (ts:List Tk) (q:Sg):Nat:=ts.length - q.r.length
theorem GY {q:Sg} {ts:List Tk} (h:q.r<:+ts):q.r.length≤ts.length:=h.length_le
theorem CQ {q:Sg} {ts:List Tk} (h:q.r<:+ts) (hi:¬ bW ts q<ts.length):q.r=[]:=by
 have:=GY h;unfold bW at hi;exact List.eq_nil_of_length_eq_zero (by omega)
theorem HB {q:Sg} {ts:List Tk} {n:Nat} (h:q.r<:+ts) (hi:bW ts q<ts.length):ts[bW ts q]=tkH n q.r∧q.r≠[]:=by
 obtain ⟨p,e⟩:=h;have hp:bW ts q=p.length:=by unfold bW;rw [← e,List.length_append];omega
 cases hr:q.r with
 | nil=>rw [hr,List.append_nil] at e;rw [hp,e] at hi;omega
 | cons t l =>
  refine ⟨?_,by simp⟩;have e2:ts[bW ts q]? = some t:=by rw [hp,← e,hr];simp
  rw [List.getElem?_eq_getElem hi] at e2;exact Option.some.inj e2
theorem zW {q:Sg} {ts:List Tk} (h:q.r<:+ts) (hr:q.r≠[]):bW ts q.tl=bW ts q+1∧bW ts q<ts.length:=by
 have h1:=GY h;cases hl:q.r with
 | nil=>exact absurd hl hr
 | cons t l =>
  rw [hl,List.length_cons] at h1;unfold bW Sg.tl;simp only [hl,List.tail_cons,List.length_cons];omega
structure Tkm (H:Hp) (ts:List Tk) (tp:Option Addr) (tc:Nat):Prop where
 rep:Rep H (.seq 3 (ts.map (dTk .u8))) [.slice tp ts.length tc]
 good:∀ t∈ts,Tkg t
 num:∀ t∈ts,t.k=3→pre dX t.t=t.t.length
 short:∀ t∈ts,t.t.length≤1000000
theorem Tkm.up {H H':Hp} {ts:List Tk} {tp:Option Addr} {tc:Nat} (h:Tkm H ts tp tc) (u:Up H H'):Tkm H' ts tp tc:=⟨h.rep.up u,h.good,h.num,h.short⟩
theorem GW {q:Sg} {ts:List Tk} {n:Nat} (h:q.r<:+ts):q.r=[]∨tkH n q.r∈ts:=by
 cases hr:q.r with
 | nil=>exact .inl rfl
 | cons t l=>exact .inr (h.subset (by rw [hr];exact List.mem_cons_self ..))
theorem Tkm.tk {H:Hp} {q:Sg} {ts:List Tk} {tp:Option Addr} {tc n:Nat} (K:Tkm H ts tp tc) (h:q.r<:+ts):(tkH n q.r).t.length≤1000000:=by
 rcases GW (n:=n) h with e | e
 ·rw [e];show (0:Nat)≤_;omega
 ·exact K.short _ e
theorem SN (a b c:Value):∀ W,(Instr.field 96 (.agg [a,b,c].toArray) 0).run Tryz.prog W=.ok a W:=fun _=>by kernel_rfl
theorem SM (a b c:Value):∀ W,(Instr.field 96 (.agg [a,b,c].toArray) 1).run Tryz.prog W=.ok b W:=fun _=>by kernel_rfl
theorem SL (a b c:Value):∀ W,(Instr.field 96 (.agg [a,b,c].toArray) 2).run Tryz.prog W=.ok c W:=fun _=>by kernel_rfl
theorem nS {H:Hp} {w0 W:World} {bs:List Res} {b n:Nat} {ts:List Tk} {tp:Option Addr} {tc:Nat} {t0 t1 t2 t3:Value} {q:Sg} (K:Tkm H ts tp tc) (hq:q.r<:+ts) (s:St H w0 (.box b [.slice tp ts.length tc,.int .i64 (bW ts q:Nat),.int .i64 (n:Nat),t0,t1,t2,t3,.int .i64 (q.o:Nat),.int .i64 (q.e:Nat)] 99::bs) W) :
 Calls Tryz.prog 91 #[.pointer (some ⟨b,0,none⟩)] W fun e W'=>∃ _:Unit,(True)∧e=.returned (.agg (cTk .u8 (tkH n q.r)).toArray)∧St H w0 (.box b [.slice tp ts.length tc,.int .i64 (bW ts q:Nat),.int .i64 (n:Nat),t0,t1,t2,t3,.int .i64 (q.o:Nat),.int .i64 (q.e:Nat)] 99::bs) W':=by
 have hcap:=K.rep.cap;refine Sx.enterS Tryz.func91 rfl Tryz.ntmps91 rfl s ?_;refine .sr<|.al Fx.zero96 Z fun b2=>.nt<|.sq<|.sq<|.fL 9 [(0,0),(1,0),(2,0),(3,0),(4,0),(5,0),(6,0),(7,0),(8,0)]<|.mv Z<|.yw (.nilCheck Z)<|.yw (.fieldAddr Z Fx.field99_1)<|.yw (.load Z Fx.agg3 aQ Z)<|.mv Z<|.yw (.nilCheck Z)<|.yw (.fieldAddr Z Fx.field99_0)<|.yw (.load Z Fx.agg97 aQ Z)<|.yw (.lenSl Fx.sl97 Z)<|.fn (tl:=[_]) Z<|.yw (.lss Z Z)<|.nt<|.cd Z (fun h12=>?_) (fun h12=>?_)
 ·try simp only [dt] at h12
  have hi:bW ts q<ts.length:=by omega
  obtain ⟨et,_⟩:=HB (n:=n) hq hi;obtain ⟨bE,oE,cE,hpE,rE,lE,mE⟩:=K.rep.elem (aR (f:=dTk .u8) hi);cases hpE;rw [et] at rE;obtain ⟨rfl,_⟩:=GV rE;refine .sq<|.fL 10 [(0,0),(1,0),(2,0),(3,0),(4,0),(5,0),(6,0),(7,0),(8,0),(9,0)]<|.mv Z<|.yw (.nilCheck Z)<|.yw (.fieldAddr Z Fx.field99_0)<|.yw (.load Z Fx.agg97 aQ Z)<|.mv Z<|.yw (.nilCheck Z)<|.yw (.fieldAddr Z Fx.field99_1)<|.yw (.load Z Fx.agg3 aQ Z)<|.yw (.indexSl Fx.sl97 Z Z Z (by omega) (q:=oE+bW ts q * 3) Z)<|.yw (.loadMW Z Fx.agg96 mE Z)<|.fn (tl:=[_]) Z<|.sW .head Z Z Fx.size96 (by simp [cTk,Value.oneCell',aD]) Z<|.nt<|.rt<|.tR<|?_
  refine Sx.ret1 (.inl rfl) rfl (.cell rfl Fx.agg96 (.head _) rfl) fun W s=>?_
  first
   | (exact ⟨(),trivial,rfl,s.p2_1 [1] rfl⟩)
   | (exact ⟨(),trivial,(by rw [hr];rfl),s.p2_1 [1] rfl⟩)
 try simp only [df] at h12
 have hr:=CQ hq (by omega);refine .sk<|.tN<|.sr<|.mv Z<|.yw (.nilCheck Z)<|.yw (.fieldAddr Z Fx.field99_2)<|.yw (.load Z Fx.agg3 aQ Z)<|.yw (.build Z (Fx.bld96_2 _))<|.sW .head Z Z Fx.size96 (by simp [cTk,Value.oneCell',aD]) Z<|.nt<|.rt<|?_
 refine Sx.ret1 (.inl rfl) rfl (.cell rfl Fx.agg96 (.head _) rfl) fun W s=>?_
 first
  | (exact ⟨(),trivial,rfl,s.p2_1 [1] rfl⟩)
  | (exact ⟨(),trivial,(by rw [hr];rfl),s.p2_1 [1] rfl⟩)
theorem rS {H:Hp} {w0 W:World} {bs:List Res} {b n:Nat} {ts:List Tk} {tp:Option Addr} {tc:Nat} {t0 t1 t2 t3:Value} {q:Sg} (K:Tkm H ts tp tc) (hq:q.r<:+ts) (c:Nat) (s:St H w0 (.box b [.slice tp ts.length tc,.int .i64 (bW ts q:Nat),.int .i64 (n:Nat),t0,t1,t2,t3,.int .i64 (q.o:Nat),.int .i64 (q.e:Nat)] 99::bs) W) :
 Calls Tryz.prog 50 #[.pointer (some ⟨b,0,none⟩),.int .i64 (c:Nat)] W fun e W'=>∃ _:Unit,(True)∧e=.returned (.tuple #[])∧St H w0 (.box b [.slice tp ts.length tc,.int .i64 (bW ts (q.fail n c):Nat),.int .i64 (n:Nat),t0,t1,t2,t3,.int .i64 ((q.fail n c).o:Nat),.int .i64 ((q.fail n c).e:Nat)] 99::bs) W':=by
 refine Sx.enterS Tryz.func50 rfl Tryz.ntmps50 rfl s ?_;refine .sr<|.mv Z<|.yw (.nilCheck Z)<|.yw (.fieldAddr Z Fx.field99_5)<|.yw (.load Z Fx.agg28 (.head _) Z)<|.yw (.eql Z Z)<|.nt<|.cd Z (fun h8=>?_) (fun h8=>?_)
 ·try simp only [dt] at h8
  have h0:q.e=0:=by omega
  have e1:q.fail n c=⟨q.r,c,(tkH n q.r).o⟩:=by unfold Sg.fail;rw [if_pos h0,WU]
  rw [e1];refine .rg<|.mv Z<|.mv Z<|.mv Z<|.cs (X:=Unit) Fx.call91 Z (fun W s=>nS K hq  (s.p1_1 [0] Z)) Z fun _ _=>.yw (.fld Z (SL _ _ _))<|.mv Z<|.yw (.nilCheck Z)<|.yw (.fieldAddr Z Fx.field99_4)<|.st .head Z Z Fx.size3 Z (nb Z) Z<|.yw (.nilCheck Z)<|.yw (.fieldAddr Z Fx.field99_5)<|.st .head Z Z Fx.size28 Z (nb Z) Z<|.nl<|?_
  refine Sx.retN (.inr rfl) rfl .nil rfl fun W s=>⟨(),trivial,rfl,?_⟩;exact s.p1_1 [0] rfl
 try simp only [df] at h8
 have h0:¬ q.e=0:=by omega
 have e1:q.fail n c=q:=by unfold Sg.fail;rw [if_neg h0]
 rw [e1];refine .sk<|?_
 refine Sx.retN (.inr rfl) rfl .nil rfl fun W s=>⟨(),trivial,rfl,?_⟩;exact s.p1_1 [0] rfl
theorem UB {H:Hp} {w0 W:World} {bs:List Res} {b n:Nat} {ts:List Tk} {tp:Option Addr} {tc:Nat} {t0 t1 t2 t3:Value} {q:Sg} (K:Tkm H ts tp tc) (hq:q.r<:+ts) (w:Str) (s:St H w0 (.box b [.slice tp ts.length tc,.int .i64 (bW ts q:Nat),.int .i64 (n:Nat),t0,t1,t2,t3,.int .i64 (q.o:Nat),.int .i64 (q.e:Nat)] 99::bs) W) :
 Calls Tryz.prog 118 #[.pointer (some ⟨b,0,none⟩),aD w] W fun e W'=>∃ _:Unit,(True)∧e=.returned (.bool (tcB n w q))∧St H w0 (.box b [.slice tp ts.length tc,.int .i64 (bW ts q:Nat),.int .i64 (n:Nat),t0,t1,t2,t3,.int .i64 (q.o:Nat),.int .i64 (q.e:Nat)] 99::bs) W':=by
 refine Sx.enterS Tryz.func118 rfl Tryz.ntmps118 rfl s ?_;refine .sr<|.a Z Z<|.ns<|.mv Z<|.yw (.nilCheck Z)<|.yw (.fieldAddr Z Fx.field99_5)<|.yw (.load Z Fx.agg28 (.head _) Z)<|.yw (.eql Z Z)<|.mv Z<|.b2 (fun h10=>?_) (fun h10=>?_)
 ·skip
  refine .gd Z Z<|.yw (.move Z)<|.gd Z Z<|.cs (X:=Unit) Fx.call91 Z (fun W s=>nS K hq  (s.p1_1 [0] Z)) Z fun _ _=>.gd Z Z<|.yw (.fld Z (SM _ _ _))<|.gd Z Z<|.yw (.move Z)<|.gd Z Z<|.yw (.eqS Z Z)<|.yw (.pickT Z Z)<|.a Z Z<|.nt<|.rt<|?_
  refine Sx.ret1 (.inl rfl) rfl (.tmp rfl) fun W s=>?_
  first
   | (exact ⟨(),trivial,(by unfold tcB;rw [decide_eq_true (show q.e=0 by have:=of_decide_eq_true h10;omega),Bool.true_and]),s.p1_1 [0] rfl⟩)
   | (exact ⟨(),trivial,(by unfold tcB;rw [decide_eq_false (show ¬ q.e=0 by have:=of_decide_eq_false h10;omega),Bool.false_and]),s.p1_1 [0] rfl⟩)
 skip
 refine .gG<|.gG<|.gG<|.gG<|.gG<|.yw (.pickF Z Z)<|.a Z Z<|.nt<|.rt<|?_
 refine Sx.ret1 (.inl rfl) rfl (.tmp rfl) fun W s=>?_
 first
  | (exact ⟨(),trivial,(by unfold tcB;rw [decide_eq_true (show q.e=0 by have:=of_decide_eq_true h10;omega),Bool.true_and]),s.p1_1 [0] rfl⟩)
  | (exact ⟨(),trivial,(by unfold tcB;rw [decide_eq_false (show ¬ q.e=0 by have:=of_decide_eq_false h10;omega),Bool.false_and]),s.p1_1 [0] rfl⟩)
def tcS (n:Nat) (w:Str) (q:Sg):Sg:=if tcB n w q then q.tl else q
theorem UO {n:Nat} {w:Str} {q:Sg} (hw:w≠[]) (h:tcB n w q=true):q.r≠[]:=by
 intro e;unfold tcB at h;rw [Bool.and_eq_true,decide_eq_true_eq,decide_eq_true_eq,e] at h;exact hw h.2.symm
theorem zH {H:Hp} {w0 W:World} {bs:List Res} {b n:Nat} {ts:List Tk} {tp:Option Addr} {tc:Nat} {t0 t1 t2 t3:Value} {q:Sg} (K:Tkm H ts tp tc) (hq:q.r<:+ts) (w:Str) (hw:w≠[]) (s:St H w0 (.box b [.slice tp ts.length tc,.int .i64 (bW ts q:Nat),.int .i64 (n:Nat),t0,t1,t2,t3,.int .i64 (q.o:Nat),.int .i64 (q.e:Nat)] 99::bs) W) :
 Calls Tryz.prog 72 #[.pointer (some ⟨b,0,none⟩),aD w] W fun e W'=>∃ _:Unit,(True)∧e=.returned (.bool (tcB n w q))∧St H w0 (.box b [.slice tp ts.length tc,.int .i64 (bW ts (tcS n w q):Nat),.int .i64 (n:Nat),t0,t1,t2,t3,.int .i64 ((tcS n w q).o:Nat),.int .i64 ((tcS n w q).e:Nat)] 99::bs) W':=by
 have hcap:=K.rep.cap;refine Sx.enterS Tryz.func72 rfl Tryz.ntmps72 rfl s ?_;refine .sr<|.a Z Z<|.nt<|.sq<|.sr<|.mv Z<|.mv Z<|.cs (X:=Unit) Fx.call118 Z (fun W s=>UB K hq w (s.p1_1 [0] Z)) Z fun _ _=>.yw (.not Z)<|.nt<|.cd Z (fun h8=>?_) (fun h8=>?_)
 ·have e1:tcS n w q=q:=by unfold tcS;rw [if_neg (by simpa using h8)]
  rw [e1];have hb:tcB n w q=false:=by simpa using h8
  refine .sr<|.a Z Z<|.nt<|.rt<|.tR<|?_
  refine Sx.ret1 (.inl rfl) rfl (.tmp rfl) fun W s=>?_;exact ⟨(),trivial,(by rw [hb]),s.p1_1 [0] rfl⟩
 have hb:tcB n w q=true:=by simpa using h8
 have e1:tcS n w q=q.tl:=by unfold tcS;rw [if_pos hb]
 rw [e1];obtain ⟨hp,hi⟩:=zW hq (UO hw hb);refine .sk<|.tN<|.sr<|.mv Z<|.yw (.nilCheck Z)<|.yw (.fieldAddr Z Fx.field99_1)<|.yw (.load Z Fx.agg3 (.head _) Z)<|.yw (.add Z Z (c:=((bW ts q.tl:Nat):Int)) ((w6 (by omega)).trans (by omega)))<|.yw (.nilCheck Z)<|.yw (.fieldAddr Z Fx.field99_1)<|.st .head Z Z Fx.size3 Z (nb Z) Z<|.ns<|.a Z Z<|.nt<|.rt<|?_
 refine Sx.ret1 (.inl rfl) rfl (.tmp rfl) fun W s=>?_;exact ⟨(),trivial,(by rw [hb]),s.p1_1 [0] rfl⟩
theorem LR {w:Str} (hw:w∈words∨w∈symbols):w≠[]:=TQ w (List.mem_append.2 hw)
theorem bU {H:Hp} {w0 W:World} {bs:List Res} {b n:Nat} {ts:List Tk} {tp:Option Addr} {tc:Nat} {t0 t1 t2 t3:Value} {q:Sg} (K:Tkm H ts tp tc) (hq:q.r<:+ts) (w:Str) (hw:w∈words∨w∈symbols) (s:St H w0 (.box b [.slice tp ts.length tc,.int .i64 (bW ts q:Nat),.int .i64 (n:Nat),t0,t1,t2,t3,.int .i64 (q.o:Nat),.int .i64 (q.e:Nat)] 99::bs) W) :
 Calls Tryz.prog 72 #[.pointer (some ⟨b,0,none⟩),aD w] W fun e W'=>∃ _:Unit,(True)∧e=.returned (.bool (ac w q))∧St H w0 (.box b [.slice tp ts.length tc,.int .i64 (bW ts (acS w q):Nat),.int .i64 (n:Nat),t0,t1,t2,t3,.int .i64 ((acS w q).o:Nat),.int .i64 ((acS w q).e:Nat)] 99::bs) W':=by
 have h:=zH K hq w (LR hw) s;unfold tcS at h;rw [ER K.good hq hw] at h;exact h
theorem OQ {H:Hp} {w0 W:World} {bs:List Res} {b n:Nat} {ts:List Tk} {tp:Option Addr} {tc:Nat} {t0 t1 t2 t3:Value} {q:Sg} (K:Tkm H ts tp tc) (hq:q.r<:+ts) (w:Str) (hw:w∈words∨w∈symbols) (s:St H w0 (.box b [.slice tp ts.length tc,.int .i64 (bW ts q:Nat),.int .i64 (n:Nat),t0,t1,t2,t3,.int .i64 (q.o:Nat),.int .i64 (q.e:Nat)] 99::bs) W) :
 Calls Tryz.prog 118 #[.pointer (some ⟨b,0,none⟩),aD w] W fun e W'=>∃ _:Unit,(True)∧e=.returned (.bool (ac w q))∧St H w0 (.box b [.slice tp ts.length tc,.int .i64 (bW ts q:Nat),.int .i64 (n:Nat),t0,t1,t2,t3,.int .i64 (q.o:Nat),.int .i64 (q.e:Nat)] 99::bs) W':=by
 have h:=UB K hq w s;rw [ER K.good hq hw] at h;exact h
theorem yT {H:Hp} {w0 W:World} {bs:List Res} {b n:Nat} {ts:List Tk} {tp:Option Addr} {tc:Nat} {t0 t1 t2 t3:Value} {q:Sg} (K:Tkm H ts tp tc) (hq:q.r<:+ts) (w:Str) (hw:w≠[]) (s:St H w0 (.box b [.slice tp ts.length tc,.int .i64 (bW ts q:Nat),.int .i64 (n:Nat),t0,t1,t2,t3,.int .i64 (q.o:Nat),.int .i64 (q.e:Nat)] 99::bs) W) :
 Calls Tryz.prog 73 #[.pointer (some ⟨b,0,none⟩),aD w] W fun e W'=>∃ _:Unit,(True)∧e=.returned (.tuple #[])∧St H w0 (.box b [.slice tp ts.length tc,.int .i64 (bW ts (if tcB n w q then q.tl else q.fail n 8):Nat),.int .i64 (n:Nat),t0,t1,t2,t3,.int .i64 ((if tcB n w q then q.tl else q.fail n 8).o:Nat),.int .i64 ((if tcB n w q then q.tl else q.fail n 8).e:Nat)] 99::bs) W':=by
 refine Sx.enterS Tryz.func73 rfl Tryz.ntmps73 rfl s ?_;refine .sr<|.mv Z<|.mv Z<|.cs (X:=Unit) Fx.call72 Z (fun W s=>zH K hq w hw (s.p1_1 [0] Z)) Z fun _ _=>.yw (.not Z)<|.nt<|.cd Z (fun h7=>?_) (fun h7=>?_)
 ·have e1:tcS n w q=q:=by unfold tcS;rw [if_neg (by simpa using h7)]
  rw [e1,if_neg (show ¬ tcB n w q=true by simpa using h7)];refine .rg<|.mv Z<|.cs (X:=Unit) Fx.call50 Z (fun W s=>rS K hq 8 (s.p1_1 [0] Z)) Z fun _ _=>.nl<|?_
  refine Sx.retN (.inr rfl) rfl .nil rfl fun W s=>⟨(),trivial,rfl,?_⟩;exact s.p1_1 [0] rfl
 have e1:tcS n w q=q.tl:=by unfold tcS;rw [if_pos (by simpa using h7)]
 rw [e1,if_pos (show tcB n w q=true by simpa using h7)];refine .sk<|?_
 refine Sx.retN (.inr rfl) rfl .nil rfl fun W s=>⟨(),trivial,rfl,?_⟩;exact s.p1_1 [0] rfl
theorem aP {H:Hp} {w0 W:World} {bs:List Res} {b n:Nat} {ts:List Tk} {tp:Option Addr} {tc:Nat} {t0 t1 t2 t3:Value} {q:Sg} (K:Tkm H ts tp tc) (hq:q.r<:+ts) (w:Str) (hw:w∈words∨w∈symbols) (s:St H w0 (.box b [.slice tp ts.length tc,.int .i64 (bW ts q:Nat),.int .i64 (n:Nat),t0,t1,t2,t3,.int .i64 (q.o:Nat),.int .i64 (q.e:Nat)] 99::bs) W) :
 Calls Tryz.prog 73 #[.pointer (some ⟨b,0,none⟩),aD w] W fun e W'=>∃ _:Unit,(True)∧e=.returned (.tuple #[])∧St H w0 (.box b [.slice tp ts.length tc,.int .i64 (bW ts (up n (gNd w) q):Nat),.int .i64 (n:Nat),t0,t1,t2,t3,.int .i64 ((up n (gNd w) q).o:Nat),.int .i64 ((up n (gNd w) q).e:Nat)] 99::bs) W':=by
 have h:=yT K hq w (LR hw) s;rw [ER K.good hq hw,← XL] at h;exact h
theorem KZ {H:Hp} {w0 W:World} {bs:List Res} {b n:Nat} {ts:List Tk} {tp:Option Addr} {tc:Nat} {t0 t1 t2 t3:Value} {q:Sg} (K:Tkm H ts tp tc) (hq:q.r<:+ts) (w:Str) (hw:w=[50]∨w=[51]) (s:St H w0 (.box b [.slice tp ts.length tc,.int .i64 (bW ts q:Nat),.int .i64 (n:Nat),t0,t1,t2,t3,.int .i64 (q.o:Nat),.int .i64 (q.e:Nat)] 99::bs) W) :
 Calls Tryz.prog 73 #[.pointer (some ⟨b,0,none⟩),aD w] W fun e W'=>∃ _:Unit,(True)∧e=.returned (.tuple #[])∧St H w0 (.box b [.slice tp ts.length tc,.int .i64 (bW ts (up n (gNn w) q):Nat),.int .i64 (n:Nat),t0,t1,t2,t3,.int .i64 ((up n (gNn w) q).o:Nat),.int .i64 ((up n (gNn w) q).e:Nat)] 99::bs) W':=by
 have h:=yT K hq w (by rcases hw with rfl | rfl <;> simp) s;rw [← XH K.good hq hw] at h;exact h
theorem MH {n:Nat} {r:List Tk} (h:(tkH n r).k≠0):r≠[]:=fun e=>by subst e;exact h rfl
theorem fQ {H:Hp} {w0 W:World} {bs:List Res} {b n:Nat} {ts:List Tk} {tp:Option Addr} {tc:Nat} {t0 t1 t2 t3:Value} {q:Sg} (K:Tkm H ts tp tc) (hq:q.r<:+ts) (s:St H w0 (.box b [.slice tp ts.length tc,.int .i64 (bW ts q:Nat),.int .i64 (n:Nat),t0,t1,t2,t3,.int .i64 (q.o:Nat),.int .i64 (q.e:Nat)] 99::bs) W) :
 Calls Tryz.prog 74 #[.pointer (some ⟨b,0,none⟩)] W fun e W'=>∃ x:Str,(vl gNm q x∧x.length≤1000000)∧e=.returned (aD x)∧St H w0 (.box b [.slice tp ts.length tc,.int .i64 (bW ts (up n gNm q):Nat),.int .i64 (n:Nat),t0,t1,t2,t3,.int .i64 ((up n gNm q).o:Nat),.int .i64 ((up n gNm q).e:Nat)] 99::bs) W':=by
 have hcap:=K.rep.cap;refine Sx.enterS Tryz.func74 rfl Tryz.ntmps74 rfl s ?_;refine .sr<|.a Z Z<|.ns<|.mv Z<|.cs (X:=Unit) Fx.call91 Z (fun W s=>nS K hq  (s.p1_1 [0] Z)) Z fun _ _=>.al Fx.zero96 Z fun b3=>.sW .head Z Z Fx.size96 (by simp [cTk,Value.oneCell',aD]) Z<|.nt<|.sq<|.sr<|.yw (.fieldAddr Z Fx.field96_0)<|.yw (.load Z Fx.agg94 (.head _) Z)<|.yw (.neq Z Z)<|.nt<|.cd Z (fun h8=>?_) (fun h8=>?_)
 ·have hk:¬ (tkH n q.r).k=1:=fun e=>of_decide_eq_true h8 (by rw [e];rfl);have e1:up n gNm q=q.fail n 8:=by rw [TZ,if_neg (fun h=>hk h.2)]
  have e2:(if q.e=0∧(tkH n q.r).k=1 then (tkH n q.r).t else [])=[]:=if_neg (fun h=>hk h.2);rw [e1]
  have e3:(q.fail n 8).e≠0:=by
   unfold Sg.fail
   split
   ·exact Nat.succ_ne_zero 7
   ·assumption
  refine .rg<|.mv Z<|.cs (X:=Unit) Fx.call50 Z (fun W s=>rS K hq 8 (s.p2_2 [1,0] Z)) Z fun _ _=>.nt<|.sq<|.sr<|.mv Z<|.yw (.nilCheck Z)<|.yw (.fieldAddr Z Fx.field99_5)<|.yw (.load Z Fx.agg28 (.head _) Z)<|.yw (.neq Z Z)<|.nt<|.cd Z (fun h15=>?_) (fun h15=>?_)
  ·skip
   refine .sr<|.a Z Z<|.nt<|.rt<|.tR<|?_
   refine Sx.ret1 (.inl rfl) rfl (.tmp rfl) fun W s=>?_;exact ⟨[],⟨by have:=NT (n:=n) (s:=q);rw [e2] at this;exact this,Nat.zero_le _⟩,rfl,s.p2_1 [0] rfl⟩
  exact absurd (show (q.fail n 8).e=0 by have:=Classical.not_not.1 (of_decide_eq_false h15);omega) e3
 have hk:(tkH n q.r).k=1:=UInt8.toNat_inj.1 (by have:=Classical.not_not.1 (of_decide_eq_false h8);exact Int.ofNat.inj this);refine .sk<|.tN<|.sq<|.sr<|.mv Z<|.yw (.nilCheck Z)<|.yw (.fieldAddr Z Fx.field99_5)<|.yw (.load Z Fx.agg28 aQ Z)<|.yw (.neq Z Z)<|.nt<|.cd Z (fun h15=>?_) (fun h15=>?_)
 ·try simp only [dt] at h15
  have h0:¬ q.e=0:=by omega
  have e1:up n gNm q=q:=kF h0;have e2:(if q.e=0∧(tkH n q.r).k=1 then (tkH n q.r).t else [])=[]:=if_neg (fun h=>h0 h.1);rw [e1];refine .sr<|.a Z Z<|.nt<|.rt<|.tR<|?_
  refine Sx.ret1 (.inl rfl) rfl (.tmp rfl) fun W s=>?_;exact ⟨[],⟨by have:=NT (n:=n) (s:=q);rw [e2] at this;exact this,Nat.zero_le _⟩,rfl,s.p2_1 [1] rfl⟩
 try simp only [df] at h15
 have h0:q.e=0:=by omega
 have e1:up n gNm q=q.tl:=by rw [TZ,if_pos ⟨h0,hk⟩]
 have e2:(if q.e=0∧(tkH n q.r).k=1 then (tkH n q.r).t else [])=(tkH n q.r).t:=if_pos ⟨h0,hk⟩;rw [e1];obtain ⟨hp,hi⟩:=zW hq (MH (n:=n) (by rw [hk];decide));refine .sk<|.tN<|.sr<|.mv Z<|.yw (.nilCheck Z)<|.yw (.fieldAddr Z Fx.field99_1)<|.yw (.load Z Fx.agg3 aQ Z)<|.yw (.add Z Z (c:=((bW ts q.tl:Nat):Int)) ((w6 (by omega)).trans (by omega)))<|.yw (.nilCheck Z)<|.yw (.fieldAddr Z Fx.field99_1)<|.st bV Z Z Fx.size3 Z (nb Z) Z<|.ns<|.yw (.fieldAddr Z Fx.field96_1)<|.yw (.load Z Fx.agg9 (.head _) Z)<|.a Z Z<|.nt<|.rt<|?_
 refine Sx.ret1 (.inl rfl) rfl (.tmp rfl) fun W s=>?_;exact ⟨(tkH n q.r).t,⟨by have:=NT (n:=n) (s:=q);rw [e2] at this;exact this,K.tk hq⟩,rfl,s.p2_1 [1] rfl⟩
theorem BU {H:Hp} {w0 W:World} {bs:List Res} {b n:Nat} {ts:List Tk} {tp:Option Addr} {tc:Nat} {t0 t1 t2 t3:Value} {q:Sg} (K:Tkm H ts tp tc) (hq:q.r<:+ts) (s:St H w0 (.box b [.slice tp ts.length tc,.int .i64 (bW ts q:Nat),.int .i64 (n:Nat),t0,t1,t2,t3,.int .i64 (q.o:Nat),.int .i64 (q.e:Nat)] 99::bs) W) :
 Calls Tryz.prog 119 #[.pointer (some ⟨b,0,none⟩)] W fun e W'=>∃ x:Bool,(vl gTr q x)∧e=.returned (.bool x)∧St H w0 (.box b [.slice tp ts.length tc,.int .i64 (bW ts (up n gTr q):Nat),.int .i64 (n:Nat),t0,t1,t2,t3,.int .i64 ((up n gTr q).o:Nat),.int .i64 ((up n gTr q).e:Nat)] 99::bs) W':=by
 refine Sx.enterS Tryz.func119 rfl Tryz.ntmps119 rfl s ?_;refine .sr<|.a Z Z<|.nt<|.sq<|.sr<|.mv Z<|.cs (X:=Unit) Fx.call72 Z (fun W s=>bU K hq [116,114,117,101] (by decide +kernel) (s.p1_1 [0] Z)) Z fun _ _=>.nt<|.cd Z (fun h4=>?_) (fun h4=>?_)
 ·rw [fK h4];refine .sr<|.a Z Z<|.nt<|.rt<|.tR<|?_
  refine Sx.ret1 (.inl rfl) rfl (.tmp rfl) fun W s=>?_;rw [show up n gTr q=q.tl by unfold gTr;rw [cU h4,bJ]];exact ⟨true,(by unfold gTr;exact cJ h4 bC),rfl,s.p1_1 [0] rfl⟩
 rw [fM h4];refine .sk<|.tN<|.sr<|.mv Z<|.cs (X:=Unit) Fx.call73 Z (fun W s=>aP K hq [102,97,108,115,101] (by decide +kernel) (s.p1_1 [0] Z)) Z fun _ _=>.ns<|.a Z Z<|.nt<|.rt<|?_
 refine Sx.ret1 (.inl rfl) rfl (.tmp rfl) fun W s=>?_;rw [show up n gTr q=up n (gNd [102,97,108,115,101]) q by unfold gTr;rw [aM h4,aB (x:=()) (Cz.nd _) aG,bJ]];exact ⟨false,(by unfold gTr;exact aL h4 (aC (n:=n) aG bC)),rfl,s.p1_1 [0] rfl⟩
theorem EE {H:Hp} {w0 W:World} {bs:List Res} {b n:Nat} {ts:List Tk} {tp:Option Addr} {tc:Nat} {t0 t1 t2 t3:Value} {q:Sg} (K:Tkm H ts tp tc) (hq:q.r<:+ts) (s:St H w0 (.box b [.slice tp ts.length tc,.int .i64 (bW ts q:Nat),.int .i64 (n:Nat),t0,t1,t2,t3,.int .i64 (q.o:Nat),.int .i64 (q.e:Nat)] 99::bs) W) :
 Calls Tryz.prog 24 #[.pointer (some ⟨b,0,none⟩)] W fun e W'=>∃ _:Unit,(True)∧e=.returned (.tuple #[.int .i64 ((q.cl n).o:Nat),.int .i64 ((q.cl n).e:Nat)])∧St H w0 (.box b [.slice tp ts.length tc,.int .i64 (bW ts (q.cl n):Nat),.int .i64 (n:Nat),t0,t1,t2,t3,.int .i64 ((q.cl n).o:Nat),.int .i64 ((q.cl n).e:Nat)] 99::bs) W':=by
 have hcap:=K.rep.cap;refine Sx.enterS Tryz.func24 rfl Tryz.ntmps24 rfl s ?_;refine .sr<|.a Z Z<|.a Z Z<|.nt<|.sq<|.sq<|.fL 9 [(0,0),(1,0),(2,0),(3,0),(4,0),(5,0),(6,0),(7,0),(8,0)]<|.mv Z<|.yw (.nilCheck Z)<|.yw (.fieldAddr Z Fx.field99_1)<|.yw (.load Z Fx.agg3 (.head _) Z)<|.mv Z<|.yw (.nilCheck Z)<|.yw (.fieldAddr Z Fx.field99_0)<|.yw (.load Z Fx.agg97 (.head _) Z)<|.yw (.lenSl Fx.sl97 Z)<|.fn (tl:=[_]) Z<|.yw (.lss Z Z)<|.nt<|.cd Z (fun h13=>?_) (fun h13=>?_)
 ·try simp only [dt] at h13
  have hi:bW ts q<ts.length:=by omega
  obtain ⟨_,hr⟩:=HB (n:=n) hq hi;have e1:q.cl n=q.fail n 8:=by unfold Sg.cl;rw [if_neg hr]
  rw [e1];refine .rg<|.mv Z<|.cs (X:=Unit) Fx.call50 Z (fun W s=>rS K hq 8 (s.p1_1 [0] Z)) Z fun _ _=>.nt<|.sq<|.fL 9 [(0,0),(1,0),(2,0),(3,0),(4,0),(5,0),(6,0),(7,0),(8,0)]<|.mv Z<|.yw (.nilCheck Z)<|.yw (.fieldAddr Z Fx.field99_4)<|.yw (.load Z Fx.agg3 (.head _) Z)<|.mv Z<|.yw (.nilCheck Z)<|.yw (.fieldAddr Z Fx.field99_5)<|.yw (.load Z Fx.agg28 (.head _) Z)<|.a Z Z<|.fn (tl:=[_]) Z<|.a Z Z<|.nt<|.rt<|?_
  refine Sx.retN (.inl rfl) rfl (.cons (.tmp rfl) (.cons (.tmp rfl) .nil)) rfl fun W s=>⟨(),trivial,rfl,?_⟩;exact s.p1_1 [0] rfl
 try simp only [df] at h13
 have hr:=CQ hq (by omega);have e1:q.cl n=q:=by unfold Sg.cl;rw [if_pos hr]
 rw [e1];refine .sk<|.tN<|.sq<|.fL 9 [(0,0),(1,0),(2,0),(3,0),(4,0),(5,0),(6,0),(7,0),(8,0)]<|.mv Z<|.yw (.nilCheck Z)<|.yw (.fieldAddr Z Fx.field99_4)<|.yw (.load Z Fx.agg3 (.head _) Z)<|.mv Z<|.yw (.nilCheck Z)<|.yw (.fieldAddr Z Fx.field99_5)<|.yw (.load Z Fx.agg28 (.head _) Z)<|.a Z Z<|.fn (tl:=[_]) Z<|.a Z Z<|.nt<|.rt<|?_
 refine Sx.retN (.inl rfl) rfl (.cons (.tmp rfl) (.cons (.tmp rfl) .nil)) rfl fun W s=>⟨(),trivial,rfl,?_⟩;exact s.p1_1 [0] rfl
end Go.Proofs.YthhoebdlfjffkaaGreatDoor
namespace Go.Proofs.YthhoebdlfjffkaaGreatDoor
open Go.RowKit Go.Par Go.Sx
open Go.RowKit Go.Par Go.Sx
open Go.RowKit Go.Par Go.Sx
end Go.Proofs.YthhoebdlfjffkaaGreatDoor
namespace Go.Proofs.YthhoebdlfjffkaaGreatDoor
open Go.RowKit Go.Par Go.Sx
theorem Fx.agg125:dG Tryz.prog 125=some (some 2):=by kernel_rfl
theorem Fx.call146:aK Tryz.prog 146=Bool.true:=by kernel_rfl
theorem Fx.field125_0:aO Tryz.prog 125 0=some 0:=by kernel_rfl
theorem Fx.field125_1:aO Tryz.prog 125 1=some 1:=by kernel_rfl
theorem Fx.int2:xI Tryz.prog 2=some Go.IntKind.i64:=by kernel_rfl
theorem Fx.size125:bT Tryz.prog 125=some 2:=by kernel_rfl
theorem Fx.sl195:slN Tryz.prog 195=some 2:=by kernel_rfl
theorem Fx.zero125:dY Tryz.prog 125=some [Go.Value.string { data:={ toList:=[] } },Go.Value.int Go.IntKind.u8 (Int.ofNat 0)]:=by kernel_rfl
theorem Fx.call89:aK Tryz.prog 89=Bool.true:=by kernel_rfl
theorem Fx.bld27_0_3 (x0:Int) (x3p:Option Addr) (x3n x3c:Nat):bX Tryz.prog 27 [(0,.int .u8 x0),(3,.slice x3p x3n x3c)]=some [.int .u8 x0,.string ⟨#[]⟩,.int .i64 0,.slice x3p x3n x3c]:=by kernel_rfl
theorem Fx.bsl25_2 (x00 x01 x02 x03:Value) (x10 x11 x12 x13:Value):fG Tryz.prog 25 2 [(0,.agg [x00,x01,x02,x03].toArray),(1,.agg [x10,x11,x12,x13].toArray)]=some (27,[x00,x01,x02,x03,x10,x11,x12,x13]):=by kernel_rfl
theorem Fx.call48:aK Tryz.prog 48=Bool.true:=by kernel_rfl
theorem Fx.call49:aK Tryz.prog 49=Bool.true:=by kernel_rfl
theorem Fx.call90:aK Tryz.prog 90=Bool.true:=by kernel_rfl
theorem Fx.call130:aK Tryz.prog 130=Bool.true:=by kernel_rfl
theorem Fx.call157:aK Tryz.prog 157=Bool.true:=by kernel_rfl
theorem Fx.call172:aK Tryz.prog 172=Bool.true:=by kernel_rfl
theorem Fx.call182:aK Tryz.prog 182=Bool.true:=by kernel_rfl
theorem Fx.bld125_0_1 (x0:ByteArray) (x1:Int):bX Tryz.prog 125 [(0,.string x0),(1,.int .u8 x1)]=some [.string x0,.int .u8 x1]:=by kernel_rfl
theorem Fx.bsl195_1 (x00 x01:Value):fG Tryz.prog 195 1 [(0,.agg [x00,x01].toArray)]=some (125,[x00,x01]):=by kernel_rfl
theorem Fx.bsl195_2 (x00 x01:Value) (x10 x11:Value):fG Tryz.prog 195 2 [(0,.agg [x00,x01].toArray),(1,.agg [x10,x11].toArray)]=some (125,[x00,x01,x10,x11]):=by kernel_rfl
theorem Fx.bsl195_3 (x00 x01:Value) (x10 x11:Value) (x20 x21:Value):fG Tryz.prog 195 3 [(0,.agg [x00,x01].toArray),(1,.agg [x10,x11].toArray),(2,.agg [x20,x21].toArray)]=some (125,[x00,x01,x10,x11,x20,x21]):=by kernel_rfl
theorem Fx.bsl195_6 (x00 x01:Value) (x10 x11:Value) (x20 x21:Value) (x30 x31:Value) (x40 x41:Value) (x50 x51:Value):fG Tryz.prog 195 6 [(0,.agg [x00,x01].toArray),(1,.agg [x10,x11].toArray),(2,.agg [x20,x21].toArray),(3,.agg [x30,x31].toArray),(4,.agg [x40,x41].toArray),(5,.agg [x50,x51].toArray)]=some (125,[x00,x01,x10,x11,x20,x21,x30,x31,x40,x41,x50,x51]):=by kernel_rfl
end Go.Proofs.YthhoebdlfjffkaaGreatDoor
