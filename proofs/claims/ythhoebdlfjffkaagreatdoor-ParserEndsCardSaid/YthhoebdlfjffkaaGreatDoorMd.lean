/- Texts of the proof, one behind the other. -/
import Derived.Test.YthhoebdlfjffkaaGreatDoorMc
import Derived.ProofKit
import Derived.Lib.LaidTab
import Derived.Deep.Slices
import Derived.Deep.Fields
import Derived.OpenShut
import Derived.ChangeKeysEq
import Derived.RangeFuncNested
import Derived.RangeFuncLeaves
import Derived.RangeFuncCalls
import Derived.OwnWalkIn
import Derived.TacticsIn
set_option linter.all false
set_option maxRecDepth 100000
namespace Go.Proofs.YthhoebdlfjffkaaGreatDoor
open Go.RowKit Go.Par Go.Sx
def wfE (D:Nat) (e:Ex):Prop:=e.depth≤D∧Ex.all dO e=true∧Ex.all iO e=true
theorem wfE.mono {D D':Nat} {e:Ex} (h:wfE D e) (k:D≤D'):wfE D' e:=⟨Nat.le_trans h.1 k,h.2⟩
theorem DY {D:Nat} {op:UInt8} {nm:Str} {n:Int64} (h:dO (.mk op nm n [])=true) (h2:iO (.mk op nm n [])=true):wfE (D+1) (.mk op nm n []) :=
 ⟨by rw [fW];simp [Ex.deeps],by rw [eR,h];rfl,by rw [eR,h2];rfl⟩
theorem HO (op:UInt8) (nm:Str) (n:Int64) (l m:List Ex) (h:l.length=m.length):dO (.mk op nm n l)=dO (.mk op nm n m):=by simp only [dO,h]
def e0:Ex:=.mk 4 [] 0 []
theorem PS {D:Nat} {op:UInt8} {nm:Str} {a:Ex} (h:dO (.mk op nm 0 [e0])=true) (h2:iO (.mk op nm 0 [])=true) (ha:wfE D a):wfE (D+1) (.mk op nm 0 [a]):=by
 refine ⟨?_,?_,?_⟩
 ·rw [fW];simp only [Ex.deeps];have:=ha.1;omega
 ·rw [eR,HO op nm 0 [a] [e0] rfl,h];simp [Ex.alls,ha.2.1]
 ·rw [eR,show iO (.mk op nm 0 [a])=iO (.mk op nm 0 []) from rfl,h2];simp [Ex.alls,ha.2.2]
theorem PR {D:Nat} {op:UInt8} {a b:Ex} (h:dO (.mk op [] 0 [e0,e0])=true) (h2:iO (.mk op [] 0 [])=true) (ha:wfE D a) (hb:wfE D b):wfE (D+1) (.mk op [] 0 [a,b]):=by
 refine ⟨?_,?_,?_⟩
 ·rw [fW];simp only [Ex.deeps];have:=ha.1;have:=hb.1;omega
 ·rw [eR,HO op [] 0 [a,b] [e0,e0] rfl,h];simp [Ex.alls,ha.2.1,hb.2.1]
 ·rw [eR,show iO (.mk op [] 0 [a,b])=iO (.mk op [] 0 []) from rfl,h2];simp [Ex.alls,ha.2.2,hb.2.2]
theorem GR:∀ c∈([120,112,102,104]:List UInt8),∀ k∈List.range 3,aS (nmB c k)=true:=by decide +kernel
theorem QW {k:Nat} (h:k<3):aS (nmB 120 k)=true:=GR 120 (by decide) k (List.mem_range.2 h)
theorem WD {k:Nat} (h:k<3):aS (nmB 112 k)=true:=GR 112 (by decide) k (List.mem_range.2 h)
theorem WE {k:Nat} (h:k<3):aS (nmB 102 k)=true:=GR 102 (by decide) k (List.mem_range.2 h)
theorem UO {k:Nat} (h:k<3):aS (nmB 104 k)=true:=GR 104 (by decide) k (List.mem_range.2 h)
theorem zR {k:Nat} (h:k<3):aS [UInt8.ofNat (97+k)]=true:=by
 have:∀ k∈List.range 3,aS [UInt8.ofNat (97+k)]=true:=by decide +kernel
 exact this k (List.mem_range.2 h)
theorem NB:aS [116,48]=true:=by decide +kernel
theorem ND:aS [98,48]=true:=by decide +kernel
structure pM (M:Mk):Prop where
 i0:0<M.ints
 i3:M.ints≤3
 p2:M.params≤2
 f2:M.flags≤2
 a3:M.ars.length≤3
 a0:0<M.ars.length
 ar2:∀ c h,arN M c h≤2
 al:∀ c,c<M.ars.length→0<arL M c∧arL M c≤3
 own:M.own<M.ars.length
theorem XJ (nm:Str):dO (.mk 5 nm 0 [])=true:=by simp [dO,iL,aH,shapes]
theorem XE {nm:Str} (h:aS nm=true):iO (.mk 5 nm 0 [])=true:=by simp [iO,h]
theorem wfV {D:Nat} {nm:Str} (h:aS nm=true):wfE (D+1) (.mk 5 nm 0 []):=DY (XJ nm) (XE h)
theorem GO {M:Mk} (hM:pM M) {d D k:Nat} {rec:Bs→Ex × Bs} (h:∀ b,wfE D (rec b).1) (b:Bs):wfE (D+1) (lO M d rec k b).1:=by
 unfold lO
 split
 ·have h9:=bX b (n:=9) (by omega);refine DY ?_ rfl;simp only [dO,Bool.and_eq_true];refine ⟨by decide,?_⟩;simp only [if_true];rw [decide_eq_true_eq,Int64.toInt_ofNat_of_lt (by omega)];omega
 split
 ·exact wfV (QW (by have:=bX b hM.i0;have:=hM.i3;omega))
 split
 ·rename_i h1 h2;exact wfV (WD (by have:=bX b (n:=M.params) (by omega);have:=hM.p2;omega))
 split
 ·exact DY (by decide) (by decide)
 split
 ·exact PS (by decide +kernel) (by decide +kernel) (h _)
 split
 ·exact DY (by decide +kernel) (by decide +kernel)
 split
 ·exact PS (by decide +kernel) (by decide +kernel) (h _)
 ·have key:∀ i∈List.range 6,dO (.mk (([14,15,11,12,13,14]:List UInt8).getD i 14) [] 0 [e0,e0])=true∧iO (.mk (([14,15,11,12,13,14]:List UInt8).getD i 14) [] 0 [])=true:=by decide +kernel
  obtain ⟨k1,k2⟩:=key _ (List.mem_range.2 (bX b (n:=6) (by omega)));exact PR k1 k2 (h _) (h _)
theorem tM {M:Mk} (hM:pM M):∀ f b,wfE (f+2) (eW M f b).1
 | 0,b=>GO hM (fun _=>DY (by decide) (by decide)) _
 | f+1,b=>GO hM (tM hM f) _
theorem GQ {M:Mk} (hM:pM M):∀ n b,∀ e∈(iX M n b).1,wfE 4 e
 | 0,b,_,h=>by cases h
 | n+1,b,e,he=>by
  rcases List.mem_cons.1 he with rfl | he
  ·exact tM hM 2 b
  ·exact GQ hM n _ e he
theorem FV {M:Mk} (hM:pM M) {d D k:Nat} {rec:Bs→Ex × Bs} (hk:k<10) (hD:4≤D) (h:∀ b,wfE D (rec b).1) (b:Bs):wfE (D+1) (mU M d rec k b).1:=by
 have hn:∀ b,wfE D (eW M 2 b).1:=fun b=>(tM hM 2 b).mono hD;unfold mU
 split
 ·have key:∀ i∈List.range 2,dO (.mk (2+UInt8.ofNat i) [] 0 [])=true∧iO (.mk (2+UInt8.ofNat i) [] 0 [])=true:=by decide +kernel
  obtain ⟨k1,k2⟩:=key _ (List.mem_range.2 (bX b (n:=2) (by omega)));exact DY k1 k2
 split
 ·exact wfV ND
 split
 ·rename_i h1;exact wfV (WE (by have:=bX b h1.2;have:=hM.f2;omega))
 split
 ·exact PS (by decide +kernel) (by decide +kernel) (hn _)
 split
 ·exact PS (by decide +kernel) (by decide +kernel) (h _)
 split
 ·rename_i h1;rcases h1 with rfl | rfl
  ·exact PR (by decide +kernel) (by decide +kernel) (h _) (h _)
  ·exact PR (by decide +kernel) (by decide +kernel) (h _) (h _)
 ·have key:∀ i∈List.range 6,dO (.mk (16+UInt8.ofNat i) [] 0 [e0,e0])=true∧iO (.mk (16+UInt8.ofNat i) [] 0 [])=true:=by decide +kernel
  obtain ⟨k1,k2⟩:=key _ (List.mem_range.2 (bX b (n:=6) (by omega)));exact PR k1 k2 (hn _) (hn _)
theorem FY {M:Mk} (hM:pM M):∀ f b,wfE (f+6) (jT M f b).1
 | 0,b=>FV hM (bX _ (by omega)) (by omega) (fun _=>(DY (D:=0) (by decide) (by decide)).mono (by omega)) _
 | f+1,b=>FV hM (bX _ (by omega)) (by omega) (FY hM f) _
structure Wf (D lf:Nat) (l:List Sm) (lf':Nat):Prop where
 cnt:Sm.counts l+lf'≤lf
 dep:Sm.deeps l≤D
 frm:Sm.alls jY l=true
 nam:Sm.alls iA l=true
 sma:Sm.alls nE l=true
theorem VJ {l:List Ex} (h:∀ e∈l,wfE 8 e):Ex.alls dO l=true:=by
 induction l with
 | nil=>rfl
 | cons e r ih=>rw [Ex.alls,(h e (by simp)).2.1,ih fun x hx=>h x (by simp [hx])];rfl
theorem VI {l:List Ex} (h:∀ e∈l,wfE 8 e):Ex.alls iO l=true:=by
 induction l with
 | nil=>rfl
 | cons e r ih=>rw [Ex.alls,(h e (by simp)).2.2,ih fun x hx=>h x (by simp [hx])];rfl
def kdB (kd:UInt8) (nm hd:Str) (n:Nat) (t e:Bool):Bool :=
 gT kd && decide ((aT kd).lo≤n) && decide (n≤(aT kd).hi) && ((aT kd).nm || decide (nm=[])) && ((aT kd).hd || decide (hd=[])) && ((aT kd).th || t) && ((aT kd).el || e)
def knB (kd:UInt8) (nm hd:Str):Bool:=(!(aT kd).nm || aS nm) && (!(aT kd).hd || aS hd)
theorem kN {D lf lf':Nat} {kd:UInt8} {nm hd:Str} {ex:List Ex} {th el:List Sm} (h1:Sm.counts th+Sm.counts el+lf'≤lf) (h2:kdB kd nm hd ex.length (decide (th.length=0)) (decide (el.length=0))=true) (h3:knB kd nm hd=true) (h4:∀ e∈ex,wfE 8 e)
 (ht:Sm.deeps th≤D∧Sm.alls jY th=true∧Sm.alls iA th=true∧Sm.alls nE th=true) (he:Sm.deeps el≤D∧Sm.alls jY el=true∧Sm.alls iA el=true∧Sm.alls nE el=true) :
 Wf (D+1) (lf+1) [.mk kd nm hd ex th el] lf':=by
 refine ⟨?_,?_,?_,?_,?_⟩
 ·simp only [Sm.counts,dP];omega
 ·simp only [Sm.deeps,iT];have:=ht.1;have:=he.1;omega
 ·have hf:jY (.mk kd nm hd ex th el)=true:=by
   simp only [jY,VJ h4,Bool.and_true];exact h2
  simp [Sm.alls,eU,hf,ht.2.1,he.2.1]
 ·have hf:iA (.mk kd nm hd ex th el)=true:=by
   simp only [iA,VI h4,Bool.and_true];exact h3
  simp [Sm.alls,eU,hf,ht.2.2.1,he.2.2.1]
 ·have hf:nE (.mk kd nm hd ex th el)=true:=by
   simp only [nE,List.all_eq_true,decide_eq_true_eq];exact fun e m=>(h4 e m).1
  simp [Sm.alls,eU,hf,ht.2.2.2,he.2.2.2]
theorem hO {D:Nat}:Sm.deeps []≤D∧Sm.alls jY []=true∧Sm.alls iA []=true∧Sm.alls nE []=true:=⟨Nat.zero_le _,rfl,rfl,rfl⟩
theorem Wf.all {D lf lf':Nat} {l:List Sm} (h:Wf D lf l lf'):Sm.deeps l≤D∧Sm.alls jY l=true∧Sm.alls iA l=true∧Sm.alls nE l=true:=⟨h.dep,h.frm,h.nam,h.sma⟩
theorem rU {e:Ex} (h:wfE 8 e):∀ x∈[e],wfE 8 x:=fun x hx=>by rw [List.mem_singleton.1 hx];exact h
theorem TN {e e2:Ex} (h:wfE 8 e) (k:wfE 8 e2):∀ x∈[e,e2],wfE 8 x:=fun x hx=>by
 rcases List.mem_cons.1 hx with rfl | hx
 ·exact h
 ·rw [List.mem_singleton.1 hx];exact k
theorem EU {M:Mk} (hM:pM M) {n:Nat} {b:Bs}:∀ x∈(iX M n b).1,wfE 8 x:=fun x hx=>(GQ hM n b x hx).mono (by omega)
theorem QX {e:Ex} (h:wfE 8 e) {M:Mk} (hM:pM M) {n:Nat} {b:Bs}:∀ x∈e::(iX M n b).1,wfE 8 x:=fun x hx=>by
 rcases List.mem_cons.1 hx with rfl | hx
 ·exact h
 ·exact EU hM x hx
theorem kd1 (nm:Str):kdB 1 nm [] 1 true true=true:=by simp [kdB,gT,aT,forms]
theorem kn1 {nm:Str} (h:aS nm=true):knB 1 nm []=true:=by simp [knB,gT,aT,forms,h]
theorem kd6 (nm hd:Str) {n:Nat} (h:n≤4):kdB 6 nm hd n true true=true:=by simp [kdB,gT,aT,forms,h]
theorem kn6 {nm hd:Str} (h:aS nm=true) (k:aS hd=true):knB 6 nm hd=true:=by simp [knB,gT,aT,forms,h,k]
theorem kd7 (hd:Str) {n:Nat} (h0:1≤n) (h:n≤5):kdB 7 [] hd n true true=true:=by simp [kdB,gT,aT,forms,h0,h]
theorem kn7 {hd:Str} (k:aS hd=true):knB 7 [] hd=true:=by simp [knB,gT,aT,forms,k]
theorem kd9 (nm:Str) (b:Bool):kdB 9 nm [] 1 true b=true:=by simp [kdB,gT,aT,forms]
theorem kn9 {nm:Str} (h:aS nm=true):knB 9 nm []=true:=by simp [knB,gT,aT,forms,h]
theorem kd4 (a b:Bool):kdB 4 [] [] 1 a b=true:=by revert a b;decide
theorem kd5 (a:Bool):kdB 5 [] [] 1 a true=true:=by revert a;decide
theorem kd8 (a:Bool):kdB 8 [] [] 2 true a=true:=by revert a;decide
theorem GI {M:Mk} (hM:pM M) (k d:Nat) {D:Nat} {bd:Bs × Nat→List Sm × (Bs × Nat)} (hb:∀ x,Wf D x.2 (bd x).1 (bd x).2.2) (b:Bs) (lf:Nat):Wf (D+1) (lf+1) [(cN M k d bd b lf).1] (cN M k d bd b lf).2.2:=by
 have hn:∀ f b,f≤6→wfE 8 (eW M f b).1:=fun f b hf=>(tM hM f b).mono (by omega);have ht:∀ b,wfE 8 (jT M 2 b).1:=fun b=>FY hM 2 b;have z:Sm.counts []=0:=rfl;unfold cN
 split
 ·exact kN (lf':=lf) (by simp only [z];omega) (kd1 _) (kn1 ND) (rU (ht _)) hO hO
 split
 ·exact kN (lf':=lf) (by simp only [z];omega) (by simp [kdB,gT,aT,forms]) (by simp [knB,gT,aT,forms,NB]) (TN (hn _ _ (by omega)) (hn _ _ (by omega))) hO hO
 split
 ·exact kN (lf':=lf) (by simp only [z];omega) (by simp [kdB,gT,aT,forms]) (by simp [knB,gT,aT,forms,NB]) (rU (hn _ _ (by omega))) hO hO
 split
 ·have h1:=hb ((jT M 2 b).2,lf);have h2:=hb (bd ((jT M 2 b).2,lf)).2;exact kN (by have:=h1.cnt;have:=h2.cnt;simp only at *;omega) (kd4 _ _) (by decide) (rU (ht _)) h1.all h2.all
 split
 ·have h1:=hb ((jT M 2 b).2,lf);exact kN (by have:=h1.cnt;simp only at *;omega) (kd5 _) (by decide) (rU (ht _)) h1.all hO
 split
 ·have hc:=bX b hM.a0;have ha:=hM.al _ hc;have hh:=bX (aE b M.ars.length).2 ha.1;have h3:=hM.a3;exact kN (lf':=lf) (by simp only [z];omega) (by rw [(lC _ _ _).1];exact kd6 _ _ (Nat.le_trans (hM.ar2 _ _) (by omega))) (kn6 (zR (by omega)) (UO (by omega))) (EU hM) hO hO
 split
 ·have ha:=hM.al _ hM.own;have hh:=bX b ha.1;exact kN (lf':=lf) (by simp only [z];omega) (by rw [List.length_cons,(lC _ _ _).1];exact kd7 _ (by omega) (Nat.succ_le_succ (Nat.le_trans (hM.ar2 _ _) (by omega)))) (kn7 (UO (by omega))) (QX (hn _ _ (by omega)) hM) hO hO
 split
 ·split
  ·have h1:=hb ((iX M 2 (aE b 2).2).2,lf);exact kN (by have:=h1.cnt;simp only at *;omega) (by rw [(lC _ _ _).1];exact kd8 _) (by decide) (EU hM) hO h1.all
  ·have h1:=hb ((eW M 3 (aE (aE b 2).2 M.ints).2).2,lf);have hx:=bX (aE b 2).2 hM.i0;have h3:=hM.i3;exact kN (lf':=(bd ((eW M 3 (aE (aE b 2).2 M.ints).2).2,lf)).2.2) (by have:=h1.cnt;simp only at *;omega) (kd9 _ _) (kn9 (QW (by omega))) (rU (hn _ _ (by omega))) hO h1.all
 split
 ·exact kN (lf':=lf) (by simp only [z];omega) (by decide) (by decide) (fun _ h=>by cases h) hO hO
 ·have h3:=hM.i3;exact kN (lf':=lf) (by simp only [z];omega) (kd1 _) (kn1 (QW (by have:=bX (if k=12 then (aE b 3).2 else b) hM.i0;omega))) (rU (hn _ _ (by omega))) hO hO
theorem AS {st:Nat→Bs→Nat→Sm × (Bs × Nat)} {D:Nat} (hs:∀ k b lf,Wf D (lf+1) [(st k b lf).1] (st k b lf).2.2):∀ f x,Wf D x.2 (jZ st f x).1 (jZ st f x).2.2
 | 0,x=>⟨by simp [jZ,Sm.counts],Nat.zero_le _,rfl,rfl,rfl⟩
 | f+1,(b,lf)=>by
  unfold jZ
  split
  ·exact ⟨by simp [Sm.counts],Nat.zero_le _,rfl,rfl,rfl⟩
  ·rename_i hne
   split
   ·exact ⟨by simp [Sm.counts],Nat.zero_le _,rfl,rfl,rfl⟩
   ·have h1:=hs (aE b 14).1 (aE b 14).2 (lf - 1);have h2:=AS hs f (st (aE b 14).1 (aE b 14).2 (lf - 1)).2;have hl:lf≠0:=fun e=>hne (.inr e)
    have al:∀ (q:Sm→Bool) (s:Sm) (l:List Sm),Sm.alls q [s]=true→Sm.alls q l=true→Sm.alls q (s::l)=true:=fun q s l a b=>by
     simp only [Sm.alls,Bool.and_eq_true] at a ⊢;exact ⟨a.1,b⟩
    refine ⟨?_,?_,al _ _ _ h1.frm h2.frm,al _ _ _ h1.nam h2.nam,al _ _ _ h1.sma h2.sma⟩
    ·have a1:=h1.cnt;have a2:=h2.cnt;simp only [Sm.counts] at a1 ⊢;omega
    ·have a1:=h1.dep;have a2:=h2.dep;simp only [Sm.deeps] at a1 ⊢;omega
theorem HX {M:Mk} (hM:pM M):∀ f x,Wf (f+1) x.2 (sG M f x).1 (sG M f x).2.2
 | 0,x=>AS (fun k b lf=>GI hM k 3 (D:=0) (fun x=>⟨by simp [Sm.counts],Nat.zero_le _,rfl,rfl,rfl⟩) b lf) 13 x
 | f+1,x=>AS (fun k b lf=>GI hM k (2 - f) (HX hM f) b lf) 13 x
structure PO (h:Hd):Prop where
 nam:kH h=true
 frm:kY h=true
 sma:kX h=true
theorem pM.at {M:Mk} (h:pM M) (k:Nat):pM (M.at k):=⟨h.i0,h.i3,h.ar2 _ _,h.f2,h.a3,h.a0,h.ar2,h.al,h.own⟩
theorem UZ {M:Mk} (hM:pM M) {k:Nat} (hk:k<3) (c:Cd):PO (hdS M k c):=by
 have h:=HX (hM.at k) 3 (c.bytes.take 40,12);have hc:=h.cnt;have hd:=h.dep;simp only at hc;have h2:=hM.ar2 M.own k;refine ⟨?_,h.frm,?_⟩
 ·simp only [kH,hdS,Bool.and_eq_true];refine ⟨⟨UO hk,?_⟩,h.nam⟩;simp only [jI,List.all_eq_true,List.mem_map,List.mem_range];rintro _ ⟨i,hi,rfl⟩;exact WD (by omega)
 ·simp only [kX,hdS,Bool.and_eq_true,h.sma,and_true,dN];simp only [Bool.not_eq_true',Bool.or_eq_false_iff,decide_eq_false_iff_not];refine ⟨⟨by omega,decide_eq_false (by omega)⟩,decide_eq_false (by omega)⟩
theorem AC {M:Mk} (hM:pM M):∀ (l:List Cd) (k:Nat),k+l.length≤3→∀ h∈kI M k l,PO h
 | [],k,_,h,hh=>by cases hh
 | c::r,k,hk,h,hh=>by
  simp only [List.length_cons] at hk;rcases List.mem_cons.1 hh with rfl | hh
  ·exact UZ hM (by omega) c
  ·exact AC hM r (k+1) (by omega) h hh
theorem PK (ks:List Str) (s:Str):(xC ks s).length≤ks.length+1:=by
 unfold xC;split <;> simp
theorem oK:∀ (v:List Hd) (ks:List Str),(pN ks v).length≤ks.length+v.length
 | [],ks=>by simp [pN]
 | h::v,ks=>by
  have:=oK v (BN ks h);have h2:=PK ks h.nm;simp only [pN,List.foldl_cons,List.length_cons,BN] at this ⊢;omega
theorem SH (x:Prt):0<(arP x).length∧(arP x).length≤3:=by
 have h:=uC x;have h2:=wQ x 3;unfold arP at *;omega
theorem NF (p:Pln) {i:Nat} (hi:i<(aR p).length) (x:Prt):pM (mkP (fN p) (p.flags.toNat % 3) i x):=by
 have hp:=oP p;have hl:(fN p).length=(aR p).length:=by simp [fN]
 refine ⟨by simp only [mkP,fU];omega,by simp only [mkP,fU];omega,by simp [mkP],by simp only [mkP];omega,by simp only [mkP];omega,by simp only [mkP];omega,FO,?_,by simp only [mkP];omega⟩;intro c hc;simp only [mkP] at hc;simp only [arL,mkP];rw [fC hc];have hm:=List.getElem_mem hc;generalize (fN p)[c]=l at hm;obtain ⟨y,_,rfl⟩:=List.mem_map.1 hm;exact SH y
theorem FR {M:Mk} (hM:pM M) (x:Prt):1≤(lT M x).length∧(lT M x).length≤2∧∀ v∈lT M x,v.length≤3∧∀ h∈v,PO h:=by
 have hf:=DG x;refine ⟨by simp [lT],by unfold lT;split <;> simp,fun v hv=>?_⟩;unfold lT at hv;rcases List.mem_cons.1 hv with rfl | hv
 ·exact ⟨by rw [jQ];exact hf,AC hM _ 0 (by omega)⟩
 ·split at hv
  ·rw [List.mem_singleton.1 hv];exact ⟨by rw [jQ,List.length_take];omega,AC hM _ 0 (by rw [List.length_take];omega)⟩
  ·cases hv
theorem JW {c:Cp} (h:c.vers.length≤2) (hv:∀ v∈c.vers,v.length≤3):(tP c).length≤6:=by
 unfold tP
 match hc:c.vers,h with
 | [],_=>simp
 | [v],_ =>
  have:=oK v [];have:=hv v (by rw [hc];simp);simp only [List.foldl_cons,List.foldl_nil,List.length_nil] at *;omega
 | [v,w],_ =>
  have:=oK v [];have:=oK w (pN [] v);have:=hv v (by rw [hc];simp);have:=hv w (by rw [hc];simp);simp only [List.foldl_cons,List.foldl_nil,List.length_nil] at *;omega
theorem yW (x:Prt):(sK x).length≤8∧∀ v∈sK x,aS v.nm=true∧gW v=true:=by
 refine ⟨by simp only [sK,List.length_append,uM,uL,List.length_singleton,fU,iS];omega,fun v hv=>?_⟩;simp only [sK,yV,yU,List.mem_append,List.mem_map,List.mem_range,List.mem_singleton] at hv;rcases hv with (⟨i,hi,rfl⟩ | rfl) | ⟨i,hi,rfl⟩
 ·simp only [fU] at hi;refine ⟨QW (by omega),?_⟩;rw [show gW (vrI i)=decide ((Int64.ofNat i).toInt≠-9223372036854775808) from rfl,decide_eq_true_eq,Int64.toInt_ofNat_of_lt (by omega)];omega
 ·exact ⟨ND,by decide⟩
 ·simp only [iS] at hi;obtain rfl:i=0:=by omega
  exact ⟨NB,by decide⟩
theorem fI (p:Pln):bU (bD p)=0:=by
 have hp:=oP p
 have hcs:∀ c∈(bD p).comps,∃ i x,i<(aR p).length∧c=AO (fN p) (p.flags.toNat % 3) i x:=by
  intro c hc;simp only [bD,pY] at hc;obtain ⟨i,hi,rfl⟩:=List.mem_mapIdx.1 hc;exact ⟨i,_,hi,rfl⟩
 have hhd:∀ c∈(bD p).comps,∀ v∈c.vers,∀ h∈v,PO h:=by
  intro c hc v hv h hh;obtain ⟨i,x,hi,rfl⟩:=hcs c hc;exact ((FR (NF p hi x) x).2.2 v hv).2 h hh
 have ev:∀ q:Hd→Bool,(∀ h,PO h→q h=true)→evH q (bD p)=true:=by
  intro q hq;simp only [evH,List.all_eq_true];exact fun c hc v hv h hh=>hq h (hhd c hc v hv h hh)
 have h9:(aR p).length * (aR p).length≤9:=Nat.mul_le_mul hp.2 hp.2;have hmin:min p.links.length ((aR p).length * (aR p).length)≤(aR p).length * (aR p).length:=Nat.min_le_right _ _
 have h1:gY (bD p)=true:=by
  simp only [gY,Bool.and_eq_true,ev kX fun h k=>k.sma,and_true];refine ⟨?_,?_⟩
  ·simp only [gE,bD,pD,rY,Bool.and_eq_true,decide_eq_true_eq];have:=oU (aR p).length p.links (min p.links.length ((aR p).length * (aR p).length));refine ⟨⟨⟨by omega,by omega⟩,by omega⟩,decide_eq_true (by omega)⟩
  ·rw [List.all_eq_true];intro c hc;obtain ⟨i,x,hi,rfl⟩:=hcs c hc;obtain ⟨v1,v2,v3⟩:=FR (NF p hi x) x;have v4:=JW (c:=AO (fN p) (p.flags.toNat % 3) i x) v2 fun v hv=>(v3 v hv).1;simp only [jU,Bool.and_eq_true,decide_eq_true_eq];exact ⟨⟨⟨(yW x).1,v1⟩,Nat.le_trans v2 (by omega)⟩,by omega⟩
 have hlk:∀ l∈(bD p).links,aS l.fr=true∧aS l.to=true∧lkB l=true:=by
  intro l hl;simp only [bD,mK,List.mem_flatMap,List.mem_range] at hl;obtain ⟨k,hk,hl⟩:=hl;unfold zW at hl
  split at hl
  ·rename_i h0;rw [List.mem_singleton.1 hl]
   have hd:k / (aR p).length<(aR p).length:=by
    rw [Nat.div_lt_iff_lt_mul hp.1];omega
   have hm:=Nat.mod_lt k hp.1;refine ⟨zR (by omega),zR (by omega),?_⟩;simp only [lkB,Bool.and_eq_true,decide_eq_true_eq];rw [Int64.toInt_ofNat_of_lt (by omega)];omega
  ·cases hl
 have h2:tB (bD p)=true:=by
  simp only [tB,Bool.and_eq_true,ev kH fun h k=>k.nam,and_true];refine ⟨⟨⟨show aS mY=true by decide +kernel,?_⟩,?_⟩,?_⟩
  ·simp only [bD,rD,List.all_eq_true,List.mem_map,List.mem_range];rintro _ ⟨k,hk,rfl⟩;exact WE (by omega)
  ·rw [List.all_eq_true];intro l hl;rw [(hlk l hl).1,(hlk l hl).2.1];rfl
  ·rw [List.all_eq_true];intro c hc;obtain ⟨i,x,hi,rfl⟩:=hcs c hc;rw [Bool.and_eq_true,List.all_eq_true];exact ⟨zR (by omega),fun v hv=>((yW x).2 v hv).1⟩
 have h3:lQ (bD p)=true:=by
  simp only [lQ,Bool.and_eq_true,ev kY fun h k=>k.frm,and_true];refine ⟨?_,?_⟩
  ·rw [List.all_eq_true];exact fun l hl=>(hlk l hl).2.2
  ·rw [List.all_eq_true];intro c hc;obtain ⟨i,x,hi,rfl⟩:=hcs c hc;rw [List.all_eq_true];exact fun v hv=>((yW x).2 v hv).2
 simp [bU,h1,h2,h3]
end Go.Proofs.YthhoebdlfjffkaaGreatDoor
namespace Go.Proofs.YthhoebdlfjffkaaGreatDoor
structure Sg where
 r:List Tk
 e:Nat
 o:Nat
def QT (n:Nat):List Tk→Nat
 | []=>n
 | t::_=>t.o
def Sg.tl (s:Sg):Sg:=⟨s.r.tail,s.e,s.o⟩
def Sg.fail (n c:Nat) (s:Sg):Sg:=if s.e=0 then ⟨s.r,c,QT n s.r⟩ else s
section
variable {α β:Type}
def up (n:Nat) (g:Pz α) (s:Sg):Sg:=if s.e=0 then (match g s.r with | .ok _ r=>⟨r,s.e,s.o⟩ | .er r c=>⟨r,c,QT n r⟩) else s
def vl (g:Pz α) (s:Sg) (x:α):Prop:=s.e=0→∀ a r,g s.r=.ok a r→x=a
def Cz (g:Pz α):Prop:=∀ r r' c,g r=.er r' c→c≠0
theorem Rs.bind_er {x:Rs α} {f:α→List Tk→Rs β} {r:List Tk} {c:Nat} (h:x.bind f=.er r c):x=.er r c∨∃ a q,x=.ok a q∧f a q=.er r c:=by
 cases x with
 | ok a q=>exact .inr ⟨a,q,rfl,h⟩
 | er q d=>left;injection h with h1 h2;subst h1;subst h2;rfl
theorem Cz.pure (a:α):Cz (aO a):=fun r r' c e=>by cases e
theorem Cz.bind {g:Pz α} {f:α→Pz β} (h:Cz g) (k:∀ a,Cz (f a)):Cz (aF g f):=fun r r' c e=>by
 rcases Rs.bind_er e with e | ⟨a,q,_,e⟩
 ·exact h _ _ _ e
 ·exact k _ _ _ _ e
theorem Cz.nd (w:Str):Cz (gNd w):=fun r r' c e=>by
 unfold gNd at e
 split at e
 ·cases e
 ·injection e with _ e;omega
theorem Cz.nn (w:Str):Cz (gNn w):=fun r r' c e=>by
 unfold gNn at e
 split at e
 ·cases e
 ·injection e with _ e;omega
theorem Cz.nm:Cz gNm:=fun r r' c e=>by
 unfold gNm at e
 split at e
 ·injection e with _ e;omega
 ·split at e
  ·cases e
  ·injection e with _ e;omega
theorem Cz.nu:Cz gNu:=fun r r' c e=>by
 unfold gNu at e
 split at e
 ·injection e with _ e;omega
 ·split at e
  ·split at e
   ·cases e
   ·injection e with _ e;omega
  ·injection e with _ e;omega
theorem Cz.alt {w:Str} {p q:Pz α} (h:Cz p) (k:Cz q):Cz (cM w p q):=fun r r' c e=>by
 unfold cM at e
 split at e
 ·exact h _ _ _ e
 ·exact k _ _ _ e
theorem Cz.manyF {w:Str} {p:Pz α} (h:Cz p):∀ f,Cz (jD w p f)
 | 0=>fun r r' c e=>by unfold jD at e;injection e with _ e;omega
 | f+1=>.alt (.bind h fun _=>.bind (Cz.manyF h f) fun _=>.pure _) (.pure _)
theorem Cz.many {w:Str} {p:Pz α} (h:Cz p):Cz (dC w p):=fun r r' c e=>Cz.manyF h _ _ _ _ e
theorem kA {n:Nat} {g:Pz α} {s:Sg} (h:s.e≠0):up n g s=s:=by unfold up;rw [if_neg h]
theorem aZ {n:Nat} {a:α} {s:Sg}:up n (aO a) s=s:=by
 unfold up aO
 split <;> rfl
theorem aX {a:α} {s:Sg}:vl (aO a) s a:=fun _ b r e=>by injection e
theorem LB {g:Pz α} {s:Sg} {x:α} (h:s.e≠0):vl g s x:=fun k=>absurd k h
theorem FS {n:Nat} {g:Pz α} {s:Sg} {r:List Tk} {c:Nat} (hz:Cz g) (h:g s.r=.er r c) (h0:s.e=0):(up n g s).e≠0:=by
 unfold up;rw [if_pos h0,h];exact hz _ _ _ h
theorem aA {n:Nat} {g:Pz α} {f:α→Pz β} {s:Sg} {x:α} (hz:Cz g) (hx:vl g s x):up n (aF g f) s=up n (f x) (up n g s):=by
 by_cases h0:s.e=0
 ·cases hg:g s.r with
  | er r c =>
   rw [kA (FS hz hg h0)];unfold up aF;rw [if_pos h0,if_pos h0,hg]
   rfl
  | ok a r =>
   obtain rfl:=hx h0 a r hg;have e:up n g s=⟨r,s.e,s.o⟩:=by unfold up;rw [if_pos h0,hg]
   rw [e];unfold up aF;rw [if_pos h0,if_pos h0,hg]
   rfl
 ·rw [kA h0,kA h0,kA h0]
theorem aC {n:Nat} {g:Pz α} {f:α→Pz β} {s:Sg} {x:α} {y:β} (hx:vl g s x) (hy:vl (f x) (up n g s) y):vl (aF g f) s y:=by
 intro h0 b r e;obtain ⟨a,q,h1,h2⟩:=Rs.bind_ok e;obtain rfl:=hx h0 a q h1;have e:up n g s=⟨q,s.e,s.o⟩:=by unfold up;rw [if_pos h0,h1]
 rw [e] at hy;exact hy h0 b r h2
def ac (w:Str) (s:Sg):Bool:=decide (s.e=0) && isT w s.r
theorem AX {w:Str} {s:Sg} (h:ac w s=true):s.e=0∧isT w s.r=true:=by
 unfold ac at h;rw [Bool.and_eq_true,decide_eq_true_eq] at h;exact h
theorem cQ {n:Nat} {w:Str} {p q:Pz α} {s:Sg} (h:ac w s=true):up n (cM w p q) s=up n p s.tl:=by
 obtain ⟨h0,h1⟩:=AX h;unfold up cM Sg.tl;simp only [h0,h1,if_true]
theorem bY {w:Str} {p q:Pz α} {s:Sg} {x:α} (h:ac w s=true) (hx:vl p s.tl x):vl (cM w p q) s x:=by
 obtain ⟨h0,h1⟩:=AX h;intro _ a r e;unfold cM at e;rw [if_pos h1] at e;exact hx h0 a r e
theorem aK {n:Nat} {w:Str} {p q:Pz α} {s:Sg} (h:ac w s=false):up n (cM w p q) s=up n q s:=by
 by_cases h0:s.e=0
 ·have h1:isT w s.r=false:=by
   unfold ac at h;rw [decide_eq_true h0,Bool.true_and] at h;exact h
  unfold up cM;simp only [h0,h1,if_true,Bool.false_eq_true,if_false]
 ·rw [kA h0,kA h0]
theorem aJ {w:Str} {p q:Pz α} {s:Sg} {x:α} (h:ac w s=false) (hx:vl q s x):vl (cM w p q) s x:=by
 intro h0 a r e
 have h1:isT w s.r=false:=by
  unfold ac at h;rw [decide_eq_true h0,Bool.true_and] at h;exact h
 unfold cM at e;rw [if_neg (by rw [h1];decide)] at e;exact hx h0 a r e
theorem yX {n:Nat} {w:Str} {s:Sg} (h:ac w s=true):up n (gNd w) s=s.tl:=by
 obtain ⟨h0,h1⟩:=AX h;unfold up gNd Sg.tl;simp only [h0,h1,if_true]
theorem TM {n:Nat} {w:Str} {s:Sg} (h:ac w s=false):up n (gNd w) s=s.fail n 8:=by
 unfold Sg.fail
 by_cases h0:s.e=0
 ·have h1:isT w s.r=false:=by
   unfold ac at h;rw [decide_eq_true h0,Bool.true_and] at h;exact h
  unfold up gNd;simp only [h0,h1,if_true,Bool.false_eq_true,if_false]
 ·rw [kA h0,if_neg h0]
theorem aG {g:Pz Unit} {s:Sg}:vl g s ():=fun _ _ _ _=>rfl
end
theorem SQ:∀ w∈words,iE (w.headD 0)=true∧w.length≤12:=by decide +kernel
theorem VV:∀ w∈symbols,iE (w.headD 0)=false∧dU (w.headD 0)=false:=by decide +kernel
theorem BW {c:UInt8} {r w:Str} (e:(c::r).take (aI (c::r)).2=w):w.headD 0=c:=by
 have h:=(kL (l:=c::r) (by simp)).1;obtain ⟨k,hk⟩:∃ k,(aI (c::r)).2=k+1:=⟨(aI (c::r)).2 - 1,by omega⟩;rw [hk] at e;subst e
 rfl
theorem RW {c:UInt8} (h:dU c=true):iE c=false:=by
 have key:∀ i∈List.range 256,dU (UInt8.ofNat i)=true→iE (UInt8.ofNat i)=false:=by decide +kernel
 have:=key c.toNat (List.mem_range.2 c.toNat_lt);rw [UInt8.ofNat_toNat] at this;exact this h
theorem EN {m w:Str} (h:m≠[]) (hw:w∈words∨w∈symbols) (e:m.take (aI m).2=w):(aI m).1=2∨(aI m).1=4:=by
 match m,h with
 | c::r,_ =>
  have hh:=BW e;cases h1:iE c with
  | true =>
   have hw1:w∈words:=by
    rcases hw with hw | hw
    ·exact hw
    ·have:=(VV w hw).1;rw [hh,h1] at this;cases this
   cases h4:words.contains ((c::r).take (pre eE (c::r))) with
   | true=>left;simp only [aI,List.headD_cons,h1,h4,if_true]
   | false =>
    by_cases h5:pre eE (c::r)≤12
    ·simp only [aI,List.headD_cons,h1,h4,h5,if_true,Bool.false_eq_true,if_false] at e;rw [e] at h4;rw [List.contains_iff_mem.2 hw1] at h4;cases h4
    ·simp only [aI,List.headD_cons,h1,h4,h5,if_true,Bool.false_eq_true,if_false] at e;rw [List.take_length] at e;have h6:=nN eE (c::r);have h7:=(SQ w hw1).2;rw [← e] at h7;omega
  | false =>
   have hw1:w∈symbols:=by
    rcases hw with hw | hw
    ·have:=(SQ w hw).1;rw [hh,h1] at this;cases this
    ·exact hw
   have h4:dU c=false:=by
    have:=(VV w hw1).2;rw [hh] at this;exact this
   cases hx:symbols.find? (fun x=>x.isPrefixOf (c::r)) with
   | some x=>right;simp only [aI,List.headD_cons,h1,h4,hx,Bool.false_eq_true,if_false]
   | none =>
    simp only [aI,List.headD_cons,h1,h4,hx,Bool.false_eq_true,if_false] at e;rw [List.take_length] at e;have:=List.find?_eq_none.1 hx w hw1;rw [← e] at this;exact absurd (List.isPrefixOf_iff_prefix.2 (List.prefix_refl _)) this
theorem xM {m:Str} {c0:UInt8} (h:m≠[]) (hc:c0=50∨c0=51) (e:m.take (aI m).2=[c0]):(aI m).1=3:=by
 match m,h with
 | c::r,_ =>
  have hh:c0=c:=BW e;have h4:dU c=true:=by rw [← hh];rcases hc with rfl | rfl <;> decide
  have h1:=RW h4;have h5:pre dU (c::r)=1∨c≠48:=.inr (by rw [← hh];rcases hc with rfl | rfl <;> decide);simp only [aI,List.headD_cons,h1,h4,h5,if_true,Bool.false_eq_true,if_false]
def Tkg (t:Tk):Prop:=(t.t∈words∨t.t∈symbols→t.k=2∨t.k=4)∧(t.t=[50]∨t.t=[51]→t.k=3)∧t.t≠[]
theorem SV:∀ (f o:Nat) (m:Str),∀ t∈pI f o m,Tkg t
 | 0,_,_,t,h=>by cases h
 | f+1,o,m,t,h=>by
  by_cases h0:m=[]
  ·rw [h0,jO] at h;cases h
  ·rw [iR h0] at h;rcases List.mem_cons.1 h with rfl | h
   ·refine ⟨fun hw=>EN h0 hw rfl,fun hc=>?_,fun e=>?_⟩
    ·rcases hc with hc | hc
     ·exact xM h0 (.inl rfl) hc
     ·exact xM h0 (.inr rfl) hc
    ·have hb:=kL h0;have h2:=congrArg List.length e;rw [List.length_take] at h2;simp only [List.length_nil] at h2;omega
   ·exact SV f _ _ t h
theorem JZ (s:Str):∀ t∈fH s,Tkg t:=SV _ _ _
theorem RH {w:Str} {t:Tk} {r:List Tk} (h:Tkg t) (hw:w∈words∨w∈symbols):isT w (t::r)=decide (t.t=w):=by
 show ((t.k == 2 || t.k == 4) && decide (t.t=w))=_
 by_cases e:t.t=w
 ·have h1:=h.1 (by rw [e];exact hw);rw [decide_eq_true e];rcases h1 with h1 | h1 <;> rw [h1] <;> rfl
 ·rw [decide_eq_false e,Bool.and_false]
theorem RI {w:Str} {t:Tk} {r:List Tk} (h:Tkg t) (hw:w=[50]∨w=[51]):isN w (t::r)=decide (t.t=w):=by
 show (t.k == 3 && decide (t.t=w))=_
 by_cases e:t.t=w
 ·have h1:=h.2.1 (by rw [e];exact hw);rw [decide_eq_true e,h1]
  rfl
 ·rw [decide_eq_false e,Bool.and_false]
theorem MX (l:Str) (c:UInt8):fG (l++[c])=10 * fG l+(c.toNat - 48):=by
 unfold fG;rw [List.foldl_append]
 rfl
theorem MW:∀ (r:Str) (v:Nat),v≤r.foldl (fun v c=>10 * v+(c.toNat - 48)) v
 | [],v=>Nat.le_refl _
 | c::r,v=>by
  rw [List.foldl_cons];have:=MW r (10 * v+(c.toNat - 48));omega
theorem QU (l r:Str):fG l≤fG (l++r):=by
 unfold fG;rw [List.foldl_append];exact MW r _
theorem JT (t:Str) (i:Nat):fG (t.take i)≤fG t:=by
 have h:=QU (t.take i) (t.drop i);rw [List.take_append_drop] at h;exact h
theorem JU {t:Str} {i:Nat} {c:UInt8} (h:t[i]? = some c):fG (t.take (i+1))=10 * fG (t.take i)+(c.toNat - 48):=by
 rw [List.take_succ,h];exact MX _ _
theorem JS:fG []=0:=rfl
def toks (o:Nat) (m:Str):List Tk:=pI (m.length+1) o m
def gI (m:Str):Nat:=m.length - (cD false m).length
theorem BQ (m:Str):gI m≤m.length:=Nat.sub_le _ _
theorem wJ (m:Str):m.drop (gI m)=cD false m:=EJ false m
theorem BH (o:Nat):toks o []=[]:=jO _ _
theorem oD {o:Nat} {m:Str} (h:m≠[]):toks o m=⟨(aI m).1,m.take (aI m).2,o⟩::toks (o+(aI m).2+gI (m.drop (aI m).2)) (m.drop ((aI m).2+gI (m.drop (aI m).2))):=by
 have hr:=kL h;have hs:=fE false (m.drop (aI m).2);rw [List.length_drop] at hs;unfold toks;rw [iR h,← List.drop_drop,wJ]
 have e:o+(aI m).2+gI (m.drop (aI m).2)=o+(m.length - (cD false (m.drop (aI m).2)).length):=by
  unfold gI;rw [List.length_drop];omega
 rw [e,rN _ _ _ _ _ (Nat.lt_succ_self _)];omega
theorem xR (s:Str):fH s=toks (gI s) (s.drop (gI s)):=by
 unfold toks fH;rw [wJ];have hs:=fE false s;exact rN _ _ _ _ (by omega) (by omega)
theorem BJ:∀ (f o:Nat) (m:Str),(pI f o m).length≤m.length
 | 0,_,_=>by rw [pI];simp
 | f+1,o,m=>by
  by_cases h0:m=[]
  ·subst h0;rw [jO];simp
  ·have hr:=kL h0;have hs:=fE false (m.drop (aI m).2);rw [List.length_drop] at hs;rw [iR h0,List.length_cons];have:=BJ f (o+(m.length - (cD false (m.drop (aI m).2)).length)) (cD false (m.drop (aI m).2));omega
theorem nU (s:Str):(fH s).length≤s.length:=Nat.le_trans (BJ _ _ _) (fE false s)
def gX (lv:Nat):Pz Ex:=pX lv
def gL (lv:Nat) (a:Ex):Pz Ex:=pL lv a
def Sg.mu (s:Sg):Nat:=if s.e=0 then s.r.length+1 else 0
theorem Sg.mu_er {s:Sg} (h:s.e≠0):s.mu=0:=by unfold Sg.mu;rw [if_neg h]
theorem eN {α:Type} {n:Nat} {g:Pz α} {s:Sg} (h:Shr g) (hz:Cz g):(up n g s).mu≤s.mu:=by
 by_cases h0:s.e=0
 ·cases hg:g s.r with
  | er r c=>rw [Sg.mu_er (FS hz hg h0)];exact Nat.zero_le _
  | ok a r =>
   have:=h _ _ _ hg;unfold up;rw [if_pos h0,hg];unfold Sg.mu;simp only [h0,if_true];omega
 ·rw [kA h0];exact Nat.le_refl _
theorem kP {w:Str} {s:Sg} (h:ac w s=true):s.tl.mu<s.mu:=by
 obtain ⟨h0,h1⟩:=AX h;have:=eD h1;unfold Sg.mu Sg.tl;simp only [h0,if_true];omega
theorem Cz.ex (lv:Nat):Cz (gX lv):=by
 have prim:∀ rec:List Tk→Rs Ex,(∀ r r' c,rec r=.er r' c→c≠0)→∀ r r' c,fY rec r=.er r' c→c≠0:=by
  intro rec hr r r' c e
  have nd:∀ {α:Type} (w:Str) (r:List Tk) (f:List Tk→Rs α),(∀ r r' c,f r=.er r' c→c≠0)→∀ r' c,iV w r f=.er r' c→c≠0:=by
   intro α w r f hf r' c e;unfold iV at e
   split at e
   ·exact hf _ _ _ e
   ·injection e with _ e;omega
  have nm:∀ {α:Type} (r:List Tk) (f:Str→List Tk→Rs α),(∀ s r r' c,f s r=.er r' c→c≠0)→∀ r' c,lD r f=.er r' c→c≠0:=by
   intro α r f hf r' c e;unfold lD at e
   split at e
   ·injection e with _ e;omega
   ·split at e
    ·exact hf _ _ _ _ e
    ·injection e with _ e;omega
  have rb:∀ (r:List Tk) (f:Ex→List Tk→Rs Ex),(∀ x r r' c,f x r=.er r' c→c≠0)→∀ r' c,(rec r).bind f=.er r' c→c≠0:=by
   intro r f hf r' c e;rcases Rs.bind_er e with e | ⟨a,q,_,e⟩
   ·exact hr _ _ _ e
   ·exact hf _ _ _ _ e
  unfold fY at e
  split at e
  ·injection e with _ e;omega
  ·split at e
   ·split at e
    ·cases e
    ·injection e with _ e;omega
   split at e
   ·cases e
   split at e
   ·cases e
   split at e
   ·cases e
   split at e
   ·exact nm _ _ (fun s r r' c e=>by cases e) _ _ e
   split at e
   ·exact rb _ _ (fun x r r' c e=>nd _ _ _ (fun r r' c e=>by cases e) _ _ e) _ _ e
   split at e
   ·exact nm _ _ (fun s r r' c e=>nd _ _ _ (fun r r' c e=>rb _ _ (fun x r r' c e=>nd _ _ _ (fun r r' c e=>by cases e) _ _ e) _ _ e) _ _ e) _ _ e
   split at e
   ·split at e
    ·exact rb _ _ (fun x r r' c e=>nd _ _ _ (fun r r' c e=>by cases e) _ _ e) _ _ e
    ·cases e
   ·injection e with _ e;omega
 have key:∀ f,(∀ lv r r' c,pE f (.ex lv) r=.er r' c→c≠0)∧(∀ lv a r r' c,pE f (.lp lv a) r=.er r' c→c≠0):=by
  intro f;induction f with
  | zero=>exact ⟨fun lv r r' c e=>by unfold pE at e;injection e with _ e;omega,fun lv a r r' c e=>by unfold pE at e;injection e with _ e;omega⟩
  | succ f ih =>
   obtain ⟨ih1,ih2⟩:=ih;refine ⟨fun lv r r' c e=>?_,fun lv a r r' c e=>?_⟩
   ·rw [vL] at e
    split at e
    ·rcases Rs.bind_er e with e | ⟨a,q,_,e⟩
     ·exact ih1 _ _ _ _ e
     ·exact ih2 _ _ _ _ _ e
    split at e
    ·rcases Rs.bind_er e with e | ⟨a,q,_,e⟩
     ·exact ih1 _ _ _ _ e
     ·cases e
    split at e
    ·rcases Rs.bind_er e with e | ⟨a,q,_,e⟩
     ·exact ih1 _ _ _ _ e
     ·cases e
    ·exact prim _ (fun r r' c e=>ih1 _ _ _ _ e) _ _ _ e
   ·rw [vK] at e
    split at e
    ·cases e
    ·rcases Rs.bind_er e with e | ⟨b,q,_,e⟩
     ·exact ih1 _ _ _ _ e
     ·split at e
      ·cases e
      ·exact ih2 _ _ _ _ _ e
 exact fun r r' c e=>(key _).1 _ _ _ _ e
theorem Shs.gx (lv:Nat):Shs (gX lv):=fun r a r' e=>(nO _).1 _ _ _ _ e
theorem rX {lv:Nat} (h:lv<5):gX lv=aF (gX (lv+1)) (gL lv):=funext fun _=>zK h
theorem wC:gX 5=cM [45] (aF (gX 5) fun x=>aO (opE 9 [x])) (cM [110,111,116] (aF (gX 5) fun x=>aO (opE 10 [x])) (fY (gX 0))):=funext fun _=>qO
def opS (lv:Nat) (s:Sg):Option UInt8:=if s.e=0 then opAt lv s.r else none
theorem LF {n lv:Nat} {a:Ex} {s:Sg} (h:opS lv s=none):up n (gL lv a) s=s∧vl (gL lv a) s a:=by
 by_cases h0:s.e=0
 ·unfold opS at h;rw [if_pos h0] at h;refine ⟨?_,fun _ b r e=>?_⟩
  ·unfold up gL;rw [if_pos h0,lB h]
  ·unfold gL at e;rw [lB h] at e;injection e
 ·exact ⟨kA h0,LB h0⟩
def gK (lv:Nat) (op:UInt8) (a:Ex) (b:Ex):Pz Ex:=if lv=2 then aO (opE op [a,b]) else gL lv (opE op [a,b])
theorem lpS {lv:Nat} {a:Ex} {s:Sg} {op:UInt8} (hl:lv≤4) (h:opS lv s=some op):s.e=0∧gL lv a s.r=aF (gX (lv+1)) (gK lv op a) s.tl.r:=by
 unfold opS at h
 by_cases h0:s.e=0
 ·rw [if_pos h0] at h;refine ⟨h0,?_⟩;show pL lv a s.r=_;rw [zL hl h];refine Rs.bind_congr rfl fun b q _=>?_;unfold gK
  split <;> rfl
 ·rw [if_neg h0] at h;cases h
theorem LE {n lv:Nat} {a:Ex} {s:Sg} {op:UInt8} (hl:lv≤4) (h:opS lv s=some op):up n (gL lv a) s=up n (aF (gX (lv+1)) (gK lv op a)) s.tl:=by
 obtain ⟨h0,h1⟩:=lpS (a:=a) hl h;unfold up;rw [if_pos h0,h1,if_pos (show s.tl.e=0 from h0)]
 rfl
theorem LA {lv:Nat} {a x:Ex} {s:Sg} {op:UInt8} (hl:lv≤4) (h:opS lv s=some op) (hx:vl (aF (gX (lv+1)) (gK lv op a)) s.tl x):vl (gL lv a) s x:=by
 obtain ⟨h0,h1⟩:=lpS (a:=a) hl h;intro _ b r e;rw [h1] at e;exact hx h0 b r e
def DF (op:UInt8) (nm:Str):Pz Ex:=aF (gX 0) fun x=>aF (gNd [93]) fun _=>aO (.mk op nm 0 [x])
def OA:Pz Ex:=aF gNu fun v=>aO (.mk 1 [] v [])
def wW:Pz Ex:=aF gNm fun s=>cM [91] (DF 6 s) (aO (.mk 5 s 0 []))
def DA:List Tk→Bool
 | []=>false
 | t::_=>decide (t.k=3)
def kB:Pz Ex:=fun r=>if DA r then OA r else wW r
def dX:Pz Ex :=
 cM [116,114,117,101] (aO (opE 2 []))<|cM [102,97,108,115,101] (aO (opE 3 []))<|cM [110,111,119] (aO (opE 4 []))<|cM [115,105,122,101] (aF gNm fun s=>aO (.mk 8 s 0 []))<|cM [104,97,115] (aF gNm fun s=>aF (gNd [91]) fun _=>DF 7 s)<|cM [40] (aF (gX 0) fun x=>aF (gNd [41]) fun _=>aO x) kB
theorem CP {α:Type} (r:List Tk) (f:Str→Pz α):(lD r fun s q=>f s q)=aF gNm f r:=by
 unfold lD aF gNm;cases r with
 | nil=>rfl
 | cons t q =>
  simp only
  split <;> rfl
theorem qR {α:Type} (w:Str) (r:List Tk) (f:Pz α):(iV w r fun q=>f q)=aF (gNd w) (fun _=>f) r:=by
 unfold iV aF gNd
 split <;> rfl
theorem CZ {w:Str} {t:Tk} {q:List Tk} (h:isT w (t::q)=true):(t.k=2∨t.k=4)∧t.t=w:=by
 unfold isT at h;rw [Bool.and_eq_true,decide_eq_true_eq,Bool.or_eq_true,beq_iff_eq,beq_iff_eq] at h;exact h
theorem UW {w:Str} {t:Tk} {q:List Tk} (h:t.k=3):isT w (t::q)=false:=by
 cases e:isT w (t::q) with
 | false=>rfl
 | true =>
  have:=(CZ e).1;rw [h] at this
  revert this
  decide
theorem zH:fY (gX 0)=dX:=funext fun r=>by
 cases r with
 | nil=>rfl
 | cons t q =>
  by_cases h3:t.k=3
  ·have e:dX (t::q)=OA (t::q):=by
    unfold dX cM kB DA;simp only [UW h3,Bool.false_eq_true,if_false,h3,decide_true,if_true]
   rw [e];unfold fY OA aF gNu;simp only [h3,if_true]
   split <;> rfl
  ·have hl:kB (t::q)=wW (t::q):=by
    unfold kB DA;simp only [h3,decide_false,Bool.false_eq_true,if_false]
   unfold fY;simp only [h3,if_false];unfold dX cM;refine ifC rfl (ifC rfl (ifC rfl (ifC ?_ ?_)))
   ·exact CP q fun s=>aO _
   by_cases hp:isT [40] (t::q)=true
   ·have hn:isT [104,97,115] (t::q)=false:=by
     cases e:isT [104,97,115] (t::q) with
     | false=>rfl
     | true =>
      have h1:=(CZ hp).2;have h2:=(CZ e).2;rw [h1] at h2
      revert h2
      decide
    simp only [hp,hn,if_true,Bool.false_eq_true,if_false];refine Rs.bind_congr rfl fun x r2 _=>?_;exact qR [41] r2 (aO x)
   ·simp only [hp,Bool.false_eq_true,if_false];refine ifC ?_ ?_
    ·rw [List.tail_cons,← CP];unfold lD;cases q with
     | nil=>rfl
     | cons t2 q2 =>
      simp only;refine ifC ?_ rfl;rw [← qR];unfold iV;refine ifC ?_ rfl;refine Rs.bind_congr rfl fun x r4 _=>?_;exact qR [93] r4 (aO _)
    ·rw [hl];unfold wW aF gNm;simp only
     by_cases h1:t.k=1
     ·simp only [h1,if_true];show _=cM [91] (DF 6 t.t) (aO (.mk 5 t.t 0 [])) q;unfold cM;refine ifC ?_ rfl;refine Rs.bind_congr rfl fun x r4 _=>?_;exact qR [93] r4 (aO _)
     ·simp only [h1,if_false]
      rfl
section
variable {α β:Type}
theorem nI {n:Nat} {g:Pz α} {f:α→β} {s:Sg}:up n (aF g fun a=>aO (f a)) s=up n g s:=by
 unfold up aF aO
 by_cases h0:s.e=0
 ·simp only [h0,if_true];cases g s.r <;> rfl
 ·simp only [h0,if_false]
theorem mT {g:Pz α} {f:α→β} {s:Sg} {x:α} (h:vl g s x):vl (aF g fun a=>aO (f a)) s (f x):=by
 intro h0 b r e;obtain ⟨a,q,h1,h2⟩:=Rs.bind_ok e;obtain rfl:=h h0 a q h1;injection h2
theorem WX {w w':Str} {s:Sg} (h:ac w s=true) (hne:w≠w'):ac w' s=false:=by
 cases e:ac w' s with
 | false=>rfl
 | true =>
  have h1:=(AX h).2;have h2:=(AX e).2;cases hr:s.r with
  | nil=>rw [hr] at h1;cases h1
  | cons t q =>
   rw [hr] at h1 h2;exact absurd ((CZ h1).2.symm.trans (CZ h2).2) hne
theorem UP {n:Nat} {w:Str} {p:Pz α} {s:Sg} {x:α} (hp:Shr p) (hz:Cz p) (h:ac w s=true) (hx:vl p s.tl x):up n (dC w p) s=up n (dC w p) (up n p s.tl):=by
 conv=>lhs;rw [kU hp]
 rw [cQ h,aA hz hx,nI]
theorem QZ {n:Nat} {w:Str} {p:Pz α} {s:Sg} {x:α} {l:List α} (hp:Shr p) (h:ac w s=true) (hx:vl p s.tl x) (hl:vl (dC w p) (up n p s.tl) l):vl (dC w p) s (x::l):=by
 rw [kU hp];exact bY h (aC hx (mT hl))
theorem UQ {n:Nat} {w:Str} {p:Pz α} {s:Sg} (hp:Shr p) (h:ac w s=false):up n (dC w p) s=s:=by
 rw [kU hp,aK h,aZ]
theorem RA {w:Str} {p:Pz α} {s:Sg} (hp:Shr p) (h:ac w s=false):vl (dC w p) s []:=by
 rw [kU hp];exact aJ h aX
end
theorem Cz.st {b:Pz (List Sm)} (h:Cz b):Cz (gSt b):=by
 have hx:Cz gEx:=Cz.ex 0;have blk:Cz (iF b):=.bind (.nd _) fun _=>.bind h fun _=>.bind (.nd _) fun _=>.pure _;have els:Cz (qY b):=.alt blk (.pure _);have oth:Cz (jX b):=.alt blk (.bind (.nd _) fun _=>.pure _);have lst:Cz (dY gEx):=.bind (.nd _) fun _=>.alt (.pure _) (.bind hx fun _=>.bind (.many hx) fun _=>.bind (.nd _) fun _=>.pure _)
 exact .alt (.bind hx fun _=>.bind blk fun _=>.bind els fun _=>.pure _)<|.alt (.bind hx fun _=>.bind blk fun _=>.pure _)<|.alt (.bind hx fun _=>.bind (.nd _) fun _=>.bind hx fun _=>.bind oth fun _=>.pure _)<|.alt (.bind .nm fun _=>.bind (.nd _) fun _=>.bind hx fun _=>.bind oth fun _=>.pure _)<|.alt (.bind .nm fun _=>.bind (.nd _) fun _=>.bind .nm fun _=>.bind lst fun _=>.bind (.nd _) fun _=>.pure _)<|.alt (.bind hx fun _=>.bind (.nd _) fun _=>.bind .nm fun _=>.bind lst fun _=>.bind (.nd _) fun _=>.pure _)<|.alt (.bind (.nd _) fun _=>.pure _)<|.alt (.bind .nm fun _=>.bind (.nd _) fun _=>.bind hx fun _=>.bind (.nd _) fun _=>.bind (.nd _) fun _=>.pure _)<|.bind .nm fun _=>.alt (.bind hx fun _=>.bind (.nd _) fun _=>.bind (.nd _) fun _=>.bind hx fun _=>.bind (.nd _) fun _=>.pure _)
  (.bind (.nd _) fun _=>.bind hx fun _=>.bind (.nd _) fun _=>.pure _)
theorem Cz.bF:∀ f,Cz (gBF f)
 | 0=>fun r r' c e=>by unfold gBF at e;injection e with _ e;omega
 | f+1=>fun r r' c e=>by
  unfold gBF at e
  split at e
  ·cases e
  ·rcases Rs.bind_er e with e | ⟨a,q,_,e⟩
   ·exact Cz.st (Cz.bF f) _ _ _ e
   ·rcases Rs.bind_er e with e | ⟨l,q2,_,e⟩
    ·exact Cz.bF f _ _ _ e
    ·cases e
theorem Cz.b:Cz gB:=fun r r' c e=>Cz.bF _ _ _ _ e
def goB (s:Sg):Bool:=decide (s.e=0) && !isT [125] s.r
theorem WP {n:Nat} {s:Sg} (h:goB s=false):up n gB s=s∧vl gB s []:=by
 by_cases h0:s.e=0
 ·have h1:isT [125] s.r=true:=by
   unfold goB at h;rw [decide_eq_true h0,Bool.true_and] at h;simpa using h
  have e:gB s.r=.ok [] s.r:=by rw [wD,if_pos h1]
  refine ⟨?_,fun _ b r e2=>?_⟩
  ·unfold up;rw [if_pos h0,e]
  ·rw [e] at e2;injection e2
 ·exact ⟨kA h0,LB h0⟩
theorem HM {s:Sg} (h:goB s=true):s.e=0∧gB s.r=aF (gSt gB) (fun a=>aF gB fun l=>aO (a::l)) s.r:=by
 unfold goB at h;rw [Bool.and_eq_true,decide_eq_true_eq] at h;refine ⟨h.1,?_⟩;rw [wD,if_neg (by simpa using h.2)]
 rfl
theorem WO {n:Nat} {s:Sg} {x:Sm} (h:goB s=true) (hx:vl (gSt gB) s x):up n gB s=up n gB (up n (gSt gB) s):=by
 obtain ⟨h0,h1⟩:=HM h
 have e:up n gB s=up n (aF (gSt gB) (fun a=>aF gB fun l=>aO (a::l))) s:=by
  unfold up;rw [if_pos h0,if_pos h0,h1]
 rw [e,aA (Cz.st Cz.b) hx,nI]
theorem VF {n:Nat} {s:Sg} {x:Sm} {l:List Sm} (h:goB s=true) (hx:vl (gSt gB) s x) (hl:vl gB (up n (gSt gB) s) l):vl gB s (x::l):=by
 obtain ⟨h0,h1⟩:=HM h;have e:vl (aF (gSt gB) (fun a=>aF gB fun l=>aO (a::l))) s (x::l):=aC hx (mT hl);intro _ b r e2;rw [h1] at e2;exact e h0 b r e2
section
variable {α:Type}
theorem Cz.blk:Cz (iF gB):=.bind (.nd _) fun _=>.bind Cz.b fun _=>.bind (.nd _) fun _=>.pure _
theorem Cz.list {p:Pz α} (h:Cz p):Cz (dY p):=.bind (.nd _) fun _=>.alt (.pure _) (.bind h fun _=>.bind (.many h) fun _=>.bind (.nd _) fun _=>.pure _)
theorem Cz.tr:Cz gTr:=.alt (.pure _) (.bind (.nd _) fun _=>.pure _)
theorem Cz.fg:Cz gFg:=.bind .nm fun _=>.bind (.nd _) fun _=>.bind .tr fun _=>.bind (.nd _) fun _=>.pure _
theorem Cz.lk:Cz gLk:=.bind .nm fun _=>.bind (.nd _) fun _=>.bind .nm fun _=>.bind (.nd _) fun _=>.bind .nu fun _=>.bind (.nd _) fun _=>.pure _
theorem Cz.int:Cz qX:=.alt (.bind .nu fun _=>.pure _) .nu
theorem Cz.vr:Cz gVr:=.bind .nm fun _=>.bind (.nd _) fun _=>.alt (.bind (.nd _) fun _=>.bind .int fun _=>.bind (.nd _) fun _=>.pure _)<|.alt (.bind (.nd _) fun _=>.bind .tr fun _=>.bind (.nd _) fun _=>.pure _)<|.bind (.nd _) fun _=>.bind (.nd _) fun _=>.pure _
theorem Cz.hd:Cz gHd:=.bind .nm fun _=>.bind (.list .nm) fun _=>.bind .blk fun _=>.pure _
theorem Cz.vs:Cz gVs:=.many .hd
theorem Cz.vn (w:Str):Cz (gVn w):=.bind (.nn _) fun _=>.bind (.nd _) fun _=>.bind .vs fun _=>.bind (.nd _) fun _=>.pure _
theorem Cz.vm:Cz gVm:=.alt (.bind (.vn _) fun _=>.alt (.bind (.vn _) fun _=>.pure _) (.pure _)) (.pure _)
theorem Cz.cp:Cz gCp:=.bind .nm fun _=>.bind (.nd _) fun _=>.bind (.many .vr) fun _=>.bind .vs fun _=>.bind .vm fun _=>.bind (.nd _) fun _=>.pure _
theorem Cz.ft:Cz gFt:=.bind (.nd _) fun _=>.bind .nm fun _=>.bind (.nd _) fun _=>.bind (.many .fg) fun _=>.bind (.many .lk) fun _=>.bind (.many .cp) fun _=>.bind (.nd _) fun _=>.pure _
end
def Sg.cl (n:Nat) (s:Sg):Sg:=if s.r=[] then s else s.fail n 8
def sg0 (t:Str):Sg:=if 20000<t.length then ⟨[],3,0⟩ else ⟨fH t,0,0⟩
def sgZ {α:Type} (g:Pz α) (t:Str):Sg:=(up t.length g (sg0 t)).cl t.length
def Suf {α:Type} (g:Pz α):Prop:=∀ r,(∀ a r',g r=.ok a r'→r'<:+r)∧(∀ r' c,g r=.er r' c→r'<:+r)
section
variable {α β:Type}
theorem Suf.bind {g:Pz α} {f:α→Pz β} (h:Suf g) (k:∀ a,Suf (f a)):Suf (aF g f):=fun r=>by
 refine ⟨fun b r' e=>?_,fun r' c e=>?_⟩
 ·obtain ⟨a,q,h1,h2⟩:=Rs.bind_ok e;exact ((k a q).1 _ _ h2).trans ((h r).1 _ _ h1)
 ·rcases Rs.bind_er e with e | ⟨a,q,h1,h2⟩
  ·exact (h r).2 _ _ e
  ·exact ((k a q).2 _ _ h2).trans ((h r).1 _ _ h1)
theorem Suf.pure (a:α):Suf (aO a):=fun r=>⟨fun b r' e=>by injection e with _ e;rw [e];exact List.suffix_refl _,fun r' c e=>by cases e⟩
theorem Suf.alt {w:Str} {p q:Pz α} (h:Suf p) (k:Suf q):Suf (cM w p q):=fun r=>by
 refine ⟨fun b r' e=>?_,fun r' c e=>?_⟩
 ·unfold cM at e
  split at e
  ·exact ((h _).1 _ _ e).trans (List.tail_suffix r)
  ·exact (k _).1 _ _ e
 ·unfold cM at e
  split at e
  ·exact ((h _).2 _ _ e).trans (List.tail_suffix r)
  ·exact (k _).2 _ _ e
theorem Suf.nd (w:Str):Suf (gNd w):=fun r=>by
 refine ⟨fun b r' e=>?_,fun r' c e=>?_⟩
 ·unfold gNd at e
  split at e
  ·injection e with _ e;subst e;exact List.tail_suffix r
  ·cases e
 ·unfold gNd at e
  split at e
  ·cases e
  ·injection e with e _;subst e;exact List.suffix_refl _
theorem Suf.nn (w:Str):Suf (gNn w):=fun r=>by
 refine ⟨fun b r' e=>?_,fun r' c e=>?_⟩
 ·unfold gNn at e
  split at e
  ·injection e with _ e;subst e;exact List.tail_suffix r
  ·cases e
 ·unfold gNn at e
  split at e
  ·cases e
  ·injection e with e _;subst e;exact List.suffix_refl _
theorem Suf.nm:Suf gNm:=fun r=>by
 refine ⟨fun b r' e=>?_,fun r' c e=>?_⟩
 ·unfold gNm at e
  split at e
  ·cases e
  ·split at e
   ·injection e with _ e;subst e;exact List.suffix_cons _ _
   ·cases e
 ·unfold gNm at e
  split at e
  ·injection e with e _;subst e;exact List.suffix_refl _
  ·split at e
   ·cases e
   ·injection e with e _;subst e;exact List.suffix_refl _
theorem Suf.nu:Suf gNu:=fun r=>by
 refine ⟨fun b r' e=>?_,fun r' c e=>?_⟩
 ·unfold gNu at e
  split at e
  ·cases e
  ·split at e
   ·split at e
    ·injection e with _ e;subst e;exact List.suffix_cons _ _
    ·cases e
   ·cases e
 ·unfold gNu at e
  split at e
  ·injection e with e _;subst e;exact List.suffix_refl _
  ·split at e
   ·split at e
    ·cases e
    ·injection e with e _;subst e;exact List.suffix_refl _
   ·injection e with e _;subst e;exact List.suffix_refl _
theorem Suf.manyF {w:Str} {p:Pz α} (h:Suf p):∀ f,Suf (jD w p f)
 | 0=>fun r=>⟨fun b r' e=>(by unfold jD at e;cases e),fun r' c e=>(by unfold jD at e;injection e with e _;subst e;exact List.suffix_refl _)⟩
 | f+1=>.alt (.bind h fun _=>.bind (Suf.manyF h f) fun _=>.pure _) (.pure _)
theorem Suf.many {w:Str} {p:Pz α} (h:Suf p):Suf (dC w p):=fun r=>Suf.manyF h _ r
theorem Suf.up {g:Pz α} {n:Nat} {s:Sg} {ts:List Tk} (h:Suf g) (hs:s.r<:+ts):(up n g s).r<:+ts:=by
 unfold Go.Proofs.YthhoebdlfjffkaaGreatDoor.up
 split
 ·cases e:g s.r with
  | ok a r=>exact ((h _).1 _ _ e).trans hs
  | er r c=>exact ((h _).2 _ _ e).trans hs
 ·exact hs
theorem Suf.tl {s:Sg} {ts:List Tk} (hs:s.r<:+ts):s.tl.r<:+ts:=(List.tail_suffix s.r).trans hs
end
theorem Suf.ex (lv:Nat):Suf (gX lv):=by
 have st:∀ (r:List Tk),r.tail<:+r:=List.tail_suffix
 have prim:∀ rec:List Tk→Rs Ex,Suf rec→Suf (fY rec):=by
  intro rec hr r;refine ⟨fun a r' e=>?_,fun r' c e=>?_⟩
  ·unfold fY at e
   split at e
   ·cases e
   ·rename_i t q
    have fin:∀ {b:Ex} {l:List Tk},(Rs.ok b l:Rs Ex)=.ok a r'→l<:+q→r'<:+(t::q):=by
     intro b l e hl;injection e with _ e;subst e;exact hl.trans (List.suffix_cons _ _)
    split at e
    ·split at e
     ·exact fin e (List.suffix_refl _)
     ·cases e
    split at e
    ·exact fin e (List.suffix_refl _)
    split at e
    ·exact fin e (List.suffix_refl _)
    split at e
    ·exact fin e (List.suffix_refl _)
    split at e
    ·obtain ⟨t2,r2,rfl,_,e⟩:=mJ e;exact fin e (List.suffix_cons _ _)
    split at e
    ·obtain ⟨x,r2,h1,e⟩:=Rs.bind_ok e;obtain ⟨_,e⟩:=gJ e;exact fin e ((st _).trans ((hr _).1 _ _ h1))
    split at e
    ·obtain ⟨t2,r2,rfl,_,e⟩:=mJ e;obtain ⟨_,e⟩:=gJ e;obtain ⟨x,r4,h1,e⟩:=Rs.bind_ok e;obtain ⟨_,e⟩:=gJ e;exact fin e ((st _).trans (((hr _).1 _ _ h1).trans ((st _).trans (List.suffix_cons _ _))))
    split at e
    ·split at e
     ·obtain ⟨x,r4,h1,e⟩:=Rs.bind_ok e;obtain ⟨_,e⟩:=gJ e;exact fin e ((st _).trans (((hr _).1 _ _ h1).trans (st _)))
     ·exact fin e (List.suffix_refl _)
    ·cases e
  ·unfold fY at e
   split at e
   ·injection e with e _;subst e;exact List.suffix_refl _
   ·rename_i t q;have q0:q<:+(t::q):=List.suffix_cons _ _
    have nd:∀ {w:Str} {z:List Tk} {f:List Tk→Rs Ex},iV w z f=.er r' c→z<:+(t::q)→(∀ y,y<:+(t::q)→f y=.er r' c→r'<:+(t::q))→r'<:+(t::q):=by
     intro w z f e hz hf;unfold iV at e
     split at e
     ·exact hf _ ((st _).trans hz) e
     ·injection e with e _;subst e;exact hz
    have nm:∀ {z:List Tk} {f:Str→List Tk→Rs Ex},lD z f=.er r' c→z<:+(t::q)→(∀ x y,y<:+(t::q)→f x y=.er r' c→r'<:+(t::q))→r'<:+(t::q):=by
     intro z f e hz hf;unfold lD at e
     split at e
     ·injection e with e _;subst e;exact hz
     ·split at e
      ·exact hf _ _ ((List.suffix_cons _ _).trans hz) e
      ·injection e with e _;subst e;exact hz
    have rb:∀ {z:List Tk} {f:Ex→List Tk→Rs Ex},(rec z).bind f=.er r' c→z<:+(t::q)→(∀ x y,y<:+(t::q)→f x y=.er r' c→r'<:+(t::q))→r'<:+(t::q):=by
     intro z f e hz hf;rcases Rs.bind_er e with e | ⟨a,y,h1,e⟩
     ·exact ((hr _).2 _ _ e).trans hz
     ·exact hf _ _ (((hr _).1 _ _ h1).trans hz) e
    split at e
    ·split at e
     ·cases e
     ·injection e with e _;subst e;exact List.suffix_refl _
    split at e
    ·cases e
    split at e
    ·cases e
    split at e
    ·cases e
    split at e
    ·exact nm e q0 fun _ _ _ e=>by cases e
    split at e
    ·exact rb e q0 fun _ _ hy e=>nd e hy fun _ _ e=>by cases e
    split at e
    ·exact nm e q0 fun _ _ hy e=>nd e hy fun _ hy e=>rb e hy fun _ _ hy e=>nd e hy fun _ _ e=>by cases e
    split at e
    ·split at e
     ·exact rb e ((st _).trans q0) fun _ _ hy e=>nd e hy fun _ _ e=>by cases e
     ·cases e
    ·injection e with e _;subst e;exact List.suffix_refl _
 have key:∀ f,(∀ lv,Suf (pE f (.ex lv)))∧(∀ lv a,Suf (pE f (.lp lv a))):=by
  intro f;induction f with
  | zero=>exact ⟨fun lv r=>⟨fun a r' e=>(by unfold pE at e;cases e),fun r' c e=>(by unfold pE at e;injection e with e _;subst e;exact List.suffix_refl _)⟩,fun lv a r=>⟨fun a r' e=>(by unfold pE at e;cases e),fun r' c e=>(by unfold pE at e;injection e with e _;subst e;exact List.suffix_refl _)⟩⟩
  | succ f ih =>
   obtain ⟨ih1,ih2⟩:=ih
   have un:∀ op,Suf (fun r=>(pE f (.ex 5) r.tail).bind fun x r2=>.ok (opE op [x]) r2):=by
    intro op r;refine ⟨fun a r' e=>?_,fun r' c e=>?_⟩
    ·obtain ⟨x,q,h1,e⟩:=Rs.bind_ok e;injection e with _ e
     subst e;exact ((ih1 _ _).1 _ _ h1).trans (st _)
    ·rcases Rs.bind_er e with e | ⟨x,q,_,e⟩
     ·exact ((ih1 _ _).2 _ _ e).trans (st _)
     ·cases e
   refine ⟨fun lv r=>?_,fun lv a r=>?_⟩
   ·rw [vL]
    split
    ·exact Suf.bind (ih1 _) (fun a=>ih2 lv a) r
    split
    ·exact un 9 r
    split
    ·exact un 10 r
    ·exact prim _ (ih1 0) r
   ·rw [vK]
    split
    ·exact Suf.pure a r
    ·rename_i op _
     have:Suf (fun q=>(pE f (.ex (lv+1)) q).bind fun b r2=>if lv=2 then .ok (opE op [a,b]) r2 else pE f (.lp lv (opE op [a,b])) r2):=by
      refine Suf.bind (ih1 _) fun b=>?_;intro q;dsimp only
      split
      ·exact Suf.pure _ q
      ·exact ih2 _ _ q
     exact ⟨fun b r' e=>((this r.tail).1 _ _ e).trans (st _),fun r' c e=>((this r.tail).2 _ _ e).trans (st _)⟩
 exact fun r=>(key _).1 lv r
def tkH (n:Nat):List Tk→Tk
 | []=>⟨0,[],n⟩
 | t::_=>t
theorem VT (n:Nat) (r:List Tk):(tkH n r).o=QT n r:=by cases r <;> rfl
def tcB (n:Nat) (w:Str) (s:Sg):Bool:=decide (s.e=0) && decide ((tkH n s.r).t=w)
theorem SR:∀ w∈words++symbols,w≠[]:=by decide +kernel
theorem GX {r ts:List Tk} {P:Tk→Prop} (hg:∀ t∈ts,P t) (hs:r<:+ts):∀ t∈r,P t:=fun t h=>hg t (hs.subset h)
theorem ED {n:Nat} {w:Str} {s:Sg} {ts:List Tk} (hg:∀ t∈ts,Tkg t) (hs:s.r<:+ts) (hw:w∈words∨w∈symbols):tcB n w s=ac w s:=by
 unfold tcB ac
 congr 1
 have h:=GX hg hs;cases e:s.r with
 | nil =>
  have:=SR w (List.mem_append.2 hw);show decide ([]=w)=false;exact decide_eq_false fun k=>this k.symm
 | cons t q =>
  rw [RH (h t (by rw [e];exact List.mem_cons_self ..)) hw]
  rfl
def acS (w:Str) (s:Sg):Sg:=if ac w s then s.tl else s
theorem fJ {w:Str} {s:Sg} (h:ac w s=true):acS w s=s.tl:=by unfold acS;rw [if_pos h]
theorem fK {w:Str} {s:Sg} (h:ac w s=false):acS w s=s:=by unfold acS;rw [if_neg (by rw [h];decide)]
theorem IC {w:Str} {s:Sg} {ts:List Tk} (hs:s.r<:+ts):(acS w s).r<:+ts:=by
 unfold acS
 split
 ·exact Suf.tl hs
 ·exact hs
theorem WG {n:Nat} {w:Str} {s:Sg}:up n (gNd w) s=if ac w s then s.tl else s.fail n 8:=by
 split
 ·rename_i h;exact yX h
 ·rename_i h;exact TM (by simpa using h)
theorem WC {n:Nat} {w:Str} {s:Sg} {ts:List Tk} (hg:∀ t∈ts,Tkg t) (hs:s.r<:+ts) (hw:w=[50]∨w=[51]):up n (gNn w) s=if tcB n w s then s.tl else s.fail n 8:=by
 have h:=GX hg hs
 have e1:isN w s.r=decide ((tkH n s.r).t=w):=by
  cases e:s.r with
  | nil =>
   show false=decide ([]=w);exact (decide_eq_false fun k=>by rcases hw with rfl | rfl <;> cases k).symm
  | cons t q =>
   rw [RI (h t (by rw [e];exact List.mem_cons_self ..)) hw]
   rfl
 unfold up gNn tcB Sg.fail Sg.tl;rw [e1]
 by_cases h0:s.e=0
 ·cases decide ((tkH n s.r).t=w) <;> simp [h0]
 ·simp [h0]
theorem SZ {n:Nat} {s:Sg}:up n gNm s=if s.e=0∧(tkH n s.r).k=1 then s.tl else s.fail n 8:=by
 unfold up gNm Sg.fail Sg.tl
 by_cases h0:s.e=0
 ·cases e:s.r with
  | nil =>
   have:¬ ((tkH n []).k=1):=by show ¬ ((0:UInt8)=1);decide
   simp [h0,this]
  | cons t q =>
   have hk:(tkH n (t::q)).k=t.k:=rfl
   by_cases h1:t.k=1 <;> simp [h0,hk,h1]
 ·simp [h0]
theorem NA {n:Nat} {s:Sg}:vl gNm s (if s.e=0∧(tkH n s.r).k=1 then (tkH n s.r).t else []):=by
 intro h0 a r e;unfold gNm at e;cases hr:s.r with
 | nil=>rw [hr] at e;cases e
 | cons t q =>
  rw [hr] at e;have hk:(tkH n (t::q)).k=t.k:=rfl
  by_cases h1:t.k=1
  ·simp only [h1,if_true] at e;injection e with e _
   simp [h0,hk,h1,← e,tkH]
  ·simp only [h1,if_false] at e;cases e
theorem KN {op:UInt8} {nm:Str} {n:Int64}:(Ex.mk op nm n []).depth=1:=by rw [fW];simp [Ex.deeps]
theorem RX {op:UInt8} {nm:Str} {n:Int64} {a:Ex}:(Ex.mk op nm n [a]).depth=a.depth+1:=by rw [fW];simp [Ex.deeps]
theorem XL {op:UInt8} {nm:Str} {n:Int64} {a b:Ex}:(Ex.mk op nm n [a,b]).depth=max a.depth b.depth+1:=by rw [fW];simp [Ex.deeps]
theorem BZ {rec:List Tk→Rs Ex} (hr:∀ q a r',rec q=.ok a r'→a.depth+r'.length≤q.length) {r:List Tk} {a:Ex} {r':List Tk} (h:fY rec r=.ok a r'):a.depth+r'.length≤r.length:=by
 unfold fY at h;cases r with
 | nil=>cases h
 | cons t q =>
  simp only at h
  have fin:∀ {b:Ex} {l:List Tk},(Rs.ok b l:Rs Ex)=.ok a r'→b.depth+l.length≤q.length+1→a.depth+r'.length≤(t::q).length:=by
   intro b l e hl;injection e with e1 e2
   subst e1;subst e2;rw [List.length_cons];omega
  split at h
  ·split at h
   ·exact fin h (by rw [KN];omega)
   ·cases h
  split at h
  ·exact fin h (by unfold opE;rw [KN];omega)
  split at h
  ·exact fin h (by unfold opE;rw [KN];omega)
  split at h
  ·exact fin h (by unfold opE;rw [KN];omega)
  split at h
  ·obtain ⟨t2,r2,rfl,_,h⟩:=mJ h;exact fin h (by rw [KN];simp;omega)
  split at h
  ·obtain ⟨x,r2,h1,h⟩:=Rs.bind_ok h;obtain ⟨h2,h⟩:=gJ h;have:=hr _ _ _ h1;have:=eD h2;exact fin h (by omega)
  split at h
  ·obtain ⟨t2,r2,rfl,_,h⟩:=mJ h;obtain ⟨h2,h⟩:=gJ h;obtain ⟨x,r4,h1,h⟩:=Rs.bind_ok h;obtain ⟨h3,h⟩:=gJ h;have:=hr _ _ _ h1;have:=eD h2;have:=eD h3;exact fin h (by rw [RX];simp;omega)
  split at h
  ·split at h
   ·rename_i h2;obtain ⟨x,r4,h1,h⟩:=Rs.bind_ok h;obtain ⟨h3,h⟩:=gJ h;have:=hr _ _ _ h1;have:=eD h2;have:=eD h3;exact fin h (by rw [RX];omega)
   ·exact fin h (by rw [KN];omega)
  ·cases h
theorem CI:∀ f,(∀ lv r a r',pE f (.ex lv) r=.ok a r'→a.depth+r'.length≤r.length)∧(∀ lv x r a r' K,pE f (.lp lv x) r=.ok a r'→x.depth+r.length≤K→a.depth+r'.length≤K)
 | 0=>⟨fun lv r a r' e=>(by unfold pE at e;cases e),fun lv x r a r' K e=>(by unfold pE at e;cases e)⟩
 | f+1=>by
  obtain ⟨ih1,ih2⟩:=CI f;refine ⟨fun lv r a r' h=>?_,fun lv x r a r' K h hK=>?_⟩
  ·rw [vL] at h
   split at h
   ·obtain ⟨b,q,h1,h2⟩:=Rs.bind_ok h;exact ih2 _ _ _ _ _ _ h2 (ih1 _ _ _ _ h1)
   split at h
   ·rename_i e;obtain ⟨b,q,h1,h2⟩:=Rs.bind_ok h;have:=ih1 _ _ _ _ h1;have:=eD e;injection h2 with e1 e2;subst e1;subst e2;unfold opE;rw [RX];omega
   split at h
   ·rename_i e;obtain ⟨b,q,h1,h2⟩:=Rs.bind_ok h;have:=ih1 _ _ _ _ h1;have:=eD e;injection h2 with e1 e2;subst e1;subst e2;unfold opE;rw [RX];omega
   ·exact BZ (fun q b r2 e=>ih1 _ _ _ _ e) h
  ·rw [vK] at h
   split at h
   ·injection h with e1 e2;subst e1;subst e2;exact hK
   ·rename_i op e;obtain ⟨b,q,h1,h2⟩:=Rs.bind_ok h;have h3:=ih1 _ _ _ _ h1;have:=tL e;have h4:(opE op [x,b]).depth+q.length≤K:=by unfold opE;rw [XL];omega
    split at h2
    ·injection h2 with e1 e2;subst e1;subst e2;exact h4
    ·exact ih2 _ _ _ _ _ _ h2 h4
theorem DE {lv:Nat} {r r':List Tk} {a:Ex} (h:gX lv r=.ok a r'):a.depth+r'.length≤r.length:=(CI _).1 _ _ _ _ h
theorem LC {t:Str} {x:Ex} (hx:vl (gX 0) (sg0 t) x) (h:(sgZ (gX 0) t).e=0):x.depth≤20000:=by
 have h0:(sg0 t).e=0:=by
  by_cases k:(sg0 t).e=0
  ·exact k
  ·unfold sgZ at h;rw [kA k] at h;unfold Sg.cl at h
   split at h
   ·exact h
   ·unfold Sg.fail at h;rw [if_neg k] at h;exact h
 cases hg:gX 0 (sg0 t).r with
 | er r c =>
  have k:=FS (n:=t.length) (Cz.ex 0) hg h0;unfold sgZ Sg.cl at h
  split at h
  ·exact absurd h k
  ·unfold Sg.fail at h;rw [if_neg k] at h;exact absurd h k
 | ok a r =>
  have:=DE hg;rw [hx h0 a r hg]
  have hl:(sg0 t).r.length≤20000:=by
   unfold sg0
   split
   ·simp
   ·have:=nU t;show (fH t).length≤20000;omega
  omega
end Go.Proofs.YthhoebdlfjffkaaGreatDoor
namespace Go.Sx
open Go.RowKit Go.Par
inductive Ty where
 | int (k:IntKind)
 | bool
 | strg
 | seq (τ:Ty)
 | str (fs:List Ty)
 | arr (n:Nat) (τ:Ty)
mutual
def Ty.cells:Ty→Nat
 | .int _=>1
 | .bool=>1
 | .strg=>1
 | .seq _=>1
 | .str fs=>Ty.cellsL fs
 | .arr n τ=>n * Ty.cells τ
def Ty.cellsL:List Ty→Nat
 | []=>0
 | τ::r=>Ty.cells τ+Ty.cellsL r
end
mutual
def Ty.at (P:Program):Ty→TypeId→Bool
 | .int k,t=>match P.underlying t with | some (.int k')=>decide (k'=k) | _=>false
 | .bool,t=>match P.underlying t with | some .bool=>true | _=>false
 | .strg,t=>match P.underlying t with | some .string=>true | _=>false
 | .seq τ,t=>match P.underlying t with | some (.slice e)=>Ty.at P τ e && decide (P.cellsOf e=Ty.cells τ) && decide (0<Ty.cells τ) | _=>false
 | .str fs,t=>match P.underlying t with | some (.struct g)=>decide (P.cellsOf t=Ty.cellsL fs) && Ty.atL P fs g.toList 0 | _=>false
 | .arr n τ,t=>match P.underlying t with | some (.array m e)=>decide (m=n) && Ty.at P τ e && decide (P.cellsOf e=Ty.cells τ) && decide (P.cellsOf t=n * Ty.cells τ) | _=>false
def Ty.atL (P:Program):List Ty→List Field→Nat→Bool
 | [],[],_=>true
 | τ::r,f::g,o=>Ty.at P τ f.type && decide (f.offset=o) && decide (P.cellsOf f.type=Ty.cells τ) && Ty.atL P r g (o+Ty.cells τ)
 | _,_,_=>false
end
mutual
def Ty.has:Ty→D→Prop
 | .int k,d=>∃ n,d=.val (.int k n)∧(Lit.int k n).wf=true
 | .bool,d=>∃ b,d=.val (.bool b)
 | .strg,d=>∃ s:ByteArray,d=.any (.string s)
 | .seq τ,d=>∃ ds,d=.seq (Ty.cells τ) ds∧∀ x∈ds,Ty.has τ x
 | .str fs,d=>∃ ds,d=.str ds∧Ty.hasL fs ds
 | .arr _ _,_=>False
def Ty.hasL:List Ty→List D→Prop
 | [],ds=>ds=[]
 | τ::r,ds=>∃ d q,ds=d::q∧Ty.has τ d∧Ty.hasL r q
end
mutual
def Ty.opn:Ty→Bool
 | .int _=>true
 | .bool=>true
 | .strg=>true
 | .seq τ=>Ty.opn τ
 | .str fs=>Ty.opnL fs
 | .arr _ _=>false
def Ty.opnL:List Ty→Bool
 | []=>true
 | τ::r=>Ty.opn τ && Ty.opnL r
end
mutual
def Ty.pln:Ty→Bool
 | .int _=>true
 | .bool=>true
 | .strg=>true
 | .seq _=>false
 | .str fs=>Ty.plnL fs
 | .arr _ τ=>Ty.pln τ
def Ty.plnL:List Ty→Bool
 | []=>true
 | τ::r=>Ty.pln τ && Ty.plnL r
end
def AW (W:World):Hp:=fun b=>W.heap[b]?
theorem PI (W:World):Agr (AW W) W:=fun _ _ h=>h
theorem wN {W:World} {a:Addr} {v:Value} (h:W.cell? a=some v):∃ cs t m,W.heap[a.block]? = some (.cells cs t m)∧a.spot=Option.none∧cs[a.off]? = some v:=by
 unfold World.cell? at h
 split at h
 ·rename_i cs t m e
  split at h
  ·cases h
  ·rename_i hs;exact ⟨cs,t,m,e,by simpa using hs,h⟩
 ·cases h
theorem SL (a:Addr) (x y:Nat):(a.add x).add y=a.add (x+y):=by
 by_cases hx:x=0
 ·subst hx;simp [Addr.add]
 ·by_cases hy:y=0
  ·subst hy;simp [Addr.add]
  ·simp [Addr.add,hx,hy,Nat.add_assoc]
section
variable {H:Type} {enc:TypeId × Value→H} {P:Program} {base:Nat} {sp:Nat→Bool} {held:Bool}
mutual
theorem Ty.opens (W:World):∀ (τ:Ty) (t:TypeId) (fuel:Nat) (cs:List Value) (x:DataW H × List MemPlace),Ty.at P τ t=true→Ty.opn τ=true→DataW.trod enc P W base sp held fuel t cs=some x→∃ d,Ty.has τ d∧Rep (AW W) d cs
 | .int k,t,fuel,cs,x,ha,_,h=>by
  unfold Ty.at at ha
  split at ha
  ·rename_i k' hu;obtain rfl:k'=k:=by simpa using ha
   obtain ⟨n,rfl,_,hw⟩:=DataW.trod_int hu h;refine ⟨.val (.int k' n),?_,?_⟩
   ·unfold Ty.has;exact ⟨n,rfl,hw⟩
   ·unfold Rep;exact ⟨rfl,rfl,trivial⟩
  ·cases ha
 | .bool,t,fuel,cs,x,ha,_,h=>by
  unfold Ty.at at ha
  split at ha
  ·rename_i hu;obtain ⟨b,rfl,_⟩:=DataW.trod_bool hu h;refine ⟨.val (.bool b),?_,?_⟩
   ·unfold Ty.has;exact ⟨b,rfl⟩
   ·unfold Rep;exact ⟨rfl,rfl,trivial⟩
  ·cases ha
 | .strg,t,fuel,cs,x,ha,_,h=>by
  unfold Ty.at at ha
  split at ha
  ·rename_i hu;obtain ⟨s,rfl,_⟩:=DataW.trod_string hu h;refine ⟨.any (.string s),?_,?_⟩
   ·unfold Ty.has;exact ⟨s,rfl⟩
   ·unfold Rep;exact ⟨rfl,rfl⟩
  ·cases ha
 | .arr _ _,_,_,_,_,_,ho,_=>by simp [Ty.opn] at ho
 | .str fs,t,fuel,cs,x,ha,ho,h=>by
  unfold Ty.at at ha
  split at ha
  ·rename_i g hu;simp only [Bool.and_eq_true,decide_eq_true_eq] at ha;unfold Ty.opn at ho;obtain ⟨xs,n,_,rfl,hl,hlen,hf⟩:=DataW.trod_struct hu h
   obtain ⟨ds,h1,h2⟩:=Ty.opensL W fs g.toList 0 n cs ha.2 ho (by rw [hl,ha.1];omega) (fun i f hi=>by
    have hi2:g[i]? = some f:=by simpa using hi
    have:=hf i f hi2;have hlt:i<xs.length:=by rw [hlen];exact (Array.getElem?_eq_some_iff.1 hi2).1
    rw [List.getElem?_eq_getElem hlt] at this;exact ⟨_,this⟩)
   refine ⟨.str ds,?_,?_⟩
   ·unfold Ty.has;exact ⟨ds,rfl,h1⟩
   ·unfold Rep;simpa using h2
  ·cases ha
 | .seq τ,t,fuel,cs,x,ha,ho,h=>by
  unfold Ty.at at ha
  split at ha
  ·rename_i e hu;simp only [Bool.and_eq_true,decide_eq_true_eq] at ha;obtain ⟨⟨ha,hz⟩,h0⟩:=ha;unfold Ty.opn at ho;rcases Go.Deep.open_slice hu h with ⟨rfl,-⟩ | ⟨a,len,cap,m,n,D,Pl,rfl,-,hl,hm,hmm,-,hi⟩
   ·refine ⟨.seq (Ty.cells τ) [],?_,.empty (by simp [maxLen])⟩;unfold Ty.has;exact ⟨[],rfl,by simp⟩
   have hlm:len≤m:=by rw [hmm];split <;> omega
   have key:∀ q,q≤len→∃ ds l,ds.length=q∧(∀ x∈ds,Ty.has τ x)∧aL (AW W) (Ty.cells τ) ds l∧l.length=q * Ty.cells τ∧∀ (j:Nat) u,l[j]? = some u→W.cell? (a.add j)=some u:=by
    intro q;induction q with
    | zero=>intro _;exact ⟨[],[],rfl,by simp,aL.nil,by simp,by simp⟩
    | succ q ih =>
     intro hq;obtain ⟨ds,l,h1,h2,h3,h4,h5⟩:=ih (by omega);obtain ⟨cs',hc,ht⟩:=hi q (by omega);rw [hz] at hc;obtain ⟨_,hcl,hat⟩:=World.cells?_some hc;obtain ⟨d,hd,hr⟩:=Ty.opens W τ e n cs' _ ha ho ht;refine ⟨ds++[d],l++cs',by simp [h1],?_,h3.snoc hr hcl,by rw [List.length_append,h4,hcl,Nat.succ_mul],?_⟩
     ·intro x hx;rcases List.mem_append.1 hx with hx | hx
      ·exact h2 x hx
      ·rw [List.mem_singleton.1 hx];exact hd
     ·intro j u hj
      by_cases hjl:j<l.length
      ·rw [List.getElem?_append_left hjl] at hj;exact h5 j u hj
      ·rw [List.getElem?_append_right (by omega)] at hj;have hjc:=(List.getElem?_eq_some_iff.1 hj).1;have:=hat (j - l.length) (by omega);rw [hj] at this;have h9:q * Ty.cells τ+(j - l.length)=j:=by omega
       have h10:(a.add (q * Ty.cells τ)).add (j - l.length)=a.add j:=by rw [SL,h9]
       rw [← h10];exact this
   obtain ⟨ds,l,h1,h2,h3,h4,h5⟩:=key len (Nat.le_refl _);refine ⟨.seq (Ty.cells τ) ds,?_,?_⟩
   ·unfold Ty.has;exact ⟨ds,rfl,h2⟩
   by_cases hl0:len=0
   ·subst hl0;obtain rfl:=List.eq_nil_of_length_eq_zero h1;exact .empty hm
   ·have hlp:0<l.length:=by rw [h4];exact Nat.mul_pos (by omega) h0
    have hc0:=h5 0 _ (List.getElem?_eq_getElem hlp);rw [show a.add 0=a by simp [Addr.add]] at hc0;obtain ⟨arr,t',mk,hb,hs,_⟩:=wN hc0;obtain ⟨ab,ao,ap⟩:=a;simp only at hs hb;subst hs;refine .mk ⟨arr,t',mk,hb,fun j u hu=>?_⟩ h3 h1 hl hm;have h6:=h5 j u hu;rw [Addr.add_lit] at h6;obtain ⟨arr',t'',mk',hb',_,h7⟩:=wN h6;have e2:=Option.some.inj (hb.symm.trans hb');injection e2 with e3
    subst e3;exact h7
  ·cases ha
theorem Ty.opensL (W:World):∀ (fs:List Ty) (g:List Field) (o n:Nat) (cs:List Value),Ty.atL P fs g o=true→Ty.opnL fs=true→cs.length=o+Ty.cellsL fs →
 (∀ (i:Nat) f,g[i]? = some f→∃ y,DataW.trod enc P W base sp held n f.type ((cs.drop f.offset).take (P.cellsOf f.type))=some y)→∃ ds,Ty.hasL fs ds∧iZ (AW W) ds (cs.drop o)
 | [],[],o,n,cs,_,_,hl,_=>by
  refine ⟨[],by unfold Ty.hasL;rfl,?_⟩;unfold iZ;exact List.drop_of_length_le (by simp only [Ty.cellsL] at hl;omega)
 | [],_::_,_,_,_,ha,_,_,_=>by simp [Ty.atL] at ha
 | _::_,[],_,_,_,ha,_,_,_=>by simp [Ty.atL] at ha
 | τ::r,f::g,o,n,cs,ha,ho,hl,hf=>by
  unfold Ty.atL at ha;unfold Ty.opnL at ho;simp only [Bool.and_eq_true,decide_eq_true_eq] at ha ho;obtain ⟨⟨⟨a1,a2⟩,a3⟩,a4⟩:=ha;obtain ⟨y,hy⟩:=hf 0 f rfl;rw [a2,a3] at hy;obtain ⟨d,h1,h2⟩:=Ty.opens W τ f.type n _ y a1 ho.1 hy;unfold Ty.cellsL at hl;obtain ⟨ds,h3,h4⟩:=Ty.opensL W r g (o+Ty.cells τ) n cs a4 ho.2 (by omega) (fun i f' hi=>hf (i+1) f' (by simpa using hi));refine ⟨d::ds,by unfold Ty.hasL;exact ⟨d,ds,rfl,h1,h3⟩,?_⟩;unfold iZ;exact ⟨_,_,by rw [← List.drop_drop,List.take_append_drop],h2,h4⟩
end
mutual
def sY:DataW H→List Value
 | .lit (.int k n)=>[.int k n]
 | .lit (.bool b)=>[.bool b]
 | .lit (.string l)=>[.string ⟨l.toArray⟩]
 | .agg ps=>nY ps
 | _=>[]
def nY:List (DataW H)→List Value
 | []=>[]
 | d::r=>sY d++nY r
end
mutual
theorem Ty.flat (W:World):∀ (τ:Ty) (t:TypeId) (fuel:Nat) (cs:List Value) (x:DataW H × List MemPlace),Ty.at P τ t=true→Ty.pln τ=true→DataW.trod enc P W base sp held fuel t cs=some x→cs=sY x.1
 | .int k,t,fuel,cs,x,ha,_,h=>by
  unfold Ty.at at ha
  split at ha
  ·rename_i k' hu;obtain ⟨n,rfl,rfl,hw⟩:=DataW.trod_int hu h;simp only [sY]
  ·cases ha
 | .bool,t,fuel,cs,x,ha,_,h=>by
  unfold Ty.at at ha
  split at ha
  ·rename_i hu;obtain ⟨b,rfl,rfl⟩:=DataW.trod_bool hu h;simp only [sY]
  ·cases ha
 | .strg,t,fuel,cs,x,ha,_,h=>by
  unfold Ty.at at ha
  split at ha
  ·rename_i hu;obtain ⟨s,rfl,rfl,_⟩:=DataW.trod_string hu h;simp only [sY]
  ·cases ha
 | .seq _,_,_,_,_,_,ho,_=>by simp [Ty.pln] at ho
 | .str fs,t,fuel,cs,x,ha,ho,h=>by
  unfold Ty.at at ha
  split at ha
  ·rename_i g hu;simp only [Bool.and_eq_true,decide_eq_true_eq] at ha;unfold Ty.pln at ho;obtain ⟨xs,n,_,rfl,hl,hlen,hf⟩:=DataW.trod_struct hu h;have h2:=Ty.flatL W fs g.toList 0 n cs xs ha.2 ho (by rw [hl,ha.1];omega) (by simpa using hlen) (fun i f hi=>hf i f (by simpa using hi));simpa [sY] using h2
  ·cases ha
 | .arr k τ,t,fuel,cs,x,ha,ho,h=>by
  unfold Ty.at at ha
  split at ha
  ·rename_i m e hu;simp only [Bool.and_eq_true,decide_eq_true_eq] at ha;obtain ⟨⟨⟨hm,ha⟩,hz⟩,hct⟩:=ha;subst hm;unfold Ty.pln at ho;obtain ⟨xs,n,_,rfl,hl,hlen,hf⟩:=DataW.trod_array hu h
   have key:∀ (xs:List (DataW H × List MemPlace)) (cs:List Value),cs.length=xs.length * Ty.cells τ→(∀ i,i<xs.length→DataW.trod enc P W base sp held n e ((cs.drop (i * Ty.cells τ)).take (Ty.cells τ))=xs[i]?)→cs=nY (xs.map (·.1)):=by
    intro xs;induction xs with
    | nil=>intro cs hc _;simp at hc;simp [hc,nY]
    | cons y r ih =>
     intro cs hc hi;have h0:=hi 0 (by simp);simp only [Nat.zero_mul,List.drop_zero,List.getElem?_cons_zero] at h0;have e0:=Ty.flat W τ e n _ y ha ho h0
     have e1:=ih (cs.drop (Ty.cells τ)) (by rw [List.length_drop,hc,List.length_cons,Nat.succ_mul];omega) (fun i hlt=>by
      have:=hi (i+1) (by simp;omega);rw [List.getElem?_cons_succ] at this;rw [← this,List.drop_drop,show Ty.cells τ+i * Ty.cells τ=(i+1) * Ty.cells τ by rw [Nat.succ_mul];omega])
     simp only [List.map_cons,nY];rw [← e0,← e1,List.take_append_drop]
   have h2:=key xs cs (by rw [hl,hct,hlen]) (fun i hlt=>by
    have:=hf i (by omega);rw [hz] at this;exact this)
   simpa [sY] using h2
  ·cases ha
theorem Ty.flatL (W:World):∀ (fs:List Ty) (g:List Field) (o n:Nat) (cs:List Value) (xs:List (DataW H × List MemPlace)),Ty.atL P fs g o=true→Ty.plnL fs=true→cs.length=o+Ty.cellsL fs→xs.length=g.length →
 (∀ (i:Nat) f,g[i]? = some f→DataW.trod enc P W base sp held n f.type ((cs.drop f.offset).take (P.cellsOf f.type))=xs[i]?)→cs.drop o=nY (xs.map (·.1))
 | [],[],o,n,cs,xs,_,_,hl,hx,_=>by
  obtain rfl:=List.eq_nil_of_length_eq_zero hx;simp only [List.map_nil,nY];exact List.drop_of_length_le (by simp only [Ty.cellsL] at hl;omega)
 | [],_::_,_,_,_,_,ha,_,_,_,_=>by simp [Ty.atL] at ha
 | _::_,[],_,_,_,_,ha,_,_,_,_=>by simp [Ty.atL] at ha
 | τ::r,f::g,o,n,cs,[],ha,ho,hl,hx,hf=>by simp at hx
 | τ::r,f::g,o,n,cs,y::xs,ha,ho,hl,hx,hf=>by
  unfold Ty.atL at ha;unfold Ty.plnL at ho;simp only [Bool.and_eq_true,decide_eq_true_eq] at ha ho;obtain ⟨⟨⟨a1,a2⟩,a3⟩,a4⟩:=ha;have hy:=hf 0 f rfl;rw [a2,a3,List.getElem?_cons_zero] at hy;have e0:=Ty.flat W τ f.type n _ y a1 ho.1 hy;unfold Ty.cellsL at hl
  have e1:=Ty.flatL W r g (o+Ty.cells τ) n cs xs a4 ho.2 (by omega) (by simpa using hx) (fun i f' hi=>by
   have:=hf (i+1) f' (by simpa using hi);rw [List.getElem?_cons_succ] at this;exact this)
  simp only [List.map_cons,nY];rw [← e0,← e1,← List.drop_drop,List.take_append_drop]
end
end
theorem qU {P:Program} {W:World} {name:String} {dat:DataW Unit} {rest:List (String × DataW Unit)} {g:Nat} {t:TypeId} (τ:Ty) (cs:List Value)
 (hg:P.globalNamed name=some g) (hty:(P.globals[g]?).map (·.type)=some t) (ha:Ty.at P τ t=true) (hp:Ty.pln τ=true) (hc:sY dat=cs) (h:laidMet P ((name,dat)::rest) W):dS (AW W) g 0 cs:=by
 obtain ⟨ps,⟨g',t',cs',fuel,p,q,hg',ht',hvar,hd,_,_⟩,_⟩:=h;obtain rfl:=Option.some.inj (hg.symm.trans hg');obtain rfl:=Option.some.inj (hty.symm.trans ht');have e:=Ty.flat W τ t fuel cs'.toList _ ha hp hd;dsimp only at e;rw [hc] at e;unfold World.var? at hvar;rw [hg] at hvar;simp only [Option.bind_some] at hvar
 split at hvar
 ·rename_i arr T m hb;refine ⟨arr,T,m,hb,fun j u hu=>?_⟩;obtain rfl:=Option.some.inj hvar;rw [Nat.zero_add];rw [← e] at hu;simpa using hu
 ·cases hvar
theorem HB {α β:Type} {f:α→β}:∀ {ds:List β},(∀ x∈ds,∃ y,x=f y)→∃ l:List α,ds=l.map f
 | [],_=>⟨[],rfl⟩
 | d::r,h=>by
  obtain ⟨y,rfl⟩:=h d (.head _);obtain ⟨l,rfl⟩:=HB (ds:=r) fun x hx=>h x (.tail _ hx);exact ⟨y::l,rfl⟩
theorem VB {n:Int} (h:(Lit.int .u8 n).wf=true):∃ x:UInt8,n=x.toNat:=by
 have e1:IntKind.u8.min=0:=rfl;have e2:IntKind.u8.max=255:=rfl;simp only [Lit.wf,e1,e2,Bool.and_eq_true,decide_eq_true_eq] at h;exact ⟨UInt8.ofNat n.toNat,by simp [UInt8.toNat_ofNat'];omega⟩
end Go.Sx
/- Drawn regions with several heavy operations that do not wait for one another: the light ones are decided as early as they can, the heavy ones in every order. -/
namespace Go.Sx
open Go.RowKit Go.Par
inductive Pi0 where
 | done
 | no
 | light (i:Nat) (r:Pi0)
 | alt (i k:Nat) (r q:Pi0)
inductive PlT where
 | done
 | no
 | light (i:Nat) (o:Oper) (r:PlT)
 | alt (i k:Nat) (o:Oper) (r q:PlT)
def kC (l:List Oper):Pi0→PlT
 | .done=>.done
 | .no=>.no
 | .light i r=>.light i l[i]! (kC l r)
 | .alt i k r q=>.alt i k l[i]! (kC l r) (kC l q)
def okT (ops:Array Oper) (n:Nat):List Nat→List Nat→Pi0→Bool
 | D,A,.done=>A.isEmpty && (List.range n).all fun j=>D.contains j
 | D,A,.no=>!A.isEmpty && (List.range n).all fun j=>D.contains j || A.contains j || A.any fun i=>hU ops n j i
 | D,A,.light i r=>A.isEmpty && decide (i<n) && !D.contains i && ((List.range n).all fun j=>!Region.waitsFor .any ops i j || D.contains j) && okT ops n (i::D) [] r
 | D,A,.alt i k r q=>decide (i<n) && !D.contains i && ((List.range n).all fun j=>!Region.waitsFor .any ops i j || D.contains j) && (!(k == 1) || D.all fun j=>hU ops n i j) && okT ops n (i::D) [] r && okT ops n D (i::A) q
section
variable {dfs:List Deferred} {P:Program} {ops:Array Oper} {w0:World} {n N:Nat}
def dA (dfs:List Deferred) (P:Program) (ops:Array Oper) (n:Nat) (w0:World) (N:Nat) (E:Sl→Hp→List Res→Prop):PlT→List (Nat × Oper × Value)→Sl→Hp→List Res→Prop
 | .done,_,L,H,bs=>E L H bs
 | .no,_,_,_,_=>True
 | .light i o r,pa,L,H,bs=>∃ v,(∀ a W,Fr dfs N L a→St H w0 bs W→Yq P ops o v a W)∧(∀ t,o.dst=some t→t<N)∧dA dfs P ops n w0 N E r ((i,o,v)::pa) (putL o.dst v L) H bs
 | .alt i k o r q,pa,L,H,bs=>((∀ t,o.dst=some t→t<N)∧At dfs N L H w0 bs (one P ops (fun _ _ _=>False) o fun a' W'=>∃ v H' bs',Fr dfs N (putL o.dst v L) a'∧St H' w0 bs' W'∧(k=1∨(∀ W,St H' w0 bs' W→St H w0 bs W)∨eG dfs P ops n w0 N L H' bs' i pa)∧dA dfs P ops n w0 N E r pa (putL o.dst v L) H' bs'))∧dA dfs P ops n w0 N E q pa L H bs
structure GT (dfs:List Deferred) (P:Program) (ops:Array Oper) (l:List Oper) (w0:World) (n N:Nat) (a0:Act) (E:Sl→Hp→List Res→Prop) (listed:Array Bool) (a:Act) (W:World) (val:Nat→Value) (dec:Nat→Bool) (D:List Nat) (L:Sl) (H:Hp) (bs:List Res) (pa:List (Nat × Oper × Value)):Prop where
 head:HeadInv .any ops n listed
 frame:a=frm ops val (st listed) n a0
 full:Fr dfs N L (frm ops val dec n a0)
 sub:∀ i,i<n→st listed i=true→dec i=true
 world:St H w0 bs W
 light:∀ i o,i<n→ops[i]? = some o→dec i=true→st listed i=false→∀ W,St H w0 bs W→Yq P ops o (val i) (frm ops val dec n a0) W
 past:∀ i o,i<n→ops[i]? = some o→dec i=true→st listed i=false→(i,o,val i)∈pa
 set:∀ j,dec j=D.contains j
 deps:∀ i j,i<n→j<n→dec i=true→Region.waitsFor .any ops i j=true→dec j=true
variable {l:List Oper} {a0:Act} {E:Sl→Hp→List Res→Prop} {Q:Exit→Act→World→Prop} {listed:Array Bool} {a:Act} {W:World} {val:Nat→Value} {dec:Nat→Bool} {D A:List Nat} {L:Sl} {H:Hp} {bs:List Res} {pa:List (Nat × Oper × Value)}
theorem tI {i:Nat} (h:∀ j,dec j=D.contains j):∀ j,upd dec i true j=(i::D).contains j:=fun j=>by
 by_cases e:j=i
 ·subst e;rw [cU];simp
 ·rw [aU _ _ e,h j,List.contains_cons];have:(j == i)=false:=by simpa using e
  rw [this];simp
theorem qH {i:Nat} (h:((List.range n).all fun j=>!Region.waitsFor .any ops i j || D.contains j)=true) {j:Nat} (hj:j<n) (hw:Region.waitsFor .any ops i j=true):D.contains j=true:=by
 have:=List.all_eq_true.1 h j (List.mem_range.2 hj);rw [hw] at this;simpa using this
theorem GT.decide (F:Fit ops n []) {i:Nat} {o:Oper} (I:GT dfs P ops l w0 n N a0 E listed a W val dec D L H bs pa) (hi:i<n) (ho:ops[i]? = some o) (hiD:D.contains i=false) (hwt:((List.range n).all fun j=>!Region.waitsFor .any ops i j || D.contains j)=true)
 {v:Value} (hy:∀ a W,Fr dfs N L a→St H w0 bs W→Yq P ops o v a W) (hN:∀ t,o.dst=some t→t<N) :
 GT dfs P ops l w0 n N a0 E listed a W (upd val i v) (upd dec i true) (i::D) (putL o.dst v L) H bs ((i,o,v)::pa):=by
 have hdi:dec i=false:=(I.set i).trans hiD;have hdeps:∀ j,j<n→Region.waitsFor .any ops i j=true→dec j=true:=fun j hj hw=>(I.set j).trans (qH hwt hj hw)
 have hii:∀ j,j<n→Region.waitsFor .any ops i j=true→j≠i:=fun j hj hw e=>by
  have:=hdeps j hj hw;rw [e,hdi] at this;cases this
 have hli:st listed i=false:=by
  cases h:st listed i with
  | false=>rfl
  | true=>have:=I.sub i hi h;rw [hdi] at this;cases this
 have hput:=tY (a0:=a0) (val:=val) (v:=v) F hi ho hdi;refine ⟨I.head,?_,?_,?_,I.world,?_,?_,tI I.set,?_⟩
 ·rw [I.frame];refine dL _ _ _ _ a0 n fun k _=>⟨rfl,fun hk=>(aU _ _ fun e=>?_).symm⟩;subst e;rw [hli] at hk;cases hk
 ·rw [hput];exact I.full.putL v hN
 ·intro j hj hs
  by_cases e:j=i
  ·subst e;exact cU _ _ _
  ·rw [aU _ _ e];exact I.sub j hj hs
 ·intro j oj hj hoj hd hs W hW
  by_cases e:j=i
  ·subst e;obtain rfl:oj=o:=Option.some.inj (hoj.symm.trans ho);rw [cU];refine Yq.same (fun cs b=>F.sel j oj cs b ho) (fun t ht=>?_) (hy _ W I.full hW);refine iG F hj ho (fun k hk hw=>?_) t ht;have hkd:=hdeps k hk hw;have hki:=hii k hk hw;exact ⟨by rw [aU _ _ hki];exact hkd,hkd,aU _ _ hki⟩
  ·rw [aU _ _ e] at hd ⊢;refine Yq.same (fun cs b=>F.sel j oj cs b hoj) (fun t ht=>?_) (I.light j oj hj hoj hd hs W hW);refine iG F hj hoj (fun k hk hw=>?_) t ht;have hkd:=I.deps j k hj hk hd hw;have hki:k≠i:=fun e=>by subst e;rw [hdi] at hkd;cases hkd
   exact ⟨by rw [aU _ _ hki];exact hkd,hkd,aU _ _ hki⟩
 ·intro j oj hj hoj hd hs
  by_cases e:j=i
  ·subst e;obtain rfl:oj=o:=Option.some.inj (hoj.symm.trans ho);rw [cU];exact .head _
  ·rw [aU _ _ e] at hd ⊢;exact .tail _ (I.past j oj hj hoj hd hs)
 ·intro j k hj hk hd hw
  by_cases e:j=i
  ·subst e;rw [aU _ _ (hii k hk hw)];exact hdeps k hk hw
  ·rw [aU _ _ e] at hd;have:=I.deps j k hj hk hd hw
   by_cases e2:k=i
   ·subst e2;exact cU _ _ _
   ·rw [aU _ _ e2];exact this
theorem GT.step (F:Fit ops n []) {i:Nat} {o:Oper} {W':World} (I:GT dfs P ops l w0 n N a0 E listed a W val dec D L H bs pa) (hi:i<n) (ho:ops[i]? = some o) (hr:i∈Region.ready .any ops listed) (hd:dec i=true) (hx:Ext W W') :
 GT dfs P ops l w0 n N a0 E (listed.setIfInBounds i true) (a.put o.dst (val i)) W' val dec D L H bs pa:=by
 have hun:st listed i=false:=(mem_ready.1 hr).1;have e1:dD ops i=o.dst:=by simp [dD,ho]
 refine ⟨I.head.set hr hi,?_,I.full,?_,I.world.more hx,?_,?_,I.set,I.deps⟩
 ·rw [I.frame,gO val (st listed) (st (listed.setIfInBounds i true)) a0 i aY hun (fun k hk=>cO hk) n hi F.apart,e1]
 ·intro j hj hs
  by_cases e:j=i
  ·subst e;exact hd
  ·rw [cO e] at hs;exact I.sub j hj hs
 ·intro j oj hj hoj hdj hs;have e:j≠i:=fun e=>by subst e;rw [aY] at hs;cases hs
  rw [cO e] at hs;exact I.light j oj hj hoj hdj hs
 ·intro j oj hj hoj hdj hs;have e:j≠i:=fun e=>by subst e;rw [aY] at hs;cases hs
  rw [cO e] at hs;exact I.past j oj hj hoj hdj hs
theorem GT.heavy (F:Fit ops n []) {i k:Nat} {o:Oper} {v:Value} {W':World} {H':Hp} {bs':List Res} (I:GT dfs P ops l w0 n N a0 E listed a W val dec D L H bs pa) (hi:i<n) (ho:ops[i]? = some o) (hiD:D.contains i=false) (hwt:((List.range n).all fun j=>!Region.waitsFor .any ops i j || D.contains j)=true) (hk1:(!(k == 1) || D.all fun j=>hU ops n i j)=true) (hN:∀ t,o.dst=some t→t<N) (hr:i∈Region.ready .any ops listed)
 (hs:St H' w0 bs' W') (hws:k=1∨(∀ W,St H' w0 bs' W→St H w0 bs W)∨eG dfs P ops n w0 N L H' bs' i pa) :
 GT dfs P ops l w0 n N a0 E (listed.setIfInBounds i true) (a.put o.dst v) W' (upd val i v) (upd dec i true) (i::D) (putL o.dst v L) H' bs' pa:=by
 have hdi:dec i=false:=(I.set i).trans hiD;have hdeps:∀ j,j<n→Region.waitsFor .any ops i j=true→dec j=true:=fun j hj hw=>(I.set j).trans (qH hwt hj hw)
 have hii:∀ j,j<n→Region.waitsFor .any ops i j=true→j≠i:=fun j hj hw e=>by
  have:=hdeps j hj hw;rw [e,hdi] at this;cases this
 have hun:st listed i=false:=(mem_ready.1 hr).1;have e1:dD ops i=o.dst:=by simp [dD,ho]
 have hput:=tY (a0:=a0) (val:=val) (v:=v) F hi ho hdi;refine ⟨I.head.set hr hi,?_,?_,?_,hs,?_,?_,tI I.set,?_⟩
 ·rw [I.frame,gO (upd val i v) (st listed) (st (listed.setIfInBounds i true)) a0 i aY hun (fun k hk=>cO hk) n hi F.apart,e1,cU]
  congr 1
  refine dL _ _ _ _ a0 n fun k _=>⟨rfl,fun hk=>(aU _ _ fun e=>?_).symm⟩;subst e;rw [hun] at hk;cases hk
 ·rw [hput];exact I.full.putL v hN
 ·intro j hj hs
  by_cases e:j=i
  ·subst e;exact cU _ _ _
  ·rw [aU _ _ e];rw [cO e] at hs;exact I.sub j hj hs
 ·intro j oj hj hoj hd hs W hW;have e:j≠i:=fun e=>by subst e;rw [aY] at hs;cases hs
  rw [cO e] at hs;rw [aU _ _ e] at hd ⊢
  have hdone:hU ops n i j=true→False:=fun h1=>by
   obtain ⟨_,oi,hoi,hall⟩:=mem_ready.1 hr
   have h2:=gC I.head n i j h1 (fun ok hok x hx hb=>by
    obtain rfl:ok=oi:=Option.some.inj (hok.symm.trans hoi);exact hall x hx hb)
   rw [getD_both hs] at h2;cases h2
  have hy:Yq P ops oj (val j) (frm ops val dec n a0) W:=by
   rcases hws with hk | hw | hw
   ·subst hk;have hjD:j∈D:=by have:=(I.set j).symm.trans hd;simpa using this
    simp only [beq_self_eq_true,Bool.not_true,Bool.false_or] at hk1;exact (hdone (List.all_eq_true.1 hk1 j hjD)).elim
   ·exact I.light j oj hj hoj hd hs W (hw W hW)
   ·rcases hw.at (I.past j oj hj hoj hd hs) with h1 | h1
    ·exact (hdone h1).elim
    ·exact h1 _ W I.full hW
  refine Yq.same (fun cs b=>F.sel j oj cs b hoj) (fun t ht=>?_) hy;refine iG F hj hoj (fun k hk hw=>?_) t ht;have hkd:=I.deps j k hj hk hd hw;have hki:k≠i:=fun e=>by subst e;rw [hdi] at hkd;cases hkd
  exact ⟨by rw [aU _ _ hki];exact hkd,hkd,aU _ _ hki⟩
 ·intro j oj hj hoj hd hs;have e:j≠i:=fun e=>by subst e;rw [aY] at hs;cases hs
  rw [cO e] at hs;rw [aU _ _ e] at hd ⊢;exact I.past j oj hj hoj hd hs
 ·intro j k hj hk hd hw
  by_cases e:j=i
  ·subst e;rw [aU _ _ (hii k hk hw)];exact hdeps k hk hw
  ·rw [aU _ _ e] at hd;have:=I.deps j k hj hk hd hw
   by_cases e2:k=i
   ·subst e2;exact cU _ _ _
   ·rw [aU _ _ e2];exact this
theorem wM (hl:ops=l.toArray) {j:Nat} (hj:j<n) (hjD:D.contains j=false) (hnr:∀ i,D.contains i=false→i<n→hU ops n j i=false) :
 ∀ (q:Pi0) (A:List Nat),(q=.no∨∃ i k r q',q=.alt i k r q')→okT ops n D A q=true→(∀ i∈A,D.contains i=false∧i<n∧i≠j)→dA dfs P ops n w0 N E (kC l q) pa L H bs →
  ∃ k r,((List.range n).all fun x=>!Region.waitsFor .any ops j x || D.contains x)=true∧(!(k == 1) || D.all fun x=>hU ops n j x)=true∧okT ops n (j::D) [] r=true∧(∀ t,(l[j]!).dst=some t→t<N) ∧
   At dfs N L H w0 bs (one P ops (fun _ _ _=>False) l[j]! fun a' W'=>∃ v H' bs',Fr dfs N (putL (l[j]!).dst v L) a'∧St H' w0 bs' W'∧(k=1∨(∀ W,St H' w0 bs' W→St H w0 bs W)∨eG dfs P ops n w0 N L H' bs' j pa)∧dA dfs P ops n w0 N E (kC l r) pa (putL (l[j]!).dst v L) H' bs'):=by
 intro q;induction q with
 | done=>rintro A (h | ⟨_,_,_,_,h⟩) <;> cases h
 | light i r=>rintro A (h | ⟨_,_,_,_,h⟩) <;> cases h
 | no =>
  intro A _ hok hA _
  exfalso
  simp only [okT,Bool.and_eq_true] at hok;have:=List.all_eq_true.1 hok.2 j (List.mem_range.2 hj);simp only [Bool.or_eq_true] at this;rcases this with (h | h) | h
  ·rw [hjD] at h;cases h
  ·exact (hA j (by simpa using h)).2.2 rfl
  ·obtain ⟨i,hi,hre⟩:=List.any_eq_true.1 h;rw [hnr i (hA i hi).1 (hA i hi).2.1] at hre;cases hre
 | alt i k r q' ihr ihq =>
  intro A _ hok hA hF;simp only [okT,Bool.and_eq_true,decide_eq_true_eq,Bool.not_eq_true'] at hok;obtain ⟨⟨⟨⟨⟨h1,h2⟩,h3⟩,h4⟩,h5⟩,h6⟩:=hok;unfold kC dA at hF
  by_cases e:i=j
  ·subst e;exact ⟨k,r,h3,h4,h5,hF.1.1,hF.1.2⟩
  ·have hq:q'=.no∨∃ i k r q'',q'=.alt i k r q'':=by
    cases q' with
    | done=>simp [okT] at h6
    | light i r=>simp [okT] at h6
    | no=>exact .inl rfl
    | alt i k r q=>exact .inr ⟨_,_,_,_,rfl⟩
   refine ihq (i::A) hq h6 (fun x hx=>?_) hF.2;rcases List.mem_cons.1 hx with rfl | hx
   ·exact ⟨h2,h1,e⟩
   ·exact hA x hx
theorem FB (hl:ops=l.toArray) (F:Fit ops n []) (hend:∀ L H bs,E L H bs→At dfs N L H w0 bs (wpList P ops Q (ops.toList.drop n))) :
 ∀ (m:Nat) (p:Pi0) (listed:Array Bool) (a:Act) (W:World) (val:Nat→Value) (dec:Nat→Bool) (D:List Nat) (L:Sl) (H:Hp) (bs:List Res) (pa:List (Nat × Oper × Value)),cnt (st listed) n=m→okT ops n D [] p=true →
  dA dfs P ops n w0 N E (kC l p) pa L H bs→GT dfs P ops l w0 n N a0 E listed a W val dec D L H bs pa→wpAny P .any ops Q (m+(ops.size - n)) listed a W:=by
 have hop:∀ i,i<n→ops[i]? = some l[i]! := fun i hi=>by
  have h1:i<ops.size:=by have:=F.lt;omega
  subst hl;have h2:i<l.length:=by simpa using h1
  simp [h2]
 intro m;induction m with
 | zero =>
  intro p;induction p with
  | done =>
   intro listed a W val dec D L H bs pa hm hok hF I;have hall:=iC _ n hm
   have hcan:listed=((List.range ops.size).map fun k=>Decidable.decide (k<n)).toArray:=by
    apply Array.ext
    ·simp [I.head.size]
    ·intro k h1 h2;have hk:k<ops.size:=by rw [← I.head.size];exact h1
     simp only [List.getElem_toArray,List.getElem_map,List.getElem_range]
     by_cases hkn:k<n
     ·have:=hall k hkn;simp [st,h1] at this;simp [this,hkn]
     ·have:=I.head.tail k (by omega) hk;simp [h1] at this;simp [this,hkn]
   rw [Nat.zero_add];have hlen:(ops.toList.drop n).length=ops.size - n:=by simp
   rw [← hlen];refine wpAny_of_seq (ops.toList.drop n) n listed a W (fun j=>by simp [List.getElem?_drop]) (by rw [hlen,hcan];exact F.seq) ?_
   have hfr:a=frm ops val dec n a0:=by
    rw [I.frame];exact dL _ _ _ _ a0 n (fun k hk=>⟨by rw [hall k hk,I.sub k hk (hall k hk)],fun _=>rfl⟩)
   rw [hfr];exact hend L H bs hF _ W I.full I.world
  | no =>
   intro listed a W val dec D L H bs pa hm hok hF I;simp [okT] at hok
  | light i r ih =>
   intro listed a W val dec D L H bs pa hm hok hF I;have hall:=iC _ n hm;simp only [okT,Bool.and_eq_true,decide_eq_true_eq,Bool.not_eq_true'] at hok;have:=I.sub i hok.1.1.1.2 (hall i hok.1.1.1.2);rw [I.set i,hok.1.1.2] at this;cases this
  | alt i k r q ih1 ih2 =>
   intro listed a W val dec D L H bs pa hm hok hF I;have hall:=iC _ n hm;simp only [okT,Bool.and_eq_true,decide_eq_true_eq,Bool.not_eq_true'] at hok;have:=I.sub i hok.1.1.1.1.1 (hall i hok.1.1.1.1.1);rw [I.set i,hok.1.1.1.1.2] at this;cases this
 | succ m ih =>
  have one_step:∀ (p:Pi0) (listed:Array Bool) (a:Act) (W:World) (val:Nat→Value) (dec:Nat→Bool) (D:List Nat) (L:Sl) (H:Hp) (bs:List Res) (pa:List (Nat × Oper × Value)),cnt (st listed) n=m+1→okT ops n D [] p=true →
   dA dfs P ops n w0 N E (kC l p) pa L H bs→GT dfs P ops l w0 n N a0 E listed a W val dec D L H bs pa→(p=.done∨p=.no∨∃ i k r q,p=.alt i k r q)→wpAny P .any ops Q (m+1+(ops.size - n)) listed a W:=by
   intro p listed a W val dec D L H bs pa hm hok hF I hp;obtain ⟨k0,hk0,hun0,hbelow⟩:=pC (st listed) n (by omega);have hk0s:k0<ops.size:=by have:=F.lt;omega
   have hready0:k0∈Region.ready .any ops listed:=by
    refine mem_ready.2 ⟨hun0,ops[k0],Array.getElem?_eq_getElem hk0s,fun e he hb=>?_⟩;have hlt:=F.back k0 _ (Array.getElem?_eq_getElem hk0s) e he hb;have:=hbelow e.on hlt;have hsz:e.on<listed.size:=by rw [I.head.size];omega
    simpa [st,hsz] using this
   rw [show m+1+(ops.size - n)=(m+(ops.size - n))+1 by omega];refine ⟨fun h0=>(by rw [h0] at hready0;cases hready0),fun j hj=>?_⟩
   have hjn:j<n:=by
    rcases Nat.lt_or_ge j n with h | h
    ·exact h
    ·exact absurd hj (lA F.sink F.chain I.head _ k0 rfl hk0 rfl hun0 j h)
   obtain ⟨hun,oj,hoj,hall⟩:=mem_ready.1 hj
   have hcnt:cnt (st (listed.setIfInBounds j true)) n=m:=by
    have:=kV (st listed) (st (listed.setIfInBounds j true)) j aY hun (fun k hk=>cO hk) n hjn;omega
   have hS:∀ k,k<n→Region.waitsFor .any ops j k=true→st listed k=true:=by
    intro k hk hw;obtain ⟨oi,hoi,e,he,hb,hon⟩:=Region.waitsFor_spec hw;obtain rfl:oi=oj:=Option.some.inj (hoi.symm.trans hoj);have h1:=hall e he hb;rw [hon] at h1;have hsz:k<listed.size:=by rw [I.head.size];have:=F.lt;omega
    simp [hsz] at h1;simp [st,hsz,h1]
   have hev:∀ t∈oj.looksAt ops,a.eval (.tmp t)=(frm ops val dec n a0).eval (.tmp t):=fun t ht=>by
    rw [I.frame];exact iG F hjn hoj (fun k hk hw=>⟨hS k hk hw,I.sub k hk (hS k hk hw),rfl⟩) t ht
   cases hd:dec j with
   | true =>
    have hy:Yq P ops oj (val j) a W:=Yq.same (fun cs b=>F.sel j oj cs b hoj) hev (I.light j oj hjn hoj hd hun W I.world);exact hy.wpOp hoj fun W' hx=>ih p _ _ _ _ _ _ _ _ _ _ hcnt hok hF (I.step F hjn hoj hj hd hx)
   | false =>
    have hjD:D.contains j=false:=(I.set j).symm.trans hd
    have hch:p=.no∨∃ i k r q',p=.alt i k r q':=by
     rcases hp with rfl | rfl | h
     ·exfalso
      simp only [okT,Bool.and_eq_true] at hok;have:=List.all_eq_true.1 hok.2 j (List.mem_range.2 hjn);rw [hjD] at this;cases this
     ·exact .inl Z
     ·exact .inr h
    obtain ⟨k,r,h1,h2,h3,h4,h5⟩:=wM hl hjn hjD (fun i hi hin=>by
     cases hre:hU ops n j i with
     | false=>rfl
     | true =>
      have h2:=gC I.head n j i hre (fun ok hok e he hb=>by
       obtain rfl:ok=oj:=Option.some.inj (hok.symm.trans hoj);exact hall e he hb)
      have h3:st listed i=false:=by
       cases h:st listed i with
       | false=>rfl
       | true=>have:=I.sub i hin h;rw [I.set i,hi] at this;cases this
      rw [getD_both h3] at h2;cases h2) p [] hch hok (fun i hi=>by cases hi) hF
    have hoj2:=hop j hjn;obtain rfl:oj=l[j]! := Option.some.inj (hoj.symm.trans hoj2);refine vM hoj (fun cs b=>F.sel j _ cs b hoj) hev (fun b W' ⟨v,H',bs',hf,_⟩=>hf.defers) I.full.defers ?_ (h5 _ W I.full I.world);rintro v W' ⟨v',H',bs',hf,hs,hw,hp'⟩
    have hvv:putL (l[j]!).dst v' L=putL (l[j]!).dst v L:=by
     cases hdst:(l[j]!).dst with
     | none=>rfl
     | some t =>
      rw [hdst] at hf;have h1:=hf.slot t v' (by unfold putL look;rw [Nat.beq_refl,cond_true]);have h2:t<N:=h4 t hdst;have h3:=(I.full.put (by simpa [Nat.blt_eq] using h2) v).slot t v (by unfold look;rw [Nat.beq_refl,cond_true]);rw [h3] at h1;rw [h1]
    rw [hvv] at hp';exact ih r _ _ _ _ _ _ _ _ _ _ hcnt h3 hp' (I.heavy F hjn hoj hjD h1 h2 h4 hj hs hw)
  intro p;induction p with
  | done=>exact fun listed a W val dec D L H bs pa hm hok hF I=>one_step _ listed a W val dec D L H bs pa hm hok hF I (.inl rfl)
  | no=>exact fun listed a W val dec D L H bs pa hm hok hF I=>one_step _ listed a W val dec D L H bs pa hm hok hF I (.inr (.inl rfl))
  | alt i k r q _ _=>exact fun listed a W val dec D L H bs pa hm hok hF I=>one_step _ listed a W val dec D L H bs pa hm hok hF I (.inr (.inr ⟨_,_,_,_,rfl⟩))
  | light i r ihr =>
   intro listed a W val dec D L H bs pa hm hok hF I;simp only [okT,Bool.and_eq_true,decide_eq_true_eq,Bool.not_eq_true'] at hok;obtain ⟨⟨⟨⟨_,hi⟩,hiD⟩,hwt⟩,hok'⟩:=hok;unfold kC dA at hF;obtain ⟨v,hy,hN,hF'⟩:=hF;exact ihr listed a W _ _ _ _ H bs _ hm hok' hF' (I.decide F hi (hop i hi) hiD hwt hy hN)
theorem WT {id:Nat} {l:List Oper} {p:PlT} {Q:Exit→Act→World→Prop} {L:Sl} {H:Hp} {bs:List Res} (n:Nat) (p0:Pi0) (hm:P.follows .mixedOrders=true) (hB:(ES l.toArray n [] && okT l.toArray n [] [] p0)=true) (ht:kC l p0=p)
 (h:dA dfs P l.toArray n w0 N (fun L H bs=>At dfs N L H w0 bs (wpList P l.toArray Q (l.drop n))) p [] L H bs):At dfs N L H w0 bs ((Code.region id l.toArray true).wp P Q):=by
 simp only [Bool.and_eq_true] at hB;obtain ⟨h1,h2⟩:=hB;have F:=Fit.of h1;have hlt:n<l.length:=by simpa using F.lt
 subst ht;intro a W f s;refine wp_region_any hm ?_;have hsz:l.toArray.size=l.length:=by simp
 have hc0:∀ m,m≤n→cnt (st (Array.replicate l.toArray.size false)) m=m:=by
  intro m;induction m with
  | zero=>intro _;rfl
  | succ m ih =>
   intro hm;unfold cnt;rw [ih (by omega)]
   have:st (Array.replicate l.toArray.size false) m=false:=by
    have:m<l.length:=by omega
    simp [st,this]
   rw [this];simp
 have hfrm:∀ (val:Nat→Value) (m:Nat),frm l.toArray val (fun _=>false) m a=a:=fun val m=>by
  induction m with
  | zero=>rfl
  | succ m ih=>unfold frm;simp [ih]
 have hall:∀ m,m≤n→∀ k,k<m→st (Array.replicate l.toArray.size false) k=false:=fun m hm k hk=>by
  have:k<l.length:=by omega
  simp [st,this]
 have hh:HeadInv .any l.toArray n (Array.replicate l.toArray.size false):=by
  refine ⟨by simp,fun j oj hj hl=>?_,fun t ht ht'=>?_⟩
  ·exfalso
   rcases Nat.lt_or_ge j l.length with h | h
   ·simp [h] at hl
   ·simp [h] at hl
  ·have:t<l.length:=by simpa using ht'
   simp [this]
 have key:=FB (Q:=Q) (a0:=a) (l:=l) rfl F (fun L H bs h=>by simpa using h) n p0 (Array.replicate l.toArray.size false) a _ (fun _=>undef) (fun _=>false) [] L H bs [] (hc0 n (Nat.le_refl _)) h2 h
  ⟨hh,?_,by rw [hfrm];exact f,?_,s.more ((Ext.refl W).drew),fun _ _ _ _ h=>(by cases h),fun _ _ _ _ h=>(by cases h),fun _=>rfl,fun _ _ _ _ h=>(by cases h)⟩
 ·have:n+(l.toArray.size - n)=l.toArray.size:=by rw [hsz];omega
  rw [this] at key;exact key
 ·rw [dL (fun _=>undef) (fun _=>undef) _ (fun _=>false) a n (fun k hk=>⟨hall n (Nat.le_refl _) k hk,fun _=>rfl⟩),hfrm]
 ·intro i hi hs;rw [hall n (Nat.le_refl _) i hi] at hs;cases hs
end
section
variable {dfs:List Deferred} {P:Program} {n:Nat} {L:Sl} {H:Hp} {w0:World} {bs:List Res} {Q:Exit→Act→World→Prop} {ops:Array Oper} {rest:List Oper} {K:Act→World→Prop}
variable {d:Option Tmp} {ty:TypeId} {pos:String} {aft:Array Edge} {g:Option (Nat × Bool)} {v:Value} {t:Tmp} {op:Op} {x y z:Operand} {T T':TypeId}
variable {N hn:Nat} {pa:List (Nat × Oper × Value)} {E:Sl→Hp→List Res→Prop} {r q:PlT} {i k:Nat}
def iI (dfs:List Deferred) (P:Program) (ops:Array Oper) (n:Nat) (w0:World) (N:Nat) (E:Sl→Hp→List Res→Prop) (i k:Nat) (o:Oper) (r:PlT) (pa:List (Nat × Oper × Value)) (L:Sl) (H:Hp) (bs:List Res):Prop :=
 (∀ t,o.dst=some t→t<N)∧At dfs N L H w0 bs (one P ops (fun _ _ _=>False) o fun a' W'=>∃ v H' bs',Fr dfs N (putL o.dst v L) a'∧St H' w0 bs' W'∧(k=1∨(∀ W,St H' w0 bs' W→St H w0 bs W)∨eG dfs P ops n w0 N L H' bs' i pa)∧dA dfs P ops n w0 N E r pa (putL o.dst v L) H' bs')
theorem dA.h1 {o:Oper} (h:iI dfs P ops hn w0 N E i k o r pa L H bs):dA dfs P ops hn w0 N E (.alt i k o r .no) pa L H bs:=⟨h,trivial⟩
theorem dA.h {o:Oper} (h:iI dfs P ops hn w0 N E i k o r pa L H bs) (hq:dA dfs P ops hn w0 N E q pa L H bs):dA dfs P ops hn w0 N E (.alt i k o r q) pa L H bs:=⟨h,hq⟩
theorem dA.nn:dA dfs P ops hn w0 N E .no pa L H bs:=trivial
theorem dA.yv (hy:Yl P L H w0 bs ⟨some t,op,ty,pos,aft,none⟩ v) (ht:Nat.blt t N=true) (h:dA dfs P ops hn w0 N E r ((i,⟨some t,op,ty,pos,aft,none⟩,v)::pa) ((t,v)::L) H bs):dA dfs P ops hn w0 N E (.light i ⟨some t,op,ty,pos,aft,none⟩ r) pa L H bs :=
 ⟨v,fun a W f s=>.inl ⟨by simp [Region.wanted],hy a W (fun x u e=>f.ev e) s⟩,gH ht,h⟩
theorem dA.m (hx:ev L x=some v) (ht:Nat.blt t N=true) (h:dA dfs P ops hn w0 N E r ((i,⟨some t,.move x,ty,pos,aft,none⟩,v)::pa) ((t,v)::L) H bs):dA dfs P ops hn w0 N E (.light i ⟨some t,.move x,ty,pos,aft,none⟩ r) pa L H bs:=.yv (.move hx) ht h
theorem iI.into {H':Hp} {bs':List Res} (hw:k=1∨(∀ W,St H' w0 bs' W→St H w0 bs W)∨eG dfs P ops hn w0 N L H' bs' i pa) (h:dA dfs P ops hn w0 N E r pa ((t,v)::L) H' bs') :
 At dfs N ((t,v)::L) H' w0 bs' (fun a' W'=>∃ v H' bs',Fr dfs N (putL (some t) v L) a'∧St H' w0 bs' W'∧(k=1∨(∀ W,St H' w0 bs' W→St H w0 bs W)∨eG dfs P ops hn w0 N L H' bs' i pa)∧dA dfs P ops hn w0 N E r pa (putL (some t) v L) H' bs'):=fun _ _ f s=>⟨v,H',bs',f,s,hw,h⟩
theorem iI.al {l:List Value} (hz:dV P T=some l) (ht:Nat.blt t N=true) (h:∀ b,dA dfs P ops hn w0 N E r pa ((t,.pointer (some ⟨b,0,none⟩))::L) H (.box b l T::bs)):iI dfs P ops hn w0 N E i k ⟨some t,.alloc T,ty,pos,aft,none⟩ r pa L H bs :=
 ⟨gH ht,alloc hz ht fun b=>iI.into (.inr<|.inl fun _ s=>s.drop) (h b)⟩
theorem iI.bl {ps:List (Nat × Operand)} {pv:List (Nat × Value)} {len:Nat} {e:TypeId} {l:List Value} (hv:evp L ps=some pv) (hb:fB P T len pv=some (e,l)) (ht:Nat.blt t N=true)
 (h:∀ b,dA dfs P ops hn w0 N E r pa ((t,.slice (some ⟨b,0,none⟩) len len)::L) H (.box b l e::bs)):iI dfs P ops hn w0 N E i k ⟨some t,.buildSlice T len ps.toArray,ty,pos,aft,none⟩ r pa L H bs :=
 ⟨gH ht,buildSlice hv hb ht fun b=>iI.into (.inr<|.inl fun _ s=>s.drop) (h b)⟩
theorem iI.ct {X:Type} {f:FuncId} {xs:List Operand} {vs:List Value} {ats:Array TypeId} {C:X→Hp→Prop} {val:X→Value} (hf:aM P f=true) (hv:evs L xs=some vs)
 (hc:∀ W,St H w0 bs W→Calls P f vs.toArray W fun e W'=>∃ x H',C x H'∧e=.returned (val x)∧mS H W H' W') (ht:Nat.blt t N=true)
 (h:∀ x H',C x H'→HUp w0 H H'→dA dfs P ops hn w0 N E r pa ((t,val x)::L) H' bs):iI dfs P ops hn w0 N E i k ⟨some t,.call ⟨.value (.func f),xs.toArray,ats⟩,ty,pos,aft,none⟩ r pa L H bs :=
 ⟨gH ht,OW hf hv hc ht fun x H' hx u=>iI.into (.inr<|.inl fun _ s=>s.weakH u.up) (h x H' hx u)⟩
theorem iI.c3 {X:Type} {f:FuncId} {xs:List Operand} {vs:List Value} {ats:Array TypeId} {C:X→Prop} {val:X→Value} {H':X→Hp} {bs':X→List Res} (hf:aM P f=true) (hv:evs L xs=some vs)
 (hc:∀ W,St H w0 bs W→Calls P f vs.toArray W fun e W'=>∃ x,C x∧e=.returned (val x)∧St (H' x) w0 (bs' x) W') (ht:Nat.blt t N=true)
 (hr:∀ x,C x→eG dfs P ops hn w0 N L (H' x) (bs' x) i pa) (h:∀ x,C x→dA dfs P ops hn w0 N E r pa ((t,val x)::L) (H' x) (bs' x)):iI dfs P ops hn w0 N E i 2 ⟨some t,.call ⟨.value (.func f),xs.toArray,ats⟩,ty,pos,aft,none⟩ r pa L H bs :=
 ⟨gH ht,HU hf hv hc ht fun x hx=>iI.into (.inr<|.inr<|hr x hx) (h x hx)⟩
theorem dA.fn {l tl:List Oper} {nn:Nat} (ht:l.drop nn=tl) (h:At dfs N L H w0 bs (wpList P ops Q tl)):dA dfs P ops hn w0 N (fun L H bs=>At dfs N L H w0 bs (wpList P ops Q (l.drop nn))) .done pa L H bs:=by
 subst ht;exact h
theorem At.ft {id:Nat} {l:List Oper} {p:PlT} (nn:Nat) (p0:Pi0) (hm:P.follows .mixedOrders=true) (hB:(ES l.toArray nn [] && okT l.toArray nn [] [] p0)=true) (ht:kC l p0=p)
 (h:dA dfs P l.toArray nn w0 n (fun L H bs=>At dfs n L H w0 bs (wpList P l.toArray Q (l.drop nn))) p [] L H bs):At dfs n L H w0 bs ((Code.region id l.toArray true).wp P Q):=WT nn p0 hm hB ht h
end
end Go.Sx

namespace Go.Sx
open Go.RowKit Go.Par
section
variable {dfs:List Deferred} {P:Program} {L:Sl} {H H':Hp} {w0:World} {bs bs':List Res} {ty:TypeId} {pos:String} {aft:Array Edge} {t:Tmp} {op:Op} {ops:Array Oper} {N hn i n j:Nat} {pa:List (Nat × Oper × Value)} {E:Sl→Hp→List Res→Prop} {r:List (Nat × Nat × Oper)} {rest:List Oper} {Q:Exit→Act→World→Prop} {o:Oper} {v:Value} {b c:Bool} {u:Tmp}
theorem dA.yw {r:PlT} (hy:Yl P L H w0 bs ⟨some t,op,ty,pos,aft,none⟩ v) (h:dA dfs P ops hn w0 N E r ((i,⟨some t,op,ty,pos,aft,none⟩,v)::pa) ((t,v)::L) H bs) (ht:Nat.blt t N=true:=by rfl):dA dfs P ops hn w0 N E (.light i ⟨some t,op,ty,pos,aft,none⟩ r) pa L H bs:=.yv hy ht h
theorem dA.mv {r:PlT} {x:Operand} (hx:ev L x=some v) (h:dA dfs P ops hn w0 N E r ((i,⟨some t,.move x,ty,pos,aft,none⟩,v)::pa) ((t,v)::L) H bs) (ht:Nat.blt t N=true:=by rfl):dA dfs P ops hn w0 N E (.light i ⟨some t,.move x,ty,pos,aft,none⟩ r) pa L H bs:=.m hx ht h
end
end Go.Sx
namespace Go.Sx
open Go.RowKit Go.Par
def jE (H:Hp) (v:Value) (n:Nat) (xs:List Value):Prop:=(v=.slice none 0 0∧n=0)∨∃ b c,v=.slice (some ⟨b,0,none⟩) n c∧n≤c∧c≤maxLen∧dS H b 0 xs
theorem jE.rep {H:Hp} {v:Value} {n z:Nat} {xs:List Value} {ds:List D} (h:jE H v n xs) (hz:aL H z ds xs) (hn:ds.length=n):Rep H (.seq z ds) [v]:=by
 rcases h with ⟨rfl,rfl⟩ | ⟨b,c,rfl,h1,h2,h3⟩
 ·obtain rfl:=List.eq_nil_of_length_eq_zero hn;exact .empty (by simp [maxLen])
 ·exact .mk h3 hz hn h1 h2
theorem jE.sl {H:Hp} {v:Value} {n:Nat} {xs:List Value} (h:jE H v n xs):∃ p c,v=.slice p n c:=by
 rcases h with ⟨rfl,rfl⟩ | ⟨b,c,rfl,_⟩
 ·exact ⟨_,_,rfl⟩
 ·exact ⟨_,_,rfl⟩
theorem Upd.new {bs bs':List Res} {x y:Res} (h:Upd bs x y bs'):y∈bs':=by
 induction h with
 | head=>exact .head _
 | tail _ ih=>exact .tail _ ih
theorem jE.up {H H':Hp} {v:Value} {n:Nat} {xs:List Value} (h:jE H v n xs) (u:Up H H'):jE H' v n xs:=by
 rcases h with h | ⟨b,c,e,h1,h2,h3⟩
 ·exact .inl h
 ·exact .inr ⟨b,c,e,h1,h2,h3.up u⟩
section
variable {dfs:List Deferred} {P:Program} {n:Nat} {L:Sl} {H:Hp} {w0:World} {bs:List Res} {Q:Exit→Act→World→Prop} {ops:Array Oper} {rest:List Oper} {K:Act→World→Prop}
variable {d:Option Tmp} {ty:TypeId} {pos:String} {aft:Array Edge} {v:Value} {t:Tmp} {x y:Operand} {T:TypeId}
theorem St.boxRowZ {b m z:Nat} {l:List Value} {e:TypeId} {W:World} (h:St H w0 (.box b l e::bs) W) (hz:l.length=m * z) (hl:m≤maxLen):St H w0 (.row e z (.slice (some ⟨b,0,none⟩) m m) m l::bs) W:=by
 have hb:=h.own _ (.head _);refine ⟨h.ext,h.agr,fun x hx=>?_,?_⟩
 ·rcases List.mem_cons.1 hx with rfl | hx
  ·exact ⟨⟨hz,.inr ⟨b,m,l.toArray,rfl,hb.1.1,hb.1.2,Nat.le_refl _,hl,by simpa using hz,by rw [← hz];simp⟩⟩,fun c e=>hb.2 c e⟩
  ·exact h.own x (.tail _ hx)
 ·have h1:=h.apart;rw [List.pairwise_cons] at h1 ⊢;exact ⟨fun z hz c e=>h1.1 z hz c e,h1.2⟩
theorem SJ {e:TypeId} {size bytes m k:Nat} {r v:Value} {xs news:List Value} {bs':Value→List Res} (hT:gZ P T=some (e,size,bytes)) (hx:ev L x=some r) (hm:∀ r',Upd bs (.row e size r k xs) (.row e size r' (k+m) (xs++news)) (bs' r'))
 (hy:ev L y=some v) (hs:jE H v m news) (hl:news.length=m * size) (h1:∀ u∈news,u.oneCell'=true) (h63:k+m≤maxLen) (hb:(k+m) * bytes≤140737488355328) (ht:Nat.blt t n=true)
 (h:∀ r',At dfs n ((t,r')::L) H w0 (bs' r') K):At dfs n L H w0 bs (one P ops Q ⟨some t,.call ⟨.builtin .append,#[x,y],#[T,T]⟩,ty,pos,aft,none⟩ K):=by
 rcases hs with ⟨rfl,rfl⟩ | ⟨b,c,rfl,_,_,hmem⟩
 ·have hn:news=[]:=List.eq_nil_of_length_eq_zero (by rw [hl,Nat.zero_mul]);subst hn;have e2:bs' r=bs:=(hm r).same (by rw [Nat.add_zero,List.append_nil]);have h2:=h r;rw [e2] at h2;exact FP hT hx (hm r).mem hy ht h2
 ·exact AV hT hx hm hy (fun W s j u e=>by rw [Addr.add_lit];exact hmem.cell s.agr e) hl h1 h63 hb ht fun r' _=>h r'
variable {N hn i:Nat} {pa:List (Nat × Oper × Value)} {E:Sl→Hp→List Res→Prop} {q:PlT}
theorem iI.apR {e:TypeId} {size bytes m k:Nat} {r v:Value} {xs news:List Value} {bs':Value→List Res} (hT:gZ P T=some (e,size,bytes)) (hx:ev L x=some r) (hm:∀ r',Upd bs (.row e size r k xs) (.row e size r' (k+m) (xs++news)) (bs' r'))
 (hy:ev L y=some v) (hs:jE H v m news) (hl:news.length=m * size) (h1:∀ u∈news,u.oneCell'=true) (h63:k+m≤maxLen) (hb:(k+m) * bytes≤140737488355328) (ht:Nat.blt t N=true)
 (hr:∀ r',eG dfs P ops hn w0 N L H (bs' r') i pa) (h:∀ p c,dA dfs P ops hn w0 N E q pa ((t,.slice p (k+m) c)::L) H (bs' (.slice p (k+m) c))):iI dfs P ops hn w0 N E i 2 ⟨some t,.call ⟨.builtin .append,#[x,y],#[T,T]⟩,ty,pos,aft,none⟩ q pa L H bs :=
 ⟨gH ht,SJ hT hx hm hy hs hl h1 h63 hb ht fun r'=>At.ra (hm r').new fun p c e=>by subst e;exact iI.into (.inr<|.inr<|hr _) (h p c)⟩
theorem iI.blR {ps:List (Nat × Operand)} {pv:List (Nat × Value)} {len z k:Nat} {e:TypeId} {l:List Value} (hv:evp L ps=some pv) (hb:fB P T len pv=some (e,l)) (ht:Nat.blt t N=true) (hz:l.length=len * z) (hl:len≤maxLen)
 (h:∀ b,dA dfs P ops hn w0 N E q pa ((t,.slice (some ⟨b,0,none⟩) len len)::L) H (.row e z (.slice (some ⟨b,0,none⟩) len len) len l::bs)):iI dfs P ops hn w0 N E i k ⟨some t,.buildSlice T len ps.toArray,ty,pos,aft,none⟩ q pa L H bs :=
 ⟨gH ht,buildSlice hv hb ht fun b=>reSt (fun _ s=>s.boxRowZ hz hl) (iI.into (.inr<|.inl fun _ s=>s.drop) (h b))⟩
theorem freezeAt {e:TypeId} {size k:Nat} {r:Value} {xs:List Value} {G:Act→World→Prop} (h:∀ H',HUp w0 H H'→jE H' r k xs→At dfs n L H' w0 bs G):At dfs n L H w0 (.row e size r k xs::bs) G :=
 xX fun H' u hr=>h H' u (by
  rcases hr with h | ⟨b,c,e,h1,h2,h3⟩
  ·exact .inl h
  ·exact .inr ⟨b,c,e,h1,h2,h3⟩)
end
section
variable {dfs:List Deferred} {P:Program} {n:Nat} {L:Sl} {H:Hp} {w0:World} {bs:List Res} {Q:Exit→Act→World→Prop} {ops:Array Oper} {rest:List Oper} {K:Act→World→Prop}
variable {d:Option Tmp} {ty:TypeId} {pos:String} {aft:Array Edge} {v:Value} {t:Tmp} {x y:Operand} {T:TypeId}
theorem uD {e:TypeId} {size bytes m c k:Nat} {p:Option Addr} {r:Value} {xs:List Value} {ds:List D} {bs':List Value→Value→List Res} (hT:gZ P T=some (e,size,bytes)) (hx:ev L x=some r)
 (hm:∀ news r',Upd bs (.row e size r k xs) (.row e size r' (k+m) (xs++news)) (bs' news r')) (hy:ev L y=some (.slice p m c)) (hr:Rep H (.seq size ds) [.slice p m c])
 (h63:k+m≤maxLen) (hb:(k+m) * bytes≤140737488355328) (ht:Nat.blt t n=true)
 (h:∀ news r',aL H size ds news→At dfs n ((t,r')::L) H w0 (bs' news r') K):At dfs n L H w0 bs (one P ops Q ⟨some t,.call ⟨.builtin .append,#[x,y],#[T,T]⟩,ty,pos,aft,none⟩ K):=by
 have hlen:=hr.len;unfold Rep at hr;obtain ⟨p',c',h1,h2,h3,h4⟩:=hr;injection h1 with h1 _
 injection h1 with e1 e2 e3
 subst e1 e3;rcases h4 with h4 | ⟨b,off,cs,rfl,hmem,hz⟩
 ·subst h4;obtain rfl:m=0:=e2;cases p with
  | some A=>exact AV hT hx (hm []) hy (fun W s j u e=>by simp at e) (by simp) (by simp) h63 hb ht fun r' _=>h [] r' .nil
  | none =>
   obtain ⟨hu,i,z,hi,hz,hsz,hby,hzs,h0⟩:=lZ hT;have e4:bs' [] r=bs:=(hm [] r).same (by rw [Nat.add_zero,List.append_nil]);have h5:=h [] r .nil;rw [e4] at h5;intro a W f s;refine dQ rfl ?_;unfold Oper.wp;have hown:W.ownsRow w0.heap.size e size r k xs:=(s.own _ (hm [] r).mem).1
   have hrun:(Builtin.append_ #[T,T] ty #[r,.slice none 0 c]).run P W=.ok r W:=by
    rcases hown.2 with ⟨rfl,rfl⟩ | ⟨g,cap,cur,rfl,hbg,hgc,hnc,hcm,hcs,htake⟩
    ·simp [Builtin.append_,run_underlying hu,sizeOf,typeInfo,hi,Builtin.lenOf,Builtin.firstCells]
    ·simp [Builtin.append_,run_underlying hu,sizeOf,typeInfo,hi,Builtin.lenOf,Builtin.firstCells,hnc,storeCells]
   simp [execOp,resolve,invoke,builtin,f.ev hx,f.ev hy,hrun,Result.andThen,Oper.upon];exact h5 _ _ (f.put ht _) s
 ·exact AV hT hx (hm cs) hy (fun W s j u e=>by rw [Addr.add_lit];exact hmem.cell s.agr e) (by rw [hz.len,e2]) hz.one h63 hb ht fun r' _=>h cs r' hz
theorem At.apD {e:TypeId} {size bytes m c k:Nat} {p:Option Addr} {r:Value} {xs:List Value} {ds:List D} {bs':List Value→Value→List Res} (hT:gZ P T=some (e,size,bytes)) (hx:ev L x=some r)
 (hm:∀ news r',Upd bs (.row e size r k xs) (.row e size r' (k+m) (xs++news)) (bs' news r')) (hy:ev L y=some (.slice p m c)) (hr:Rep H (.seq size ds) [.slice p m c])
 (h63:k+m≤maxLen) (hb:(k+m) * bytes≤140737488355328) (ht:Nat.blt t n=true)
 (h:∀ news r',aL H size ds news→At dfs n ((t,r')::L) H w0 (bs' news r') (wpList P ops Q rest)):At dfs n L H w0 bs (wpList P ops Q (⟨some t,.call ⟨.builtin .append,#[x,y],#[T,T]⟩,ty,pos,aft,none⟩::rest)):=cons (uD hT hx hm hy hr h63 hb ht h)
theorem At.blR {ps:List (Nat × Operand)} {pv:List (Nat × Value)} {len z:Nat} {e:TypeId} {l:List Value} (hv:evp L ps=some pv) (hb:fB P T len pv=some (e,l)) (ht:Nat.blt t n=true) (hz:l.length=len * z) (hl:len≤maxLen)
 (h:∀ b,At dfs n ((t,.slice (some ⟨b,0,none⟩) len len)::L) H w0 (.row e z (.slice (some ⟨b,0,none⟩) len len) len l::bs) (wpList P ops Q rest)):At dfs n L H w0 bs (wpList P ops Q (⟨some t,.buildSlice T len ps.toArray,ty,pos,aft,none⟩::rest)) :=
 .bl hv hb ht fun b=>reSt (fun _ s=>s.boxRowZ hz hl) (h b)
theorem At.rs {e:TypeId} {size k:Nat} {r:Value} {xs:List Value} {G:Act→World→Prop} (hm:Res.row e size r k xs∈bs) (hk:0<k) (h:∀ g c,r=.slice (some ⟨g,0,none⟩) k c→At dfs n L H w0 bs G):At dfs n L H w0 bs G:=fun a W f s=>by
 have ho:W.ownsRow w0.heap.size e size r k xs:=(s.own _ hm).1;rcases ho.2 with ⟨hr,h0⟩ | ⟨g,cap,cur,hr,_⟩
 ·omega
 ·exact h g cap hr a W f s
theorem Yl.fld {i:Nat} {u:Value} (hx:ev L x=some v) (hr:∀ W,(Instr.field T v i).run P W=.ok u W) {gd:Option (Nat × Bool)}:Yl P L H w0 bs ⟨d,.field T x i,ty,pos,aft,gd⟩ u:=.of_run fun a W f s=>by
 unfold execOp;simp only [f x _ hx,Sem.run_bind,hr W,Result.andThen,Sem.run_pure]
theorem rQ:∀ (vs l more:List Value) (off:Nat),off+vs.length≤l.length→dJ (l++more) off vs=dJ l off vs++more
 | [],l,more,off,_=>rfl
 | v::r,l,more,off,h=>by
  unfold dJ;rw [List.length_cons] at h;rw [List.set_append_left _ _ (by omega)];exact rQ r (l.set off v) more (off+1) (by rw [List.length_set];omega)
theorem sM:∀ (vs p l:List Value) (off:Nat),dJ (p++l) (p.length+off) vs=p++dJ l off vs
 | [],p,l,off=>rfl
 | v::r,p,l,off=>by
  unfold dJ;rw [List.set_append_right _ _ (by omega),show p.length+off - p.length=off by omega,Nat.add_assoc];exact sM r p (l.set off v) (off+1)
theorem aL.put {H:Hp} {z:Nat} {d:D} {vs:List Value} (hd:Rep H d vs) (hz:vs.length=z):∀ {ds:List D} {l:List Value} {i:Nat},aL H z ds l→i<ds.length→aL H z (ds.set i d) (dJ l (i * z) vs)
 | [],l,i,_,hi=>by simp at hi
 | d0::r,l,0,h,_=>by
  unfold aL at h;obtain ⟨x,y,rfl,h1,h2,h3⟩:=h;rw [List.set_cons_zero,Nat.zero_mul,rQ _ _ _ _ (by omega)];have:=rR vs [] x (by omega);simp only [List.nil_append,List.length_nil] at this;rw [this];unfold aL;exact ⟨vs,y,rfl,hz,hd,h3⟩
 | d0::r,l,i+1,h,hi=>by
  unfold aL at h;obtain ⟨x,y,rfl,h1,h2,h3⟩:=h;have:=aL.put hd hz (i:=i) h3 (by simpa using hi);rw [List.set_cons_succ,show (i+1) * z=x.length+i * z by rw [h1,Nat.succ_mul];omega,sM];unfold aL;exact ⟨x,_,rfl,h1,h2,this⟩
theorem lX:∀ (vs l:List Value) (off:Nat),(dJ l off vs).length=l.length
 | [],l,off=>rfl
 | v::r,l,off=>by unfold dJ;rw [lX r,List.length_set]
variable {N hn i:Nat} {pa:List (Nat × Oper × Value)} {E:Sl→Hp→List Res→Prop} {q:PlT} {fr:List (Nat × Nat × Oper)}
theorem bJ.apD {e:TypeId} {size bytes m c k:Nat} {p:Option Addr} {r:Value} {xs:List Value} {ds:List D} {bs':List Value→Value→List Res} (hT:gZ P T=some (e,size,bytes)) (hx:ev L x=some r)
 (hm:∀ news r',Upd bs (.row e size r k xs) (.row e size r' (k+m) (xs++news)) (bs' news r')) (hy:ev L y=some (.slice p m c)) (hr:Rep H (.seq size ds) [.slice p m c])
 (h63:k+m≤maxLen) (hb:(k+m) * bytes≤140737488355328) (ht:Nat.blt t N=true)
 (hr2:∀ news r',eG dfs P ops hn w0 N L H (bs' news r') i pa) (h:∀ news p c,aL H size ds news→bJ dfs P ops hn w0 N E fr pa ((t,.slice p (k+m) c)::L) H (bs' news (.slice p (k+m) c))) :
 bJ dfs P ops hn w0 N E ((i,3,⟨some t,.call ⟨.builtin .append,#[x,y],#[T,T]⟩,ty,pos,aft,none⟩)::fr) pa L H bs :=
 ⟨gH ht,uD hT hx hm hy hr h63 hb ht fun news r' hz=>At.ra (hm news r').new fun p c e=>by subst e;exact bJ.into (.inr<|.inr<|hr2 _ _) (h news p c hz)⟩
theorem bJ.apD0 {e:TypeId} {size bytes m c:Nat} {p:Option Addr} {r:Value} {ds:List D} {bs':List Value→Value→List Res} (hT:gZ P T=some (e,size,bytes)) (hx:ev L x=some r)
 (hm:∀ news r',Upd bs (.row e size r 0 []) (.row e size r' m news) (bs' news r')) (hy:ev L y=some (.slice p m c)) (hr:Rep H (.seq size ds) [.slice p m c])
 (h63:m≤maxLen) (hb:m * bytes≤140737488355328) (ht:Nat.blt t N=true)
 (hr2:∀ news r',eG dfs P ops hn w0 N L H (bs' news r') i pa) (h:∀ news p c,aL H size ds news→bJ dfs P ops hn w0 N E fr pa ((t,.slice p m c)::L) H (bs' news (.slice p m c))) :
 bJ dfs P ops hn w0 N E ((i,3,⟨some t,.call ⟨.builtin .append,#[x,y],#[T,T]⟩,ty,pos,aft,none⟩)::fr) pa L H bs :=
 .apD hT hx (k:=0) (xs:=[]) (fun news r'=>by rw [Nat.zero_add];exact hm news r') hy hr (by omega) (by rw [Nat.zero_add];exact hb) ht hr2 fun news p c hz=>by rw [Nat.zero_add];exact h news p c hz
end
section
variable {dfs:List Deferred} {P:Program}
variable {n:Nat} {L:Sl} {H:Hp} {w0:World} {bs:List Res} {d:Option Tmp} {ty:TypeId} {pos:String} {aft:Array Edge} {g:Option (Nat × Bool)} {x y:Operand} {T T':TypeId}
end
theorem Rep.cells {H:Hp} {z n c:Nat} {ds:List D} {p:Option Addr} (h:Rep H (.seq z ds) [.slice p n c]):∃ cf:Nat→List Value,∀ i d,ds[i]? = some d→∃ b off,p=some ⟨b,off,none⟩∧Rep H d (cf i)∧(cf i).length=z∧dS H b (off+i * z) (cf i):=by
 classical
 refine ⟨fun i=>if h:∃ cs,∀ d,ds[i]? = some d→∃ b off,p=some ⟨b,off,none⟩∧Rep H d cs∧cs.length=z∧dS H b (off+i * z) cs then Classical.choose h else [],fun i d hd=>?_⟩
 have ex:∃ cs,∀ d,ds[i]? = some d→∃ b off,p=some ⟨b,off,none⟩∧Rep H d cs∧cs.length=z∧dS H b (off+i * z) cs:=by
  obtain ⟨b,off,cs,h1,h2,h3,h4⟩:=h.elem hd;refine ⟨cs,fun d' hd'=>?_⟩;rw [hd] at hd';injection hd' with e
  subst e;exact ⟨b,off,h1,h2,h3,h4⟩
 simp only [dif_pos ex];exact Classical.choose_spec ex d hd
theorem VW {vs l:List Value} {k:Nat} (h:(l.drop k).take vs.length=vs):∀ (j:Nat) u,vs[j]? = some u→l[k+j]? = some u:=fun j u hj=>by
 rw [← h,List.getElem?_take] at hj
 split at hj
 ·rw [List.getElem?_drop] at hj;exact hj
 ·cases hj
section
variable {dfs:List Deferred} {P:Program} {n:Nat} {L:Sl} {H:Hp} {w0:World} {bs:List Res} {Q:Exit→Act→World→Prop} {ops:Array Oper} {rest:List Oper} {K:Act→World→Prop}
variable {d:Option Tmp} {ty:TypeId} {pos:String} {aft:Array Edge} {v:Value} {t:Tmp} {x:Operand}
theorem OX {X:Type} {f:FuncId} {xs:List Operand} {vs fi ca:List Value} {ats:Array TypeId} {C:X→Prop} {val:X→Value} {H':X→Hp} {bs':X→List Res} (hx:ev L x=some (.func (.func f) fi.toArray ca.toArray)) (hf:aM P f=true) (hv:evs L xs=some vs)
 (hc:∀ W,St H w0 bs W→Calls P f (fi++vs++ca).toArray W fun e W'=>∃ x,C x∧e=.returned (val x)∧St (H' x) w0 (bs' x) W') (ht:Nat.blt t n=true)
 (h:∀ x,C x→At dfs n ((t,val x)::L) (H' x) w0 (bs' x) K) :
 At dfs n L H w0 bs (one P ops Q ⟨some t,.call ⟨.value x,xs.toArray,ats⟩,ty,pos,aft,none⟩ K):=by
 intro a W f0 s;refine dQ rfl ?_;unfold Oper.wp;rw [wI hf (fun x u e=>f0.ev e) hx hv];refine (hc W s).mono ?_;rintro e W' ⟨x,hx,rfl,hs⟩;exact h x hx _ _ (f0.put ht _) hs
theorem At.sv {X:Type} {f:FuncId} {xs:List Operand} {vs fi ca:List Value} {ats:Array TypeId} {C:X→Prop} {val:X→Value} {H':X→Hp} {bs':X→List Res} (hx:ev L x=some (.func (.func f) fi.toArray ca.toArray)) (hf:aM P f=true) (hv:evs L xs=some vs)
 (hc:∀ W,St H w0 bs W→Calls P f (fi++vs++ca).toArray W fun e W'=>∃ x,C x∧e=.returned (val x)∧St (H' x) w0 (bs' x) W') (ht:Nat.blt t n=true)
 (h:∀ x,C x→At dfs n ((t,val x)::L) (H' x) w0 (bs' x) (wpList P ops Q rest)):At dfs n L H w0 bs (wpList P ops Q (⟨some t,.call ⟨.value x,xs.toArray,ats⟩,ty,pos,aft,none⟩::rest)):=cons (OX hx hf hv hc ht h)
theorem Yl.mkF {fn:Fn} {fs cs:List Operand} {fi ca:List Value} {g:Option (Nat × Bool)} (h1:evs L fs=some fi) (h2:evs L cs=some ca):Yl P L H w0 bs ⟨d,.makeFunc fn fs.toArray cs.toArray,ty,pos,aft,g⟩ (.func fn fi.toArray ca.toArray):=.of_run fun a W f _=>by
 unfold execOp;simp [mZ f h1,mZ f h2,Instr.makeFunc]
/-! ### Stores in a drawn region's head -/
section
variable {N hn i:Nat} {pa:List (Nat × Oper × Value)} {E:Sl→Hp→List Res→Prop} {r:List (Nat × Nat × Oper)} {T:TypeId} {y:Operand} {bs':List Res}
end
section
variable {N hn i k:Nat} {pa:List (Nat × Oper × Value)} {E:Sl→Hp→List Res→Prop} {r:PlT} {T:TypeId} {y:Operand} {bs':List Res}
theorem iI.blF {ps:List (Nat × Operand)} {pv:List (Nat × Value)} {len:Nat} {e:TypeId} {l:List Value} (hv:evp L ps=some pv) (hb:fB P T len pv=some (e,l)) (ht:Nat.blt t N=true)
 (h:∀ b H1,HUp w0 H H1→dS H1 b 0 l→dA dfs P ops hn w0 N E r pa ((t,.slice (some ⟨b,0,none⟩) len len)::L) H1 bs):iI dfs P ops hn w0 N E i k ⟨some t,.buildSlice T len ps.toArray,ty,pos,aft,none⟩ r pa L H bs :=
 ⟨gH ht,buildSlice hv hb ht fun b=>freezeBox fun H1 u m=>iI.into (.inr<|.inl fun _ s=>s.weakH u.up) (h b H1 u m)⟩
theorem iI.into0 (hr:eG dfs P ops hn w0 N L H bs' i pa) (h:dA dfs P ops hn w0 N E r pa L H bs') :
 At dfs N L H w0 bs' (fun a' W'=>∃ v H' bs'',Fr dfs N (putL none v L) a'∧St H' w0 bs'' W'∧(k=1∨(∀ W,St H' w0 bs'' W→St H w0 bs W)∨eG dfs P ops hn w0 N L H' bs'' i pa)∧dA dfs P ops hn w0 N E r pa (putL none v L) H' bs''):=fun _ _ f s=>⟨undef,H,bs',f,s,.inr (.inr hr),h⟩
end
end
section
variable {dfs:List Deferred} {P:Program} {L:Sl} {H:Hp} {w0:World} {bs:List Res} {ops:Array Oper}
variable {ty:TypeId} {pos:String} {aft:Array Edge} {t:Tmp}
variable {N hn i k:Nat} {pa:List (Nat × Oper × Value)} {E:Sl→Hp→List Res→Prop} {r:List (Nat × Nat × Oper)} {T:TypeId}
theorem bJ.blF {ps:List (Nat × Operand)} {pv:List (Nat × Value)} {len:Nat} {e:TypeId} {l:List Value} (hv:evp L ps=some pv) (hb:fB P T len pv=some (e,l)) (ht:Nat.blt t N=true)
 (h:∀ b H1,HUp w0 H H1→dS H1 b 0 l→bJ dfs P ops hn w0 N E r pa ((t,.slice (some ⟨b,0,none⟩) len len)::L) H1 bs):bJ dfs P ops hn w0 N E ((i,k+1,⟨some t,.buildSlice T len ps.toArray,ty,pos,aft,none⟩)::r) pa L H bs :=
 ⟨gH ht,buildSlice hv hb ht fun b=>freezeBox fun H1 u m=>bJ.into (.inr<|.inl fun _ s=>s.weakH u.up) (h b H1 u m)⟩
end
class FW (F:Fence):Prop where
 fn:∀ f,F.fn f
 depth:F.depth=none
 calls:∀ {n:Nat} {P:Program} {f:FuncId} {args:Array Value} {w:World} {R:Ending→World→Prop},Calls P f args w R→CallsIn F n P f args w R
 rows:∀ {n:Nat} {P:Program} {r:String} {args:Array Value} {w:World} {R:Value→World→Prop},Rows P r args w R→RowsIn F n P r args w R
instance:FW Fence.wide:=⟨fun _=>trivial,rfl,fun h=>callsIn_wide.2 h,fun h c cs _=>let ⟨v,w',r,s⟩:=h c cs;⟨v,w',r,stepsIn_wide.2 s⟩⟩
instance {l:Nat}:FW (Fence.wide.inRound l):=⟨fun _=>trivial,rfl,fun h=>CallsIn.inRound l (callsIn_wide.2 h),fun h c cs _=>let ⟨v,w',r,s⟩:=h c cs;⟨v,w',r,stepsIn_wide.2 s⟩⟩
section
variable {dfs:List Deferred} {P:Program} {n m:Nat} {L:Sl} {H:Hp} {w0:World} {bs:List Res} {Q:Exit→Act→World→Prop} {ops:Array Oper} {rest:List Oper} {K:Act→World→Prop} {F:Fence}
variable {d:Option Tmp} {ty:TypeId} {pos:String} {aft:Array Edge} {g:Option (Nat × Bool)} {v:Value} {t:Tmp} {op:Op} {x y:Operand} {T:TypeId}
theorem DV [hF:FW F] {o:Oper} {a:Act} {w:World} (hd:∀ c,o.op≠.defer c) (h:o.wp P a w K (fun _ _ _=>False)):o.wpIn F m P a w K Q:=by
 unfold Oper.wpIn;refine ⟨fun f _=>hF.fn f,?_⟩;rw [Oper.semAt_plain F _ _ hd];unfold Oper.wp at h;generalize (execOp a.eval o).run P w=r at *;cases r with
 | ok z w' =>
  cases z <;> simp only [Oper.upon] at h <;> simp only [Oper.uponIn]
  case value u=>exact h
  case skip=>exact h
  case defer d=>exact h
  case enter f args =>
   refine ⟨fun e=>(by rw [hF.depth] at e;cases e),hF.calls (h.mono ?_)⟩;intro e w'' q;cases e with
   | returned v=>exact q
   | panicked c=>exact q.elim
   | outgrown=>obtain ⟨_,_,q⟩:=q;exact q.elim
  case row rw args=>exact ⟨fun e=>(by rw [hF.depth] at e;cases e),hF.rows h⟩
 | halt z w' =>
  cases z <;> simp only [Oper.upon] at h
theorem yG [hF:FW F] {o:Oper} (hd:∀ c,o.op≠.defer c) (h:At dfs n L H w0 bs (one P ops (fun _ _ _=>False) o (wpListIn F m P ops Q rest))):At dfs n L H w0 bs (wpListIn F m P ops Q (o::rest)):=by
 intro a W f s;have h1:=h a W f s;unfold one at h1;unfold wpListIn;cases hw:Region.wanted o (yielded ops a.tmps) with
 | true =>
  rw [hw] at h1;simp only [if_true] at h1 ⊢;rcases h1 with h1 | ⟨_,_,_,h1⟩
  ·exact DV hd h1
  ·exact h1.elim
 | false =>
  rw [hw] at h1;simp only [Bool.false_eq_true,if_false] at h1 ⊢;exact ⟨fun f _=>hF.fn f,h1⟩
theorem At.rgI {id:Nat} {l:List Oper} (h:At dfs n L H w0 bs (wpListIn F m P l.toArray Q l)):At dfs n L H w0 bs ((Code.region id l.toArray false).wpIn F m P Q):=fun a W f s=>wpIn_region_lit (h a W f s)
theorem At.rgW {id:Nat} {l:List Oper} (m:Nat) (h:At dfs n L H w0 bs (wpListIn Fence.wide m P l.toArray Q l)):At dfs n L H w0 bs ((Code.region id l.toArray false).wp P Q):=fun a W f s=>wpIn_wide.1 (wpIn_region_lit (h a W f s))
theorem At.nlI (h:At dfs n L H w0 bs (Q .normal)):At dfs n L H w0 bs (wpListIn F m P ops Q []):=h
theorem At.yvI [FW F] (hy:Yl P L H w0 bs ⟨some t,op,ty,pos,aft,none⟩ v) (ht:Nat.blt t n=true) (h:At dfs n ((t,v)::L) H w0 bs (wpListIn F m P ops Q rest)) (hd:∀ c,op≠.defer c:=by intro c e;cases e):At dfs n L H w0 bs (wpListIn F m P ops Q (⟨some t,op,ty,pos,aft,none⟩::rest)):=yG hd (yl hy ht h)
theorem At.mI [FW F] (hx:ev L x=some v) (ht:Nat.blt t n=true) (h:At dfs n ((t,v)::L) H w0 bs (wpListIn F m P ops Q rest)):At dfs n L H w0 bs (wpListIn F m P ops Q (⟨some t,.move x,ty,pos,aft,none⟩::rest)):=.yvI (.move hx) ht h
theorem At.blI [FW F] {ps:List (Nat × Operand)} {pv:List (Nat × Value)} {len:Nat} {e:TypeId} {l:List Value} (hv:evp L ps=some pv) (hb:fB P T len pv=some (e,l)) (ht:Nat.blt t n=true)
 (h:∀ b,At dfs n ((t,.slice (some ⟨b,0,none⟩) len len)::L) H w0 (.box b l e::bs) (wpListIn F m P ops Q rest)):At dfs n L H w0 bs (wpListIn F m P ops Q (⟨some t,.buildSlice T len ps.toArray,ty,pos,aft,none⟩::rest)):=yG (by intro c e;cases e) (buildSlice hv hb ht h)
theorem At.alI [FW F] {l:List Value} (hz:dV P T=some l) (ht:Nat.blt t n=true) (h:∀ b,At dfs n ((t,.pointer (some ⟨b,0,none⟩))::L) H w0 (.box b l T::bs) (wpListIn F m P ops Q rest)):At dfs n L H w0 bs (wpListIn F m P ops Q (⟨some t,.alloc T,ty,pos,aft,none⟩::rest)):=yG (by intro c e;cases e) (alloc hz ht h)
theorem At.stI [FW F] {b off:Nat} {l l':List Value} {t':TypeId} {bs':List Res} (hm:Upd bs (.box b l t') (.box b l' t') bs') (hp:ev L x=some (.pointer (some ⟨b,off,none⟩))) (hv:ev L y=some v) (hT:bL P T=some 1) (h1:v.oneCell'=true) (ho:off<l.length) (hl:l.set off v=l') (h:At dfs n L H w0 bs' (wpListIn F m P ops Q rest)) :
 At dfs n L H w0 bs (wpListIn F m P ops Q (⟨none,.store T x y,ty,pos,aft,none⟩::rest)):=yG (by intro c e;cases e) (store hp hv hT h1 hm ho hl h)
theorem At.sWI [FW F] {b:Nat} {l vs:List Value} {t':TypeId} {bs':List Res} (hm:Upd bs (.box b l t') (.box b vs t') bs') (hp:ev L x=some (.pointer (some ⟨b,0,none⟩))) (hv:ev L y=some (.agg vs.toArray)) (hT:bL P T=some vs.length) (h1:∀ u∈vs,u.oneCell'=true) (ho:l.length=vs.length) (h:At dfs n L H w0 bs' (wpListIn F m P ops Q rest)) :
 At dfs n L H w0 bs (wpListIn F m P ops Q (⟨none,.store T x y,ty,pos,aft,none⟩::rest)):=yG (by intro c e;cases e) (EG hp hv hT h1 hm ho h)
end
/-! ### The caller's side of a range over a function -/
section
variable {H:Hp} {w0 W W':World} {bs:List Res}
theorem St.beside {row:Option Nat} (s:St H w0 bs W) (g:W.grownBy W' row) (hr:∀ r,row=some r→w0.heap.size≤r∧H r=none∧∀ x∈bs,x.blk≠some r):St H w0 bs W':=by
 have hb:∀ k,k<W.heap.size→(∀ r,row=some r→k≠r)→W'.heap[k]? = W.heap[k]? := fun k hk hn=>g.block k hk (fun e=>hn k e.symm rfl);refine ⟨?_,?_,?_,s.apart⟩
 ·have e:=s.ext;unfold Ext at e ⊢;refine ⟨g.os.trans e.os,g.tape.trans e.tape,g.output.trans e.output,Nat.le_trans e.size g.size,fun k hk=>?_⟩;exact (hb k (Nat.lt_of_lt_of_le hk e.size) (fun r e' h=>by have:=(hr r e').1;omega)).trans (e.block k hk)
 ·intro b o e;have:=s.agr b o e;rw [hb b (fX this) (fun r e' h=>by subst h;rw [(hr b e').2.1] at e;cases e)];exact this
 ·intro x hx;exact ⟨(s.own x hx).1.keep g.size (fun b e=>hb b ((s.own x hx).1.lt e).2 (fun r e' h=>by subst h;exact (hr b e').2.2 x hx e)),(s.own x hx).2⟩
def CM:List Res→Bool
 | []=>true
 | .box ..::r=>CM r
 | .row ..::r=>CM r
 | _::_=>false
theorem qA:∀ {bs:List Res},CM bs=true→∀ x∈bs,∀ base,x.ok base W→∀ b,x.blk=some b→∃ o,W.heap[b]? = some o∧o.isCells=true
 | [],_,x,hx,_,_,_,_=>by cases hx
 | .box c l t::r,h,x,hx,base,ho,b,e=>by
  rcases List.mem_cons.1 hx with rfl | hx
  ·obtain rfl:c=b:=Option.some.inj e;exact ⟨_,ho.2,rfl⟩
  ·exact qA (bs:=r) h x hx base ho b e
 | .row et size v n xs::r,h,x,hx,base,ho,b,e=>by
  rcases List.mem_cons.1 hx with rfl | hx
  ·obtain ⟨_,⟨rfl,_⟩ | ⟨g,cap,cur,rfl,hg,hc,_⟩⟩:=ho
   ·cases e
   ·obtain rfl:g=b:=Option.some.inj e;exact ⟨_,hc,rfl⟩
  ·exact qA (bs:=r) h x hx base ho b e
 | .obj ..::_,h,_,_,_,_,_,_=>by cases h
 | .big ..::_,h,_,_,_,_,_,_=>by cases h
theorem zP (s:St H w0 bs W) (h:CM bs=true) {r:Nat} {o:Obj} (ho:W.heap[r]? = some o) (hc:o.isCells=false):∀ x∈bs,x.blk≠some r:=by
 intro x hx e;obtain ⟨o',h1,h2⟩:=qA h x hx _ (s.own x hx).1 r e;rw [ho] at h1;cases h1;rw [hc] at h2;cases h2
theorem VX {α Z:Type} {B:Nat} {C:List α→Z→Prop} {rs:Z→List Res} (hB:w0.heap.size≤B) (hH:∀ r,B≤r→H r=none) (hn:∀ pre z,C pre z→CM (rs z)=true) :
 OwnFrom B (fun pre W=>∃ z,C pre z∧St H w0 (rs z) W):=by
 rintro pre X Y row ⟨z,hz,s⟩ hg hr
 exact ⟨z,hz,s.beside hg fun r e=>by
  obtain ⟨h1,o,h2,h3⟩:=hr r e;exact ⟨Nat.le_trans hB h1,hH r h1,zP s (hn _ _ hz) h2 h3⟩⟩
theorem St.less {H':Hp} (s:St H' w0 bs W) (u:Up H H'):St H w0 bs W:=⟨s.ext,fun b o e=>s.agr b o (u b o e),fun x hx=>⟨(s.own x hx).1,fun b e=>by
 cases h:H b with
 | none=>rfl
 | some o=>have:=(s.own x hx).2 b e;rw [u b o h] at this;cases this⟩,s.apart⟩
theorem St.front {tl:List Res} (s:St H w0 (bs++tl) W):St H w0 bs W:=⟨s.ext,s.agr,fun x hx=>s.own x (List.mem_append_left _ hx),(List.pairwise_append.1 s.apart).1⟩
def tailOf (B:Nat) (W:World):List Res:=.big W.heap.size::(List.range' B (W.heap.size - B)).filterMap fun k=>match W.heap[k]? with
 | some o=>if o.isCells then none else some (.obj k o)
 | none=>none
theorem qB {B:Nat} {x:Res} (h:x∈tailOf B W):x=.big W.heap.size∨∃ k o,x=.obj k o∧W.heap[k]? = some o∧o.isCells=false∧B≤k:=by
 rcases List.mem_cons.1 h with rfl | h
 ·exact .inl Z
 ·obtain ⟨k,hk,he⟩:=List.mem_filterMap.1 h;cases ho:W.heap[k]? with
  | none=>rw [ho] at he;cases he
  | some o =>
   rw [ho] at he;cases hc:o.isCells with
   | true=>simp [hc] at he
   | false=>exact .inr ⟨k,o,by simpa [hc] using he.symm,ho,hc,by have:=List.mem_range'_1.1 hk;omega⟩
theorem St.tailOf {B:Nat} (s:St H w0 bs W) (hn:CM bs=true) (hB:w0.heap.size≤B) (hH:∀ r,B≤r→H r=none):St H w0 (bs++tailOf B W) W:=by
 refine ⟨s.ext,s.agr,?_,List.pairwise_append.2 ⟨s.apart,?_,?_⟩⟩
 ·intro x hx;rcases List.mem_append.1 hx with hx | hx
  ·exact s.own x hx
  ·rcases qB hx with rfl | ⟨k,o,rfl,ho,hc,hk⟩
   ·exact ⟨Nat.le_refl _,fun b e=>by cases e⟩
   ·exact ⟨⟨Nat.le_trans hB hk,ho⟩,fun b e=>by obtain rfl:k=b:=Option.some.inj e;exact hH k hk⟩
 ·refine .cons (fun y _ b e=>by cases e) ?_;refine List.Pairwise.filterMap _ ?_ (List.pairwise_lt_range' (s:=B) (n:=W.heap.size - B));intro k j hlt x hx y hy b e e'
  have key:∀ (m:Nat) (u:Res),(match W.heap[m]? with | some o=>if o.isCells then none else some (Res.obj m o) | none=>none)=some u→u.blk=some m:=by
   intro m u hu;cases ho:W.heap[m]? with
   | none=>rw [ho] at hu;cases hu
   | some o =>
    rw [ho] at hu;cases hc:o.isCells with
    | true=>simp [hc] at hu
    | false =>
     simp [hc] at hu;rw [← hu];rfl
  have h1:=key k x hx;have h2:=key j y hy;rw [h1] at e;rw [h2] at e';cases e;cases e';omega
 ·intro x hx y hy b e e';rcases qB hy with rfl | ⟨k,o,rfl,ho,hc,hk⟩
  ·cases e'
  ·obtain rfl:k=b:=Option.some.inj e';exact zP s hn ho hc x hx e
theorem St.keepsFrom {B:Nat} (s:St H w0 (bs++Sx.tailOf B W) W'):KeepsFrom B W W':=by
 refine ⟨?_,fun k o hk ho hc=>?_⟩
 ·exact (s.own _ (List.mem_append_right _ (List.mem_cons_self ..))).1
 ·have hm:Res.obj k o∈Sx.tailOf B W:=by
   refine List.mem_cons_of_mem _ (List.mem_filterMap.2 ⟨k,List.mem_range'_1.2 ?_,?_⟩)
   ·have:=fX ho;omega
   ·rw [ho];simp [hc]
  exact ((s.own _ (List.mem_append_right _ hm)).1).2
def KpH (H:Hp) (W W':World):Prop:=Agr H W→Agr H W'
def rE {α Z:Type} (C:List α→Z→Prop) (rs:Z→List Res) (H:Hp) (w0:World) (tl:List Res) (xs:List α):Exit→Act→World→Prop
 | .normal,_,W=>∃ z,C xs z∧St H w0 (rs z++tl) W
 | _,_,_=>False
theorem At.rE {α Z:Type} {C:List α→Z→Prop} {rs:Z→List Res} {tl:List Res} {xs:List α} {dfs:List Deferred} {n:Nat} {L:Sl} {H':Hp} (z:Z) (u:Up H H') (hz:C xs z) (hb:bs=rs z++tl) :
 At dfs n L H' w0 bs (Sx.rE C rs H w0 tl xs .normal):=fun a W f s=>⟨z,hz,by rw [← hb];exact s.less u⟩
end
/-! ### A function with a range over a function in it -/
section
variable {P:Program} {n:Nat} {L:Sl} {H:Hp} {w0:World} {bs bs':List Res} {fn:Func} {R:Ending→World→Prop} {v:Value} {D:Nat}
theorem enterM {f:FuncId} {c:Code} {args:List Value} {w:World} (hf:P.funcs[f]? = some fn) (hb:fn.body=some c) (hn:fn.ntmps=n) (hl:Nat.ble args.length n=true) (hA:Agr H w)
 (h:At [] n (uY 0 args) H w [] (c.wp P (bodyPostM Fence.wide 9 P fn R))):Calls P f args.toArray w R:=by
 refine callsIn_wide.1 (callsIn_of_wp_marks (n:=9) hf hb trivial (wpIn_wide.2 (h _ _ ⟨?_,rfl,?_⟩ (.start hA))))
 ·have:args.length≤n:=Nat.le_of_ble_eq_true hl;simp [hn];omega
 ·intro t v e;obtain ⟨_,h2⟩:=qM args 0 t v e;rw [Nat.sub_zero] at h2;have hlt:t<args.length:=(List.getElem?_eq_some_iff.1 h2).1;rw [Array.getD_eq_getD_getElem?];rw [Array.getElem?_append_left (by simpa using hlt)];simp [h2]
theorem St.shut {W:World} (s:St H w0 bs W) (u:Upd bs (.obj D (.deferred (some []))) (.obj D (.deferred none)) bs'):St H w0 bs' (W.putObj D (.deferred none)):=by
 obtain ⟨h1,h2⟩:=(s.own _ u.mem).1;have hlt:=fX h2;have e:=s.ext;refine s.upd u ?_ (by simp [World.putObj]) ?_ ⟨h1,World.putObj_heap_same hlt⟩ (fun b e=>.inl e)
 ·unfold Ext at e ⊢;exact e.grown (grownBy_putObj' W D _) (by omega) (fun k e=>by cases e;exact h1)
 ·intro b _ hne;exact World.putObj_heap_other (fun h=>hne (by rw [h];rfl))
theorem ret0M {e:Exit} (he:e=.ret∨e=.normal) (h:At [] n L H w0 bs (bodyPost P fn R e)):At [] n L H w0 bs (bodyPostM Fence.wide 9 P fn R e):=by
 intro a W f s;obtain ⟨h1,v,h2,h3⟩:bodyPost P fn R .ret a W:=by rcases he with rfl | rfl <;> exact h a W f s
 have h4:LeavesInM Fence.wide 9 P fn a.tmps R a.defers .returning W:=by
  rw [h1];exact ⟨v,h2,h3⟩
 rcases he with rfl | rfl <;> exact h4
theorem retM {e:Exit} (he:e=.ret∨e=.normal) (u:Upd bs (.obj D (.deferred (some []))) (.obj D (.deferred none)) bs') (h:At [] n L H w0 bs' (bodyPost P fn R .ret)) :
 At [{ target:=.collected D,args:=#[] }] n L H w0 bs (bodyPostM Fence.wide 9 P fn R e):=by
 intro a W f s;obtain ⟨_,v,h2,h3⟩:=h { a with defers:=[] } _ ⟨f.size,rfl,f.slot⟩ (s.shut u)
 have h4:LeavesInM Fence.wide 9 P fn a.tmps R a.defers .returning W:=by
  rw [f.defers];exact ⟨(by intro e;cases e),.inl ⟨D,_,rfl,run_takeDeferred (s.own _ u.mem).1.2,v,h2,h3⟩⟩
 rcases he with rfl | rfl <;> exact h4
end
/-! ### The iterator's side -/
section
variable {dfs:List Deferred} {P:Program} {n m l:Nat} {L:Sl} {H:Hp} {w0:World} {bs:List Res} {Q:Exit→Act→World→Prop} {ops:Array Oper} {rest:List Oper} {F:Fence}
variable {d:Option Tmp} {ty:TypeId} {pos:String} {aft:Array Edge} {g:Option (Nat × Bool)} {t:Tmp} {x:Operand} {xs:List Operand} {vs:List Value} {ats:Array TypeId}
theorem Ext.grownBy {W W':World} (e:Ext W W'):W.grownBy W' none:=by
 unfold Ext at e;exact ⟨e.os,e.tape,e.output,e.size,fun k hk _=>e.block k hk⟩
theorem AbidesFrom.ext {β:Type} {B:Nat} {J:β→World→Prop} (h:AbidesFrom B J) {s:β} {W W':World} (hs:J s W) (e:Ext W W'):J s W':=h s W W' none hs (Ext.grownBy e) (fun r h=>by cases h)
theorem FD {a:Act} {W W':World} {r:Next} (f0:∀ x u,ev L x=some u→a.eval x=u) (hx:ev L x=some (.func (.yield l) #[] #[])) (hv:evs L xs=some vs) (hr:(Instr.yield l vs.toArray).run P W=.ok r W') :
 (execOp a.eval ⟨d,.call ⟨.value x,xs.toArray,ats⟩,ty,pos,aft,g⟩).run P W=.ok r W':=by
 unfold execOp;simp [resolve,Deferred.ofValue,f0 _ _ hx,invoke,mZ f0 hv,hr]
theorem At.yd [hF:FW F] {J Jx:World→Prop} (hx:ev L x=some (.func (.yield l) #[] #[])) (hv:evs L xs=some vs) (ht:Nat.blt t n=true)
 (hy:∀ W,St H w0 bs W→YieldAt F (m - 1) P l vs.toArray W fun e W'=>(e=.returned (.bool true)∧J W'∧KpH H W W')∨(e=.returned (.bool false)∧Jx W'))
 (h1:∀ w1,J w1→At dfs n ((t,.bool true)::L) H w1 [] (wpListIn F m P ops Q rest))
 (h2:∀ w1,Jx w1→At dfs n ((t,.bool false)::L) (fun _=>none) w1 [] (wpListIn F m P ops Q rest)) :
 At dfs n L H w0 bs (wpListIn F m P ops Q (⟨some t,.call ⟨.value x,xs.toArray,ats⟩,ty,pos,aft,none⟩::rest)):=by
 intro a W f s;unfold wpListIn;rw [if_pos (by simp [Region.wanted])];unfold Oper.wpIn;refine ⟨fun f _=>hF.fn f,?_⟩;rw [Oper.semAt_plain F _ _ (by intro c e;cases e)];obtain ⟨fn,tmps,assign,body,hr,hR⟩:=hy W s;rw [FD (fun x u e=>f.ev e) hx hv hr];refine ⟨fun e=>(by rw [hF.depth] at e;cases e),hR.mono ?_⟩;rintro e W' (⟨rfl,hj,hk⟩ | ⟨rfl,hj⟩)
 ·exact h1 W' hj _ _ (f.put ht _) (.start (hk s.agr))
 ·exact h2 W' hj _ _ (f.put ht _) (.start (fun b o e=>by cases e))
theorem At.lj {c:Code} {X:Type} (L':X→Sl) (J:X→World→Prop) (C:X→Prop) (μ:X→Nat) (x0:X) (hC:C x0) (hL:Sub L (L' x0)) (hJ:J x0 w0)
 (round:∀ x w1,C x→J x w1→At dfs n (L' x) H w1 [] (c.wp P (Exit.then (fun a W=>∃ y w2,(C y∧μ y<μ x)∧J y w2∧Fr dfs n (L' y) a∧St H w2 [] W) Q))) :
 At dfs n L H w0 [] ((Code.loop c).wp P Q):=by
 intro a W f s;refine wp_loop_ghost (fun m a W=>∃ x w1,μ x=m∧C x∧J x w1∧Fr dfs n (L' x) a∧St H w1 [] W) _ ⟨x0,w0,rfl,hC,hJ,f.sub hL,s⟩ ?_;rintro m a W ⟨x,w1,rfl,hx,hj,f,s⟩;refine wp_mono (round x w1 hx hj a W f s) fun e a' W' q=>?_;cases e <;> first | exact q | skip
 obtain ⟨y,w2,⟨hy,hlt⟩,hj,fy,sy⟩:=q;exact ⟨_,hlt,y,w2,rfl,hy,hj,fy,sy⟩
theorem At.aj {X:Type} {J:X→World→Prop} {L':X→Sl} {C:X→Prop} {μ:X→Nat} {x:X} (y:X) (hC:C y) (hm:μ y<μ x) (hJ:J y w0) (hL:Sub L (L' y)) :
 At dfs n L H w0 [] (fun a W=>∃ y w2,(C y∧μ y<μ x)∧J y w2∧Fr dfs n (L' y) a∧St H w2 [] W):=fun _ W f s=>⟨y,w0,⟨hC,hm⟩,hJ,f.sub hL,s⟩
theorem seqStops {α:Type} {gf:Nat} {lb:List Value} {enc:α→Value} {S:List α→Prop} {N:Nat} {w:World} {fn:Func} {c:Code} (hf:P.funcs[gf]? = some fn) (hb:fn.body=some c) (hn:fn.ntmps=n) (hl:Nat.ble (lb.length+1) n=true)
 (hA:∀ W,Ext w W→Agr H W)
 (h:∀ l (J Jx:List α→World→Prop) W,(∀ s A B,J s A→Ext A B→J s B)→(∀ s A B,Jx s A→Ext A B→Jx s B) →
  (∀ pre x W1,J pre W1→pre.length<N→YieldAt Fence.wide 7 P l #[enc x] W1 fun e W'=>(e=.returned (.bool true)∧J (pre++[x]) W'∧KpH H W1 W')∨(e=.returned (.bool false)∧Jx (pre++[x]) W')) →
  J [] W→At [] n (uY 0 (.func (.yield l) #[] #[]::lb)) H W [] (c.wp P (bodyPost P fn fun e W'=>(∃ v,e=.returned v)∧((∃ xs,S xs∧J xs W')∨(∃ pre,True∧Jx pre W'))))) :
 SeqStopsK Fence.wide 8 P gf lb.toArray (fun x=>#[enc x]) (KpH H) S (fun _=>True) N w:=by
 intro l J Jx W hW hJ hJx hY h0;refine callsIn_wide.2 ?_;have:(#[Value.func (.yield l) #[] #[]]++lb.toArray:Array Value)=(Value.func (.yield l) #[] #[]::lb).toArray:=by simp
 rw [this];exact enter hf hb hn hl (hA W (by unfold Ext;exact hW)) (h l J Jx W (fun s A B h e=>Sx.AbidesFrom.ext hJ h e) (fun s A B h e=>Sx.AbidesFrom.ext hJx h e) hY h0)
end
theorem Res.ok.base {b c:Nat} {W:World} {x:Res} (h:x.ok c W) (hb:b≤c):x.ok b W:=by
 cases x with
 | box d l t=>exact ⟨Nat.le_trans hb h.1,h.2⟩
 | obj d o=>exact ⟨Nat.le_trans hb h.1,h.2⟩
 | big d=>exact h
 | row et size v n xs =>
  obtain ⟨hl,⟨rfl,h0⟩ | ⟨g,cap,cur,rfl,hg,hc,hr⟩⟩:=h
  ·exact ⟨hl,.inl ⟨rfl,h0⟩⟩
  ·exact ⟨hl,.inr ⟨g,cap,cur,rfl,Nat.le_trans hb hg,hc,hr⟩⟩
theorem St.join {H H':Hp} {w0 W W':World} {bs bs':List Res} (s:St H w0 bs W) (u:HUp W H H') (k:St H' W bs' W'):St H' w0 (bs'++bs) W':=by
 refine ⟨s.ext.trans k.ext,k.agr,fun x hx=>?_,List.pairwise_append.2 ⟨k.apart,s.apart,fun x hx y hy b e e'=>?_⟩⟩
 ·rcases List.mem_append.1 hx with hx | hx
  ·exact ⟨(k.own x hx).1.base s.ext.size,(k.own x hx).2⟩
  ·exact ⟨(s.own x hx).1.ext k.ext,fun b e=>u.new b ((s.own x hx).2 b e) ((s.own x hx).1.lt e).2⟩
 ·have h1:=((k.own x hx).1.lt e).1;have h2:=((s.own y hy).1.lt e').2;omega
section
variable {dfs:List Deferred} {P:Program} {L:Sl} {H:Hp} {w0:World} {bs:List Res} {ops:Array Oper}
variable {ty:TypeId} {pos:String} {aft:Array Edge} {t:Tmp} {x:Operand}
variable {N hn i k:Nat} {pa:List (Nat × Oper × Value)} {E:Sl→Hp→List Res→Prop} {r:List (Nat × Nat × Oper)}
theorem bJ.v3 {X:Type} {f:FuncId} {xs:List Operand} {vs fi ca:List Value} {ats:Array TypeId} {C:X→Prop} {val:X→Value} {H':X→Hp} {bs':X→List Res} (hx:ev L x=some (.func (.func f) fi.toArray ca.toArray)) (hf:aM P f=true) (hv:evs L xs=some vs)
 (hc:∀ W,St H w0 bs W→Calls P f (fi++vs++ca).toArray W fun e W'=>∃ x,C x∧e=.returned (val x)∧St (H' x) w0 (bs' x) W') (ht:Nat.blt t N=true)
 (hr:∀ x,C x→eG dfs P ops hn w0 N L (H' x) (bs' x) i pa) (h:∀ x,C x→bJ dfs P ops hn w0 N E r pa ((t,val x)::L) (H' x) (bs' x)):bJ dfs P ops hn w0 N E ((i,3,⟨some t,.call ⟨.value x,xs.toArray,ats⟩,ty,pos,aft,none⟩)::r) pa L H bs :=
 ⟨gH ht,OX hx hf hv hc ht fun x hx=>bJ.into (.inr<|.inr<|hr x hx) (h x hx)⟩
end
end Go.Sx
namespace Go.Proofs.YthhoebdlfjffkaaGreatDoor
open Go.RowKit Go.Par Go.Sx
open Go.RowKit Go.Par Go.Sx
open Go.RowKit Go.Par Go.Sx
end Go.Proofs.YthhoebdlfjffkaaGreatDoor
namespace Go.Proofs.YthhoebdlfjffkaaGreatDoor
open Go.RowKit Go.Par Go.Sx
theorem Fx.agg5:dF Tryz.prog 5=some none:=by kernel_rfl
theorem Fx.bytes40:AQ Tryz.prog 40=Bool.true:=by kernel_rfl
theorem Fx.field172_6:aN Tryz.prog 172 6=some 6:=by kernel_rfl
theorem Fx.bsl40_2 (x0:Int) (x1:Int):fB Tryz.prog 40 2 [(0,.int .u8 x0),(1,.int .u8 x1)]=some (5,[.int .u8 x0,.int .u8 x1]):=by kernel_rfl
theorem Fx.call65:aM Tryz.prog 65=Bool.true:=by kernel_rfl
theorem Fx.call143:aM Tryz.prog 143=Bool.true:=by kernel_rfl
theorem Fx.field172_0:aN Tryz.prog 172 0=some 0:=by kernel_rfl
theorem Fx.call160:aM Tryz.prog 160=Bool.true:=by kernel_rfl
theorem Fx.call162:aM Tryz.prog 162=Bool.true:=by kernel_rfl
theorem Fx.field172_1:aN Tryz.prog 172 1=some 1:=by kernel_rfl
theorem Fx.field172_5:aN Tryz.prog 172 5=some 5:=by kernel_rfl
theorem Fx.sl129:slN Tryz.prog 129=some 1:=by kernel_rfl
theorem Fx.bld33_0 (x0:Int):bV Tryz.prog 33 [(0,.int .i64 x0)]=some [.int .i64 x0,.string ⟨#[]⟩,.int .i64 0,.slice none 0 0]:=by kernel_rfl
theorem Fx.bld33_0_1 (x0:Int) (x1:ByteArray):bV Tryz.prog 33 [(0,.int .i64 x0),(1,.string x1)]=some [.int .i64 x0,.string x1,.int .i64 0,.slice none 0 0]:=by kernel_rfl
theorem Fx.bld33_0_1_3 (x0:Int) (x1:ByteArray) (x3p:Option Addr) (x3n x3c:Nat):bV Tryz.prog 33 [(0,.int .i64 x0),(1,.string x1),(3,.slice x3p x3n x3c)]=some [.int .i64 x0,.string x1,.int .i64 0,.slice x3p x3n x3c]:=by kernel_rfl
theorem Fx.bld33_0_2 (x0:Int) (x2:Int):bV Tryz.prog 33 [(0,.int .i64 x0),(2,.int .i64 x2)]=some [.int .i64 x0,.string ⟨#[]⟩,.int .i64 x2,.slice none 0 0]:=by kernel_rfl
theorem Fx.bld33_0_3 (x0:Int) (x3p:Option Addr) (x3n x3c:Nat):bV Tryz.prog 33 [(0,.int .i64 x0),(3,.slice x3p x3n x3c)]=some [.int .i64 x0,.string ⟨#[]⟩,.int .i64 0,.slice x3p x3n x3c]:=by kernel_rfl
theorem Fx.bsl129_6 (x0:Int) (x1:Int) (x2:Int) (x3:Int) (x4:Int) (x5:Int):fB Tryz.prog 129 6 [(0,.int .i64 x0),(1,.int .i64 x1),(2,.int .i64 x2),(3,.int .i64 x3),(4,.int .i64 x4),(5,.int .i64 x5)]=some (3,[.int .i64 x0,.int .i64 x1,.int .i64 x2,.int .i64 x3,.int .i64 x4,.int .i64 x5]):=by kernel_rfl
theorem Fx.bsl31_1 (x00 x01 x02 x03:Value):fB Tryz.prog 31 1 [(0,.agg [x00,x01,x02,x03].toArray)]=some (33,[x00,x01,x02,x03]):=by kernel_rfl
theorem Fx.bsl31_2 (x00 x01 x02 x03:Value) (x10 x11 x12 x13:Value):fB Tryz.prog 31 2 [(0,.agg [x00,x01,x02,x03].toArray),(1,.agg [x10,x11,x12,x13].toArray)]=some (33,[x00,x01,x02,x03,x10,x11,x12,x13]):=by kernel_rfl
theorem Fx.row31:gZ Tryz.prog 31=some (33,4,56):=by kernel_rfl
theorem Fx.call159:aM Tryz.prog 159=Bool.true:=by kernel_rfl
theorem Fx.field172_2:aN Tryz.prog 172 2=some 2:=by kernel_rfl
theorem Fx.agg129:dF Tryz.prog 129=some none:=by kernel_rfl
theorem Fx.agg169:dF Tryz.prog 169=some none:=by kernel_rfl
theorem Fx.agg205:dF Tryz.prog 205=some (some 6):=by kernel_rfl
theorem Fx.call109:aM Tryz.prog 109=Bool.true:=by kernel_rfl
theorem Fx.call161:aM Tryz.prog 161=Bool.true:=by kernel_rfl
theorem Fx.field172_3:aN Tryz.prog 172 3=some 3:=by kernel_rfl
theorem Fx.field172_4:aN Tryz.prog 172 4=some 4:=by kernel_rfl
theorem Fx.size205:bL Tryz.prog 205=some 6:=by kernel_rfl
theorem Fx.sl169:slN Tryz.prog 169=some 1:=by kernel_rfl
theorem Fx.zero205:dV Tryz.prog 205=some
 [Go.Value.int Go.IntKind.i64 (Int.ofNat 0),Go.Value.string { data:={ toList:=[] } },
  Go.Value.string { data:={ toList:=[] } },Go.Value.slice none 0 0,Go.Value.slice none 0 0,
  Go.Value.slice none 0 0]:=by kernel_rfl
theorem Fx.bld205_0 (x0:Int):bV Tryz.prog 205 [(0,.int .i64 x0)]=some [.int .i64 x0,.string ⟨#[]⟩,.string ⟨#[]⟩,.slice none 0 0,.slice none 0 0,.slice none 0 0]:=by kernel_rfl
theorem Fx.bld205_0_1_2_3 (x0:Int) (x1:ByteArray) (x2:ByteArray) (x3p:Option Addr) (x3n x3c:Nat):bV Tryz.prog 205 [(0,.int .i64 x0),(1,.string x1),(2,.string x2),(3,.slice x3p x3n x3c)]=some [.int .i64 x0,.string x1,.string x2,.slice x3p x3n x3c,.slice none 0 0,.slice none 0 0]:=by kernel_rfl
theorem Fx.bld205_0_1_3 (x0:Int) (x1:ByteArray) (x3p:Option Addr) (x3n x3c:Nat):bV Tryz.prog 205 [(0,.int .i64 x0),(1,.string x1),(3,.slice x3p x3n x3c)]=some [.int .i64 x0,.string x1,.string ⟨#[]⟩,.slice x3p x3n x3c,.slice none 0 0,.slice none 0 0]:=by kernel_rfl
theorem Fx.bld205_0_1_3_5 (x0:Int) (x1:ByteArray) (x3p:Option Addr) (x3n x3c:Nat) (x5p:Option Addr) (x5n x5c:Nat):bV Tryz.prog 205 [(0,.int .i64 x0),(1,.string x1),(3,.slice x3p x3n x3c),(5,.slice x5p x5n x5c)]=some [.int .i64 x0,.string x1,.string ⟨#[]⟩,.slice x3p x3n x3c,.slice none 0 0,.slice x5p x5n x5c]:=by kernel_rfl
theorem Fx.bld205_0_2_3 (x0:Int) (x2:ByteArray) (x3p:Option Addr) (x3n x3c:Nat):bV Tryz.prog 205 [(0,.int .i64 x0),(2,.string x2),(3,.slice x3p x3n x3c)]=some [.int .i64 x0,.string ⟨#[]⟩,.string x2,.slice x3p x3n x3c,.slice none 0 0,.slice none 0 0]:=by kernel_rfl
theorem Fx.bld205_0_3_4 (x0:Int) (x3p:Option Addr) (x3n x3c:Nat) (x4p:Option Addr) (x4n x4c:Nat):bV Tryz.prog 205 [(0,.int .i64 x0),(3,.slice x3p x3n x3c),(4,.slice x4p x4n x4c)]=some [.int .i64 x0,.string ⟨#[]⟩,.string ⟨#[]⟩,.slice x3p x3n x3c,.slice x4p x4n x4c,.slice none 0 0]:=by kernel_rfl
theorem Fx.bld205_0_3_4_5 (x0:Int) (x3p:Option Addr) (x3n x3c:Nat) (x4p:Option Addr) (x4n x4c:Nat) (x5p:Option Addr) (x5n x5c:Nat):bV Tryz.prog 205 [(0,.int .i64 x0),(3,.slice x3p x3n x3c),(4,.slice x4p x4n x4c),(5,.slice x5p x5n x5c)]=some [.int .i64 x0,.string ⟨#[]⟩,.string ⟨#[]⟩,.slice x3p x3n x3c,.slice x4p x4n x4c,.slice x5p x5n x5c]:=by kernel_rfl
theorem Fx.bld205_0_3_5 (x0:Int) (x3p:Option Addr) (x3n x3c:Nat) (x5p:Option Addr) (x5n x5c:Nat):bV Tryz.prog 205 [(0,.int .i64 x0),(3,.slice x3p x3n x3c),(5,.slice x5p x5n x5c)]=some [.int .i64 x0,.string ⟨#[]⟩,.string ⟨#[]⟩,.slice x3p x3n x3c,.slice none 0 0,.slice x5p x5n x5c]:=by kernel_rfl
theorem Fx.call144:aM Tryz.prog 144=Bool.true:=by kernel_rfl
theorem Fx.field172_7:aN Tryz.prog 172 7=some 7:=by kernel_rfl
theorem Fx.row156:gZ Tryz.prog 156=some (205,6,112):=by kernel_rfl
theorem Fx.bsl156_1 (x00 x01 x02 x03 x04 x05:Value):fB Tryz.prog 156 1 [(0,.agg [x00,x01,x02,x03,x04,x05].toArray)]=some (205,[x00,x01,x02,x03,x04,x05]):=by kernel_rfl
theorem Fx.agg174:dF Tryz.prog 174=some (some 2):=by kernel_rfl
theorem Fx.call64:aM Tryz.prog 64=Bool.true:=by kernel_rfl
theorem Fx.field174_1:aN Tryz.prog 174 1=some 1:=by kernel_rfl
theorem Fx.row152:gZ Tryz.prog 152=some (158,3,64):=by kernel_rfl
theorem Fx.size174:bL Tryz.prog 174=some 2:=by kernel_rfl
theorem Fx.sl165:slN Tryz.prog 165=some 2:=by kernel_rfl
theorem Fx.zero174:dV Tryz.prog 174=some [Go.Value.int Go.IntKind.u8 (Int.ofNat 0),Go.Value.slice none 0 0]:=by kernel_rfl
theorem Fx.bld158_0_1_2 (x0:ByteArray) (x1p:Option Addr) (x1n x1c:Nat) (x2p:Option Addr) (x2n x2c:Nat):bV Tryz.prog 158 [(0,.string x0),(1,.slice x1p x1n x1c),(2,.slice x2p x2n x2c)]=some [.string x0,.slice x1p x1n x1c,.slice x2p x2n x2c]:=by kernel_rfl
theorem Fx.bsl152_1 (x00 x01 x02:Value):fB Tryz.prog 152 1 [(0,.agg [x00,x01,x02].toArray)]=some (158,[x00,x01,x02]):=by kernel_rfl
theorem Fx.agg165:dF Tryz.prog 165=some none:=by kernel_rfl
theorem Fx.field167_2:aN Tryz.prog 167 2=some 2:=by kernel_rfl
theorem Fx.field167_3:aN Tryz.prog 167 3=some 3:=by kernel_rfl
theorem Fx.field174_0:aN Tryz.prog 174 0=some 0:=by kernel_rfl
theorem Fx.row129:gZ Tryz.prog 129=some (3,1,8):=by kernel_rfl
theorem Fx.bsl129_1 (x0:Int):fB Tryz.prog 129 1 [(0,.int .i64 x0)]=some (3,[.int .i64 x0]):=by kernel_rfl
end Go.Proofs.YthhoebdlfjffkaaGreatDoor
namespace Go.Proofs.YthhoebdlfjffkaaGreatDoor
open Go.RowKit Go.Par Go.Sx
end Go.Proofs.YthhoebdlfjffkaaGreatDoor
namespace Go.Proofs.YthhoebdlfjffkaaGreatDoor
open Go.RowKit Go.Par Go.Sx
theorem Fx.agg41:dF Tryz.prog 41=some none:=by kernel_rfl
theorem Fx.agg81:dF Tryz.prog 81=some none:=by kernel_rfl
theorem Fx.agg82:dF Tryz.prog 82=some none:=by kernel_rfl
theorem Fx.agg83:dF Tryz.prog 83=some none:=by kernel_rfl
theorem Fx.agg85:dF Tryz.prog 85=some (some 4):=by kernel_rfl
theorem Fx.agg143:dF Tryz.prog 143=some none:=by kernel_rfl
theorem Fx.agg144:dF Tryz.prog 144=some none:=by kernel_rfl
theorem Fx.agg146:dF Tryz.prog 146=some (some 3):=by kernel_rfl
theorem Fx.agg167:dF Tryz.prog 167=some (some 4):=by kernel_rfl
theorem Fx.call66:aM Tryz.prog 66=Bool.true:=by kernel_rfl
theorem Fx.call67:aM Tryz.prog 67=Bool.true:=by kernel_rfl
theorem Fx.field43_0:aN Tryz.prog 43 0=some 0:=by kernel_rfl
theorem Fx.field43_1:aN Tryz.prog 43 1=some 1:=by kernel_rfl
theorem Fx.field43_2:aN Tryz.prog 43 2=some 2:=by kernel_rfl
theorem Fx.field85_1:aN Tryz.prog 85 1=some 1:=by kernel_rfl
theorem Fx.field85_2:aN Tryz.prog 85 2=some 2:=by kernel_rfl
theorem Fx.field85_3:aN Tryz.prog 85 3=some 3:=by kernel_rfl
theorem Fx.field146_1:aN Tryz.prog 146 1=some 1:=by kernel_rfl
theorem Fx.field146_2:aN Tryz.prog 146 2=some 2:=by kernel_rfl
theorem Fx.field167_0:aN Tryz.prog 167 0=some 0:=by kernel_rfl
theorem Fx.field167_1:aN Tryz.prog 167 1=some 1:=by kernel_rfl
theorem Fx.row81:gZ Tryz.prog 81=some (141,2,24):=by kernel_rfl
theorem Fx.row82:gZ Tryz.prog 82=some (142,3,40):=by kernel_rfl
theorem Fx.row83:gZ Tryz.prog 83=some (146,3,64):=by kernel_rfl
theorem Fx.row143:gZ Tryz.prog 143=some (148,3,32):=by kernel_rfl
theorem Fx.row144:gZ Tryz.prog 144=some (152,1,24):=by kernel_rfl
theorem Fx.row169:gZ Tryz.prog 169=some (129,1,24):=by kernel_rfl
theorem Fx.size81:bL Tryz.prog 81=some 1:=by kernel_rfl
theorem Fx.size82:bL Tryz.prog 82=some 1:=by kernel_rfl
theorem Fx.size83:bL Tryz.prog 83=some 1:=by kernel_rfl
theorem Fx.size85:bL Tryz.prog 85=some 4:=by kernel_rfl
theorem Fx.size143:bL Tryz.prog 143=some 1:=by kernel_rfl
theorem Fx.size144:bL Tryz.prog 144=some 1:=by kernel_rfl
theorem Fx.size146:bL Tryz.prog 146=some 3:=by kernel_rfl
theorem Fx.size167:bL Tryz.prog 167=some 4:=by kernel_rfl
theorem Fx.size172:bL Tryz.prog 172=some 8:=by kernel_rfl
theorem Fx.sl41:slN Tryz.prog 41=some 4:=by kernel_rfl
theorem Fx.sl81:slN Tryz.prog 81=some 2:=by kernel_rfl
theorem Fx.zero85:dV Tryz.prog 85=some
 [Go.Value.string { data:={ toList:=[] } },Go.Value.slice none 0 0,Go.Value.slice none 0 0,
  Go.Value.slice none 0 0]:=by kernel_rfl
theorem Fx.zero146:dV Tryz.prog 146=some
 [Go.Value.string { data:={ toList:=[] } },Go.Value.slice none 0 0,Go.Value.slice none 0 0]:=by kernel_rfl
theorem Fx.zero167:dV Tryz.prog 167=some
 [Go.Value.int Go.IntKind.u8 (Int.ofNat 0),Go.Value.int Go.IntKind.u8 (Int.ofNat 0),Go.Value.slice none 0 0,
  Go.Value.slice none 0 0]:=by kernel_rfl
theorem Fx.zero172:dV Tryz.prog 172=some
 [Go.Value.int Go.IntKind.i64 (Int.ofNat 0),Go.Value.int Go.IntKind.i64 (Int.ofNat 0),
  Go.Value.int Go.IntKind.i64 (Int.ofNat 0),Go.Value.int Go.IntKind.i64 (Int.ofNat 0),
  Go.Value.slice none 0 0,Go.Value.int Go.IntKind.i64 (Int.ofNat 0),Go.Value.slice none 0 0,
  Go.Value.int Go.IntKind.i64 (Int.ofNat 0)]:=by kernel_rfl
theorem Fx.bld141_0_1 (x0:ByteArray) (x1:Bool):bV Tryz.prog 141 [(0,.string x0),(1,.bool x1)]=some [.string x0,.bool x1]:=by kernel_rfl
theorem Fx.bld142_0_1_2 (x0:ByteArray) (x1:ByteArray) (x2:Int):bV Tryz.prog 142 [(0,.string x0),(1,.string x1),(2,.int .i64 x2)]=some [.string x0,.string x1,.int .i64 x2]:=by kernel_rfl
theorem Fx.bld146_0 (x0:ByteArray):bV Tryz.prog 146 [(0,.string x0)]=some [.string x0,.slice none 0 0,.slice none 0 0]:=by kernel_rfl
theorem Fx.bld148_0_1_2 (x0:ByteArray) (x1:Int) (x2:Int):bV Tryz.prog 148 [(0,.string x0),(1,.int .i64 x1),(2,.int .i64 x2)]=some [.string x0,.int .i64 x1,.int .i64 x2]:=by kernel_rfl
theorem Fx.bld167  : bV Tryz.prog 167 []=some [.int .u8 0,.int .u8 0,.slice none 0 0,.slice none 0 0]:=by kernel_rfl
theorem Fx.bld172_0_1_2_3_4 (x0:Int) (x1:Int) (x2:Int) (x3:Int) (x4p:Option Addr) (x4n x4c:Nat):bV Tryz.prog 172 [(0,.int .i64 x0),(1,.int .i64 x1),(2,.int .i64 x2),(3,.int .i64 x3),(4,.slice x4p x4n x4c)]=some [.int .i64 x0,.int .i64 x1,.int .i64 x2,.int .i64 x3,.slice x4p x4n x4c,.int .i64 0,.slice none 0 0,.int .i64 0]:=by kernel_rfl
theorem Fx.bld174_0 (x0:Int):bV Tryz.prog 174 [(0,.int .u8 x0)]=some [.int .u8 x0,.slice none 0 0]:=by kernel_rfl
theorem Fx.bld85_0 (x0:ByteArray):bV Tryz.prog 85 [(0,.string x0)]=some [.string x0,.slice none 0 0,.slice none 0 0,.slice none 0 0]:=by kernel_rfl
theorem Fx.bsl143_1 (x00 x01 x02:Value):fB Tryz.prog 143 1 [(0,.agg [x00,x01,x02].toArray)]=some (148,[x00,x01,x02]):=by kernel_rfl
theorem Fx.bsl144_1 (x0p:Option Addr) (x0n x0c:Nat):fB Tryz.prog 144 1 [(0,.slice x0p x0n x0c)]=some (152,[.slice x0p x0n x0c]):=by kernel_rfl
theorem Fx.bsl165_1 (x00 x01:Value):fB Tryz.prog 165 1 [(0,.agg [x00,x01].toArray)]=some (174,[x00,x01]):=by kernel_rfl
theorem Fx.bsl169_1 (x0p:Option Addr) (x0n x0c:Nat):fB Tryz.prog 169 1 [(0,.slice x0p x0n x0c)]=some (129,[.slice x0p x0n x0c]):=by kernel_rfl
theorem Fx.bsl41_1 (x00 x01 x02 x03:Value):fB Tryz.prog 41 1 [(0,.agg [x00,x01,x02,x03].toArray)]=some (167,[x00,x01,x02,x03]):=by kernel_rfl
theorem Fx.bsl81_1 (x00 x01:Value):fB Tryz.prog 81 1 [(0,.agg [x00,x01].toArray)]=some (141,[x00,x01]):=by kernel_rfl
theorem Fx.bsl82_1 (x00 x01 x02:Value):fB Tryz.prog 82 1 [(0,.agg [x00,x01,x02].toArray)]=some (142,[x00,x01,x02]):=by kernel_rfl
theorem Fx.bsl83_1 (x00 x01 x02:Value):fB Tryz.prog 83 1 [(0,.agg [x00,x01,x02].toArray)]=some (146,[x00,x01,x02]):=by kernel_rfl
theorem Fx.agg156:dF Tryz.prog 156=some none:=by kernel_rfl
theorem Fx.call60:aM Tryz.prog 60=Bool.true:=by kernel_rfl
theorem Fx.field205_0:aN Tryz.prog 205 0=some 0:=by kernel_rfl
theorem Fx.field205_1:aN Tryz.prog 205 1=some 1:=by kernel_rfl
theorem Fx.field205_2:aN Tryz.prog 205 2=some 2:=by kernel_rfl
theorem Fx.field205_3:aN Tryz.prog 205 3=some 3:=by kernel_rfl
theorem Fx.field205_4:aN Tryz.prog 205 4=some 4:=by kernel_rfl
theorem Fx.field205_5:aN Tryz.prog 205 5=some 5:=by kernel_rfl
theorem Fx.int206:vZ Tryz.prog 206=some Go.IntKind.u8:=by kernel_rfl
theorem Fx.row159:gZ Tryz.prog 159=some (208,6,112):=by kernel_rfl
theorem Fx.sl156:slN Tryz.prog 156=some 6:=by kernel_rfl
theorem Fx.bld208_0_1_2_4_5 (x0:Int) (x1:ByteArray) (x2:ByteArray) (x4p:Option Addr) (x4n x4c:Nat) (x5p:Option Addr) (x5n x5c:Nat):bV Tryz.prog 208 [(0,.int .u8 x0),(1,.string x1),(2,.string x2),(4,.slice x4p x4n x4c),(5,.slice x5p x5n x5c)]=some [.int .u8 x0,.string x1,.string x2,.slice none 0 0,.slice x4p x4n x4c,.slice x5p x5n x5c]:=by kernel_rfl
theorem Fx.bsl159_1 (x00 x01 x02 x03 x04 x05:Value):fB Tryz.prog 159 1 [(0,.agg [x00,x01,x02,x03,x04,x05].toArray)]=some (208,[x00,x01,x02,x03,x04,x05]):=by kernel_rfl
theorem Fx.agg141:dF Tryz.prog 141=some (some 2):=by kernel_rfl
theorem Fx.agg142:dF Tryz.prog 142=some (some 3):=by kernel_rfl
theorem Fx.agg148:dF Tryz.prog 148=some (some 3):=by kernel_rfl
theorem Fx.agg152:dF Tryz.prog 152=some none:=by kernel_rfl
theorem Fx.agg158:dF Tryz.prog 158=some (some 3):=by kernel_rfl
theorem Fx.field85_0:aN Tryz.prog 85 0=some 0:=by kernel_rfl
theorem Fx.field141_0:aN Tryz.prog 141 0=some 0:=by kernel_rfl
theorem Fx.field141_1:aN Tryz.prog 141 1=some 1:=by kernel_rfl
theorem Fx.field142_0:aN Tryz.prog 142 0=some 0:=by kernel_rfl
theorem Fx.field142_1:aN Tryz.prog 142 1=some 1:=by kernel_rfl
theorem Fx.field142_2:aN Tryz.prog 142 2=some 2:=by kernel_rfl
theorem Fx.field146_0:aN Tryz.prog 146 0=some 0:=by kernel_rfl
theorem Fx.field148_0:aN Tryz.prog 148 0=some 0:=by kernel_rfl
theorem Fx.field148_1:aN Tryz.prog 148 1=some 1:=by kernel_rfl
theorem Fx.field148_2:aN Tryz.prog 148 2=some 2:=by kernel_rfl
theorem Fx.field158_0:aN Tryz.prog 158 0=some 0:=by kernel_rfl
theorem Fx.field158_1:aN Tryz.prog 158 1=some 1:=by kernel_rfl
theorem Fx.field158_2:aN Tryz.prog 158 2=some 2:=by kernel_rfl
theorem Fx.int149:vZ Tryz.prog 149=some Go.IntKind.u8:=by kernel_rfl
theorem Fx.row45:gZ Tryz.prog 45=some (102,2,24):=by kernel_rfl
theorem Fx.row46:gZ Tryz.prog 46=some (105,3,40):=by kernel_rfl
theorem Fx.row47:gZ Tryz.prog 47=some (110,3,64):=by kernel_rfl
theorem Fx.row107:gZ Tryz.prog 107=some (151,3,32):=by kernel_rfl
theorem Fx.row108:gZ Tryz.prog 108=some (155,1,24):=by kernel_rfl
theorem Fx.row153:gZ Tryz.prog 153=some (162,3,64):=by kernel_rfl
theorem Fx.size45:bL Tryz.prog 45=some 1:=by kernel_rfl
theorem Fx.size46:bL Tryz.prog 46=some 1:=by kernel_rfl
theorem Fx.size47:bL Tryz.prog 47=some 1:=by kernel_rfl
theorem Fx.size49:bL Tryz.prog 49=some 4:=by kernel_rfl
theorem Fx.size107:bL Tryz.prog 107=some 1:=by kernel_rfl
theorem Fx.size108:bL Tryz.prog 108=some 1:=by kernel_rfl
theorem Fx.size141:bL Tryz.prog 141=some 2:=by kernel_rfl
theorem Fx.size142:bL Tryz.prog 142=some 3:=by kernel_rfl
theorem Fx.size148:bL Tryz.prog 148=some 3:=by kernel_rfl
theorem Fx.size153:bL Tryz.prog 153=some 1:=by kernel_rfl
theorem Fx.size158:bL Tryz.prog 158=some 3:=by kernel_rfl
theorem Fx.sl82:slN Tryz.prog 82=some 3:=by kernel_rfl
theorem Fx.sl83:slN Tryz.prog 83=some 3:=by kernel_rfl
theorem Fx.sl143:slN Tryz.prog 143=some 3:=by kernel_rfl
theorem Fx.sl144:slN Tryz.prog 144=some 1:=by kernel_rfl
theorem Fx.sl152:slN Tryz.prog 152=some 3:=by kernel_rfl
theorem Fx.zero49:dV Tryz.prog 49=some
 [Go.Value.string { data:={ toList:=[] } },Go.Value.slice none 0 0,Go.Value.slice none 0 0,
  Go.Value.slice none 0 0]:=by kernel_rfl
theorem Fx.zero141:dV Tryz.prog 141=some [Go.Value.string { data:={ toList:=[] } },Go.Value.bool false]:=by kernel_rfl
theorem Fx.zero142:dV Tryz.prog 142=some
 [Go.Value.string { data:={ toList:=[] } },Go.Value.string { data:={ toList:=[] } },
  Go.Value.int Go.IntKind.i64 (Int.ofNat 0)]:=by kernel_rfl
theorem Fx.zero148:dV Tryz.prog 148=some
 [Go.Value.string { data:={ toList:=[] } },Go.Value.int Go.IntKind.i64 (Int.ofNat 0),
  Go.Value.int Go.IntKind.i64 (Int.ofNat 0)]:=by kernel_rfl
theorem Fx.zero158:dV Tryz.prog 158=some
 [Go.Value.string { data:={ toList:=[] } },Go.Value.slice none 0 0,Go.Value.slice none 0 0]:=by kernel_rfl
theorem Fx.bld102_0_1 (x0:ByteArray) (x1:Bool):bV Tryz.prog 102 [(0,.string x0),(1,.bool x1)]=some [.string x0,.bool x1]:=by kernel_rfl
theorem Fx.bld105_0_1_2 (x0:ByteArray) (x1:ByteArray) (x2:Int):bV Tryz.prog 105 [(0,.string x0),(1,.string x1),(2,.int .i64 x2)]=some [.string x0,.string x1,.int .i64 x2]:=by kernel_rfl
theorem Fx.bld110_0 (x0:ByteArray):bV Tryz.prog 110 [(0,.string x0)]=some [.string x0,.slice none 0 0,.slice none 0 0]:=by kernel_rfl
theorem Fx.bld151_0_1_2 (x0:ByteArray) (x1:Int) (x2:Int):bV Tryz.prog 151 [(0,.string x0),(1,.int .u8 x1),(2,.int .i64 x2)]=some [.string x0,.int .u8 x1,.int .i64 x2]:=by kernel_rfl
theorem Fx.bld162_0_1_2 (x0:ByteArray) (x1p:Option Addr) (x1n x1c:Nat) (x2p:Option Addr) (x2n x2c:Nat):bV Tryz.prog 162 [(0,.string x0),(1,.slice x1p x1n x1c),(2,.slice x2p x2n x2c)]=some [.string x0,.slice x1p x1n x1c,.slice x2p x2n x2c]:=by kernel_rfl
theorem Fx.bld49_0 (x0:ByteArray):bV Tryz.prog 49 [(0,.string x0)]=some [.string x0,.slice none 0 0,.slice none 0 0,.slice none 0 0]:=by kernel_rfl
theorem Fx.bsl107_1 (x00 x01 x02:Value):fB Tryz.prog 107 1 [(0,.agg [x00,x01,x02].toArray)]=some (151,[x00,x01,x02]):=by kernel_rfl
theorem Fx.bsl108_1 (x00:Value):fB Tryz.prog 108 1 [(0,.agg [x00].toArray)]=some (155,[x00]):=by kernel_rfl
theorem Fx.bsl153_1 (x00 x01 x02:Value):fB Tryz.prog 153 1 [(0,.agg [x00,x01,x02].toArray)]=some (162,[x00,x01,x02]):=by kernel_rfl
theorem Fx.bsl45_1 (x00 x01:Value):fB Tryz.prog 45 1 [(0,.agg [x00,x01].toArray)]=some (102,[x00,x01]):=by kernel_rfl
theorem Fx.bsl46_1 (x00 x01 x02:Value):fB Tryz.prog 46 1 [(0,.agg [x00,x01,x02].toArray)]=some (105,[x00,x01,x02]):=by kernel_rfl
theorem Fx.bsl47_1 (x00 x01 x02:Value):fB Tryz.prog 47 1 [(0,.agg [x00,x01,x02].toArray)]=some (110,[x00,x01,x02]):=by kernel_rfl
end Go.Proofs.YthhoebdlfjffkaaGreatDoor
namespace Go.Proofs.YthhoebdlfjffkaaGreatDoor
open Go.RowKit Go.Par Go.Sx
open Go.RowKit Go.Par Go.Sx
open Go.RowKit Go.Par Go.Sx
end Go.Proofs.YthhoebdlfjffkaaGreatDoor
namespace Go.Proofs.YthhoebdlfjffkaaGreatDoor
open Go.RowKit Go.Par Go.Sx
theorem Fx.agg28:dF Tryz.prog 28=some none:=by kernel_rfl
theorem Fx.agg94:dF Tryz.prog 94=some none:=by kernel_rfl
theorem Fx.agg96:dF Tryz.prog 96=some (some 3):=by kernel_rfl
theorem Fx.agg97:dF Tryz.prog 97=some none:=by kernel_rfl
theorem Fx.call50:aM Tryz.prog 50=Bool.true:=by kernel_rfl
theorem Fx.call72:aM Tryz.prog 72=Bool.true:=by kernel_rfl
theorem Fx.call73:aM Tryz.prog 73=Bool.true:=by kernel_rfl
theorem Fx.call91:aM Tryz.prog 91=Bool.true:=by kernel_rfl
theorem Fx.call118:aM Tryz.prog 118=Bool.true:=by kernel_rfl
theorem Fx.field96_0:aN Tryz.prog 96 0=some 0:=by kernel_rfl
theorem Fx.field96_1:aN Tryz.prog 96 1=some 1:=by kernel_rfl
theorem Fx.field99_0:aN Tryz.prog 99 0=some 0:=by kernel_rfl
theorem Fx.field99_1:aN Tryz.prog 99 1=some 1:=by kernel_rfl
theorem Fx.field99_2:aN Tryz.prog 99 2=some 2:=by kernel_rfl
theorem Fx.field99_4:aN Tryz.prog 99 4=some 7:=by kernel_rfl
theorem Fx.field99_5:aN Tryz.prog 99 5=some 8:=by kernel_rfl
theorem Fx.size28:bL Tryz.prog 28=some 1:=by kernel_rfl
theorem Fx.size96:bL Tryz.prog 96=some 3:=by kernel_rfl
theorem Fx.sl97:slN Tryz.prog 97=some 3:=by kernel_rfl
theorem Fx.zero96:dV Tryz.prog 96=some
 [Go.Value.int Go.IntKind.u8 (Int.ofNat 0),Go.Value.string { data:={ toList:=[] } },
  Go.Value.int Go.IntKind.i64 (Int.ofNat 0)]:=by kernel_rfl
theorem Fx.bld96_2 (x2:Int):bV Tryz.prog 96 [(2,.int .i64 x2)]=some [.int .u8 0,.string ⟨#[]⟩,.int .i64 x2]:=by kernel_rfl
def bT (ts:List Tk) (q:Sg):Nat:=ts.length - q.r.length
theorem GH {q:Sg} {ts:List Tk} (h:q.r<:+ts):q.r.length≤ts.length:=h.length_le
theorem CC {q:Sg} {ts:List Tk} (h:q.r<:+ts) (hi:¬ bT ts q<ts.length):q.r=[]:=by
 have:=GH h;unfold bT at hi;exact List.eq_nil_of_length_eq_zero (by omega)
theorem GL {q:Sg} {ts:List Tk} {n:Nat} (h:q.r<:+ts) (hi:bT ts q<ts.length):ts[bT ts q]=tkH n q.r∧q.r≠[]:=by
 obtain ⟨p,e⟩:=h;have hp:bT ts q=p.length:=by unfold bT;rw [← e,List.length_append];omega
 cases hr:q.r with
 | nil=>rw [hr,List.append_nil] at e;rw [hp,e] at hi;omega
 | cons t l =>
  refine ⟨?_,by simp⟩;have e2:ts[bT ts q]? = some t:=by rw [hp,← e,hr];simp
  rw [List.getElem?_eq_getElem hi] at e2;exact Option.some.inj e2
theorem zJ {q:Sg} {ts:List Tk} (h:q.r<:+ts) (hr:q.r≠[]):bT ts q.tl=bT ts q+1∧bT ts q<ts.length:=by
 have h1:=GH h;cases hl:q.r with
 | nil=>exact absurd hl hr
 | cons t l =>
  rw [hl,List.length_cons] at h1;unfold bT Sg.tl;simp only [hl,List.tail_cons,List.length_cons];omega
structure Tkm (H:Hp) (ts:List Tk) (tp:Option Addr) (tc:Nat):Prop where
 rep:Rep H (.seq 3 (ts.map (dTk .u8))) [.slice tp ts.length tc]
 good:∀ t∈ts,Tkg t
 num:∀ t∈ts,t.k=3→pre dU t.t=t.t.length
 short:∀ t∈ts,t.t.length≤1000000
theorem Tkm.up {H H':Hp} {ts:List Tk} {tp:Option Addr} {tc:Nat} (h:Tkm H ts tp tc) (u:Up H H'):Tkm H' ts tp tc:=⟨h.rep.up u,h.good,h.num,h.short⟩
theorem GE {q:Sg} {ts:List Tk} {n:Nat} (h:q.r<:+ts):q.r=[]∨tkH n q.r∈ts:=by
 cases hr:q.r with
 | nil=>exact .inl rfl
 | cons t l=>exact .inr (h.subset (by rw [hr];exact List.mem_cons_self ..))
theorem Tkm.tk {H:Hp} {q:Sg} {ts:List Tk} {tp:Option Addr} {tc n:Nat} (K:Tkm H ts tp tc) (h:q.r<:+ts):(tkH n q.r).t.length≤1000000:=by
 rcases GE (n:=n) h with e | e
 ·rw [e];show (0:Nat)≤_;omega
 ·exact K.short _ e
theorem RR (a b c:Value):∀ W,(Instr.field 96 (.agg [a,b,c].toArray) 0).run Tryz.prog W=.ok a W:=fun _=>by kernel_rfl
theorem RQ (a b c:Value):∀ W,(Instr.field 96 (.agg [a,b,c].toArray) 1).run Tryz.prog W=.ok b W:=fun _=>by kernel_rfl
theorem RP (a b c:Value):∀ W,(Instr.field 96 (.agg [a,b,c].toArray) 2).run Tryz.prog W=.ok c W:=fun _=>by kernel_rfl
theorem nJ {H:Hp} {w0 W:World} {bs:List Res} {b n:Nat} {ts:List Tk} {tp:Option Addr} {tc:Nat} {t0 t1 t2 t3:Value} {q:Sg} (K:Tkm H ts tp tc) (hq:q.r<:+ts) (s:St H w0 (.box b [.slice tp ts.length tc,.int .i64 (bT ts q:Nat),.int .i64 (n:Nat),t0,t1,t2,t3,.int .i64 (q.o:Nat),.int .i64 (q.e:Nat)] 99::bs) W) :
 Calls Tryz.prog 91 #[.pointer (some ⟨b,0,none⟩)] W fun e W'=>∃ _:Unit,(True)∧e=.returned (.agg (cTk .u8 (tkH n q.r)).toArray)∧St H w0 (.box b [.slice tp ts.length tc,.int .i64 (bT ts q:Nat),.int .i64 (n:Nat),t0,t1,t2,t3,.int .i64 (q.o:Nat),.int .i64 (q.e:Nat)] 99::bs) W':=by
 have hcap:=K.rep.cap;refine Sx.enterS Tryz.func91 rfl Tryz.ntmps91 rfl s ?_;refine .sr<|.al Fx.zero96 Z fun b2=>.nt<|.sq<|.sq<|.fL 9 [(0,0),(1,0),(2,0),(3,0),(4,0),(5,0),(6,0),(7,0),(8,0)]<|.mv Z<|.yw (.nilCheck Z)<|.yw (.fieldAddr Z Fx.field99_1)<|.yw (.load Z Fx.agg3 aW Z)<|.mv Z<|.yw (.nilCheck Z)<|.yw (.fieldAddr Z Fx.field99_0)<|.yw (.load Z Fx.agg97 aW Z)<|.yw (.lenSl Fx.sl97 Z)<|.fn (tl:=[_]) Z<|.yw (.lss Z Z)<|.nt<|.cd Z (fun h12=>?_) (fun h12=>?_)
 ·try simp only [dt] at h12
  have hi:bT ts q<ts.length:=by omega
  obtain ⟨et,_⟩:=GL (n:=n) hq hi;obtain ⟨bE,oE,cE,hpE,rE,lE,mE⟩:=K.rep.elem (bB (f:=dTk .u8) hi);cases hpE;rw [et] at rE;obtain ⟨rfl,_⟩:=GD rE;refine .sq<|.fL 10 [(0,0),(1,0),(2,0),(3,0),(4,0),(5,0),(6,0),(7,0),(8,0),(9,0)]<|.mv Z<|.yw (.nilCheck Z)<|.yw (.fieldAddr Z Fx.field99_0)<|.yw (.load Z Fx.agg97 aW Z)<|.mv Z<|.yw (.nilCheck Z)<|.yw (.fieldAddr Z Fx.field99_1)<|.yw (.load Z Fx.agg3 aW Z)<|.yw (.indexSl Fx.sl97 Z Z Z (by omega) (q:=oE+bT ts q * 3) Z)<|.yw (.loadMW Z Fx.agg96 mE Z)<|.fn (tl:=[_]) Z<|.sW .head Z Z Fx.size96 (by simp [cTk,Value.oneCell',aB]) Z<|.nt<|.rt<|.tR<|?_
  refine Sx.ret1 (.inl rfl) rfl (.cell rfl Fx.agg96 (.head _) rfl) fun W s=>?_
  first
   | (exact ⟨(),trivial,rfl,s.p2_1 [1] rfl⟩)
   | (exact ⟨(),trivial,(by rw [hr];rfl),s.p2_1 [1] rfl⟩)
 try simp only [df] at h12
 have hr:=CC hq (by omega);refine .sk<|.tN<|.sr<|.mv Z<|.yw (.nilCheck Z)<|.yw (.fieldAddr Z Fx.field99_2)<|.yw (.load Z Fx.agg3 aW Z)<|.yw (.build Z (Fx.bld96_2 _))<|.sW .head Z Z Fx.size96 (by simp [cTk,Value.oneCell',aB]) Z<|.nt<|.rt<|?_
 refine Sx.ret1 (.inl rfl) rfl (.cell rfl Fx.agg96 (.head _) rfl) fun W s=>?_
 first
  | (exact ⟨(),trivial,rfl,s.p2_1 [1] rfl⟩)
  | (exact ⟨(),trivial,(by rw [hr];rfl),s.p2_1 [1] rfl⟩)
theorem rH {H:Hp} {w0 W:World} {bs:List Res} {b n:Nat} {ts:List Tk} {tp:Option Addr} {tc:Nat} {t0 t1 t2 t3:Value} {q:Sg} (K:Tkm H ts tp tc) (hq:q.r<:+ts) (c:Nat) (s:St H w0 (.box b [.slice tp ts.length tc,.int .i64 (bT ts q:Nat),.int .i64 (n:Nat),t0,t1,t2,t3,.int .i64 (q.o:Nat),.int .i64 (q.e:Nat)] 99::bs) W) :
 Calls Tryz.prog 50 #[.pointer (some ⟨b,0,none⟩),.int .i64 (c:Nat)] W fun e W'=>∃ _:Unit,(True)∧e=.returned (.tuple #[])∧St H w0 (.box b [.slice tp ts.length tc,.int .i64 (bT ts (q.fail n c):Nat),.int .i64 (n:Nat),t0,t1,t2,t3,.int .i64 ((q.fail n c).o:Nat),.int .i64 ((q.fail n c).e:Nat)] 99::bs) W':=by
 refine Sx.enterS Tryz.func50 rfl Tryz.ntmps50 rfl s ?_;refine .sr<|.mv Z<|.yw (.nilCheck Z)<|.yw (.fieldAddr Z Fx.field99_5)<|.yw (.load Z Fx.agg28 (.head _) Z)<|.yw (.eql Z Z)<|.nt<|.cd Z (fun h8=>?_) (fun h8=>?_)
 ·try simp only [dt] at h8
  have h0:q.e=0:=by omega
  have e1:q.fail n c=⟨q.r,c,(tkH n q.r).o⟩:=by unfold Sg.fail;rw [if_pos h0,VT]
  rw [e1];refine .rg<|.mv Z<|.mv Z<|.mv Z<|.cs (X:=Unit) Fx.call91 Z (fun W s=>nJ K hq  (s.p1_1 [0] Z)) Z fun _ _=>.yw (.fld Z (RP _ _ _))<|.mv Z<|.yw (.nilCheck Z)<|.yw (.fieldAddr Z Fx.field99_4)<|.st .head Z Z Fx.size3 Z (nb Z) Z<|.yw (.nilCheck Z)<|.yw (.fieldAddr Z Fx.field99_5)<|.st .head Z Z Fx.size28 Z (nb Z) Z<|.nl<|?_
  refine Sx.retN (.inr rfl) rfl .nil rfl fun W s=>⟨(),trivial,rfl,?_⟩;exact s.p1_1 [0] rfl
 try simp only [df] at h8
 have h0:¬ q.e=0:=by omega
 have e1:q.fail n c=q:=by unfold Sg.fail;rw [if_neg h0]
 rw [e1];refine .sk<|?_
 refine Sx.retN (.inr rfl) rfl .nil rfl fun W s=>⟨(),trivial,rfl,?_⟩;exact s.p1_1 [0] rfl
theorem TB {H:Hp} {w0 W:World} {bs:List Res} {b n:Nat} {ts:List Tk} {tp:Option Addr} {tc:Nat} {t0 t1 t2 t3:Value} {q:Sg} (K:Tkm H ts tp tc) (hq:q.r<:+ts) (w:Str) (s:St H w0 (.box b [.slice tp ts.length tc,.int .i64 (bT ts q:Nat),.int .i64 (n:Nat),t0,t1,t2,t3,.int .i64 (q.o:Nat),.int .i64 (q.e:Nat)] 99::bs) W) :
 Calls Tryz.prog 118 #[.pointer (some ⟨b,0,none⟩),aB w] W fun e W'=>∃ _:Unit,(True)∧e=.returned (.bool (tcB n w q))∧St H w0 (.box b [.slice tp ts.length tc,.int .i64 (bT ts q:Nat),.int .i64 (n:Nat),t0,t1,t2,t3,.int .i64 (q.o:Nat),.int .i64 (q.e:Nat)] 99::bs) W':=by
 refine Sx.enterS Tryz.func118 rfl Tryz.ntmps118 rfl s ?_;refine .sr<|.a Z Z<|.ns<|.mv Z<|.yw (.nilCheck Z)<|.yw (.fieldAddr Z Fx.field99_5)<|.yw (.load Z Fx.agg28 (.head _) Z)<|.yw (.eql Z Z)<|.mv Z<|.b2 (fun h10=>?_) (fun h10=>?_)
 ·skip
  refine .gd Z Z<|.yw (.move Z)<|.gd Z Z<|.cs (X:=Unit) Fx.call91 Z (fun W s=>nJ K hq  (s.p1_1 [0] Z)) Z fun _ _=>.gd Z Z<|.yw (.fld Z (RQ _ _ _))<|.gd Z Z<|.yw (.move Z)<|.gd Z Z<|.yw (.eqS Z Z)<|.yw (.pickT Z Z)<|.a Z Z<|.nt<|.rt<|?_
  refine Sx.ret1 (.inl rfl) rfl (.tmp rfl) fun W s=>?_
  first
   | (exact ⟨(),trivial,(by unfold tcB;rw [decide_eq_true (show q.e=0 by have:=of_decide_eq_true h10;omega),Bool.true_and]),s.p1_1 [0] rfl⟩)
   | (exact ⟨(),trivial,(by unfold tcB;rw [decide_eq_false (show ¬ q.e=0 by have:=of_decide_eq_false h10;omega),Bool.false_and]),s.p1_1 [0] rfl⟩)
 skip
 refine .gG<|.gG<|.gG<|.gG<|.gG<|.yw (.pickF Z Z)<|.a Z Z<|.nt<|.rt<|?_
 refine Sx.ret1 (.inl rfl) rfl (.tmp rfl) fun W s=>?_
 first
  | (exact ⟨(),trivial,(by unfold tcB;rw [decide_eq_true (show q.e=0 by have:=of_decide_eq_true h10;omega),Bool.true_and]),s.p1_1 [0] rfl⟩)
  | (exact ⟨(),trivial,(by unfold tcB;rw [decide_eq_false (show ¬ q.e=0 by have:=of_decide_eq_false h10;omega),Bool.false_and]),s.p1_1 [0] rfl⟩)
def tcS (n:Nat) (w:Str) (q:Sg):Sg:=if tcB n w q then q.tl else q
theorem TP {n:Nat} {w:Str} {q:Sg} (hw:w≠[]) (h:tcB n w q=true):q.r≠[]:=by
 intro e;unfold tcB at h;rw [Bool.and_eq_true,decide_eq_true_eq,decide_eq_true_eq,e] at h;exact hw h.2.symm
theorem yQ {H:Hp} {w0 W:World} {bs:List Res} {b n:Nat} {ts:List Tk} {tp:Option Addr} {tc:Nat} {t0 t1 t2 t3:Value} {q:Sg} (K:Tkm H ts tp tc) (hq:q.r<:+ts) (w:Str) (hw:w≠[]) (s:St H w0 (.box b [.slice tp ts.length tc,.int .i64 (bT ts q:Nat),.int .i64 (n:Nat),t0,t1,t2,t3,.int .i64 (q.o:Nat),.int .i64 (q.e:Nat)] 99::bs) W) :
 Calls Tryz.prog 72 #[.pointer (some ⟨b,0,none⟩),aB w] W fun e W'=>∃ _:Unit,(True)∧e=.returned (.bool (tcB n w q))∧St H w0 (.box b [.slice tp ts.length tc,.int .i64 (bT ts (tcS n w q):Nat),.int .i64 (n:Nat),t0,t1,t2,t3,.int .i64 ((tcS n w q).o:Nat),.int .i64 ((tcS n w q).e:Nat)] 99::bs) W':=by
 have hcap:=K.rep.cap;refine Sx.enterS Tryz.func72 rfl Tryz.ntmps72 rfl s ?_;refine .sr<|.a Z Z<|.nt<|.sq<|.sr<|.mv Z<|.mv Z<|.cs (X:=Unit) Fx.call118 Z (fun W s=>TB K hq w (s.p1_1 [0] Z)) Z fun _ _=>.yw (.not Z)<|.nt<|.cd Z (fun h8=>?_) (fun h8=>?_)
 ·have e1:tcS n w q=q:=by unfold tcS;rw [if_neg (by simpa using h8)]
  rw [e1];have hb:tcB n w q=false:=by simpa using h8
  refine .sr<|.a Z Z<|.nt<|.rt<|.tR<|?_
  refine Sx.ret1 (.inl rfl) rfl (.tmp rfl) fun W s=>?_;exact ⟨(),trivial,(by rw [hb]),s.p1_1 [0] rfl⟩
 have hb:tcB n w q=true:=by simpa using h8
 have e1:tcS n w q=q.tl:=by unfold tcS;rw [if_pos hb]
 rw [e1];obtain ⟨hp,hi⟩:=zJ hq (TP hw hb);refine .sk<|.tN<|.sr<|.mv Z<|.yw (.nilCheck Z)<|.yw (.fieldAddr Z Fx.field99_1)<|.yw (.load Z Fx.agg3 (.head _) Z)<|.yw (.add Z Z (c:=((bT ts q.tl:Nat):Int)) ((w6 (by omega)).trans (by omega)))<|.yw (.nilCheck Z)<|.yw (.fieldAddr Z Fx.field99_1)<|.st .head Z Z Fx.size3 Z (nb Z) Z<|.ns<|.a Z Z<|.nt<|.rt<|?_
 refine Sx.ret1 (.inl rfl) rfl (.tmp rfl) fun W s=>?_;exact ⟨(),trivial,(by rw [hb]),s.p1_1 [0] rfl⟩
theorem KY {w:Str} (hw:w∈words∨w∈symbols):w≠[]:=SR w (List.mem_append.2 hw)
theorem bM {H:Hp} {w0 W:World} {bs:List Res} {b n:Nat} {ts:List Tk} {tp:Option Addr} {tc:Nat} {t0 t1 t2 t3:Value} {q:Sg} (K:Tkm H ts tp tc) (hq:q.r<:+ts) (w:Str) (hw:w∈words∨w∈symbols) (s:St H w0 (.box b [.slice tp ts.length tc,.int .i64 (bT ts q:Nat),.int .i64 (n:Nat),t0,t1,t2,t3,.int .i64 (q.o:Nat),.int .i64 (q.e:Nat)] 99::bs) W) :
 Calls Tryz.prog 72 #[.pointer (some ⟨b,0,none⟩),aB w] W fun e W'=>∃ _:Unit,(True)∧e=.returned (.bool (ac w q))∧St H w0 (.box b [.slice tp ts.length tc,.int .i64 (bT ts (acS w q):Nat),.int .i64 (n:Nat),t0,t1,t2,t3,.int .i64 ((acS w q).o:Nat),.int .i64 ((acS w q).e:Nat)] 99::bs) W':=by
 have h:=yQ K hq w (KY hw) s;unfold tcS at h;rw [ED K.good hq hw] at h;exact h
theorem NV {H:Hp} {w0 W:World} {bs:List Res} {b n:Nat} {ts:List Tk} {tp:Option Addr} {tc:Nat} {t0 t1 t2 t3:Value} {q:Sg} (K:Tkm H ts tp tc) (hq:q.r<:+ts) (w:Str) (hw:w∈words∨w∈symbols) (s:St H w0 (.box b [.slice tp ts.length tc,.int .i64 (bT ts q:Nat),.int .i64 (n:Nat),t0,t1,t2,t3,.int .i64 (q.o:Nat),.int .i64 (q.e:Nat)] 99::bs) W) :
 Calls Tryz.prog 118 #[.pointer (some ⟨b,0,none⟩),aB w] W fun e W'=>∃ _:Unit,(True)∧e=.returned (.bool (ac w q))∧St H w0 (.box b [.slice tp ts.length tc,.int .i64 (bT ts q:Nat),.int .i64 (n:Nat),t0,t1,t2,t3,.int .i64 (q.o:Nat),.int .i64 (q.e:Nat)] 99::bs) W':=by
 have h:=TB K hq w s;rw [ED K.good hq hw] at h;exact h
theorem yC {H:Hp} {w0 W:World} {bs:List Res} {b n:Nat} {ts:List Tk} {tp:Option Addr} {tc:Nat} {t0 t1 t2 t3:Value} {q:Sg} (K:Tkm H ts tp tc) (hq:q.r<:+ts) (w:Str) (hw:w≠[]) (s:St H w0 (.box b [.slice tp ts.length tc,.int .i64 (bT ts q:Nat),.int .i64 (n:Nat),t0,t1,t2,t3,.int .i64 (q.o:Nat),.int .i64 (q.e:Nat)] 99::bs) W) :
 Calls Tryz.prog 73 #[.pointer (some ⟨b,0,none⟩),aB w] W fun e W'=>∃ _:Unit,(True)∧e=.returned (.tuple #[])∧St H w0 (.box b [.slice tp ts.length tc,.int .i64 (bT ts (if tcB n w q then q.tl else q.fail n 8):Nat),.int .i64 (n:Nat),t0,t1,t2,t3,.int .i64 ((if tcB n w q then q.tl else q.fail n 8).o:Nat),.int .i64 ((if tcB n w q then q.tl else q.fail n 8).e:Nat)] 99::bs) W':=by
 refine Sx.enterS Tryz.func73 rfl Tryz.ntmps73 rfl s ?_;refine .sr<|.mv Z<|.mv Z<|.cs (X:=Unit) Fx.call72 Z (fun W s=>yQ K hq w hw (s.p1_1 [0] Z)) Z fun _ _=>.yw (.not Z)<|.nt<|.cd Z (fun h7=>?_) (fun h7=>?_)
 ·have e1:tcS n w q=q:=by unfold tcS;rw [if_neg (by simpa using h7)]
  rw [e1,if_neg (show ¬ tcB n w q=true by simpa using h7)];refine .rg<|.mv Z<|.cs (X:=Unit) Fx.call50 Z (fun W s=>rH K hq 8 (s.p1_1 [0] Z)) Z fun _ _=>.nl<|?_
  refine Sx.retN (.inr rfl) rfl .nil rfl fun W s=>⟨(),trivial,rfl,?_⟩;exact s.p1_1 [0] rfl
 have e1:tcS n w q=q.tl:=by unfold tcS;rw [if_pos (by simpa using h7)]
 rw [e1,if_pos (show tcB n w q=true by simpa using h7)];refine .sk<|?_
 refine Sx.retN (.inr rfl) rfl .nil rfl fun W s=>⟨(),trivial,rfl,?_⟩;exact s.p1_1 [0] rfl
theorem aP {H:Hp} {w0 W:World} {bs:List Res} {b n:Nat} {ts:List Tk} {tp:Option Addr} {tc:Nat} {t0 t1 t2 t3:Value} {q:Sg} (K:Tkm H ts tp tc) (hq:q.r<:+ts) (w:Str) (hw:w∈words∨w∈symbols) (s:St H w0 (.box b [.slice tp ts.length tc,.int .i64 (bT ts q:Nat),.int .i64 (n:Nat),t0,t1,t2,t3,.int .i64 (q.o:Nat),.int .i64 (q.e:Nat)] 99::bs) W) :
 Calls Tryz.prog 73 #[.pointer (some ⟨b,0,none⟩),aB w] W fun e W'=>∃ _:Unit,(True)∧e=.returned (.tuple #[])∧St H w0 (.box b [.slice tp ts.length tc,.int .i64 (bT ts (up n (gNd w) q):Nat),.int .i64 (n:Nat),t0,t1,t2,t3,.int .i64 ((up n (gNd w) q).o:Nat),.int .i64 ((up n (gNd w) q).e:Nat)] 99::bs) W':=by
 have h:=yC K hq w (KY hw) s;rw [ED K.good hq hw,← WG] at h;exact h
theorem KL {H:Hp} {w0 W:World} {bs:List Res} {b n:Nat} {ts:List Tk} {tp:Option Addr} {tc:Nat} {t0 t1 t2 t3:Value} {q:Sg} (K:Tkm H ts tp tc) (hq:q.r<:+ts) (w:Str) (hw:w=[50]∨w=[51]) (s:St H w0 (.box b [.slice tp ts.length tc,.int .i64 (bT ts q:Nat),.int .i64 (n:Nat),t0,t1,t2,t3,.int .i64 (q.o:Nat),.int .i64 (q.e:Nat)] 99::bs) W) :
 Calls Tryz.prog 73 #[.pointer (some ⟨b,0,none⟩),aB w] W fun e W'=>∃ _:Unit,(True)∧e=.returned (.tuple #[])∧St H w0 (.box b [.slice tp ts.length tc,.int .i64 (bT ts (up n (gNn w) q):Nat),.int .i64 (n:Nat),t0,t1,t2,t3,.int .i64 ((up n (gNn w) q).o:Nat),.int .i64 ((up n (gNn w) q).e:Nat)] 99::bs) W':=by
 have h:=yC K hq w (by rcases hw with rfl | rfl <;> simp) s;rw [← WC K.good hq hw] at h;exact h
theorem LP {n:Nat} {r:List Tk} (h:(tkH n r).k≠0):r≠[]:=fun e=>by subst e;exact h rfl
theorem fO {H:Hp} {w0 W:World} {bs:List Res} {b n:Nat} {ts:List Tk} {tp:Option Addr} {tc:Nat} {t0 t1 t2 t3:Value} {q:Sg} (K:Tkm H ts tp tc) (hq:q.r<:+ts) (s:St H w0 (.box b [.slice tp ts.length tc,.int .i64 (bT ts q:Nat),.int .i64 (n:Nat),t0,t1,t2,t3,.int .i64 (q.o:Nat),.int .i64 (q.e:Nat)] 99::bs) W) :
 Calls Tryz.prog 74 #[.pointer (some ⟨b,0,none⟩)] W fun e W'=>∃ x:Str,(vl gNm q x∧x.length≤1000000)∧e=.returned (aB x)∧St H w0 (.box b [.slice tp ts.length tc,.int .i64 (bT ts (up n gNm q):Nat),.int .i64 (n:Nat),t0,t1,t2,t3,.int .i64 ((up n gNm q).o:Nat),.int .i64 ((up n gNm q).e:Nat)] 99::bs) W':=by
 have hcap:=K.rep.cap;refine Sx.enterS Tryz.func74 rfl Tryz.ntmps74 rfl s ?_;refine .sr<|.a Z Z<|.ns<|.mv Z<|.cs (X:=Unit) Fx.call91 Z (fun W s=>nJ K hq  (s.p1_1 [0] Z)) Z fun _ _=>.al Fx.zero96 Z fun b3=>.sW .head Z Z Fx.size96 (by simp [cTk,Value.oneCell',aB]) Z<|.nt<|.sq<|.sr<|.yw (.fieldAddr Z Fx.field96_0)<|.yw (.load Z Fx.agg94 (.head _) Z)<|.yw (.neq Z Z)<|.nt<|.cd Z (fun h8=>?_) (fun h8=>?_)
 ·have hk:¬ (tkH n q.r).k=1:=fun e=>of_decide_eq_true h8 (by rw [e];rfl);have e1:up n gNm q=q.fail n 8:=by rw [SZ,if_neg (fun h=>hk h.2)]
  have e2:(if q.e=0∧(tkH n q.r).k=1 then (tkH n q.r).t else [])=[]:=if_neg (fun h=>hk h.2);rw [e1]
  have e3:(q.fail n 8).e≠0:=by
   unfold Sg.fail
   split
   ·exact Nat.succ_ne_zero 7
   ·assumption
  refine .rg<|.mv Z<|.cs (X:=Unit) Fx.call50 Z (fun W s=>rH K hq 8 (s.p2_2 [1,0] Z)) Z fun _ _=>.nt<|.sq<|.sr<|.mv Z<|.yw (.nilCheck Z)<|.yw (.fieldAddr Z Fx.field99_5)<|.yw (.load Z Fx.agg28 (.head _) Z)<|.yw (.neq Z Z)<|.nt<|.cd Z (fun h15=>?_) (fun h15=>?_)
  ·skip
   refine .sr<|.a Z Z<|.nt<|.rt<|.tR<|?_
   refine Sx.ret1 (.inl rfl) rfl (.tmp rfl) fun W s=>?_;exact ⟨[],⟨by have:=NA (n:=n) (s:=q);rw [e2] at this;exact this,Nat.zero_le _⟩,rfl,s.p2_1 [0] rfl⟩
  exact absurd (show (q.fail n 8).e=0 by have:=Classical.not_not.1 (of_decide_eq_false h15);omega) e3
 have hk:(tkH n q.r).k=1:=UInt8.toNat_inj.1 (by have:=Classical.not_not.1 (of_decide_eq_false h8);exact Int.ofNat.inj this);refine .sk<|.tN<|.sq<|.sr<|.mv Z<|.yw (.nilCheck Z)<|.yw (.fieldAddr Z Fx.field99_5)<|.yw (.load Z Fx.agg28 aW Z)<|.yw (.neq Z Z)<|.nt<|.cd Z (fun h15=>?_) (fun h15=>?_)
 ·try simp only [dt] at h15
  have h0:¬ q.e=0:=by omega
  have e1:up n gNm q=q:=kA h0;have e2:(if q.e=0∧(tkH n q.r).k=1 then (tkH n q.r).t else [])=[]:=if_neg (fun h=>h0 h.1);rw [e1];refine .sr<|.a Z Z<|.nt<|.rt<|.tR<|?_
  refine Sx.ret1 (.inl rfl) rfl (.tmp rfl) fun W s=>?_;exact ⟨[],⟨by have:=NA (n:=n) (s:=q);rw [e2] at this;exact this,Nat.zero_le _⟩,rfl,s.p2_1 [1] rfl⟩
 try simp only [df] at h15
 have h0:q.e=0:=by omega
 have e1:up n gNm q=q.tl:=by rw [SZ,if_pos ⟨h0,hk⟩]
 have e2:(if q.e=0∧(tkH n q.r).k=1 then (tkH n q.r).t else [])=(tkH n q.r).t:=if_pos ⟨h0,hk⟩;rw [e1];obtain ⟨hp,hi⟩:=zJ hq (LP (n:=n) (by rw [hk];decide));refine .sk<|.tN<|.sr<|.mv Z<|.yw (.nilCheck Z)<|.yw (.fieldAddr Z Fx.field99_1)<|.yw (.load Z Fx.agg3 aW Z)<|.yw (.add Z Z (c:=((bT ts q.tl:Nat):Int)) ((w6 (by omega)).trans (by omega)))<|.yw (.nilCheck Z)<|.yw (.fieldAddr Z Fx.field99_1)<|.st bQ Z Z Fx.size3 Z (nb Z) Z<|.ns<|.yw (.fieldAddr Z Fx.field96_1)<|.yw (.load Z Fx.agg9 (.head _) Z)<|.a Z Z<|.nt<|.rt<|?_
 refine Sx.ret1 (.inl rfl) rfl (.tmp rfl) fun W s=>?_;exact ⟨(tkH n q.r).t,⟨by have:=NA (n:=n) (s:=q);rw [e2] at this;exact this,K.tk hq⟩,rfl,s.p2_1 [1] rfl⟩
theorem BG {H:Hp} {w0 W:World} {bs:List Res} {b n:Nat} {ts:List Tk} {tp:Option Addr} {tc:Nat} {t0 t1 t2 t3:Value} {q:Sg} (K:Tkm H ts tp tc) (hq:q.r<:+ts) (s:St H w0 (.box b [.slice tp ts.length tc,.int .i64 (bT ts q:Nat),.int .i64 (n:Nat),t0,t1,t2,t3,.int .i64 (q.o:Nat),.int .i64 (q.e:Nat)] 99::bs) W) :
 Calls Tryz.prog 119 #[.pointer (some ⟨b,0,none⟩)] W fun e W'=>∃ x:Bool,(vl gTr q x)∧e=.returned (.bool x)∧St H w0 (.box b [.slice tp ts.length tc,.int .i64 (bT ts (up n gTr q):Nat),.int .i64 (n:Nat),t0,t1,t2,t3,.int .i64 ((up n gTr q).o:Nat),.int .i64 ((up n gTr q).e:Nat)] 99::bs) W':=by
 refine Sx.enterS Tryz.func119 rfl Tryz.ntmps119 rfl s ?_;refine .sr<|.a Z Z<|.nt<|.sq<|.sr<|.mv Z<|.cs (X:=Unit) Fx.call72 Z (fun W s=>bM K hq [116,114,117,101] (by decide +kernel) (s.p1_1 [0] Z)) Z fun _ _=>.nt<|.cd Z (fun h4=>?_) (fun h4=>?_)
 ·rw [fJ h4];refine .sr<|.a Z Z<|.nt<|.rt<|.tR<|?_
  refine Sx.ret1 (.inl rfl) rfl (.tmp rfl) fun W s=>?_;rw [show up n gTr q=q.tl by unfold gTr;rw [cQ h4,aZ]];exact ⟨true,(by unfold gTr;exact bY h4 aX),rfl,s.p1_1 [0] rfl⟩
 rw [fK h4];refine .sk<|.tN<|.sr<|.mv Z<|.cs (X:=Unit) Fx.call73 Z (fun W s=>aP K hq [102,97,108,115,101] (by decide +kernel) (s.p1_1 [0] Z)) Z fun _ _=>.ns<|.a Z Z<|.nt<|.rt<|?_
 refine Sx.ret1 (.inl rfl) rfl (.tmp rfl) fun W s=>?_;rw [show up n gTr q=up n (gNd [102,97,108,115,101]) q by unfold gTr;rw [aK h4,aA (x:=()) (Cz.nd _) aG,aZ]];exact ⟨false,(by unfold gTr;exact aJ h4 (aC (n:=n) aG aX)),rfl,s.p1_1 [0] rfl⟩
theorem DQ {H:Hp} {w0 W:World} {bs:List Res} {b n:Nat} {ts:List Tk} {tp:Option Addr} {tc:Nat} {t0 t1 t2 t3:Value} {q:Sg} (K:Tkm H ts tp tc) (hq:q.r<:+ts) (s:St H w0 (.box b [.slice tp ts.length tc,.int .i64 (bT ts q:Nat),.int .i64 (n:Nat),t0,t1,t2,t3,.int .i64 (q.o:Nat),.int .i64 (q.e:Nat)] 99::bs) W) :
 Calls Tryz.prog 24 #[.pointer (some ⟨b,0,none⟩)] W fun e W'=>∃ _:Unit,(True)∧e=.returned (.tuple #[.int .i64 ((q.cl n).o:Nat),.int .i64 ((q.cl n).e:Nat)])∧St H w0 (.box b [.slice tp ts.length tc,.int .i64 (bT ts (q.cl n):Nat),.int .i64 (n:Nat),t0,t1,t2,t3,.int .i64 ((q.cl n).o:Nat),.int .i64 ((q.cl n).e:Nat)] 99::bs) W':=by
 have hcap:=K.rep.cap;refine Sx.enterS Tryz.func24 rfl Tryz.ntmps24 rfl s ?_;refine .sr<|.a Z Z<|.a Z Z<|.nt<|.sq<|.sq<|.fL 9 [(0,0),(1,0),(2,0),(3,0),(4,0),(5,0),(6,0),(7,0),(8,0)]<|.mv Z<|.yw (.nilCheck Z)<|.yw (.fieldAddr Z Fx.field99_1)<|.yw (.load Z Fx.agg3 (.head _) Z)<|.mv Z<|.yw (.nilCheck Z)<|.yw (.fieldAddr Z Fx.field99_0)<|.yw (.load Z Fx.agg97 (.head _) Z)<|.yw (.lenSl Fx.sl97 Z)<|.fn (tl:=[_]) Z<|.yw (.lss Z Z)<|.nt<|.cd Z (fun h13=>?_) (fun h13=>?_)
 ·try simp only [dt] at h13
  have hi:bT ts q<ts.length:=by omega
  obtain ⟨_,hr⟩:=GL (n:=n) hq hi;have e1:q.cl n=q.fail n 8:=by unfold Sg.cl;rw [if_neg hr]
  rw [e1];refine .rg<|.mv Z<|.cs (X:=Unit) Fx.call50 Z (fun W s=>rH K hq 8 (s.p1_1 [0] Z)) Z fun _ _=>.nt<|.sq<|.fL 9 [(0,0),(1,0),(2,0),(3,0),(4,0),(5,0),(6,0),(7,0),(8,0)]<|.mv Z<|.yw (.nilCheck Z)<|.yw (.fieldAddr Z Fx.field99_4)<|.yw (.load Z Fx.agg3 (.head _) Z)<|.mv Z<|.yw (.nilCheck Z)<|.yw (.fieldAddr Z Fx.field99_5)<|.yw (.load Z Fx.agg28 (.head _) Z)<|.a Z Z<|.fn (tl:=[_]) Z<|.a Z Z<|.nt<|.rt<|?_
  refine Sx.retN (.inl rfl) rfl (.cons (.tmp rfl) (.cons (.tmp rfl) .nil)) rfl fun W s=>⟨(),trivial,rfl,?_⟩;exact s.p1_1 [0] rfl
 try simp only [df] at h13
 have hr:=CC hq (by omega);have e1:q.cl n=q:=by unfold Sg.cl;rw [if_pos hr]
 rw [e1];refine .sk<|.tN<|.sq<|.fL 9 [(0,0),(1,0),(2,0),(3,0),(4,0),(5,0),(6,0),(7,0),(8,0)]<|.mv Z<|.yw (.nilCheck Z)<|.yw (.fieldAddr Z Fx.field99_4)<|.yw (.load Z Fx.agg3 (.head _) Z)<|.mv Z<|.yw (.nilCheck Z)<|.yw (.fieldAddr Z Fx.field99_5)<|.yw (.load Z Fx.agg28 (.head _) Z)<|.a Z Z<|.fn (tl:=[_]) Z<|.a Z Z<|.nt<|.rt<|?_
 refine Sx.retN (.inl rfl) rfl (.cons (.tmp rfl) (.cons (.tmp rfl) .nil)) rfl fun W s=>⟨(),trivial,rfl,?_⟩;exact s.p1_1 [0] rfl
end Go.Proofs.YthhoebdlfjffkaaGreatDoor
namespace Go.Proofs.YthhoebdlfjffkaaGreatDoor
open Go.RowKit Go.Par Go.Sx
open Go.RowKit Go.Par Go.Sx
open Go.RowKit Go.Par Go.Sx
end Go.Proofs.YthhoebdlfjffkaaGreatDoor
namespace Go.Proofs.YthhoebdlfjffkaaGreatDoor
open Go.RowKit Go.Par Go.Sx
theorem Fx.agg125:dF Tryz.prog 125=some (some 2):=by kernel_rfl
theorem Fx.call146:aM Tryz.prog 146=Bool.true:=by kernel_rfl
theorem Fx.field125_0:aN Tryz.prog 125 0=some 0:=by kernel_rfl
theorem Fx.field125_1:aN Tryz.prog 125 1=some 1:=by kernel_rfl
theorem Fx.int2:vZ Tryz.prog 2=some Go.IntKind.i64:=by kernel_rfl
theorem Fx.size125:bL Tryz.prog 125=some 2:=by kernel_rfl
theorem Fx.sl195:slN Tryz.prog 195=some 2:=by kernel_rfl
theorem Fx.zero125:dV Tryz.prog 125=some [Go.Value.string { data:={ toList:=[] } },Go.Value.int Go.IntKind.u8 (Int.ofNat 0)]:=by kernel_rfl
theorem Fx.call89:aM Tryz.prog 89=Bool.true:=by kernel_rfl
theorem Fx.bld27_0_3 (x0:Int) (x3p:Option Addr) (x3n x3c:Nat):bV Tryz.prog 27 [(0,.int .u8 x0),(3,.slice x3p x3n x3c)]=some [.int .u8 x0,.string ⟨#[]⟩,.int .i64 0,.slice x3p x3n x3c]:=by kernel_rfl
theorem Fx.bsl25_2 (x00 x01 x02 x03:Value) (x10 x11 x12 x13:Value):fB Tryz.prog 25 2 [(0,.agg [x00,x01,x02,x03].toArray),(1,.agg [x10,x11,x12,x13].toArray)]=some (27,[x00,x01,x02,x03,x10,x11,x12,x13]):=by kernel_rfl
theorem Fx.call48:aM Tryz.prog 48=Bool.true:=by kernel_rfl
theorem Fx.call49:aM Tryz.prog 49=Bool.true:=by kernel_rfl
theorem Fx.call90:aM Tryz.prog 90=Bool.true:=by kernel_rfl
theorem Fx.call130:aM Tryz.prog 130=Bool.true:=by kernel_rfl
theorem Fx.call157:aM Tryz.prog 157=Bool.true:=by kernel_rfl
theorem Fx.call172:aM Tryz.prog 172=Bool.true:=by kernel_rfl
theorem Fx.call182:aM Tryz.prog 182=Bool.true:=by kernel_rfl
theorem Fx.bld125_0_1 (x0:ByteArray) (x1:Int):bV Tryz.prog 125 [(0,.string x0),(1,.int .u8 x1)]=some [.string x0,.int .u8 x1]:=by kernel_rfl
theorem Fx.bsl195_1 (x00 x01:Value):fB Tryz.prog 195 1 [(0,.agg [x00,x01].toArray)]=some (125,[x00,x01]):=by kernel_rfl
theorem Fx.bsl195_2 (x00 x01:Value) (x10 x11:Value):fB Tryz.prog 195 2 [(0,.agg [x00,x01].toArray),(1,.agg [x10,x11].toArray)]=some (125,[x00,x01,x10,x11]):=by kernel_rfl
theorem Fx.bsl195_3 (x00 x01:Value) (x10 x11:Value) (x20 x21:Value):fB Tryz.prog 195 3 [(0,.agg [x00,x01].toArray),(1,.agg [x10,x11].toArray),(2,.agg [x20,x21].toArray)]=some (125,[x00,x01,x10,x11,x20,x21]):=by kernel_rfl
theorem Fx.bsl195_6 (x00 x01:Value) (x10 x11:Value) (x20 x21:Value) (x30 x31:Value) (x40 x41:Value) (x50 x51:Value):fB Tryz.prog 195 6 [(0,.agg [x00,x01].toArray),(1,.agg [x10,x11].toArray),(2,.agg [x20,x21].toArray),(3,.agg [x30,x31].toArray),(4,.agg [x40,x41].toArray),(5,.agg [x50,x51].toArray)]=some (125,[x00,x01,x10,x11,x20,x21,x30,x31,x40,x41,x50,x51]):=by kernel_rfl
theorem Fx.call23:aM Tryz.prog 23=Bool.true:=by kernel_rfl
theorem Fx.call74:aM Tryz.prog 74=Bool.true:=by kernel_rfl
theorem Fx.call120:aM Tryz.prog 120=Bool.true:=by kernel_rfl
theorem Fx.call185:aM Tryz.prog 185=Bool.true:=by kernel_rfl
theorem Fx.bld27_0 (x0:Int):bV Tryz.prog 27 [(0,.int .u8 x0)]=some [.int .u8 x0,.string ⟨#[]⟩,.int .i64 0,.slice none 0 0]:=by kernel_rfl
theorem Fx.bld27_0_1 (x0:Int) (x1:ByteArray):bV Tryz.prog 27 [(0,.int .u8 x0),(1,.string x1)]=some [.int .u8 x0,.string x1,.int .i64 0,.slice none 0 0]:=by kernel_rfl
theorem Fx.bld27_0_1_3 (x0:Int) (x1:ByteArray) (x3p:Option Addr) (x3n x3c:Nat):bV Tryz.prog 27 [(0,.int .u8 x0),(1,.string x1),(3,.slice x3p x3n x3c)]=some [.int .u8 x0,.string x1,.int .i64 0,.slice x3p x3n x3c]:=by kernel_rfl
theorem Fx.bld27_0_2 (x0:Int) (x2:Int):bV Tryz.prog 27 [(0,.int .u8 x0),(2,.int .i64 x2)]=some [.int .u8 x0,.string ⟨#[]⟩,.int .i64 x2,.slice none 0 0]:=by kernel_rfl
theorem Fx.call69:aM Tryz.prog 69=Bool.true:=by kernel_rfl
theorem Fx.call111:aM Tryz.prog 111=Bool.true:=by kernel_rfl
theorem Fx.call113:aM Tryz.prog 113=Bool.true:=by kernel_rfl
theorem Fx.bld96_0_1_2 (x0:Int) (x1:ByteArray) (x2:Int):bV Tryz.prog 96 [(0,.int .u8 x0),(1,.string x1),(2,.int .i64 x2)]=some [.int .u8 x0,.string x1,.int .i64 x2]:=by kernel_rfl
theorem Fx.agg65:dF Tryz.prog 65=some none:=by kernel_rfl
theorem Fx.call37:aM Tryz.prog 37=Bool.true:=by kernel_rfl
theorem Fx.call68:aM Tryz.prog 68=Bool.true:=by kernel_rfl
theorem Fx.row97:gZ Tryz.prog 97=some (96,3,32):=by kernel_rfl
theorem Fx.size65:bL Tryz.prog 65=some 1:=by kernel_rfl
theorem Fx.size97:bL Tryz.prog 97=some 1:=by kernel_rfl
theorem Fx.zero65:dV Tryz.prog 65=some [Go.Value.pointer none]:=by kernel_rfl
theorem Fx.bld99_2 (x2:Int):bV Tryz.prog 99 [(2,.int .i64 x2)]=some [.slice none 0 0,.int .i64 0,.int .i64 x2,.string ⟨#[]⟩,.slice none 0 0,.slice none 0 0,.slice none 0 0,.int .i64 0,.int .i64 0]:=by kernel_rfl
theorem Fx.bsl97_1 (x00 x01 x02:Value):fB Tryz.prog 97 1 [(0,.agg [x00,x01,x02].toArray)]=some (96,[x00,x01,x02]):=by kernel_rfl
theorem Fx.call22:aM Tryz.prog 22=Bool.true:=by kernel_rfl
theorem Fx.call24:aM Tryz.prog 24=Bool.true:=by kernel_rfl
theorem Fx.bld27  : bV Tryz.prog 27 []=some [.int .u8 0,.string ⟨#[]⟩,.int .i64 0,.slice none 0 0]:=by kernel_rfl
end Go.Proofs.YthhoebdlfjffkaaGreatDoor
namespace Go.Proofs.YthhoebdlfjffkaaGreatDoor
open Go.RowKit Go.Par Go.Sx
open Go.RowKit Go.Par Go.Sx
end Go.Proofs.YthhoebdlfjffkaaGreatDoor
