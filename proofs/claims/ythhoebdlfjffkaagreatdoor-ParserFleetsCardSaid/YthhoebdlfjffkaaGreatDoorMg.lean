/- Texts of the proof, one behind the other. -/
import Derived.Test.YthhoebdlfjffkaaGreatDoorMf
set_option linter.all false
namespace Go.Proofs.YthhoebdlfjffkaaGreatDoor
section
variable {α β:Type}
def Ge (N k:Nat) (p:Pz α) (m:α→Nat) (ok:α→Prop):Prop:=∀ r a r',r.length≤N→p r=.ok a r'→m a+r'.length≤r.length+k∧ok a
variable {N k:Nat} {p q:Pz α} {m:α→Nat} {ok:α→Prop}
theorem Ge.bind {g:Pz β} {f:β→Pz α} {m1:β→Nat} {ok1:β→Prop} (h:Ge N 0 g m1 ok1) (h2:∀ a,ok1 a→Ge N (k+m1 a) (f a) m ok):Ge N k (aH g f) m ok:=fun r b r' hr e=>by
 obtain ⟨a,q,e1,e2⟩:=Rs.bind_ok e;obtain ⟨h3,h4⟩:=h r a q hr e1;obtain ⟨h5,h6⟩:=h2 a h4 q b r' (by omega) e2;exact ⟨by omega,h6⟩
theorem Ge.pure {a:α} (h1:m a≤k) (h2:ok a):Ge N k (aQ a) m ok:=fun r b r' _ e=>by
 injection e with e1 e2
 subst e1 e2;exact ⟨by omega,h2⟩
theorem Ge.alt {w:Str} (h:Ge N (k+1) p m ok) (h2:Ge N k q m ok):Ge N k (cM w p q) m ok:=fun r b r' hr e=>by
 unfold cM at e
 split at e
 ·rename_i ht;have h3:=dV ht;obtain ⟨h5,h6⟩:=h r.tail b r' (by omega) e;exact ⟨by omega,h6⟩
 ·exact h2 r b r' hr e
theorem Ge.nd (w:Str):Ge N 0 (gNd w) (fun _=>1) (fun _=>True):=fun r b r' hr e=>by
 unfold gNd at e
 split at e
 ·rename_i ht;have h3:=dV ht;injection e with _ e
  subst e;exact ⟨by dsimp only;omega,trivial⟩
 ·cases e
theorem Ge.nn (w:Str):Ge N 0 (gNn w) (fun _=>0) (fun _=>True):=fun r b r' hr e=>by
 have:=(Suf.nn w r).1 b r' e;exact ⟨by have:=this.length_le;dsimp only;omega,trivial⟩
theorem Ge.nm:Ge N 0 gNm (fun _=>1) (fun _=>True):=fun r b r' hr e=>by
 unfold gNm at e
 split at e
 ·cases e
 ·split at e
  ·injection e with _ e
   subst e;exact ⟨by simp;omega,trivial⟩
  ·cases e
theorem Ge.any (h:Suf p):Ge N 0 p (fun _=>0) (fun _=>True):=fun r b r' hr e=>⟨by have:=((h r).1 b r' e).length_le;dsimp only;omega,trivial⟩
theorem Ge.manyF {w:Str} (h:Ge N 0 p (fun _=>0) ok):∀ f,Ge N 0 (iT w p f) (fun _=>0) (fun l=>∀ x∈l,ok x)
 | 0=>fun r b r' hr e=>by unfold iT at e;cases e
 | f+1=>.alt (.bind (fun r b r' hr e=>h r b r' hr e) fun a ha=>.bind (Ge.manyF h f) fun l hl=>.pure (Nat.zero_le _) fun x hx=>by
  rcases List.mem_cons.1 hx with rfl | hx
  ·exact ha
  ·exact hl x hx) (.pure (Nat.zero_le _) fun x hx=>by cases hx)
theorem Ge.many {w:Str} (h:Ge N 0 p (fun _=>0) ok):Ge N 0 (dD w p) (fun _=>0) (fun l=>∀ x∈l,ok x):=fun r b r' hr e=>Ge.manyF h _ r b r' hr e
theorem Ge.list (h:Ge N 0 p (fun _=>0) ok):Ge N 0 (eD p) (fun _=>0) (fun l=>∀ x∈l,ok x) :=
 .bind (Ge.nd _) fun _ _=>.alt (.pure (Nat.zero_le _) fun x hx=>by cases hx) (.bind h fun a ha=>.bind (Ge.many h) fun l hl=>.bind (Ge.nd _) fun _ _=>.pure (Nat.zero_le _) fun x hx=>by
  rcases List.mem_cons.1 hx with rfl | hx
  ·exact ha
  ·exact hl x hx)
end
def dpE (N:Nat) (x:Ex):Prop:=x.depth≤N
theorem Ge.ex {N:Nat}:Ge N 0 gEx (fun _=>0) (dpE N):=fun r a r' hr e=>by
 have:=CJ (lv:=0) e;exact ⟨by dsimp only;omega,by unfold dpE;omega⟩
def gdL (l:List Sm):Prop:=Sm.alls uU l=true
def gdS (s:Sm):Prop:=Sm.all uU s=true
theorem lH {N:Nat} (hN:N≤1000000) {kd:UInt8} {nm hd:Str} {ex:List Ex} {th el:List Sm} (h:∀ x∈ex,dpE N x) (h1:gdL th) (h2:gdL el):gdS (.mk kd nm hd ex th el):=by
 unfold gdS;rw [eQ]
 have:uU (.mk kd nm hd ex th el)=true:=by
  unfold uU;rw [List.all_eq_true];intro x hx;have:=h x hx;unfold dpE at this;exact decide_eq_true (by omega)
 rw [this,h1,h2]
 rfl
section
variable {N:Nat} {b:Pz (List Sm)}
theorem Ge.blk {b:Pz (List Sm)} (h:Ge N 0 b Sm.counts gdL):Ge N 0 (iF b) Sm.counts gdL :=
 .bind (Ge.nd _) fun _ _=>.bind h fun l hl=>.bind (Ge.nd _) fun _ _=>.pure (by omega) hl
theorem eY:gdL []:=by unfold gdL;rfl
theorem Ge.els (h:Ge N 0 b Sm.counts gdL):Ge N 0 (rU b) Sm.counts gdL:=.alt (fun r a r' hr e=>by have:=Ge.blk h r a r' hr e;exact ⟨by omega,this.2⟩) (.pure (Nat.zero_le _) eY)
theorem Ge.oth (h:Ge N 0 b Sm.counts gdL):Ge N 0 (kB b) Sm.counts gdL:=.alt (fun r a r' hr e=>by have:=Ge.blk h r a r' hr e;exact ⟨by omega,this.2⟩) (.bind (Ge.nd _) fun _ _=>.pure (Nat.zero_le _) eY)
theorem qL {N:Nat} {e:Ex} (h:dpE N e):∀ x∈[e],dpE N x:=fun x hx=>by rw [List.mem_singleton.1 hx];exact h
theorem EY {N:Nat} {e f:Ex} (h:dpE N e) (k:dpE N f):∀ x∈[e,f],dpE N x:=fun x hx=>by
 rcases List.mem_cons.1 hx with rfl | hx
 ·exact h
 ·rw [List.mem_singleton.1 hx];exact k
theorem TS {N:Nat}:∀ x∈([]:List Ex),dpE N x:=fun x hx=>by cases hx
theorem Ge.st (hN:N≤1000000) (h:Ge N 0 b Sm.counts gdL):Ge N 0 (gSt b) Sm.count gdS :=
 .alt (.bind Ge.ex fun e he=>.bind (Ge.blk h) fun t ht=>.bind (Ge.els h) fun l hl=>.pure (by rw [dM];omega) (lH hN (qL he) ht hl))<|.alt (.bind Ge.ex fun e he=>.bind (Ge.blk h) fun t ht=>.pure (by rw [dM];simp [Sm.counts];omega) (lH hN (qL he) ht eY))<|.alt (.bind Ge.ex fun e he=>.bind (Ge.nd _) fun _ _=>.bind Ge.ex fun f hf=>.bind (Ge.oth h) fun l hl=>.pure (by rw [dM];simp [Sm.counts];omega) (lH hN (EY he hf) eY hl))<|.alt (.bind Ge.nm fun n _=>.bind (Ge.nd _) fun _ _=>.bind Ge.ex fun f hf=>.bind (Ge.oth h) fun l hl=>.pure (by rw [dM];simp [Sm.counts];omega) (lH hN (qL hf) eY hl))<|.alt (.bind Ge.nm fun n _=>.bind (Ge.nd _) fun _ _=>.bind Ge.nm fun g _=>.bind (Ge.list Ge.ex) fun l hl=>.bind (Ge.nd _) fun _ _=>.pure (by rw [dM];simp [Sm.counts]) (lH hN hl eY eY))<|.alt (.bind Ge.ex fun e he=>.bind (Ge.nd _) fun _ _=>.bind Ge.nm fun g _=>.bind (Ge.list Ge.ex) fun l hl=>.bind (Ge.nd _) fun _ _=>.pure (by rw [dM];simp [Sm.counts]) (lH hN (fun x hx=>by
  rcases List.mem_cons.1 hx with rfl | hx
  ·exact he
  ·exact hl x hx) eY eY))<|.alt (.bind (Ge.nd _) fun _ _=>.pure (by rw [dM];simp [Sm.counts]) (lH hN TS eY eY))<|.alt (.bind Ge.nm fun n _=>.bind (Ge.nd _) fun _ _=>.bind Ge.ex fun e he=>.bind (Ge.nd _) fun _ _=>.bind (Ge.nd _) fun _ _=>.pure (by rw [dM];simp [Sm.counts]) (lH hN (qL he) eY eY))<|.bind Ge.nm fun n _=>.alt (.bind Ge.ex fun e he=>.bind (Ge.nd _) fun _ _=>.bind (Ge.nd _) fun _ _=>.bind Ge.ex fun f hf=>.bind (Ge.nd _) fun _ _=>.pure (by rw [dM];simp [Sm.counts]) (lH hN (EY he hf) eY eY))
  (.bind (Ge.nd _) fun _ _=>.bind Ge.ex fun f hf=>.bind (Ge.nd _) fun _ _=>.pure (by rw [dM];simp [Sm.counts]) (lH hN (qL hf) eY eY))
theorem Ge.bF (hN:N≤1000000):∀ f,Ge N 0 (gBF f) Sm.counts gdL
 | 0=>fun r b r' hr e=>by unfold gBF at e;cases e
 | f+1=>fun r b r' hr e=>by
  unfold gBF at e
  split at e
  ·injection e with e1 e2;subst e1 e2;exact ⟨by simp [Sm.counts],eY⟩
  ·obtain ⟨s,q,k1,k2⟩:=Rs.bind_ok e;obtain ⟨l,q2,k3,k4⟩:=Rs.bind_ok k2;injection k4 with k4 k5
   subst k4 k5;obtain ⟨h1,h2⟩:=Ge.st hN (Ge.bF hN f) r s q hr k1;obtain ⟨h3,h4⟩:=Ge.bF hN f q l q2 (by omega) k3;refine ⟨by simp only [Sm.counts];omega,?_⟩;unfold gdL gdS at *;simp [Sm.alls,h2,h4]
theorem Ge.allB (hN:N≤1000000):Ge N 0 gB Sm.counts gdL:=fun r b r' hr e=>Ge.bF hN _ r b r' hr e
end
theorem LG:∀ l,Sm.deeps l≤Sm.counts l:=Sm.lists fun l h=>by
 induction l with
 | nil=>simp [Sm.deeps]
 | cons e r ih =>
  obtain ⟨kd,nm,hd,ex,th,el⟩:=e;obtain ⟨h1,h2⟩:=h _ (List.mem_cons_self ..);have h3:=ih fun s hs=>h s (List.mem_cons_of_mem _ hs);simp only [Sm.th,Sm.el] at h1 h2;simp only [Sm.deeps,Sm.counts,iK,dM];omega
def gdH (h:Hd):Prop:=okH h=true
section
variable {N:Nat}
theorem Ge.blkN (hN:N≤1000000):Ge N 0 (iF gB) (fun _=>0) (fun l=>gdL l∧Sm.counts l≤N):=fun r a r' hr e=>by
 obtain ⟨h1,h2⟩:=Ge.blk (Ge.allB hN) r a r' hr e;exact ⟨by dsimp only;omega,h2,by omega⟩
theorem Ge.hd (hN:N≤1000000):Ge N 0 gHd (fun _=>0) gdH :=
 .bind (Ge.any Suf.nm) fun n _=>.bind (Ge.any (Suf.list Suf.nm)) fun l _=>.bind (Ge.blkN hN) fun b hb=>.pure (Nat.zero_le _) (by
  have h1:=LG b;have h2:Sm.alls uU b=true:=hb.1;have h3:=hb.2;unfold gdH okH;simp only [h2,Bool.and_true,Bool.and_eq_true,decide_eq_true_eq];omega)
def gdV (v:List Hd):Prop:=∀ x∈v,gdH x
theorem Ge.vs (hN:N≤1000000):Ge N 0 gVs (fun _=>0) gdV:=Ge.many (Ge.hd hN)
theorem Ge.vn (hN:N≤1000000) (w:Str):Ge N 0 (gVn w) (fun _=>0) gdV :=
 .bind (Ge.nn _) fun _ _=>.bind (Ge.nd _) fun _ _=>.bind (Ge.vs hN) fun v hv=>.bind (Ge.nd _) fun _ _=>.pure (Nat.zero_le _) hv
theorem Ge.vm (hN:N≤1000000):Ge N 0 gVm (fun _=>0) (fun l=>∀ v∈l,gdV v) :=
 .alt (.bind (Ge.vn hN _) fun v hv=>.alt (.bind (Ge.vn hN _) fun w hw=>.pure (Nat.zero_le _) fun x hx=>by
  rcases List.mem_cons.1 hx with rfl | hx
  ·exact hv
  ·rw [List.mem_singleton.1 hx];exact hw) (.pure (Nat.zero_le _) fun x hx=>by rw [List.mem_singleton.1 hx];exact hv)) (.pure (Nat.zero_le _) fun x hx=>by cases hx)
theorem Ge.cp (hN:N≤1000000):Ge N 0 gCp (fun _=>0) (fun c=>∀ v∈c.vers,gdV v) :=
 .bind (Ge.any Suf.nm) fun n _=>.bind (Ge.nd _) fun _ _=>.bind (Ge.any (Suf.many Suf.vr)) fun vs _=>.bind (Ge.vs hN) fun v hv=>.bind (Ge.vm hN) fun l hl=>.bind (Ge.nd _) fun _ _=>.pure (Nat.zero_le _) fun x hx=>by
  rcases List.mem_cons.1 hx with rfl | hx
  ·exact hv
  ·exact hl x hx
theorem Ge.ft (hN:N≤1000000):Ge N 0 gFt (fun _=>0) (fun f=>evH okH f=true) :=
 .bind (Ge.nd _) fun _ _=>.bind (Ge.any Suf.nm) fun n _=>.bind (Ge.nd _) fun _ _=>.bind (Ge.any (Suf.many Suf.fg)) fun fs _=>.bind (Ge.any (Suf.many Suf.lk)) fun ls _=>.bind (Ge.many (Ge.cp hN)) fun cs hc=>.bind (Ge.nd _) fun _ _=>.pure (Nat.zero_le _) (by
  unfold evH;rw [List.all_eq_true];intro c h;rw [List.all_eq_true];intro v h2;rw [List.all_eq_true];exact fun x h3=>hc c h v h2 x h3)
end
theorem UE {t:Str} {f:Ft} (hx:vl gFt (sg0 t) f) (h:(sgZ gFt t).e=0):evH okH f=true:=by
 obtain ⟨⟨a,ha⟩,_⟩:=LD Cz.ft h
 have h0:(sg0 t).e=0:=by
  by_cases k:20000<t.length
  ·exfalso
   have e0:sg0 t=⟨[],3,0⟩:=by unfold sg0;rw [if_pos k]
   unfold sgZ at h;rw [e0,jS (by decide)] at h;unfold Sg.cl at h;rw [if_pos rfl] at h;exact absurd (show (3:Nat)=0 from h) (by decide)
  ·unfold sg0;rw [if_neg k]
 rw [hx h0 a [] ha];refine (Ge.ft (N:=20000) (by decide) _ a [] ?_ ha).2;unfold sg0
 split
 ·simp
 ·have:=qO t;show (iS t).length≤20000;omega
end Go.Proofs.YthhoebdlfjffkaaGreatDoor
namespace Go.Proofs.YthhoebdlfjffkaaGreatDoor
open Go.RowKit Go.Par Go.Sx
theorem PK (t:Str):(sg0 t).r.length≤600000:=by
 unfold sg0
 split
 ·simp
 ·have:=qO t;show (iS t).length≤600000;omega
theorem IJ {H:Hp} (G:Gl H) {w0 W:World} {bs:List Res} (t:Str) (ht:t.length≤9223372036854775807) (s:St H w0 bs W) :
 Calls Tryz.prog 19 #[aD t] W fun e W'=>∃ z:Ft × List Value × Hp,(vl gFt (sg0 t) z.1∧HUp w0 H z.2.2∧Rep z.2.2 (dFt .u8 z.1) z.2.1)∧e=.returned (.tuple #[.agg (pzR t z.1 z.2.1).toArray,.int .i64 (pzO t z.1:Nat),.int .i64 (pzE t z.1:Nat)])∧St z.2.2 w0 bs W' :=
 BJ G t ht (fun _ h1 h2=>UE h1 h2) (fun _=>zS (PK t)) s
end Go.Proofs.YthhoebdlfjffkaaGreatDoor
namespace Go.Proofs.YthhoebdlfjffkaaGreatDoor
section
variable {α β:Type}
def En (p:Pz α):Prop:=p []=.er [] 8∨∃ b,p []=.ok b []
def Pf (N:Nat) (p:Pz α):Prop:=∀ r a q,r.length≤N→p r=.ok a q→∃ u,r=u++q∧(∀ v w,u=v++w→p v=.er [] 8∨∃ b,p v=.ok b [])∧(∀ v,v≠[]→v.head? = q.head? → p (u++v)=.ok a v)
theorem Pf.look {N:Nat} {c:List Tk→Bool} {p q g:Pz α} (hc0:c []=false) (hc:∀ t r r',c (t::r)=c (t::r')) (hT:∀ r,c r=true→g r=p r) (hF:∀ r,c r=false→g r=q r)
 (hp:Pf N p) (hq:Pf N q) (he:En q):Pf N g:=by
 intro r a z hr e
 have pre:∀ (x:Bool) (v:List Tk),v≠[]→v.head? = r.head? → c r=x→c v=x:=fun x v hn h2 h3=>by
  cases v with
  | nil=>exact absurd rfl hn
  | cons y v =>
   cases r with
   | nil=>cases h2
   | cons t r =>
    injection h2 with h2
    subst h2;exact (hc ..).trans h3
 have h1:∀ (u v w:List Tk),r=u++z→u=v++w→v≠[]→v.head? = r.head? := fun u v w h2 h3 hn=>by
  cases v with
  | nil=>exact absurd rfl hn
  | cons y v=>rw [h2,h3];rfl
 have h2:∀ (u v:List Tk),r=u++z→v.head? = z.head? → (u++v).head? = r.head? := fun u v h3 h4=>by
  rw [h3];cases u with
  | nil=>exact h4
  | cons y u=>rfl
 cases h:c r with
 | true =>
  rw [hT _ h] at e;obtain ⟨u,hu,A,B⟩:=hp _ _ _ hr e;refine ⟨u,hu,fun v w hv=>?_,fun v hn hv=>?_⟩
  ·by_cases hn:v=[]
   ·subst hn;rw [hF _ hc0];exact he
   ·rw [hT _ (pre _ v hn (h1 u v w hu hv hn) h)];exact A v w hv
  ·rw [hT _ (pre _ (u++v) (fun k=>hn (List.append_eq_nil_iff.1 k).2) (h2 u v hu hv) h)];exact B v hn hv
 | false =>
  rw [hF _ h] at e;obtain ⟨u,hu,A,B⟩:=hq _ _ _ hr e;refine ⟨u,hu,fun v w hv=>?_,fun v hn hv=>?_⟩
  ·by_cases hn:v=[]
   ·subst hn;rw [hF _ hc0];exact he
   ·rw [hF _ (pre _ v hn (h1 u v w hu hv hn) h)];exact A v w hv
  ·rw [hF _ (pre _ (u++v) (fun k=>hn (List.append_eq_nil_iff.1 k).2) (h2 u v hu hv) h)];exact B v hn hv
end
section
variable {α β:Type}
end
def exB:Nat→Ex→Ex→Bool
 | 0,_,_=>false
 | f+1,.mk o n v l,.mk o' n' v' l'=>decide (o=o') && decide (n=n') && decide (v=v') && (decide (l.length=l'.length) && (l.zip l').all fun p=>exB f p.1 p.2)
theorem JY {α:Type} {r:α→α→Bool} (h:∀ a b,r a b=true→a=b):∀ (l m:List α),l.length=m.length→((l.zip m).all fun p=>r p.1 p.2)=true→l=m
 | [],[],_,_=>rfl
 | [],_::_,e,_=>by cases e
 | _::_,[],e,_=>by cases e
 | a::l,b::m,e,k=>by
  rw [List.zip_cons_cons,List.all_cons,Bool.and_eq_true] at k;rw [h a b k.1,JY h l m (by simpa using e) k.2]
theorem NL:∀ (f:Nat) (a b:Ex),exB f a b=true→a=b
 | 0,_,_,h=>by cases h
 | f+1,.mk o n v l,.mk o' n' v' l',h=>by
  unfold exB at h;simp only [Bool.and_eq_true,decide_eq_true_eq] at h;obtain ⟨⟨⟨rfl,rfl⟩,rfl⟩,h1,h2⟩:=h;rw [JY (r:=exB f) (NL f) l l' h1 h2]
def nmE (c:UInt8):Ex:=.mk 5 [c] 0 []
def txA:Str:=[110,111,116,32,97,32,61,61,32,98]
def txB:Str:=[97,32,60,32,98,32,60,32,99]
def txC:Str:=[102,108,101,101,116]++[32,102,32,123,32]++[108,105,110,107]++[32,97,32,45,62,32,98,32]++[108,97,116,101,110,99,121]++[32]++[57,50,50,51,51,55,50,48,51,54,56,53,52,55,55,53,56,48,56]++[59,32,125]
def txD:Str:=[40,97]
def VJ (x:Rs Ex) (a:Ex):Bool:=match x with | .ok b r=>r.isEmpty && exB 5 b a | .er _ _=>false
theorem TP {x:Rs Ex} {a:Ex} (h:VJ x a=true):x=.ok a []:=by
 unfold VJ at h;cases x with
 | er r c=>cases h
 | ok b r =>
  simp only [Bool.and_eq_true,List.isEmpty_iff] at h;rw [h.1,NL 5 _ _ h.2]
theorem awA:gX 0 (iS txA)=.ok (opE 16 [opE 10 [nmE 97],nmE 98]) []:=TP (by decide +kernel)
theorem awB:(sgZ (gX 0) txB).e=8∧(sgZ (gX 0) txB).o=6:=by decide +kernel
theorem awC:(sgZ gFt txC).e=2∧(sgZ gFt txC).o=30:=by decide +kernel
theorem awD:(sgZ (gX 0) txD).e=8∧(sgZ (gX 0) txD).o=2:=by decide +kernel
end Go.Proofs.YthhoebdlfjffkaaGreatDoor
namespace Go.Proofs.YthhoebdlfjffkaaGreatDoor
open Go.RowKit Go.Par Go.Sx
theorem Fx.call11:aK Tryz.prog 11=Bool.true:=by kernel_rfl
theorem Fx.call19:aK Tryz.prog 19=Bool.true:=by kernel_rfl
theorem JU:eT (opE 16 [opE 10 [nmE 97],nmE 98])=0:=by decide +kernel
theorem II {H:Hp} (G:Gl H) {w0 W:World} {bs:List Res} {t:Str} {c o:Nat} (ht:t.length≤9223372036854775807) (hc:(sgZ gFt t).e=c) (ho:(sgZ gFt t).o=o) (h0:c≠0)
 (hcp:(up t.length (dD [108,105,110,107] gLk) (up t.length (dD [102,108,97,103] gFg) (up t.length (gNd [123]) (up t.length gNm (up t.length (gNd [102,108,101,101,116]) (sg0 t)))))).e=0→False) (s:St H w0 bs W) :
 Calls Tryz.prog 19 #[aD t] W fun e W'=>∃ z:Hp,HUp w0 H z∧e=.returned (.tuple #[.agg ([.string ⟨#[]⟩,.slice none 0 0,.slice none 0 0,.slice none 0 0]:List Value).toArray,.int .i64 (o:Nat),.int .i64 (c:Nat)])∧St z w0 bs W':=by
 subst hc ho;refine (BJ G t ht (fun f _ h=>absurd h h0) (fun h=>(hcp h).elim) s).mono ?_;rintro e W' ⟨z,⟨h1,h2,h3⟩,h4,h5⟩;refine ⟨z.2.2,h2,?_,h5⟩;rw [h4];unfold pzR pzO pzE;simp only [h0,if_false,false_and]
set_option maxRecDepth 100000 in
theorem JT (H:Hp) (G:Gl H) (w:World) (hA:Agr H w):Calls Tryz.prog 9 #[] w fun r w'=>r=.returned (.bool true)∧Ext w w':=by
 refine Sx.enter (H:=H) Tryz.func9 rfl Tryz.ntmps9 rfl hA ?_;refine .sr<|.a Z Z<|.ns<|.cs (X:=List Value × Hp) Fx.call11 Z (fun W s=>NJ (t:=txA) G (by decide) awA JU s) Z fun z1 hz1=>?_
 obtain ⟨c1,H1⟩:=z1;obtain ⟨u1,r1⟩:=hz1;dsimp only at u1 r1 ⊢;obtain ⟨p,c,rfl,hs,_⟩:=bU r1;obtain ⟨bE,oE,cE,hpE,rE,lE,mE⟩:=hs.elem (i:=0) (d:=dEx .u8 (opE 10 [nmE 97])) rfl;obtain ⟨bF,oF,cF,hpF,rF,lF,mF⟩:=hs.elem (i:=1) (d:=dEx .u8 (nmE 98)) rfl;cases hpE;cases hpF;obtain ⟨p2,c2,rfl,_,_⟩:=bU rE;obtain ⟨p3,c3,rfl,_,_⟩:=bU rF;refine .m Z Z<|.yv (.extract Z Z) Z<|.yv (.extract Z Z) Z<|.yv (.extract Z Z) Z<|.al Fx.zero27 Z fun b1=>.sW .head Z Z Fx.size27 (Rep.one r1) Z<|.a Z Z<|.a Z Z<|.nt<|.sq<|.sr<|.m Z Z<|.yv (.cast (.neq Z Z) (congrArg Value.bool (decide_eq_false (fun h=>h Z)))) Z<|.m Z Z<|.gd Z Z<|.yv (.move Z) Z<|.gd Z Z<|.yv (.cast (.neq Z Z) (congrArg Value.bool (decide_eq_false (fun h=>h Z)))) Z<|.yv (.pickF Z Z) Z<|.m Z Z<|.gd Z Z<|.yv (.fieldAddr Z Fx.field27_0) Z<|.gd Z Z<|.yv (.load Z Fx.agg24 (.head _) Z) Z<|.gd Z Z<|.yv (.cast (.neq Z Z) (congrArg Value.bool (decide_eq_false (fun h=>h Z)))) Z<|.yv (.pickF Z Z) Z<|.m Z Z<|.gd Z Z<|.yv (.fieldAddr Z Fx.field27_3) Z<|.gd Z Z<|.yv (.load Z Fx.agg25 (.head _) Z) Z<|.gd Z Z<|.yv (.lenSl Fx.sl25 Z) Z<|.gd Z Z<|.yv (.cast (.neq Z Z) (congrArg Value.bool (decide_eq_false (fun h=>h Z)))) Z<|.yv (.pickF Z Z) Z<|.m Z Z<|.gd Z Z<|.yv (.fieldAddr Z Fx.field27_3) Z<|.gd Z Z<|.yv (.load Z Fx.agg25 (.head _) Z) Z<|.gd Z Z<|.yv (.indexSl Fx.sl25 Z Z (i:=0) Z (by decide) (q:=oE+0 * 4) (by omega)) Z<|.gd Z Z<|.yv (.fieldAddr Z Fx.field27_0) Z<|.gd Z Z<|.yv (.loadM Z Fx.agg24 mE (k:=0) Z Z) Z<|.gd Z Z<|.yv (.cast (.neq Z Z) (congrArg Value.bool (decide_eq_false (fun h=>h Z)))) Z<|.yv (.pickF Z Z) Z<|.m Z Z<|.gd Z Z<|.yv (.fieldAddr Z Fx.field27_3) Z<|.gd Z Z<|.yv (.load Z Fx.agg25 (.head _) Z) Z<|.gd Z Z<|.yv (.indexSl Fx.sl25 Z Z (i:=1) Z (by decide) (q:=oE+1 * 4) (by omega)) Z<|.gd Z Z<|.yv (.fieldAddr Z Fx.field27_1) Z<|.gd Z Z<|.yv (.loadM Z Fx.agg9 mF (k:=1) Z Z) Z<|.gd Z Z<|.yv (.cast (.neS Z Z) (congrArg Value.bool (decide_eq_false (fun h=>h Z)))) Z<|.yv (.pickF Z Z) Z<|.nt<|.cF Z<|.sk<|.tN<|.sr<|.cs (X:=Hp) Fx.call11 Z (fun W s=>xM (t:=txB) (G.up u1.up) (by decide) awB.1 awB.2 (by decide) s) Z fun H2 u2=>.m Z Z<|.yv (.extract Z Z) Z<|.yv (.extract Z Z) Z<|.yv (.extract Z Z) Z<|.a Z Z<|.a Z Z<|.ns<|.cs (X:=Hp) Fx.call19 Z (fun W s=>II (t:=txC) ((G.up u1.up).up u2.up) (by decide) awC.1 awC.2 (by decide) (fun h=>absurd h (by decide +kernel)) s) Z fun H3 u3=>.m Z Z<|.yv (.extract Z Z) Z<|.yv (.extract Z Z) Z<|.yv (.extract Z Z) Z<|.al Fx.zero49 Z fun b4=>.sW .head Z Z Fx.size49 (by simp [Value.oneCell']) Z<|.a Z Z<|.a Z Z<|.ns<|.cs (X:=Hp) Fx.call11 Z (fun W s=>xM (t:=txD) (((G.up u1.up).up u2.up).up u3.up) (by decide) awD.1 awD.2 (by decide) s) Z fun H4 u4=>.m Z Z<|.yv (.extract Z Z) Z<|.yv (.extract Z Z) Z<|.yv (.extract Z Z) Z<|.al Fx.zero27 Z fun b7=>.sW .head Z Z Fx.size27 (by simp [Value.oneCell']) Z<|.a Z Z<|.a Z Z<|.ns<|.m Z Z<|.yv (.cast (.eql Z Z) (congrArg Value.bool (decide_eq_true Z))) Z<|.m Z Z<|.gd Z Z<|.yv (.move Z) Z<|.gd Z Z<|.yv (.cast (.eql Z Z) (congrArg Value.bool (decide_eq_true Z))) Z<|.yv (.pickT Z Z) Z<|.m Z Z<|.gd Z Z<|.yv (.move Z) Z<|.gd Z Z<|.yv (.cast (.eql Z Z) (congrArg Value.bool (decide_eq_true Z))) Z<|.yv (.pickT Z Z) Z<|.m Z Z<|.gd Z Z<|.yv (.move Z) Z<|.gd Z Z<|.yv (.cast (.eql Z Z) (congrArg Value.bool (decide_eq_true Z))) Z<|.yv (.pickT Z Z) Z<|.m Z Z<|.gd Z Z<|.yv (.move Z) Z<|.gd Z Z<|.yv (.cast (.eql Z Z) (congrArg Value.bool (decide_eq_true Z))) Z<|.yv (.pickT Z Z) Z<|.m Z Z<|.gd Z Z<|.yv (.move Z) Z<|.gd Z Z<|.yv (.cast (.eql Z Z) (congrArg Value.bool (decide_eq_true Z))) Z<|.yv (.pickT Z Z) Z<|.a Z Z<|.nt<|.rt<|?_
 exact Sx.ret1 (.inl rfl) rfl (.tmp rfl) fun W s=>⟨rfl,s.ext⟩
noncomputable def eqP (p:Prop):Bool:=@decide p (Classical.propDecidable p)
theorem aA {p:Prop}:eqP p=true↔p:=by unfold eqP;exact @decide_eq_true_iff p (Classical.propDecidable p)
theorem kF {p:Prop}:eqP p=false↔¬ p:=⟨fun h k=>(by rw [aA.2 k] at h;cases h),fun h=>(by cases e:eqP p with | false=>rfl | true=>exact absurd (aA.1 e) h)⟩
def vY (gf:FuncId) {α:Type} (d:α→D) (H:Hp) (a b:α):Prop:=∀ (ca cb:List Value) (w:World),Rep H (d a) ca→Rep H (d b) cb→Agr H w→Calls Tryz.prog gf #[.agg ca.toArray,.agg cb.toArray] w fun r w'=>r=.returned (.bool (eqP (a=b)))∧Ext w w'
theorem eN {α:Type} {l m:List α} {k:Nat} (h:k<l.length) (h2:k<m.length) (ht:l.take k=m.take k) (he:l[k]=m[k]):l.take (k+1)=m.take (k+1):=by rw [bJ h,bJ h2,ht,he]
set_option maxRecDepth 100000 in
theorem GL (H:Hp) (gf:FuncId) (hgf:aK Tryz.prog gf=true) (l m:List Ex) (hq:∀ a∈l,∀ b,vY gf (dEx .u8) H a b) (v u:Value) (hs:Rep H (.seq 4 (l.map (dEx .u8))) [v]) (ht:Rep H (.seq 4 (m.map (dEx .u8))) [u]) (w:World) (hA:Agr H w) :
 Calls Tryz.prog 28 #[v,u,.func (.func gf) #[] #[]] w fun r w'=>r=.returned (.bool (eqP (l=m)))∧Ext w w':=by
 obtain ⟨p,c,e,_⟩:=hs.sl;simp only [List.cons.injEq,and_true,List.length_map] at e;subst e;obtain ⟨p2,c2,e,_⟩:=ht.sl;simp only [List.cons.injEq,and_true,List.length_map] at e;subst e;have hcap:=hs.cap;have hcap2:=ht.cap;refine Sx.enter (H:=H) Tryz.func28 rfl Tryz.ntmps28 rfl hA ?_;refine .sr<|.a Z Z<|.nt<|.sq<|.sr<|.m Z Z<|.yv (.lenSl Fx.sl25 Z) Z<|.m Z Z<|.yv (.lenSl Fx.sl25 Z) Z<|.yv (.neq Z Z) Z<|.nt<|.cd Z (fun h14=>?_) (fun h14=>?_)
 ·try simp only [dt] at h14
  have hne:¬ l=m:=fun e=>by rw [e] at h14;exact h14 rfl
  refine .sr<|.a Z Z<|.nt<|.rt<|.tR<|?_
  refine Sx.ret1 (.inl rfl) rfl (.tmp rfl) fun W s=>⟨aY ?_,s.ext⟩
  first
   | (rw [aA];exact ⟨fun h=>(by cases h),fun h=>absurd h hne⟩)
   | (rw [aA];exact ⟨fun _=>heq,fun _=>rfl⟩)
 try simp only [df] at h14
 have hlen:l.length=m.length:=by omega
 refine .sk<|.tN<|.sq<|.sr<|.m Z Z<|.yv (.lenSl Fx.sl25 Z) Z<|.m Z Z<|.nt<|.bk<|.lp (X:=Nat) [(1,_),(2,_),(15,_),(16,_)] ⟨rfl,rfl,rfl,rfl,trivial⟩ [] (fun k=>[(17,.int .i64 (k:Nat))]) (fun k=>H) (fun k=>[]) (fun k=>k≤l.length∧l.take k=m.take k) (fun k=>l.length - k) 0 (fun _ s=>s) ⟨rfl,trivial⟩ ⟨by omega,rfl⟩ fun k hC=>?_
 obtain ⟨hk0,hal⟩:=hC;refine .sr<|.yv (.lss Z Z) Z<|.nt<|.sq<|.cd Z (fun h18=>?_) (fun h18=>?_)
 ·try simp only [dt] at h18
  have hk:k<l.length:=by omega
  have hkm:k<m.length:=by omega
  obtain ⟨bE,oE,cE,hpE,rE,lE,mE⟩:=hs.elem (aS hk);cases hpE;obtain ⟨bF,oF,cF,hpF,rF,lF,mF⟩:=ht.elem (aS hkm);cases hpF;refine .sk<|.tN<|.sq<|.bk<|.sr<|.m Z Z<|.yv (.indexSl Fx.sl25 Z Z Z (by omega) (q:=oE+k * 4) Z) Z<|.yv (.loadMW Z Fx.agg27 mE lE) Z<|.al Fx.zero27 Z fun b8=>.a Z Z<|.sV .head Z Z Fx.size27 lE rE.one Z<|.ns<|.m Z Z<|.m Z Z<|.yv (.indexSl Fx.sl25 Z Z Z (by omega) (q:=oF+k * 4) Z) Z<|.yv (.loadMW Z Fx.agg27 mF lF) Z<|.al Fx.zero27 Z fun b9=>.sV .head Z Z Fx.size27 lF rF.one Z<|.ns<|.m Z Z<|.yv (.loadW Z Fx.agg27 (.tail _<|.head _) lE) Z<|.yv (.loadW Z Fx.agg27 (.head _) lF) Z<|.yv (.callV (fi:=[]) (ca:=[]) Z hgf Z (fun W s=>hq _ (List.getElem_mem hk) _ cE cF W rE rF s.agr)) Z<|.yv (.not Z) Z<|.nt<|.cd Z (fun h30=>?_) (fun h30=>?_)
  ·try simp only [dt] at h30
   have hne:¬ l=m:=fun e=>by subst e;rw [aA.2 rfl] at h30;cases h30
   refine .sr<|.a Z Z<|.nt<|.rt<|.bR<|.tR<|.tR<|.bR<|.tR<|?_
   refine Sx.ret1 (.inl rfl) rfl (.tmp rfl) fun W s=>⟨aY ?_,s.ext⟩
   first
    | (rw [aA];exact ⟨fun h=>(by cases h),fun h=>absurd h hne⟩)
    | (rw [aA];exact ⟨fun _=>heq,fun _=>rfl⟩)
  try simp only [df] at h30
  have heq:l[k]=m[k]:=aA.1 (by simpa using h30);exact .sk<|.bN<|.tN<|.rg<|.yv (.add Z Z (w6 (by omega))) Z<|.m Z Z<|.nt<|.ag (k+1) ⟨rfl,trivial⟩ ⟨rfl,rfl,rfl,rfl,trivial⟩ (fun _ s=>s.pick [] [] Z Z) ⟨by omega,eN hk hkm hal heq⟩ (by omega)
 try simp only [df] at h18
 have heq:l=m:=by
  have e:k=l.length:=by omega
  have e2:k=m.length:=by omega
  have h1:=hal;rw [e,List.take_length,hlen,List.take_length] at h1;exact h1
 refine .ex<|.tE<|.tE<|.bE<|.tN<|.sr<|.a Z Z<|.nt<|.rt<|?_
 refine Sx.ret1 (.inl rfl) rfl (.tmp rfl) fun W s=>⟨aY ?_,s.ext⟩
 first
  | (rw [aA];exact ⟨fun h=>(by cases h),fun h=>absurd h hne⟩)
  | (rw [aA];exact ⟨fun _=>heq,fun _=>rfl⟩)
set_option maxRecDepth 100000 in
theorem wI (H:Hp) (a:Ex):∀ b,vY 13 (dEx .u8) H a b:=by
 induction a using Ex.ind with | _ op nm n args ih
 intro b ca cb w ha hb hA;obtain ⟨op2,nm2,n2,iY⟩:=b;obtain ⟨p,c,rfl,hs,hnm⟩:=bU ha;obtain ⟨p2,c2,rfl,hs2,hnm2⟩:=bU hb;refine Sx.enter (H:=H) Tryz.func13 rfl Tryz.ntmps13 rfl hA ?_;refine .sr<|.bx Z Z Z fun b2=>.bx Z Z Z fun b3=>.a Z Z<|.ns<|.yv (.fieldAddr Z Fx.field27_0) Z<|.yv (.load Z Fx.agg24 (.tail _<|.head _) Z) Z<|.yv (.fieldAddr Z Fx.field27_0) Z<|.yv (.load Z Fx.agg24 (.head _) Z) Z<|.yv (.eql Z Z) Z<|.m Z Z<|.b2 (fun h10=>?_) (fun h10=>?_)
 ·try simp only [dt] at h10
  have e1:op=op2:=UInt8.toNat_inj.1 (by omega);refine .gd Z Z<|.yv (.fieldAddr Z Fx.field27_1) Z<|.gd Z Z<|.yv (.load Z Fx.agg9 (.tail _<|.head _) Z) Z<|.gd Z Z<|.yv (.fieldAddr Z Fx.field27_1) Z<|.gd Z Z<|.yv (.load Z Fx.agg9 (.head _) Z) Z<|.gd Z Z<|.yv (.eqS Z Z) Z<|.yv (.pickT Z Z) Z<|.m Z Z<|.b2 (fun h17=>?_) (fun h17=>?_)
  ·try simp only [dt] at h17
   have e2:nm=nm2:=h17;refine .gd Z Z<|.yv (.fieldAddr Z Fx.field27_2) Z<|.gd Z Z<|.yv (.load Z Fx.agg2 (.tail _<|.head _) Z) Z<|.gd Z Z<|.yv (.fieldAddr Z Fx.field27_2) Z<|.gd Z Z<|.yv (.load Z Fx.agg2 (.head _) Z) Z<|.gd Z Z<|.yv (.eql Z Z) Z<|.yv (.pickT Z Z) Z<|.m Z Z<|.b2 (fun h24=>?_) (fun h24=>?_)
   ·try simp only [dt] at h24
    have e3:n=n2:=Int64.toInt_inj.1 h24;refine .gd Z Z<|.yv (.fieldAddr Z Fx.field27_3) Z<|.gd Z Z<|.yv (.load Z Fx.agg25 (.tail _<|.head _) Z) Z<|.gd Z Z<|.yv (.fieldAddr Z Fx.field27_3) Z<|.gd Z Z<|.yv (.load Z Fx.agg25 (.head _) Z) Z<|.gd Z Z<|.yv (.call Fx.call28 Z (fun W s=>GL H 13 Fx.call13 args iY ih _ _ hs hs2 W s.agr)) Z<|.yv (.pickT Z Z) Z<|.a Z Z<|.nt<|.rt<|?_
    refine Sx.ret1 (.inl rfl) rfl (.tmp rfl) fun W s=>⟨aY ?_,s.ext⟩
    first
     | (rw [aA,aA,Ex.mk.injEq];exact ⟨fun d=>⟨e1,e2,e3,d⟩,fun h=>h.2.2.2⟩)
     | (rw [aA,Ex.mk.injEq];exact ⟨fun h=>(by cases h),fun h=>absurd h.1 e1⟩)
     | (rw [aA,Ex.mk.injEq];exact ⟨fun h=>(by cases h),fun h=>absurd h.2.1 e2⟩)
     | (rw [aA,Ex.mk.injEq];exact ⟨fun h=>(by cases h),fun h=>absurd h.2.2.1 e3⟩)
   try simp only [df] at h24
   have e3:¬ n=n2:=fun e=>h24 (by rw [e]);refine .gG<|.gG<|.gG<|.gG<|.gG<|.yv (.pickF Z Z) Z<|.a Z Z<|.nt<|.rt<|?_
   refine Sx.ret1 (.inl rfl) rfl (.tmp rfl) fun W s=>⟨aY ?_,s.ext⟩
   first
    | (rw [aA,aA,Ex.mk.injEq];exact ⟨fun d=>⟨e1,e2,e3,d⟩,fun h=>h.2.2.2⟩)
    | (rw [aA,Ex.mk.injEq];exact ⟨fun h=>(by cases h),fun h=>absurd h.1 e1⟩)
    | (rw [aA,Ex.mk.injEq];exact ⟨fun h=>(by cases h),fun h=>absurd h.2.1 e2⟩)
    | (rw [aA,Ex.mk.injEq];exact ⟨fun h=>(by cases h),fun h=>absurd h.2.2.1 e3⟩)
  try simp only [df] at h17
  have e2:¬ nm=nm2:=h17;refine .gG<|.gG<|.gG<|.gG<|.gG<|.yv (.pickF Z Z) Z<|.m Z Z<|.gG<|.gG<|.gG<|.gG<|.gG<|.yv (.pickF Z Z) Z<|.a Z Z<|.nt<|.rt<|?_
  refine Sx.ret1 (.inl rfl) rfl (.tmp rfl) fun W s=>⟨aY ?_,s.ext⟩
  first
   | (rw [aA,aA,Ex.mk.injEq];exact ⟨fun d=>⟨e1,e2,e3,d⟩,fun h=>h.2.2.2⟩)
   | (rw [aA,Ex.mk.injEq];exact ⟨fun h=>(by cases h),fun h=>absurd h.1 e1⟩)
   | (rw [aA,Ex.mk.injEq];exact ⟨fun h=>(by cases h),fun h=>absurd h.2.1 e2⟩)
   | (rw [aA,Ex.mk.injEq];exact ⟨fun h=>(by cases h),fun h=>absurd h.2.2.1 e3⟩)
 try simp only [df] at h10
 have e1:¬ op=op2:=fun e=>h10 (by rw [e]);refine .gG<|.gG<|.gG<|.gG<|.gG<|.yv (.pickF Z Z) Z<|.m Z Z<|.gG<|.gG<|.gG<|.gG<|.gG<|.yv (.pickF Z Z) Z<|.m Z Z<|.gG<|.gG<|.gG<|.gG<|.gG<|.yv (.pickF Z Z) Z<|.a Z Z<|.nt<|.rt<|?_
 refine Sx.ret1 (.inl rfl) rfl (.tmp rfl) fun W s=>⟨aY ?_,s.ext⟩
 first
  | (rw [aA,aA,Ex.mk.injEq];exact ⟨fun d=>⟨e1,e2,e3,d⟩,fun h=>h.2.2.2⟩)
  | (rw [aA,Ex.mk.injEq];exact ⟨fun h=>(by cases h),fun h=>absurd h.1 e1⟩)
  | (rw [aA,Ex.mk.injEq];exact ⟨fun h=>(by cases h),fun h=>absurd h.2.1 e2⟩)
  | (rw [aA,Ex.mk.injEq];exact ⟨fun h=>(by cases h),fun h=>absurd h.2.2.1 e3⟩)
theorem Fx.call9:aK Tryz.prog 9=Bool.true:=by kernel_rfl
end Go.Proofs.YthhoebdlfjffkaaGreatDoor
namespace Go.Proofs.YthhoebdlfjffkaaGreatDoor
open Go.RowKit Go.Par Go.Sx
end Go.Proofs.YthhoebdlfjffkaaGreatDoor
namespace Go.Proofs.YthhoebdlfjffkaaGreatDoor
open Go.RowKit Go.Par Go.Sx
theorem WG {a b:Fg}:a=b↔a.nm=b.nm∧a.init=b.init:=by cases a;cases b;simp
theorem VX {a b:Lk}:a=b↔a.fr=b.fr∧a.to=b.to∧a.lat.toInt=b.lat.toInt:=by cases a;cases b;simp [Int64.toInt_inj]
theorem UX {a b:Vr}:a=b↔a.nm=b.nm∧a.ty.toNat=b.ty.toNat∧a.init.toInt=b.init.toInt:=by cases a;cases b;simp [Int64.toInt_inj,UInt8.toNat_inj]
set_option maxRecDepth 100000 in
theorem VG (H:Hp) (l m:List Fg) (v u:Value) (hs:Rep H (.seq 2 (l.map dFg)) [v]) (ht:Rep H (.seq 2 (m.map dFg)) [u]) (w:World) (hA:Agr H w) :
 Calls Tryz.prog 39 #[v,u] w fun r w'=>r=.returned (.bool (eqP (l=m)))∧Ext w w':=by
 obtain ⟨p,c,e,_⟩:=hs.sl;simp only [List.cons.injEq,and_true,List.length_map] at e;subst e;obtain ⟨p2,c2,e,_⟩:=ht.sl;simp only [List.cons.injEq,and_true,List.length_map] at e;subst e;have hcap:=hs.cap;have hcap2:=ht.cap;refine Sx.enter (H:=H) Tryz.func39 rfl Tryz.ntmps39 rfl hA ?_;refine .sr<|.a Z Z<|.nt<|.sq<|.sr<|.m Z Z<|.yv (.lenSl Fx.sl45 Z) Z<|.m Z Z<|.yv (.lenSl Fx.sl45 Z) Z<|.yv (.neq Z Z) Z<|.nt<|.cd Z (fun h10=>?_) (fun h10=>?_)
 ·try simp only [dt] at h10
  have hne:¬ l=m:=fun e=>by rw [e] at h10;exact h10 rfl
  refine .sr<|.a Z Z<|.nt<|.rt<|.tR<|?_
  refine Sx.ret1 (.inl rfl) rfl (.tmp rfl) fun W s=>⟨aY ?_,s.ext⟩
  first
   | (rw [aA];exact ⟨fun h=>(by cases h),fun h=>absurd h hne⟩)
   | (rw [aA];exact ⟨fun _=>heq,fun _=>rfl⟩)
 try simp only [df] at h10
 have hlen:l.length=m.length:=by omega
 refine .sk<|.tN<|.sq<|.sr<|.m Z Z<|.yv (.lenSl Fx.sl45 Z) Z<|.m Z Z<|.nt<|.bk<|.lp (X:=Nat) [(0,_),(1,_),(12,_)] ⟨rfl,rfl,rfl,trivial⟩ [] (fun k=>[(13,.int .i64 (k:Nat))]) (fun k=>H) (fun k=>[]) (fun k=>k≤l.length∧l.take k=m.take k) (fun k=>l.length - k) 0 (fun _ s=>s) ⟨rfl,trivial⟩ ⟨by omega,rfl⟩ fun k hC=>?_
 obtain ⟨hk0,hal⟩:=hC;refine .sr<|.yv (.lss Z Z) Z<|.nt<|.sq<|.cd Z (fun h14=>?_) (fun h14=>?_)
 ·try simp only [dt] at h14
  have hk:k<l.length:=by omega
  have hkm:k<m.length:=by omega
  obtain ⟨bE,oE,cE,hpE,rE,lE,mE⟩:=hs.elem (aS (f:=dFg) hk);cases hpE;generalize hxE:l[k]=xE at rE;obtain ⟨rfl,_⟩:=qY rE;obtain ⟨bF,oF,cF,hpF,rF,lF,mF⟩:=ht.elem (aS (f:=dFg) hkm);cases hpF;generalize hxF:m[k]=xF at rF;obtain ⟨rfl,_⟩:=qY rF;refine .sk<|.tN<|.sq<|.bk<|.sr<|.m Z Z<|.a Z Z<|.nt<|.sq<|.fl (trip:=[(_,_,_),(_,_,_),(_,_,_),(_,_,_),(_,_,_),(_,_,_),(_,_,_),(_,_,_)]) 8 [(0,0),(1,0),(2,0),(3,0),(4,0),(5,0),(6,0),(7,0)] (by kernel_rfl) (by kernel_rfl) Z<|.m Z Z<|.m Z Z<|.yv (.indexSl Fx.sl45 Z Z Z (by omega) (q:=oE+k * 2) Z) Z<|.yv (.loadMW Z Fx.agg102 mE Z) Z<|.m Z Z<|.m Z Z<|.yv (.indexSl Fx.sl45 Z Z Z (by omega) (q:=oF+k * 2) Z) Z<|.yv (.loadMW Z Fx.agg102 mF Z) Z<|.fn (tl:=[_]) Z<|.yv (.neA Fx.eqt102 Z Z Z) Z<|.nt<|.cd Z (fun h24=>?_) (fun h24=>?_)
  ·try simp only [dt] at h24
   have hne:¬ l=m:=fun e=>by
    subst e;rw [hxE] at hxF;subst hxF;simp at h24
   refine .sr<|.a Z Z<|.nt<|.rt<|.bR<|.tR<|.tR<|.bR<|.tR<|?_
   refine Sx.ret1 (.inl rfl) rfl (.tmp rfl) fun W s=>⟨aY ?_,s.ext⟩
   first
    | (rw [aA];exact ⟨fun h=>(by cases h),fun h=>absurd h hne⟩)
    | (rw [aA];exact ⟨fun _=>heq,fun _=>rfl⟩)
  try simp only [df] at h24
  have heq:l[k]=m[k]:=by
   rw [hxE,hxF];rw [WG];simpa [nU] using h24
  exact .sk<|.bN<|.tN<|.rg<|.yv (.add Z Z (w6 (by omega))) Z<|.m Z Z<|.nt<|.ag (k+1) ⟨rfl,trivial⟩ ⟨rfl,rfl,rfl,trivial⟩ (fun _ s=>s) ⟨by omega,eN hk hkm hal heq⟩ (by omega)
 try simp only [df] at h14
 have heq:l=m:=by
  have e:k=l.length:=by omega
  have e2:k=m.length:=by omega
  have h1:=hal;rw [e,List.take_length,hlen,List.take_length] at h1;exact h1
 refine .ex<|.tE<|.tE<|.bE<|.tN<|.sr<|.a Z Z<|.nt<|.rt<|?_
 refine Sx.ret1 (.inl rfl) rfl (.tmp rfl) fun W s=>⟨aY ?_,s.ext⟩
 first
  | (rw [aA];exact ⟨fun h=>(by cases h),fun h=>absurd h hne⟩)
  | (rw [aA];exact ⟨fun _=>heq,fun _=>rfl⟩)
set_option maxRecDepth 100000 in
theorem VF (H:Hp) (l m:List Lk) (v u:Value) (hs:Rep H (.seq 3 (l.map dLk)) [v]) (ht:Rep H (.seq 3 (m.map dLk)) [u]) (w:World) (hA:Agr H w) :
 Calls Tryz.prog 40 #[v,u] w fun r w'=>r=.returned (.bool (eqP (l=m)))∧Ext w w':=by
 obtain ⟨p,c,e,_⟩:=hs.sl;simp only [List.cons.injEq,and_true,List.length_map] at e;subst e;obtain ⟨p2,c2,e,_⟩:=ht.sl;simp only [List.cons.injEq,and_true,List.length_map] at e;subst e;have hcap:=hs.cap;have hcap2:=ht.cap;refine Sx.enter (H:=H) Tryz.func40 rfl Tryz.ntmps40 rfl hA ?_;refine .sr<|.a Z Z<|.nt<|.sq<|.sr<|.m Z Z<|.yv (.lenSl Fx.sl46 Z) Z<|.m Z Z<|.yv (.lenSl Fx.sl46 Z) Z<|.yv (.neq Z Z) Z<|.nt<|.cd Z (fun h10=>?_) (fun h10=>?_)
 ·try simp only [dt] at h10
  have hne:¬ l=m:=fun e=>by rw [e] at h10;exact h10 rfl
  refine .sr<|.a Z Z<|.nt<|.rt<|.tR<|?_
  refine Sx.ret1 (.inl rfl) rfl (.tmp rfl) fun W s=>⟨aY ?_,s.ext⟩
  first
   | (rw [aA];exact ⟨fun h=>(by cases h),fun h=>absurd h hne⟩)
   | (rw [aA];exact ⟨fun _=>heq,fun _=>rfl⟩)
 try simp only [df] at h10
 have hlen:l.length=m.length:=by omega
 refine .sk<|.tN<|.sq<|.sr<|.m Z Z<|.yv (.lenSl Fx.sl46 Z) Z<|.m Z Z<|.nt<|.bk<|.lp (X:=Nat) [(0,_),(1,_),(12,_)] ⟨rfl,rfl,rfl,trivial⟩ [] (fun k=>[(13,.int .i64 (k:Nat))]) (fun k=>H) (fun k=>[]) (fun k=>k≤l.length∧l.take k=m.take k) (fun k=>l.length - k) 0 (fun _ s=>s) ⟨rfl,trivial⟩ ⟨by omega,rfl⟩ fun k hC=>?_
 obtain ⟨hk0,hal⟩:=hC;refine .sr<|.yv (.lss Z Z) Z<|.nt<|.sq<|.cd Z (fun h14=>?_) (fun h14=>?_)
 ·try simp only [dt] at h14
  have hk:k<l.length:=by omega
  have hkm:k<m.length:=by omega
  obtain ⟨bE,oE,cE,hpE,rE,lE,mE⟩:=hs.elem (aS (f:=dLk) hk);cases hpE;generalize hxE:l[k]=xE at rE;obtain ⟨rfl,_⟩:=oO rE;obtain ⟨bF,oF,cF,hpF,rF,lF,mF⟩:=ht.elem (aS (f:=dLk) hkm);cases hpF;generalize hxF:m[k]=xF at rF;obtain ⟨rfl,_⟩:=oO rF;refine .sk<|.tN<|.sq<|.bk<|.sr<|.m Z Z<|.a Z Z<|.nt<|.sq<|.fl (trip:=[(_,_,_),(_,_,_),(_,_,_),(_,_,_),(_,_,_),(_,_,_),(_,_,_),(_,_,_)]) 8 [(0,0),(1,0),(2,0),(3,0),(4,0),(5,0),(6,0),(7,0)] (by kernel_rfl) (by kernel_rfl) Z<|.m Z Z<|.m Z Z<|.yv (.indexSl Fx.sl46 Z Z Z (by omega) (q:=oE+k * 3) Z) Z<|.yv (.loadMW Z Fx.agg105 mE Z) Z<|.m Z Z<|.m Z Z<|.yv (.indexSl Fx.sl46 Z Z Z (by omega) (q:=oF+k * 3) Z) Z<|.yv (.loadMW Z Fx.agg105 mF Z) Z<|.fn (tl:=[_]) Z<|.yv (.neA Fx.eqt105 Z Z Z) Z<|.nt<|.cd Z (fun h24=>?_) (fun h24=>?_)
  ·try simp only [dt] at h24
   have hne:¬ l=m:=fun e=>by
    subst e;rw [hxE] at hxF;subst hxF;simp at h24
   refine .sr<|.a Z Z<|.nt<|.rt<|.bR<|.tR<|.tR<|.bR<|.tR<|?_
   refine Sx.ret1 (.inl rfl) rfl (.tmp rfl) fun W s=>⟨aY ?_,s.ext⟩
   first
    | (rw [aA];exact ⟨fun h=>(by cases h),fun h=>absurd h hne⟩)
    | (rw [aA];exact ⟨fun _=>heq,fun _=>rfl⟩)
  try simp only [df] at h24
  have heq:l[k]=m[k]:=by
   rw [hxE,hxF];rw [VX];simpa [nU] using h24
  exact .sk<|.bN<|.tN<|.rg<|.yv (.add Z Z (w6 (by omega))) Z<|.m Z Z<|.nt<|.ag (k+1) ⟨rfl,trivial⟩ ⟨rfl,rfl,rfl,trivial⟩ (fun _ s=>s) ⟨by omega,eN hk hkm hal heq⟩ (by omega)
 try simp only [df] at h14
 have heq:l=m:=by
  have e:k=l.length:=by omega
  have e2:k=m.length:=by omega
  have h1:=hal;rw [e,List.take_length,hlen,List.take_length] at h1;exact h1
 refine .ex<|.tE<|.tE<|.bE<|.tN<|.sr<|.a Z Z<|.nt<|.rt<|?_
 refine Sx.ret1 (.inl rfl) rfl (.tmp rfl) fun W s=>⟨aY ?_,s.ext⟩
 first
  | (rw [aA];exact ⟨fun h=>(by cases h),fun h=>absurd h hne⟩)
  | (rw [aA];exact ⟨fun _=>heq,fun _=>rfl⟩)
set_option maxRecDepth 100000 in
theorem VD (H:Hp) (l m:List Vr) (v u:Value) (hs:Rep H (.seq 3 (l.map (dVr .u8))) [v]) (ht:Rep H (.seq 3 (m.map (dVr .u8))) [u]) (w:World) (hA:Agr H w) :
 Calls Tryz.prog 78 #[v,u] w fun r w'=>r=.returned (.bool (eqP (l=m)))∧Ext w w':=by
 obtain ⟨p,c,e,_⟩:=hs.sl;simp only [List.cons.injEq,and_true,List.length_map] at e;subst e;obtain ⟨p2,c2,e,_⟩:=ht.sl;simp only [List.cons.injEq,and_true,List.length_map] at e;subst e;have hcap:=hs.cap;have hcap2:=ht.cap;refine Sx.enter (H:=H) Tryz.func78 rfl Tryz.ntmps78 rfl hA ?_;refine .sr<|.a Z Z<|.nt<|.sq<|.sr<|.m Z Z<|.yv (.lenSl Fx.sl107 Z) Z<|.m Z Z<|.yv (.lenSl Fx.sl107 Z) Z<|.yv (.neq Z Z) Z<|.nt<|.cd Z (fun h10=>?_) (fun h10=>?_)
 ·try simp only [dt] at h10
  have hne:¬ l=m:=fun e=>by rw [e] at h10;exact h10 rfl
  refine .sr<|.a Z Z<|.nt<|.rt<|.tR<|?_
  refine Sx.ret1 (.inl rfl) rfl (.tmp rfl) fun W s=>⟨aY ?_,s.ext⟩
  first
   | (rw [aA];exact ⟨fun h=>(by cases h),fun h=>absurd h hne⟩)
   | (rw [aA];exact ⟨fun _=>heq,fun _=>rfl⟩)
 try simp only [df] at h10
 have hlen:l.length=m.length:=by omega
 refine .sk<|.tN<|.sq<|.sr<|.m Z Z<|.yv (.lenSl Fx.sl107 Z) Z<|.m Z Z<|.nt<|.bk<|.lp (X:=Nat) [(0,_),(1,_),(12,_)] ⟨rfl,rfl,rfl,trivial⟩ [] (fun k=>[(13,.int .i64 (k:Nat))]) (fun k=>H) (fun k=>[]) (fun k=>k≤l.length∧l.take k=m.take k) (fun k=>l.length - k) 0 (fun _ s=>s) ⟨rfl,trivial⟩ ⟨by omega,rfl⟩ fun k hC=>?_
 obtain ⟨hk0,hal⟩:=hC;refine .sr<|.yv (.lss Z Z) Z<|.nt<|.sq<|.cd Z (fun h14=>?_) (fun h14=>?_)
 ·try simp only [dt] at h14
  have hk:k<l.length:=by omega
  have hkm:k<m.length:=by omega
  obtain ⟨bE,oE,cE,hpE,rE,lE,mE⟩:=hs.elem (aS (f:=(dVr .u8)) hk);cases hpE;generalize hxE:l[k]=xE at rE;obtain ⟨rfl,_⟩:=mJ rE;obtain ⟨bF,oF,cF,hpF,rF,lF,mF⟩:=ht.elem (aS (f:=(dVr .u8)) hkm);cases hpF;generalize hxF:m[k]=xF at rF;obtain ⟨rfl,_⟩:=mJ rF;refine .sk<|.tN<|.sq<|.bk<|.sr<|.m Z Z<|.a Z Z<|.nt<|.sq<|.fl (trip:=[(_,_,_),(_,_,_),(_,_,_),(_,_,_),(_,_,_),(_,_,_),(_,_,_),(_,_,_)]) 8 [(0,0),(1,0),(2,0),(3,0),(4,0),(5,0),(6,0),(7,0)] (by kernel_rfl) (by kernel_rfl) Z<|.m Z Z<|.m Z Z<|.yv (.indexSl Fx.sl107 Z Z Z (by omega) (q:=oE+k * 3) Z) Z<|.yv (.loadMW Z Fx.agg151 mE Z) Z<|.m Z Z<|.m Z Z<|.yv (.indexSl Fx.sl107 Z Z Z (by omega) (q:=oF+k * 3) Z) Z<|.yv (.loadMW Z Fx.agg151 mF Z) Z<|.fn (tl:=[_]) Z<|.yv (.neA Fx.eqt151 Z Z Z) Z<|.nt<|.cd Z (fun h24=>?_) (fun h24=>?_)
  ·try simp only [dt] at h24
   have hne:¬ l=m:=fun e=>by
    subst e;rw [hxE] at hxF;subst hxF;simp at h24
   refine .sr<|.a Z Z<|.nt<|.rt<|.bR<|.tR<|.tR<|.bR<|.tR<|?_
   refine Sx.ret1 (.inl rfl) rfl (.tmp rfl) fun W s=>⟨aY ?_,s.ext⟩
   first
    | (rw [aA];exact ⟨fun h=>(by cases h),fun h=>absurd h hne⟩)
    | (rw [aA];exact ⟨fun _=>heq,fun _=>rfl⟩)
  try simp only [df] at h24
  have heq:l[k]=m[k]:=by
   rw [hxE,hxF];rw [UX];have h9:=h24;simp [nU] at h9;exact ⟨h9.1,by omega,h9.2.2⟩
  exact .sk<|.bN<|.tN<|.rg<|.yv (.add Z Z (w6 (by omega))) Z<|.m Z Z<|.nt<|.ag (k+1) ⟨rfl,trivial⟩ ⟨rfl,rfl,rfl,trivial⟩ (fun _ s=>s) ⟨by omega,eN hk hkm hal heq⟩ (by omega)
 try simp only [df] at h14
 have heq:l=m:=by
  have e:k=l.length:=by omega
  have e2:k=m.length:=by omega
  have h1:=hal;rw [e,List.take_length,hlen,List.take_length] at h1;exact h1
 refine .ex<|.tE<|.tE<|.bE<|.tN<|.sr<|.a Z Z<|.nt<|.rt<|?_
 refine Sx.ret1 (.inl rfl) rfl (.tmp rfl) fun W s=>⟨aY ?_,s.ext⟩
 first
  | (rw [aA];exact ⟨fun h=>(by cases h),fun h=>absurd h hne⟩)
  | (rw [aA];exact ⟨fun _=>heq,fun _=>rfl⟩)
set_option maxRecDepth 100000 in
theorem VE (H:Hp) (l m:List Str) (v u:Value) (hs:Rep H (.seq 1 (l.map iV)) [v]) (ht:Rep H (.seq 1 (m.map iV)) [u]) (w:World) (hA:Agr H w) :
 Calls Tryz.prog 123 #[v,u] w fun r w'=>r=.returned (.bool (eqP (l=m)))∧Ext w w':=by
 obtain ⟨p,c,e,_⟩:=hs.sl;simp only [List.cons.injEq,and_true,List.length_map] at e;subst e;obtain ⟨p2,c2,e,_⟩:=ht.sl;simp only [List.cons.injEq,and_true,List.length_map] at e;subst e;have hcap:=hs.cap;have hcap2:=ht.cap;refine Sx.enter (H:=H) Tryz.func123 rfl Tryz.ntmps123 rfl hA ?_;refine .sr<|.a Z Z<|.nt<|.sq<|.sr<|.m Z Z<|.yv (.lenSl Fx.sl52 Z) Z<|.m Z Z<|.yv (.lenSl Fx.sl52 Z) Z<|.yv (.neq Z Z) Z<|.nt<|.cd Z (fun h10=>?_) (fun h10=>?_)
 ·try simp only [dt] at h10
  have hne:¬ l=m:=fun e=>by rw [e] at h10;exact h10 rfl
  refine .sr<|.a Z Z<|.nt<|.rt<|.tR<|?_
  refine Sx.ret1 (.inl rfl) rfl (.tmp rfl) fun W s=>⟨aY ?_,s.ext⟩
  first
   | (rw [aA];exact ⟨fun h=>(by cases h),fun h=>absurd h hne⟩)
   | (rw [aA];exact ⟨fun _=>heq,fun _=>rfl⟩)
 try simp only [df] at h10
 have hlen:l.length=m.length:=by omega
 refine .sk<|.tN<|.sq<|.sr<|.m Z Z<|.yv (.lenSl Fx.sl52 Z) Z<|.m Z Z<|.nt<|.bk<|.lp (X:=Nat) [(0,_),(1,_),(12,_)] ⟨rfl,rfl,rfl,trivial⟩ [] (fun k=>[(13,.int .i64 (k:Nat))]) (fun k=>H) (fun k=>[]) (fun k=>k≤l.length∧l.take k=m.take k) (fun k=>l.length - k) 0 (fun _ s=>s) ⟨rfl,trivial⟩ ⟨by omega,rfl⟩ fun k hC=>?_
 obtain ⟨hk0,hal⟩:=hC;refine .sr<|.yv (.lss Z Z) Z<|.nt<|.sq<|.cd Z (fun h14=>?_) (fun h14=>?_)
 ·try simp only [dt] at h14
  have hk:k<l.length:=by omega
  have hkm:k<m.length:=by omega
  obtain ⟨bE,oE,cE,hpE,rE,lE,mE⟩:=hs.elem (aS (f:=iV) hk);cases hpE;generalize hxE:l[k]=xE at rE;obtain ⟨rfl,_⟩:=nD rE;obtain ⟨bF,oF,cF,hpF,rF,lF,mF⟩:=ht.elem (aS (f:=iV) hkm);cases hpF;generalize hxF:m[k]=xF at rF;obtain ⟨rfl,_⟩:=nD rF;refine .sk<|.tN<|.sq<|.bk<|.sr<|.m Z Z<|.a Z Z<|.nt<|.sq<|.fl (trip:=[(_,_,_),(_,_,_),(_,_,_),(_,_,_),(_,_,_),(_,_,_),(_,_,_),(_,_,_)]) 8 [(0,0),(1,0),(2,0),(3,0),(4,0),(5,0),(6,0),(7,0)] (by kernel_rfl) (by kernel_rfl) Z<|.m Z Z<|.m Z Z<|.yv (.indexSl Fx.sl52 Z Z Z (by omega) (q:=oE+k * 1) Z) Z<|.yv (.loadM Z Fx.agg9 mE (k:=0) Z Z) Z<|.m Z Z<|.m Z Z<|.yv (.indexSl Fx.sl52 Z Z Z (by omega) (q:=oF+k * 1) Z) Z<|.yv (.loadM Z Fx.agg9 mF (k:=0) Z Z) Z<|.fn (tl:=[_]) Z<|.yv (.neS Z Z) Z<|.nt<|.cd Z (fun h24=>?_) (fun h24=>?_)
  ·try simp only [dt] at h24
   have hne:¬ l=m:=fun e=>by
    subst e;rw [hxE] at hxF;subst hxF;simp at h24
   refine .sr<|.a Z Z<|.nt<|.rt<|.bR<|.tR<|.tR<|.bR<|.tR<|?_
   refine Sx.ret1 (.inl rfl) rfl (.tmp rfl) fun W s=>⟨aY ?_,s.ext⟩
   first
    | (rw [aA];exact ⟨fun h=>(by cases h),fun h=>absurd h hne⟩)
    | (rw [aA];exact ⟨fun _=>heq,fun _=>rfl⟩)
  try simp only [df] at h24
  have heq:l[k]=m[k]:=by
   rw [hxE,hxF];simpa using h24
  exact .sk<|.bN<|.tN<|.rg<|.yv (.add Z Z (w6 (by omega))) Z<|.m Z Z<|.nt<|.ag (k+1) ⟨rfl,trivial⟩ ⟨rfl,rfl,rfl,trivial⟩ (fun _ s=>s) ⟨by omega,eN hk hkm hal heq⟩ (by omega)
 try simp only [df] at h14
 have heq:l=m:=by
  have e:k=l.length:=by omega
  have e2:k=m.length:=by omega
  have h1:=hal;rw [e,List.take_length,hlen,List.take_length] at h1;exact h1
 refine .ex<|.tE<|.tE<|.bE<|.tN<|.sr<|.a Z Z<|.nt<|.rt<|?_
 refine Sx.ret1 (.inl rfl) rfl (.tmp rfl) fun W s=>⟨aY ?_,s.ext⟩
 first
  | (rw [aA];exact ⟨fun h=>(by cases h),fun h=>absurd h hne⟩)
  | (rw [aA];exact ⟨fun _=>heq,fun _=>rfl⟩)
theorem qT {a b:Hd}:a=b↔a.nm=b.nm∧a.ps=b.ps∧a.body=b.body:=by cases a;cases b;simp
theorem rA {a b:Cp}:a=b↔a.nm=b.nm∧a.vars=b.vars∧a.vers=b.vers:=by cases a;cases b;simp
theorem jU {a b:Ft}:a=b↔a.nm=b.nm∧a.flags=b.flags∧a.links=b.links∧a.comps=b.comps:=by cases a;cases b;simp
set_option maxRecDepth 100000 in
theorem zQ (H:Hp) (gf:FuncId) (hgf:aK Tryz.prog gf=true) (l m:List Sm) (hq:∀ a∈l,∀ b,vY gf (dSm .u8) H a b) (v u:Value) (hs:Rep H (.seq 6 (l.map (dSm .u8))) [v]) (ht:Rep H (.seq 6 (m.map (dSm .u8))) [u]) (w:World) (hA:Agr H w) :
 Calls Tryz.prog 124 #[v,u,.func (.func gf) #[] #[]] w fun r w'=>r=.returned (.bool (eqP (l=m)))∧Ext w w':=by
 obtain ⟨p,c,e,_⟩:=hs.sl;simp only [List.cons.injEq,and_true,List.length_map] at e;subst e;obtain ⟨p2,c2,e,_⟩:=ht.sl;simp only [List.cons.injEq,and_true,List.length_map] at e;subst e;have hcap:=hs.cap;have hcap2:=ht.cap;refine Sx.enter (H:=H) Tryz.func124 rfl Tryz.ntmps124 rfl hA ?_;refine .sr<|.a Z Z<|.nt<|.sq<|.sr<|.m Z Z<|.yv (.lenSl Fx.sl159 Z) Z<|.m Z Z<|.yv (.lenSl Fx.sl159 Z) Z<|.yv (.neq Z Z) Z<|.nt<|.cd Z (fun h14=>?_) (fun h14=>?_)
 ·try simp only [dt] at h14
  have hne:¬ l=m:=fun e=>by rw [e] at h14;exact h14 rfl
  refine .sr<|.a Z Z<|.nt<|.rt<|.tR<|?_
  refine Sx.ret1 (.inl rfl) rfl (.tmp rfl) fun W s=>⟨aY ?_,s.ext⟩
  first
   | (rw [aA];exact ⟨fun h=>(by cases h),fun h=>absurd h hne⟩)
   | (rw [aA];exact ⟨fun _=>heq,fun _=>rfl⟩)
 try simp only [df] at h14
 have hlen:l.length=m.length:=by omega
 refine .sk<|.tN<|.sq<|.sr<|.m Z Z<|.yv (.lenSl Fx.sl159 Z) Z<|.m Z Z<|.nt<|.bk<|.lp (X:=Nat) [(1,_),(2,_),(15,_),(16,_)] ⟨rfl,rfl,rfl,rfl,trivial⟩ [] (fun k=>[(17,.int .i64 (k:Nat))]) (fun k=>H) (fun k=>[]) (fun k=>k≤l.length∧l.take k=m.take k) (fun k=>l.length - k) 0 (fun _ s=>s) ⟨rfl,trivial⟩ ⟨by omega,rfl⟩ fun k hC=>?_
 obtain ⟨hk0,hal⟩:=hC;refine .sr<|.yv (.lss Z Z) Z<|.nt<|.sq<|.cd Z (fun h18=>?_) (fun h18=>?_)
 ·try simp only [dt] at h18
  have hk:k<l.length:=by omega
  have hkm:k<m.length:=by omega
  obtain ⟨bE,oE,cE,hpE,rE,lE,mE⟩:=hs.elem (aS hk);cases hpE;obtain ⟨bF,oF,cF,hpF,rF,lF,mF⟩:=ht.elem (aS hkm);cases hpF;refine .sk<|.tN<|.sq<|.bk<|.sr<|.m Z Z<|.yv (.indexSl Fx.sl159 Z Z Z (by omega) (q:=oE+k * 6) Z) Z<|.yv (.loadMW Z Fx.agg208 mE lE) Z<|.al Fx.zero208 Z fun b8=>.a Z Z<|.sV .head Z Z Fx.size208 lE rE.one Z<|.ns<|.m Z Z<|.m Z Z<|.yv (.indexSl Fx.sl159 Z Z Z (by omega) (q:=oF+k * 6) Z) Z<|.yv (.loadMW Z Fx.agg208 mF lF) Z<|.al Fx.zero208 Z fun b9=>.sV .head Z Z Fx.size208 lF rF.one Z<|.ns<|.m Z Z<|.yv (.loadW Z Fx.agg208 (.tail _<|.head _) lE) Z<|.yv (.loadW Z Fx.agg208 (.head _) lF) Z<|.yv (.callV (fi:=[]) (ca:=[]) Z hgf Z (fun W s=>hq _ (List.getElem_mem hk) _ cE cF W rE rF s.agr)) Z<|.yv (.not Z) Z<|.nt<|.cd Z (fun h30=>?_) (fun h30=>?_)
  ·try simp only [dt] at h30
   have hne:¬ l=m:=fun e=>by subst e;rw [aA.2 rfl] at h30;cases h30
   refine .sr<|.a Z Z<|.nt<|.rt<|.bR<|.tR<|.tR<|.bR<|.tR<|?_
   refine Sx.ret1 (.inl rfl) rfl (.tmp rfl) fun W s=>⟨aY ?_,s.ext⟩
   first
    | (rw [aA];exact ⟨fun h=>(by cases h),fun h=>absurd h hne⟩)
    | (rw [aA];exact ⟨fun _=>heq,fun _=>rfl⟩)
  try simp only [df] at h30
  have heq:l[k]=m[k]:=aA.1 (by simpa using h30);exact .sk<|.bN<|.tN<|.rg<|.yv (.add Z Z (w6 (by omega))) Z<|.m Z Z<|.nt<|.ag (k+1) ⟨rfl,trivial⟩ ⟨rfl,rfl,rfl,rfl,trivial⟩ (fun _ s=>s.pick [] [] Z Z) ⟨by omega,eN hk hkm hal heq⟩ (by omega)
 try simp only [df] at h18
 have heq:l=m:=by
  have e:k=l.length:=by omega
  have e2:k=m.length:=by omega
  have h1:=hal;rw [e,List.take_length,hlen,List.take_length] at h1;exact h1
 refine .ex<|.tE<|.tE<|.bE<|.tN<|.sr<|.a Z Z<|.nt<|.rt<|?_
 refine Sx.ret1 (.inl rfl) rfl (.tmp rfl) fun W s=>⟨aY ?_,s.ext⟩
 first
  | (rw [aA];exact ⟨fun h=>(by cases h),fun h=>absurd h hne⟩)
  | (rw [aA];exact ⟨fun _=>heq,fun _=>rfl⟩)
set_option maxRecDepth 100000 in
theorem wH (H:Hp) (a:Sm):∀ b,vY 125 (dSm .u8) H a b:=by
 induction a using Sm.ind with | _ kd nm hd ex th el ih1 ih2
 intro b ca cb w ha hb hA;obtain ⟨kd2,nm2,hd2,ex2,th2,el2⟩:=b;obtain ⟨p,c,p1,c1,p2,c2,rfl,k1,k2,k3,_,_⟩:=gW ha;obtain ⟨q,d,q1,d1,q2,d2,rfl,g1,g2,g3,_,_⟩:=gW hb;refine Sx.enter (H:=H) Tryz.func125 rfl Tryz.ntmps125 rfl hA ?_;refine .sr<|.bx Z Z Z fun b2=>.bx Z Z Z fun b3=>.a Z Z<|.ns<|.yv (.fieldAddr Z Fx.field208_0) Z<|.yv (.load Z Fx.agg206 (.tail _<|.head _) Z) Z<|.yv (.fieldAddr Z Fx.field208_0) Z<|.yv (.load Z Fx.agg206 (.head _) Z) Z<|.yv (.eql Z Z) Z<|.m Z Z<|.b2 (fun h10=>?_) (fun h10=>?_)
 ·try simp only [dt] at h10
  have e1:=UInt8.toNat_inj.1 (by omega:kd.toNat=kd2.toNat);refine .gd Z Z<|.yv (.fieldAddr Z Fx.field208_1) Z<|.gd Z Z<|.yv (.load Z Fx.agg9 (.tail _<|.head _) Z) Z<|.gd Z Z<|.yv (.fieldAddr Z Fx.field208_1) Z<|.gd Z Z<|.yv (.load Z Fx.agg9 (.head _) Z) Z<|.gd Z Z<|.yv (.eqS Z Z) Z<|.yv (.pickT Z Z) Z<|.m Z Z<|.b2 (fun h17=>?_) (fun h17=>?_)
  ·try simp only [dt] at h17
   have e2:=(id h17:nm=nm2);refine .gd Z Z<|.yv (.fieldAddr Z Fx.field208_2) Z<|.gd Z Z<|.yv (.load Z Fx.agg9 (.tail _<|.head _) Z) Z<|.gd Z Z<|.yv (.fieldAddr Z Fx.field208_2) Z<|.gd Z Z<|.yv (.load Z Fx.agg9 (.head _) Z) Z<|.gd Z Z<|.yv (.eqS Z Z) Z<|.yv (.pickT Z Z) Z<|.m Z Z<|.b2 (fun h24=>?_) (fun h24=>?_)
   ·try simp only [dt] at h24
    have e3:=(id h24:hd=hd2);refine .gd Z Z<|.yv (.fieldAddr Z Fx.field208_3) Z<|.gd Z Z<|.yv (.load Z Fx.agg25 (.tail _<|.head _) Z) Z<|.gd Z Z<|.yv (.fieldAddr Z Fx.field208_3) Z<|.gd Z Z<|.yv (.load Z Fx.agg25 (.head _) Z) Z<|.gd Z Z<|.yv (.call Fx.call28 Z (fun W s=>GL H 13 Fx.call13 ex ex2 (fun a _=>wI H a) _ _ k1 g1 W s.agr)) Z<|.yv (.pickT Z Z) Z<|.m Z Z<|.b2 (fun h31=>?_) (fun h31=>?_)
    ·try simp only [dt] at h31
     have e4:=aA.1 h31;refine .gd Z Z<|.yv (.fieldAddr Z Fx.field208_4) Z<|.gd Z Z<|.yv (.load Z Fx.agg159 (.tail _<|.head _) Z) Z<|.gd Z Z<|.yv (.fieldAddr Z Fx.field208_4) Z<|.gd Z Z<|.yv (.load Z Fx.agg159 (.head _) Z) Z<|.gd Z Z<|.yv (.call Fx.call124 Z (fun W s=>zQ H 125 Fx.call125 th th2 ih1 _ _ k2 g2 W s.agr)) Z<|.yv (.pickT Z Z) Z<|.m Z Z<|.b2 (fun h38=>?_) (fun h38=>?_)
     ·try simp only [dt] at h38
      have e5:=aA.1 h38;refine .gd Z Z<|.yv (.fieldAddr Z Fx.field208_5) Z<|.gd Z Z<|.yv (.load Z Fx.agg159 (.tail _<|.head _) Z) Z<|.gd Z Z<|.yv (.fieldAddr Z Fx.field208_5) Z<|.gd Z Z<|.yv (.load Z Fx.agg159 (.head _) Z) Z<|.gd Z Z<|.yv (.call Fx.call124 Z (fun W s=>zQ H 125 Fx.call125 el el2 ih2 _ _ k3 g3 W s.agr)) Z<|.yv (.pickT Z Z) Z<|.a Z Z<|.nt<|.rt<|?_
      refine Sx.ret1 (.inl rfl) rfl (.tmp rfl) fun W s=>⟨aY ?_,s.ext⟩
      first
       | (rw [aA,aA,Sm.mk.injEq];exact ⟨fun d=>⟨e1,e2,e3,e4,e5,d⟩,fun h=>h.2.2.2.2.2⟩)
       | (rw [aA,Sm.mk.injEq];exact ⟨fun h=>(by cases h),fun h=>absurd h.1 e1⟩)
       | (rw [aA,Sm.mk.injEq];exact ⟨fun h=>(by cases h),fun h=>absurd h.2.1 e2⟩)
       | (rw [aA,Sm.mk.injEq];exact ⟨fun h=>(by cases h),fun h=>absurd h.2.2.1 e3⟩)
       | (rw [aA,Sm.mk.injEq];exact ⟨fun h=>(by cases h),fun h=>absurd h.2.2.2.1 e4⟩)
       | (rw [aA,Sm.mk.injEq];exact ⟨fun h=>(by cases h),fun h=>absurd h.2.2.2.2.1 e5⟩)
     try simp only [df] at h38
     have e5:=kF.1 h38;refine .gG<|.gG<|.gG<|.gG<|.gG<|.yv (.pickF Z Z) Z<|.a Z Z<|.nt<|.rt<|?_
     refine Sx.ret1 (.inl rfl) rfl (.tmp rfl) fun W s=>⟨aY ?_,s.ext⟩
     first
      | (rw [aA,aA,Sm.mk.injEq];exact ⟨fun d=>⟨e1,e2,e3,e4,e5,d⟩,fun h=>h.2.2.2.2.2⟩)
      | (rw [aA,Sm.mk.injEq];exact ⟨fun h=>(by cases h),fun h=>absurd h.1 e1⟩)
      | (rw [aA,Sm.mk.injEq];exact ⟨fun h=>(by cases h),fun h=>absurd h.2.1 e2⟩)
      | (rw [aA,Sm.mk.injEq];exact ⟨fun h=>(by cases h),fun h=>absurd h.2.2.1 e3⟩)
      | (rw [aA,Sm.mk.injEq];exact ⟨fun h=>(by cases h),fun h=>absurd h.2.2.2.1 e4⟩)
      | (rw [aA,Sm.mk.injEq];exact ⟨fun h=>(by cases h),fun h=>absurd h.2.2.2.2.1 e5⟩)
    try simp only [df] at h31
    have e4:=kF.1 h31;refine .gG<|.gG<|.gG<|.gG<|.gG<|.yv (.pickF Z Z) Z<|.m Z Z<|.gG<|.gG<|.gG<|.gG<|.gG<|.yv (.pickF Z Z) Z<|.a Z Z<|.nt<|.rt<|?_
    refine Sx.ret1 (.inl rfl) rfl (.tmp rfl) fun W s=>⟨aY ?_,s.ext⟩
    first
     | (rw [aA,aA,Sm.mk.injEq];exact ⟨fun d=>⟨e1,e2,e3,e4,e5,d⟩,fun h=>h.2.2.2.2.2⟩)
     | (rw [aA,Sm.mk.injEq];exact ⟨fun h=>(by cases h),fun h=>absurd h.1 e1⟩)
     | (rw [aA,Sm.mk.injEq];exact ⟨fun h=>(by cases h),fun h=>absurd h.2.1 e2⟩)
     | (rw [aA,Sm.mk.injEq];exact ⟨fun h=>(by cases h),fun h=>absurd h.2.2.1 e3⟩)
     | (rw [aA,Sm.mk.injEq];exact ⟨fun h=>(by cases h),fun h=>absurd h.2.2.2.1 e4⟩)
     | (rw [aA,Sm.mk.injEq];exact ⟨fun h=>(by cases h),fun h=>absurd h.2.2.2.2.1 e5⟩)
   try simp only [df] at h24
   have e3:=(id h24:¬ hd=hd2);refine .gG<|.gG<|.gG<|.gG<|.gG<|.yv (.pickF Z Z) Z<|.m Z Z<|.gG<|.gG<|.gG<|.gG<|.gG<|.yv (.pickF Z Z) Z<|.m Z Z<|.gG<|.gG<|.gG<|.gG<|.gG<|.yv (.pickF Z Z) Z<|.a Z Z<|.nt<|.rt<|?_
   refine Sx.ret1 (.inl rfl) rfl (.tmp rfl) fun W s=>⟨aY ?_,s.ext⟩
   first
    | (rw [aA,aA,Sm.mk.injEq];exact ⟨fun d=>⟨e1,e2,e3,e4,e5,d⟩,fun h=>h.2.2.2.2.2⟩)
    | (rw [aA,Sm.mk.injEq];exact ⟨fun h=>(by cases h),fun h=>absurd h.1 e1⟩)
    | (rw [aA,Sm.mk.injEq];exact ⟨fun h=>(by cases h),fun h=>absurd h.2.1 e2⟩)
    | (rw [aA,Sm.mk.injEq];exact ⟨fun h=>(by cases h),fun h=>absurd h.2.2.1 e3⟩)
    | (rw [aA,Sm.mk.injEq];exact ⟨fun h=>(by cases h),fun h=>absurd h.2.2.2.1 e4⟩)
    | (rw [aA,Sm.mk.injEq];exact ⟨fun h=>(by cases h),fun h=>absurd h.2.2.2.2.1 e5⟩)
  try simp only [df] at h17
  have e2:=(id h17:¬ nm=nm2);refine .gG<|.gG<|.gG<|.gG<|.gG<|.yv (.pickF Z Z) Z<|.m Z Z<|.gG<|.gG<|.gG<|.gG<|.gG<|.yv (.pickF Z Z) Z<|.m Z Z<|.gG<|.gG<|.gG<|.gG<|.gG<|.yv (.pickF Z Z) Z<|.m Z Z<|.gG<|.gG<|.gG<|.gG<|.gG<|.yv (.pickF Z Z) Z<|.a Z Z<|.nt<|.rt<|?_
  refine Sx.ret1 (.inl rfl) rfl (.tmp rfl) fun W s=>⟨aY ?_,s.ext⟩
  first
   | (rw [aA,aA,Sm.mk.injEq];exact ⟨fun d=>⟨e1,e2,e3,e4,e5,d⟩,fun h=>h.2.2.2.2.2⟩)
   | (rw [aA,Sm.mk.injEq];exact ⟨fun h=>(by cases h),fun h=>absurd h.1 e1⟩)
   | (rw [aA,Sm.mk.injEq];exact ⟨fun h=>(by cases h),fun h=>absurd h.2.1 e2⟩)
   | (rw [aA,Sm.mk.injEq];exact ⟨fun h=>(by cases h),fun h=>absurd h.2.2.1 e3⟩)
   | (rw [aA,Sm.mk.injEq];exact ⟨fun h=>(by cases h),fun h=>absurd h.2.2.2.1 e4⟩)
   | (rw [aA,Sm.mk.injEq];exact ⟨fun h=>(by cases h),fun h=>absurd h.2.2.2.2.1 e5⟩)
 try simp only [df] at h10
 have e1:=(fun e=>h10 (by rw [e]):¬ kd=kd2);refine .gG<|.gG<|.gG<|.gG<|.gG<|.yv (.pickF Z Z) Z<|.m Z Z<|.gG<|.gG<|.gG<|.gG<|.gG<|.yv (.pickF Z Z) Z<|.m Z Z<|.gG<|.gG<|.gG<|.gG<|.gG<|.yv (.pickF Z Z) Z<|.m Z Z<|.gG<|.gG<|.gG<|.gG<|.gG<|.yv (.pickF Z Z) Z<|.m Z Z<|.gG<|.gG<|.gG<|.gG<|.gG<|.yv (.pickF Z Z) Z<|.a Z Z<|.nt<|.rt<|?_
 refine Sx.ret1 (.inl rfl) rfl (.tmp rfl) fun W s=>⟨aY ?_,s.ext⟩
 first
  | (rw [aA,aA,Sm.mk.injEq];exact ⟨fun d=>⟨e1,e2,e3,e4,e5,d⟩,fun h=>h.2.2.2.2.2⟩)
  | (rw [aA,Sm.mk.injEq];exact ⟨fun h=>(by cases h),fun h=>absurd h.1 e1⟩)
  | (rw [aA,Sm.mk.injEq];exact ⟨fun h=>(by cases h),fun h=>absurd h.2.1 e2⟩)
  | (rw [aA,Sm.mk.injEq];exact ⟨fun h=>(by cases h),fun h=>absurd h.2.2.1 e3⟩)
  | (rw [aA,Sm.mk.injEq];exact ⟨fun h=>(by cases h),fun h=>absurd h.2.2.2.1 e4⟩)
  | (rw [aA,Sm.mk.injEq];exact ⟨fun h=>(by cases h),fun h=>absurd h.2.2.2.2.1 e5⟩)
set_option maxRecDepth 100000 in
theorem RA (H:Hp) (gf:FuncId) (hgf:aK Tryz.prog gf=true) (l m:List Hd) (hq:∀ a∈l,∀ b,vY gf (dHd .u8) H a b) (v u:Value) (hs:Rep H (.seq 3 (l.map (dHd .u8))) [v]) (ht:Rep H (.seq 3 (m.map (dHd .u8))) [u]) (w:World) (hA:Agr H w) :
 Calls Tryz.prog 81 #[v,u,.func (.func gf) #[] #[]] w fun r w'=>r=.returned (.bool (eqP (l=m)))∧Ext w w':=by
 obtain ⟨p,c,e,_⟩:=hs.sl;simp only [List.cons.injEq,and_true,List.length_map] at e;subst e;obtain ⟨p2,c2,e,_⟩:=ht.sl;simp only [List.cons.injEq,and_true,List.length_map] at e;subst e;have hcap:=hs.cap;have hcap2:=ht.cap;refine Sx.enter (H:=H) Tryz.func81 rfl Tryz.ntmps81 rfl hA ?_;refine .sr<|.a Z Z<|.nt<|.sq<|.sr<|.m Z Z<|.yv (.lenSl Fx.sl153 Z) Z<|.m Z Z<|.yv (.lenSl Fx.sl153 Z) Z<|.yv (.neq Z Z) Z<|.nt<|.cd Z (fun h14=>?_) (fun h14=>?_)
 ·try simp only [dt] at h14
  have hne:¬ l=m:=fun e=>by rw [e] at h14;exact h14 rfl
  refine .sr<|.a Z Z<|.nt<|.rt<|.tR<|?_
  refine Sx.ret1 (.inl rfl) rfl (.tmp rfl) fun W s=>⟨aY ?_,s.ext⟩
  first
   | (rw [aA];exact ⟨fun h=>(by cases h),fun h=>absurd h hne⟩)
   | (rw [aA];exact ⟨fun _=>heq,fun _=>rfl⟩)
 try simp only [df] at h14
 have hlen:l.length=m.length:=by omega
 refine .sk<|.tN<|.sq<|.sr<|.m Z Z<|.yv (.lenSl Fx.sl153 Z) Z<|.m Z Z<|.nt<|.bk<|.lp (X:=Nat) [(1,_),(2,_),(15,_),(16,_)] ⟨rfl,rfl,rfl,rfl,trivial⟩ [] (fun k=>[(17,.int .i64 (k:Nat))]) (fun k=>H) (fun k=>[]) (fun k=>k≤l.length∧l.take k=m.take k) (fun k=>l.length - k) 0 (fun _ s=>s) ⟨rfl,trivial⟩ ⟨by omega,rfl⟩ fun k hC=>?_
 obtain ⟨hk0,hal⟩:=hC;refine .sr<|.yv (.lss Z Z) Z<|.nt<|.sq<|.cd Z (fun h18=>?_) (fun h18=>?_)
 ·try simp only [dt] at h18
  have hk:k<l.length:=by omega
  have hkm:k<m.length:=by omega
  obtain ⟨bE,oE,cE,hpE,rE,lE,mE⟩:=hs.elem (aS hk);cases hpE;obtain ⟨bF,oF,cF,hpF,rF,lF,mF⟩:=ht.elem (aS hkm);cases hpF;refine .sk<|.tN<|.sq<|.bk<|.sr<|.m Z Z<|.yv (.indexSl Fx.sl153 Z Z Z (by omega) (q:=oE+k * 3) Z) Z<|.yv (.loadMW Z Fx.agg162 mE lE) Z<|.al Fx.zero162 Z fun b8=>.a Z Z<|.sV .head Z Z Fx.size162 lE rE.one Z<|.ns<|.m Z Z<|.m Z Z<|.yv (.indexSl Fx.sl153 Z Z Z (by omega) (q:=oF+k * 3) Z) Z<|.yv (.loadMW Z Fx.agg162 mF lF) Z<|.al Fx.zero162 Z fun b9=>.sV .head Z Z Fx.size162 lF rF.one Z<|.ns<|.m Z Z<|.yv (.loadW Z Fx.agg162 (.tail _<|.head _) lE) Z<|.yv (.loadW Z Fx.agg162 (.head _) lF) Z<|.yv (.callV (fi:=[]) (ca:=[]) Z hgf Z (fun W s=>hq _ (List.getElem_mem hk) _ cE cF W rE rF s.agr)) Z<|.yv (.not Z) Z<|.nt<|.cd Z (fun h30=>?_) (fun h30=>?_)
  ·try simp only [dt] at h30
   have hne:¬ l=m:=fun e=>by subst e;rw [aA.2 rfl] at h30;cases h30
   refine .sr<|.a Z Z<|.nt<|.rt<|.bR<|.tR<|.tR<|.bR<|.tR<|?_
   refine Sx.ret1 (.inl rfl) rfl (.tmp rfl) fun W s=>⟨aY ?_,s.ext⟩
   first
    | (rw [aA];exact ⟨fun h=>(by cases h),fun h=>absurd h hne⟩)
    | (rw [aA];exact ⟨fun _=>heq,fun _=>rfl⟩)
  try simp only [df] at h30
  have heq:l[k]=m[k]:=aA.1 (by simpa using h30);exact .sk<|.bN<|.tN<|.rg<|.yv (.add Z Z (w6 (by omega))) Z<|.m Z Z<|.nt<|.ag (k+1) ⟨rfl,trivial⟩ ⟨rfl,rfl,rfl,rfl,trivial⟩ (fun _ s=>s.pick [] [] Z Z) ⟨by omega,eN hk hkm hal heq⟩ (by omega)
 try simp only [df] at h18
 have heq:l=m:=by
  have e:k=l.length:=by omega
  have e2:k=m.length:=by omega
  have h1:=hal;rw [e,List.take_length,hlen,List.take_length] at h1;exact h1
 refine .ex<|.tE<|.tE<|.bE<|.tN<|.sr<|.a Z Z<|.nt<|.rt<|?_
 refine Sx.ret1 (.inl rfl) rfl (.tmp rfl) fun W s=>⟨aY ?_,s.ext⟩
 first
  | (rw [aA];exact ⟨fun h=>(by cases h),fun h=>absurd h hne⟩)
  | (rw [aA];exact ⟨fun _=>heq,fun _=>rfl⟩)
set_option maxRecDepth 100000 in
theorem rZ (H:Hp) (a b:Hd):vY 82 (dHd .u8) H a b:=by
 intro ca cb w ha hb hA;obtain ⟨p1,c1,p2,c2,rfl,_,k1,k2⟩:=kY ha;obtain ⟨q1,d1,q2,d2,rfl,_,g1,g2⟩:=kY hb;refine Sx.enter (H:=H) Tryz.func82 rfl Tryz.ntmps82 rfl hA ?_;refine .sr<|.bx Z Z Z fun b2=>.bx Z Z Z fun b3=>.a Z Z<|.ns<|.yv (.fieldAddr Z Fx.field162_0) Z<|.yv (.load Z Fx.agg9 (.tail _<|.head _) Z) Z<|.yv (.fieldAddr Z Fx.field162_0) Z<|.yv (.load Z Fx.agg9 (.head _) Z) Z<|.yv (.eqS Z Z) Z<|.m Z Z<|.b2 (fun h10=>?_) (fun h10=>?_)
 ·try simp only [dt] at h10
  have e1:=(id h10:a.nm=b.nm);refine .gd Z Z<|.yv (.fieldAddr Z Fx.field162_1) Z<|.gd Z Z<|.yv (.load Z Fx.agg52 (.tail _<|.head _) Z) Z<|.gd Z Z<|.yv (.fieldAddr Z Fx.field162_1) Z<|.gd Z Z<|.yv (.load Z Fx.agg52 (.head _) Z) Z<|.gd Z Z<|.yv (.call Fx.call123 Z (fun W s=>VE H a.ps b.ps _ _ k1 g1 W s.agr)) Z<|.yv (.pickT Z Z) Z<|.m Z Z<|.b2 (fun h17=>?_) (fun h17=>?_)
  ·try simp only [dt] at h17
   have e2:=aA.1 h17;refine .gd Z Z<|.yv (.fieldAddr Z Fx.field162_2) Z<|.gd Z Z<|.yv (.load Z Fx.agg159 (.tail _<|.head _) Z) Z<|.gd Z Z<|.yv (.fieldAddr Z Fx.field162_2) Z<|.gd Z Z<|.yv (.load Z Fx.agg159 (.head _) Z) Z<|.gd Z Z<|.yv (.call Fx.call124 Z (fun W s=>zQ H 125 Fx.call125 a.body b.body (fun x _=>wH H x) _ _ k2 g2 W s.agr)) Z<|.yv (.pickT Z Z) Z<|.a Z Z<|.nt<|.rt<|?_
   refine Sx.ret1 (.inl rfl) rfl (.tmp rfl) fun W s=>⟨aY ?_,s.ext⟩
   first
    | (rw [aA,aA,qT];exact ⟨fun d=>⟨e1,e2,d⟩,fun h=>h.2.2⟩)
    | (rw [aA,qT];exact ⟨fun h=>(by cases h),fun h=>absurd h.1 e1⟩)
    | (rw [aA,qT];exact ⟨fun h=>(by cases h),fun h=>absurd h.2.1 e2⟩)
  try simp only [df] at h17
  have e2:=kF.1 h17;refine .gG<|.gG<|.gG<|.gG<|.gG<|.yv (.pickF Z Z) Z<|.a Z Z<|.nt<|.rt<|?_
  refine Sx.ret1 (.inl rfl) rfl (.tmp rfl) fun W s=>⟨aY ?_,s.ext⟩
  first
   | (rw [aA,aA,qT];exact ⟨fun d=>⟨e1,e2,d⟩,fun h=>h.2.2⟩)
   | (rw [aA,qT];exact ⟨fun h=>(by cases h),fun h=>absurd h.1 e1⟩)
   | (rw [aA,qT];exact ⟨fun h=>(by cases h),fun h=>absurd h.2.1 e2⟩)
 try simp only [df] at h10
 have e1:=(id h10:¬ a.nm=b.nm);refine .gG<|.gG<|.gG<|.gG<|.gG<|.yv (.pickF Z Z) Z<|.m Z Z<|.gG<|.gG<|.gG<|.gG<|.gG<|.yv (.pickF Z Z) Z<|.a Z Z<|.nt<|.rt<|?_
 refine Sx.ret1 (.inl rfl) rfl (.tmp rfl) fun W s=>⟨aY ?_,s.ext⟩
 first
  | (rw [aA,aA,qT];exact ⟨fun d=>⟨e1,e2,d⟩,fun h=>h.2.2⟩)
  | (rw [aA,qT];exact ⟨fun h=>(by cases h),fun h=>absurd h.1 e1⟩)
  | (rw [aA,qT];exact ⟨fun h=>(by cases h),fun h=>absurd h.2.1 e2⟩)
set_option maxRecDepth 100000 in
theorem QZ (H:Hp) (gf:FuncId) (hgf:aK Tryz.prog gf=true) (l m:List (List Hd)) (hq:∀ a∈l,∀ b,vY gf (dVs .u8) H a b) (v u:Value) (hs:Rep H (.seq 1 (l.map (dVs .u8))) [v]) (ht:Rep H (.seq 1 (m.map (dVs .u8))) [u]) (w:World) (hA:Agr H w) :
 Calls Tryz.prog 79 #[v,u,.func (.func gf) #[] #[]] w fun r w'=>r=.returned (.bool (eqP (l=m)))∧Ext w w':=by
 obtain ⟨p,c,e,_⟩:=hs.sl;simp only [List.cons.injEq,and_true,List.length_map] at e;subst e;obtain ⟨p2,c2,e,_⟩:=ht.sl;simp only [List.cons.injEq,and_true,List.length_map] at e;subst e;have hcap:=hs.cap;have hcap2:=ht.cap;refine Sx.enter (H:=H) Tryz.func79 rfl Tryz.ntmps79 rfl hA ?_;refine .sr<|.a Z Z<|.nt<|.sq<|.sr<|.m Z Z<|.yv (.lenSl Fx.sl108 Z) Z<|.m Z Z<|.yv (.lenSl Fx.sl108 Z) Z<|.yv (.neq Z Z) Z<|.nt<|.cd Z (fun h14=>?_) (fun h14=>?_)
 ·try simp only [dt] at h14
  have hne:¬ l=m:=fun e=>by rw [e] at h14;exact h14 rfl
  refine .sr<|.a Z Z<|.nt<|.rt<|.tR<|?_
  refine Sx.ret1 (.inl rfl) rfl (.tmp rfl) fun W s=>⟨aY ?_,s.ext⟩
  first
   | (rw [aA];exact ⟨fun h=>(by cases h),fun h=>absurd h hne⟩)
   | (rw [aA];exact ⟨fun _=>heq,fun _=>rfl⟩)
 try simp only [df] at h14
 have hlen:l.length=m.length:=by omega
 refine .sk<|.tN<|.sq<|.sr<|.m Z Z<|.yv (.lenSl Fx.sl108 Z) Z<|.m Z Z<|.nt<|.bk<|.lp (X:=Nat) [(1,_),(2,_),(15,_),(16,_)] ⟨rfl,rfl,rfl,rfl,trivial⟩ [] (fun k=>[(17,.int .i64 (k:Nat))]) (fun k=>H) (fun k=>[]) (fun k=>k≤l.length∧l.take k=m.take k) (fun k=>l.length - k) 0 (fun _ s=>s) ⟨rfl,trivial⟩ ⟨by omega,rfl⟩ fun k hC=>?_
 obtain ⟨hk0,hal⟩:=hC;refine .sr<|.yv (.lss Z Z) Z<|.nt<|.sq<|.cd Z (fun h18=>?_) (fun h18=>?_)
 ·try simp only [dt] at h18
  have hk:k<l.length:=by omega
  have hkm:k<m.length:=by omega
  obtain ⟨bE,oE,cE,hpE,rE,lE,mE⟩:=hs.elem (aS hk);cases hpE;obtain ⟨bF,oF,cF,hpF,rF,lF,mF⟩:=ht.elem (aS hkm);cases hpF;refine .sk<|.tN<|.sq<|.bk<|.sr<|.m Z Z<|.yv (.indexSl Fx.sl108 Z Z Z (by omega) (q:=oE+k * 1) Z) Z<|.yv (.loadMW Z Fx.agg155 mE lE) Z<|.al Fx.zero155 Z fun b8=>.a Z Z<|.sV .head Z Z Fx.size155 lE rE.one Z<|.ns<|.m Z Z<|.m Z Z<|.yv (.indexSl Fx.sl108 Z Z Z (by omega) (q:=oF+k * 1) Z) Z<|.yv (.loadMW Z Fx.agg155 mF lF) Z<|.al Fx.zero155 Z fun b9=>.sV .head Z Z Fx.size155 lF rF.one Z<|.ns<|.m Z Z<|.yv (.loadW Z Fx.agg155 (.tail _<|.head _) lE) Z<|.yv (.loadW Z Fx.agg155 (.head _) lF) Z<|.yv (.callV (fi:=[]) (ca:=[]) Z hgf Z (fun W s=>hq _ (List.getElem_mem hk) _ cE cF W rE rF s.agr)) Z<|.yv (.not Z) Z<|.nt<|.cd Z (fun h30=>?_) (fun h30=>?_)
  ·try simp only [dt] at h30
   have hne:¬ l=m:=fun e=>by subst e;rw [aA.2 rfl] at h30;cases h30
   refine .sr<|.a Z Z<|.nt<|.rt<|.bR<|.tR<|.tR<|.bR<|.tR<|?_
   refine Sx.ret1 (.inl rfl) rfl (.tmp rfl) fun W s=>⟨aY ?_,s.ext⟩
   first
    | (rw [aA];exact ⟨fun h=>(by cases h),fun h=>absurd h hne⟩)
    | (rw [aA];exact ⟨fun _=>heq,fun _=>rfl⟩)
  try simp only [df] at h30
  have heq:l[k]=m[k]:=aA.1 (by simpa using h30);exact .sk<|.bN<|.tN<|.rg<|.yv (.add Z Z (w6 (by omega))) Z<|.m Z Z<|.nt<|.ag (k+1) ⟨rfl,trivial⟩ ⟨rfl,rfl,rfl,rfl,trivial⟩ (fun _ s=>s.pick [] [] Z Z) ⟨by omega,eN hk hkm hal heq⟩ (by omega)
 try simp only [df] at h18
 have heq:l=m:=by
  have e:k=l.length:=by omega
  have e2:k=m.length:=by omega
  have h1:=hal;rw [e,List.take_length,hlen,List.take_length] at h1;exact h1
 refine .ex<|.tE<|.tE<|.bE<|.tN<|.sr<|.a Z Z<|.nt<|.rt<|?_
 refine Sx.ret1 (.inl rfl) rfl (.tmp rfl) fun W s=>⟨aY ?_,s.ext⟩
 first
  | (rw [aA];exact ⟨fun h=>(by cases h),fun h=>absurd h hne⟩)
  | (rw [aA];exact ⟨fun _=>heq,fun _=>rfl⟩)
set_option maxRecDepth 100000 in
theorem rY (H:Hp) (a b:List Hd):vY 80 (dVs .u8) H a b:=by
 intro ca cb w ha hb hA;obtain ⟨p1,c1,rfl,k1⟩:=nS ha;obtain ⟨q1,d1,rfl,g1⟩:=nS hb;refine Sx.enter (H:=H) Tryz.func80 rfl Tryz.ntmps80 rfl hA ?_;refine .sr<|.bx Z Z Z fun b2=>.bx Z Z Z fun b3=>.a Z Z<|.ns<|.yv (.fieldAddr Z Fx.field155_0) Z<|.yv (.load Z Fx.agg153 (.tail _<|.head _) Z) Z<|.yv (.fieldAddr Z Fx.field155_0) Z<|.yv (.load Z Fx.agg153 (.head _) Z) Z<|.yv (.call Fx.call81 Z (fun W s=>RA H 82 Fx.call82 a b (fun x _=>rZ H x) _ _ k1 g1 W s.agr)) Z<|.a Z Z<|.nt<|.rt<|?_
 exact Sx.ret1 (.inl rfl) rfl (.tmp rfl) fun W s=>⟨rfl,s.ext⟩
set_option maxRecDepth 100000 in
theorem qB (H:Hp) (a b:Cp):vY 42 (dCp .u8) H a b:=by
 intro ca cb w ha hb hA;obtain ⟨p1,c1,p2,c2,rfl,_,k1,k2⟩:=lA ha;obtain ⟨q1,d1,q2,d2,rfl,_,g1,g2⟩:=lA hb;refine Sx.enter (H:=H) Tryz.func42 rfl Tryz.ntmps42 rfl hA ?_;refine .sr<|.bx Z Z Z fun b2=>.bx Z Z Z fun b3=>.a Z Z<|.ns<|.yv (.fieldAddr Z Fx.field110_0) Z<|.yv (.load Z Fx.agg9 (.tail _<|.head _) Z) Z<|.yv (.fieldAddr Z Fx.field110_0) Z<|.yv (.load Z Fx.agg9 (.head _) Z) Z<|.yv (.eqS Z Z) Z<|.m Z Z<|.b2 (fun h10=>?_) (fun h10=>?_)
 ·try simp only [dt] at h10
  have e1:=(id h10:a.nm=b.nm);refine .gd Z Z<|.yv (.fieldAddr Z Fx.field110_1) Z<|.gd Z Z<|.yv (.load Z Fx.agg107 (.tail _<|.head _) Z) Z<|.gd Z Z<|.yv (.fieldAddr Z Fx.field110_1) Z<|.gd Z Z<|.yv (.load Z Fx.agg107 (.head _) Z) Z<|.gd Z Z<|.yv (.call Fx.call78 Z (fun W s=>VD H a.vars b.vars _ _ k1 g1 W s.agr)) Z<|.yv (.pickT Z Z) Z<|.m Z Z<|.b2 (fun h17=>?_) (fun h17=>?_)
  ·try simp only [dt] at h17
   have e2:=aA.1 h17;refine .gd Z Z<|.yv (.fieldAddr Z Fx.field110_2) Z<|.gd Z Z<|.yv (.load Z Fx.agg108 (.tail _<|.head _) Z) Z<|.gd Z Z<|.yv (.fieldAddr Z Fx.field110_2) Z<|.gd Z Z<|.yv (.load Z Fx.agg108 (.head _) Z) Z<|.gd Z Z<|.yv (.call Fx.call79 Z (fun W s=>QZ H 80 Fx.call80 a.vers b.vers (fun x _=>rY H x) _ _ k2 g2 W s.agr)) Z<|.yv (.pickT Z Z) Z<|.a Z Z<|.nt<|.rt<|?_
   refine Sx.ret1 (.inl rfl) rfl (.tmp rfl) fun W s=>⟨aY ?_,s.ext⟩
   first
    | (rw [aA,aA,rA];exact ⟨fun d=>⟨e1,e2,d⟩,fun h=>h.2.2⟩)
    | (rw [aA,rA];exact ⟨fun h=>(by cases h),fun h=>absurd h.1 e1⟩)
    | (rw [aA,rA];exact ⟨fun h=>(by cases h),fun h=>absurd h.2.1 e2⟩)
  try simp only [df] at h17
  have e2:=kF.1 h17;refine .gG<|.gG<|.gG<|.gG<|.gG<|.yv (.pickF Z Z) Z<|.a Z Z<|.nt<|.rt<|?_
  refine Sx.ret1 (.inl rfl) rfl (.tmp rfl) fun W s=>⟨aY ?_,s.ext⟩
  first
   | (rw [aA,aA,rA];exact ⟨fun d=>⟨e1,e2,d⟩,fun h=>h.2.2⟩)
   | (rw [aA,rA];exact ⟨fun h=>(by cases h),fun h=>absurd h.1 e1⟩)
   | (rw [aA,rA];exact ⟨fun h=>(by cases h),fun h=>absurd h.2.1 e2⟩)
 try simp only [df] at h10
 have e1:=(id h10:¬ a.nm=b.nm);refine .gG<|.gG<|.gG<|.gG<|.gG<|.yv (.pickF Z Z) Z<|.m Z Z<|.gG<|.gG<|.gG<|.gG<|.gG<|.yv (.pickF Z Z) Z<|.a Z Z<|.nt<|.rt<|?_
 refine Sx.ret1 (.inl rfl) rfl (.tmp rfl) fun W s=>⟨aY ?_,s.ext⟩
 first
  | (rw [aA,aA,rA];exact ⟨fun d=>⟨e1,e2,d⟩,fun h=>h.2.2⟩)
  | (rw [aA,rA];exact ⟨fun h=>(by cases h),fun h=>absurd h.1 e1⟩)
  | (rw [aA,rA];exact ⟨fun h=>(by cases h),fun h=>absurd h.2.1 e2⟩)
set_option maxRecDepth 100000 in
theorem RB (H:Hp) (gf:FuncId) (hgf:aK Tryz.prog gf=true) (l m:List Cp) (hq:∀ a∈l,∀ b,vY gf (dCp .u8) H a b) (v u:Value) (hs:Rep H (.seq 3 (l.map (dCp .u8))) [v]) (ht:Rep H (.seq 3 (m.map (dCp .u8))) [u]) (w:World) (hA:Agr H w) :
 Calls Tryz.prog 41 #[v,u,.func (.func gf) #[] #[]] w fun r w'=>r=.returned (.bool (eqP (l=m)))∧Ext w w':=by
 obtain ⟨p,c,e,_⟩:=hs.sl;simp only [List.cons.injEq,and_true,List.length_map] at e;subst e;obtain ⟨p2,c2,e,_⟩:=ht.sl;simp only [List.cons.injEq,and_true,List.length_map] at e;subst e;have hcap:=hs.cap;have hcap2:=ht.cap;refine Sx.enter (H:=H) Tryz.func41 rfl Tryz.ntmps41 rfl hA ?_;refine .sr<|.a Z Z<|.nt<|.sq<|.sr<|.m Z Z<|.yv (.lenSl Fx.sl47 Z) Z<|.m Z Z<|.yv (.lenSl Fx.sl47 Z) Z<|.yv (.neq Z Z) Z<|.nt<|.cd Z (fun h14=>?_) (fun h14=>?_)
 ·try simp only [dt] at h14
  have hne:¬ l=m:=fun e=>by rw [e] at h14;exact h14 rfl
  refine .sr<|.a Z Z<|.nt<|.rt<|.tR<|?_
  refine Sx.ret1 (.inl rfl) rfl (.tmp rfl) fun W s=>⟨aY ?_,s.ext⟩
  first
   | (rw [aA];exact ⟨fun h=>(by cases h),fun h=>absurd h hne⟩)
   | (rw [aA];exact ⟨fun _=>heq,fun _=>rfl⟩)
 try simp only [df] at h14
 have hlen:l.length=m.length:=by omega
 refine .sk<|.tN<|.sq<|.sr<|.m Z Z<|.yv (.lenSl Fx.sl47 Z) Z<|.m Z Z<|.nt<|.bk<|.lp (X:=Nat) [(1,_),(2,_),(15,_),(16,_)] ⟨rfl,rfl,rfl,rfl,trivial⟩ [] (fun k=>[(17,.int .i64 (k:Nat))]) (fun k=>H) (fun k=>[]) (fun k=>k≤l.length∧l.take k=m.take k) (fun k=>l.length - k) 0 (fun _ s=>s) ⟨rfl,trivial⟩ ⟨by omega,rfl⟩ fun k hC=>?_
 obtain ⟨hk0,hal⟩:=hC;refine .sr<|.yv (.lss Z Z) Z<|.nt<|.sq<|.cd Z (fun h18=>?_) (fun h18=>?_)
 ·try simp only [dt] at h18
  have hk:k<l.length:=by omega
  have hkm:k<m.length:=by omega
  obtain ⟨bE,oE,cE,hpE,rE,lE,mE⟩:=hs.elem (aS hk);cases hpE;obtain ⟨bF,oF,cF,hpF,rF,lF,mF⟩:=ht.elem (aS hkm);cases hpF;refine .sk<|.tN<|.sq<|.bk<|.sr<|.m Z Z<|.yv (.indexSl Fx.sl47 Z Z Z (by omega) (q:=oE+k * 3) Z) Z<|.yv (.loadMW Z Fx.agg110 mE lE) Z<|.al Fx.zero110 Z fun b8=>.a Z Z<|.sV .head Z Z Fx.size110 lE rE.one Z<|.ns<|.m Z Z<|.m Z Z<|.yv (.indexSl Fx.sl47 Z Z Z (by omega) (q:=oF+k * 3) Z) Z<|.yv (.loadMW Z Fx.agg110 mF lF) Z<|.al Fx.zero110 Z fun b9=>.sV .head Z Z Fx.size110 lF rF.one Z<|.ns<|.m Z Z<|.yv (.loadW Z Fx.agg110 (.tail _<|.head _) lE) Z<|.yv (.loadW Z Fx.agg110 (.head _) lF) Z<|.yv (.callV (fi:=[]) (ca:=[]) Z hgf Z (fun W s=>hq _ (List.getElem_mem hk) _ cE cF W rE rF s.agr)) Z<|.yv (.not Z) Z<|.nt<|.cd Z (fun h30=>?_) (fun h30=>?_)
  ·try simp only [dt] at h30
   have hne:¬ l=m:=fun e=>by subst e;rw [aA.2 rfl] at h30;cases h30
   refine .sr<|.a Z Z<|.nt<|.rt<|.bR<|.tR<|.tR<|.bR<|.tR<|?_
   refine Sx.ret1 (.inl rfl) rfl (.tmp rfl) fun W s=>⟨aY ?_,s.ext⟩
   first
    | (rw [aA];exact ⟨fun h=>(by cases h),fun h=>absurd h hne⟩)
    | (rw [aA];exact ⟨fun _=>heq,fun _=>rfl⟩)
  try simp only [df] at h30
  have heq:l[k]=m[k]:=aA.1 (by simpa using h30);exact .sk<|.bN<|.tN<|.rg<|.yv (.add Z Z (w6 (by omega))) Z<|.m Z Z<|.nt<|.ag (k+1) ⟨rfl,trivial⟩ ⟨rfl,rfl,rfl,rfl,trivial⟩ (fun _ s=>s.pick [] [] Z Z) ⟨by omega,eN hk hkm hal heq⟩ (by omega)
 try simp only [df] at h18
 have heq:l=m:=by
  have e:k=l.length:=by omega
  have e2:k=m.length:=by omega
  have h1:=hal;rw [e,List.take_length,hlen,List.take_length] at h1;exact h1
 refine .ex<|.tE<|.tE<|.bE<|.tN<|.sr<|.a Z Z<|.nt<|.rt<|?_
 refine Sx.ret1 (.inl rfl) rfl (.tmp rfl) fun W s=>⟨aY ?_,s.ext⟩
 first
  | (rw [aA];exact ⟨fun h=>(by cases h),fun h=>absurd h hne⟩)
  | (rw [aA];exact ⟨fun _=>heq,fun _=>rfl⟩)
set_option maxRecDepth 100000 in
theorem JL (H:Hp) (a b:Ft):vY 20 (dFt .u8) H a b:=by
 intro ca cb w ha hb hA;obtain ⟨p1,c1,p2,c2,p3,c3,rfl,_,k1,k2,k3⟩:=jH ha;obtain ⟨q1,d1,q2,d2,q3,d3,rfl,_,g1,g2,g3⟩:=jH hb;refine Sx.enter (H:=H) Tryz.func20 rfl Tryz.ntmps20 rfl hA ?_;refine .sr<|.bx Z Z Z fun b2=>.bx Z Z Z fun b3=>.a Z Z<|.ns<|.yv (.fieldAddr Z Fx.field49_0) Z<|.yv (.load Z Fx.agg9 (.tail _<|.head _) Z) Z<|.yv (.fieldAddr Z Fx.field49_0) Z<|.yv (.load Z Fx.agg9 (.head _) Z) Z<|.yv (.eqS Z Z) Z<|.m Z Z<|.b2 (fun h10=>?_) (fun h10=>?_)
 ·try simp only [dt] at h10
  have e1:=(id h10:a.nm=b.nm);refine .gd Z Z<|.yv (.fieldAddr Z Fx.field49_1) Z<|.gd Z Z<|.yv (.load Z Fx.agg45 (.tail _<|.head _) Z) Z<|.gd Z Z<|.yv (.fieldAddr Z Fx.field49_1) Z<|.gd Z Z<|.yv (.load Z Fx.agg45 (.head _) Z) Z<|.gd Z Z<|.yv (.call Fx.call39 Z (fun W s=>VG H a.flags b.flags _ _ k1 g1 W s.agr)) Z<|.yv (.pickT Z Z) Z<|.m Z Z<|.b2 (fun h17=>?_) (fun h17=>?_)
  ·try simp only [dt] at h17
   have e2:=aA.1 h17;refine .gd Z Z<|.yv (.fieldAddr Z Fx.field49_2) Z<|.gd Z Z<|.yv (.load Z Fx.agg46 (.tail _<|.head _) Z) Z<|.gd Z Z<|.yv (.fieldAddr Z Fx.field49_2) Z<|.gd Z Z<|.yv (.load Z Fx.agg46 (.head _) Z) Z<|.gd Z Z<|.yv (.call Fx.call40 Z (fun W s=>VF H a.links b.links _ _ k2 g2 W s.agr)) Z<|.yv (.pickT Z Z) Z<|.m Z Z<|.b2 (fun h24=>?_) (fun h24=>?_)
   ·try simp only [dt] at h24
    have e3:=aA.1 h24;refine .gd Z Z<|.yv (.fieldAddr Z Fx.field49_3) Z<|.gd Z Z<|.yv (.load Z Fx.agg47 (.tail _<|.head _) Z) Z<|.gd Z Z<|.yv (.fieldAddr Z Fx.field49_3) Z<|.gd Z Z<|.yv (.load Z Fx.agg47 (.head _) Z) Z<|.gd Z Z<|.yv (.call Fx.call41 Z (fun W s=>RB H 42 Fx.call42 a.comps b.comps (fun x _=>qB H x) _ _ k3 g3 W s.agr)) Z<|.yv (.pickT Z Z) Z<|.a Z Z<|.nt<|.rt<|?_
    refine Sx.ret1 (.inl rfl) rfl (.tmp rfl) fun W s=>⟨aY ?_,s.ext⟩
    first
     | (rw [aA,aA,jU];exact ⟨fun d=>⟨e1,e2,e3,d⟩,fun h=>h.2.2.2⟩)
     | (rw [aA,jU];exact ⟨fun h=>(by cases h),fun h=>absurd h.1 e1⟩)
     | (rw [aA,jU];exact ⟨fun h=>(by cases h),fun h=>absurd h.2.1 e2⟩)
     | (rw [aA,jU];exact ⟨fun h=>(by cases h),fun h=>absurd h.2.2.1 e3⟩)
   try simp only [df] at h24
   have e3:=kF.1 h24;refine .gG<|.gG<|.gG<|.gG<|.gG<|.yv (.pickF Z Z) Z<|.a Z Z<|.nt<|.rt<|?_
   refine Sx.ret1 (.inl rfl) rfl (.tmp rfl) fun W s=>⟨aY ?_,s.ext⟩
   first
    | (rw [aA,aA,jU];exact ⟨fun d=>⟨e1,e2,e3,d⟩,fun h=>h.2.2.2⟩)
    | (rw [aA,jU];exact ⟨fun h=>(by cases h),fun h=>absurd h.1 e1⟩)
    | (rw [aA,jU];exact ⟨fun h=>(by cases h),fun h=>absurd h.2.1 e2⟩)
    | (rw [aA,jU];exact ⟨fun h=>(by cases h),fun h=>absurd h.2.2.1 e3⟩)
  try simp only [df] at h17
  have e2:=kF.1 h17;refine .gG<|.gG<|.gG<|.gG<|.gG<|.yv (.pickF Z Z) Z<|.m Z Z<|.gG<|.gG<|.gG<|.gG<|.gG<|.yv (.pickF Z Z) Z<|.a Z Z<|.nt<|.rt<|?_
  refine Sx.ret1 (.inl rfl) rfl (.tmp rfl) fun W s=>⟨aY ?_,s.ext⟩
  first
   | (rw [aA,aA,jU];exact ⟨fun d=>⟨e1,e2,e3,d⟩,fun h=>h.2.2.2⟩)
   | (rw [aA,jU];exact ⟨fun h=>(by cases h),fun h=>absurd h.1 e1⟩)
   | (rw [aA,jU];exact ⟨fun h=>(by cases h),fun h=>absurd h.2.1 e2⟩)
   | (rw [aA,jU];exact ⟨fun h=>(by cases h),fun h=>absurd h.2.2.1 e3⟩)
 try simp only [df] at h10
 have e1:=(id h10:¬ a.nm=b.nm);refine .gG<|.gG<|.gG<|.gG<|.gG<|.yv (.pickF Z Z) Z<|.m Z Z<|.gG<|.gG<|.gG<|.gG<|.gG<|.yv (.pickF Z Z) Z<|.m Z Z<|.gG<|.gG<|.gG<|.gG<|.gG<|.yv (.pickF Z Z) Z<|.a Z Z<|.nt<|.rt<|?_
 refine Sx.ret1 (.inl rfl) rfl (.tmp rfl) fun W s=>⟨aY ?_,s.ext⟩
 first
  | (rw [aA,aA,jU];exact ⟨fun d=>⟨e1,e2,e3,d⟩,fun h=>h.2.2.2⟩)
  | (rw [aA,jU];exact ⟨fun h=>(by cases h),fun h=>absurd h.1 e1⟩)
  | (rw [aA,jU];exact ⟨fun h=>(by cases h),fun h=>absurd h.2.1 e2⟩)
  | (rw [aA,jU];exact ⟨fun h=>(by cases h),fun h=>absurd h.2.2.1 e3⟩)
end Go.Proofs.YthhoebdlfjffkaaGreatDoor
namespace Go.Proofs.YthhoebdlfjffkaaGreatDoor
def IM (N:Nat):Sm→Bool
 | .mk _ _ _ ex _ _=>decide (ex.length≤N) && ex.all (Ex.all mO)
structure syL (N:Nat) (l:List Sm):Prop where
 cnt:Sm.counts l≤N
 dep:Sm.deeps l≤N
 all:Sm.alls (IM N) l=true
theorem TM {N:Nat}:∀ s,sT N s=true→IM N s=true
 | .mk kd nm hd ex th el,h=>by
  simp only [sT,IM,Bool.and_eq_true,decide_eq_true_eq,List.all_eq_true] at h ⊢;exact ⟨h.1,fun e he=>by have:=h.2 e he;simp only [okE,Bool.and_eq_true] at this;exact this.2⟩
theorem okL.sy {N:Nat} {l:List Sm} (h:okL N l):syL N l:=⟨h.cnt,h.dep,gD TM l h.all⟩
theorem syL.len {N:Nat} {l:List Sm} (h:syL N l):l.length≤N:=Nat.le_trans (iL l) h.cnt
theorem syL.left {N:Nat} {a b:List Sm} (h:syL N (a++b)):syL N a:=by
 obtain ⟨h1,h2,h3⟩:=h;rw [eG] at h1;rw [eU] at h2;rw [fM,Bool.and_eq_true] at h3;exact ⟨by omega,by omega,h3.1⟩
theorem syL.right {N:Nat} {a b:List Sm} (h:syL N (a++b)):syL N b:=by
 obtain ⟨h1,h2,h3⟩:=h;rw [eG] at h1;rw [eU] at h2;rw [fM,Bool.and_eq_true] at h3;exact ⟨by omega,by omega,h3.2⟩
theorem syL.at {N:Nat} {l:List Sm} (h:syL N l) {j:Nat} (hj:j<l.length):syL N [l[j]]:=by
 have h2:=h;rw [uC hj] at h2;exact h2.right.left
theorem PG {N:Nat} {kd:UInt8} {nm hd:Str} {ex:List Ex} {th el:List Sm} (h:syL N [.mk kd nm hd ex th el]):Sm.counts th+Sm.counts el+1≤N∧Sm.deeps th+1≤N∧Sm.deeps el+1≤N∧ex.length≤N∧ex.all (Ex.all mO)=true∧Sm.alls (IM N) th=true∧Sm.alls (IM N) el=true:=by
 obtain ⟨h1,h2,h3⟩:=h;simp only [Sm.counts,dM] at h1;simp only [Sm.deeps,iK] at h2;simp only [Sm.alls,eQ,IM,Bool.and_eq_true,decide_eq_true_eq] at h3;exact ⟨by omega,by omega,by omega,h3.1.1.1.1,h3.1.1.1.2,h3.1.1.2,h3.1.2⟩
structure WN (N:Nat) (h:Hd):Prop where
 ps:h.ps.length≤N
 body:syL N h.body
structure WM (N:Nat) (v:List Hd):Prop where
 len:v.length≤N
 all:∀ h∈v,WN N h
structure WO (N:Nat) (c:Cp):Prop where
 vars:c.vars.length≤N
 vers:c.vers.length≤N
 all:∀ v∈c.vers,WM N v
structure SX (N:Nat) (f:Ft):Prop where
 flags:f.flags.length≤N
 links:f.links.length≤N
 comps:f.comps.length≤N
 all:∀ c∈f.comps,WO N c
theorem BP.sy {N:Nat} {f:Ft} (h:BP N f):SX N f :=
 ⟨h.flags,h.links,h.comps,fun c hc=>⟨(h.all c hc).vars,(h.all c hc).vers,fun v hv=>⟨((h.all c hc).all v hv).len,fun x hx=>⟨(((h.all c hc).all v hv).all x hx).ps,(((h.all c hc).all v hv).all x hx).body.sy⟩⟩⟩⟩
end Go.Proofs.YthhoebdlfjffkaaGreatDoor
namespace Go.Proofs.YthhoebdlfjffkaaGreatDoor
open Go.RowKit Go.Par Go.Sx
set_option maxHeartbeats 2000000 in
set_option maxRecDepth 100000 in
theorem OD (N:Nat) (hN:N≤1000000):∀ (l:List Sm),syL N l→∀ (H:Hp) (v:Value) (w:World),Rep H (.seq 6 (l.map (dSm .i64))) [v]→Agr H w →
 Calls Tryz.prog 60 #[v] w fun r w'=>∃ (y:Value) (H':Hp),Rep H' (.seq 6 (l.map (dSm .u8))) [y]∧r=.returned y∧mV H w H' w':=by
 refine Sm.lists fun l ih=>?_;intro hok H v w hs hA;obtain ⟨p,c,e,_⟩:=hs.sl;simp only [List.cons.injEq,and_true,List.length_map] at e;subst e;have hcap:=hs.cap;have hll:=hok.len;refine Sx.enter (H:=H) Tryz.func60 rfl Tryz.ntmps60 rfl hA ?_;refine .sr<|.a Z Z<|.ns<|.a Z Z<|?_
 refine Sx.row0 208 6 ?_;refine .nt<|.sq<|.sr<|.m Z Z<|.yv (.lenSl Fx.sl156 Z) Z<|.m Z Z<|.nt<|.bk<|.lp (X:=Nat × Hp × Value × List Value) [(9,_),(10,_)] ⟨rfl,rfl,trivial⟩ [] (fun z=>[(3,z.2.2.1),(11,.int .i64 (z.1:Nat))]) (fun z=>z.2.1) (fun z=>[.row 208 6 z.2.2.1 z.1 z.2.2.2]) (fun z=>z.1≤l.length∧HUp w H z.2.1∧aN z.2.1 6 ((l.take z.1).map (dSm .u8)) z.2.2.2) (fun z=>l.length - z.1) (0,H,.slice none 0 0,[]) (fun _ s=>s) ⟨rfl,rfl,trivial⟩ ⟨by simp,.refl,aN.nil⟩ fun z hC=>?_
 obtain ⟨k,H1,r,xs⟩:=z;dsimp only at hC ⊢;obtain ⟨hk0,u1,hz⟩:=hC;refine .sr<|.yv (.lss Z Z) Z<|.nt<|.sq<|.cd Z (fun h12=>?_) (fun h12=>?_)
 ·try simp only [dt] at h12
  have hk:k<l.length:=by omega
  obtain ⟨bE,oE,cE,hpE,rE,lE,mE⟩:=(hs.up u1.up).elem (aS (f:=dSm .i64) hk);cases hpE;have hi:=ih _ (List.getElem_mem hk);have hka:=hok.at hk;generalize hx:l[k]=x at rE hi hka;obtain ⟨kd,nm,hd,ex,th,el⟩:=x;obtain ⟨p1,c1,p2,c2,p3,c3,rfl,hs1,hs2,hs3,hn1,hn2⟩:=gW rE;simp only [Sm.th,Sm.el] at hi;obtain ⟨k1,k2,k3,k4,k5,k6,k7⟩:=PG hka;have hit:=hi.1 ⟨by omega,by omega,k6⟩;have hie:=hi.2 ⟨by omega,by omega,k7⟩;have hcap1:=hs1.cap;refine .sk<|.tN<|.sq<|.bk<|.sr<|.yv (.indexSl Fx.sl156 Z Z Z (by omega) (q:=oE+k * 6) Z) Z<|.yv (.loadMW Z Fx.agg205 mE Z) Z<|.al Fx.zero205 Z fun b5=>.sW .head Z Z Fx.size205 (by simp [Value.oneCell',aD]) Z<|.nt<|.sq<|.ft (p:=.light _ _ (.light _ _ (.light _ _ (.light _ _ (.light _ _ (.light _ _ (.light _ _ (.light _ _ (.light _ _ (.light _ _ (.light _ _ (.alt _ _ _ (.alt _ _ _ (.light _ _ (.alt _ _ _ (.done) (.no))) (.alt _ _ _ (.alt _ _ _ (.light _ _ (.done)) (.no)) (.no))) (.alt _ _ _ (.alt _ _ _ (.alt _ _ _ (.light _ _ (.done)) (.no)) (.no)) (.no)))))))))))))) 15 (.light 0 (.light 1 (.light 2 (.light 3 (.light 4 (.light 5 (.light 6 (.light 7 (.light 8 (.light 10 (.light 11 (.alt 9 0 (.alt 12 0 (.light 13 (.alt 14 0 (.done) (.no))) (.alt 14 0 (.alt 12 0 (.light 13 (.done)) (.no)) (.no))) (.alt 14 0 (.alt 9 0 (.alt 12 0 (.light 13 (.done)) (.no)) (.no)) (.no)))))))))))))) (by kernel_rfl) (by kernel_rfl) Z<|.yv (.fieldAddr Z Fx.field205_0) Z<|.yv (.load Z Fx.agg3 (.head _) Z) Z<|.yv (.conv Z Fx.int3 Fx.int206 (c:=(kd.toNat:Nat)) (by have:=kd.toNat_lt;simp only [IntKind.wrap,IntKind.signed,IntKind.bits];simp;omega)) Z<|.yv (.fieldAddr Z Fx.field205_1) Z<|.yv (.load Z Fx.agg9 (.head _) Z) Z<|.yv (.fieldAddr Z Fx.field205_2) Z<|.yv (.load Z Fx.agg9 (.head _) Z) Z<|.yv (.fieldAddr Z Fx.field205_4) Z<|.yv (.load Z Fx.agg156 (.head _) Z) Z<|.yv (.fieldAddr Z Fx.field205_5) Z<|.yv (.load Z Fx.agg156 (.head _) Z) Z<|.h ?_ (.h ?_ .nn)
  ·
   refine .ct (X:=Value) Fx.call60 Z (fun W s=>hit H1 _ W hs2 s.agr) Z fun y24 H24 hy24 u24=>?_;obtain ⟨q24,d24,e24,_⟩:=hy24.sl;simp only [List.cons.injEq,and_true,List.length_map] at e24;subst e24;refine .h ?_ (.h ?_ .nn)
   ·
    refine .ct (X:=Value) Fx.call60 Z (fun W s=>hie H24 _ W (hs3.up u24.up) s.agr) Z fun y27 H27 hy27 u27=>?_;obtain ⟨q27,d27,e27,_⟩:=hy27.sl;simp only [List.cons.injEq,and_true,List.length_map] at e27;subst e27;have u5:=u24.trans u27;have hs1b:=hs1.up u5.up;have hy24b:=hy24.up u27.up;refine .yv (.build Z (Fx.bld208_0_1_2_4_5 _ _ _ _ _ _ _ _ _)) Z<|.h1<|.al Fx.zero208 Z fun b6=>.fn (tl:=[_]) Z<|.sW .head Z Z Fx.size208 (by simp [Value.oneCell',aD]) Z<|.nt<|.sq<|.sr<|.yv (.fieldAddr Z Fx.field205_3) Z<|.yv (.load Z Fx.agg31 (.tail _<|.head _) Z) Z<|.yv (.lenSl Fx.sl31 Z) Z<|.m Z Z<|?_
    refine Sx.row0 27 4 ?_;refine .nt<|.bk<|.lp (X:=Nat × Hp × Value × List Value) [(3,_),(6,_),(9,_),(10,_),(11,_),(30,_),(31,_)] ⟨rfl,rfl,rfl,rfl,rfl,rfl,rfl,trivial⟩ [_,_] (fun z=>[(32,.int .i64 (z.1:Nat))]) (fun z=>z.2.1) (fun z=>[.row 27 4 z.2.2.1 z.1 z.2.2.2,.box b6 [.int .u8 kd.toNat,aD nm,aD hd,z.2.2.1,.slice q24 th.length d24,.slice q27 el.length d27] 208]) (fun z=>z.1≤ex.length∧HUp w H27 z.2.1∧aN z.2.1 4 ((ex.take z.1).map (dEx .u8)) z.2.2.2) (fun z=>ex.length - z.1) (0,H27,.slice none 0 0,[]) (fun _ s=>s) ⟨rfl,trivial⟩ ⟨by simp,.refl,aN.nil⟩ fun z hC=>?_
    obtain ⟨j,H3,re,ys⟩:=z;dsimp only at hC ⊢;obtain ⟨hj0,u3,hze⟩:=hC;refine .sr<|.yv (.lss Z Z) Z<|.nt<|.sq<|.cd Z (fun h33=>?_) (fun h33=>?_)
    ·try simp only [dt] at h33
     have hj:j<ex.length:=by omega
     obtain ⟨bF,oF,cF,hpF,rF,lF,mF⟩:=(hs1b.up u3.up).elem (aS (f:=dEx .i64) hj);cases hpF;have hnj:Ex.all mO ex[j]=true:=List.all_eq_true.1 k5 _ (List.getElem_mem hj);refine .sk<|.tN<|.sq<|.bk<|.sr<|.yv (.indexSl Fx.sl31 Z Z Z (by omega) (q:=oF+j * 4) Z) Z<|.yv (.loadMW Z Fx.agg33 mF lF) Z<|.al Fx.zero33 Z fun b8=>.sV .head Z Z Fx.size33 lF rF.one Z<|.nt<|.fl (trip:=[(_,_,_),(_,_,_),(_,_,_),(_,_,_),(_,_,_)]) 5 [(0,0),(1,0),(2,0),(3,1),(4,1)] (by kernel_rfl) (by kernel_rfl) Z<|.yv (.fieldAddr Z Fx.field208_3) Z<|.yv (.load Z Fx.agg25 (.tail _<|.tail _<|.head _) Z) Z<|.yv (.loadW Z Fx.agg33 (.head _) lF) Z<|.ct (X:=List Value) Fx.call14 Z (fun W s=>vN _ hnj H3 cF W rF s.agr) Z fun x39 H39 hx39 u39=>?_
     generalize hxj:ex[j]=xj at hx39;obtain ⟨op2,nm2,n2,iY⟩:=xj;obtain ⟨pz,cz,rfl,hz2,hnm2⟩:=bU hx39;exact .bl Z (Fx.bsl25_1 _ _ _ _) Z fun b40=>.fn (tl:=[_,_,_]) Z<|.ap (news:=[.int .u8 op2.toNat,aD nm2,.int .i64 n2.toInt,.slice pz iY.length cz]) Fx.row25 Z (fun _=>(.tail<|.tail<|.head)) Z (.box (.head _) z0) Z (by simp [Value.oneCell',aD]) (by simp [maxLen];omega) (by omega) Z fun r41 _=>.ra (.tail _<|.tail _<|.head _) fun p41 c41 e41=>.yv (.fieldAddr Z Fx.field208_3) Z<|.st (.tail<|.tail<|.tail<|.head) Z Z Fx.size25 (by rw [e41];rfl) (nb Z) Z<|.nl<|.bN<|.tN<|.rg<|.yv (.add Z Z (w6 (by omega))) Z<|.m Z Z<|.nt<|.ag (x:=(j,H3,re,ys)) (j+1,H39,r41,ys++[.int .u8 op2.toNat,aD nm2,.int .i64 n2.toInt,.slice pz iY.length cz]) ⟨rfl,trivial⟩ ⟨rfl,rfl,rfl,rfl,rfl,rfl,rfl,trivial⟩ (fun _ s=>(s.pick [2,3,4,5] _ Z Z)) ⟨by dsimp only;omega,u3.trans u39,by dsimp only;rw [bJ hj,hxj,List.map_append];exact (hze.up u39.up).snoc hx39 Z⟩ (by dsimp only;omega)
    try simp only [df] at h33
    obtain rfl:j=ex.length:=by omega
    rw [List.take_length] at hze;refine Sx.freezeSeq (ds:=ex.map (dEx .u8)) (by simp) hze fun H3 pX cX u6 eX hX=>?_;subst eX;have uX:=u5.trans (u3.trans u6);have hy24X:=hy24b.up (u3.trans u6).up;have hy27X:=hy27.up (u3.trans u6).up;exact .ex<|.tE<|.tE<|.bE<|.tN<|.rg<|.m Z Z<|.yv (.loadW Z Fx.agg208 (.head _) Z) Z<|.bl Z (Fx.bsl159_1 _ _ _ _ _ _) Z fun b46=>.ap (news:=[.int .u8 kd.toNat,aD nm,aD hd,.slice pX ex.length cX,.slice q24 th.length d24,.slice q27 el.length d27]) Fx.row159 Z (fun _=>(.tail<|.tail<|.tail<|.head)) Z (.box (.head _) z0) Z (by simp [Value.oneCell',aD]) (by simp [maxLen];omega) (by omega) Z fun r47 _=>.a Z Z<|.nl<|.bN<|.tN<|.rg<|.yv (.add Z Z (w6 (by omega))) Z<|.m Z Z<|.nt<|.ag (x:=(k,H1,r,xs)) (k+1,H3,r47,xs++[.int .u8 kd.toNat,aD nm,aD hd,.slice pX ex.length cX,.slice q24 th.length d24,.slice q27 el.length d27]) ⟨rfl,rfl,trivial⟩ ⟨rfl,rfl,trivial⟩ (fun _ s=>(s.pick [3] _ Z Z)) ⟨by dsimp only;omega,u1.trans uX,by dsimp only;rw [bJ hk,hx,List.map_append];exact (hz.up uX.up).snoc (dB (by omega) (by omega) hX hy24X hy27X) Z⟩ (by dsimp only;omega)
   refine .al Fx.zero208 Z fun b6=>.h1<|.ct (X:=Value) Fx.call60 Z (fun W s=>hie H24 _ W (hs3.up u24.up) s.agr) Z fun y27 H27 hy27 u27=>?_
   obtain ⟨q27,d27,e27,_⟩:=hy27.sl;simp only [List.cons.injEq,and_true,List.length_map] at e27;subst e27;have u5:=u24.trans u27;have hs1b:=hs1.up u5.up;have hy24b:=hy24.up u27.up;refine .yv (.build Z (Fx.bld208_0_1_2_4_5 _ _ _ _ _ _ _ _ _)) Z<|.fn (tl:=[_]) Z<|.sW .head Z Z Fx.size208 (by simp [Value.oneCell',aD]) Z<|.nt<|.sq<|.sr<|.yv (.fieldAddr Z Fx.field205_3) Z<|.yv (.load Z Fx.agg31 (.tail _<|.head _) Z) Z<|.yv (.lenSl Fx.sl31 Z) Z<|.m Z Z<|?_
   refine Sx.row0 27 4 ?_;refine .nt<|.bk<|.lp (X:=Nat × Hp × Value × List Value) [(3,_),(6,_),(9,_),(10,_),(11,_),(30,_),(31,_)] ⟨rfl,rfl,rfl,rfl,rfl,rfl,rfl,trivial⟩ [_,_] (fun z=>[(32,.int .i64 (z.1:Nat))]) (fun z=>z.2.1) (fun z=>[.row 27 4 z.2.2.1 z.1 z.2.2.2,.box b6 [.int .u8 kd.toNat,aD nm,aD hd,z.2.2.1,.slice q24 th.length d24,.slice q27 el.length d27] 208]) (fun z=>z.1≤ex.length∧HUp w H27 z.2.1∧aN z.2.1 4 ((ex.take z.1).map (dEx .u8)) z.2.2.2) (fun z=>ex.length - z.1) (0,H27,.slice none 0 0,[]) (fun _ s=>s) ⟨rfl,trivial⟩ ⟨by simp,.refl,aN.nil⟩ fun z hC=>?_
   obtain ⟨j,H3,re,ys⟩:=z;dsimp only at hC ⊢;obtain ⟨hj0,u3,hze⟩:=hC;refine .sr<|.yv (.lss Z Z) Z<|.nt<|.sq<|.cd Z (fun h33=>?_) (fun h33=>?_)
   ·try simp only [dt] at h33
    have hj:j<ex.length:=by omega
    obtain ⟨bF,oF,cF,hpF,rF,lF,mF⟩:=(hs1b.up u3.up).elem (aS (f:=dEx .i64) hj);cases hpF;have hnj:Ex.all mO ex[j]=true:=List.all_eq_true.1 k5 _ (List.getElem_mem hj);refine .sk<|.tN<|.sq<|.bk<|.sr<|.yv (.indexSl Fx.sl31 Z Z Z (by omega) (q:=oF+j * 4) Z) Z<|.yv (.loadMW Z Fx.agg33 mF lF) Z<|.al Fx.zero33 Z fun b8=>.sV .head Z Z Fx.size33 lF rF.one Z<|.nt<|.fl (trip:=[(_,_,_),(_,_,_),(_,_,_),(_,_,_),(_,_,_)]) 5 [(0,0),(1,0),(2,0),(3,1),(4,1)] (by kernel_rfl) (by kernel_rfl) Z<|.yv (.fieldAddr Z Fx.field208_3) Z<|.yv (.load Z Fx.agg25 (.tail _<|.tail _<|.head _) Z) Z<|.yv (.loadW Z Fx.agg33 (.head _) lF) Z<|.ct (X:=List Value) Fx.call14 Z (fun W s=>vN _ hnj H3 cF W rF s.agr) Z fun x39 H39 hx39 u39=>?_
    generalize hxj:ex[j]=xj at hx39;obtain ⟨op2,nm2,n2,iY⟩:=xj;obtain ⟨pz,cz,rfl,hz2,hnm2⟩:=bU hx39;exact .bl Z (Fx.bsl25_1 _ _ _ _) Z fun b40=>.fn (tl:=[_,_,_]) Z<|.ap (news:=[.int .u8 op2.toNat,aD nm2,.int .i64 n2.toInt,.slice pz iY.length cz]) Fx.row25 Z (fun _=>(.tail<|.tail<|.head)) Z (.box (.head _) z0) Z (by simp [Value.oneCell',aD]) (by simp [maxLen];omega) (by omega) Z fun r41 _=>.ra (.tail _<|.tail _<|.head _) fun p41 c41 e41=>.yv (.fieldAddr Z Fx.field208_3) Z<|.st (.tail<|.tail<|.tail<|.head) Z Z Fx.size25 (by rw [e41];rfl) (nb Z) Z<|.nl<|.bN<|.tN<|.rg<|.yv (.add Z Z (w6 (by omega))) Z<|.m Z Z<|.nt<|.ag (x:=(j,H3,re,ys)) (j+1,H39,r41,ys++[.int .u8 op2.toNat,aD nm2,.int .i64 n2.toInt,.slice pz iY.length cz]) ⟨rfl,trivial⟩ ⟨rfl,rfl,rfl,rfl,rfl,rfl,rfl,trivial⟩ (fun _ s=>(s.pick [2,3,4,5] _ Z Z)) ⟨by dsimp only;omega,u3.trans u39,by dsimp only;rw [bJ hj,hxj,List.map_append];exact (hze.up u39.up).snoc hx39 Z⟩ (by dsimp only;omega)
   try simp only [df] at h33
   obtain rfl:j=ex.length:=by omega
   rw [List.take_length] at hze;refine Sx.freezeSeq (ds:=ex.map (dEx .u8)) (by simp) hze fun H3 pX cX u6 eX hX=>?_;subst eX;have uX:=u5.trans (u3.trans u6);have hy24X:=hy24b.up (u3.trans u6).up;have hy27X:=hy27.up (u3.trans u6).up;exact .ex<|.tE<|.tE<|.bE<|.tN<|.rg<|.m Z Z<|.yv (.loadW Z Fx.agg208 (.head _) Z) Z<|.bl Z (Fx.bsl159_1 _ _ _ _ _ _) Z fun b46=>.ap (news:=[.int .u8 kd.toNat,aD nm,aD hd,.slice pX ex.length cX,.slice q24 th.length d24,.slice q27 el.length d27]) Fx.row159 Z (fun _=>(.tail<|.tail<|.tail<|.head)) Z (.box (.head _) z0) Z (by simp [Value.oneCell',aD]) (by simp [maxLen];omega) (by omega) Z fun r47 _=>.a Z Z<|.nl<|.bN<|.tN<|.rg<|.yv (.add Z Z (w6 (by omega))) Z<|.m Z Z<|.nt<|.ag (x:=(k,H1,r,xs)) (k+1,H3,r47,xs++[.int .u8 kd.toNat,aD nm,aD hd,.slice pX ex.length cX,.slice q24 th.length d24,.slice q27 el.length d27]) ⟨rfl,rfl,trivial⟩ ⟨rfl,rfl,trivial⟩ (fun _ s=>(s.pick [3] _ Z Z)) ⟨by dsimp only;omega,u1.trans uX,by dsimp only;rw [bJ hk,hx,List.map_append];exact (hz.up uX.up).snoc (dB (by omega) (by omega) hX hy24X hy27X) Z⟩ (by dsimp only;omega)
  refine .al Fx.zero208 Z fun b6=>.h1<|.ct (X:=Value) Fx.call60 Z (fun W s=>hit H1 _ W hs2 s.agr) Z fun y24 H24 hy24 u24=>?_
  obtain ⟨q24,d24,e24,_⟩:=hy24.sl;simp only [List.cons.injEq,and_true,List.length_map] at e24;subst e24;refine .h1<|.ct (X:=Value) Fx.call60 Z (fun W s=>hie H24 _ W (hs3.up u24.up) s.agr) Z fun y27 H27 hy27 u27=>?_
  obtain ⟨q27,d27,e27,_⟩:=hy27.sl;simp only [List.cons.injEq,and_true,List.length_map] at e27;subst e27;have u5:=u24.trans u27;have hs1b:=hs1.up u5.up;have hy24b:=hy24.up u27.up;refine .yv (.build Z (Fx.bld208_0_1_2_4_5 _ _ _ _ _ _ _ _ _)) Z<|.fn (tl:=[_]) Z<|.sW .head Z Z Fx.size208 (by simp [Value.oneCell',aD]) Z<|.nt<|.sq<|.sr<|.yv (.fieldAddr Z Fx.field205_3) Z<|.yv (.load Z Fx.agg31 (.tail _<|.head _) Z) Z<|.yv (.lenSl Fx.sl31 Z) Z<|.m Z Z<|?_
  refine Sx.row0 27 4 ?_;refine .nt<|.bk<|.lp (X:=Nat × Hp × Value × List Value) [(3,_),(6,_),(9,_),(10,_),(11,_),(30,_),(31,_)] ⟨rfl,rfl,rfl,rfl,rfl,rfl,rfl,trivial⟩ [_,_] (fun z=>[(32,.int .i64 (z.1:Nat))]) (fun z=>z.2.1) (fun z=>[.row 27 4 z.2.2.1 z.1 z.2.2.2,.box b6 [.int .u8 kd.toNat,aD nm,aD hd,z.2.2.1,.slice q24 th.length d24,.slice q27 el.length d27] 208]) (fun z=>z.1≤ex.length∧HUp w H27 z.2.1∧aN z.2.1 4 ((ex.take z.1).map (dEx .u8)) z.2.2.2) (fun z=>ex.length - z.1) (0,H27,.slice none 0 0,[]) (fun _ s=>s) ⟨rfl,trivial⟩ ⟨by simp,.refl,aN.nil⟩ fun z hC=>?_
  obtain ⟨j,H3,re,ys⟩:=z;dsimp only at hC ⊢;obtain ⟨hj0,u3,hze⟩:=hC;refine .sr<|.yv (.lss Z Z) Z<|.nt<|.sq<|.cd Z (fun h33=>?_) (fun h33=>?_)
  ·try simp only [dt] at h33
   have hj:j<ex.length:=by omega
   obtain ⟨bF,oF,cF,hpF,rF,lF,mF⟩:=(hs1b.up u3.up).elem (aS (f:=dEx .i64) hj);cases hpF;have hnj:Ex.all mO ex[j]=true:=List.all_eq_true.1 k5 _ (List.getElem_mem hj);refine .sk<|.tN<|.sq<|.bk<|.sr<|.yv (.indexSl Fx.sl31 Z Z Z (by omega) (q:=oF+j * 4) Z) Z<|.yv (.loadMW Z Fx.agg33 mF lF) Z<|.al Fx.zero33 Z fun b8=>.sV .head Z Z Fx.size33 lF rF.one Z<|.nt<|.fl (trip:=[(_,_,_),(_,_,_),(_,_,_),(_,_,_),(_,_,_)]) 5 [(0,0),(1,0),(2,0),(3,1),(4,1)] (by kernel_rfl) (by kernel_rfl) Z<|.yv (.fieldAddr Z Fx.field208_3) Z<|.yv (.load Z Fx.agg25 (.tail _<|.tail _<|.head _) Z) Z<|.yv (.loadW Z Fx.agg33 (.head _) lF) Z<|.ct (X:=List Value) Fx.call14 Z (fun W s=>vN _ hnj H3 cF W rF s.agr) Z fun x39 H39 hx39 u39=>?_
   generalize hxj:ex[j]=xj at hx39;obtain ⟨op2,nm2,n2,iY⟩:=xj;obtain ⟨pz,cz,rfl,hz2,hnm2⟩:=bU hx39;exact .bl Z (Fx.bsl25_1 _ _ _ _) Z fun b40=>.fn (tl:=[_,_,_]) Z<|.ap (news:=[.int .u8 op2.toNat,aD nm2,.int .i64 n2.toInt,.slice pz iY.length cz]) Fx.row25 Z (fun _=>(.tail<|.tail<|.head)) Z (.box (.head _) z0) Z (by simp [Value.oneCell',aD]) (by simp [maxLen];omega) (by omega) Z fun r41 _=>.ra (.tail _<|.tail _<|.head _) fun p41 c41 e41=>.yv (.fieldAddr Z Fx.field208_3) Z<|.st (.tail<|.tail<|.tail<|.head) Z Z Fx.size25 (by rw [e41];rfl) (nb Z) Z<|.nl<|.bN<|.tN<|.rg<|.yv (.add Z Z (w6 (by omega))) Z<|.m Z Z<|.nt<|.ag (x:=(j,H3,re,ys)) (j+1,H39,r41,ys++[.int .u8 op2.toNat,aD nm2,.int .i64 n2.toInt,.slice pz iY.length cz]) ⟨rfl,trivial⟩ ⟨rfl,rfl,rfl,rfl,rfl,rfl,rfl,trivial⟩ (fun _ s=>(s.pick [2,3,4,5] _ Z Z)) ⟨by dsimp only;omega,u3.trans u39,by dsimp only;rw [bJ hj,hxj,List.map_append];exact (hze.up u39.up).snoc hx39 Z⟩ (by dsimp only;omega)
  try simp only [df] at h33
  obtain rfl:j=ex.length:=by omega
  rw [List.take_length] at hze;refine Sx.freezeSeq (ds:=ex.map (dEx .u8)) (by simp) hze fun H3 pX cX u6 eX hX=>?_;subst eX;have uX:=u5.trans (u3.trans u6);have hy24X:=hy24b.up (u3.trans u6).up;have hy27X:=hy27.up (u3.trans u6).up;exact .ex<|.tE<|.tE<|.bE<|.tN<|.rg<|.m Z Z<|.yv (.loadW Z Fx.agg208 (.head _) Z) Z<|.bl Z (Fx.bsl159_1 _ _ _ _ _ _) Z fun b46=>.ap (news:=[.int .u8 kd.toNat,aD nm,aD hd,.slice pX ex.length cX,.slice q24 th.length d24,.slice q27 el.length d27]) Fx.row159 Z (fun _=>(.tail<|.tail<|.tail<|.head)) Z (.box (.head _) z0) Z (by simp [Value.oneCell',aD]) (by simp [maxLen];omega) (by omega) Z fun r47 _=>.a Z Z<|.nl<|.bN<|.tN<|.rg<|.yv (.add Z Z (w6 (by omega))) Z<|.m Z Z<|.nt<|.ag (x:=(k,H1,r,xs)) (k+1,H3,r47,xs++[.int .u8 kd.toNat,aD nm,aD hd,.slice pX ex.length cX,.slice q24 th.length d24,.slice q27 el.length d27]) ⟨rfl,rfl,trivial⟩ ⟨rfl,rfl,trivial⟩ (fun _ s=>(s.pick [3] _ Z Z)) ⟨by dsimp only;omega,u1.trans uX,by dsimp only;rw [bJ hk,hx,List.map_append];exact (hz.up uX.up).snoc (dB (by omega) (by omega) hX hy24X hy27X) Z⟩ (by dsimp only;omega)
 try simp only [df] at h12
 obtain rfl:k=l.length:=by omega
 rw [List.take_length] at hz;refine .ex<|.tE<|.tE<|.bE<|.tN<|.sr<|.m Z Z<|.a Z Z<|.nt<|.rt<|?_
 refine Sx.freezeSeq (ds:=l.map (dSm .u8)) (by simp) hz fun HZ pZ cZ uZ eZ hZ=>?_;exact Sx.ret1 (.inl rfl) rfl (.tmp rfl) fun W t=>⟨r,HZ,hZ,rfl,(u1.trans uZ).grow t⟩
set_option maxHeartbeats 2000000 in
set_option maxRecDepth 100000 in
theorem HM (N:Nat) (hN:N≤1000000) (H:Hp) (f:Ft) (hok:SX N f) (cs:List Value) (w:World) (h:Rep H (dFt .i64 f) cs) (hA:Agr H w) :
 Calls Tryz.prog 34 #[.agg cs.toArray] w fun r w'=>∃ (y:List Value) (H':Hp),Rep H' (dFt .u8 f) y∧r=.returned (.agg y.toArray)∧mV H w H' w':=by
 obtain ⟨p1,c1,p2,c2,p3,c3,rfl,nf,k1,k2,k3⟩:=jH h;have hcap1:=k1.cap;have hcap2:=k2.cap;have hcap3:=k3.cap;have hfl:=hok.flags;have hll:=hok.links;have hcl:=hok.comps;refine Sx.enter (H:=H) Tryz.func34 rfl Tryz.ntmps34 rfl hA ?_;refine .sr<|.bx Z Z Z fun b1=>.al Fx.zero49 Z fun b2=>.ns<|.yv (.fieldAddr Z Fx.field85_0) Z<|.yv (.load Z Fx.agg9 (.tail _<|.head _) Z) Z<|.yv (.build Z (Fx.bld49_0 _)) Z<|.al Fx.zero49 Z fun b3=>.sW .head Z Z Fx.size49 (by simp [Value.oneCell',aD]) Z<|.nt<|.sq<|.sr<|.yv (.fieldAddr Z Fx.field85_1) Z<|.yv (.load Z Fx.agg81 (.tail _<|.tail _<|.head _) Z) Z<|.yv (.lenSl Fx.sl81 Z) Z<|.m Z Z<|?_
 refine Sx.row0 102 2 ?_;refine .nt<|.bk<|.lp (X:=Nat × Value × List Value) [(1,_),(2,_),(3,_),(22,_),(23,_)] ⟨rfl,rfl,rfl,rfl,rfl,trivial⟩ [_,_] (fun z=>[(24,.int .i64 (z.1:Nat))]) (fun z=>H) (fun z=>[.row 102 2 z.2.1 z.1 z.2.2,.box b3 [aD f.nm,z.2.1,.slice none 0 0,.slice none 0 0] 49]) (fun z=>z.1≤f.flags.length∧aN H 2 ((f.flags.take z.1).map dFg) z.2.2) (fun z=>f.flags.length - z.1) (0,.slice none 0 0,[]) (fun _ s=>s) ⟨rfl,trivial⟩ ⟨by simp,aN.nil⟩ fun z hC=>?_
 obtain ⟨k,r,xs⟩:=z;dsimp only at hC ⊢;obtain ⟨hk0,hz⟩:=hC;refine .sr<|.yv (.lss Z Z) Z<|.nt<|.sq<|.cd Z (fun h25=>?_) (fun h25=>?_)
 ·try simp only [dt] at h25
  have hk:k<f.flags.length:=by omega
  obtain ⟨bE,oE,cE,hpE,rE,lE,mE⟩:=k1.elem (aS (f:=dFg) hk);cases hpE;generalize hx:f.flags[k]=x at rE;obtain ⟨rfl,nx⟩:=qY rE;exact .sk<|.tN<|.sq<|.bk<|.sr<|.yv (.indexSl Fx.sl81 Z Z Z (by omega) (q:=oE+k * 2) Z) Z<|.yv (.loadMW Z Fx.agg141 mE Z) Z<|.al Fx.zero141 Z fun b5=>.sW .head Z Z Fx.size141 (by simp [Value.oneCell',aD]) Z<|.nt<|.rg<|.yv (.fieldAddr Z Fx.field49_1) Z<|.yv (.load Z Fx.agg45 (.tail _<|.tail _<|.head _) Z) Z<|.yv (.fieldAddr Z Fx.field141_0) Z<|.yv (.load Z Fx.agg9 (.head _) Z) Z<|.yv (.fieldAddr Z Fx.field141_1) Z<|.yv (.load Z Fx.agg4 (.head _) Z) Z<|.yv (.build Z (Fx.bld102_0_1 _ _)) Z<|.bl Z (Fx.bsl45_1 _ _) Z fun b35=>.ap (news:=[aD x.nm,.bool x.init]) Fx.row45 Z (fun _=>(.tail<|.tail<|.head)) Z (.box (.head _) z0) Z (by simp [Value.oneCell',aD]) (by simp [maxLen];omega) (by omega) Z fun r36 _=>.ra (.tail _<|.tail _<|.head _) fun p36 c36 e36=>.yv (.fieldAddr Z Fx.field49_1) Z<|.st (.tail<|.tail<|.tail<|.head) Z Z Fx.size45 (by rw [e36];rfl) (nb Z) Z<|.nl<|.bN<|.tN<|.rg<|.yv (.add Z Z (w6 (by omega))) Z<|.m Z Z<|.nt<|.ag (x:=(k,r,xs)) (k+1,r36,xs++[aD x.nm,.bool x.init]) ⟨rfl,trivial⟩ ⟨rfl,rfl,rfl,rfl,rfl,trivial⟩ (fun _ s=>(s.pick [2,3,4,5] _ Z Z)) ⟨by dsimp only;omega,by dsimp only;rw [bJ hk,hx,List.map_append];exact hz.snoc (zO (x:=x) nx) Z⟩ (by dsimp only;omega)
 try simp only [df] at h25
 obtain rfl:k=f.flags.length:=by omega
 rw [List.take_length] at hz;refine Sx.freezeSeq (ds:=f.flags.map dFg) (by simp) hz fun H4 p4 c4 u4 e4 h4=>?_;subst e4;refine .ex<|.tE<|.tE<|.bE<|.tN<|.sq<|.sr<|.yv (.fieldAddr Z Fx.field85_2) Z<|.yv (.load Z Fx.agg82 (.tail _<|.tail _<|.head _) Z) Z<|.yv (.lenSl Fx.sl82 Z) Z<|.m Z Z<|?_
 refine Sx.row0 105 3 ?_;have k24:=k2.up u4.up;refine .nt<|.bk<|.lp (X:=Nat × Value × List Value) [(1,_),(2,_),(3,_),(40,_),(41,_)] ⟨rfl,rfl,rfl,rfl,rfl,trivial⟩ [_,_] (fun z=>[(42,.int .i64 (z.1:Nat))]) (fun z=>H4) (fun z=>[.row 105 3 z.2.1 z.1 z.2.2,.box b3 [aD f.nm,.slice p4 f.flags.length c4,z.2.1,.slice none 0 0] 49]) (fun z=>z.1≤f.links.length∧aN H4 3 ((f.links.take z.1).map dLk) z.2.2) (fun z=>f.links.length - z.1) (0,.slice none 0 0,[]) (fun _ s=>s) ⟨rfl,trivial⟩ ⟨by simp,aN.nil⟩ fun z hC=>?_
 obtain ⟨k,r,xs⟩:=z;dsimp only at hC ⊢;obtain ⟨hk0,hz⟩:=hC;refine .sr<|.yv (.lss Z Z) Z<|.nt<|.sq<|.cd Z (fun h43=>?_) (fun h43=>?_)
 ·try simp only [dt] at h43
  have hk:k<f.links.length:=by omega
  obtain ⟨bE,oE,cE,hpE,rE,lE,mE⟩:=k24.elem (aS (f:=dLk) hk);cases hpE;generalize hx:f.links[k]=x at rE;obtain ⟨rfl,nx,nx2⟩:=oO rE;exact .sk<|.tN<|.sq<|.bk<|.sr<|.yv (.indexSl Fx.sl82 Z Z Z (by omega) (q:=oE+k * 3) Z) Z<|.yv (.loadMW Z Fx.agg142 mE Z) Z<|.al Fx.zero142 Z fun b7=>.sW .head Z Z Fx.size142 (by simp [Value.oneCell',aD]) Z<|.nt<|.rg<|.yv (.fieldAddr Z Fx.field49_2) Z<|.yv (.load Z Fx.agg46 (.tail _<|.tail _<|.head _) Z) Z<|.yv (.fieldAddr Z Fx.field142_0) Z<|.yv (.load Z Fx.agg9 (.head _) Z) Z<|.yv (.fieldAddr Z Fx.field142_1) Z<|.yv (.load Z Fx.agg9 (.head _) Z) Z<|.yv (.fieldAddr Z Fx.field142_2) Z<|.yv (.load Z Fx.agg3 (.head _) Z) Z<|.yv (.build Z (Fx.bld105_0_1_2 _ _ _)) Z<|.bl Z (Fx.bsl46_1 _ _ _) Z fun b55=>.ap (news:=[aD x.fr,aD x.to,.int .i64 x.lat.toInt]) Fx.row46 Z (fun _=>(.tail<|.tail<|.head)) Z (.box (.head _) z0) Z (by simp [Value.oneCell',aD]) (by simp [maxLen];omega) (by omega) Z fun r56 _=>.ra (.tail _<|.tail _<|.head _) fun p56 c56 e56=>.yv (.fieldAddr Z Fx.field49_2) Z<|.st (.tail<|.tail<|.tail<|.head) Z Z Fx.size46 (by rw [e56];rfl) (nb Z) Z<|.nl<|.bN<|.tN<|.rg<|.yv (.add Z Z (w6 (by omega))) Z<|.m Z Z<|.nt<|.ag (x:=(k,r,xs)) (k+1,r56,xs++[aD x.fr,aD x.to,.int .i64 x.lat.toInt]) ⟨rfl,trivial⟩ ⟨rfl,rfl,rfl,rfl,rfl,trivial⟩ (fun _ s=>(s.pick [2,3,4,5] _ Z Z)) ⟨by dsimp only;omega,by dsimp only;rw [bJ hk,hx,List.map_append];exact hz.snoc (zA (x:=x) nx nx2) Z⟩ (by dsimp only;omega)
 try simp only [df] at h43
 obtain rfl:k=f.links.length:=by omega
 rw [List.take_length] at hz;refine Sx.freezeSeq (ds:=f.links.map dLk) (by simp) hz fun H5 p5 c5 u5 e5 h5=>?_;subst e5;refine .ex<|.tE<|.tE<|.bE<|.tN<|.sq<|.sr<|.yv (.fieldAddr Z Fx.field85_3) Z<|.yv (.load Z Fx.agg83 (.tail _<|.tail _<|.head _) Z) Z<|.yv (.lenSl Fx.sl83 Z) Z<|.m Z Z<|?_
 refine Sx.row0 110 3 ?_;have k35:=k3.up (u4.trans u5).up;have h45:=h4.up u5.up;refine .nt<|.bk<|.lp (X:=Nat × Hp × Value × List Value) [(2,_),(3,_),(60,_),(61,_)] ⟨rfl,rfl,rfl,rfl,trivial⟩ [_,_] (fun z=>[(62,.int .i64 (z.1:Nat))]) (fun z=>z.2.1) (fun z=>[.row 110 3 z.2.2.1 z.1 z.2.2.2,.box b3 [aD f.nm,.slice p4 f.flags.length c4,.slice p5 f.links.length c5,z.2.2.1] 49]) (fun z=>z.1≤f.comps.length∧HUp w H5 z.2.1∧aN z.2.1 3 ((f.comps.take z.1).map (dCp .u8)) z.2.2.2) (fun z=>f.comps.length - z.1) (0,H5,.slice none 0 0,[]) (fun _ s=>s) ⟨rfl,trivial⟩ ⟨by simp,.refl,aN.nil⟩ fun z hC=>?_
 obtain ⟨k,Ha,rc,xs⟩:=z;dsimp only at hC ⊢;obtain ⟨hk0,ua,hz⟩:=hC;refine .sr<|.yv (.lss Z Z) Z<|.nt<|.sq<|.cd Z (fun h63=>?_) (fun h63=>?_)
 ·try simp only [dt] at h63
  have hk:k<f.comps.length:=by omega
  obtain ⟨bE,oE,cE,hpE,rE,lE,mE⟩:=(k35.up ua.up).elem (aS (f:=dCp .i64) hk);cases hpE;have okc:=hok.all _ (List.getElem_mem hk);generalize hx:f.comps[k]=x at rE okc;obtain ⟨q1,d1,q2,d2,rfl,nx,g1,g2⟩:=lA rE;have hcv:=g1.cap;have hcr:=g2.cap;have hvl:=okc.vars;have hrl:=okc.vers;refine .sk<|.tN<|.sq<|.bk<|.sr<|.yv (.indexSl Fx.sl83 Z Z Z (by omega) (q:=oE+k * 3) Z) Z<|.yv (.loadMW Z Fx.agg146 mE Z) Z<|.al Fx.zero146 Z fun b9=>.sW .head Z Z Fx.size146 (by simp [Value.oneCell',aD]) Z<|.ns<|.yv (.fieldAddr Z Fx.field146_0) Z<|.yv (.load Z Fx.agg9 (.head _) Z) Z<|.yv (.build Z (Fx.bld110_0 _)) Z<|.al Fx.zero110 Z fun b10=>.sW .head Z Z Fx.size110 (by simp [Value.oneCell',aD]) Z<|.nt<|.sq<|.sr<|.yv (.fieldAddr Z Fx.field146_1) Z<|.yv (.load Z Fx.agg143 (.tail _<|.head _) Z) Z<|.yv (.lenSl Fx.sl143 Z) Z<|.m Z Z<|?_
  refine Sx.row0 151 3 ?_;refine .nt<|.bk<|.lp (X:=Nat × Value × List Value) [(2,_),(3,_),(9,_),(10,_),(60,_),(61,_),(62,_),(70,_),(71,_)] ⟨rfl,rfl,rfl,rfl,rfl,rfl,rfl,rfl,rfl,trivial⟩ [_,_,_,_,_] (fun z=>[(72,.int .i64 (z.1:Nat))]) (fun z=>Ha) (fun z=>[.row 151 3 z.2.1 z.1 z.2.2,.box b10 [aD x.nm,z.2.1,.slice none 0 0] 110]) (fun z=>z.1≤x.vars.length∧aN Ha 3 ((x.vars.take z.1).map (dVr .u8)) z.2.2) (fun z=>x.vars.length - z.1) (0,.slice none 0 0,[]) (fun _ s=>s) ⟨rfl,trivial⟩ ⟨by simp,aN.nil⟩ fun z hC=>?_
  obtain ⟨j,rv,ys⟩:=z;dsimp only at hC ⊢;obtain ⟨hj0,hzv⟩:=hC;refine .sr<|.yv (.lss Z Z) Z<|.nt<|.sq<|.cd Z (fun h73=>?_) (fun h73=>?_)
  ·try simp only [dt] at h73
   have hj:j<x.vars.length:=by omega
   obtain ⟨bF,oF,cF,hpF,rF,lF,mF⟩:=g1.elem (aS (f:=dVr .i64) hj);cases hpF;generalize hv:x.vars[j]=v at rF;obtain ⟨rfl,nv⟩:=mJ rF;exact .sk<|.tN<|.sq<|.bk<|.sr<|.yv (.indexSl Fx.sl143 Z Z Z (by omega) (q:=oF+j * 3) Z) Z<|.yv (.loadMW Z Fx.agg148 mF Z) Z<|.al Fx.zero148 Z fun b12=>.sW .head Z Z Fx.size148 (by simp [Value.oneCell',aD]) Z<|.nt<|.rg<|.yv (.fieldAddr Z Fx.field110_1) Z<|.yv (.load Z Fx.agg107 (.tail _<|.tail _<|.head _) Z) Z<|.yv (.fieldAddr Z Fx.field148_0) Z<|.yv (.load Z Fx.agg9 (.head _) Z) Z<|.yv (.fieldAddr Z Fx.field148_1) Z<|.yv (.load Z Fx.agg3 (.head _) Z) Z<|.yv (.conv Z Fx.int3 Fx.int149 (c:=(v.ty.toNat:Nat)) (by have:=v.ty.toNat_lt;simp only [IntKind.wrap,IntKind.signed,IntKind.bits];simp;omega)) Z<|.yv (.fieldAddr Z Fx.field148_2) Z<|.yv (.load Z Fx.agg2 (.head _) Z) Z<|.yv (.build Z (Fx.bld151_0_1_2 _ _ _)) Z<|.bl Z (Fx.bsl107_1 _ _ _) Z fun b86=>.ap (news:=[aD v.nm,.int .u8 v.ty.toNat,.int .i64 v.init.toInt]) Fx.row107 Z (fun _=>(.tail<|.tail<|.head)) Z (.box (.head _) z0) Z (by simp [Value.oneCell',aD]) (by simp [maxLen];omega) (by omega) Z fun r87 _=>.ra (.tail _<|.tail _<|.head _) fun p87 c87 e87=>.yv (.fieldAddr Z Fx.field110_1) Z<|.st (.tail<|.tail<|.tail<|.head) Z Z Fx.size107 (by rw [e87];rfl) (nb Z) Z<|.nl<|.bN<|.tN<|.rg<|.yv (.add Z Z (w6 (by omega))) Z<|.m Z Z<|.nt<|.ag (x:=(j,rv,ys)) (j+1,r87,ys++[aD v.nm,.int .u8 v.ty.toNat,.int .i64 v.init.toInt]) ⟨rfl,trivial⟩ ⟨rfl,rfl,rfl,rfl,rfl,rfl,rfl,rfl,rfl,trivial⟩ (fun _ s=>(s.pick [2,3,4,5,6,7,8] _ Z Z)) ⟨by dsimp only;omega,by dsimp only;rw [bJ hj,hv,List.map_append];exact hzv.snoc (qE (x:=v) nv) Z⟩ (by dsimp only;omega)
  try simp only [df] at h73
  obtain rfl:j=x.vars.length:=by omega
  rw [List.take_length] at hzv;refine Sx.freezeSeq (ds:=x.vars.map (dVr .u8)) (by simp) hzv fun HV pV cV uV eV hV=>?_;subst eV;refine .ex<|.tE<|.tE<|.bE<|.tN<|.sq<|.sr<|.yv (.fieldAddr Z Fx.field146_2) Z<|.yv (.load Z Fx.agg144 (.tail _<|.head _) Z) Z<|.yv (.lenSl Fx.sl144 Z) Z<|.m Z Z<|?_
  refine Sx.row0 155 1 ?_;refine .nt<|.bk<|.lp (X:=Nat × Hp × Value × List Value) [(2,_),(3,_),(10,_),(60,_),(61,_),(62,_),(91,_),(92,_)] ⟨rfl,rfl,rfl,rfl,rfl,rfl,rfl,rfl,trivial⟩ [_,_,_,_,_] (fun z=>[(93,.int .i64 (z.1:Nat))]) (fun z=>z.2.1) (fun z=>[.row 155 1 z.2.2.1 z.1 z.2.2.2,.box b10 [aD x.nm,.slice pV x.vars.length cV,z.2.2.1] 110]) (fun z=>z.1≤x.vers.length∧HUp w HV z.2.1∧aN z.2.1 1 ((x.vers.take z.1).map (dVs .u8)) z.2.2.2) (fun z=>x.vers.length - z.1) (0,HV,.slice none 0 0,[]) (fun _ s=>s) ⟨rfl,trivial⟩ ⟨by simp,.refl,aN.nil⟩ fun z hC=>?_
  obtain ⟨i,Hb,rs,ws⟩:=z;dsimp only at hC ⊢;obtain ⟨hi0,ub,hzs⟩:=hC;refine .sr<|.yv (.lss Z Z) Z<|.nt<|.sq<|.cd Z (fun h94=>?_) (fun h94=>?_)
  ·try simp only [dt] at h94
   have hi:i<x.vers.length:=by omega
   obtain ⟨bG,oG,cG,hpG,rG,lG,mG⟩:=(g2.up (uV.trans ub).up).elem (aS (f:=dVs .i64) hi);cases hpG;have okv:=okc.all _ (List.getElem_mem hi);generalize hxv:x.vers[i]=v at rG okv;obtain ⟨pv,cv,rfl,gv⟩:=nS rG;have hcw:=gv.cap;have hwl:=okv.len;refine .sk<|.tN<|.sq<|.bk<|.sr<|.yv (.indexSl Fx.sl144 Z Z (i:=i) Z hi (q:=oG+i * 1) Z) Z<|.yv (.loadM Z Fx.agg152 mG (k:=0) Z Z) Z<|.a Z Z<|.ns<|.al Fx.zero155 Z fun b15=>.nt<|.sq<|.sr<|.m Z Z<|.yv (.lenSl Fx.sl152 Z) Z<|.m Z Z<|?_
   refine Sx.row0 162 3 ?_;refine .nt<|.bk<|.lp (X:=Nat × Hp × Value × List Value) [(2,_),(3,_),(10,_),(15,_),(60,_),(61,_),(62,_),(91,_),(92,_),(93,_),(97,_),(98,_)] ⟨rfl,rfl,rfl,rfl,rfl,rfl,rfl,rfl,rfl,rfl,rfl,rfl,trivial⟩ [_,_,_,_,_,_,_] (fun z=>[(99,.int .i64 (z.1:Nat))]) (fun z=>z.2.1) (fun z=>[.row 162 3 z.2.2.1 z.1 z.2.2.2,.box b15 [z.2.2.1] 155]) (fun z=>z.1≤v.length∧HUp w Hb z.2.1∧aN z.2.1 3 ((v.take z.1).map (dHd .u8)) z.2.2.2) (fun z=>v.length - z.1) (0,Hb,.slice none 0 0,[]) (fun _ s=>s) ⟨rfl,trivial⟩ ⟨by simp,.refl,aN.nil⟩ fun z hC=>?_
   obtain ⟨j,Hc,rh,zs⟩:=z;dsimp only at hC ⊢;obtain ⟨hj0,uc,hzh⟩:=hC;refine .sr<|.yv (.lss Z Z) Z<|.nt<|.sq<|.cd Z (fun h100=>?_) (fun h100=>?_)
   ·try simp only [dt] at h100
    have hj:j<v.length:=by omega
    obtain ⟨bI,oI,cI,hpI,rI,lI,mI⟩:=(gv.up uc.up).elem (aS (f:=dHd .i64) hj);cases hpI;have okh:=okv.all _ (List.getElem_mem hj);generalize hxh:v[j]=y at rI okh;obtain ⟨t1,w1,t2,w2,rfl,ny,m1,m2⟩:=kY rI;have hyl:=okh.ps;refine .sk<|.tN<|.sq<|.bk<|.sr<|.yv (.indexSl Fx.sl152 Z Z Z (by omega) (q:=oI+j * 3) Z) Z<|.yv (.loadMW Z Fx.agg158 mI Z) Z<|.al Fx.zero158 Z fun b17=>.sW .head Z Z Fx.size158 (by simp [Value.oneCell',aD]) Z<|.nt<|?_
    refine Sx.row0 9 1 ?_;refine .fl (trip:=[(_,_,_),(_,_,_),(_,_,_),(_,_,_),(_,_,_),(_,_,_),(_,_,_),(_,_,_),(_,_,_),(_,_,_),(_,_,_),(_,_,_)]) 12 [(0,0),(1,0),(2,0),(3,0),(4,0),(5,0),(7,0),(8,0),(6,3),(9,1),(10,0),(11,1)] (by kernel_rfl) (by kernel_rfl) Z<|.yv (.fieldAddr Z Fx.field155_0) Z<|.yv (.load Z Fx.agg153 (.tail _<|.tail _<|.tail _<|.head _) Z) Z<|.yv (.fieldAddr Z Fx.field158_0) Z<|.yv (.load Z Fx.agg9 (.tail _<|.head _) Z) Z<|.yv (.fieldAddr Z Fx.field158_1) Z<|.yv (.load Z Fx.agg52 (.tail _<|.head _) Z) Z<|.yv (.fieldAddr Z Fx.field158_2) Z<|.yv (.load Z Fx.agg156 (.tail _<|.head _) Z) Z<|.apD0 Fx.row52 Z (fun _ _=>.head) Z m1 (by simp [maxLen];omega) (by omega) Z (fun _ _=>(.yv (.load Z Fx.agg156 (.tail _<|.head _) Z)<|.yv (.fieldAddr Z Fx.field158_2)<|.dn<|.dn<|.yv (.load Z Fx.agg9 (.tail _<|.head _) Z)<|.yv (.fieldAddr Z Fx.field158_0)<|.yv (.load Z Fx.agg153 (.tail _<|.tail _<|.tail _<|.head _) Z)<|.yv (.fieldAddr Z Fx.field155_0)<|.nl)) fun xs109 p109 c109 hz109=>.ct (X:=Value) Fx.call60 Z (fun W t=>OD N hN y.body okh.body Hc _ W m2 t.agr) Z fun y112 H112 hy112 u112=>?_
    obtain ⟨pB,cB,eB,_⟩:=hy112.sl;simp only [List.cons.injEq,and_true,List.length_map] at eB;subst eB;refine .yv (.build Z (Fx.bld162_0_1_2 _ _ _ _ _ _ _)) Z<|.bl Z (Fx.bsl153_1 _ _ _) Z fun b114=>.fn (tl:=[_,_,_]) Z<|.ap (news:=[aD y.nm,.slice p109 y.ps.length c109,.slice pB y.body.length cB]) Fx.row153 Z (fun _=>(.tail<|.tail<|.tail<|.head)) Z (.box (.head _) z0) Z (by simp [Value.oneCell',aD]) (by simp [maxLen];omega) (by omega) Z fun r115 _=>.ra (.tail _<|.tail _<|.tail _<|.head _) fun p115 c115 e115=>.yv (.fieldAddr Z Fx.field155_0) Z<|.st (.tail<|.tail<|.tail<|.tail<|.head) Z Z Fx.size153 (by rw [e115];rfl) (nb Z) Z<|?_
    refine At.pm [1,0,2,3,4,5,6,7,8,9,10,11] [_,_,_,_,_,_,_,_,_,_,_,_] rfl rfl ?_;refine Sx.freezeSeq (ds:=y.ps.map iV) (by simp) (aN.up u112.up hz109) fun HP pP cP uP eP hP=>?_;injection eP with eP1 _ eP2
    subst eP1;subst eP2;exact .nl<|.bN<|.tN<|.rg<|.yv (.add Z Z (w6 (by omega))) Z<|.m Z Z<|.nt<|.ag (x:=(j,Hc,rh,zs)) (j+1,HP,r115,zs++[aD y.nm,.slice p109 y.ps.length c109,.slice pB y.body.length cB]) ⟨rfl,trivial⟩ ⟨rfl,rfl,rfl,rfl,rfl,rfl,rfl,rfl,rfl,rfl,rfl,rfl,trivial⟩ (fun _ s=>(s.pick [2,3,4,5,6,7,8,9,10] _ Z Z)) ⟨by dsimp only;omega,uc.trans (u112.trans uP),by dsimp only;rw [bJ hj,hxh,List.map_append];exact (hzh.up (u112.trans uP).up).snoc (zG (x:=y) ny hP (hy112.up uP.up)) Z⟩ (by dsimp only;omega)
   try simp only [df] at h100
   obtain rfl:j=v.length:=by omega
   rw [List.take_length] at hzh;refine Sx.freezeSeq (ds:=v.map (dHd .u8)) (by simp) hzh fun HH pH cH uH eH hH=>?_;subst eH;have uh:=uc.trans uH;exact .ex<|.tE<|.tE<|.bE<|.tN<|.rg<|.yv (.fieldAddr Z Fx.field110_2) Z<|.yv (.load Z Fx.agg108 (.tail _<|.tail _<|.head _) Z) Z<|.yv (.loadW Z Fx.agg155 (.head _) Z) Z<|.bl Z (Fx.bsl108_1 _) Z fun b121=>.ap (news:=[.slice pH v.length cH]) Fx.row108 Z (fun _=>(.tail<|.tail<|.head)) Z (.box (.head _) z0) Z (by simp [Value.oneCell',aD]) (by simp [maxLen];omega) (by omega) Z fun r122 _=>.ra (.tail _<|.tail _<|.head _) fun p122 c122 e122=>.yv (.fieldAddr Z Fx.field110_2) Z<|.st (.tail<|.tail<|.tail<|.head) Z Z Fx.size108 (by rw [e122];rfl) (nb Z) Z<|.nl<|.bN<|.tN<|.rg<|.yv (.add Z Z (w6 (by omega))) Z<|.m Z Z<|.nt<|.ag (x:=(i,Hb,rs,ws)) (i+1,HH,r122,ws++[.slice pH v.length cH]) ⟨rfl,trivial⟩ ⟨rfl,rfl,rfl,rfl,rfl,rfl,rfl,rfl,trivial⟩ (fun _ s=>(s.pick [2,3,4,5,6,7,8] _ Z Z)) ⟨by dsimp only;omega,ub.trans uh,by dsimp only;rw [bJ hi,hxv,List.map_append];exact (hzs.up uh.up).snoc hH Z⟩ (by dsimp only;omega)
  try simp only [df] at h94
  obtain rfl:i=x.vers.length:=by omega
  rw [List.take_length] at hzs;refine Sx.freezeSeq (ds:=x.vers.map (dVs .u8)) (by simp) hzs fun HS pS cS uS eS hS=>?_;subst eS;have uX:=uV.trans (ub.trans uS);have hVX:=hV.up (ub.trans uS).up;exact .ex<|.tE<|.tE<|.bE<|.tN<|.rg<|.yv (.fieldAddr Z Fx.field49_3) Z<|.yv (.load Z Fx.agg47 (.tail _<|.tail _<|.tail _<|.head _) Z) Z<|.yv (.loadW Z Fx.agg110 (.head _) Z) Z<|.bl Z (Fx.bsl47_1 _ _ _) Z fun b128=>.ap (news:=[aD x.nm,.slice pV x.vars.length cV,.slice pS x.vers.length cS]) Fx.row47 Z (fun _=>(.tail<|.tail<|.tail<|.head)) Z (.box (.head _) z0) Z (by simp [Value.oneCell',aD]) (by simp [maxLen];omega) (by omega) Z fun r129 _=>.ra (.tail _<|.tail _<|.tail _<|.head _) fun p129 c129 e129=>.yv (.fieldAddr Z Fx.field49_3) Z<|.st (.tail<|.tail<|.tail<|.tail<|.head) Z Z Fx.size47 (by rw [e129];rfl) (nb Z) Z<|.nl<|.bN<|.tN<|.rg<|.yv (.add Z Z (w6 (by omega))) Z<|.m Z Z<|.nt<|.ag (x:=(k,Ha,rc,xs)) (k+1,HS,r129,xs++[aD x.nm,.slice pV x.vars.length cV,.slice pS x.vers.length cS]) ⟨rfl,trivial⟩ ⟨rfl,rfl,rfl,rfl,trivial⟩ (fun _ s=>(s.pick [3,4,5,6] _ Z Z)) ⟨by dsimp only;omega,ua.trans uX,by dsimp only;rw [bJ hk,hx,List.map_append];exact (hz.up uX.up).snoc (tP (x:=x) nx hVX hS) Z⟩ (by dsimp only;omega)
 try simp only [df] at h63
 obtain rfl:k=f.comps.length:=by omega
 rw [List.take_length] at hz;refine Sx.freezeSeq (ds:=f.comps.map (dCp .u8)) (by simp) hz fun HZ pZ cZ uZ eZ hZ=>?_;subst eZ;refine .ex<|.tE<|.tE<|.bE<|.tN<|.sr<|.yv (.loadW Z Fx.agg49 (.head _) Z) Z<|.sW (.tail<|.head) Z Z Fx.size49 (by simp [Value.oneCell',aD]) Z<|.nt<|.rt<|?_
 exact Sx.ret1 (.inl rfl) rfl (.cell rfl Fx.agg49 (.tail _<|.head _) rfl) fun W t=>⟨_,HZ,zJ (x:=f) nf (h45.up (ua.trans uZ).up) (h5.up (ua.trans uZ).up) hZ,rfl,(u4.trans (u5.trans (ua.trans uZ))).grow t⟩
theorem DF (N:Nat) (hN:N≤1000000) (H:Hp) (f:Ft) (hok:BP N f) (cs:List Value) (w:World) (h:Rep H (dFt .i64 f) cs) (hA:Agr H w) :
 Calls Tryz.prog 34 #[.agg cs.toArray] w fun r w'=>∃ (y:List Value) (H':Hp),Rep H' (dFt .u8 f) y∧r=.returned (.agg y.toArray)∧mV H w H' w':=HM N hN H f hok.sy cs w h hA
end Go.Proofs.YthhoebdlfjffkaaGreatDoor
namespace Go.Proofs.YthhoebdlfjffkaaGreatDoor
section
variable {α:Type} {N:Nat} {p:Pz α} {ok:α→Prop}
end
section
variable {N:Nat} {b:Pz (List Sm)}
end
end Go.Proofs.YthhoebdlfjffkaaGreatDoor
namespace Go.Proofs.YthhoebdlfjffkaaGreatDoor
open Go.RowKit Go.Par Go.Sx
theorem Fx.call20:aK Tryz.prog 20=Bool.true:=by kernel_rfl
theorem Fx.call34:aK Tryz.prog 34=Bool.true:=by kernel_rfl
theorem NO (H:Hp) (a:Ft) (ca cb:List Value) (w:World) (ha:Rep H (dFt .u8 a) ca) (hb:Rep H (dFt .u8 a) cb) (hA:Agr H w):Calls Tryz.prog 20 #[.agg ca.toArray,.agg cb.toArray] w fun r w'=>r=.returned (.bool true)∧Ext w w' :=
 (JL H a a ca cb w ha hb hA).mono fun e W' ⟨h1,h2⟩=>⟨by rw [h1,aA.2 rfl],h2⟩
end Go.Proofs.YthhoebdlfjffkaaGreatDoor
/- Plain: expressions in additional parentheses, and with all parentheses, are read back. -/
namespace Go.Proofs.YthhoebdlfjffkaaGreatDoor
end Go.Proofs.YthhoebdlfjffkaaGreatDoor
/- Plain: expressions with all parentheses are read back: the cases beside two operands. -/
namespace Go.Proofs.YthhoebdlfjffkaaGreatDoor
end Go.Proofs.YthhoebdlfjffkaaGreatDoor
/- Plain: an expression with all parentheses is read back. -/
namespace Go.Proofs.YthhoebdlfjffkaaGreatDoor
end Go.Proofs.YthhoebdlfjffkaaGreatDoor
/- Plain: the text of an expression with all parentheses has its tokens. -/
namespace Go.Proofs.YthhoebdlfjffkaaGreatDoor
end Go.Proofs.YthhoebdlfjffkaaGreatDoor
namespace Go.Proofs.YthhoebdlfjffkaaGreatDoor
theorem CQ {f:Ft} (h:cU f=0):gFt (iS (ftT f))=.ok f []:=by
 have:=Rdc.ft (C:=kC) h (iS (ftT f)) [] (HL h) trivial;rw [List.append_nil] at this;exact this
end Go.Proofs.YthhoebdlfjffkaaGreatDoor
/- Plain: a fleet's text that is cut off, or goes on. -/
namespace Go.Proofs.YthhoebdlfjffkaaGreatDoor
end Go.Proofs.YthhoebdlfjffkaaGreatDoor
namespace Go.Proofs.YthhoebdlfjffkaaGreatDoor
theorem BB {c:UInt8} {r:Str} {k:UInt8} {n:Nat} (h:aJ (c::r)=(k,n)) (h5:k≠5) :
 (iC c=true∧n=pre eE (c::r)∧(if words.contains ((c::r).take n) then (2:UInt8) else if n≤12 then 1 else 5)=k) ∨
 (iC c=false∧dW c=true∧n=pre dW (c::r)∧(n=1∨c≠48)∧k=3) ∨
 (iC c=false∧dW c=false∧k=4∧∃ y,symbols.find? (fun x=>x.isPrefixOf (c::r))=some y∧n=y.length):=by
 cases h1:iC c with
 | true =>
  refine .inl ⟨rfl,?_⟩;cases h4:words.contains ((c::r).take (pre eE (c::r))) with
  | true =>
   simp only [aJ,List.headD_cons,h1,h4,if_true,Prod.mk.injEq] at h;obtain ⟨rfl,rfl⟩:=h;exact ⟨rfl,by rw [h4];rfl⟩
  | false =>
   by_cases h6:pre eE (c::r)≤12
   ·simp only [aJ,List.headD_cons,h1,h4,h6,if_true,Bool.false_eq_true,if_false,Prod.mk.injEq] at h;obtain ⟨rfl,rfl⟩:=h;exact ⟨rfl,by rw [h4,if_neg (by decide),if_pos h6]⟩
   ·simp only [aJ,List.headD_cons,h1,h4,h6,if_true,Bool.false_eq_true,if_false,Prod.mk.injEq] at h;exact absurd h.1.symm h5
 | false =>
  cases h4:dW c with
  | true =>
   by_cases h6:pre dW (c::r)=1∨c≠48
   ·simp only [aJ,List.headD_cons,h1,h4,h6,if_true,Bool.false_eq_true,if_false,Prod.mk.injEq] at h;obtain ⟨rfl,rfl⟩:=h;exact .inr (.inl ⟨rfl,rfl,rfl,h6,rfl⟩)
   ·simp only [aJ,List.headD_cons,h1,h4,h6,if_true,Bool.false_eq_true,if_false,Prod.mk.injEq] at h;exact absurd h.1.symm h5
  | false =>
   cases hx:symbols.find? (fun x=>x.isPrefixOf (c::r)) with
   | none =>
    simp only [aJ,List.headD_cons,h1,h4,hx,Bool.false_eq_true,if_false,Prod.mk.injEq] at h;exact absurd h.1.symm h5
   | some y =>
    simp only [aJ,List.headD_cons,h1,h4,hx,Bool.false_eq_true,if_false,Prod.mk.injEq] at h;obtain ⟨rfl,rfl⟩:=h;exact .inr (.inr ⟨rfl,rfl,rfl,y,rfl,rfl⟩)
theorem qJ {q:UInt8→Bool} {w r:Str} (h:pre q (w++r)=w.length):w.all q=true∧∀ d,r.head? = some d→q d=false:=by
 induction w with
 | nil =>
  refine ⟨rfl,fun d hd=>?_⟩;cases r with
  | nil=>cases hd
  | cons e r =>
   obtain rfl:e=d:=Option.some.inj hd;cases hq:q e with
   | false=>rfl
   | true =>
    rw [List.nil_append] at h;unfold pre at h;rw [List.takeWhile_cons,hq] at h;simp at h
 | cons a w ih =>
  rw [List.cons_append] at h;unfold pre at h;rw [List.takeWhile_cons] at h;cases hq:q a with
  | false=>rw [hq] at h;simp at h
  | true =>
   rw [hq] at h;have:=ih (by unfold pre;simpa using h);exact ⟨by rw [List.all_cons,hq,this.1];rfl,this.2⟩
theorem CR {α:Type} {p q:α→Bool}:∀ {l:List α},(∀ x∈l,p x=q x)→l.find? p=l.find? q
 | [],_=>rfl
 | a::l,h=>by
  rw [List.find?_cons,List.find?_cons,h a (by simp),CR fun x hx=>h x (List.mem_cons_of_mem _ hx)]
theorem HN:∀ w∈symbols,w≠[]∧iC (w.headD 0)=false∧dW (w.headD 0)=false∧fC (w.headD 0)=false∧w.take 2≠[47,47]∧w.all (fun c=>!fC c)=true∧w.length≤2∧symbols.find? (fun x=>x.isPrefixOf w)=some w:=by decide +kernel
theorem DT {z a b:Str} (hz:z.length≤2) (h:a.take 2=b.take 2):z.isPrefixOf a=z.isPrefixOf b:=by
 have key:∀ (m:Str),z.isPrefixOf m=z.isPrefixOf (m.take 2):=by
  intro m
  match z,hz,m with
  | [],_,m=>simp [List.isPrefixOf]
  | [x],_,[]=>rfl
  | [x],_,[y]=>rfl
  | [x],_,y::u::m=>rfl
  | [x,x'],_,[]=>rfl
  | [x,x'],_,[y]=>rfl
  | [x,x'],_,y::u::m=>rfl
 rw [key a,key b,h]
theorem Tok.tail {x:Kt} {d:UInt8} {r r':Str} (h:Tok x (d::r)):Tok x (d::r'):=by
 obtain ⟨k,w⟩:=x;have hne:=h.ne
 match w,hne with
 | c::t,hne =>
  have hrd:aJ (c::(t++d::r))=(k,(c::t).length):=h.read;have htk:(c::(t++d::r)).take (c::t).length=c::t:=by rw [← List.cons_append,List.take_left]
  have h2t:((c::t)++d::r).take 2=((c::t)++d::r').take 2:=by
   cases t with
   | nil=>rfl
   | cons b t=>rfl
  have hsk:cN false ((c::t)++d::r')=(c::t)++d::r':=by
   have h0:cN false (c::(t++d::r))=c::(t++d::r):=h.skip;rw [cN] at h0
   have hb:fC c=false:=by
    cases e:fC c with
    | false=>rfl
    | true =>
     rw [if_pos e] at h0;have h1:=congrArg List.length h0;have h2:=fL false (t++d::r);rw [List.length_cons] at h1;omega
   rw [if_neg (by rw [hb];decide)] at h0;refine iZ hb fun e=>?_;have e2:(t++d::r').head? = (t++d::r).head? := by cases t <;> rfl
   have e1:c=47∧(t++d::r').head? = some 47:=e;rw [e2] at e1;rw [if_pos e1] at h0;have h1:=congrArg List.length h0;have h2:=fL true (t++d::r);rw [List.length_cons] at h1;omega
  refine ⟨h.ne,?_,hsk,h.k5,h.sh⟩;show aJ ((c::t)++d::r')=(k,(c::t).length);rcases BB hrd h.k5 with ⟨h1,h2,h3⟩ | ⟨h1,h2,h3,h4,h5⟩ | ⟨h1,h2,h3,y,h4,h5⟩
  ·have ha:=qJ (w:=c::t) (r:=d::r) h2.symm;have hp:pre eE ((c::t)++d::r')=(c::t).length:=oD ha.1 fun e he=>ha.2 e he;rw [htk] at h3;unfold aJ;simp only;rw [show ((c::t)++d::r').headD 0=c from rfl,h1,if_pos rfl,hp,List.take_left]
   split at h3
   ·rename_i e;rw [if_pos e,← h3]
   ·rename_i e;rw [if_neg e]
    split at h3
    ·rename_i e2;rw [if_pos e2,← h3]
    ·exact absurd h3.symm h.k5
  ·obtain rfl:k=3:=h5;have ha:=qJ (w:=c::t) (r:=d::r) h3.symm;have hp:pre dW ((c::t)++d::r')=(c::t).length:=oD ha.1 fun e he=>ha.2 e he;unfold aJ;simp only;rw [show ((c::t)++d::r').headD 0=c from rfl,h1,if_neg (by decide),h2,if_pos rfl,hp];exact if_pos h4
  ·obtain rfl:k=4:=h3
   have hf:symbols.find? (fun x=>x.isPrefixOf ((c::t)++d::r'))=some y:=by
    rw [← h4];exact CR fun x hx=>DT (HN x hx).2.2.2.2.2.2.1 h2t.symm
   unfold aJ;simp only;rw [show ((c::t)++d::r').headD 0=c from rfl,h1,h2,hf];simp [← h5]
theorem Lx.size {s:Str} {k:List Kt} (h:Lx s k):(k.map fun x=>x.2.length).sum≤s.length∧k.length≤(k.map fun x=>x.2.length).sum:=by
 induction h with
 | nil=>simp
 | blk _ _ ih=>simp only [List.length_cons];omega
 | @tok x s k ht _ ih =>
  have:=List.length_pos_iff.2 ht.ne;simp only [List.map_cons,List.sum_cons,List.length_cons,List.length_append];omega
theorem IC {t:Str} (ht:t.length≤20000):sg0 t=⟨iS t,0,0⟩:=by unfold sg0;rw [if_neg (by omega)]
theorem LE {f:Ft} {t:Str} (ht:t.length≤20000) (h:gFt (iS t)=.ok f []):sgZ gFt t=⟨[],0,0⟩∧∀ x,vl gFt (sg0 t) x→x=f:=by
 have h0:=IC ht;refine ⟨?_,fun x hx=>hx (by rw [h0]) f [] (by rw [h0];exact h)⟩;unfold sgZ up;rw [h0,if_pos rfl,h]
 rfl
theorem JI {f:Ft} (h:cU f=0) (ht:(ftT f).length≤20000):sgZ gFt (ftT f)=⟨[],0,0⟩∧∀ x,vl gFt (sg0 (ftT f)) x→x=f :=
 LE ht (CQ h)
theorem NC (f:Ft):(ftT f).getLast? = some 10:=by
 unfold ftT;rw [List.getLast?_append,show (cO 0 [[125]]).getLast? = some 10 from rfl]
 rfl
end Go.Proofs.YthhoebdlfjffkaaGreatDoor
namespace Go.Proofs.YthhoebdlfjffkaaGreatDoor
open Go.RowKit Go.Par Go.Sx
def mkC (M:Mk) (arV bv:Value) (left:Int):List Value:=[.int .i64 (M.ints:Nat),.int .i64 (M.tables:Nat),.int .i64 (M.flags:Nat),.int .i64 (M.own:Nat),arV,.int .i64 (M.params:Nat),bv,.int .i64 left]
set_option maxRecDepth 100000 in
theorem oP (H:Hp) (a b:Nat) (w:World) (hA:Agr H w):Calls Tryz.prog 64 #[.int .i64 (a:Nat),.int .i64 (b:Nat)] w fun r w'=>r=.returned (.int .i64 ((min a b:Nat):Int))∧Ext w w':=by
 refine Sx.enter (H:=H) Tryz.func64 rfl Tryz.ntmps64 rfl hA ?_;refine .sr<|.a Z Z<|.nt<|.sq<|.sr<|.m Z Z<|.m Z Z<|.yv (.lss Z Z) Z<|.nt<|.cd Z (fun h7=>?_) (fun h7=>?_)
 ·try simp only [dt] at h7
  refine .sr<|.m Z Z<|.a Z Z<|.nt<|.rt<|.tR<|?_
  refine Sx.ret1 (.inl rfl) rfl (.tmp rfl) fun W s=>⟨?_,s.ext⟩
  first
   | (rw [Nat.min_eq_left (by omega)])
   | (rw [Nat.min_eq_right (by omega)])
 try simp only [df] at h7
 refine .sk<|.tN<|.sr<|.m Z Z<|.a Z Z<|.nt<|.rt<|?_
 refine Sx.ret1 (.inl rfl) rfl (.tmp rfl) fun W s=>⟨?_,s.ext⟩
 first
  | (rw [Nat.min_eq_left (by omega)])
  | (rw [Nat.min_eq_right (by omega)])
set_option maxRecDepth 100000 in
theorem fB (H:Hp) (c:UInt8) (n:Nat) (hn:n≤100) (w:World) (hA:Agr H w):Calls Tryz.prog 65 #[.int .u8 c.toNat,.int .i64 (n:Nat)] w fun r w'=>∃ (v:Value) (H':Hp),Rep H' (.seq 1 ((jB c n).map iV)) [v]∧r=.returned v∧mV H w H' w':=by
 refine Sx.enter (H:=H) Tryz.func65 rfl Tryz.ntmps65 rfl hA ?_;refine .sr<|.a Z Z<|.ns<|.a Z Z<|?_
 refine Sx.row0 9 1 ?_;refine .nt<|.sq<|.sr<|.a Z Z<|.nt<|.bk<|.lp (X:=Nat × Value × List Value) [(0,_),(1,_)] ⟨rfl,rfl,trivial⟩ [] (fun z=>[(5,z.2.1),(6,.int .i64 (z.1:Nat))]) (fun z=>H) (fun z=>[.row 9 1 z.2.1 z.1 z.2.2]) (fun z=>z.1≤n∧aN H 1 ((jB c z.1).map iV) z.2.2) (fun z=>n - z.1) (0,.slice none 0 0,[]) (fun _ s=>s) ⟨rfl,rfl,trivial⟩ ⟨by omega,aN.nil⟩ fun z hC=>?_
 obtain ⟨k,r,xs⟩:=z;dsimp only at hC ⊢;obtain ⟨hk0,hz⟩:=hC;refine .sq<|.sr<|.m Z Z<|.m Z Z<|.yv (.lss Z Z) Z<|.nt<|.cd Z (fun h9=>?_) (fun h9=>?_)
 ·try simp only [dt] at h9
  have hk:k<n:=by omega
  exact .sk<|.tN<|.sq<|.bk<|.rg<|.m Z Z<|.m Z Z<|.m Z Z<|.yv (.add Z Z (c:=((48+k:Nat):Int)) ((w6 (by omega)).trans (by omega))) Z<|.yv (.conv Z Fx.int3 Fx.int5 (c:=(((UInt8.ofNat (48+k)).toNat:Nat):Int)) (by rw [show ((UInt8.ofNat (48+k)).toNat:Int)=((48+k:Nat):Int) by simp [UInt8.toNat_ofNat'];omega];simp only [IntKind.wrap,IntKind.signed,IntKind.bits];simp;omega)) Z<|.bl Z (Fx.bsl40_2 _ _) Z fun b17=>.yv (.bytesStr (l:=nmB c k) Fx.bytes40 Fx.str9 Z Z (.box (.head _) z0)) Z<|.bl Z (Fx.bsl52_1 _) Z fun b19=>.ap (news:=[aD (nmB c k)]) Fx.row52 Z (fun _=>(.tail<|.tail<|.head)) Z (.box (.head _) z0) Z (by simp [Value.oneCell',aD]) (by simp [maxLen];omega) (by omega) Z fun r20 _=>.a Z Z<|.nl<|.bN<|.tN<|.rg<|.m Z Z<|.yv (.add Z Z (w6 (by omega))) Z<|.a Z Z<|.nt<|.ag (x:=(k,r,xs)) (k+1,r20,xs++[aD (nmB c k)]) ⟨rfl,rfl,trivial⟩ ⟨rfl,rfl,trivial⟩ (fun _ s=>(s.pick [2] _ Z Z)) ⟨by dsimp only;omega,by dsimp only;rw [BS,List.map_append];exact hz.snoc (KW (by simp [nmB])) Z⟩ (by dsimp only;omega)
 try simp only [df] at h9
 obtain rfl:k=n:=by omega
 refine .ex<|.tE<|.tE<|.bE<|.tN<|.sr<|.m Z Z<|.a Z Z<|.nt<|.rt<|?_
 refine At.pm [0] [_] rfl rfl ?_;refine Sx.freezeSeq (ds:=(jB c k).map iV) (by simp [dK]) hz fun H3 p3 c3 u3 hr3 hs3=>?_;exact Sx.ret1 (.inl rfl) rfl (.tmp rfl) fun W t=>⟨r,H3,hs3,rfl,u3.grow t⟩
theorem EX {H:Hp} {c:UInt8} {cs:List Value} (h:Rep H (dU8 c) cs):cs=[.int .u8 c.toNat]:=by unfold dU8 Rep at h;exact h.1
set_option maxRecDepth 100000 in
theorem fV {H:Hp} {w0 W:World} {bs:List Res} {b:Nat} {M:Mk} {arV bv:Value} {left:Int} {by_:Bs} (n:Nat) (hn:0<n) (hb:Rep H (.seq 1 ((by_).map dU8)) [bv]) (s:St H w0 (.box b (mkC M arV bv left) 172::bs) W) :
 Calls Tryz.prog 143 #[.pointer (some ⟨b,0,none⟩),.int .i64 (n:Nat)] W fun e W'=>∃ z:Value,Rep H (.seq 1 (((aF by_ n).2).map dU8)) [z]∧e=.returned (.int .i64 ((aF by_ n).1:Nat))∧St H w0 (.box b (mkC M arV z left) 172::bs) W':=by
 obtain ⟨p,c,e,hlen,_⟩:=hb.sl;simp only [List.cons.injEq,and_true,List.length_map] at e;subst e;rw [List.length_map] at hlen;have hcap:=hb.cap;refine Sx.enterS Tryz.func143 rfl Tryz.ntmps143 rfl s ?_;refine .sr<|.a Z Z<|.nt<|.sq<|.sr<|.m Z Z<|.yv (.nilCheck Z) Z<|.yv (.fieldAddr Z Fx.field172_6) Z<|.yv (.load Z Fx.agg40 (.head _) Z) Z<|.yv (.lenSl Fx.sl40 Z) Z<|.yv (.eql Z Z) Z<|.nt<|.cd Z (fun h11=>?_) (fun h11=>?_)
 ·try simp only [dt] at h11
  have h0:by_=[]:=List.eq_nil_of_length_eq_zero (by omega);subst h0;refine .sr<|.a Z Z<|.nt<|.rt<|.tR<|?_
  exact Sx.ret1 (.inl rfl) rfl (.tmp rfl) fun W t=>⟨_,hb,rfl,t⟩
 try simp only [df] at h11
 obtain ⟨bE,oE,cE,hpE,rE,lE,mE⟩:=hb.elem (aS (f:=dU8) (show 0<by_.length by omega));subst hpE;obtain rfl:=EX rE
 obtain ⟨cB,rB,hby⟩:∃ cB rB,by_=cB::rB:=by
  match by_,hlen with
  | [],_=>simp at h11
  | cB::rB,_=>exact ⟨cB,rB,rfl⟩
 subst hby;simp only [List.getElem_cons_zero] at mE;refine .sk<|.tN<|.sr<|.m Z Z<|.yv (.nilCheck Z) Z<|.yv (.fieldAddr Z Fx.field172_6) Z<|.yv (.load Z Fx.agg40 (.head _) Z) Z<|.yv (.indexSl Fx.sl40 Z Z (i:=0) Z (by omega) (q:=oE+0 * 1) (by omega)) Z<|.yv (.loadM Z Fx.agg5 mE (k:=0) Z Z) Z<|.yv (.conv Z Fx.int5 Fx.int3 (c:=((cB.toNat:Nat):Int)) (w64 (by have:=cB.toNat_lt;omega) (by have:=cB.toNat_lt;omega))) Z<|.a Z Z<|.ns<|.m Z Z<|.m Z Z<|.yv (.nilCheck Z) Z<|.yv (.fieldAddr Z Fx.field172_6) Z<|.yv (.load Z Fx.agg40 (.head _) Z) Z<|.yv (.cutLo Fx.sl40 Z Z (lo:=1) Z (by omega) hb.len.2.1) Z<|.yv (.nilCheck Z) Z<|.yv (.fieldAddr Z Fx.field172_6) Z<|.st (l':=mkC M arV _ left) .head Z Z Fx.size40 Z (nb Z) Z<|.ns<|.m Z Z<|.m Z Z<|.yv (.rem Z Z (by omega) (c:=((cB.toNat % n:Nat):Int)) (by rw [Int.tmod_eq_emod_of_nonneg (by omega)];omega)) Z<|.a Z Z<|.nt<|.rt<|?_
 exact Sx.ret1 (.inl rfl) rfl (.tmp rfl) fun W t=>⟨_,LK hb (lo:=1) (by omega),rfl,t⟩
def okM (M:Mk):Prop:=0<M.ints∧M.ints≤3∧M.params≤2∧M.flags≤2
theorem iR {H:Hp} {c:UInt8} {n k cp:Nat} {p:Option Addr} (h:Rep H (.seq 1 ((jB c n).map iV)) [.slice p n cp]) (hk:k<n):∃ b o,p=some ⟨b,o,none⟩∧dP H b (o+k * 1) [aD (nmB c k)]:=by
 obtain ⟨b,o,cs,e,r,l,m⟩:=h.elem (i:=k) (d:=iV (nmB c k)) (by rw [List.getElem?_map,IV hk];rfl);obtain ⟨rfl,_⟩:=nD r;exact ⟨b,o,e,m⟩
set_option maxRecDepth 100000 in
theorem pU {H:Hp} {w0 W:World} {bs:List Res} {b:Nat} {M:Mk} {arV bv:Value} {left:Int} {by_:Bs} (hM:okM M) (hb:Rep H (.seq 1 ((by_).map dU8)) [bv]) (s:St H w0 (.box b (mkC M arV bv left) 172::bs) W) :
 Calls Tryz.prog 162 #[.pointer (some ⟨b,0,none⟩)] W fun e W'=>∃ z:Value × Hp,(HUp w0 H z.2∧Rep z.2 (.seq 1 (((aF by_ M.ints).2).map dU8)) [z.1])∧e=.returned (aD (nmB 120 (aF by_ M.ints).1))∧St z.2 w0 (.box b (mkC M arV z.1 left) 172::bs) W':=by
 refine Sx.enterS Tryz.func162 rfl Tryz.ntmps162 rfl s ?_;refine .sr<|.a Z Z<|.nt<|.sq<|.fl (trip:=[(_,_,_),(_,_,_),(_,_,_),(_,_,_),(_,_,_),(_,_,_),(_,_,_),(_,_,_),(_,_,_)]) 9 [(1,0),(2,0),(3,0),(4,0),(5,0),(0,1),(6,2),(7,0),(8,0)] (by kernel_rfl) (by kernel_rfl) Z<|.m Z Z<|.m Z Z<|.yv (.nilCheck Z) Z<|.yv (.fieldAddr Z Fx.field172_0) Z<|.yv (.load Z Fx.agg3 (.head _) Z) Z<|.ct (X:=Value) Fx.call65 Z (fun W s=>fB H 120 3 (by omega) W s.agr) Z fun v3 H3 hn3 u3=>?_
 obtain ⟨pn3,cn3,e3,_⟩:=hn3.sl;simp only [List.cons.injEq,and_true,List.length_map,dK] at e3;subst e3;obtain ⟨bE,oE,hpE,mE⟩:=iR hn3 (k:=(aF by_ M.ints).1) (by have:=bW by_ hM.1;have:=hM.2.1;omega);subst hpE;refine .cs (X:=Value) Fx.call143 Z (fun W s=>fV M.ints hM.1 (hb.up u3.up)  (s.p1_1 [0] Z Z)) Z fun z9 hz9=>.yv (.indexSl Fx.sl52 Z Z (i:=(aF by_ M.ints).1) Z (by have:=bW by_ hM.1;have:=hM.2.1;omega) (q:=oE+(aF by_ M.ints).1 * 1) Z) Z<|.yv (.loadM Z Fx.agg9 mE (k:=0) Z Z) Z<|.fn (tl:=[_]) Z<|.a Z Z<|.nt<|.rt<|?_
 exact Sx.ret1 (.inl rfl) rfl (.tmp rfl) fun W t=>⟨(z9,H3),⟨u3,hz9⟩,rfl,(t.p1_1 [0] rfl rfl)⟩
def OQ (rec:Bs→Ex × Bs) (M:Mk) (d:Nat):Prop:=∀ (H:Hp) (w0 W:World) (bs:List Res) (b:Nat) (arV bv:Value) (left:Int) (by_:Bs),Rep H (.seq 1 ((by_).map dU8)) [bv]→St H w0 (.box b (mkC M arV bv left) 172::bs) W →
 Calls Tryz.prog 160 #[.pointer (some ⟨b,0,none⟩),.int .i64 (d:Nat)] W fun e W'=>∃ z:List Value × Value × Hp,(HUp w0 H z.2.2∧Rep z.2.2 (dEx .i64 (rec by_).1) z.1∧Rep z.2.2 (.seq 1 (((rec by_).2).map dU8)) [z.2.1])∧e=.returned (.agg z.1.toArray)∧St z.2.2 w0 (.box b (mkC M arV z.2.1 left) 172::bs) W'
theorem PO {H:Hp} {n:Nat} (h:n<9):Rep H (dEx .i64 (.mk 1 [] (Int64.ofNat n) [])) [.int .i64 1,aD [],.int .i64 (n:Nat),.slice none 0 0]:=by
 have e:(Int64.ofNat n).toInt=(n:Int):=by
  have key:∀ i∈List.range 9,(Int64.ofNat i).toInt=(i:Int):=by decide
  exact key n (List.mem_range.2 h)
 have:=dJ (H:=H) (k:=.i64) (op:=1) (nm:=[]) (n:=Int64.ofNat n) (args:=[]) (s:=.slice none 0 0) (by decide) (Rep.empty (by decide));rw [e] at this;exact this
theorem TK {k:Nat} (h:k<6):[Value.int .i64 14,.int .i64 15,.int .i64 11,.int .i64 12,.int .i64 13,.int .i64 14][k]? = some (.int .i64 (([14,15,11,12,13,14]:List UInt8).getD k 14).toNat):=by
 match k,h with
 | 0,_=>rfl
 | 1,_=>rfl
 | 2,_=>rfl
 | 3,_=>rfl
 | 4,_=>rfl
 | 5,_=>rfl
set_option maxRecDepth 100000 in
theorem sL (M:Mk) (hM:okM M) (d:Nat) (hd:d≤3) (rec:Bs→Ex × Bs) (hrec:d≤2→OQ rec M (d+1)):OQ (PY M d rec) M d:=by
 intro H w0 W bs b arV bv left by_ hb s;unfold PY;refine Sx.enterS Tryz.func160 rfl Tryz.ntmps160 rfl s ?_;refine .sr<|.al Fx.zero33 Z fun b4=>.ns<|.m Z Z<|.cs (X:=Value) Fx.call143 Z (fun W s=>fV 12 (by decide) hb  (s.p2_2 [1,0] Z Z)) Z fun z9 hz9=>?_
 have hk12:=bW by_ (n:=12) (by decide);generalize (aF by_ 12).1=k at hk12 ⊢;generalize (aF by_ 12).2=b1 at hz9 ⊢;refine .a Z Z<|.nt<|.cu (X:=Unit) [(0,_),(1,_),(4,_)] ⟨rfl,rfl,rfl,trivial⟩ (fun z=>[]) (fun z=>H) (fun z=>(.box b (mkC M arV z9 left) 172::.box b4 [.int .i64 0,.string ⟨#[]⟩,.int .i64 0,.slice none 0 0] 33::bs)) (fun z=>¬ (k<2∨(2<d∧5<k))∧¬ (k<4∨(k=4∧M.params=0))∧¬ k=4∧¬ k=5∧¬ (k=6∧0<M.tables)∧¬ (k=7∧0<M.tables)∧¬ k=8) ?_ fun z hC=>?_
 ·
  refine .bk<|.cu (X:=Bool) [(0,_),(1,_),(4,_),(5,_)] ⟨rfl,rfl,rfl,rfl,trivial⟩ (fun z=>[(10,.bool z)]) (fun z=>H) (fun z=>(.box b (mkC M arV z9 left) 172::.box b4 [.int .i64 0,.string ⟨#[]⟩,.int .i64 0,.slice none 0 0] 33::bs)) (fun z=>z=decide (k<2∨(2<d∧5<k))) ?_ fun z hC=>?_
  ·
   refine .rg<|.m Z Z<|.yv (.lss Z Z) Z<|.m Z Z<|.b2 (fun h13=>?_) (fun h13=>?_)
   ·try simp only [dt] at h13
    exact .gG<|.gG<|.gG<|.gV<|.gV<|.gG<|.yv (.pickT Z Z) Z<|.a Z Z<|.nt<|.me _ ⟨rfl,trivial⟩ ⟨rfl,rfl,rfl,rfl,trivial⟩ (fun _ s=>s) (by rw [Bool.eq_iff_iff,decide_eq_true_eq];first | (rw [decide_eq_true_eq];omega) | exact ⟨fun _=>by omega,fun _=>rfl⟩ | exact ⟨fun h=>(by cases h),fun h=>by omega⟩)
   try simp only [df] at h13
   refine .gd Z Z<|.yv (.move Z) Z<|.gd Z Z<|.yv (.gtr Z Z) Z<|.gd Z Z<|.yv (.move Z) Z<|.b2 (fun h16=>?_) (fun h16=>?_)
   ·try simp only [dt] at h16
    exact .gd Z Z<|.yv (.move Z) Z<|.gd Z Z<|.yv (.gtr Z Z) Z<|.gd Z Z<|.yv (.pickT Z Z) Z<|.yv (.pickF Z Z) Z<|.a Z Z<|.nt<|.me _ ⟨rfl,trivial⟩ ⟨rfl,rfl,rfl,rfl,trivial⟩ (fun _ s=>s) (by rw [Bool.eq_iff_iff,decide_eq_true_eq];first | (rw [decide_eq_true_eq];omega) | exact ⟨fun _=>by omega,fun _=>rfl⟩ | exact ⟨fun h=>(by cases h),fun h=>by omega⟩)
   try simp only [df] at h16
   exact .gG<|.gG<|.gd Z Z<|.yv (.pickF Z Z) Z<|.yv (.pickF Z Z) Z<|.a Z Z<|.nt<|.me _ ⟨rfl,trivial⟩ ⟨rfl,rfl,rfl,rfl,trivial⟩ (fun _ s=>s) (by rw [Bool.eq_iff_iff,decide_eq_true_eq];first | (rw [decide_eq_true_eq];omega) | exact ⟨fun _=>by omega,fun _=>rfl⟩ | exact ⟨fun h=>(by cases h),fun h=>by omega⟩)
  have e10:=hC;refine .cd Z (fun h10=>?_) (fun h10=>?_)
  ·have q10:k<2∨(2<d∧5<k):=by rw [h10] at e10;exact of_decide_eq_true e10.symm
   refine .sr<|.m Z Z<|.cs (X:=Value) Fx.call143 Z (fun W s=>fV 9 (by decide) hz9  (s.p2_2 [0,1] Z Z)) Z fun z22 hz22=>.yv (.build Z (Fx.bld33_0_2 _ _)) Z<|.sW (.tail<|.head) Z Z Fx.size33 (by simp [Value.oneCell',aD]) Z<|.nt<|.rt<|.bR<|.tR<|?_
   exact Sx.ret1 (.inl rfl) rfl (.cell rfl Fx.agg33 (.tail _<|.head _) rfl) fun W t=>⟨(_,_,H),by rw [show lD M d rec k b1=_ from by rw [lD,if_pos (by omega)]];exact ⟨.refl,PO (bW _ (by decide)),hz22⟩,rfl,(t.p2_1 [0] rfl rfl)⟩
  have q10:¬ (k<2∨(2<d∧5<k)):=by rw [h10] at e10;exact of_decide_eq_false e10.symm
  refine .cu (X:=Bool) [(0,_),(1,_),(4,_),(5,_)] ⟨rfl,rfl,rfl,rfl,trivial⟩ (fun z=>[(24,.bool z)]) (fun z=>H) (fun z=>(.box b (mkC M arV z9 left) 172::.box b4 [.int .i64 0,.string ⟨#[]⟩,.int .i64 0,.slice none 0 0] 33::bs)) (fun z=>z=decide (k<4∨(k=4∧M.params=0))) ?_ fun z hC=>?_
  ·
   refine .rg<|.m Z Z<|.yv (.lss Z Z) Z<|.m Z Z<|.b2 (fun h27=>?_) (fun h27=>?_)
   ·try simp only [dt] at h27
    exact .gG<|.gG<|.gG<|.gV<|.gV<|.gV<|.gV<|.gV<|.gG<|.yv (.pickT Z Z) Z<|.a Z Z<|.nt<|.me _ ⟨rfl,trivial⟩ ⟨rfl,rfl,rfl,rfl,trivial⟩ (fun _ s=>s) (by rw [Bool.eq_iff_iff,decide_eq_true_eq];first | (rw [decide_eq_true_eq];omega) | exact ⟨fun _=>by omega,fun _=>rfl⟩ | exact ⟨fun h=>(by cases h),fun h=>by omega⟩)
   try simp only [df] at h27
   refine .gd Z Z<|.yv (.move Z) Z<|.gd Z Z<|.yv (.eql Z Z) Z<|.gd Z Z<|.yv (.move Z) Z<|.b2 (fun h30=>?_) (fun h30=>?_)
   ·try simp only [dt] at h30
    exact .gd Z Z<|.yv (.move Z) Z<|.gd Z Z<|.yv (.nilCheck Z) Z<|.gd Z Z<|.yv (.fieldAddr Z Fx.field172_5) Z<|.gd Z Z<|.yv (.load Z Fx.agg3 (.head _) Z) Z<|.gd Z Z<|.yv (.eql Z Z) Z<|.gd Z Z<|.yv (.pickT Z Z) Z<|.yv (.pickF Z Z) Z<|.a Z Z<|.nt<|.me _ ⟨rfl,trivial⟩ ⟨rfl,rfl,rfl,rfl,trivial⟩ (fun _ s=>s) (by rw [Bool.eq_iff_iff,decide_eq_true_eq];first | (rw [decide_eq_true_eq];omega) | exact ⟨fun _=>by omega,fun _=>rfl⟩ | exact ⟨fun h=>(by cases h),fun h=>by omega⟩)
   try simp only [df] at h30
   exact .gG<|.gG<|.gG<|.gG<|.gG<|.gd Z Z<|.yv (.pickF Z Z) Z<|.yv (.pickF Z Z) Z<|.a Z Z<|.nt<|.me _ ⟨rfl,trivial⟩ ⟨rfl,rfl,rfl,rfl,trivial⟩ (fun _ s=>s) (by rw [Bool.eq_iff_iff,decide_eq_true_eq];first | (rw [decide_eq_true_eq];omega) | exact ⟨fun _=>by omega,fun _=>rfl⟩ | exact ⟨fun h=>(by cases h),fun h=>by omega⟩)
  have e24:=hC;refine .cd Z (fun h24=>?_) (fun h24=>?_)
  ·have q24:k<4∨(k=4∧M.params=0):=by rw [h24] at e24;exact of_decide_eq_true e24.symm
   refine .sr<|.m Z Z<|.cs (X:=Value × Hp) Fx.call162 Z (fun W s=>pU hM hz9  (s.p2_2 [0,1] Z Z)) Z fun z39 hz39=>.yv (.build Z (Fx.bld33_0_1 _ _)) Z<|.sW (.tail<|.head) Z Z Fx.size33 (by simp [Value.oneCell',aD]) Z<|.nt<|.rt<|.bR<|.tR<|?_
   exact Sx.ret1 (.inl rfl) rfl (.cell rfl Fx.agg33 (.tail _<|.head _) rfl) fun W t=>⟨(_,_,z39.2),by rw [show lD M d rec k b1=_ from by rw [lD,if_neg (by omega),if_pos (by omega)]];exact ⟨hz39.1,dJ (args:=[]) (by simp [nmB]) (Rep.empty (by decide)),hz39.2⟩,rfl,(t.p2_1 [0] rfl rfl)⟩
  have q24:¬ (k<4∨(k=4∧M.params=0)):=by rw [h24] at e24;exact of_decide_eq_false e24.symm
  refine .sr<|.m Z Z<|.yv (.eql Z Z) Z<|.a Z Z<|.nt<|.cd Z (fun h41=>?_) (fun h41=>?_)
  ·try simp only [dt] at h41
   refine .sq<|.fl (trip:=[(_,_,_),(_,_,_),(_,_,_),(_,_,_),(_,_,_),(_,_,_),(_,_,_),(_,_,_),(_,_,_),(_,_,_)]) 10 [(1,0),(2,0),(3,0),(4,0),(5,0),(0,1),(6,2),(7,0),(8,0),(9,0)] (by kernel_rfl) (by kernel_rfl) Z<|.m Z Z<|.m Z Z<|.yv (.nilCheck Z) Z<|.yv (.fieldAddr Z Fx.field172_5) Z<|.yv (.load Z Fx.agg3 (.head _) Z) Z<|.ct (X:=Value) Fx.call65 Z (fun W s=>fB H 112 2 (by omega) W s.agr) Z fun v44 H44 hn44 u44=>?_
   obtain ⟨pn44,cn44,e44,_⟩:=hn44.sl;simp only [List.cons.injEq,and_true,List.length_map,dK] at e44;subst e44;obtain ⟨bE,oE,hpE,mE⟩:=iR hn44 (k:=(aF b1 M.params).1) (by have:=bW b1 (n:=M.params) (by omega);have:=hM.2.2.1;omega);subst hpE;refine .cs (X:=Value) Fx.call143 Z (fun W s=>fV M.params (by omega) (hz9.up u44.up)  (s.p2_2 [0,1] Z Z)) Z fun z50 hz50=>.yv (.indexSl Fx.sl52 Z Z (i:=(aF b1 M.params).1) Z (by have:=bW b1 (n:=M.params) (by omega);have:=hM.2.2.1;omega) (q:=oE+(aF b1 M.params).1 * 1) Z) Z<|.yv (.loadM Z Fx.agg9 mE (k:=0) Z Z) Z<|.yv (.build Z (Fx.bld33_0_1 _ _)) Z<|.fn (tl:=[_]) Z<|.sW (.tail<|.head) Z Z Fx.size33 (by simp [Value.oneCell',aD]) Z<|.nt<|.rt<|.bR<|.tR<|?_
   exact Sx.ret1 (.inl rfl) rfl (.cell rfl Fx.agg33 (.tail _<|.head _) rfl) fun W t=>⟨(_,_,H44),by rw [show lD M d rec k b1=_ from by rw [lD,if_neg (by omega),if_neg (by omega),if_pos (by omega)]];exact ⟨u44,dJ (args:=[]) (by simp [nmB]) (Rep.empty (by decide)),hz50⟩,rfl,(t.p2_1 [0] rfl rfl)⟩
  try simp only [df] at h41
  refine .sr<|.m Z Z<|.yv (.eql Z Z) Z<|.a Z Z<|.nt<|.cd Z (fun h54=>?_) (fun h54=>?_)
  ·try simp only [dt] at h54
   refine .sr<|.yv (.build Z (Fx.bld33_0 _)) Z<|.sW (.tail<|.head) Z Z Fx.size33 (by simp [Value.oneCell',aD]) Z<|.nt<|.rt<|.bR<|.tR<|?_
   exact Sx.ret1 (.inl rfl) rfl (.cell rfl Fx.agg33 (.tail _<|.head _) rfl) fun W t=>⟨(_,_,H),by rw [show lD M d rec k b1=_ from by rw [lD,if_neg (by omega),if_neg (by omega),if_neg (by omega),if_pos (by omega)]];exact ⟨.refl,dJ (args:=[]) (nm:=[]) (by decide) (Rep.empty (by decide)),hz9⟩,rfl,(t.p2_1 [0] rfl rfl)⟩
  try simp only [df] at h54
  refine .cu (X:=Bool) [(0,_),(1,_),(4,_),(5,_)] ⟨rfl,rfl,rfl,rfl,trivial⟩ (fun z=>[(58,.bool z)]) (fun z=>H) (fun z=>(.box b (mkC M arV z9 left) 172::.box b4 [.int .i64 0,.string ⟨#[]⟩,.int .i64 0,.slice none 0 0] 33::bs)) (fun z=>z=decide (k=6∧0<M.tables)) ?_ fun z hC=>?_
  ·
   refine .rg<|.m Z Z<|.yv (.eql Z Z) Z<|.m Z Z<|.b2 (fun h61=>?_) (fun h61=>?_)
   ·try simp only [dt] at h61
    exact .gd Z Z<|.yv (.move Z) Z<|.gd Z Z<|.yv (.nilCheck Z) Z<|.gd Z Z<|.yv (.fieldAddr Z Fx.field172_1) Z<|.gd Z Z<|.yv (.load Z Fx.agg3 (.head _) Z) Z<|.gd Z Z<|.yv (.gtr Z Z) Z<|.yv (.pickT Z Z) Z<|.a Z Z<|.nt<|.me _ ⟨rfl,trivial⟩ ⟨rfl,rfl,rfl,rfl,trivial⟩ (fun _ s=>s) (by rw [Bool.eq_iff_iff,decide_eq_true_eq];first | (rw [decide_eq_true_eq];omega) | exact ⟨fun _=>by omega,fun _=>rfl⟩ | exact ⟨fun h=>(by cases h),fun h=>by omega⟩)
   try simp only [df] at h61
   exact .gG<|.gG<|.gG<|.gG<|.gG<|.yv (.pickF Z Z) Z<|.a Z Z<|.nt<|.me _ ⟨rfl,trivial⟩ ⟨rfl,rfl,rfl,rfl,trivial⟩ (fun _ s=>s) (by rw [Bool.eq_iff_iff,decide_eq_true_eq];first | (rw [decide_eq_true_eq];omega) | exact ⟨fun _=>by omega,fun _=>rfl⟩ | exact ⟨fun h=>(by cases h),fun h=>by omega⟩)
  have e58:=hC;refine .cd Z (fun h58=>?_) (fun h58=>?_)
  ·have q58:k=6∧0<M.tables:=by rw [h58] at e58;exact of_decide_eq_true e58.symm
   refine .sr<|.m Z Z<|.m Z Z<|.yv (.add Z Z (c:=((d+1:Nat):Int)) ((w6 (by omega)).trans (by omega))) Z<|.cs (X:=List Value × Value × Hp) Fx.call160 Z (fun W s=>hrec (by omega) H w0 W _ b arV _ left b1 hz9  (s.p2_2 [0,1] Z Z)) Z fun z71 hz71=>?_
   obtain ⟨x71,v71,H71⟩:=z71;obtain ⟨u71,r71,q71⟩:=hz71;dsimp only at u71 r71 q71 ⊢;generalize hE71:(rec b1).1=e71 at r71;obtain ⟨op71,nm71,n71,a71⟩:=e71;obtain ⟨p71,c71,rfl,hs71,hl71⟩:=bU r71;refine .bl Z (Fx.bsl31_1 _ _ _ _) Z fun b72=>.yv (.build Z (Fx.bld33_0_1_3 _ _ _ _ _)) Z<|.sW (.tail<|.tail<|.head) Z Z Fx.size33 (by simp [Value.oneCell',aD]) Z<|.nt<|.rt<|.bR<|.tR<|?_
   refine At.pt (hd:=[_,_,_]) (tl:=bs) (hd':=[_,_,_]) [0,2,1] rfl rfl ?_;refine Sx.freezeBox fun Hf uf mf=>?_;exact Sx.ret1 (.inl rfl) rfl (.cell rfl Fx.agg33 (.head _) rfl) fun W t=>⟨(_,_,Hf),by rw [show lD M d rec k b1=_ from by rw [lD,if_neg (by omega),if_neg (by omega),if_neg (by omega),if_neg (by omega),if_pos (by omega)],hE71];exact ⟨u71.trans uf,dJ (nm:=[116,48]) (args:=[.mk op71 nm71 n71 a71]) (by decide) (Rep.mk (n:=1) (c:=1) mf (.single (r71.up uf.up) rfl) rfl (Nat.le_refl _) (by decide)),q71.up uf.up⟩,rfl,t.drop⟩
  have q58:¬ (k=6∧0<M.tables):=by rw [h58] at e58;exact of_decide_eq_false e58.symm
  refine .cu (X:=Bool) [(0,_),(1,_),(4,_),(5,_)] ⟨rfl,rfl,rfl,rfl,trivial⟩ (fun z=>[(74,.bool z)]) (fun z=>H) (fun z=>(.box b (mkC M arV z9 left) 172::.box b4 [.int .i64 0,.string ⟨#[]⟩,.int .i64 0,.slice none 0 0] 33::bs)) (fun z=>z=decide (k=7∧0<M.tables)) ?_ fun z hC=>?_
  ·
   refine .rg<|.m Z Z<|.yv (.eql Z Z) Z<|.m Z Z<|.b2 (fun h77=>?_) (fun h77=>?_)
   ·try simp only [dt] at h77
    exact .gd Z Z<|.yv (.move Z) Z<|.gd Z Z<|.yv (.nilCheck Z) Z<|.gd Z Z<|.yv (.fieldAddr Z Fx.field172_1) Z<|.gd Z Z<|.yv (.load Z Fx.agg3 (.head _) Z) Z<|.gd Z Z<|.yv (.gtr Z Z) Z<|.yv (.pickT Z Z) Z<|.a Z Z<|.nt<|.me _ ⟨rfl,trivial⟩ ⟨rfl,rfl,rfl,rfl,trivial⟩ (fun _ s=>s) (by rw [Bool.eq_iff_iff,decide_eq_true_eq];first | (rw [decide_eq_true_eq];omega) | exact ⟨fun _=>by omega,fun _=>rfl⟩ | exact ⟨fun h=>(by cases h),fun h=>by omega⟩)
   try simp only [df] at h77
   exact .gG<|.gG<|.gG<|.gG<|.gG<|.yv (.pickF Z Z) Z<|.a Z Z<|.nt<|.me _ ⟨rfl,trivial⟩ ⟨rfl,rfl,rfl,rfl,trivial⟩ (fun _ s=>s) (by rw [Bool.eq_iff_iff,decide_eq_true_eq];first | (rw [decide_eq_true_eq];omega) | exact ⟨fun _=>by omega,fun _=>rfl⟩ | exact ⟨fun h=>(by cases h),fun h=>by omega⟩)
  have e74:=hC;refine .cd Z (fun h74=>?_) (fun h74=>?_)
  ·have q74:k=7∧0<M.tables:=by rw [h74] at e74;exact of_decide_eq_true e74.symm
   refine .sr<|.yv (.build Z (Fx.bld33_0_1 _ _)) Z<|.sW (.tail<|.head) Z Z Fx.size33 (by simp [Value.oneCell',aD]) Z<|.nt<|.rt<|.bR<|.tR<|?_
   exact Sx.ret1 (.inl rfl) rfl (.cell rfl Fx.agg33 (.tail _<|.head _) rfl) fun W t=>⟨(_,_,H),by rw [show lD M d rec k b1=_ from by rw [lD,if_neg (by omega),if_neg (by omega),if_neg (by omega),if_neg (by omega),if_neg (by omega),if_pos (by omega)]];exact ⟨.refl,dJ (args:=[]) (nm:=[116,48]) (by decide) (Rep.empty (by decide)),hz9⟩,rfl,(t.p2_1 [0] rfl rfl)⟩
  have q74:¬ (k=7∧0<M.tables):=by rw [h74] at e74;exact of_decide_eq_false e74.symm
  refine .sr<|.m Z Z<|.yv (.eql Z Z) Z<|.a Z Z<|.nt<|.cd Z (fun h85=>?_) (fun h85=>?_)
  ·try simp only [dt] at h85
   refine .sr<|.m Z Z<|.m Z Z<|.yv (.add Z Z (w6 (by omega))) Z<|.cs (X:=List Value × Value × Hp) Fx.call160 Z (fun W s=>hrec (by omega) H w0 W _ b arV _ left b1 hz9  (s.p2_2 [0,1] Z Z)) Z fun z91 hz91=>?_
   obtain ⟨x91,v91,H91⟩:=z91;obtain ⟨u91,r91,q91⟩:=hz91;dsimp only at u91 r91 q91 ⊢;generalize hE91:(rec b1).1=e91 at r91;obtain ⟨op91,nm91,n91,a91⟩:=e91;obtain ⟨p91,c91,rfl,hs91,hl91⟩:=bU r91;refine .bl Z (Fx.bsl31_1 _ _ _ _) Z fun b92=>.yv (.build Z (Fx.bld33_0_3 _ _ _ _)) Z<|.sW (.tail<|.tail<|.head) Z Z Fx.size33 (by simp [Value.oneCell',aD]) Z<|.nt<|.rt<|.bR<|.tR<|?_
   refine At.pt (hd:=[_,_,_]) (tl:=bs) (hd':=[_,_,_]) [0,2,1] rfl rfl ?_;refine Sx.freezeBox fun Hf uf mf=>?_;exact Sx.ret1 (.inl rfl) rfl (.cell rfl Fx.agg33 (.head _) rfl) fun W t=>⟨(_,_,Hf),by rw [show lD M d rec k b1=_ from by rw [lD,if_neg (by omega),if_neg (by omega),if_neg (by omega),if_neg (by omega),if_neg (by omega),if_neg (by omega),if_pos (by omega)],hE91];exact ⟨u91.trans uf,dJ (nm:=[]) (args:=[.mk op91 nm91 n91 a91]) (by decide) (Rep.mk (n:=1) (c:=1) mf (.single (r91.up uf.up) rfl) rfl (Nat.le_refl _) (by decide)),q91.up uf.up⟩,rfl,t.drop⟩
  try simp only [df] at h85
  exact .sk<|.bN<|.tN<|.me () trivial ⟨rfl,rfl,rfl,trivial⟩ (fun _ s=>s) (by omega)
 obtain ⟨hc1,hc2,hc3,hc4,hc5,hc6,hc7⟩:=hC;refine .sr<|.bl Z (Fx.bsl129_6 _ _ _ _ _ _) Z fun b94=>.m Z Z<|.cs (X:=Value) Fx.call143 Z (fun W s=>fV 6 (by decide) hz9  (s.p3_3 [1,0,2] Z Z)) Z fun z96 hz96=>.yv (.indexSl Fx.sl129 Z Z (i:=(aF b1 6).1) Z (by have:=bW b1 (n:=6) (by decide);omega) (q:=(aF b1 6).1) (by omega)) Z<|.yv (.load (v:=.int .i64 (([14,15,11,12,13,14]:List UInt8).getD (aF b1 6).1 14).toNat) Z Fx.agg3 (.tail _<|.head _) (TK (bW b1 (n:=6) (by decide)))) Z<|.a Z Z<|.ns<|.m Z Z<|.m Z Z<|.yv (.add Z Z (w6 (by omega))) Z<|.cs (X:=List Value × Value × Hp) Fx.call160 Z (fun W s=>hrec (by omega) H w0 W _ b arV _ left (aF b1 6).2 hz96  (s.p3_3 [0,1,2] Z Z)) Z fun z102 hz102=>?_
 obtain ⟨x102,v102,H102⟩:=z102;obtain ⟨u102,r102,q102⟩:=hz102;dsimp only at u102 r102 q102 ⊢;generalize hE102:(rec (aF b1 6).2).1=e102 at r102;obtain ⟨op102,nm102,n102,a102⟩:=e102;obtain ⟨p102,c102,rfl,hs102,hl102⟩:=bU r102;refine .al Fx.zero33 Z fun b7=>.sW .head Z Z Fx.size33 (by simp [Value.oneCell',aD]) Z<|.nt<|.sq<|.fl (trip:=[(_,_,_),(_,_,_),(_,_,_),(_,_,_),(_,_,_),(_,_,_),(_,_,_),(_,_,_)]) 8 [(0,0),(1,0),(2,0),(3,0),(4,0),(5,3),(6,1),(7,0)] (by kernel_rfl) (by kernel_rfl) Z<|.m Z Z<|.yv (.loadW Z Fx.agg33 (.head _) Z) Z<|.m Z Z<|.m Z Z<|.yv (.add Z Z (w6 (by omega))) Z<|.c3 (X:=List Value × Value × Hp) Fx.call160 Z (fun W s=>hrec (by omega) H102 w0 W _ b arV _ left (rec (aF b1 6).2).2 q102  (s.p4_4 [1,0,2,3] Z Z)) Z (fun z108 hz108=>(.dn<|.dn<|.dn<|.yv (.loadW Z Fx.agg33 (.tail _<|.head _) Z)<|.yv (.move Z)<|.nl)) fun z108 hz108=>?_
 obtain ⟨x108,v108,H108⟩:=z108;obtain ⟨u108,r108,q108⟩:=hz108;dsimp only at u108 r108 q108 ⊢;generalize hE108:(rec (rec (aF b1 6).2).2).1=e108 at r108;obtain ⟨op108,nm108,n108,a108⟩:=e108;obtain ⟨p108,c108,rfl,hs108,hl108⟩:=bU r108;refine .bl Z (Fx.bsl31_2 _ _ _ _ _ _ _ _) Z fun b109=>.yv (.build Z (Fx.bld33_0_3 _ _ _ _)) Z<|.fn (tl:=[_]) Z<|.sW (.tail<|.tail<|.tail<|.tail<|.head) Z Z Fx.size33 (by simp [Value.oneCell',aD]) Z<|.nt<|.rt<|?_
 refine At.pt (hd:=[_,_,_,_,_]) (tl:=bs) (hd':=[_,_,_]) [0,4,1] rfl rfl ?_;refine Sx.freezeBox fun Hf uf mf=>?_;exact Sx.ret1 (.inl rfl) rfl (.cell rfl Fx.agg33 (.head _) rfl) fun W t=>⟨(_,_,Hf),by rw [show lD M d rec k b1=_ from by rw [lD,if_neg (by omega),if_neg (by omega),if_neg (by omega),if_neg (by omega),if_neg (by omega),if_neg (by omega),if_neg (by omega)],hE102,hE108];exact ⟨(u102.trans u108).trans uf,dJ (nm:=[]) (args:=[.mk op102 nm102 n102 a102,.mk op108 nm108 n108 a108]) (by decide) (Rep.mk (n:=2) (c:=2) mf (aN.app (aN.single ((r102.up u108.up).up uf.up) rfl) (aN.single (r108.up uf.up) rfl)) rfl (Nat.le_refl _) (by decide)),q108.up uf.up⟩,rfl,t.drop⟩
theorem iQ (M:Mk) (hM:okM M):∀ f,f≤3→OQ (eR M f) M (3 - f)
 | 0,_=>sL M hM 3 (by omega) _ (fun h=>by omega)
 | f+1,hf=>by
  have e:3 - (f+1)=2 - f:=by omega
  rw [e];refine sL M hM (2 - f) (by omega) (eR M f) fun _=>?_;rw [show 2 - f+1=3 - f by omega];exact iQ M hM f (by omega)
set_option maxRecDepth 100000 in
theorem iG {H:Hp} {w0 W:World} {bs:List Res} {b:Nat} {M:Mk} {arV bv:Value} {left:Int} {by_:Bs} (hM:okM M) (n:Nat) (hn:n≤100) (hb:Rep H (.seq 1 ((by_).map dU8)) [bv]) (s:St H w0 (.box b (mkC M arV bv left) 172::bs) W) :
 Calls Tryz.prog 161 #[.pointer (some ⟨b,0,none⟩),.int .i64 (n:Nat)] W fun e W'=>∃ z:Value × Value × Hp,(HUp w0 H z.2.2∧(∃ xs,aN z.2.2 4 ((iN M n by_).1.map (dEx .i64)) xs∧iU z.2.2 z.1 n xs∧(iN M n by_).1.length=n)∧Rep z.2.2 (.seq 1 (((iN M n by_).2).map dU8)) [z.2.1])∧e=.returned z.1∧St z.2.2 w0 (.box b (mkC M arV z.2.1 left) 172::bs) W':=by
 refine Sx.enterS Tryz.func161 rfl Tryz.ntmps161 rfl s ?_;refine .sr<|.a Z Z<|.ns<|.a Z Z<|?_
 refine Sx.row0 33 4 ?_;refine .nt<|.sq<|.sr<|.a Z Z<|.nt<|.bk<|.lp (X:=Nat × Hp × Value × List Value × Value) [(0,_),(1,_)] ⟨rfl,rfl,trivial⟩ (bs) (fun z=>[(5,z.2.2.1),(6,.int .i64 (z.1:Nat))]) (fun z=>z.2.1) (fun z=>[.row 33 4 z.2.2.1 z.1 z.2.2.2.1,.box b (mkC M arV z.2.2.2.2 left) 172]) (fun z=>z.1≤n∧HUp w0 H z.2.1∧∃ (es:List Ex) (b1:Bs),es.length=z.1∧aN z.2.1 4 (es.map (dEx .i64)) z.2.2.2.1∧Rep z.2.1 (.seq 1 ((b1).map dU8)) [z.2.2.2.2]∧iN M n by_=(es++(iN M (n - z.1) b1).1,(iN M (n - z.1) b1).2)) (fun z=>n - z.1) (0,H,.slice none 0 0,[],bv) (fun _ s=>s) ⟨rfl,rfl,trivial⟩ ⟨by dsimp only;omega,.refl,[],by_,rfl,aN.nil,hb,rfl⟩ fun z hC=>?_
 obtain ⟨k,H1,r,xs,bv⟩:=z;dsimp only at hC ⊢;obtain ⟨hk0,u1,es,b1,hlen,hz,hb1,heq⟩:=hC;refine .sq<|.sr<|.m Z Z<|.m Z Z<|.yv (.lss Z Z) Z<|.nt<|.cd Z (fun h9=>?_) (fun h9=>?_)
 ·try simp only [dt] at h9
  have hk:k<n:=by omega
  refine .sk<|.tN<|.sq<|.bk<|.rg<|.m Z Z<|.m Z Z<|.cs (X:=List Value × Value × Hp) Fx.call160 Z (fun W s=>iQ M hM 2 (by decide) H1 w0 W _ b arV _ left b1 hb1  (s.p2_2 [1,0] Z Z)) Z fun z14 hz14=>?_
  obtain ⟨x14,v14,H14⟩:=z14;obtain ⟨u14,r14,q14⟩:=hz14;dsimp only at u14 r14 q14 ⊢;generalize hE14:(eR M 2 b1).1=e14 at r14;obtain ⟨op14,nm14,n14,a14⟩:=e14;obtain ⟨p14,c14,rfl,hs14,hl14⟩:=bU r14;exact .bl Z (Fx.bsl31_1 _ _ _ _) Z fun b15=>.ap (news:=[.int .i64 op14.toNat,aD nm14,.int .i64 n14.toInt,.slice p14 a14.length c14]) Fx.row31 Z (fun _=>(.tail<|.tail<|.head)) Z (.box (.head _) z0) Z (by simp [Value.oneCell',aD]) (by simp [maxLen];omega) (by omega) Z fun r16 _=>.a Z Z<|.nl<|.bN<|.tN<|.rg<|.m Z Z<|.yv (.add Z Z (w6 (by omega))) Z<|.a Z Z<|.nt<|.ag (x:=(k,H1,r,xs,bv)) (k+1,H14,r16,xs++[.int .i64 op14.toNat,aD nm14,.int .i64 n14.toInt,.slice p14 a14.length c14],v14) ⟨rfl,rfl,trivial⟩ ⟨rfl,rfl,trivial⟩ (fun _ s=>(s.p3_2 [2,1] Z Z)) ⟨by dsimp only;omega,u1.trans u14,es++[.mk op14 nm14 n14 a14],(eR M 2 b1).2,by simp;omega,by dsimp only;rw [List.map_append];exact (hz.up u14.up).snoc r14 Z,q14,by dsimp only;rw [heq,show n - k=(n - (k+1))+1 by omega,iN,hE14,List.append_assoc];rfl⟩ (by dsimp only;omega)
 try simp only [df] at h9
 obtain rfl:k=n:=by omega
 rw [Nat.sub_self,iN,List.append_nil] at heq;refine .ex<|.tE<|.tE<|.bE<|.tN<|.sr<|.m Z Z<|.a Z Z<|.nt<|.rt<|?_
 refine At.pt (hd:=[_,_]) (tl:=bs) (hd':=[_,_]) [0,1] rfl rfl ?_;refine Sx.freezeAt fun H3 u3 hs3=>?_;exact Sx.ret1 (.inl rfl) rfl (.tmp rfl) fun W t=>⟨(r,bv,H3),by rw [heq];exact ⟨u1.trans u3,⟨xs,hz.up u3.up,hs3,hlen⟩,hb1.up u3.up⟩,rfl,t⟩
def OO (rec:Bs→Ex × Bs) (M:Mk) (d:Nat):Prop:=∀ (H:Hp) (w0 W:World) (bs:List Res) (b:Nat) (arV bv:Value) (left:Int) (by_:Bs),Rep H (.seq 1 ((by_).map dU8)) [bv]→St H w0 (.box b (mkC M arV bv left) 172::bs) W →
 Calls Tryz.prog 159 #[.pointer (some ⟨b,0,none⟩),.int .i64 (d:Nat)] W fun e W'=>∃ z:List Value × Value × Hp,(HUp w0 H z.2.2∧Rep z.2.2 (dEx .i64 (rec by_).1) z.1∧Rep z.2.2 (.seq 1 (((rec by_).2).map dU8)) [z.2.1])∧e=.returned (.agg z.1.toArray)∧St z.2.2 w0 (.box b (mkC M arV z.2.1 left) 172::bs) W'
theorem op2 {n:Nat} (h:n<2):(((2+UInt8.ofNat n).toNat:Nat):Int)=2+(n:Int):=by
 have key:∀ i∈List.range 2,(2+UInt8.ofNat i).toNat=2+i:=by decide
 have:=key n (List.mem_range.2 h);omega
theorem TL {n:Nat} (h:n<10):(((16+UInt8.ofNat n).toNat:Nat):Int)=16+(n:Int):=by
 have key:∀ i∈List.range 10,(16+UInt8.ofNat i).toNat=16+i:=by decide
 have:=key n (List.mem_range.2 h);omega
set_option maxRecDepth 100000 in
theorem tX (M:Mk) (hM:okM M) (d:Nat) (hd:d≤2) (rec:Bs→Ex × Bs) (hrec:d≤1→OO rec M (d+1)):OO (PB M d rec) M d:=by
 intro H w0 W bs b arV bv left by_ hb s;unfold PB;refine Sx.enterS Tryz.func159 rfl Tryz.ntmps159 rfl s ?_;refine .sr<|.al Fx.zero33 Z fun b4=>.ns<|.m Z Z<|.cs (X:=Value) Fx.call143 Z (fun W s=>fV 10 (by decide) hb  (s.p2_2 [1,0] Z Z)) Z fun z10 hz10=>?_
 have hk12:=bW by_ (n:=10) (by decide);generalize (aF by_ 10).1=k at hk12 ⊢;generalize (aF by_ 10).2=b1 at hz10 ⊢;refine .a Z Z<|.nt<|.cu (X:=Unit) [(0,_),(4,_)] ⟨rfl,rfl,trivial⟩ (fun z=>[]) (fun z=>H) (fun z=>(.box b (mkC M arV z10 left) 172::.box b4 [.int .i64 0,.string ⟨#[]⟩,.int .i64 0,.slice none 0 0] 33::bs)) (fun z=>¬ k=0∧¬ (k=1∨(1<d∧4<k))∧¬ (k=2∧0<M.flags)∧¬ (k=3∧0<M.tables)∧¬ k=5∧¬ (k=6∨k=7)) ?_ fun z hC=>?_
 ·
  refine .bk<|.sr<|.m Z Z<|.yv (.eql Z Z) Z<|.a Z Z<|.nt<|.cd Z (fun h11=>?_) (fun h11=>?_)
  ·try simp only [dt] at h11
   refine .sr<|.m Z Z<|.cs (X:=Value) Fx.call143 Z (fun W s=>fV 2 (by decide) hz10  (s.p2_2 [0,1] Z Z)) Z fun z15 hz15=>.yv (.add Z Z (c:=(((2+UInt8.ofNat (aF b1 2).1).toNat:Nat):Int)) (by have:=bW b1 (n:=2) (by decide);rw [op2 this];exact (w6 (by omega)).trans (by omega))) Z<|.yv (.build Z (Fx.bld33_0 _)) Z<|.sW (.tail<|.head) Z Z Fx.size33 (by simp [Value.oneCell',aD]) Z<|.nt<|.rt<|.bR<|.tR<|?_
   exact Sx.ret1 (.inl rfl) rfl (.cell rfl Fx.agg33 (.tail _<|.head _) rfl) fun W t=>⟨(_,_,H),by rw [show mL M d rec k b1=_ from by rw [mL,if_pos (by omega)]];exact ⟨.refl,dJ (args:=[]) (nm:=[]) (by decide) (Rep.empty (by decide)),hz15⟩,rfl,(t.p2_1 [0] rfl rfl)⟩
  try simp only [df] at h11
  refine .cu (X:=Bool) [(0,_),(1,_),(4,_),(5,_)] ⟨rfl,rfl,rfl,rfl,trivial⟩ (fun z=>[(18,.bool z)]) (fun z=>H) (fun z=>(.box b (mkC M arV z10 left) 172::.box b4 [.int .i64 0,.string ⟨#[]⟩,.int .i64 0,.slice none 0 0] 33::bs)) (fun z=>z=decide (k=1∨(1<d∧4<k))) ?_ fun z hC=>?_
  ·
   refine .rg<|.m Z Z<|.yv (.eql Z Z) Z<|.m Z Z<|.b2 (fun h21=>?_) (fun h21=>?_)
   ·try simp only [dt] at h21
    exact .gG<|.gG<|.gG<|.gV<|.gV<|.gG<|.yv (.pickT Z Z) Z<|.a Z Z<|.nt<|.me _ ⟨rfl,trivial⟩ ⟨rfl,rfl,rfl,rfl,trivial⟩ (fun _ s=>s) (by rw [Bool.eq_iff_iff,decide_eq_true_eq];first | (rw [decide_eq_true_eq];omega) | exact ⟨fun _=>by omega,fun _=>rfl⟩ | exact ⟨fun h=>(by cases h),fun h=>by omega⟩)
   try simp only [df] at h21
   refine .gd Z Z<|.yv (.move Z) Z<|.gd Z Z<|.yv (.gtr Z Z) Z<|.gd Z Z<|.yv (.move Z) Z<|.b2 (fun h24=>?_) (fun h24=>?_)
   ·try simp only [dt] at h24
    exact .gd Z Z<|.yv (.move Z) Z<|.gd Z Z<|.yv (.gtr Z Z) Z<|.gd Z Z<|.yv (.pickT Z Z) Z<|.yv (.pickF Z Z) Z<|.a Z Z<|.nt<|.me _ ⟨rfl,trivial⟩ ⟨rfl,rfl,rfl,rfl,trivial⟩ (fun _ s=>s) (by rw [Bool.eq_iff_iff,decide_eq_true_eq];first | (rw [decide_eq_true_eq];omega) | exact ⟨fun _=>by omega,fun _=>rfl⟩ | exact ⟨fun h=>(by cases h),fun h=>by omega⟩)
   try simp only [df] at h24
   exact .gG<|.gG<|.gd Z Z<|.yv (.pickF Z Z) Z<|.yv (.pickF Z Z) Z<|.a Z Z<|.nt<|.me _ ⟨rfl,trivial⟩ ⟨rfl,rfl,rfl,rfl,trivial⟩ (fun _ s=>s) (by rw [Bool.eq_iff_iff,decide_eq_true_eq];first | (rw [decide_eq_true_eq];omega) | exact ⟨fun _=>by omega,fun _=>rfl⟩ | exact ⟨fun h=>(by cases h),fun h=>by omega⟩)
  have e18:=hC;refine .cd Z (fun h18=>?_) (fun h18=>?_)
  ·have q18:k=1∨(1<d∧4<k):=by rw [h18] at e18;exact of_decide_eq_true e18.symm
   refine .sr<|.yv (.build Z (Fx.bld33_0_1 _ _)) Z<|.sW (.tail<|.head) Z Z Fx.size33 (by simp [Value.oneCell',aD]) Z<|.nt<|.rt<|.bR<|.tR<|?_
   exact Sx.ret1 (.inl rfl) rfl (.cell rfl Fx.agg33 (.tail _<|.head _) rfl) fun W t=>⟨(_,_,H),by rw [show mL M d rec k b1=_ from by rw [mL,if_neg (by omega),if_pos (by omega)]];exact ⟨.refl,dJ (args:=[]) (nm:=[98,48]) (by decide) (Rep.empty (by decide)),hz10⟩,rfl,(t.p2_1 [0] rfl rfl)⟩
  have q18:¬ (k=1∨(1<d∧4<k)):=by rw [h18] at e18;exact of_decide_eq_false e18.symm
  refine .cu (X:=Bool) [(0,_),(1,_),(4,_),(5,_)] ⟨rfl,rfl,rfl,rfl,trivial⟩ (fun z=>[(30,.bool z)]) (fun z=>H) (fun z=>(.box b (mkC M arV z10 left) 172::.box b4 [.int .i64 0,.string ⟨#[]⟩,.int .i64 0,.slice none 0 0] 33::bs)) (fun z=>z=decide (k=2∧0<M.flags)) ?_ fun z hC=>?_
  ·
   refine .rg<|.m Z Z<|.yv (.eql Z Z) Z<|.m Z Z<|.b2 (fun h33=>?_) (fun h33=>?_)
   ·try simp only [dt] at h33
    exact .gd Z Z<|.yv (.move Z) Z<|.gd Z Z<|.yv (.nilCheck Z) Z<|.gd Z Z<|.yv (.fieldAddr Z Fx.field172_2) Z<|.gd Z Z<|.yv (.load Z Fx.agg3 (.head _) Z) Z<|.gd Z Z<|.yv (.gtr Z Z) Z<|.yv (.pickT Z Z) Z<|.a Z Z<|.nt<|.me _ ⟨rfl,trivial⟩ ⟨rfl,rfl,rfl,rfl,trivial⟩ (fun _ s=>s) (by rw [Bool.eq_iff_iff,decide_eq_true_eq];first | (rw [decide_eq_true_eq];omega) | exact ⟨fun _=>by omega,fun _=>rfl⟩ | exact ⟨fun h=>(by cases h),fun h=>by omega⟩)
   try simp only [df] at h33
   exact .gG<|.gG<|.gG<|.gG<|.gG<|.yv (.pickF Z Z) Z<|.a Z Z<|.nt<|.me _ ⟨rfl,trivial⟩ ⟨rfl,rfl,rfl,rfl,trivial⟩ (fun _ s=>s) (by rw [Bool.eq_iff_iff,decide_eq_true_eq];first | (rw [decide_eq_true_eq];omega) | exact ⟨fun _=>by omega,fun _=>rfl⟩ | exact ⟨fun h=>(by cases h),fun h=>by omega⟩)
  have e30:=hC;refine .cd Z (fun h30=>?_) (fun h30=>?_)
  ·have q30:k=2∧0<M.flags:=by rw [h30] at e30;exact of_decide_eq_true e30.symm
   refine .sq<|.fl (trip:=[(_,_,_),(_,_,_),(_,_,_),(_,_,_),(_,_,_),(_,_,_),(_,_,_),(_,_,_),(_,_,_),(_,_,_)]) 10 [(1,0),(2,0),(3,0),(4,0),(5,0),(0,1),(6,2),(7,0),(8,0),(9,0)] (by kernel_rfl) (by kernel_rfl) Z<|.m Z Z<|.m Z Z<|.yv (.nilCheck Z) Z<|.yv (.fieldAddr Z Fx.field172_2) Z<|.yv (.load Z Fx.agg3 (.head _) Z) Z<|.ct (X:=Value) Fx.call65 Z (fun W s=>fB H 102 2 (by omega) W s.agr) Z fun v40 H40 hn40 u40=>?_
   obtain ⟨pn40,cn40,e40,_⟩:=hn40.sl;simp only [List.cons.injEq,and_true,List.length_map,dK] at e40;subst e40;obtain ⟨bE,oE,hpE,mE⟩:=iR hn40 (k:=(aF b1 M.flags).1) (by have:=bW b1 (n:=M.flags) (by omega);have:=hM.2.2.2;omega);subst hpE;refine .cs (X:=Value) Fx.call143 Z (fun W s=>fV M.flags (by omega) (hz10.up u40.up)  (s.p2_2 [0,1] Z Z)) Z fun z46 hz46=>.yv (.indexSl Fx.sl52 Z Z (i:=(aF b1 M.flags).1) Z (by have:=bW b1 (n:=M.flags) (by omega);have:=hM.2.2.2;omega) (q:=oE+(aF b1 M.flags).1 * 1) Z) Z<|.yv (.loadM Z Fx.agg9 mE (k:=0) Z Z) Z<|.yv (.build Z (Fx.bld33_0_1 _ _)) Z<|.fn (tl:=[_]) Z<|.sW (.tail<|.head) Z Z Fx.size33 (by simp [Value.oneCell',aD]) Z<|.nt<|.rt<|.bR<|.tR<|?_
   exact Sx.ret1 (.inl rfl) rfl (.cell rfl Fx.agg33 (.tail _<|.head _) rfl) fun W t=>⟨(_,_,H40),by rw [show mL M d rec k b1=_ from by rw [mL,if_neg (by omega),if_neg (by omega),if_pos (by omega)]];exact ⟨u40,dJ (args:=[]) (by simp [nmB]) (Rep.empty (by decide)),hz46⟩,rfl,(t.p2_1 [0] rfl rfl)⟩
  have q30:¬ (k=2∧0<M.flags):=by rw [h30] at e30;exact of_decide_eq_false e30.symm
  refine .cu (X:=Bool) [(0,_),(1,_),(4,_),(5,_)] ⟨rfl,rfl,rfl,rfl,trivial⟩ (fun z=>[(50,.bool z)]) (fun z=>H) (fun z=>(.box b (mkC M arV z10 left) 172::.box b4 [.int .i64 0,.string ⟨#[]⟩,.int .i64 0,.slice none 0 0] 33::bs)) (fun z=>z=decide (k=3∧0<M.tables)) ?_ fun z hC=>?_
  ·
   refine .rg<|.m Z Z<|.yv (.eql Z Z) Z<|.m Z Z<|.b2 (fun h53=>?_) (fun h53=>?_)
   ·try simp only [dt] at h53
    exact .gd Z Z<|.yv (.move Z) Z<|.gd Z Z<|.yv (.nilCheck Z) Z<|.gd Z Z<|.yv (.fieldAddr Z Fx.field172_1) Z<|.gd Z Z<|.yv (.load Z Fx.agg3 (.head _) Z) Z<|.gd Z Z<|.yv (.gtr Z Z) Z<|.yv (.pickT Z Z) Z<|.a Z Z<|.nt<|.me _ ⟨rfl,trivial⟩ ⟨rfl,rfl,rfl,rfl,trivial⟩ (fun _ s=>s) (by rw [Bool.eq_iff_iff,decide_eq_true_eq];first | (rw [decide_eq_true_eq];omega) | exact ⟨fun _=>by omega,fun _=>rfl⟩ | exact ⟨fun h=>(by cases h),fun h=>by omega⟩)
   try simp only [df] at h53
   exact .gG<|.gG<|.gG<|.gG<|.gG<|.yv (.pickF Z Z) Z<|.a Z Z<|.nt<|.me _ ⟨rfl,trivial⟩ ⟨rfl,rfl,rfl,rfl,trivial⟩ (fun _ s=>s) (by rw [Bool.eq_iff_iff,decide_eq_true_eq];first | (rw [decide_eq_true_eq];omega) | exact ⟨fun _=>by omega,fun _=>rfl⟩ | exact ⟨fun h=>(by cases h),fun h=>by omega⟩)
  have e50:=hC;refine .cd Z (fun h50=>?_) (fun h50=>?_)
  ·have q50:k=3∧0<M.tables:=by rw [h50] at e50;exact of_decide_eq_true e50.symm
   refine .sr<|.m Z Z<|.cs (X:=List Value × Value × Hp) Fx.call160 Z (fun W s=>iQ M hM 2 (by decide) H w0 W _ b arV _ left b1 hz10  (s.p2_2 [0,1] Z Z)) Z fun z61 hz61=>?_
   obtain ⟨x61,v61,H61⟩:=z61;obtain ⟨u61,r61,q61⟩:=hz61;dsimp only at u61 r61 q61 ⊢;generalize hE61:(eR M 2 b1).1=e61 at r61;obtain ⟨op61,nm61,n61,a61⟩:=e61;obtain ⟨p61,c61,rfl,hs61,hl61⟩:=bU r61;refine .bl Z (Fx.bsl31_1 _ _ _ _) Z fun b62=>.yv (.build Z (Fx.bld33_0_1_3 _ _ _ _ _)) Z<|.sW (.tail<|.tail<|.head) Z Z Fx.size33 (by simp [Value.oneCell',aD]) Z<|.nt<|.rt<|.bR<|.tR<|?_
   refine At.pt (hd:=[_,_,_]) (tl:=bs) (hd':=[_,_,_]) [0,2,1] rfl rfl ?_;refine Sx.freezeBox fun Hf uf mf=>?_;exact Sx.ret1 (.inl rfl) rfl (.cell rfl Fx.agg33 (.head _) rfl) fun W t=>⟨(_,_,Hf),by rw [show mL M d rec k b1=_ from by rw [mL,if_neg (by omega),if_neg (by omega),if_neg (by omega),if_pos (by omega)],hE61];exact ⟨u61.trans uf,dJ (nm:=[116,48]) (args:=[.mk op61 nm61 n61 a61]) (by decide) (Rep.mk (n:=1) (c:=1) mf (.single (r61.up uf.up) rfl) rfl (Nat.le_refl _) (by decide)),q61.up uf.up⟩,rfl,t.drop⟩
  have q50:¬ (k=3∧0<M.tables):=by rw [h50] at e50;exact of_decide_eq_false e50.symm
  refine .sr<|.m Z Z<|.yv (.eql Z Z) Z<|.a Z Z<|.nt<|.cd Z (fun h64=>?_) (fun h64=>?_)
  ·try simp only [dt] at h64
   refine .sr<|.m Z Z<|.m Z Z<|.yv (.add Z Z (c:=((d+1:Nat):Int)) ((w6 (by omega)).trans (by omega))) Z<|.cs (X:=List Value × Value × Hp) Fx.call159 Z (fun W s=>hrec (by omega) H w0 W _ b arV _ left b1 hz10  (s.p2_2 [0,1] Z Z)) Z fun z70 hz70=>?_
   obtain ⟨x70,v70,H70⟩:=z70;obtain ⟨u70,r70,q70⟩:=hz70;dsimp only at u70 r70 q70 ⊢;generalize hE70:(rec b1).1=e70 at r70;obtain ⟨op70,nm70,n70,a70⟩:=e70;obtain ⟨p70,c70,rfl,hs70,hl70⟩:=bU r70;refine .bl Z (Fx.bsl31_1 _ _ _ _) Z fun b71=>.yv (.build Z (Fx.bld33_0_3 _ _ _ _)) Z<|.sW (.tail<|.tail<|.head) Z Z Fx.size33 (by simp [Value.oneCell',aD]) Z<|.nt<|.rt<|.bR<|.tR<|?_
   refine At.pt (hd:=[_,_,_]) (tl:=bs) (hd':=[_,_,_]) [0,2,1] rfl rfl ?_;refine Sx.freezeBox fun Hf uf mf=>?_;exact Sx.ret1 (.inl rfl) rfl (.cell rfl Fx.agg33 (.head _) rfl) fun W t=>⟨(_,_,Hf),by rw [show mL M d rec k b1=_ from by rw [mL,if_neg (by omega),if_neg (by omega),if_neg (by omega),if_neg (by omega),if_pos (by omega)],hE70];exact ⟨u70.trans uf,dJ (nm:=[]) (args:=[.mk op70 nm70 n70 a70]) (by decide) (Rep.mk (n:=1) (c:=1) mf (.single (r70.up uf.up) rfl) rfl (Nat.le_refl _) (by decide)),q70.up uf.up⟩,rfl,t.drop⟩
  try simp only [df] at h64
  refine .cu (X:=Bool) [(0,_),(1,_),(4,_),(5,_)] ⟨rfl,rfl,rfl,rfl,trivial⟩ (fun z=>[(73,.bool z)]) (fun z=>H) (fun z=>(.box b (mkC M arV z10 left) 172::.box b4 [.int .i64 0,.string ⟨#[]⟩,.int .i64 0,.slice none 0 0] 33::bs)) (fun z=>z=decide (k=6∨k=7)) ?_ fun z hC=>?_
  ·
   refine .rg<|.m Z Z<|.yv (.eql Z Z) Z<|.m Z Z<|.b2 (fun h76=>?_) (fun h76=>?_)
   ·try simp only [dt] at h76
    exact .gG<|.gG<|.yv (.pickT Z Z) Z<|.a Z Z<|.nt<|.me _ ⟨rfl,trivial⟩ ⟨rfl,rfl,rfl,rfl,trivial⟩ (fun _ s=>s) (by rw [Bool.eq_iff_iff,decide_eq_true_eq];first | (rw [decide_eq_true_eq];omega) | exact ⟨fun _=>by omega,fun _=>rfl⟩ | exact ⟨fun h=>(by cases h),fun h=>by omega⟩)
   try simp only [df] at h76
   exact .gd Z Z<|.yv (.move Z) Z<|.gd Z Z<|.yv (.eql Z Z) Z<|.yv (.pickF Z Z) Z<|.a Z Z<|.nt<|.me _ ⟨rfl,trivial⟩ ⟨rfl,rfl,rfl,rfl,trivial⟩ (fun _ s=>s) (by rw [Bool.eq_iff_iff,decide_eq_true_eq];first | (rw [decide_eq_true_eq];omega) | exact ⟨fun _=>by omega,fun _=>rfl⟩ | exact ⟨fun h=>(by cases h),fun h=>by omega⟩)
  have e73:=hC;refine .cd Z (fun h73=>?_) (fun h73=>?_)
  ·have q73:k=6∨k=7:=by rw [h73] at e73;exact of_decide_eq_true e73.symm
   refine .sr<|.m Z Z<|.m Z Z<|.yv (.add Z Z (c:=((d+1:Nat):Int)) ((w6 (by omega)).trans (by omega))) Z<|.cs (X:=List Value × Value × Hp) Fx.call159 Z (fun W s=>hrec (by omega) H w0 W _ b arV _ left b1 hz10  (s.p2_2 [0,1] Z Z)) Z fun z83 hz83=>?_
   obtain ⟨x83,v83,H83⟩:=z83;obtain ⟨u83,r83,q83⟩:=hz83;dsimp only at u83 r83 q83 ⊢;generalize hE83:(rec b1).1=e83 at r83;obtain ⟨op83,nm83,n83,a83⟩:=e83;obtain ⟨p83,c83,rfl,hs83,hl83⟩:=bU r83;refine .al Fx.zero33 Z fun b6=>.sW .head Z Z Fx.size33 (by simp [Value.oneCell',aD]) Z<|.nt<|.sq<|.fl (trip:=[(_,_,_),(_,_,_),(_,_,_),(_,_,_),(_,_,_),(_,_,_),(_,_,_),(_,_,_),(_,_,_)]) 9 [(0,0),(1,0),(2,0),(3,0),(4,0),(5,0),(6,3),(7,1),(8,0)] (by kernel_rfl) (by kernel_rfl) Z<|.m Z Z<|.yv (.add Z Z (c:=(((16+UInt8.ofNat k).toNat:Nat):Int)) (by rw [TL hk12];exact (w6 (by omega)).trans (by omega))) Z<|.yv (.loadW Z Fx.agg33 (.head _) Z) Z<|.m Z Z<|.m Z Z<|.yv (.add Z Z (c:=((d+1:Nat):Int)) ((w6 (by omega)).trans (by omega))) Z<|.c3 (X:=List Value × Value × Hp) Fx.call159 Z (fun W s=>hrec (by omega) H83 w0 W _ b arV _ left (rec b1).2 q83  (s.p3_3 [1,0,2] Z Z)) Z (fun z90 hz90=>(.dn<|.dn<|.dn<|.yv (.loadW Z Fx.agg33 (.tail _<|.head _) Z)<|.yv (.add Z Z (c:=(((16+UInt8.ofNat k).toNat:Nat):Int)) (by rw [TL hk12];exact (w6 (by omega)).trans (by omega)))<|.yv (.move Z)<|.nl)) fun z90 hz90=>?_
   obtain ⟨x90,v90,H90⟩:=z90;obtain ⟨u90,r90,q90⟩:=hz90;dsimp only at u90 r90 q90 ⊢;generalize hE90:(rec (rec b1).2).1=e90 at r90;obtain ⟨op90,nm90,n90,a90⟩:=e90;obtain ⟨p90,c90,rfl,hs90,hl90⟩:=bU r90;refine .bl Z (Fx.bsl31_2 _ _ _ _ _ _ _ _) Z fun b91=>.yv (.build Z (Fx.bld33_0_3 _ _ _ _)) Z<|.fn (tl:=[_]) Z<|.sW (.tail<|.tail<|.tail<|.head) Z Z Fx.size33 (by simp [Value.oneCell',aD]) Z<|.nt<|.rt<|.bR<|.tR<|?_
   refine At.pt (hd:=[_,_,_,_]) (tl:=bs) (hd':=[_,_,_]) [0,3,1] rfl rfl ?_;refine Sx.freezeBox fun Hf uf mf=>?_;exact Sx.ret1 (.inl rfl) rfl (.cell rfl Fx.agg33 (.head _) rfl) fun W t=>⟨(_,_,Hf),by rw [show mL M d rec k b1=_ from by rw [mL,if_neg (by omega),if_neg (by omega),if_neg (by omega),if_neg (by omega),if_neg (by omega),if_pos (by omega)],hE83,hE90];exact ⟨(u83.trans u90).trans uf,dJ (nm:=[]) (args:=[.mk op83 nm83 n83 a83,.mk op90 nm90 n90 a90]) (by decide) (Rep.mk (n:=2) (c:=2) mf (aN.app (aN.single ((r83.up u90.up).up uf.up) rfl) (aN.single (r90.up uf.up) rfl)) rfl (Nat.le_refl _) (by decide)),q90.up uf.up⟩,rfl,t.drop⟩
  have q73:¬ (k=6∨k=7):=by rw [h73] at e73;exact of_decide_eq_false e73.symm
  exact .sk<|.bN<|.tN<|.me () trivial ⟨rfl,rfl,trivial⟩ (fun _ s=>s) (by omega)
 obtain ⟨hc1,hc2,hc3,hc4,hc5,hc6⟩:=hC;refine .sr<|.m Z Z<|.cs (X:=Value) Fx.call143 Z (fun W s=>fV 6 (by decide) hz10  (s.p2_2 [0,1] Z Z)) Z fun z94 hz94=>.yv (.add Z Z (c:=(((16+UInt8.ofNat (aF b1 6).1).toNat:Nat):Int)) (by have:=bW b1 (n:=6) (by decide);rw [TL (by omega)];exact (w6 (by omega)).trans (by omega))) Z<|.a Z Z<|.ns<|.m Z Z<|.cs (X:=List Value × Value × Hp) Fx.call160 Z (fun W s=>iQ M hM 2 (by decide) H w0 W _ b arV _ left (aF b1 6).2 hz94  (s.p2_2 [0,1] Z Z)) Z fun z97 hz97=>?_
 obtain ⟨x97,v97,H97⟩:=z97;obtain ⟨u97,r97,q97⟩:=hz97;dsimp only at u97 r97 q97 ⊢;generalize hE97:(eR M 2 (aF b1 6).2).1=e97 at r97;obtain ⟨op97,nm97,n97,a97⟩:=e97;obtain ⟨p97,c97,rfl,hs97,hl97⟩:=bU r97;refine .al Fx.zero33 Z fun b8=>.sW .head Z Z Fx.size33 (by simp [Value.oneCell',aD]) Z<|.nt<|.sq<|.fl (trip:=[(_,_,_),(_,_,_),(_,_,_),(_,_,_),(_,_,_),(_,_,_)]) 6 [(0,0),(1,0),(2,0),(3,3),(4,1),(5,0)] (by kernel_rfl) (by kernel_rfl) Z<|.m Z Z<|.yv (.loadW Z Fx.agg33 (.head _) Z) Z<|.m Z Z<|.c3 (X:=List Value × Value × Hp) Fx.call160 Z (fun W s=>iQ M hM 2 (by decide) H97 w0 W _ b arV _ left (eR M 2 (aF b1 6).2).2 q97  (s.p3_3 [1,0,2] Z Z)) Z (fun z101 hz101=>(.dn<|.yv (.loadW Z Fx.agg33 (.tail _<|.head _) Z)<|.yv (.move Z)<|.nl)) fun z101 hz101=>?_
 obtain ⟨x101,v101,H101⟩:=z101;obtain ⟨u101,r101,q101⟩:=hz101;dsimp only at u101 r101 q101 ⊢;generalize hE101:(eR M 2 (eR M 2 (aF b1 6).2).2).1=e101 at r101;obtain ⟨op101,nm101,n101,a101⟩:=e101;obtain ⟨p101,c101,rfl,hs101,hl101⟩:=bU r101;refine .bl Z (Fx.bsl31_2 _ _ _ _ _ _ _ _) Z fun b102=>.yv (.build Z (Fx.bld33_0_3 _ _ _ _)) Z<|.fn (tl:=[_]) Z<|.sW (.tail<|.tail<|.tail<|.head) Z Z Fx.size33 (by simp [Value.oneCell',aD]) Z<|.nt<|.rt<|?_
 refine At.pt (hd:=[_,_,_,_]) (tl:=bs) (hd':=[_,_,_]) [0,3,1] rfl rfl ?_;refine Sx.freezeBox fun Hf uf mf=>?_;exact Sx.ret1 (.inl rfl) rfl (.cell rfl Fx.agg33 (.head _) rfl) fun W t=>⟨(_,_,Hf),by rw [show mL M d rec k b1=_ from by rw [mL,if_neg (by omega),if_neg (by omega),if_neg (by omega),if_neg (by omega),if_neg (by omega),if_neg (by omega)],hE97,hE101];exact ⟨(u97.trans u101).trans uf,dJ (nm:=[]) (args:=[.mk op97 nm97 n97 a97,.mk op101 nm101 n101 a101]) (by decide) (Rep.mk (n:=2) (c:=2) mf (aN.app (aN.single ((r97.up u101.up).up uf.up) rfl) (aN.single (r101.up uf.up) rfl)) rfl (Nat.le_refl _) (by decide)),q101.up uf.up⟩,rfl,t.drop⟩
theorem nT (M:Mk) (hM:okM M):∀ f,f≤2→OO (jN M f) M (2 - f)
 | 0,_=>tX M hM 2 (by omega) _ (fun h=>by omega)
 | f+1,hf=>by
  have e:2 - (f+1)=1 - f:=by omega
  rw [e];refine tX M hM (1 - f) (by omega) (jN M f) fun _=>?_;rw [show 1 - f+1=2 - f by omega];exact nT M hM f (by omega)
end Go.Proofs.YthhoebdlfjffkaaGreatDoor
