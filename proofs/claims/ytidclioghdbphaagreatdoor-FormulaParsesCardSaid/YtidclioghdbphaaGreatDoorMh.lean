/- Texts of the proof, one behind the other. -/
import Derived.Test.YtidclioghdbphaaGreatDoorMg
set_option linter.all false
set_option maxRecDepth 100000
namespace Go.Proofs.YtidclioghdbphaaGreatDoor
open Go.RowKit Go.Par Go.Sx Tryz
theorem QK (q:UInt8->Bool) (c:UInt8) (r:Str):pre q (c::r)=if q c then pre q r+1 else 0:=by
 unfold pre;rw [dZ]
 split <;> simp
theorem QJ (q:UInt8->Bool):∀ (m:Str),pre q (m.take (pre q m))=pre q m
 | []=>rfl
 | c::r=>by
  rw [QK];cases h:q c with
  | false=>rw [aD (by decide)];rfl
  | true=>rw [aM rfl,List.take_succ_cons,QK,h,aM rfl,QJ q r]
theorem ZV {m:Str} (h:m≠[]) (hk:(bM m).1=3):pre iC (m.take (bM m).2)=(m.take (bM m).2).length:=by
 have key:(bM m).2=pre iC m:=by
  match m,h with
  | c::r,_ =>
   cases h1:nG c with
   | true =>
    exfalso
    revert hk
    cases h4:words.contains ((c::r).take (pre iR (c::r))) with
    | true=>simp only [bM,aH,h1,h4,aU];decide
    | false =>
     by_cases h5:pre iR (c::r)<=12
     ·simp only [bM,aH,h1,h4,h5,aU,aB,aS];decide
     ·simp only [bM,aH,h1,h4,h5,aU,aB,aS];decide
   | false =>
    cases h4:iC c with
    | true =>
     by_cases h5:pre iC (c::r)=1\/c≠48
     ·simp only [bM,aH,h1,h4,h5,aU,aB,aS]
     ·exfalso;revert hk;simp only [bM,aH,h1,h4,h5,aU,aB,aS];decide
    | false =>
     exfalso
     revert hk
     cases hx:symbols.find? (λx=>x.isPrefixOf (c::r)) <;> simp only [bM,aH,h1,h4,hx,aB,aS] <;> decide
 rw [key,QJ,dV,tI (uC iC m)]
theorem PU:∀ (f o:Nat) (m:Str),∀ t∈AD f o m,t.k=3->pre iC t.t=t.t.length
 | 0,_,_,t,h=>by cases h
 | f+1,o,m,t,h=>by
  by_cases h0:m=[]
  ·rw [h0,oK] at h;cases h
  ·rw [mL h0] at h;rcases bP.1 h with rfl | h
   ·exact λhk=>ZV h0 hk
   ·exact PU f _ _ t h
theorem QT (s:Str):∀ t∈nQ s,t.k=3->pre iC t.t=t.t.length:=PU _ _ _
theorem KA:∀ (f o:Nat) (m:Str),∀ t∈AD f o m,t.t.length<=m.length
 | 0,_,_,t,h=>by cases h
 | f+1,o,m,t,h=>by
  by_cases h0:m=[]
  ·rw [h0,oK] at h;cases h
  ·rw [mL h0] at h;rcases bP.1 h with rfl | h
   ·show (m.take _).length<=_;rw [dV];omega
   ·have h1:=KA f _ _ t h;have h2:=nA false (m.drop (bM m).2);rw [cS] at h2;omega
theorem CL (s:Str):∀ t∈nQ s,t.t.length<=s.length:=λt h=>aV (KA _ _ _ t h) (nA false s)

theorem aN2 {m:Str} (h:m≠[]) (hk:(bM m).1=1):(m.take (bM m).2).all iR=true:=by
 have key:(bM m).2=pre iR m:=by
  match m,h with
  | c::r,_ =>
   cases h1:nG c with
   | true =>
    revert hk
    cases h4:words.contains ((c::r).take (pre iR (c::r))) with
    | true=>simp only [bM,aH,h1,h4,aU];decide
    | false =>
     by_cases h5:pre iR (c::r)<=12
     ·simp only [bM,aH,h1,h4,h5,aU,aB,aS];exact λ_=>trivial
     ·simp only [bM,aH,h1,h4,h5,aU,aB,aS];intro h;exact absurd h (by decide)
   | false =>
    exfalso
    revert hk
    cases h4:iC c with
    | true =>
     by_cases h5:pre iC (c::r)=1\/c≠48
     ·simp only [bM,aH,h1,h4,h5,aU,aB,aS];decide
     ·simp only [bM,aH,h1,h4,h5,aU,aB,aS];decide
    | false =>
     cases hx:symbols.find? (λx=>x.isPrefixOf (c::r)) <;> simp only [bM,aH,h1,h4,hx,aB,aS] <;> decide
 rw [key];unfold pre
 have:m.take (m.takeWhile iR).length=m.takeWhile iR:=by
  have:=List.takeWhile_append_dropWhile (p:=iR) (l:=m)
  conv=>lhs;rw [<-this]
  rw [List.take_left' (by rw [this])]
 rw [this];exact List.all_takeWhile
theorem VS:∀ (f o:Nat) (m:Str),∀ t∈AD f o m,t.k=1->t.t.all iR=true
 | 0,_,_,t,h=>by cases h
 | f+1,o,m,t,h=>by
  by_cases h0:m=[]
  ·rw [h0,oK] at h;cases h
  ·rw [mL h0] at h;rcases bP.1 h with rfl | h
   ·exact λhk=>aN2 h0 hk
   ·exact VS f _ _ t h
theorem bD7 (s:Str):∀ t∈nQ s,t.k=1->t.t.all iR=true:=VS _ _ _
def aQ2 (s:Str):Tk:=⟨0,[],s.length⟩
def qR (s:Str):Tks:=nQ s++[aQ2 s]
theorem vS (s:Str):(qR s).length=(nQ s).length+1:=by unfold qR;rw [aE];rfl
theorem PV (s:Str) (i:Nat):tkf (qR s) i∈nQ s\/(tkf (qR s) i).k=0:=by
 unfold tkf qR;rw [List.getD_eq_getElem?_getD]
 by_cases h:i<(nQ s).length
 ·rw [List.getElem?_append_left h,List.getElem?_eq_getElem h];exact .inl (bI h)
 ·rw [List.getElem?_append_right (by omega)];cases e:i - (nQ s).length with
  | zero=>exact .inr rfl
  | succ n=>exact .inr rfl
theorem ZI (s:Str):Tgd (qR s):=by
 refine ⟨λi hi hk=>?_,λi hk=>?_,λi hk=>?_⟩
 ·rw [vS] at hi|-;refine Classical.byContradiction λhn=>hk ?_;have e:i=(nQ s).length:=by omega
  unfold tkf qR;rw [List.getD_eq_getElem?_getD,List.getElem?_append_right (by omega),e,jP];rfl
 ·rcases PV s i with h | h
  ·exact (QU s _ h).2.2
  ·rw [h] at hk;exact absurd hk (by decide)
 ·rcases PV s i with h | h
  ·exact aA2 (bD7 s _ h hk)
  ·rw [h] at hk;exact absurd hk (by decide)
/-! ### Lists that are not long -/
section
variable {N:Nat} {l:Tks} {q:Ps} {c:Rq} {o:Ov} {v:Vl} {x:Vb} {f:Fm}
def VbN (N:Nat) (x:Vb):Prop:=∀ v∈x.1,blE N v.e=true/\blF N v.f=true
structure Fbd (N:Nat) (q:Ps):Prop where
 x:VbN N q.x
 op:∀ o∈q.op,blF N o.f=true
theorem BU:blE N zE=true:=CZ.2 ⟨aP _,λa h=>(by cases h)⟩
theorem kW {op:UInt8} {nm fd:Str} {a b:Int64}:blF N (.mk op nm fd a b [] [])=true:=xX.2 ⟨⟨aP _,aP _,λa h=>(by cases h)⟩,λa h=>(by cases h)⟩
theorem DA {op:UInt8} {nm:Str} {z:Int64} {es:List Ex} (h:es.length<=N) (k:∀ e∈es,blE N e=true):blE N (.mk op nm z es)=true:=CZ.2 ⟨h,k⟩
theorem UV {gs:List Fm} (h:blF N f=true) (hl:gs.length<=N) (hg:∀ g∈gs,blF N g=true):blF N (f.wAr gs)=true:=by
 obtain ⟨op,nm,fd,a,b,ex,args⟩:=f;have:=xX.1 h;exact xX.2 ⟨⟨this.1.1,hl,this.1.2.2⟩,hg⟩
theorem LM {es:List Ex} (h:blF N f=true) (hl:es.length<=N) (hg:∀ g∈es,blE N g=true):blF N (f.wEx es)=true:=by
 obtain ⟨op,nm,fd,a,b,ex,args⟩:=f;have:=xX.1 h;exact xX.2 ⟨⟨hl,this.1.2.1,hg⟩,this.2⟩
theorem cE5 (h:blF N f=true):∀ e∈f.ex,blE N e=true:=by
 obtain ⟨op,nm,fd,a,b,ex,args⟩:=f;exact (xX.1 h).1.2.2
theorem KS (h:VbN N x):blE N (sB x).e=true/\blF N (sB x).f=true:=by
 unfold sB;cases e:x.1 with
 | nil=>exact ⟨BU,kW⟩
 | cons v r=>exact h v (by rw [e];exact bQ ..)
theorem ZC {b:Bool} (h:VbN N x):VbN N (x.1.tail,b):=λv hv=>h v (List.mem_of_mem_tail hv)
theorem xH (h:VbN N x):VbN N (tS x):=ZC h
theorem LV (h:VbN N x):VbN N (fS x):=ZC h
theorem FD (h:VbN N x):blE N (tE x)=true:=(KS h).1
theorem IM (h:VbN N x):blF N (fF x)=true:=by
 unfold fF Vl.fm
 split
 ·exact kW
 ·exact (KS h).2
theorem AC (h:VbN N x) (he:blE N v.e=true) (hf:blF N v.f=true):VbN N (x.put v):=λu hu=>by
 rcases bP.1 hu with rfl | hu
 ·exact ⟨he,hf⟩
 ·exact h u hu
theorem bl1 {e:Ex} (hN:2<=N) (h:blE N e=true):([e]:List Ex).length<=N/\∀ x∈[e],blE N x=true:=⟨by show 1<=N;omega,λx hx=>by rw [cO.1 hx];exact h⟩
theorem bl2 {e g:Ex} (hN:2<=N) (h:blE N e=true) (k:blE N g=true):([e,g]:List Ex).length<=N/\∀ x∈[e,g],blE N x=true:=⟨hN,λx hx=>by
 rcases bP.1 hx with rfl | hx
 ·exact h
 ·rw [cO.1 hx];exact k⟩
theorem bf1 {e:Fm} (hN:2<=N) (h:blF N e=true):([e]:List Fm).length<=N/\∀ x∈[e],blF N x=true:=⟨by show 1<=N;omega,λx hx=>by rw [cO.1 hx];exact h⟩
theorem bf2 {e g:Fm} (hN:2<=N) (h:blF N e=true) (k:blF N g=true):([e,g]:List Fm).length<=N/\∀ x∈[e,g],blF N x=true:=⟨hN,λx hx=>by
 rcases bP.1 hx with rfl | hx
 ·exact h
 ·rw [cO.1 hx];exact k⟩
theorem aW7 (hN:2<=N) (h:VbN N x) (ho:blF N o.f=true):VbN N (wF o x):=by
 unfold wF
 split
 ·have:=bl1 hN (FD h);exact AC (xH h) (DA this.1 this.2) kW
 split
 ·have:=bl2 hN (FD (xH h)) (FD h);exact AC (xH (xH h)) (DA this.1 this.2) kW
 split
 ·have:=bl2 hN (FD (xH h)) (FD h);have k:=bl1 hN (DA (op:=o.op) (nm:=[]) (z:=0) this.1 this.2);exact AC (xH (xH h)) BU (xX.2 ⟨⟨k.1,aP _,k.2⟩,λa h=>(by cases h)⟩)
 split
 ·have:=bf1 hN (IM h);exact AC (LV h) BU (UV ho this.1 this.2)
 split
 ·have:=bf2 hN (IM (LV h)) (IM h);exact AC (LV (LV h)) BU (UV ho this.1 this.2)
 ·exact h
theorem aG9 (hN:2<=N) {lv:Nat}:∀ (r:List Ov) (x:Vb),(∀ o∈r,blF N o.f=true)->VbN N x->VbN N (xM lv r x).2
 | [],x,_,h=>h
 | o::r,x,ho,h=>by
  rw [xM]
  split
  ·exact aG9 hN r _ (λz hz=>ho z (cI _ hz)) (aW7 hN h (ho o (bQ ..)))
  ·exact h
theorem LL (hN:2<=N) {lv:Nat} (h:Fbd N q):Fbd N (kK lv q):=⟨aG9 hN q.op q.x h.op h.x,λo ho=>h.op o (MK q.op q.x o ho)⟩
theorem nJ (h:Fbd N q) (ho:blF N o.f=true):Fbd N (fR o (q.at c)):=⟨h.x,λz hz=>by
 rcases bP.1 hz with rfl | hz
 ·rw [bW8];exact ho
 ·exact h.op z hz⟩
theorem sK (h:Fbd N q) (he:blE N v.e=true) (hf:blF N v.f=true):Fbd N (jA v (q.at c)):=⟨AC h.x he hf,h.op⟩
theorem JF (h:Fbd N q):Fbd N (q.at c):=⟨h.x,h.op⟩
theorem HY (h:Fbd N q) (hx:VbN N x) (he:blE N v.e=true) (hf:blF N v.f=true):Fbd N (IB c v x q):=⟨AC hx he hf,λo ho=>h.op o (List.mem_of_mem_tail ho)⟩
theorem kE {c:Prop} [Decidable c] {a b:Ps} (h1:c->Fbd N a) (h2:¬ c->Fbd N b):Fbd N (if c then a else b):=by
 by_cases hc:c
 ·rw [aM hc];exact h1 hc
 ·rw [aD hc];exact h2 hc
theorem bH3 {q':Ps} (h:Fbd N q) (e:mV l q=some q'):Fbd N q':=by
 unfold mV at e
 split at e
 ·injection e with e;subst e;exact nJ h kW
 split at e
 ·injection e with e;subst e;exact nJ h kW
 split at e
 ·injection e with e;subst e;exact nJ h kW
 split at e
 ·injection e with e;subst e;exact nJ h kW
 split at e
 ·injection e with e;subst e;exact nJ h kW
 split at e
 ·injection e with e;subst e;exact nJ h kW
 split at e
 ·injection e with e;subst e;exact nJ h kW
 ·cases e
theorem aR1 {op:UInt8} {nm:Str} {z:Int64}:blE N (.mk op nm z [])=true:=DA (aP _) λa h=>(by cases h)
theorem bT2 (h:Fbd N q):Fbd N (wP l q):=by
 unfold wP;exact kE (λ_=>kE (λ_=>nJ h kW) λ_=>sK h aR1 kW) λ_=>sK h aR1 kW
theorem bT8 (h:Fbd N q):Fbd N (zQ l q):=by
 unfold zQ;exact kE (λ_=>sK h BU kW) λ_=>nJ h kW
theorem bT3 (h:Fbd N q):Fbd N (qO l q):=by
 unfold qO
 exact kE (λ_=>nJ h kW) λ_=>kE (λ_=>nJ h kW) λ_=>kE (λ_=>sK h aR1 kW) λ_=>kE (λ_=>bT2 h) λ_ =>
  kE (λ_=>sK h aR1 kW) λ_=>kE (λ_=>sK h aR1 kW) λ_=>kE (λ_=>sK h BU kW) λ_=>kE (λ_=>sK h BU kW) λ_ =>
  kE (λ_=>sK h BU kW) λ_=>kE (λ_=>nJ h kW) λ_=>kE (λ_=>bT8 (JF h)) λ_=>JF h
theorem YA (h:Fbd N q):Fbd N (eC l q):=by
 unfold eC;cases e:(if zD q then mV l q else none) with
 | some q' =>
  split at e
  ·exact bH3 h e
  ·cases e
 | none =>
  show Fbd N (xL l q);unfold xL;exact kE (λ_=>sK h BU kW) λ_=>bT3 h
theorem bT7 (hN:2<=N) {op:UInt8} (h:Fbd N q):Fbd N (sD l op q):=by
 have f {lv:Nat} {c:Rq}:Fbd N ((kK lv q).at c):=JF (LL hN h);have p {lv:Nat} {c:Rq} {o:Ov} (ho:blF N o.f=true):Fbd N (fR o ((kK lv q).at c)):=nJ (LL hN h) ho;unfold sD;exact kE (λ_=>kE (λ_=>f) λ_=>p kW) λ_=>kE (λ_=>kE (λ_=>f) λ_=>p kW) λ_=>kE (λ_=>f) λ_=>p kW
theorem cB5 (c:Rq):blF N (c.joV l)=true:=by
 unfold Rq.joV
 split
 ·exact kW
 split
 ·exact kW
 split
 ·exact kW
 split
 ·exact kW
 ·exact kW
theorem bT4 (hN:2<=N) (h:Fbd N q):Fbd N (xU l q):=by
 unfold xU;exact kE (λ_=>JF h) λ_=>nJ (q:=kK _ q) (c:=q.c.joS l) (LL hN h) (cB5 _)
theorem aJ7 (h:Fbd N q):blF N (dN q).f=true:=by
 unfold dN;cases e:q.op with
 | nil=>exact kW
 | cons o r=>exact h.op o (by rw [e];exact bQ ..)
theorem bS6 (h:Fex q):(dN q).f.ex.length<=q.c.i:=by
 unfold dN;cases e:q.op with
 | nil=>exact aP _
 | cons o r=>exact h o (by rw [e];exact bQ ..)
theorem bU8 (h:Fbd N q) (k:Fex q) (hi:q.c.i<N):((dN q).f.ex++[tE q.x]).length<=N/\∀ e∈(dN q).f.ex++[tE q.x],blE N e=true:=by
 refine ⟨?_,λe he=>?_⟩
 ·rw [aE];have:=bS6 k;simp only [aK,aQ];omega
 ·rcases cK.1 he with he | he
  ·exact cE5 (aJ7 h) e he
  ·rw [cO.1 he];exact FD h.x
theorem bT6 (hN:2<=N) (h:Fbd N q) (k:Fex q) (hi:q.c.i<N):Fbd N (mR l q):=by
 have s:=bU8 h k hi;have t:=aJ7 h;have e1:=bl1 hN (FD h.x);unfold mR
 refine kE (λ_=>⟨h.x,h.op⟩) λ_=>kE (λ_=>HY h (ZC h.x) (KS h.x).1 (KS h.x).2) λ_=>kE (λ_=>?_) λ_ =>
  kE (λ_=>kE (λ_=>HY h (xH h.x) (DA e1.1 e1.2) kW) λ_=>HY h (xH h.x) BU (LM t e1.1 e1.2)) λ_ =>
  kE (λ_=>⟨xH h.x,λz hz=>?_⟩) λ_=>kE (λ_=>HY h (xH h.x) BU (LM t s.1 s.2)) λ_=>JF h
 ·have n1:=bl1 (e:=.mk 1 [] ((q.c.nx.exS l [62,61]).nbV l) []) hN aR1;have f1:=bf1 hN (IM h.x);exact HY h (LV h.x) BU (UV (LM t n1.1 n1.2) f1.1 f1.2)
 ·have hz':z∈(⟨(dN q).kd,(dN q).lv,(dN q).tm,(dN q).op,(dN q).f.wEx ((dN q).f.ex++[tE q.x])⟩:Ov)::q.op.tail:=hz;rcases bP.1 hz' with e | hz
  ·subst e;exact LM t s.1 s.2
  ·exact h.op z (List.mem_of_mem_tail hz)
theorem bH2 (hN:2<=N) (h:Fbd N q) (k:Fex q) (hi:q.c.i<N):Fbd N (lM l q):=by
 unfold lM;refine kE (λ_=>?_) λ_=>YA h;unfold fQ;cases q.c.sym l with
 | some i=>exact bT7 hN h
 | none =>
  show Fbd N (qV l q);unfold qV;exact kE (λ_=>bT4 hN h) λ_=>kE (λ_=>bT6 hN (LL hN h) (AU k) hi) λ_=>JF h
theorem bT5:Fbd N NE:=⟨λv h=>(by cases h),λo ho=>by rw [cO.1 ho];exact kW⟩
/-! ### Where it ends, an operand stands ready -/
def Dnr (q:Ps):Prop:=q.dn=false\/q.rd=true
theorem kF {c:Prop} [Decidable c] {a b:Ps} (h1:c->Dnr a) (h2:¬ c->Dnr b):Dnr (if c then a else b):=by
 by_cases hc:c
 ·rw [aM hc];exact h1 hc
 ·rw [aD hc];exact h2 hc
theorem bI3 (hd:q.dn=false):Dnr (lM l q):=by
 have pu {o:Ov} {c:Rq}:Dnr (fR o (q.at c)):=.inl hd;have gi {v:Vl} {c:Rq}:Dnr (jA v (q.at c)):=.inl hd;have at_ {c:Rq}:Dnr (q.at c):=.inl hd
 have opd:Dnr (eC l q):=by
  unfold eC;cases e:(if zD q then mV l q else none) with
  | some q' =>
   split at e
   ·unfold mV at e
    split at e
    ·injection e with e;subst e;exact pu
    split at e
    ·injection e with e;subst e;exact pu
    split at e
    ·injection e with e;subst e;exact pu
    split at e
    ·injection e with e;subst e;exact pu
    split at e
    ·injection e with e;subst e;exact pu
    split at e
    ·injection e with e;subst e;exact pu
    split at e
    ·injection e with e;subst e;exact pu
    ·cases e
   ·cases e
  | none =>
   show Dnr (xL l q);unfold xL qO wP zQ
   refine kF (λ_=>gi) λ_=>kF (λ_=>pu) λ_=>kF (λ_=>pu) λ_=>kF (λ_=>gi) λ_=>kF (λ_=>kF (λ_=>kF (λ_=>pu) λ_=>gi) λ_=>gi) λ_ =>
    kF (λ_=>gi) λ_=>kF (λ_=>gi) λ_=>kF (λ_=>gi) λ_=>kF (λ_=>gi) λ_=>kF (λ_=>gi) λ_=>kF (λ_=>pu) λ_=>kF (λ_=>kF (λ_=>.inl hd) λ_=>.inl hd) λ_=>at_
 unfold lM;refine kF (λhr=>?_) λ_=>opd;unfold fQ;cases q.c.sym l with
 | some i =>
  show Dnr (sD l _ q);unfold sD;exact kF (λ_=>kF (λ_=>.inl hd) λ_=>.inl hd) λ_=>kF (λ_=>kF (λ_=>.inl hd) λ_=>.inl hd) λ_=>kF (λ_=>.inl hd) λ_=>.inl hd
 | none =>
  show Dnr (qV l q);unfold qV xU mR;exact kF (λ_=>kF (λ_=>.inl hd) λ_=>.inl hd) λ_=>kF (λ_=>kF (λ_=>.inr hr) λ_=>kF (λ_=>.inl hd) λ_=>kF (λ_=>.inl hd) λ_=>kF (λ_=>kF (λ_=>.inl hd) λ_=>.inl hd) λ_=>kF (λ_=>.inl hd) λ_=>kF (λ_=>.inl hd) λ_=>.inl hd) λ_=>.inl hd
end
variable {H H':Hp}
theorem aX0 {x:TkS} {l:List Value} (h:eJ H 3 [dTk .u8 x.1] l):eJ H' 3 (List.map (dTk .u8) (List.map (·.1) [x])) l:=by
 unfold eJ at h;obtain ⟨a,y,rfl,_,h1,h2⟩:=h;unfold eJ at h2;subst h2;rw [dO];obtain ⟨rfl,_⟩:=GR h1;exact .single (DE x.2) Z
theorem IL (H:Hp):Rep H (dFm .u8 zF) [.int .u8 0,.string ⟨#[]⟩,.string ⟨#[]⟩,.int .i64 0,.int .i64 0,.slice none 0 0,.slice none 0 0]:=sU (op:=0) (nm:=[]) (fd:=[]) (a:=0) (b:=0) (ex:=[]) (args:=[]) (by decide) (by decide) Rep.nil4 Rep.nil4
def muF (l:Tks) (q:Ps):Nat:=if q.fin then 0 else l.length - q.c.i
theorem aI1 {l:Tks} {q q':Ps} (h:¬ q.fin) (g:q'.fin\/q.c.i<q'.c.i) (hi:q.c.i<l.length):muF l q'<muF l q:=by
 unfold muF;rw [aD h]
 split
 ·omega
 ·rename_i h2;rcases g with g | g
  ·exact absurd g h2
  ·omega
section
variable {c:Rq} {op:List Ov} {v:Vl} {V:List Vl} {bd rd dn:Bool} {x:Vb}
theorem bI2 (h:¬ c.er=0):IA ⟨c,op,x,rd,dn⟩=(zF,c.off,c.er):=by unfold IA;exact aM h
theorem aJ9 (h:c.er=0) (hb:(bd || v.noF)=true):IA ⟨c,op,(v::V,bd),rd,dn⟩=(zF,0,6):=by
 unfold IA;rw [aD (show ¬ ¬ c.er=0 by rw [h];decide),aM (show (fS (v::V,bd)).2=true from hb)]
theorem aJ8 (h:c.er=0) (hb:(bd || v.noF)=false) (hc:¬ fH v.fm=0):IA ⟨c,op,(v::V,bd),rd,dn⟩=(zF,0,fH v.fm):=by
 unfold IA;rw [aD (show ¬ ¬ c.er=0 by rw [h];decide),aD (show ¬ (fS (v::V,bd)).2=true by rw [show (fS (v::V,bd)).2=false from hb];decide)];exact aM hc
theorem bI0 (h:c.er=0) (hb:(bd || v.noF)=false) (hc:fH v.fm=0):IA ⟨c,op,(v::V,bd),rd,dn⟩=(v.fm,0,0):=by
 unfold IA;rw [aD (show ¬ ¬ c.er=0 by rw [h];decide),aD (show ¬ (fS (v::V,bd)).2=true by rw [show (fS (v::V,bd)).2=false from hb];decide)];exact aD (show ¬ ¬ fH v.fm=0 by rw [hc];decide)
end
set_option maxHeartbeats 4000000 in
theorem NK (H:Hp) (G:Gl H) (Gt:Gf H) (t:Str) (hl:t.length<=400000) (w:World) (hA:Agr H w) :
 Calls prg 26 #[bV t] w λe W'=>∃ (cs:List Value) (H':Hp),Rep H' (dFm .u8 (wQ (qR t)).1) cs/\e=.returned (.tuple #[.agg cs.toArray,iN ((wQ (qR t)).2.1),iN ((wQ (qR t)).2.2)])/\zT H w H' W':=by
 refine Sx.enterM (H:=H) func26 rfl ntmps26 rfl hA ?_;refine .sr<|.al eS Z λb2=>.a Z Z<|.a Z Z<|.ns<|.yw (.build Z (GH _))<|.blR (z:=11) Z (GE _ _ _ _ _ _ _ _ _ _ _) Z Z (by simp [maxLen]) λb10=>.yw (.build Z (YZ _ _ _))<|.bx Z Z Z λb12=>.al aS0 Z λb5=>.st .head Z Z aS2 Z (nb Z) Z<|.nt<|.sq<|.sm Z<|.ct (X:=Nat) aT6 Z (λW s=>bQ6 H t W s.agr) Z λb1 H1 m1 u1=>.nt<|.bk<|?_
 refine Sx.row0 108 3 ?_;refine At.pm [0,2,1,3,4] [_,_,_,_,_] rfl rfl ?_
 refine At.rfB (α:=TkS) (Z:=Value × Nat × List Value) (N:=t.length+1) (e:=108) (T:=102) (TX:=108) (size:=3) (p:=b12) (fx:=[.box b5 [.pointer (some ⟨b12,0,none⟩)] 94,.row 97 11 (.slice (some ⟨b10,0,none⟩) 1 1) 1 [.int .u8 1,.int .i64 0,.bool false,.int .u8 0,.int .u8 0,.string ⟨#[]⟩,.string ⟨#[]⟩,.int .i64 0,.int .i64 0,.slice none 0 0,.slice none 0 0],.box b2 [.int .u8 0,.string ⟨#[]⟩,.string ⟨#[]⟩,.int .i64 0,.int .i64 0,.slice none 0 0,.slice none 0 0] 35]) (enc:=λx:TkS=>.agg (cTk .u8 x.1).toArray) (S:=λxs=>xs.map (·.1)=nQ t)
  (λpre z=>z.2.1=pre.length/\eJ H1 3 ((pre.map (·.1)).map (dTk .u8)) z.2.2) (λz=>z.1) (λz=>z.2.1) (λz=>z.2.2) (λ_=>[.int .i64 0,.slice (some ⟨b10,0,none⟩) 1 1,.slice none 0 0,.bool false,.bool false,.bool false,.int .i64 0,.int .i64 0]) (.slice none 0 0,0,[])
  (λ_ b=>[(0,bV t),(5,.pointer (some ⟨b5,0,none⟩)),(6,.pointer (some ⟨b,0,none⟩))]) (λx=>cTk .u8 x.1) rfl (λ_ _=>AG aS6) rfl (λw hA=>bQ5 H1 (G.up u1.up) t (by omega) (λx hx=>aV (CL t x hx) (by omega)) b1 m1 w hA) ⟨rfl,eJ.nil⟩ rfl rfl ?_ ?_ ?_
 ·intro l x bs' K h;exact .rgI<|.alI xZ Z λb=>.sWI .head Z Z yB (by simp [cTk,Value.oneCell',bV]) Z<|.nlI<|.tN<|λa W f s=>h b a W (f.sub ⟨rfl,rfl,rfl,trivial⟩) s
 ·intro l' pre x z tl b H2 hC hlen u2 m2;obtain ⟨v,k,xs⟩:=z;obtain ⟨hk,hz⟩:=hC;dsimp only at hk hz|-;change At [] _ _ H2 w (.row 108 3 v k xs::.box b12 (v::[.int .i64 0,.slice (some ⟨b10,0,none⟩) 1 1,.slice none 0 0,.bool false,.bool false,.bool false,.int .i64 0,.int .i64 0]) 102::.box b5 [.pointer (some ⟨b12,0,none⟩)] 94::.row 97 11 (.slice (some ⟨b10,0,none⟩) 1 1) 1 [.int .u8 1,.int .i64 0,.bool false,.int .u8 0,.int .u8 0,.string ⟨#[]⟩,.string ⟨#[]⟩,.int .i64 0,.int .i64 0,.slice none 0 0,.slice none 0 0]::.box b2 [.int .u8 0,.string ⟨#[]⟩,.string ⟨#[]⟩,.int .i64 0,.int .i64 0,.slice none 0 0,.slice none 0 0] 35::tl) _;refine At.ra Hm λpv cv ev=>?_;subst ev;refine .bkI<|.flI (trip:=[(_,_,_),(_,_,_),(_,_,_),(_,_,_),(_,_,_),(_,_,_),(_,_,_),(_,_,_)]) 8 [(0,0),(1,0),(2,0),(3,0),(4,0),(5,0),(6,1),(7,3)] (by kernel_rfl) (by kernel_rfl) (by kernel_rfl) Z<|.lD Z iS kP Z<|.lD Z iS kP Z<|.nC Z<|.fA Z qD<|.lD Z IK cR Z<|.yw (.loadMW Z JW m2 Z)<|.blF Z (OM _ _ _) Z λb22 H3 u3 m3=>.apD YO Z (λ_ _=>.head) Z (Rep.mk (n:=1) (c:=1) (ds:=[dTk .u8 x.1]) m3 (.single (DE x.2) Z) Z (aW _) (by decide)) (by simp [maxLen];omega) (by omega) Z (λ_ _=>(.d3<|.d2<|.yv (.load Z iS kP Z)<|.nl)) λxs26 p26 c26 hz26=>.fn (tl:=[_,_,_]) Z<|.nC Z<|.fA Z qD<|.st jS Z Z RO Z (nb Z) Z<|.nlQ<|.bN<|?_
  refine At.rE ((.slice p26 (k+1) c26,k+1,xs++xs26):Value × Nat × List Value) (u2.trans u3.up) ?_ rfl;exact ⟨by simp [hk],by rw [bT,bT];exact hz.app (aX0 hz26)⟩
 intro D ys z hS hC;obtain ⟨v,k,xs⟩:=z;obtain ⟨hk,hz⟩:=hC;dsimp only at hk hz|-;change At _ _ _ H1 w (.obj D (.deferred (some []))::.row 108 3 v k xs::.box b12 (v::[.int .i64 0,.slice (some ⟨b10,0,none⟩) 1 1,.slice none 0 0,.bool false,.bool false,.bool false,.int .i64 0,.int .i64 0]) 102::.box b5 [.pointer (some ⟨b12,0,none⟩)] 94::.row 97 11 (.slice (some ⟨b10,0,none⟩) 1 1) 1 [.int .u8 1,.int .i64 0,.bool false,.int .u8 0,.int .u8 0,.string ⟨#[]⟩,.string ⟨#[]⟩,.int .i64 0,.int .i64 0,.slice none 0 0,.slice none 0 0]::.box b2 [.int .u8 0,.string ⟨#[]⟩,.string ⟨#[]⟩,.int .i64 0,.int .i64 0,.slice none 0 0,.slice none 0 0] 35::[]) _;refine At.ra cR λpv cv ev=>?_;subst ev;have hkl:k<=t.length:=by have:=MZ t;rw [<-hS,bJ] at this;omega
 refine .bN<|.tN<|.sq<|.fL 10 [(0,0),(1,0),(2,0),(3,0),(4,0),(5,0),(6,0),(7,0),(8,1),(9,3)]<|.lD Z iS qP Z<|.lD Z iS qP Z<|.nC Z<|.fA Z qD<|.lD Z IK kP Z<|.mv Z<|.yw (.lenS dE Z)<|.yw (.build Z (YY _))<|.blF Z (OM _ _ _) Z λb34 H3 u3 m3=>.apD YO Z (λ_ _=>jS) Z (Rep.mk (n:=1) (c:=1) (ds:=[dTk .u8 (aQ2 t)]) m3 (.single (DE (x:=aQ2 t) (aP _)) Z) Z (aW _) (by decide)) (by simp [maxLen];omega) (by omega) Z (λ_ _=>(.d4<|.d3<|.yv (.load Z iS qP Z)<|.nl)) λxs35 p35 c35 hz35=>.fn (tl:=[_,_,_]) Z<|.nC Z<|.fA Z qD<|.st jW Z Z RO Z (nb Z) Z<|?_
 refine At.pm [1,0,2,3,4,5] [_,_,_,_,_,_] rfl rfl ?_
 have hz2:eJ H3 3 ((qR t).map (dTk .u8)) (xs++xs35):=by
  unfold qR;rw [bT,<-hS];exact (hz.up u3.up).app hz35
 have hlen:((qR t).map (dTk .u8)).length=k+1:=by rw [bJ,vS,<-hS,bJ,hk]
 refine nB hlen hz2 λH4 p4 c4 u4 e4 h4=>?_;injection e4 with e5 _ e6
 subst e5 e6;rw [bJ] at hlen;rw [<-hlen]
 have K:Tkf H4 (qR t) p35 c35:=⟨by rw [hlen];exact h4,ZI t,λx hx=>by
  rcases cK.1 hx with hx | hx
  ·exact aV (CL t x hx) hl
  ·rw [cO.1 hx];exact aP _,by rw [vS];have:=MZ t;omega,λx hx hk=>by
  rcases cK.1 hx with hx | hx
  ·exact ⟨QT t x hx hk,(QU t x hx).2.2⟩
  ·rw [cO.1 hx] at hk;exact (by cases hk)⟩
 obtain ⟨p4,hp4⟩:∃ p,p=p35:=⟨_,rfl⟩;obtain ⟨c4,hc4⟩:∃ c,c=c35:=⟨_,rfl⟩;subst hp4 hc4;have G4:=((G.up u1.up).up u3.up).up u4.up;have GT4:=((Gt.up u1.up).up u3.up).up u4.up;refine Sx.row0 179 13 ?_;refine .nt<|.sq<|.bk<|.pm [2,4,0,1,3,5] [_,_,_,_,_,_] Z Z<|.lp (X:=Hp × Value × Value × List Value × List Value × List Res × Ps) [(2,_),(5,_)] ⟨rfl,rfl,trivial⟩ [_,_,_] (λz=>[]) (λz=>z.1) (λz=>[.box b12 [.slice p4 (qR t).length c4,iN z.2.2.2.2.2.2.c.i,z.2.1,z.2.2.1,.bool z.2.2.2.2.2.2.rd,.bool z.2.2.2.2.2.2.dn,.bool z.2.2.2.2.2.2.x.2,iN z.2.2.2.2.2.2.c.off,iN z.2.2.2.2.2.2.c.er] 102,.row 97 11 (z.2.1) (z.2.2.2.2.2.2.op.length) (z.2.2.2.1),.row 179 13 (z.2.2.1) (z.2.2.2.2.2.2.x.1.length) (z.2.2.2.2.1)]++z.2.2.2.2.2.1) (λz=>HUp w H4 z.1/\Sq z.1 z.2.2.2.2.2.2 z.2.2.2.1 z.2.2.2.2.1 z.2.2.2.2.2.1/\Fwf (qR t) z.2.2.2.2.2.2/\Fex z.2.2.2.2.2.2/\Fbd 600000 z.2.2.2.2.2.2/\Rch (qR t) NE z.2.2.2.2.2.2/\Dnr z.2.2.2.2.2.2) (λz=>muF (qR t) z.2.2.2.2.2.2) (H4,.slice (some ⟨b10,0,none⟩) 1 1,.slice none 0 0,[.int .u8 1,.int .i64 0,.bool false,.int .u8 0,.int .u8 0,.string ⟨#[]⟩,.string ⟨#[]⟩,.int .i64 0,.int .i64 0,.slice none 0 0,.slice none 0 0],[],[],NE) (λ_ s=>s) trivial ⟨.refl,⟨Ops.cons (xo:=[]) (AR:=[]) .nil (by decide) (FmR.zero Z Z (aP _) (aP _)),.nil⟩,SM (by rw [vS];exact Nat.succ_pos _),(λo ho=>by rw [cO.1 ho];exact aP _),bT5,.refl,.inl Z⟩ λz hC=>?_
 obtain ⟨H5,ro,rv,xo,xv,AR,q1⟩:=z;obtain ⟨u5,S,Wq,FE,FB,RC,DR⟩:=hC;dsimp only at u5 S Wq FE FB RC DR|-;have K5:=K.up u5.up;refine Sx.reSt (λW s=>St.mid (a:=[_,_,_]) (d:=AR) (c:=[_,_,_]) (e:=[]) s) ?_;obtain ⟨q,op,x,rd,dn⟩:=q1;dsimp only;refine .sq<|.sr<|.lD Z iS zC Z<|.nC Z<|.fA Z FA<|.lD Z kB Hm Z<|.yw (.not Z)<|.mv Z<|.b2 (λh43=>?_) (λh43=>?_)
 ·have hd:dn=false:=by simpa using h43
  refine .gy (.load Z iS zC Z)<|.gy (.nilCheck Z)<|.gy (.fieldAddr Z jM)<|.gy (.load Z rL Hm Z)<|.gy (.eql Z Z)<|.yw (.pickT Z Z)<|.nt<|.cd Z (λh49=>?_) (λh49=>?_)
  ·have h0:q.er=0:=by have:=aJ h49;omega
   have hnf:¬ (Ps.fin ⟨q,op,x,rd,dn⟩):=λe=>by
    rcases e with e | e
    ·rw [show dn=true from e] at hd;cases hd
    ·exact e h0
   have ST:=WA K.gd.last Wq hnf;have RS:=RC.trans (.one h0 hd rfl);have DS:=bI3 (l:=qR t) (q:=⟨q,op,x,rd,dn⟩) hd;have FS:=bH2 (l:=qR t) (by decide) FB FE (dR Wq.i K.few);have FT:=bG5 (l:=qR t) FE;refine .sk<|.tN<|.bk<|.sr<|.lD Z iS zC Z<|.nC Z<|.fA Z mJ<|.lD Z kB Hm Z<|.nt<|.cd Z (λh53=>?_) (λh53=>?_)
   ·have hr:rd=true:=h53;subst hr;refine .rg<|.lD Z iS zC Z<|.cs (X:=Hp × Value × Value × List Value × List Value × List Res) aT5 Z (λW s=>aA0 K5 Wq S (GT4.up u5.up) h0 FE (St.mid (a:=[_,_,_]) (d:=[_,_,_]) (s.pickT (hd:=[_,_,_,_,_,_]) (tl:=(AR++[])) (hd':=[_,_,_,_,_,_]) [0,1,2,3,4,5] Z Z))) Z λz9 hz9=>?_
    obtain ⟨H6,ro6,rv6,xo6,xv6,AR6⟩:=z9;obtain ⟨u6,S⟩:=hz9;dsimp only at u6 S|-;refine Sx.reSt (λW s=>St.mid (a:=[_,_,_]) (d:=AR6) (c:=[_,_,_]) s) ?_;exact .nl<|.bN<|.tN<|.ag (x:=((H5,ro,rv,xo,xv,AR,(⟨q,op,x,true,dn⟩:Ps)):Hp × Value × Value × List Value × List Value × List Res × Ps)) (H6,ro6,rv6,xo6,xv6,AR6,lM (qR t) ⟨q,op,x,true,dn⟩) trivial ⟨rfl,rfl,trivial⟩ (λ_ s=>St.mid (a:=[_,_,_]) (d:=[_,_,_]) (c:=AR6) (e:=[]) s) ⟨u5.trans u6,S,ST.wf,FT,FS,RS,DS⟩ (aI1 hnf ST.go Wq.i)
   have hr:rd=false:=h53;subst hr;refine .rg<|.lD Z iS zC Z<|.cs (X:=Hp × Value × Value × List Value × List Value × List Res) aT4 Z (λW s=>aN8 K5 Wq S (St.mid (a:=[_,_,_]) (d:=[_,_,_]) (s.pickT (hd:=[_,_,_,_,_,_]) (tl:=(AR++[])) (hd':=[_,_,_,_,_,_]) [0,1,2,3,4,5] Z Z))) Z λz9 hz9=>?_
   obtain ⟨H6,ro6,rv6,xo6,xv6,AR6⟩:=z9;obtain ⟨u6,S⟩:=hz9;dsimp only at u6 S|-;refine Sx.reSt (λW s=>St.mid (a:=[_,_,_]) (d:=AR6) (c:=[_,_,_]) s) ?_;exact .nl<|.bN<|.tN<|.ag (x:=((H5,ro,rv,xo,xv,AR,(⟨q,op,x,false,dn⟩:Ps)):Hp × Value × Value × List Value × List Value × List Res × Ps)) (H6,ro6,rv6,xo6,xv6,AR6,lM (qR t) ⟨q,op,x,false,dn⟩) trivial ⟨rfl,rfl,trivial⟩ (λ_ s=>St.mid (a:=[_,_,_]) (d:=[_,_,_]) (c:=AR6) (e:=[]) s) ⟨u5.trans u6,S,ST.wf,FT,FS,RS,DS⟩ (aI1 hnf ST.go Wq.i)
  have hfin:(Ps.fin ⟨q,op,x,rd,dn⟩):=.inr (λe=>aO h49 (by rw [show q.er=0 from e];rfl));refine .ex<|.eb<|.sq<|.sq<|?_
  have EP:wQ (qR t)=IA ⟨q,op,x,rd,dn⟩:=by unfold wQ;rw [AF RC hfin (KX K.gd.last (qR t).length NE (SM (by rw [vS];exact Nat.succ_pos _)) (by show _<=0+_;omega)).1]
  refine .rg<|.lD Z iS zC Z<|.nC Z<|.fA Z jM<|.lD Z rL Hm Z<|.yw (.neq Z Z)<|.nt<|.cd Z (λh62=>?_) (λh62=>?_)
  ·have hne:¬ q.er=0:=λe=>aJ h62 (by rw [e];rfl);refine .sq<|.fL 11 [(0,0),(1,0),(2,0),(3,0),(4,0),(5,0),(6,0),(7,0),(8,0),(9,3),(10,0)]<|.yw (.build Z zZ)<|.lD Z iS zC Z<|.nC Z<|.fA Z sO<|.lD Z bS Hm Z<|.lD Z iS zC Z<|.nC Z<|.fA Z jM<|.lD Z rL Hm Z<|.sW cF9 Z Z dC (by simp [Value.oneCell',bV]) Z ((.yv (.load Z rL Hm Z)<|.yv (.fieldAddr Z jM)<|.yv (.nilCheck Z)<|.yv (.load Z iS zC Z)<|.yv (.load Z bS Hm Z)<|.yv (.fieldAddr Z sO)<|.yv (.nilCheck Z)<|.yv (.load Z iS zC Z)<|.dn<|.nl))<|.a Z Z<|.fn (tl:=[_]) Z<|.az Z<|.tR<|?_
   refine Sx.retM (.inl rfl) nP ?_;refine y7 Z (.cons (.cell rfl cL aO6 rfl) (.cons (.tmp rfl) (.cons (.tmp rfl) .nil))) rfl λW s=>?_;rw [EP,bI2 hne];exact ⟨[.int .u8 0,.string ⟨#[]⟩,.string ⟨#[]⟩,.int .i64 0,.int .i64 0,.slice none 0 0,.slice none 0 0],H5,IL _,rfl,(((u1.trans u3).trans u4).trans u5).grow s⟩
  have he0:q.er=0:=by have:=aO h62;omega
  have hd:dn=true:=by
   rcases hfin with e | e
   ·exact e
   ·exact (e he0).elim
  have hr:rd=true:=by
   rcases DR with e | e
   ·rw [show dn=false from e] at hd;cases hd
   ·exact e
  subst hr;have hv1:1<=x.1.length:=by have:=Wq.vs;dsimp only at this;rw [this];exact Nat.le_add_left _ _
  obtain ⟨hn1,hn2⟩:=pD Wq K.few;dsimp only at hn1 hn2;obtain ⟨vs,bd⟩:=x;dsimp only at hv1 hn2;obtain ⟨v,V,rfl⟩:=CK hv1;dsimp only [List.length_cons] at hn2;obtain ⟨yr,t0,t1,t2,e8,VS1,V1⟩:=VR.inv S.vls;try dsimp only at e8
  subst e8;have l1:=VS1.len;obtain ⟨q1,q2,ef,FR⟩:=JC V1;have FBv:=IM FB.x;dsimp only;refine .sk<|.tN<|.sr<|.lD Z iS zC Z<|.cs (X:=Nat × Nat) xF Z (λW s=>xB K5 Wq.i V1.one V1.e.nm (by omega) l1 (s.pickT (hd:=[_,_,_,_,_,_]) (tl:=(AR++[])) (hd':=[_,_,_,_,_,_]) [0,2,1,3,4,5] Z Z)) Z λp1 _=>?_
  rw [ef];refine .al eS Z λb7=>.sW .head Z Z dC (by intro a ha;exact Rep.one FR.rep a ha) Z<|.nt<|.sq<|.sr<|.lD Z iS aO6 Z<|.nC Z<|.fA Z nU<|.lD Z kB cR Z<|.nt<|.cd Z (λh77=>?_) (λh77=>?_)
  ·have hbd:(bd || v.noF)=true:=h77;refine .sr<|.yw (.build Z zZ)<|.sX aL8 Z Z dC Z<|.a Z Z<|.az Z<|.tR<|?_
   refine Sx.retM (.inl rfl) SN ?_;refine y7 Z (.cons (.cell rfl cL aO5 rfl) (.cons (.tmp rfl) (.cons (.tmp rfl) .nil))) rfl λW s=>?_;rw [EP,aJ9 he0 hbd];exact ⟨[.int .u8 0,.string ⟨#[]⟩,.string ⟨#[]⟩,.int .i64 0,.int .i64 0,.slice none 0 0,.slice none 0 0],H5,IL _,rfl,(((u1.trans u3).trans u4).trans u5).grow s⟩
  have hbd:(bd || v.noF)=false:=h77;refine .sk<|.tN<|.sq<|.sr<|.yw (.loadW Z cL Hm Z)<|.yw (.call JQ Z (λW s=>FP H5 (G4.up u5.up) (GT4.up u5.up) v.fm FBv _ W FR.rep s.agr))<|.a Z Z<|.ns<|.mv Z<|.yw (.neq Z Z)<|.nt<|.cd Z (λh82=>?_) (λh82=>?_)
  ·have hck:¬ fH v.fm=0:=λe=>aJ h82 (by rw [e];rfl);refine .sr<|.yw (.build Z zZ)<|.mv Z<|.sX aL8 Z Z dC Z<|.a Z Z<|.az Z<|.tR<|?_
   refine Sx.retM (.inl rfl) SN ?_;refine y7 Z (.cons (.cell rfl cL aO5 rfl) (.cons (.tmp rfl) (.cons (.tmp rfl) .nil))) rfl λW s=>?_;rw [EP,aJ8 he0 hbd hck];exact ⟨[.int .u8 0,.string ⟨#[]⟩,.string ⟨#[]⟩,.int .i64 0,.int .i64 0,.slice none 0 0,.slice none 0 0],H5,IL _,rfl,(((u1.trans u3).trans u4).trans u5).grow s⟩
  have hck:fH v.fm=0:=by have:=aO h82;omega
  refine .sk<|.tN<|.sr<|.yw (.loadW Z cL Hm Z)<|.sW aL8 Z Z dC (by intro a ha;exact Rep.one FR.rep a ha) Z<|.a Z Z<|.az Z<|?_
  refine Sx.retM (.inl rfl) SN ?_;refine y7 Z (.cons (.cell rfl cL aO5 rfl) (.cons (.tmp rfl) (.cons (.tmp rfl) .nil))) rfl λW s=>?_;rw [EP,bI0 he0 hbd hck];exact ⟨cFm .u8 v.fm.op v.fm.nm v.fm.fd v.fm.a v.fm.b q1 q2,H5,FR.rep,rfl,(((u1.trans u3).trans u4).trans u5).grow s⟩
 have hd:dn=true:=by simpa using h43
 have hfin:(Ps.fin ⟨q,op,x,rd,dn⟩):=.inl hd;refine .gG<|.gG<|.gG<|.gG<|.gG<|.yw (.pickF Z Z)<|.nt<|.cF Z<|.ex<|.eb<|.sq<|.sq<|?_
 have EP:wQ (qR t)=IA ⟨q,op,x,rd,dn⟩:=by unfold wQ;rw [AF RC hfin (KX K.gd.last (qR t).length NE (SM (by rw [vS];exact Nat.succ_pos _)) (by show _<=0+_;omega)).1]
 refine .rg<|.lD Z iS zC Z<|.nC Z<|.fA Z jM<|.lD Z rL Hm Z<|.yw (.neq Z Z)<|.nt<|.cd Z (λh62=>?_) (λh62=>?_)
 ·have hne:¬ q.er=0:=λe=>aJ h62 (by rw [e];rfl);refine .sq<|.fL 11 [(0,0),(1,0),(2,0),(3,0),(4,0),(5,0),(6,0),(7,0),(8,0),(9,3),(10,0)]<|.yw (.build Z zZ)<|.lD Z iS zC Z<|.nC Z<|.fA Z sO<|.lD Z bS Hm Z<|.lD Z iS zC Z<|.nC Z<|.fA Z jM<|.lD Z rL Hm Z<|.sW cF9 Z Z dC (by simp [Value.oneCell',bV]) Z ((.yv (.load Z rL Hm Z)<|.yv (.fieldAddr Z jM)<|.yv (.nilCheck Z)<|.yv (.load Z iS zC Z)<|.yv (.load Z bS Hm Z)<|.yv (.fieldAddr Z sO)<|.yv (.nilCheck Z)<|.yv (.load Z iS zC Z)<|.dn<|.nl))<|.a Z Z<|.fn (tl:=[_]) Z<|.az Z<|.tR<|?_
  refine Sx.retM (.inl rfl) nP ?_;refine y7 Z (.cons (.cell rfl cL aO6 rfl) (.cons (.tmp rfl) (.cons (.tmp rfl) .nil))) rfl λW s=>?_;rw [EP,bI2 hne];exact ⟨[.int .u8 0,.string ⟨#[]⟩,.string ⟨#[]⟩,.int .i64 0,.int .i64 0,.slice none 0 0,.slice none 0 0],H5,IL _,rfl,(((u1.trans u3).trans u4).trans u5).grow s⟩
 have he0:q.er=0:=by have:=aO h62;omega
 have hd:dn=true:=by
  rcases hfin with e | e
  ·exact e
  ·exact (e he0).elim
 have hr:rd=true:=by
  rcases DR with e | e
  ·rw [show dn=false from e] at hd;cases hd
  ·exact e
 subst hr;have hv1:1<=x.1.length:=by have:=Wq.vs;dsimp only at this;rw [this];exact Nat.le_add_left _ _
 obtain ⟨hn1,hn2⟩:=pD Wq K.few;dsimp only at hn1 hn2;obtain ⟨vs,bd⟩:=x;dsimp only at hv1 hn2;obtain ⟨v,V,rfl⟩:=CK hv1;dsimp only [List.length_cons] at hn2;obtain ⟨yr,t0,t1,t2,e8,VS1,V1⟩:=VR.inv S.vls;try dsimp only at e8
 subst e8;have l1:=VS1.len;obtain ⟨q1,q2,ef,FR⟩:=JC V1;have FBv:=IM FB.x;dsimp only;refine .sk<|.tN<|.sr<|.lD Z iS zC Z<|.cs (X:=Nat × Nat) xF Z (λW s=>xB K5 Wq.i V1.one V1.e.nm (by omega) l1 (s.pickT (hd:=[_,_,_,_,_,_]) (tl:=(AR++[])) (hd':=[_,_,_,_,_,_]) [0,2,1,3,4,5] Z Z)) Z λp1 _=>?_
 rw [ef];refine .al eS Z λb7=>.sW .head Z Z dC (by intro a ha;exact Rep.one FR.rep a ha) Z<|.nt<|.sq<|.sr<|.lD Z iS aO6 Z<|.nC Z<|.fA Z nU<|.lD Z kB cR Z<|.nt<|.cd Z (λh77=>?_) (λh77=>?_)
 ·have hbd:(bd || v.noF)=true:=h77;refine .sr<|.yw (.build Z zZ)<|.sX aL8 Z Z dC Z<|.a Z Z<|.az Z<|.tR<|?_
  refine Sx.retM (.inl rfl) SN ?_;refine y7 Z (.cons (.cell rfl cL aO5 rfl) (.cons (.tmp rfl) (.cons (.tmp rfl) .nil))) rfl λW s=>?_;rw [EP,aJ9 he0 hbd];exact ⟨[.int .u8 0,.string ⟨#[]⟩,.string ⟨#[]⟩,.int .i64 0,.int .i64 0,.slice none 0 0,.slice none 0 0],H5,IL _,rfl,(((u1.trans u3).trans u4).trans u5).grow s⟩
 have hbd:(bd || v.noF)=false:=h77;refine .sk<|.tN<|.sq<|.sr<|.yw (.loadW Z cL Hm Z)<|.yw (.call JQ Z (λW s=>FP H5 (G4.up u5.up) (GT4.up u5.up) v.fm FBv _ W FR.rep s.agr))<|.a Z Z<|.ns<|.mv Z<|.yw (.neq Z Z)<|.nt<|.cd Z (λh82=>?_) (λh82=>?_)
 ·have hck:¬ fH v.fm=0:=λe=>aJ h82 (by rw [e];rfl);refine .sr<|.yw (.build Z zZ)<|.mv Z<|.sX aL8 Z Z dC Z<|.a Z Z<|.az Z<|.tR<|?_
  refine Sx.retM (.inl rfl) SN ?_;refine y7 Z (.cons (.cell rfl cL aO5 rfl) (.cons (.tmp rfl) (.cons (.tmp rfl) .nil))) rfl λW s=>?_;rw [EP,aJ8 he0 hbd hck];exact ⟨[.int .u8 0,.string ⟨#[]⟩,.string ⟨#[]⟩,.int .i64 0,.int .i64 0,.slice none 0 0,.slice none 0 0],H5,IL _,rfl,(((u1.trans u3).trans u4).trans u5).grow s⟩
 have hck:fH v.fm=0:=by have:=aO h82;omega
 refine .sk<|.tN<|.sr<|.yw (.loadW Z cL Hm Z)<|.sW aL8 Z Z dC (by intro a ha;exact Rep.one FR.rep a ha) Z<|.a Z Z<|.az Z<|?_
 refine Sx.retM (.inl rfl) SN ?_;refine y7 Z (.cons (.cell rfl cL aO5 rfl) (.cons (.tmp rfl) (.cons (.tmp rfl) .nil))) rfl λW s=>?_;rw [EP,bI0 he0 hbd hck];exact ⟨cFm .u8 v.fm.op v.fm.nm v.fm.fd v.fm.a v.fm.b q1 q2,H5,FR.rep,rfl,(((u1.trans u3).trans u4).trans u5).grow s⟩
def bK0:Str:=[111,110,99,101,91,48,44,32,53,93,32,40,97,114,114,105,118,101,115,32,102,114,111,110,116,46,103,101,116,40,95,44,32,55,41,32,97,110,100,32,110,111,116,32,102,108,97,103,32,115,108,111,119,41]
def cL1:Str:=[40,97,46,120,32,43,32,49,41,32,42,32,50,32,62,32,110,111,119]
def bK1:Fm:=.mk 13 [] [] 0 5 [] [.mk 9 [] [] 0 0 [] [.mk 7 [102,114,111,110,116] [103,101,116] 0 0 [.mk 0 [] 0 [],.mk 1 [] 7 []] [],.mk 8 [] [] 0 0 [] [.mk 6 [115,108,111,119] [] 0 0 [] []]]]
def cL2:Fm:=.mk 3 [] [] 0 0 [.mk 20 [] 0 [.mk 11 [] 0 [.mk 14 [] 0 [.mk 5 [97,46,120] 0 [],.mk 1 [] 1 []],.mk 1 [] 2 []],.mk 4 [] 0 []]] []
theorem bJ9:wQ (qR bK0)=(bK1,0,0):=by kernel_rfl
theorem bJ7:wQ (qR cL1)=(cL2,0,0):=by kernel_rfl
theorem bJ8:PX bK1=bK0:=by kernel_rfl
theorem QZ (H:Hp) (GL:Gl H) (G:Gf H) (t:Str) (f:Fm) (hl:t.length<=400000) (hp:wQ (qR t)=(f,0,0)) (w:World) (hA:Agr H w) :
 Calls prg 26 #[bV t] w λe W'=>∃ (cs:List Value) (H':Hp),Rep H' (dFm .u8 f) cs/\e=.returned (.tuple #[.agg cs.toArray,.int .i64 0,.int .i64 0])/\zT H w H' W':=by
 have h:=NK H GL G t hl w hA;rw [hp] at h;exact h
theorem aR3 (H:Hp) (GL:Gl H) (G:Gf H) (gq:Gq H) (cs:List Value) (w:World) (h:Rep H (dFm .u8 bK1) cs) (hA:Agr H w):Calls prg 19 #[.agg cs.toArray] w λr w'=>r=.returned (bV bK0)/\Ext w w':=by
 have h1:=aP9 H GL G gq bK1 (by decide +kernel) cs w h hA;rw [bJ8] at h1;exact h1
theorem aR4 (H:Hp) (GL:Gl H) (G:Gf H) (gq:Gq H) (w:World) (hA:Agr H w):Calls prg 13 #[] w λr w'=>r=.returned (.bool true)/\Ext w w':=by
 refine Sx.enter (H:=H) func13 rfl ntmps13 rfl hA ?_;refine .sr<|.a Z Z<|.ns<|.ct (X:=List Value) JP Z (λW s=>QZ H GL G bK0 bK1 (by decide) bJ9 W s.agr) Z λx1 H1 r1 u1=>?_
 have r1f:Rep H1 (dFm .u8 (Fm.mk 13 [] [] 0 5 [] [.mk 9 [] [] 0 0 [] [.mk 7 [102,114,111,110,116] [103,101,116] 0 0 [.mk 0 [] 0 [],.mk 1 [] 7 []] [],.mk 8 [] [] 0 0 [] [.mk 6 [115,108,111,119] [] 0 0 [] []]]])) x1:=r1;obtain ⟨p1,c1,p2,c2,rfl,hs1,hs2,_,_⟩:=gZ r1f;obtain ⟨bE,oE,cE,hpE,rE,lE,mE⟩:=hs2.elem (i:=0) (d:=dFm .u8 (Fm.mk 9 [] [] 0 0 [] [.mk 7 [102,114,111,110,116] [103,101,116] 0 0 [.mk 0 [] 0 [],.mk 1 [] 7 []] [],.mk 8 [] [] 0 0 [] [.mk 6 [115,108,111,119] [] 0 0 [] []]])) rfl;cases hpE;obtain ⟨q1,d1,q2,d2,rfl,g1,g2,_,_⟩:=gZ rE;refine .mv Z<|.yw (.extract Z Z)<|.yw (.extract Z Z)<|.yw (.extract Z Z)<|.al eS Z λb1=>.sW .head Z Z dC (Rep.one r1) Z<|.a Z Z<|.aq Z<|.sq<|.sm Z<|.yw (.cast (.neq Z Z) (congrArg Value.bool (aI (λh=>h Z))))<|.mv Z<|.gy (.move Z)<|.gy (.cast (.neq Z Z) (congrArg Value.bool (aI (λh=>h Z))))<|.yw (.pickF Z Z)<|.mv Z<|.gy (.fieldAddr Z eP)<|.gy (.load Z iT Hm Z)<|.gy (.cast (.neq Z Z) (congrArg Value.bool (aI (λh=>h Z))))<|.yw (.pickF Z Z)<|.mv Z<|.gy (.fieldAddr Z eW)<|.gy (.load Z bS Hm Z)<|.gy (.cast (.neq Z Z) (congrArg Value.bool (aI (λh=>h Z))))<|.yw (.pickF Z Z)<|.mv Z<|.gy (.fieldAddr Z dF)<|.gy (.load Z fY Hm Z)<|.gy (.lenSl eY Z)<|.gy (.cast (.neq Z Z) (congrArg Value.bool (aI (λh=>h Z))))<|.yw (.pickF Z Z)<|.mv Z<|.gy (.fieldAddr Z dF)<|.gy (.load Z fY Hm Z)<|.gy (.indexSl eY Z Z (i:=0) Z (by decide) (q:=oE+0 * 7) Z)<|.gy (.fieldAddr Z eP)<|.gy (.loadM Z iT mE (k:=0) Z Z)<|.gy (.cast (.neq Z Z) (congrArg Value.bool (aI (λh=>h Z))))<|.yw (.pickF Z Z)<|.mv Z<|.gy (.loadW Z cL Hm Z)<|.gy (.call (v:=bV bK0) aU7 Z (λW s=>aR3 H1 (GL.up u1.up) (G.up u1.up) (gq.up u1.up) _ W r1 s.agr))<|.gy (.cast (.neS Z Z) (congrArg Value.bool (aI (λh=>h Z))))<|.yw (.pickF Z Z)<|.nt<|.cF Z<|.sk<|.tN<|.sr<|.ct (X:=List Value) JP Z (λW s=>QZ H1 (GL.up u1.up) (G.up u1.up) cL1 cL2 (by decide) bJ7 W s.agr) Z λx2 H2 r2 u2=>?_
 have r2f:Rep H2 (dFm .u8 (Fm.mk 3 [] [] 0 0 [(Ex.mk 20 [] 0 [(Ex.mk 11 [] 0 [.mk 14 [] 0 [.mk 5 [97,46,120] 0 [],.mk 1 [] 1 []],.mk 1 [] 2 []]),.mk 4 [] 0 []])] [])) x2:=r2;obtain ⟨p3,c3,p4,c4,rfl,hs3,hs4,_,_⟩:=gZ r2f;obtain ⟨bF,oF,cF,hpF,rF,lF,mF⟩:=hs3.elem (i:=0) (d:=dEx .u8 (Ex.mk 20 [] 0 [(Ex.mk 11 [] 0 [.mk 14 [] 0 [.mk 5 [97,46,120] 0 [],.mk 1 [] 1 []],.mk 1 [] 2 []]),.mk 4 [] 0 []])) rfl;cases hpF;obtain ⟨p5,c5,rfl,hs5,_⟩:=jB rF;obtain ⟨bG,oG,cG,hpG,rG,lG,mG⟩:=hs5.elem (i:=0) (d:=dEx .u8 (Ex.mk 11 [] 0 [.mk 14 [] 0 [.mk 5 [97,46,120] 0 [],.mk 1 [] 1 []],.mk 1 [] 2 []])) rfl;cases hpG;obtain ⟨p6,c6,rfl,hs6,_⟩:=jB rG;refine .mv Z<|.yw (.extract Z Z)<|.yw (.extract Z Z)<|.yw (.extract Z Z)<|.al eS Z λb4=>.sW .head Z Z dC (Rep.one r2) Z<|.a Z Z<|.a Z Z<|.ns<|.mv Z<|.yw (.cast (.eql Z Z) (congrArg Value.bool (aF Z)))<|.mv Z<|.gy (.fieldAddr Z eP)<|.gy (.load Z iT Hm Z)<|.gy (.cast (.eql Z Z) (congrArg Value.bool (aF Z)))<|.yw (.pickT Z Z)<|.mv Z<|.gy (.fieldAddr Z cQ)<|.gy (.load Z dG Hm Z)<|.gy (.lenSl dP Z)<|.gy (.cast (.eql Z Z) (congrArg Value.bool (aF Z)))<|.yw (.pickT Z Z)<|.mv Z<|.gy (.fieldAddr Z cQ)<|.gy (.load Z dG Hm Z)<|.gy (.indexSl dP Z Z (i:=0) Z (by decide) (q:=oF+0 * 4) Z)<|.gy (.fieldAddr Z hU)<|.gy (.loadM Z kR mF (k:=0) Z Z)<|.gy (.cast (.eql Z Z) (congrArg Value.bool (aF Z)))<|.yw (.pickT Z Z)<|.mv Z<|.gy (.fieldAddr Z cQ)<|.gy (.load Z dG Hm Z)<|.gy (.indexSl dP Z Z (i:=0) Z (by decide) (q:=oF+0 * 4) Z)<|.gy (.fieldAddr Z eI)<|.gy (.loadM Z dG mF (k:=3) Z Z)<|.gy (.indexSl dP Z Z (i:=0) Z (by decide) (q:=oG+0 * 4) Z)<|.gy (.fieldAddr Z hU)<|.gy (.loadM Z kR mG (k:=0) Z Z)<|.gy (.cast (.eql Z Z) (congrArg Value.bool (aF Z)))<|.yw (.pickT Z Z)<|.az Z<|?_
 exact y9 Z Z λW s=>⟨Z,s.ext⟩
variable {N:Nat}
theorem cC6 (hN:3<=N) (e:Ex) (h:Ex.all FI e=true):blE N e=true:=by
 induction e using Ex.ind with | _ op nm n args ih
 rw [BD,QP,aC,aA,xC,bC] at h;exact CZ.2 ⟨by omega,λa ha=>ih a ha (h.2 a ha)⟩
theorem cC5 (hN:4<=N) (f:Fm) (h:gdF f=true):blF N f=true:=by
 induction f using Fm.ind with | _ op nm fd a b ex args ih
 obtain ⟨⟨_,h1,h2,h3⟩,h4⟩:=aA7.1 h;exact xX.2 ⟨⟨by omega,by omega,λe he=>cC6 (by omega) e (aJ0 (h3 e he))⟩,λg hg=>ih g hg (h4 g hg)⟩
theorem iQ {a b:Bool} (h:a=b):Ending.returned (.bool a)=.returned (.bool b):=by rw [h]
theorem BA {op:UInt8} (k:Nat) {i:Int} (hk:k<256) (hi:i=(k:Int)):decide (op=UInt8.ofNat k)=decide (((op.toNat:Nat):Int)=i):=by
 subst hi;rw [aX,aA,aA]
 constructor
 ·rintro rfl;rw [cW hk]
 ·intro h;exact aR.1 (by rw [cW hk];omega)
theorem d_n {n:Int64} :decide (n=0)=decide (n.toInt=0):=by
 rw [aX,aA,aA];exact ⟨λh=>by rw [h];rfl,λh=>dW.1 h⟩
variable {n:Nat}
theorem bX5 (k:Nat) {i:Int} (hi:i=(k:Int)):decide (n=k)=decide (((n:Nat):Int)=i):=by
 subst hi;rw [aX,aA,aA];omega
theorem EI {op:UInt8} {nm:Str} {n:Int64} {args:List Ex} :BX (.mk op nm n args)=(decide (((op.toNat:Nat):Int)=0) && decide (nm=[]) && decide (n.toInt=0) && decide (((args.length:Nat):Int)=0)):=by
 rw [<-BA 0 (i:=0) (by decide) rfl,<-d_n,<-bX5 0 (i:=0) rfl];rfl
theorem bB0 (H:Hp) (e:Ex) (cs:List Value) (w:World) (h:Rep H (dEx .i64 e) cs) (hA:Agr H w):Calls prg 88 #[.agg cs.toArray] w λr w'=>r=.returned (.bool (BX e))/\Ext w w':=by
 obtain ⟨op,nm,nn,args⟩:=e;obtain ⟨pp,c,rfl,hs,hnm⟩:=jB h;have hcap:=hs.cap;refine Sx.enter (H:=H) func88 rfl ntmps88 rfl hA ?_;refine .sr<|.bx Z Z Z λb1=>.a Z Z<|.ns<|.fA Z eH<|.lD Z bS Hm Z<|.yw (.eql Z Z)<|.mv Z<|.e2 (λh6=>?_) (λh6=>?_)
 ·refine .gy (.fieldAddr Z nL)<|.gy (.load Z cP Hm Z)<|.gy (.eqS Z Z)<|.yw (.pickT Z Z)<|.mv Z<|.e2 (λh11=>?_) (λh11=>?_)
  ·refine .gy (.fieldAddr Z pK)<|.gy (.load Z kM Hm Z)<|.gy (.eql Z Z)<|.yw (.pickT Z Z)<|.mv Z<|.e2 (λh16=>?_) (λh16=>?_)
   ·refine .gy (.fieldAddr Z kZ)<|.gy (.load Z gR Hm Z)<|.gy (.lenSl gP Z)<|.gy (.eql Z Z)<|.yw (.pickT Z Z)<|.az Z<|?_
    refine y9 Z Z λW s=>⟨iQ ?_,s.ext⟩
    first
     | (rw [EI,aF h6,aF h11,aF h16];simp;done)
     | (rw [EI,aF h6,aF h11,aI h16];simp;done)
     | (rw [EI,aF h6,aI h11];simp;done)
     | (rw [EI,aI h6];simp;done)
   refine .gG<|.gG<|.gG<|.gG<|.yw (.pickF Z Z)<|.az Z<|?_
   refine y9 Z Z λW s=>⟨iQ ?_,s.ext⟩
   first
    | (rw [EI,aF h6,aF h11,aF h16];simp;done)
    | (rw [EI,aF h6,aF h11,aI h16];simp;done)
    | (rw [EI,aF h6,aI h11];simp;done)
    | (rw [EI,aI h6];simp;done)
  refine .gG<|.gG<|.gG<|.yw (.pickF Z Z)<|.mv Z<|.gG<|.gG<|.gG<|.gG<|.yw (.pickF Z Z)<|.az Z<|?_
  refine y9 Z Z λW s=>⟨iQ ?_,s.ext⟩
  first
   | (rw [EI,aF h6,aF h11,aF h16];simp;done)
   | (rw [EI,aF h6,aF h11,aI h16];simp;done)
   | (rw [EI,aF h6,aI h11];simp;done)
   | (rw [EI,aI h6];simp;done)
 refine .gG<|.gG<|.gG<|.yw (.pickF Z Z)<|.mv Z<|.gG<|.gG<|.gG<|.yw (.pickF Z Z)<|.mv Z<|.gG<|.gG<|.gG<|.gG<|.yw (.pickF Z Z)<|.az Z<|?_
 refine y9 Z Z λW s=>⟨iQ ?_,s.ext⟩
 first
  | (rw [EI,aF h6,aF h11,aF h16];simp;done)
  | (rw [EI,aF h6,aF h11,aI h16];simp;done)
  | (rw [EI,aF h6,aI h11];simp;done)
  | (rw [EI,aI h6];simp;done)
def bM1 (op:UInt8):Bool:=decide (op=1) || decide (op=4) || decide (op=5) || decide (op=6) || decide (op=8) || decide (op=9) || (decide (11<=op.toNat) && decide (op.toNat<=15))
theorem VQ {op:UInt8} :bM1 op=(decide (((op.toNat:Nat):Int)=1) || decide (((op.toNat:Nat):Int)=4) || decide (((op.toNat:Nat):Int)=5) || decide (((op.toNat:Nat):Int)=6) || decide (((op.toNat:Nat):Int)=8) || decide (((op.toNat:Nat):Int)=9) || (decide ((11:Int)<=((op.toNat:Nat):Int)) && decide (((op.toNat:Nat):Int)<=15))):=by
 unfold bM1;rw [<-BA 1 (i:=1) (by decide) rfl,<-BA 4 (i:=4) (by decide) rfl,<-BA 5 (i:=5) (by decide) rfl,<-BA 6 (i:=6) (by decide) rfl,<-BA 8 (i:=8) (by decide) rfl,<-BA 9 (i:=9) (by decide) rfl,show decide ((11:Int)<=((op.toNat:Nat):Int))=decide (11<=op.toNat) from decide_eq_decide.2 (by omega),show decide (((op.toNat:Nat):Int)<=15)=decide (op.toNat<=15) from decide_eq_decide.2 (by omega)];rfl
variable {k:Nat}
theorem IQ {op:UInt8} {nm:Str} {n:Int64} :VM op nm n k=(bM1 op && decide (arR op.toNat=((k:Nat):Int)) && (decide (((op.toNat:Nat):Int)=1) || decide (n.toInt=0)) && decide (0<=n.toInt) && (decide (nm=[]) || decide (((op.toNat:Nat):Int)=5) || decide (((op.toNat:Nat):Int)=6) || decide (((op.toNat:Nat):Int)=8))):=by
 rw [<-BA 1 (i:=1) (by decide) rfl,<-BA 5 (i:=5) (by decide) rfl,<-BA 6 (i:=6) (by decide) rfl,<-BA 8 (i:=8) (by decide) rfl,<-d_n];rfl
theorem zM (e:Ex):∀ (H:Hp) (cs:List Value) (w:World),Rep H (dEx .i64 e) cs->Agr H w->Calls prg 133 #[.agg cs.toArray] w λr w'=>r=.returned (.bool (eL e))/\Ext w w':=by
 induction e using Ex.ind with | _ op nm nn args ih
 intro H cs w h hA;obtain ⟨pp,c,rfl,hs,hnm⟩:=jB h;have hcap:=hs.cap;refine Sx.enter (H:=H) func133 rfl ntmps133 rfl hA ?_;refine .sr<|.bx Z Z Z λb1=>.aq Z<|.cu (X:=Bool) [(1,_)] ⟨Z,Jt⟩ (λz3=>[(3,.bool z3)]) (λz3=>H) (λz3=>[.box b1 [.int .i64 op.toNat,bV nm,.int .i64 nn.toInt,.slice pp args.length c] 83]) (λz3=>z3=bM1 op) ?_ λz3 hC=>?_
 ·
  refine .rg<|.fA Z eH<|.lD Z bS Hm Z<|.yw (.eql Z Z)<|.mv Z<|.e2 (λh9=>?_) (λh9=>?_)
  ·exact .gG<|.gG<|.gG<|.yw (.pickT Z Z)<|.mv Z<|.gG<|.gG<|.gG<|.yw (.pickT Z Z)<|.mv Z<|.gG<|.gG<|.gG<|.yw (.pickT Z Z)<|.mv Z<|.gG<|.gG<|.gG<|.yw (.pickT Z Z)<|.mv Z<|.gG<|.gG<|.gG<|.yw (.pickT Z Z)<|.mv Z<|.gG<|.gG<|.gG<|.gG<|.gV<|.gV<|.gV<|.gG<|.yw (.pickT Z Z)<|.aq Z<|.me _ ⟨Z,Jt⟩ ⟨Z,Jt⟩ (λ_ s=>s) (by rw [VQ,aF h9];simp)
  refine .gy (.fieldAddr Z eH)<|.gy (.load Z bS Hm Z)<|.gy (.eql Z Z)<|.yw (.pickF Z Z)<|.mv Z<|.e2 (λh14=>?_) (λh14=>?_)
  ·exact .gG<|.gG<|.gG<|.yw (.pickT Z Z)<|.mv Z<|.gG<|.gG<|.gG<|.yw (.pickT Z Z)<|.mv Z<|.gG<|.gG<|.gG<|.yw (.pickT Z Z)<|.mv Z<|.gG<|.gG<|.gG<|.yw (.pickT Z Z)<|.mv Z<|.gG<|.gG<|.gG<|.gG<|.gV<|.gV<|.gV<|.gG<|.yw (.pickT Z Z)<|.aq Z<|.me _ ⟨Z,Jt⟩ ⟨Z,Jt⟩ (λ_ s=>s) (by rw [VQ,aI h9,aF h14];simp)
  refine .gy (.fieldAddr Z eH)<|.gy (.load Z bS Hm Z)<|.gy (.eql Z Z)<|.yw (.pickF Z Z)<|.mv Z<|.e2 (λh19=>?_) (λh19=>?_)
  ·exact .gG<|.gG<|.gG<|.yw (.pickT Z Z)<|.mv Z<|.gG<|.gG<|.gG<|.yw (.pickT Z Z)<|.mv Z<|.gG<|.gG<|.gG<|.yw (.pickT Z Z)<|.mv Z<|.gG<|.gG<|.gG<|.gG<|.gV<|.gV<|.gV<|.gG<|.yw (.pickT Z Z)<|.aq Z<|.me _ ⟨Z,Jt⟩ ⟨Z,Jt⟩ (λ_ s=>s) (by rw [VQ,aI h9,aI h14,aF h19];simp)
  refine .gy (.fieldAddr Z eH)<|.gy (.load Z bS Hm Z)<|.gy (.eql Z Z)<|.yw (.pickF Z Z)<|.mv Z<|.e2 (λh24=>?_) (λh24=>?_)
  ·exact .gG<|.gG<|.gG<|.yw (.pickT Z Z)<|.mv Z<|.gG<|.gG<|.gG<|.yw (.pickT Z Z)<|.mv Z<|.gG<|.gG<|.gG<|.gG<|.gV<|.gV<|.gV<|.gG<|.yw (.pickT Z Z)<|.aq Z<|.me _ ⟨Z,Jt⟩ ⟨Z,Jt⟩ (λ_ s=>s) (by rw [VQ,aI h9,aI h14,aI h19,aF h24];simp)
  refine .gy (.fieldAddr Z eH)<|.gy (.load Z bS Hm Z)<|.gy (.eql Z Z)<|.yw (.pickF Z Z)<|.mv Z<|.e2 (λh29=>?_) (λh29=>?_)
  ·exact .gG<|.gG<|.gG<|.yw (.pickT Z Z)<|.mv Z<|.gG<|.gG<|.gG<|.gG<|.gV<|.gV<|.gV<|.gG<|.yw (.pickT Z Z)<|.aq Z<|.me _ ⟨Z,Jt⟩ ⟨Z,Jt⟩ (λ_ s=>s) (by rw [VQ,aI h9,aI h14,aI h19,aI h24,aF h29];simp)
  refine .gy (.fieldAddr Z eH)<|.gy (.load Z bS Hm Z)<|.gy (.eql Z Z)<|.yw (.pickF Z Z)<|.mv Z<|.e2 (λh34=>?_) (λh34=>?_)
  ·exact .gG<|.gG<|.gG<|.gG<|.gV<|.gV<|.gV<|.gG<|.yw (.pickT Z Z)<|.aq Z<|.me _ ⟨Z,Jt⟩ ⟨Z,Jt⟩ (λ_ s=>s) (by rw [VQ,aI h9,aI h14,aI h19,aI h24,aI h29,aF h34];simp)
  refine .gy (.fieldAddr Z eH)<|.gy (.load Z bS Hm Z)<|.gy (.geq Z Z)<|.gy (.move Z)<|.e2 (λh38=>?_) (λh38=>?_)
  ·exact .gy (.fieldAddr Z eH)<|.gy (.load Z bS Hm Z)<|.gy (.leq Z Z)<|.gy (.pickT Z Z)<|.yw (.pickF Z Z)<|.aq Z<|.me _ ⟨Z,Jt⟩ ⟨Z,Jt⟩ (λ_ s=>s) (by rw [VQ,aI h9,aI h14,aI h19,aI h24,aI h29,aI h34,aF h38];simp)
  exact .gG<|.gG<|.gG<|.gy (.pickF Z Z)<|.yw (.pickF Z Z)<|.aq Z<|.me _ ⟨Z,Jt⟩ ⟨Z,Jt⟩ (λ_ s=>s) (by rw [VQ,aI h9,aI h14,aI h19,aI h24,aI h29,aI h34,aI h38];simp)
 have e3:=hC;refine .sq<|.cu (X:=Bool) [(1,_)] ⟨Z,Jt⟩ (λz9=>[(89,.bool z9)]) (λz9=>H) (λz9=>[.box b1 [.int .i64 op.toNat,bV nm,.int .i64 nn.toInt,.slice pp args.length c] 83]) (λz9=>z9=!VM op nm nn args.length) ?_ λz9 hC=>?_
 ·
  refine .fL 45 [(0,0),(1,0),(2,0),(3,0),(4,0),(5,0),(6,0),(7,0),(8,0),(9,0),(10,0),(11,0),(12,0),(13,0),(14,0),(15,0),(16,0),(17,0),(18,0),(19,0),(20,0),(21,0),(22,0),(23,0),(24,0),(25,0),(26,0),(27,0),(28,0),(29,0),(30,0),(31,0),(32,0),(33,0),(34,0),(35,0),(36,0),(37,0),(38,0),(39,0),(40,0),(41,0),(42,0),(43,0),(44,0)]<|.mv Z<|.yw (.not Z)<|.mv Z<|.b2 (λh46=>?_) (λh46=>?_)
  ·try simp only [dt] at h46
   exact .gG<|.gG<|.gG<|.gG<|.gG<|.gG<|.gG<|.yw (.pickT Z Z)<|.mv Z<|.gG<|.gG<|.gG<|.gG<|.gV<|.gV<|.gV<|.gG<|.yw (.pickT Z Z)<|.mv Z<|.gG<|.gG<|.gG<|.yw (.pickT Z Z)<|.mv Z<|.gG<|.gG<|.gG<|.gG<|.gV<|.gV<|.gV<|.gG<|.gG<|.gV<|.gV<|.gV<|.gG<|.gG<|.gV<|.gV<|.gV<|.gG<|.fn (tl:=[_]) Z<|.yw (.pickT Z Z)<|.nt<|.me _ ⟨Z,Jt⟩ ⟨Z,Jt⟩ (λ_ s=>s) (by rw [IQ,<-e3,show z3=false by simpa using h46];rfl)
  try simp only [df] at h46
  refine .yg Z Z (.fieldAddr Z eH) Z<|.yg Z Z (.load Z bS Hm Z) Z<|.yg Z Z (.call aD3 Z (λW s=>aR7 _ op.toNat W s.agr)) Z<|.yg Z Z (.fieldAddr Z kZ) Z<|.yg Z Z (.load Z gR Hm Z) Z<|.yg Z Z (.lenSl gP Z) Z<|.yg Z Z (.neq Z Z) Z<|.yw (.pickF Z Z)<|.mv Z<|.e2 (λh55=>?_) (λh55=>?_)
  ·exact .gG<|.gG<|.gG<|.gG<|.gV<|.gV<|.gV<|.gG<|.yw (.pickT Z Z)<|.mv Z<|.gG<|.gG<|.gG<|.yw (.pickT Z Z)<|.mv Z<|.gG<|.gG<|.gG<|.gG<|.gV<|.gV<|.gV<|.gG<|.gG<|.gV<|.gV<|.gV<|.gG<|.gG<|.gV<|.gV<|.gV<|.gG<|.fn (tl:=[_]) Z<|.yw (.pickT Z Z)<|.nt<|.me _ ⟨Z,Jt⟩ ⟨Z,Jt⟩ (λ_ s=>s) (by rw [IQ,<-e3,show z3=true by simpa using h46,aI h55];simp)
  refine .yg Z Z (.fieldAddr Z eH) Z<|.yg Z Z (.load Z bS Hm Z) Z<|.yg Z Z (.neq Z Z) Z<|.yg Z Z (.move Z) Z<|.e2 (λh59=>?_) (λh59=>?_)
  ·refine .yg Z Z (.fieldAddr Z pK) Z<|.yg Z Z (.load Z kM Hm Z) Z<|.yg Z Z (.neq Z Z) Z<|.yg Z Z (.pickT Z Z) Z<|.yw (.pickF Z Z)<|.mv Z<|.e2 (λh65=>?_) (λh65=>?_)
   ·exact .gG<|.gG<|.gG<|.yw (.pickT Z Z)<|.mv Z<|.gG<|.gG<|.gG<|.gG<|.gV<|.gV<|.gV<|.gG<|.gG<|.gV<|.gV<|.gV<|.gG<|.gG<|.gV<|.gV<|.gV<|.gG<|.fn (tl:=[_]) Z<|.yw (.pickT Z Z)<|.nt<|.me _ ⟨Z,Jt⟩ ⟨Z,Jt⟩ (λ_ s=>s) (by rw [IQ,<-e3,show z3=true by simpa using h46,aF (bD.1 h55),aI h59,aI h65];simp)
   refine .yg Z Z (.fieldAddr Z pK) Z<|.yg Z Z (.load Z kM Hm Z) Z<|.yg Z Z (.lss Z Z) Z<|.yw (.pickF Z Z)<|.mv Z<|.b2 (λh70=>?_) (λh70=>?_)
   ·try simp only [dt] at h70
    exact .gG<|.gG<|.gG<|.gG<|.gV<|.gV<|.gV<|.gG<|.gG<|.gV<|.gV<|.gV<|.gG<|.gG<|.gV<|.gV<|.gV<|.gG<|.fn (tl:=[_]) Z<|.yw (.pickT Z Z)<|.nt<|.me _ ⟨Z,Jt⟩ ⟨Z,Jt⟩ (λ_ s=>s) (by rw [IQ,<-e3,show z3=true by simpa using h46,aF (bD.1 h55),aI h59,aF (bD.1 h65),aI (show ¬ 0<=nn.toInt by omega)];simp)
   try simp only [df] at h70
   refine .yg Z Z (.fieldAddr Z nL) Z<|.yg Z Z (.load Z cP Hm Z) Z<|.yg Z Z (.neS Z Z) Z<|.yg Z Z (.move Z) Z<|.b2 (λh74=>?_) (λh74=>?_)
   ·try simp only [dt] at h74
    refine .yg Z Z (.fieldAddr Z eH) Z<|.yg Z Z (.load Z bS Hm Z) Z<|.yg Z Z (.neq Z Z) Z<|.yg Z Z (.pickT Z Z) Z<|.yg Z Z (.move Z) Z<|.b2 (λh79=>?_) (λh79=>?_)
    ·try simp only [dt] at h79
     refine .yg Z Z (.fieldAddr Z eH) Z<|.yg Z Z (.load Z bS Hm Z) Z<|.yg Z Z (.neq Z Z) Z<|.yg Z Z (.pickT Z Z) Z<|.yg Z Z (.move Z) Z<|.b2 (λh84=>?_) (λh84=>?_)
     ·try simp only [dt] at h84
      exact .yg Z Z (.fieldAddr Z eH) Z<|.yg Z Z (.load Z bS Hm Z) Z<|.yg Z Z (.neq Z Z) Z<|.yg Z Z (.pickT Z Z) Z<|.fn (tl:=[_]) Z<|.yw (.pickF Z Z)<|.nt<|.me _ ⟨Z,Jt⟩ ⟨Z,Jt⟩ (λ_ s=>s) (by rw [IQ,<-e3,show z3=true by simpa using h46,aF (bD.1 h55),aI h59,aF (bD.1 h65),aF (show 0<=nn.toInt by omega),aI h74,aI h79,aI h84];simp)
     try simp only [df] at h84
     exact .gG<|.gG<|.gG<|.yg Z Z (.pickF Z Z) Z<|.fn (tl:=[_]) Z<|.yw (.pickF Z Z)<|.nt<|.me _ ⟨Z,Jt⟩ ⟨Z,Jt⟩ (λ_ s=>s) (by rw [IQ,<-e3,show z3=true by simpa using h46,aF (bD.1 h55),aI h59,aF (bD.1 h65),aF (show 0<=nn.toInt by omega),aI h74,aI h79,aF (bD.1 h84)];simp)
    try simp only [df] at h79
    exact .gG<|.gG<|.gG<|.yg Z Z (.pickF Z Z) Z<|.yg Z Z (.move Z) Z<|.gG<|.gG<|.gG<|.yg Z Z (.pickF Z Z) Z<|.fn (tl:=[_]) Z<|.yw (.pickF Z Z)<|.nt<|.me _ ⟨Z,Jt⟩ ⟨Z,Jt⟩ (λ_ s=>s) (by rw [IQ,<-e3,show z3=true by simpa using h46,aF (bD.1 h55),aI h59,aF (bD.1 h65),aF (show 0<=nn.toInt by omega),aI h74,aF (bD.1 h79)];simp)
   try simp only [df] at h74
   exact .gG<|.gG<|.gG<|.yg Z Z (.pickF Z Z) Z<|.yg Z Z (.move Z) Z<|.gG<|.gG<|.gG<|.yg Z Z (.pickF Z Z) Z<|.yg Z Z (.move Z) Z<|.gG<|.gG<|.gG<|.yg Z Z (.pickF Z Z) Z<|.fn (tl:=[_]) Z<|.yw (.pickF Z Z)<|.nt<|.me _ ⟨Z,Jt⟩ ⟨Z,Jt⟩ (λ_ s=>s) (by rw [IQ,<-e3,show z3=true by simpa using h46,aF (bD.1 h55),aI h59,aF (bD.1 h65),aF (show 0<=nn.toInt by omega),aF (bD.1 h74)];simp)
  refine .gG<|.gG<|.gG<|.yg Z Z (.pickF Z Z) Z<|.yw (.pickF Z Z)<|.mv Z<|.yg Z Z (.fieldAddr Z pK) Z<|.yg Z Z (.load Z kM Hm Z) Z<|.yg Z Z (.lss Z Z) Z<|.yw (.pickF Z Z)<|.mv Z<|.b2 (λh70=>?_) (λh70=>?_)
  ·try simp only [dt] at h70
   exact .gG<|.gG<|.gG<|.gG<|.gV<|.gV<|.gV<|.gG<|.gG<|.gV<|.gV<|.gV<|.gG<|.gG<|.gV<|.gV<|.gV<|.gG<|.fn (tl:=[_]) Z<|.yw (.pickT Z Z)<|.nt<|.me _ ⟨Z,Jt⟩ ⟨Z,Jt⟩ (λ_ s=>s) (by rw [IQ,<-e3,show z3=true by simpa using h46,aF (bD.1 h55),aF (bD.1 h59),aI (show ¬ 0<=nn.toInt by omega)];simp)
  try simp only [df] at h70
  refine .yg Z Z (.fieldAddr Z nL) Z<|.yg Z Z (.load Z cP Hm Z) Z<|.yg Z Z (.neS Z Z) Z<|.yg Z Z (.move Z) Z<|.b2 (λh74=>?_) (λh74=>?_)
  ·try simp only [dt] at h74
   refine .yg Z Z (.fieldAddr Z eH) Z<|.yg Z Z (.load Z bS Hm Z) Z<|.yg Z Z (.neq Z Z) Z<|.yg Z Z (.pickT Z Z) Z<|.yg Z Z (.move Z) Z<|.b2 (λh79=>?_) (λh79=>?_)
   ·try simp only [dt] at h79
    refine .yg Z Z (.fieldAddr Z eH) Z<|.yg Z Z (.load Z bS Hm Z) Z<|.yg Z Z (.neq Z Z) Z<|.yg Z Z (.pickT Z Z) Z<|.yg Z Z (.move Z) Z<|.b2 (λh84=>?_) (λh84=>?_)
    ·try simp only [dt] at h84
     exact .yg Z Z (.fieldAddr Z eH) Z<|.yg Z Z (.load Z bS Hm Z) Z<|.yg Z Z (.neq Z Z) Z<|.yg Z Z (.pickT Z Z) Z<|.fn (tl:=[_]) Z<|.yw (.pickF Z Z)<|.nt<|.me _ ⟨Z,Jt⟩ ⟨Z,Jt⟩ (λ_ s=>s) (by rw [IQ,<-e3,show z3=true by simpa using h46,aF (bD.1 h55),aF (bD.1 h59),aF (show 0<=nn.toInt by omega),aI h74,aI h79,aI h84];simp)
    try simp only [df] at h84
    exact .gG<|.gG<|.gG<|.yg Z Z (.pickF Z Z) Z<|.fn (tl:=[_]) Z<|.yw (.pickF Z Z)<|.nt<|.me _ ⟨Z,Jt⟩ ⟨Z,Jt⟩ (λ_ s=>s) (by rw [IQ,<-e3,show z3=true by simpa using h46,aF (bD.1 h55),aF (bD.1 h59),aF (show 0<=nn.toInt by omega),aI h74,aI h79,aF (bD.1 h84)];simp)
   try simp only [df] at h79
   exact .gG<|.gG<|.gG<|.yg Z Z (.pickF Z Z) Z<|.yg Z Z (.move Z) Z<|.gG<|.gG<|.gG<|.yg Z Z (.pickF Z Z) Z<|.fn (tl:=[_]) Z<|.yw (.pickF Z Z)<|.nt<|.me _ ⟨Z,Jt⟩ ⟨Z,Jt⟩ (λ_ s=>s) (by rw [IQ,<-e3,show z3=true by simpa using h46,aF (bD.1 h55),aF (bD.1 h59),aF (show 0<=nn.toInt by omega),aI h74,aF (bD.1 h79)];simp)
  try simp only [df] at h74
  exact .gG<|.gG<|.gG<|.yg Z Z (.pickF Z Z) Z<|.yg Z Z (.move Z) Z<|.gG<|.gG<|.gG<|.yg Z Z (.pickF Z Z) Z<|.yg Z Z (.move Z) Z<|.gG<|.gG<|.gG<|.yg Z Z (.pickF Z Z) Z<|.fn (tl:=[_]) Z<|.yw (.pickF Z Z)<|.nt<|.me _ ⟨Z,Jt⟩ ⟨Z,Jt⟩ (λ_ s=>s) (by rw [IQ,<-e3,show z3=true by simpa using h46,aF (bD.1 h55),aF (bD.1 h59),aF (show 0<=nn.toInt by omega),aF (bD.1 h74)];simp)
 have e9:=hC;refine .cd Z (λh89=>?_) (λh89=>?_)
 ·have ht:VM op nm nn args.length=false:=by rw [h89] at e9;simpa using e9.symm
  refine .sr<|.az Z<|.tR<|?_
  refine y9 Z Z λW s=>⟨iQ ?_,s.ext⟩
  (rw [CD,ht];rfl;done)
 have ht:VM op nm nn args.length=true:=by rw [h89] at e9;simpa using e9.symm
 refine .sk<|.tN<|.sq<|.sr<|.fA Z kZ<|.lD Z gR Hm Z<|.yw (.lenSl gP Z)<|.mv Z<|.nt<|.bk<|.lp (X:=Nat) [(91,_),(92,_)] ⟨Z,Z,Jt⟩ [_] (λk=>[(93,iN k)]) (λk=>H) (λk=>[]) (λk=>k<=args.length/\(args.take k).all eL=true) (λk=>args.length - k) 0 (λ_ s=>s) ⟨Z,Jt⟩ ⟨aP _,Z⟩ λk hC=>?_
 obtain ⟨hk0,hal⟩:=hC;refine .sr<|.yw (.lss Z Z)<|.nt<|.sq<|.ce Z (λh94=>?_) (λh94=>?_)
 ·have hk:k<args.length:=by omega
  obtain ⟨bE,oE,cE,hpE,rE,lE,mE⟩:=hs.elem (iL (f:=dEx .i64) hk);cases hpE;refine .sk<|.tN<|.sq<|.bk<|.sr<|.yw (.indexSl gP Z Z Z (by omega) (q:=oE+k * 4) Z)<|.yw (.loadMW Z fT mE lE)<|.al nD Z λb5=>.sV .head Z Z mM lE rE.one Z<|.ns<|.yw (.loadW Z fT Hm lE)<|.yw (.call vI Z (λW s=>ih _ (bI hk) H cE W rE s.agr))<|.yw (.not Z)<|.nt<|.cd Z (λh99=>?_) (λh99=>?_)
  ·refine .sr<|.az Z<|.bR<|.tR<|.tR<|.bR<|.tR<|?_
   refine y9 Z Z λW s=>⟨iQ ?_,s.ext⟩
   (rw [CD,bK5 hk (by simpa using h99)];simp;done)
  exact .sk<|.bN<|.tN<|.rg<|.yw (.add Z Z w7)<|.mv Z<|.nt<|.ag (k+1) ⟨Z,Jt⟩ ⟨Z,Z,Jt⟩ (λ_ s=>s.pick [1] [_] Z Z) ⟨by omega,IG hk hal (by simpa using h99)⟩ (by omega)
 obtain rfl:k=args.length:=by omega
 rw [aY] at hal;refine .ex<|.eb<|.sr<|.az Z<|?_
 refine y9 Z Z λW s=>⟨iQ ?_,s.ext⟩
 (rw [CD,ht,hal];rfl;done)
theorem aW2 (op:UInt8):(dD op).wn=decide (op=13\/op=14\/op=15):=qX (q:=λop=>(dD op).wn=decide (op=13\/op=14\/op=15)) (by decide +kernel) op
theorem bK3 (op:UInt8):(dD op).am=decide (op=16\/op=17\/op=18):=qX (q:=λop=>(dD op).am=decide (op=16\/op=17\/op=18)) (by decide +kernel) op
theorem ZB {op:UInt8} (h:(op=13\/op=14\/op=15)):(dD op).wn=true:=by rw [aW2,aF h]
theorem aL6 {op:UInt8} (h:¬ (op=13\/op=14\/op=15)):(dD op).wn=false:=by rw [aW2,aI h]
theorem bV0 {op:UInt8} (h:(op=16\/op=17\/op=18)):(dD op).am=true:=by rw [bK3,aF h]
theorem cL6 {op:UInt8} (h:¬ (op=16\/op=17\/op=18)):(dD op).am=false:=by rw [bK3,aI h]
theorem yP (H:Hp) (f:Fm) (cs:List Value) (w:World) (h:Rep H (dFm .i64 f) cs) (hA:Agr H w):Calls prg 86 #[.agg cs.toArray] w λr w'=>r=.returned (.bool (CY f))/\Ext w w':=by
 obtain ⟨op,nm,fd,a,b,ex,args⟩:=f;obtain ⟨p1,c1,p2,c2,rfl,hs1,hs2,hnm,hfd⟩:=gZ h;have hcap1:=hs1.cap;have hcap2:=hs2.cap;refine Sx.enter (H:=H) func86 rfl ntmps86 rfl hA ?_;refine .sr<|.bx Z Z Z λb1=>.aq Z<|.sq<|.sr<|.fA Z hZ<|.lD Z bS Hm Z<|.nt<|.bk<|.cu (X:=Bool) [(1,_),(4,_)] ⟨Z,Z,Jt⟩ (λz=>[(5,.bool z)]) (λz=>H) (λz=>[.box b1 [.int .i64 op.toNat,bV nm,bV fd,.int .i64 a.toInt,.int .i64 b.toInt,.slice p1 ex.length c1,.slice p2 args.length c2] 27]) (λz=>z=decide (op=13\/op=14\/op=15)) ?_ λz hC=>?_
 ·
  refine .sr<|.yw (.eql Z Z)<|.aq Z<|.cr Z (λh5=>?_) (λh5=>?_)
  ·have qw:op=13:=aR.1 (by have:=aJ h5;show op.toNat=13;omega);exact .sk<|.tN<|.me _ ⟨Z,Jt⟩ ⟨Z,Z,Jt⟩ (λ_ s=>s) (by first | (rw [qw];rfl) | (simp only [qw13,qw14,false_or];exact k8 (m:=15) (by decide)))
  have qw13:¬ op=13:=λe=>aO h5 (by rw [e];rfl);refine .sr<|.yw (.eql Z Z)<|.aq Z<|.cr Z (λh5=>?_) (λh5=>?_)
  ·have qw:op=14:=aR.1 (by have:=aJ h5;show op.toNat=14;omega);exact .sk<|.tN<|.me _ ⟨Z,Jt⟩ ⟨Z,Z,Jt⟩ (λ_ s=>s) (by first | (rw [qw];rfl) | (simp only [qw13,qw14,false_or];exact k8 (m:=15) (by decide)))
  have qw14:¬ op=14:=λe=>aO h5 (by rw [e];rfl);exact .rg<|.yw (.eql Z Z)<|.aq Z<|.me _ ⟨Z,Jt⟩ ⟨Z,Z,Jt⟩ (λ_ s=>s) (by first | (rw [qw];rfl) | (simp only [qw13,qw14,false_or];exact k8 (m:=15) (by decide)))
 have eqW:=hC;refine .cr Z (λh5=>?_) (λh5=>?_)
 ·have qW:(op=13\/op=14\/op=15):=by rw [h5] at eqW;exact aJ eqW.symm

  refine .sr<|.fA Z jR<|.lD Z bS Hm Z<|.yw (.eql Z Z)<|.mv Z<|.e2 (λh12=>?_) (λh12=>?_)
  ·refine .gy (.fieldAddr Z jQ)<|.gy (.load Z bS Hm Z)<|.gy (.eql Z Z)<|.yw (.pickT Z Z)<|.mv Z<|.e2 (λh17=>?_) (λh17=>?_)
   ·refine .gG<|.gG<|.gG<|.gG<|.gV<|.gV<|.gV<|.gV<|.gV<|.gG<|.gG<|.gV<|.gV<|.gV<|.gG<|.yw (.pickT Z Z)<|.az Z<|.bR<|.tR<|?_
    refine y9 Z Z λW s=>⟨iQ ?_,s.ext⟩
    (rw [CX (ZB qW),aX];(try simp only [aT,aC,aA,reduceCtorEq,cD,bZ,cH,bY,aZ,aB]);omega;done)
   refine .gy (.fieldAddr Z jR)<|.gy (.load Z bS Hm Z)<|.gy (.geq Z Z)<|.gy (.move Z)<|.b2 (λh21=>?_) (λh21=>?_)
   ·try simp only [dt] at h21
    refine .gy (.fieldAddr Z jR)<|.gy (.load Z bS Hm Z)<|.gy (.fieldAddr Z jQ)<|.gy (.load Z bS Hm Z)<|.gy (.leq Z Z)<|.gy (.pickT Z Z)<|.gy (.move Z)<|.b2 (λh28=>?_) (λh28=>?_)
    ·try simp only [dt] at h28
     refine .gy (.fieldAddr Z jQ)<|.gy (.load Z bS Hm Z)<|.gy (.leq Z Z)<|.gy (.pickT Z Z)<|.yw (.pickF Z Z)<|.az Z<|.bR<|.tR<|?_
     refine y9 Z Z λW s=>⟨iQ ?_,s.ext⟩
     (rw [CX (ZB qW),aX];(try simp only [aT,aC,aA,reduceCtorEq,cD,bZ,cH,bY,aZ,aB]);omega;done)
    try simp only [df] at h28
    refine .gG<|.gG<|.gG<|.gy (.pickF Z Z)<|.yw (.pickF Z Z)<|.az Z<|.bR<|.tR<|?_
    refine y9 Z Z λW s=>⟨iQ ?_,s.ext⟩
    (rw [CX (ZB qW),aX];(try simp only [aT,aC,aA,reduceCtorEq,cD,bZ,cH,bY,aZ,aB]);omega;done)
   try simp only [df] at h21
   refine .gG<|.gG<|.gG<|.gG<|.gG<|.gy (.pickF Z Z)<|.gy (.move Z)<|.gG<|.gG<|.gG<|.gy (.pickF Z Z)<|.yw (.pickF Z Z)<|.az Z<|.bR<|.tR<|?_
   refine y9 Z Z λW s=>⟨iQ ?_,s.ext⟩
   (rw [CX (ZB qW),aX];(try simp only [aT,aC,aA,reduceCtorEq,cD,bZ,cH,bY,aZ,aB]);omega;done)
  refine .gG<|.gG<|.gG<|.yw (.pickF Z Z)<|.mv Z<|.gy (.fieldAddr Z jR)<|.gy (.load Z bS Hm Z)<|.gy (.geq Z Z)<|.gy (.move Z)<|.b2 (λh21=>?_) (λh21=>?_)
  ·try simp only [dt] at h21
   refine .gy (.fieldAddr Z jR)<|.gy (.load Z bS Hm Z)<|.gy (.fieldAddr Z jQ)<|.gy (.load Z bS Hm Z)<|.gy (.leq Z Z)<|.gy (.pickT Z Z)<|.gy (.move Z)<|.b2 (λh28=>?_) (λh28=>?_)
   ·try simp only [dt] at h28
    refine .gy (.fieldAddr Z jQ)<|.gy (.load Z bS Hm Z)<|.gy (.leq Z Z)<|.gy (.pickT Z Z)<|.yw (.pickF Z Z)<|.az Z<|.bR<|.tR<|?_
    refine y9 Z Z λW s=>⟨iQ ?_,s.ext⟩
    (rw [CX (ZB qW),aX];(try simp only [aT,aC,aA,reduceCtorEq,cD,bZ,cH,bY,aZ,aB]);omega;done)
   try simp only [df] at h28
   refine .gG<|.gG<|.gG<|.gy (.pickF Z Z)<|.yw (.pickF Z Z)<|.az Z<|.bR<|.tR<|?_
   refine y9 Z Z λW s=>⟨iQ ?_,s.ext⟩
   (rw [CX (ZB qW),aX];(try simp only [aT,aC,aA,reduceCtorEq,cD,bZ,cH,bY,aZ,aB]);omega;done)
  try simp only [df] at h21
  refine .gG<|.gG<|.gG<|.gG<|.gG<|.gy (.pickF Z Z)<|.gy (.move Z)<|.gG<|.gG<|.gG<|.gy (.pickF Z Z)<|.yw (.pickF Z Z)<|.az Z<|.bR<|.tR<|?_
  refine y9 Z Z λW s=>⟨iQ ?_,s.ext⟩
  (rw [CX (ZB qW),aX];(try simp only [aT,aC,aA,reduceCtorEq,cD,bZ,cH,bY,aZ,aB]);omega;done)
 have qW:¬ (op=13\/op=14\/op=15):=by rw [h5] at eqW;exact aO eqW.symm
 refine .cu (X:=Bool) [(1,_)] ⟨Z,Jt⟩ (λz=>[(34,.bool z)]) (λz=>H) (λz=>[.box b1 [.int .i64 op.toNat,bV nm,bV fd,.int .i64 a.toInt,.int .i64 b.toInt,.slice p1 ex.length c1,.slice p2 args.length c2] 27]) (λz=>z=decide (op=16\/op=17\/op=18)) ?_ λz hC=>?_
 ·
  refine .sr<|.yw (.eql Z Z)<|.aq Z<|.cr Z (λh34=>?_) (λh34=>?_)
  ·have qa:op=16:=aR.1 (by have:=aJ h34;show op.toNat=16;omega);exact .sk<|.tN<|.me _ ⟨Z,Jt⟩ ⟨Z,Jt⟩ (λ_ s=>s) (by first | (rw [qa];rfl) | (simp only [qa16,qa17,false_or];exact k8 (m:=18) (by decide)))
  have qa16:¬ op=16:=λe=>aO h34 (by rw [e];rfl);refine .sr<|.yw (.eql Z Z)<|.aq Z<|.cr Z (λh34=>?_) (λh34=>?_)
  ·have qa:op=17:=aR.1 (by have:=aJ h34;show op.toNat=17;omega);exact .sk<|.tN<|.me _ ⟨Z,Jt⟩ ⟨Z,Jt⟩ (λ_ s=>s) (by first | (rw [qa];rfl) | (simp only [qa16,qa17,false_or];exact k8 (m:=18) (by decide)))
  have qa17:¬ op=17:=λe=>aO h34 (by rw [e];rfl);exact .rg<|.yw (.eql Z Z)<|.aq Z<|.me _ ⟨Z,Jt⟩ ⟨Z,Jt⟩ (λ_ s=>s) (by first | (rw [qa];rfl) | (simp only [qa16,qa17,false_or];exact k8 (m:=18) (by decide)))
 have eqA:=hC;refine .cr Z (λh34=>?_) (λh34=>?_)
 ·have qA:(op=16\/op=17\/op=18):=by rw [h34] at eqA;exact aJ eqA.symm

  refine .sr<|.fA Z jR<|.lD Z bS Hm Z<|.yw (.geq Z Z)<|.mv Z<|.e2 (λh41=>?_) (λh41=>?_)
  ·refine .gy (.fieldAddr Z jQ)<|.gy (.load Z bS Hm Z)<|.gy (.leq Z Z)<|.yw (.pickT Z Z)<|.mv Z<|.e2 (λh46=>?_) (λh46=>?_)
   ·refine .gy (.fieldAddr Z jR)<|.gy (.load Z bS Hm Z)<|.gy (.fieldAddr Z jQ)<|.gy (.load Z bS Hm Z)<|.gy (.leq Z Z)<|.yw (.pickT Z Z)<|.mv Z<|.e2 (λh53=>?_) (λh53=>?_)
    ·refine .gy (.fieldAddr Z jQ)<|.gy (.load Z bS Hm Z)<|.gy (.fieldAddr Z jR)<|.gy (.load Z bS Hm Z)<|.gy (.sub Z Z (c:=b.toInt - a.toInt) (w6 (by omega)))<|.gy (.lss Z Z)<|.yw (.pickT Z Z)<|.az Z<|.bR<|.tR<|?_
     refine y9 Z Z λW s=>⟨iQ ?_,s.ext⟩
     (rw [KN (aL6 qW) (bV0 qA),aX];(try simp only [aT,aC,aA,reduceCtorEq,cD,bZ,cH,bY,aZ,aB]);omega;done)
    refine .gG<|.gG<|.gG<|.gG<|.gG<|.gG<|.yw (.pickF Z Z)<|.az Z<|.bR<|.tR<|?_
    refine y9 Z Z λW s=>⟨iQ ?_,s.ext⟩
    (rw [KN (aL6 qW) (bV0 qA),aX];(try simp only [aT,aC,aA,reduceCtorEq,cD,bZ,cH,bY,aZ,aB]);omega;done)
   refine .gG<|.gG<|.gG<|.gG<|.gG<|.yw (.pickF Z Z)<|.mv Z<|.gG<|.gG<|.gG<|.gG<|.gG<|.gG<|.yw (.pickF Z Z)<|.az Z<|.bR<|.tR<|?_
   refine y9 Z Z λW s=>⟨iQ ?_,s.ext⟩
   (rw [KN (aL6 qW) (bV0 qA),aX];(try simp only [aT,aC,aA,reduceCtorEq,cD,bZ,cH,bY,aZ,aB]);omega;done)
  refine .gG<|.gG<|.gG<|.yw (.pickF Z Z)<|.mv Z<|.gG<|.gG<|.gG<|.gG<|.gG<|.yw (.pickF Z Z)<|.mv Z<|.gG<|.gG<|.gG<|.gG<|.gG<|.gG<|.yw (.pickF Z Z)<|.az Z<|.bR<|.tR<|?_
  refine y9 Z Z λW s=>⟨iQ ?_,s.ext⟩
  (rw [KN (aL6 qW) (bV0 qA),aX];(try simp only [aT,aC,aA,reduceCtorEq,cD,bZ,cH,bY,aZ,aB]);omega;done)
 have qA:¬ (op=16\/op=17\/op=18):=by rw [h34] at eqA;exact aO eqA.symm
 refine .sk<|.bN<|.tN<|.sr<|.fA Z jR<|.lD Z bS Hm Z<|.yw (.eql Z Z)<|.mv Z<|.e2 (λh64=>?_) (λh64=>?_)
 ·refine .gy (.fieldAddr Z jQ)<|.gy (.load Z bS Hm Z)<|.gy (.eql Z Z)<|.yw (.pickT Z Z)<|.az Z<|?_
  refine y9 Z Z λW s=>⟨iQ ?_,s.ext⟩
  (rw [RJ (aL6 qW) (cL6 qA),aX];(try simp only [aT,aC,aA,reduceCtorEq,cD,bZ,cH,bY,aZ,aB]);omega;done)
 refine .gG<|.gG<|.gG<|.yw (.pickF Z Z)<|.az Z<|?_
 refine y9 Z Z λW s=>⟨iQ ?_,s.ext⟩
 (rw [RJ (aL6 qW) (cL6 qA),aX];(try simp only [aT,aC,aA,reduceCtorEq,cD,bZ,cH,bY,aZ,aB]);omega;done)
theorem UQ (op:UInt8):(dD op).ex=if op=3\/op=5\/op=18 then 1 else 0:=qX (q:=λop=>(dD op).ex=if op=3\/op=5\/op=18 then 1 else 0) (by decide +kernel) op
theorem ne7 {op:UInt8} (h:op=3\/op=5\/op=18):¬ op=7:=by rcases h with rfl | rfl | rfl <;> decide
theorem aC1 {op:UInt8} {nm:Str} {n:Int64} {args:List Ex} :JK (.mk op nm n args)=(decide ((16:Int)<=((op.toNat:Nat):Int)) && decide (((op.toNat:Nat):Int)<=21) && decide (nm=[]) && decide (n.toInt=0) && (args.all eL && decide (((args.length:Nat):Int)=2))):=by
 rw [JJ,d_n,bX5 2 (i:=2) rfl,show decide ((16:Int)<=((op.toNat:Nat):Int))=decide (16<=op.toNat) from decide_eq_decide.2 (by omega),show decide (((op.toNat:Nat):Int)<=21)=decide (op.toNat<=21) from decide_eq_decide.2 (by omega)]
theorem cL7 {l:List Ex} {p:Ex->Bool} (h:l.length=2):l.all p=(p l[0] && p l[1]):=by
 match l,h with
 | [x,y],_=>simp
theorem bV2 {l:List Ex} {p:Ex->Bool} (hk:k<l.length) (hp:p l[k]=false):l.all p=false:=List.all_eq_false.2 ⟨_,bI hk,by rw [hp];decide⟩
theorem cK2:decide (((n:Nat):Int)<=4)=decide (n<=4):=decide_eq_decide.2 (by omega)
theorem d_0:decide (((n:Nat):Int)=0)=decide (n=0):=decide_eq_decide.2 (by omega)
theorem AI (H:Hp) (f:Fm) (cs:List Value) (w:World) (h:Rep H (dFm .i64 f) cs) (hA:Agr H w):Calls prg 85 #[.agg cs.toArray] w λr w'=>r=.returned (.bool (uW f))/\Ext w w':=by
 obtain ⟨op,nm,fd,a,b,ex,args⟩:=f;obtain ⟨p1,c1,p2,c2,rfl,hs1,hs2,hnm,hfd⟩:=gZ h;have hcap1:=hs1.cap;have hcap2:=hs2.cap;refine Sx.enter (H:=H) func85 rfl ntmps85 rfl hA ?_;refine .sr<|.bx Z Z Z λb1=>.aq Z<|.sq<|.sr<|.fA Z hZ<|.lD Z bS Hm Z<|.nt<|.bk<|.sr<|.yw (.eql Z Z)<|.aq Z<|.cd Z (λh8=>?_) (λh8=>?_)
 ·have q3:op=3:=aR.1 (by have:=aJ h8;show op.toNat=3;omega);refine .sq<|.sr<|.fA Z eZ<|.lD Z gR Hm Z<|.yw (.lenSl gP Z)<|.yw (.neq Z Z)<|.nt<|.ce Z (λh13=>?_) (λh13=>?_)
  ·refine .sr<|.az Z<|.tR<|.bR<|.tR<|?_
   refine y9 Z Z λW s=>⟨iQ ?_,s.ext⟩;rw [bT9 (ne7 (.inl q3)) (show ¬ ex.length=(dD op).ex by rw [UQ,aM (.inl q3)];omega)]
  obtain ⟨e0,rfl⟩:∃ e0,ex=[e0]:=List.length_eq_one_iff.1 (by omega);obtain ⟨bX,oX,cX,hpX,rX,lX,mX⟩:=hs1.elem (i:=0) (d:=dEx .i64 e0) rfl;cases hpX;obtain ⟨op0,nm0,m0,eG⟩:=e0;obtain ⟨p0,c0,rfl,hs0,hn0⟩:=jB rX;have hcap0:=hs0.cap;refine .sk<|.tN<|.sr<|.fA Z eZ<|.lD Z gR Hm Z<|.yw (.indexSl gP Z Z (i:=0) Z (Nat.succ_pos _) (q:=oX+0 * 4) Z)<|.yw (.loadMW Z fT mX Z)<|.al nD Z λb3=>.sV .head Z Z mM Z (by simp [Value.oneCell',bV]) Z<|.ns<|.fA Z eH<|.lD Z bS Hm Z<|.yw (.geq Z Z)<|.mv Z<|.e2 (λh21=>?_) (λh21=>?_)
  ·refine .gy (.fieldAddr Z eH)<|.gy (.load Z bS Hm Z)<|.gy (.leq Z Z)<|.yw (.pickT Z Z)<|.mv Z<|.e2 (λh26=>?_) (λh26=>?_)
   ·refine .gy (.fieldAddr Z nL)<|.gy (.load Z cP Hm Z)<|.gy (.eqS Z Z)<|.yw (.pickT Z Z)<|.mv Z<|.e2 (λh31=>?_) (λh31=>?_)
    ·refine .gy (.fieldAddr Z pK)<|.gy (.load Z kM Hm Z)<|.gy (.eql Z Z)<|.yw (.pickT Z Z)<|.mv Z<|.e2 (λh36=>?_) (λh36=>?_)
     ·refine .gy (.fieldAddr Z kZ)<|.gy (.load Z gR Hm Z)<|.gy (.lenSl gP Z)<|.gy (.eql Z Z)<|.yw (.pickT Z Z)<|.mv Z<|.e2 (λh42=>?_) (λh42=>?_)
      ·have hl2:eG.length=2:=by omega
       have h0:0<eG.length:=by omega
       have h1:1<eG.length:=by omega
       obtain ⟨bA,oA,cA,hpA,rA,lA,mA⟩:=hs0.elem (iL (f:=dEx .i64) h0);cases hpA;obtain ⟨bB,oB,cB,hpB,rB,lB,mB⟩:=hs0.elem (iL (f:=dEx .i64) h1);cases hpB;refine .gy (.fieldAddr Z kZ)<|.gy (.load Z gR Hm Z)<|.gy (.indexSl gP Z Z (i:=0) Z (by omega) (q:=oA+0 * 4) Z)<|.gy (.loadMW Z fT mA lA)<|.gy (.call vI Z (λW s=>zM _ H _ W rA s.agr))<|.yw (.pickT Z Z)<|.mv Z<|.b2 (λh49=>?_) (λh49=>?_)
       ·try simp only [dt] at h49
        refine .gy (.fieldAddr Z kZ)<|.gy (.load Z gR Hm Z)<|.gy (.indexSl gP Z Z (i:=1) Z (by omega) (q:=oA+1 * 4) Z)<|.gy (.loadMW Z fT mB lB)<|.gy (.call vI Z (λW s=>zM _ H _ W rB s.agr))<|.yw (.pickT Z Z)<|.az Z<|.bR<|.tR<|?_
        refine y9 Z Z λW s=>⟨iQ ?_,s.ext⟩;rw [YC q3,aC1,aF h21,aF h26,aF h31,aF h36,aF h42,cL7 hl2,show eL eG[0]=true by simpa using h49];simp
       try simp only [df] at h49
       refine .gG<|.gG<|.gG<|.gG<|.gG<|.yw (.pickF Z Z)<|.az Z<|.bR<|.tR<|?_
       refine y9 Z Z λW s=>⟨iQ ?_,s.ext⟩;rw [YC q3,aC1,aF h21,aF h26,aF h31,aF h36,aF h42,cL7 hl2,show eL eG[0]=false by simpa using h49];simp
      refine .gG<|.gG<|.gG<|.gG<|.gG<|.yw (.pickF Z Z)<|.mv Z<|.gG<|.gG<|.gG<|.gG<|.gG<|.yw (.pickF Z Z)<|.az Z<|.bR<|.tR<|?_
      refine y9 Z Z λW s=>⟨iQ ?_,s.ext⟩;rw [YC q3,aC1,aF h21,aF h26,aF h31,aF h36,aI h42];simp
     refine .gG<|.gG<|.gG<|.gG<|.yw (.pickF Z Z)<|.mv Z<|.gG<|.gG<|.gG<|.gG<|.gG<|.yw (.pickF Z Z)<|.mv Z<|.gG<|.gG<|.gG<|.gG<|.gG<|.yw (.pickF Z Z)<|.az Z<|.bR<|.tR<|?_
     refine y9 Z Z λW s=>⟨iQ ?_,s.ext⟩;rw [YC q3,aC1,aF h21,aF h26,aF h31,aI h36];simp
    refine .gG<|.gG<|.gG<|.yw (.pickF Z Z)<|.mv Z<|.gG<|.gG<|.gG<|.gG<|.yw (.pickF Z Z)<|.mv Z<|.gG<|.gG<|.gG<|.gG<|.gG<|.yw (.pickF Z Z)<|.mv Z<|.gG<|.gG<|.gG<|.gG<|.gG<|.yw (.pickF Z Z)<|.az Z<|.bR<|.tR<|?_
    refine y9 Z Z λW s=>⟨iQ ?_,s.ext⟩;rw [YC q3,aC1,aF h21,aF h26,aI h31];simp
   refine .gG<|.gG<|.gG<|.yw (.pickF Z Z)<|.mv Z<|.gG<|.gG<|.gG<|.yw (.pickF Z Z)<|.mv Z<|.gG<|.gG<|.gG<|.gG<|.yw (.pickF Z Z)<|.mv Z<|.gG<|.gG<|.gG<|.gG<|.gG<|.yw (.pickF Z Z)<|.mv Z<|.gG<|.gG<|.gG<|.gG<|.gG<|.yw (.pickF Z Z)<|.az Z<|.bR<|.tR<|?_
   refine y9 Z Z λW s=>⟨iQ ?_,s.ext⟩;rw [YC q3,aC1,aF h21,aI h26];simp
  refine .gG<|.gG<|.gG<|.yw (.pickF Z Z)<|.mv Z<|.gG<|.gG<|.gG<|.yw (.pickF Z Z)<|.mv Z<|.gG<|.gG<|.gG<|.yw (.pickF Z Z)<|.mv Z<|.gG<|.gG<|.gG<|.gG<|.yw (.pickF Z Z)<|.mv Z<|.gG<|.gG<|.gG<|.gG<|.gG<|.yw (.pickF Z Z)<|.mv Z<|.gG<|.gG<|.gG<|.gG<|.gG<|.yw (.pickF Z Z)<|.az Z<|.bR<|.tR<|?_
  refine y9 Z Z λW s=>⟨iQ ?_,s.ext⟩;rw [YC q3,aC1,aI h21];simp
 have q3:¬ op=3:=λe=>aO h8 (by rw [e];rfl);refine .sr<|.yw (.eql Z Z)<|.aq Z<|.cd Z (λh56=>?_) (λh56=>?_)
 ·have q5:op=5:=aR.1 (by have:=aJ h56;show op.toNat=5;omega);refine .sr<|.fA Z eZ<|.lD Z gR Hm Z<|.yw (.lenSl gP Z)<|.yw (.eql Z Z)<|.mv Z<|.e2 (λh62=>?_) (λh62=>?_)
  ·obtain ⟨e0,rfl⟩:∃ e0,ex=[e0]:=List.length_eq_one_iff.1 (by omega);obtain ⟨bX,oX,cX,hpX,rX,lX,mX⟩:=hs1.elem (i:=0) (d:=dEx .i64 e0) rfl;cases hpX;refine .gy (.fieldAddr Z eZ)<|.gy (.load Z gR Hm Z)<|.gy (.indexSl gP Z Z (i:=0) Z (Nat.succ_pos _) (q:=oX+0 * 4) Z)<|.gy (.loadMW Z fT mX lX)<|.gy (.call vI Z (λW s=>zM _ H _ W rX s.agr))<|.yw (.pickT Z Z)<|.az Z<|.bR<|.tR<|?_
   refine y9 Z Z λW s=>⟨iQ ?_,s.ext⟩;rw [cJ6 q5]
  refine .gG<|.gG<|.gG<|.gG<|.gG<|.yw (.pickF Z Z)<|.az Z<|.bR<|.tR<|?_
  refine y9 Z Z λW s=>⟨iQ ?_,s.ext⟩;rw [bT9 (ne7 (.inr (.inl q5))) (show ¬ ex.length=(dD op).ex by rw [UQ,aM (.inr (.inl q5))];omega)]
 have q5:¬ op=5:=λe=>aO h56 (by rw [e];rfl);refine .sr<|.yw (.eql Z Z)<|.aq Z<|.cd Z (λh69=>?_) (λh69=>?_)
 ·have q7:op=7:=aR.1 (by have:=aJ h69;show op.toNat=7;omega);refine .sq<|.sr<|.fA Z eZ<|.lD Z gR Hm Z<|.yw (.lenSl gP Z)<|.mv Z<|.nt<|.bk<|.lp (X:=Nat) [(1,_),(72,_),(73,_)] ⟨Z,Z,Z,Jt⟩ [_] (λk=>[(74,iN k)]) (λk=>H) (λk=>[]) (λk=>k<=ex.length/\(ex.take k).all (λe=>BX e || eL e)=true) (λk=>ex.length - k) 0 (λ_ s=>s) ⟨Z,Jt⟩ ⟨aP _,Z⟩ λk hC=>?_
  obtain ⟨hk0,hal⟩:=hC;refine .sr<|.yw (.lss Z Z)<|.nt<|.sq<|.ce Z (λh75=>?_) (λh75=>?_)
  ·have hk:k<ex.length:=by omega
   obtain ⟨bE,oE,cE,hpE,rE,lE,mE⟩:=hs1.elem (iL (f:=dEx .i64) hk);cases hpE;refine .sk<|.tN<|.sq<|.bk<|.sr<|.yw (.indexSl gP Z Z Z (by omega) (q:=oE+k * 4) Z)<|.yw (.loadMW Z fT mE lE)<|.al nD Z λb5=>.sV .head Z Z mM lE rE.one Z<|.ns<|.yw (.loadW Z fT Hm lE)<|.yw (.call aS9 Z (λW s=>bB0 H _ _ W rE s.agr))<|.yw (.not Z)<|.mv Z<|.b2 (λh81=>?_) (λh81=>?_)
   ·try simp only [dt] at h81
    refine .gy (.loadW Z fT Hm lE)<|.gy (.call vI Z (λW s=>zM _ H _ W rE s.agr))<|.gy (.not Z)<|.yw (.pickT Z Z)<|.nt<|.cd Z (λh85=>?_) (λh85=>?_)
    ·refine .sr<|.az Z<|.bR<|.tR<|.tR<|.bR<|.tR<|.bR<|.tR<|?_
     refine y9 Z Z λW s=>⟨iQ ?_,s.ext⟩;rw [bU0 q7,bV2 hk (by rw [show BX ex[k]=false by simpa using h81,show eL ex[k]=false by simpa using h85];rfl)];simp
    exact .sk<|.bN<|.tN<|.rg<|.yw (.add Z Z w7)<|.mv Z<|.nt<|.ag (k+1) ⟨Z,Jt⟩ ⟨Z,Z,Z,Jt⟩ (λ_ s=>s.pick [1] [_] Z Z) ⟨by omega,IG hk hal (by rw [show eL ex[k]=true by simpa using h85,Bool.or_true])⟩ (by omega)
   try simp only [df] at h81
   exact .gG<|.gG<|.gG<|.yw (.pickF Z Z)<|.nt<|.cF Z<|.sk<|.bN<|.tN<|.rg<|.yw (.add Z Z w7)<|.mv Z<|.nt<|.ag (k+1) ⟨Z,Jt⟩ ⟨Z,Z,Z,Jt⟩ (λ_ s=>s.pick [1] [_] Z Z) ⟨by omega,IG hk hal (by rw [show BX ex[k]=true by simpa using h81];rfl)⟩ (by omega)
  obtain rfl:k=ex.length:=by omega
  rw [aY] at hal;refine .ex<|.eb<|.sr<|.fA Z eZ<|.lD Z gR Hm Z<|.yw (.lenSl gP Z)<|.yw (.leq Z Z)<|.az Z<|.bR<|.tR<|?_
  refine y9 Z Z λW s=>⟨iQ ?_,s.ext⟩;rw [bU0 q7,hal,cJ];exact cK2
 have q7:¬ op=7:=λe=>aO h69 (by rw [e];rfl);refine .sr<|.yw (.eql Z Z)<|.aq Z<|.cd Z (λh91=>?_) (λh91=>?_)
 ·have q18:op=18:=aR.1 (by have:=aJ h91;show op.toNat=18;omega);refine .sr<|.fA Z eZ<|.lD Z gR Hm Z<|.yw (.lenSl gP Z)<|.yw (.eql Z Z)<|.mv Z<|.e2 (λh97=>?_) (λh97=>?_)
  ·obtain ⟨e0,rfl⟩:∃ e0,ex=[e0]:=List.length_eq_one_iff.1 (by omega);obtain ⟨bX,oX,cX,hpX,rX,lX,mX⟩:=hs1.elem (i:=0) (d:=dEx .i64 e0) rfl;cases hpX;obtain ⟨op0,nm0,m0,eG⟩:=e0;obtain ⟨p0,c0,rfl,hs0,hn0⟩:=jB rX;have hcap0:=hs0.cap;refine .gy (.fieldAddr Z eZ)<|.gy (.load Z gR Hm Z)<|.gy (.indexSl gP Z Z (i:=0) Z (Nat.succ_pos _) (q:=oX+0 * 4) Z)<|.gy (.fieldAddr Z eH)<|.gy (.loadM Z bS mX (k:=0) Z Z)<|.gy (.eql Z Z)<|.yw (.pickT Z Z)<|.mv Z<|.e2 (λh105=>?_) (λh105=>?_)
   ·refine .gy (.fieldAddr Z eZ)<|.gy (.load Z gR Hm Z)<|.gy (.indexSl gP Z Z (i:=0) Z (Nat.succ_pos _) (q:=oX+0 * 4) Z)<|.gy (.loadMW Z fT mX Z)<|.gy (.call vI Z (λW s=>zM _ H _ W rX s.agr))<|.yw (.pickT Z Z)<|.mv Z<|.b2 (λh112=>?_) (λh112=>?_)
    ·try simp only [dt] at h112
     refine .gy (.fieldAddr Z eZ)<|.gy (.load Z gR Hm Z)<|.gy (.indexSl gP Z Z (i:=0) Z (Nat.succ_pos _) (q:=oX+0 * 4) Z)<|.gy (.fieldAddr Z pK)<|.gy (.loadM Z kM mX (k:=2) Z Z)<|.gy (.leq Z Z)<|.yw (.pickT Z Z)<|.az Z<|.bR<|.tR<|?_
     refine y9 Z Z λW s=>⟨iQ ?_,s.ext⟩;rw [RB q18,aF h105,show eL (.mk op0 nm0 m0 eG)=true by simpa using h112];simp
    try simp only [df] at h112
    refine .gG<|.gG<|.gG<|.gG<|.gG<|.gG<|.yw (.pickF Z Z)<|.az Z<|.bR<|.tR<|?_
    refine y9 Z Z λW s=>⟨iQ ?_,s.ext⟩;rw [RB q18,aF h105,show eL (.mk op0 nm0 m0 eG)=false by simpa using h112];simp
   refine .gG<|.gG<|.gG<|.gG<|.gG<|.yw (.pickF Z Z)<|.mv Z<|.gG<|.gG<|.gG<|.gG<|.gG<|.gG<|.yw (.pickF Z Z)<|.az Z<|.bR<|.tR<|?_
   refine y9 Z Z λW s=>⟨iQ ?_,s.ext⟩;rw [RB q18,aI h105];simp
  refine .gG<|.gG<|.gG<|.gG<|.gG<|.gG<|.yw (.pickF Z Z)<|.mv Z<|.gG<|.gG<|.gG<|.gG<|.gG<|.yw (.pickF Z Z)<|.mv Z<|.gG<|.gG<|.gG<|.gG<|.gG<|.gG<|.yw (.pickF Z Z)<|.az Z<|.bR<|.tR<|?_
  refine y9 Z Z λW s=>⟨iQ ?_,s.ext⟩;rw [bT9 (ne7 (.inr (.inr q18))) (show ¬ ex.length=(dD op).ex by rw [UQ,aM (.inr (.inr q18))];omega)]
 have q18:¬ op=18:=λe=>aO h91 (by rw [e];rfl);refine .sk<|.bN<|.tN<|.sr<|.fA Z eZ<|.lD Z gR Hm Z<|.yw (.lenSl gP Z)<|.yw (.eql Z Z)<|.az Z<|?_
 refine y9 Z Z λW s=>⟨iQ ?_,s.ext⟩;rw [aQ1 q7,aD q3,aD q5,aD q18,cJ,UQ,aD (by rintro (h | h | h);exact q3 h;exact q5 h;exact q18 h)];exact d_0
theorem bA6 (op:UInt8):rfF op.toNat=fdF op:=qX (q:=λop=>rfF op.toNat=fdF op) (by decide +kernel) op
theorem cI1 (op:UInt8) (n:Nat):(decide (¬ (dD op).lv=0) && decide (n=(dD op).ar))=decide (opI op.toNat=((n:Nat):Int)):=by
 have e:bC0 op=opI op.toNat:=rfl;rw [<-e];rcases cC7 op with ⟨h1,h2⟩ | ⟨h1,h2⟩
 ·rw [aF h1,h2,aG,decide_eq_decide];omega
 ·rw [h1,h2,aI (show ¬ (-1:Int)=(n:Nat) by omega)];rfl
variable {a:Int64}
theorem BT {op:UInt8} {nm fd:Str} {b:Int64} {ex:List Ex} {args:List Fm} :kV (.mk op nm fd a b ex args)=(decide (opI op.toNat=((args.length:Nat):Int)) && (rfN op.toNat || decide (nm=[])) && (rfF op.toNat || decide (fd=[])) && uW (.mk op nm fd a b ex args) && CY (.mk op nm fd a b ex args)):=by
 rw [LJ,<-cI1,bX3,bX4,bA6,show rfN op.toNat=fdN op from rfl];generalize fdN op=x1;generalize fdF op=x2;generalize decide (nm=[])=x3;generalize decide (fd=[])=x4;generalize uW _=x5;generalize CY _=x6;generalize decide (¬ (dD op).lv=0)=x7;generalize decide (args.length=(dD op).ar)=x8;cases x1 <;> cases x2 <;> cases x3 <;> cases x4 <;> cases x5 <;> cases x6 <;> cases x7 <;> cases x8 <;> rfl
theorem aN0 (f:Fm):∀ (H:Hp) (cs:List Value) (w:World),Rep H (dFm .i64 f) cs->Agr H w->Calls prg 42 #[.agg cs.toArray] w λr w'=>r=.returned (.bool (Fm.all kV f))/\Ext w w':=by
 induction f using Fm.ind with | _ op nm fd a b ex args ih
 intro H cs w h hA;obtain ⟨p1,c1,p2,c2,rfl,hs1,hs2,hnm,hfd⟩:=gZ h;have hcap1:=hs1.cap;have hcap2:=hs2.cap;refine Sx.enter (H:=H) func42 rfl ntmps42 rfl hA ?_;refine .sr<|.bx Z Z Z λb1=>.a Z Z<|.ns<|.fA Z hZ<|.lD Z bS Hm Z<|.yw (.call RW Z (λW s=>NM H op.toNat W s.agr))<|.mv Z<|.yw (.extract Z Z)<|.yw (.extract Z Z)<|.a Z Z<|.aq Z<|.sq<|.cu (X:=Bool) [(1,_)] ⟨Z,Jt⟩ (λz9=>[(47,.bool z9)]) (λz9=>H) (λz9=>[.box b1 [.int .i64 op.toNat,bV nm,bV fd,.int .i64 a.toInt,.int .i64 b.toInt,.slice p1 ex.length c1,.slice p2 args.length c2] 27]) (λz9=>z9=!kV (.mk op nm fd a b ex args)) ?_ λz9 hC=>?_
 ·
  refine .fL 34 [(0,0),(1,0),(2,0),(3,0),(4,0),(5,0),(6,0),(7,0),(8,0),(9,0),(10,0),(11,0),(12,0),(13,0),(14,0),(15,0),(16,0),(17,0),(18,0),(19,0),(20,0),(21,0),(22,0),(23,0),(24,0),(25,0),(26,0),(27,0),(28,0),(29,0),(30,0),(31,0),(32,0),(33,0)]<|.fA Z hZ<|.lD Z bS Hm Z<|.yw (.call aT3 Z (λW s=>aN7 _ op.toNat W s.agr))<|.fA Z kQ<|.lD Z AB Hm Z<|.yw (.lenSl uH Z)<|.yw (.neq Z Z)<|.mv Z<|.e2 (λh20=>?_) (λh20=>?_)
  ·exact .gG<|.gG<|.gG<|.gV<|.gV<|.gV<|.gG<|.yw (.pickT Z Z)<|.mv Z<|.gG<|.gG<|.gG<|.gV<|.gV<|.gV<|.gG<|.yw (.pickT Z Z)<|.mv Z<|.gG<|.gG<|.gG<|.yw (.pickT Z Z)<|.mv Z<|.gG<|.gG<|.gG<|.fn (tl:=[_]) Z<|.yw (.pickT Z Z)<|.nt<|.me _ ⟨Z,Jt⟩ ⟨Z,Jt⟩ (λ_ s=>s) (by rw [BT,aI h20];simp)
  refine .yg Z Z (.move Z) Z<|.yg Z Z (.not Z) Z<|.yg Z Z (.move Z) Z<|.b2 (λh23=>?_) (λh23=>?_)
  ·try simp only [dt] at h23
   refine .yg Z Z (.fieldAddr Z wV) Z<|.yg Z Z (.load Z cP Hm Z) Z<|.yg Z Z (.neS Z Z) Z<|.yg Z Z (.pickT Z Z) Z<|.yw (.pickF Z Z)<|.mv Z<|.e2 (λh29=>?_) (λh29=>?_)
   ·exact .gG<|.gG<|.gG<|.gV<|.gV<|.gV<|.gG<|.yw (.pickT Z Z)<|.mv Z<|.gG<|.gG<|.gG<|.yw (.pickT Z Z)<|.mv Z<|.gG<|.gG<|.gG<|.fn (tl:=[_]) Z<|.yw (.pickT Z Z)<|.nt<|.me _ ⟨Z,Jt⟩ ⟨Z,Jt⟩ (λ_ s=>s) (by rw [BT,aF (bD.1 h20),show rfN op.toNat=false by simpa using h23,aI h29];simp)
   refine .yg Z Z (.move Z) Z<|.yg Z Z (.not Z) Z<|.yg Z Z (.move Z) Z<|.b2 (λh32=>?_) (λh32=>?_)
   ·try simp only [dt] at h32
    refine .yg Z Z (.fieldAddr Z uK) Z<|.yg Z Z (.load Z cP Hm Z) Z<|.yg Z Z (.neS Z Z) Z<|.yg Z Z (.pickT Z Z) Z<|.yw (.pickF Z Z)<|.mv Z<|.b2 (λh38=>?_) (λh38=>?_)
    ·try simp only [dt] at h38
     exact .gG<|.gG<|.gG<|.yw (.pickT Z Z)<|.mv Z<|.gG<|.gG<|.gG<|.fn (tl:=[_]) Z<|.yw (.pickT Z Z)<|.nt<|.me _ ⟨Z,Jt⟩ ⟨Z,Jt⟩ (λ_ s=>s) (by rw [BT,aF (bD.1 h20),show rfN op.toNat=false by simpa using h23,aF (bD.1 h29),show rfF op.toNat=false by simpa using h32,aI h38];simp)
    try simp only [df] at h38
    refine .yg Z Z (.loadW Z eD Hm Z) Z<|.yg Z Z (.call DY Z (λW s=>AI H (.mk op nm fd a b ex args) _ W h s.agr)) Z<|.yg Z Z (.not Z) Z<|.yw (.pickF Z Z)<|.mv Z<|.b2 (λh43=>?_) (λh43=>?_)
    ·try simp only [dt] at h43
     exact .gG<|.gG<|.gG<|.fn (tl:=[_]) Z<|.yw (.pickT Z Z)<|.nt<|.me _ ⟨Z,Jt⟩ ⟨Z,Jt⟩ (λ_ s=>s) (by rw [BT,aF (bD.1 h20),show rfN op.toNat=false by simpa using h23,aF (bD.1 h29),show rfF op.toNat=false by simpa using h32,aF (bD.1 h38),show uW (.mk op nm fd a b ex args)=false by simpa using h43];simp)
    try simp only [df] at h43
    exact .yg Z Z (.loadW Z eD Hm Z) Z<|.yg Z Z (.call DX Z (λW s=>yP H (.mk op nm fd a b ex args) _ W h s.agr)) Z<|.yg Z Z (.not Z) Z<|.fn (tl:=[_]) Z<|.yw (.pickF Z Z)<|.nt<|.me _ ⟨Z,Jt⟩ ⟨Z,Jt⟩ (λ_ s=>s) (by rw [BT,aF (bD.1 h20),show rfN op.toNat=false by simpa using h23,aF (bD.1 h29),show rfF op.toNat=false by simpa using h32,aF (bD.1 h38),show uW (.mk op nm fd a b ex args)=true by simpa using h43];simp)
   try simp only [df] at h32
   refine .gG<|.gG<|.gG<|.yg Z Z (.pickF Z Z) Z<|.yw (.pickF Z Z)<|.mv Z<|.yg Z Z (.loadW Z eD Hm Z) Z<|.yg Z Z (.call DY Z (λW s=>AI H (.mk op nm fd a b ex args) _ W h s.agr)) Z<|.yg Z Z (.not Z) Z<|.yw (.pickF Z Z)<|.mv Z<|.b2 (λh43=>?_) (λh43=>?_)
   ·try simp only [dt] at h43
    exact .gG<|.gG<|.gG<|.fn (tl:=[_]) Z<|.yw (.pickT Z Z)<|.nt<|.me _ ⟨Z,Jt⟩ ⟨Z,Jt⟩ (λ_ s=>s) (by rw [BT,aF (bD.1 h20),show rfN op.toNat=false by simpa using h23,aF (bD.1 h29),show rfF op.toNat=true by simpa using h32,show uW (.mk op nm fd a b ex args)=false by simpa using h43];simp)
   try simp only [df] at h43
   exact .yg Z Z (.loadW Z eD Hm Z) Z<|.yg Z Z (.call DX Z (λW s=>yP H (.mk op nm fd a b ex args) _ W h s.agr)) Z<|.yg Z Z (.not Z) Z<|.fn (tl:=[_]) Z<|.yw (.pickF Z Z)<|.nt<|.me _ ⟨Z,Jt⟩ ⟨Z,Jt⟩ (λ_ s=>s) (by rw [BT,aF (bD.1 h20),show rfN op.toNat=false by simpa using h23,aF (bD.1 h29),show rfF op.toNat=true by simpa using h32,show uW (.mk op nm fd a b ex args)=true by simpa using h43];simp)
  try simp only [df] at h23
  refine .gG<|.gG<|.gG<|.yg Z Z (.pickF Z Z) Z<|.yw (.pickF Z Z)<|.mv Z<|.yg Z Z (.move Z) Z<|.yg Z Z (.not Z) Z<|.yg Z Z (.move Z) Z<|.b2 (λh32=>?_) (λh32=>?_)
  ·try simp only [dt] at h32
   refine .yg Z Z (.fieldAddr Z uK) Z<|.yg Z Z (.load Z cP Hm Z) Z<|.yg Z Z (.neS Z Z) Z<|.yg Z Z (.pickT Z Z) Z<|.yw (.pickF Z Z)<|.mv Z<|.b2 (λh38=>?_) (λh38=>?_)
   ·try simp only [dt] at h38
    exact .gG<|.gG<|.gG<|.yw (.pickT Z Z)<|.mv Z<|.gG<|.gG<|.gG<|.fn (tl:=[_]) Z<|.yw (.pickT Z Z)<|.nt<|.me _ ⟨Z,Jt⟩ ⟨Z,Jt⟩ (λ_ s=>s) (by rw [BT,aF (bD.1 h20),show rfN op.toNat=true by simpa using h23,show rfF op.toNat=false by simpa using h32,aI h38];simp)
   try simp only [df] at h38
   refine .yg Z Z (.loadW Z eD Hm Z) Z<|.yg Z Z (.call DY Z (λW s=>AI H (.mk op nm fd a b ex args) _ W h s.agr)) Z<|.yg Z Z (.not Z) Z<|.yw (.pickF Z Z)<|.mv Z<|.b2 (λh43=>?_) (λh43=>?_)
   ·try simp only [dt] at h43
    exact .gG<|.gG<|.gG<|.fn (tl:=[_]) Z<|.yw (.pickT Z Z)<|.nt<|.me _ ⟨Z,Jt⟩ ⟨Z,Jt⟩ (λ_ s=>s) (by rw [BT,aF (bD.1 h20),show rfN op.toNat=true by simpa using h23,show rfF op.toNat=false by simpa using h32,aF (bD.1 h38),show uW (.mk op nm fd a b ex args)=false by simpa using h43];simp)
   try simp only [df] at h43
   exact .yg Z Z (.loadW Z eD Hm Z) Z<|.yg Z Z (.call DX Z (λW s=>yP H (.mk op nm fd a b ex args) _ W h s.agr)) Z<|.yg Z Z (.not Z) Z<|.fn (tl:=[_]) Z<|.yw (.pickF Z Z)<|.nt<|.me _ ⟨Z,Jt⟩ ⟨Z,Jt⟩ (λ_ s=>s) (by rw [BT,aF (bD.1 h20),show rfN op.toNat=true by simpa using h23,show rfF op.toNat=false by simpa using h32,aF (bD.1 h38),show uW (.mk op nm fd a b ex args)=true by simpa using h43];simp)
  try simp only [df] at h32
  refine .gG<|.gG<|.gG<|.yg Z Z (.pickF Z Z) Z<|.yw (.pickF Z Z)<|.mv Z<|.yg Z Z (.loadW Z eD Hm Z) Z<|.yg Z Z (.call DY Z (λW s=>AI H (.mk op nm fd a b ex args) _ W h s.agr)) Z<|.yg Z Z (.not Z) Z<|.yw (.pickF Z Z)<|.mv Z<|.b2 (λh43=>?_) (λh43=>?_)
  ·try simp only [dt] at h43
   exact .gG<|.gG<|.gG<|.fn (tl:=[_]) Z<|.yw (.pickT Z Z)<|.nt<|.me _ ⟨Z,Jt⟩ ⟨Z,Jt⟩ (λ_ s=>s) (by rw [BT,aF (bD.1 h20),show rfN op.toNat=true by simpa using h23,show rfF op.toNat=true by simpa using h32,show uW (.mk op nm fd a b ex args)=false by simpa using h43];simp)
  try simp only [df] at h43
  exact .yg Z Z (.loadW Z eD Hm Z) Z<|.yg Z Z (.call DX Z (λW s=>yP H (.mk op nm fd a b ex args) _ W h s.agr)) Z<|.yg Z Z (.not Z) Z<|.fn (tl:=[_]) Z<|.yw (.pickF Z Z)<|.nt<|.me _ ⟨Z,Jt⟩ ⟨Z,Jt⟩ (λ_ s=>s) (by rw [BT,aF (bD.1 h20),show rfN op.toNat=true by simpa using h23,show rfF op.toNat=true by simpa using h32,show uW (.mk op nm fd a b ex args)=true by simpa using h43];simp)
 have e9:=hC;refine .cd Z (λh47=>?_) (λh47=>?_)
 ·have hf:kV (.mk op nm fd a b ex args)=false:=by rw [h47] at e9;simpa using e9.symm
  refine .sr<|.az Z<|.tR<|?_
  refine y9 Z Z λW s=>⟨iQ ?_,s.ext⟩
  (rw [iM,hf];rfl;done)
 have hf:kV (.mk op nm fd a b ex args)=true:=by rw [h47] at e9;simpa using e9.symm
 refine .sk<|.tN<|.sq<|.sr<|.fA Z kQ<|.lD Z AB Hm Z<|.yw (.lenSl uH Z)<|.mv Z<|.nt<|.bk<|.lp (X:=Nat) [(49,_),(50,_)] ⟨Z,Z,Jt⟩ [_] (λk=>[(51,iN k)]) (λk=>H) (λk=>[]) (λk=>k<=args.length/\(args.take k).all (Fm.all kV)=true) (λk=>args.length - k) 0 (λ_ s=>s) ⟨Z,Jt⟩ ⟨aP _,Z⟩ λk hC=>?_
 obtain ⟨hk0,hal⟩:=hC;refine .sr<|.yw (.lss Z Z)<|.nt<|.sq<|.ce Z (λh52=>?_) (λh52=>?_)
 ·have hk:k<args.length:=by omega
  obtain ⟨bF,oF,cF,hpF,rF,lF,mF⟩:=hs2.elem (iL (f:=dFm .i64) hk);cases hpF;refine .sk<|.tN<|.sq<|.bk<|.sr<|.yw (.indexSl uH Z Z Z (by omega) (q:=oF+k * 7) Z)<|.yw (.loadMW Z eD mF lF)<|.al oQ Z λb6=>.sV .head Z Z kL lF rF.one Z<|.ns<|.yw (.loadW Z eD Hm lF)<|.yw (.call SC Z (λW s=>ih _ (bI hk) H cF W rF s.agr))<|.yw (.not Z)<|.nt<|.cd Z (λh57=>?_) (λh57=>?_)
  ·refine .sr<|.az Z<|.bR<|.tR<|.tR<|.bR<|.tR<|?_
   refine y9 Z Z λW s=>⟨iQ ?_,s.ext⟩
   (rw [iM,BE hk (by simpa using h57)];simp;done)
  exact .sk<|.bN<|.tN<|.rg<|.yw (.add Z Z w7)<|.mv Z<|.nt<|.ag (k+1) ⟨Z,Jt⟩ ⟨Z,Z,Jt⟩ (λ_ s=>s.pick [1] [_] Z Z) ⟨by omega,DQ hk hal (by simpa using h57)⟩ (by omega)
 obtain rfl:k=args.length:=by omega
 rw [aY] at hal;refine .ex<|.eb<|.sr<|.az Z<|?_
 refine y9 Z Z λW s=>⟨iQ ?_,s.ext⟩
 (rw [iM,hf,hal];rfl;done)
def dpB (op:UInt8) (e:Ex):Bool:=decide (9<e.depth) || (decide (8<e.depth) && !decide (op=3))
variable {e:Ex}
theorem dpI {op:UInt8} :dpB op e=(decide ((9:Int)<((e.depth:Nat):Int)) || (decide ((8:Int)<((e.depth:Nat):Int)) && decide (¬ ((op.toNat:Nat):Int)=3))):=by
 unfold dpB;rw [decide_not,<-BA 3 (i:=3) (by decide) rfl,show decide ((9:Int)<((e.depth:Nat):Int))=decide (9<e.depth) from decide_eq_decide.2 (by omega),show decide ((8:Int)<((e.depth:Nat):Int))=decide (8<e.depth) from decide_eq_decide.2 (by omega)];rfl
theorem aG7 {op:UInt8} {nm fd:Str} {b:Int64} {ex:List Ex} {args:List Fm} :oL (.mk op nm fd a b ex args)=!ex.any (dpB op):=by
 have h:=aQ4 (.mk op nm fd a b ex args);have e:bI4 (.mk op nm fd a b ex args)=ex.any (dpB op):=rfl;rw [<-e,h,Bool.not_not]
theorem bA1 {op:UInt8} {nm fd:Str} {b:Int64} {ex:List Ex} {args:List Fm} (hk:k<ex.length) (h:dpB op ex[k]=true):oL (.mk op nm fd a b ex args)=false:=by rw [aG7,JM hk h];rfl
theorem bY8 {op:UInt8} {nm fd:Str} {b:Int64} {ex:List Ex} {args:List Fm} (h:ex.any (dpB op)=false):oL (.mk op nm fd a b ex args)=true:=by rw [aG7,h];rfl
theorem cA7 {op:UInt8} {nm:Str} {n:Int64} {args:List Ex} :rQ (.mk op nm n args)=(!tnB op nm || args.any rQ):=by rw [aI2,aX4]
theorem cG2 {op:UInt8} {nm:Str} (h:(decide (((op.toNat:Nat):Int)=5) || decide (((op.toNat:Nat):Int)=6) || decide (((op.toNat:Nat):Int)=8))=false):tnB op nm=true:=by
 rw [<-BA 5 (i:=5) (by decide) rfl,<-BA 6 (i:=6) (by decide) rfl,<-BA 8 (i:=8) (by decide) rfl] at h;simp only [oY,jI] at h;unfold tnB;rw [aD (by rintro (e | e | e);exact h.1.1 e;exact h.1.2 e;exact h.2 e)]
theorem tnI {op:UInt8} {nm:Str} (h:(decide (((op.toNat:Nat):Int)=5) || decide (((op.toNat:Nat):Int)=6) || decide (((op.toNat:Nat):Int)=8))=true):tnB op nm=if (eA nm).isSome then fB (spA nm) && fB (spB nm) else decide (((op.toNat:Nat):Int)=5) && fB nm:=by
 rw [<-BA 5 (i:=5) (by decide) rfl,<-BA 6 (i:=6) (by decide) rfl,<-BA 8 (i:=8) (by decide) rfl] at h;simp only [aT,aA] at h;unfold tnB spA spB;rw [aM (by rcases h with (e | e) | e;exact .inl e;exact .inr (.inl e);exact .inr (.inr e)),<-BA 5 (i:=5) (by decide) rfl];cases eA nm with
 | none=>rfl
 | some x=>rfl
theorem OZ (e:Ex):∀ (H:Hp) (cs:List Value) (w:World),Rep H (dEx .i64 e) cs->Agr H w->Calls prg 84 #[.agg cs.toArray] w λr w'=>r=.returned (.bool (!rQ e))/\Ext w w':=by
 induction e using Ex.ind with | _ op nm nn args ih
 intro H cs w h hA;obtain ⟨pp,c,rfl,hs,hnm⟩:=jB h;have hcap:=hs.cap;have hsa:=KW nm;have hsb:=KV nm;refine Sx.enter (H:=H) func84 rfl ntmps84 rfl hA ?_;refine .sr<|.bx Z Z Z λb1=>.aq Z<|.cu (X:=Unit) [(1,_)] ⟨Z,Jt⟩ (λu=>[]) (λu=>H) (λu=>[.box b1 [.int .i64 op.toNat,bV nm,.int .i64 nn.toInt,.slice pp args.length c] 83]) (λu=>tnB op nm=true) ?_ λu hC=>?_
 ·
  refine .cu (X:=Bool) [(1,_)] ⟨Z,Jt⟩ (λz2=>[(20,.bool z2)]) (λz2=>H) (λz2=>[.box b1 [.int .i64 op.toNat,bV nm,.int .i64 nn.toInt,.slice pp args.length c] 83]) (λz2=>z2=(decide (((op.toNat:Nat):Int)=5) || decide (((op.toNat:Nat):Int)=6) || decide (((op.toNat:Nat):Int)=8))) ?_ λz2 hC=>?_
  ·
   refine .rg<|.fA Z eH<|.lD Z bS Hm Z<|.yw (.eql Z Z)<|.mv Z<|.e2 (λh11=>?_) (λh11=>?_)
   ·exact .gG<|.gG<|.gG<|.yw (.pickT Z Z)<|.mv Z<|.gG<|.gG<|.gG<|.yw (.pickT Z Z)<|.nt<|.me _ ⟨Z,Jt⟩ ⟨Z,Jt⟩ (λ_ s=>s) (by rw [aF h11];rfl)
   refine .gy (.fieldAddr Z eH)<|.gy (.load Z bS Hm Z)<|.gy (.eql Z Z)<|.yw (.pickF Z Z)<|.mv Z<|.e2 (λh16=>?_) (λh16=>?_)
   ·exact .gG<|.gG<|.gG<|.yw (.pickT Z Z)<|.nt<|.me _ ⟨Z,Jt⟩ ⟨Z,Jt⟩ (λ_ s=>s) (by rw [aI h11,aF h16];rfl)
   exact .gy (.fieldAddr Z eH)<|.gy (.load Z bS Hm Z)<|.gy (.eql Z Z)<|.yw (.pickF Z Z)<|.nt<|.me _ ⟨Z,Jt⟩ ⟨Z,Jt⟩ (λ_ s=>s) (by rw [aI h11,aI h16];rfl)
  have e2:=hC;refine .cd Z (λh20=>?_) (λh20=>?_)
  ·have q20:(decide (((op.toNat:Nat):Int)=5) || decide (((op.toNat:Nat):Int)=6) || decide (((op.toNat:Nat):Int)=8))=true:=by rw [h20] at e2;exact e2.symm
   refine .sr<|.fA Z nL<|.lD Z cP Hm Z<|.yw (.call (v:=spV nm) aU6 Z (λW s=>ZS H nm (by omega) W s.agr))<|.mv Z<|.yw (.extract Z Z)<|.yw (.extract Z Z)<|.yw (.extract Z Z)<|.a Z Z<|.a Z Z<|.aq Z<|.cu (X:=Bool) [(1,_)] ⟨Z,Jt⟩ (λz5=>[(53,.bool z5)]) (λz5=>H) (λz5=>[.box b1 [.int .i64 op.toNat,bV nm,.int .i64 nn.toInt,.slice pp args.length c] 83]) (λz5=>z5=!tnB op nm) ?_ λz5 hC=>?_
   ·
    refine .rg<|.mv Z<|.mv Z<|.b2 (λh29=>?_) (λh29=>?_)
    ·try simp only [dt] at h29
     refine .gy (.move Z)<|.gy (.call vD Z (λW s=>qY H (spA nm) (by omega) W s.agr))<|.gy (.not Z)<|.gy (.move Z)<|.b2 (λh33=>?_) (λh33=>?_)
     ·try simp only [dt] at h33
      exact .gG<|.gG<|.gG<|.gy (.pickT Z Z)<|.yw (.pickT Z Z)<|.mv Z<|.gG<|.gG<|.gG<|.gV<|.gV<|.gV<|.gV<|.gV<|.gV<|.gV<|.gV<|.gV<|.gG<|.yw (.pickT Z Z)<|.nt<|.me _ ⟨Z,Jt⟩ ⟨Z,Jt⟩ (λ_ s=>s) (by clear ih h hs hA;rw [tnI q20];simp_all)
     try simp only [df] at h33
     refine .gy (.move Z)<|.gy (.call vD Z (λW s=>qY H (spB nm) (by omega) W s.agr))<|.gy (.not Z)<|.gy (.pickF Z Z)<|.yw (.pickT Z Z)<|.mv Z<|.b2 (λh39=>?_) (λh39=>?_)
     ·try simp only [dt] at h39
      exact .gG<|.gG<|.gG<|.gV<|.gV<|.gV<|.gV<|.gV<|.gV<|.gV<|.gV<|.gV<|.gG<|.yw (.pickT Z Z)<|.nt<|.me _ ⟨Z,Jt⟩ ⟨Z,Jt⟩ (λ_ s=>s) (by clear ih h hs hA;rw [tnI q20];simp_all)
     try simp only [df] at h39
     refine .gy (.move Z)<|.gy (.not Z)<|.gy (.move Z)<|.b2 (λh42=>?_) (λh42=>?_)
     ·try simp only [dt] at h42
      refine .gy (.fieldAddr Z eH)<|.gy (.load Z bS Hm Z)<|.gy (.neq Z Z)<|.gy (.move Z)<|.b2 (λh46=>?_) (λh46=>?_)
      ·try simp only [dt] at h46
       exact .gG<|.gG<|.gG<|.gG<|.gy (.pickT Z Z)<|.gy (.pickT Z Z)<|.yw (.pickF Z Z)<|.nt<|.me _ ⟨Z,Jt⟩ ⟨Z,Jt⟩ (λ_ s=>s) (by clear ih h hs hA;rw [tnI q20];simp_all)
      try simp only [df] at h46
      exact .gy (.fieldAddr Z nL)<|.gy (.load Z cP Hm Z)<|.gy (.call vD Z (λW s=>qY H nm (by omega) W s.agr))<|.gy (.not Z)<|.gy (.pickF Z Z)<|.gy (.pickT Z Z)<|.yw (.pickF Z Z)<|.nt<|.me _ ⟨Z,Jt⟩ ⟨Z,Jt⟩ (λ_ s=>s) (by clear ih h hs hA;rw [tnI q20];simp_all)
     try simp only [df] at h42
     exact .gG<|.gG<|.gG<|.gG<|.gV<|.gV<|.gV<|.gV<|.gG<|.gy (.pickF Z Z)<|.yw (.pickF Z Z)<|.nt<|.me _ ⟨Z,Jt⟩ ⟨Z,Jt⟩ (λ_ s=>s) (by clear ih h hs hA;rw [tnI q20];simp_all)
    try simp only [df] at h29
    refine .gG<|.gG<|.gG<|.gG<|.gV<|.gV<|.gV<|.gG<|.yw (.pickF Z Z)<|.mv Z<|.gy (.move Z)<|.gy (.not Z)<|.gy (.move Z)<|.b2 (λh42=>?_) (λh42=>?_)
    ·try simp only [dt] at h42
     refine .gy (.fieldAddr Z eH)<|.gy (.load Z bS Hm Z)<|.gy (.neq Z Z)<|.gy (.move Z)<|.b2 (λh46=>?_) (λh46=>?_)
     ·try simp only [dt] at h46
      exact .gG<|.gG<|.gG<|.gG<|.gy (.pickT Z Z)<|.gy (.pickT Z Z)<|.yw (.pickF Z Z)<|.nt<|.me _ ⟨Z,Jt⟩ ⟨Z,Jt⟩ (λ_ s=>s) (by clear ih h hs hA;rw [tnI q20];simp_all)
     try simp only [df] at h46
     exact .gy (.fieldAddr Z nL)<|.gy (.load Z cP Hm Z)<|.gy (.call vD Z (λW s=>qY H nm (by omega) W s.agr))<|.gy (.not Z)<|.gy (.pickF Z Z)<|.gy (.pickT Z Z)<|.yw (.pickF Z Z)<|.nt<|.me _ ⟨Z,Jt⟩ ⟨Z,Jt⟩ (λ_ s=>s) (by clear ih h hs hA;rw [tnI q20];simp_all)
    try simp only [df] at h42
    exact .gG<|.gG<|.gG<|.gG<|.gV<|.gV<|.gV<|.gV<|.gG<|.gy (.pickF Z Z)<|.yw (.pickF Z Z)<|.nt<|.me _ ⟨Z,Jt⟩ ⟨Z,Jt⟩ (λ_ s=>s) (by clear ih h hs hA;rw [tnI q20];simp_all)
   have e5:=hC;refine .cd Z (λh53=>?_) (λh53=>?_)
   ·have ht:tnB op nm=false:=by rw [h53] at e5;simpa using e5.symm
    refine .sr<|.az Z<|.tR<|?_
    refine y9 Z Z λW s=>⟨iQ ?_,s.ext⟩
    (rw [cA7,ht];rfl;done)
   have ht:tnB op nm=true:=by rw [h53] at e5;simpa using e5.symm
   exact .sk<|.tN<|.me () trivial ⟨Z,Jt⟩ (λ_ s=>s) ht
  have q20:(decide (((op.toNat:Nat):Int)=5) || decide (((op.toNat:Nat):Int)=6) || decide (((op.toNat:Nat):Int)=8))=false:=by rw [h20] at e2;exact e2.symm
  have ht:tnB op nm=true:=cG2 q20;exact .sk<|.tN<|.me () trivial ⟨Z,Jt⟩ (λ_ s=>s) ht
 have ht:=hC;refine .sq<|.sr<|.fA Z kZ<|.lD Z gR Hm Z<|.yw (.lenSl gP Z)<|.mv Z<|.nt<|.bk<|.lp (X:=Nat) [(55,_),(56,_)] ⟨Z,Z,Jt⟩ [_] (λk=>[(57,iN k)]) (λk=>H) (λk=>[]) (λk=>k<=args.length/\(args.take k).any rQ=false) (λk=>args.length - k) 0 (λ_ s=>s) ⟨Z,Jt⟩ ⟨aP _,Z⟩ λk hC=>?_
 obtain ⟨hk0,hal⟩:=hC;refine .sr<|.yw (.lss Z Z)<|.nt<|.sq<|.ce Z (λh58=>?_) (λh58=>?_)
 ·have hk:k<args.length:=by omega
  obtain ⟨bE,oE,cE,hpE,rE,lE,mE⟩:=hs.elem (iL (f:=dEx .i64) hk);cases hpE;refine .sk<|.tN<|.sq<|.bk<|.sr<|.yw (.indexSl gP Z Z Z (by omega) (q:=oE+k * 4) Z)<|.yw (.loadMW Z fT mE lE)<|.al nD Z λb7=>.sV .head Z Z mM lE rE.one Z<|.ns<|.yw (.loadW Z fT Hm lE)<|.yw (.call RV Z (λW s=>ih _ (bI hk) H cE W rE s.agr))<|.yw (.not Z)<|.nt<|.cd Z (λh63=>?_) (λh63=>?_)
  ·refine .sr<|.az Z<|.bR<|.tR<|.tR<|.bR<|.tR<|?_
   refine y9 Z Z λW s=>⟨iQ ?_,s.ext⟩
   (rw [cA7,JM hk (by simpa using h63)];simp;done)
  exact .sk<|.bN<|.tN<|.rg<|.yw (.add Z Z w7)<|.mv Z<|.nt<|.ag (k+1) ⟨Z,Jt⟩ ⟨Z,Z,Jt⟩ (λ_ s=>s.pick [1] [_] Z Z) ⟨by omega,DB hk hal (by simpa using h63)⟩ (by omega)
 obtain rfl:k=args.length:=by omega
 rw [aY] at hal;refine .ex<|.eb<|.sr<|.az Z<|?_
 refine y9 Z Z λW s=>⟨iQ ?_,s.ext⟩
 (rw [cA7,ht,hal];rfl;done)
theorem KP {op:UInt8} {nm fd:Str} {b:Int64} {ex:List Ex} {args:List Fm} :xQ (.mk op nm fd a b ex args)=(!(rfN op.toNat && !fB nm || rfF op.toNat && !fB fd) && !ex.any rQ):=by rw [aA4,bX3,bX4,bA6,show rfN op.toNat=fdN op from rfl]
theorem ZT (f:Fm):∀ (H:Hp) (cs:List Value) (w:World),Rep H (dFm .i64 f) cs->Agr H w->Calls prg 41 #[.agg cs.toArray] w λr w'=>r=.returned (.bool (Fm.all xQ f))/\Ext w w':=by
 induction f using Fm.ind with | _ op nm fd a b ex args ih
 intro H cs w h hA;obtain ⟨p1,c1,p2,c2,rfl,hs1,hs2,hnm,hfd⟩:=gZ h;have hcap1:=hs1.cap;have hcap2:=hs2.cap;refine Sx.enter (H:=H) func41 rfl ntmps41 rfl hA ?_;refine .sr<|.bx Z Z Z λb1=>.a Z Z<|.ns<|.fA Z hZ<|.lD Z bS Hm Z<|.yw (.call RW Z (λW s=>NM H op.toNat W s.agr))<|.mv Z<|.yw (.extract Z Z)<|.yw (.extract Z Z)<|.a Z Z<|.aq Z<|.sq<|.cu (X:=Bool) [(1,_)] ⟨Z,Jt⟩ (λz9=>[(30,.bool z9)]) (λz9=>H) (λz9=>[.box b1 [.int .i64 op.toNat,bV nm,bV fd,.int .i64 a.toInt,.int .i64 b.toInt,.slice p1 ex.length c1,.slice p2 args.length c2] 27]) (λz9=>z9=(rfN op.toNat && !fB nm || rfF op.toNat && !fB fd)) ?_ λz9 hC=>?_
 ·
  refine .rg<|.mv Z<|.mv Z<|.b2 (λh16=>?_) (λh16=>?_)
  ·try simp only [dt] at h16
   refine .gy (.fieldAddr Z wV)<|.gy (.load Z cP Hm Z)<|.gy (.call vD Z (λW s=>qY H nm (by omega) W s.agr))<|.gy (.not Z)<|.yw (.pickT Z Z)<|.mv Z<|.b2 (λh22=>?_) (λh22=>?_)
   ·try simp only [dt] at h22
    exact .gG<|.gG<|.gV<|.gV<|.gV<|.gV<|.gG<|.yw (.pickT Z Z)<|.nt<|.me _ ⟨Z,Jt⟩ ⟨Z,Jt⟩ (λ_ s=>s) (by clear ih h hs1 hs2 hA;simp_all)
   try simp only [df] at h22
   refine .gy (.move Z)<|.gy (.move Z)<|.b2 (λh24=>?_) (λh24=>?_)
   ·try simp only [dt] at h24
    exact .gy (.fieldAddr Z uK)<|.gy (.load Z cP Hm Z)<|.gy (.call vD Z (λW s=>qY H fd (by omega) W s.agr))<|.gy (.not Z)<|.gy (.pickT Z Z)<|.yw (.pickF Z Z)<|.nt<|.me _ ⟨Z,Jt⟩ ⟨Z,Jt⟩ (λ_ s=>s) (by clear ih h hs1 hs2 hA;simp_all)
   try simp only [df] at h24
   exact .gG<|.gG<|.gG<|.gG<|.gy (.pickF Z Z)<|.yw (.pickF Z Z)<|.nt<|.me _ ⟨Z,Jt⟩ ⟨Z,Jt⟩ (λ_ s=>s) (by clear ih h hs1 hs2 hA;simp_all)
  try simp only [df] at h16
  refine .gG<|.gG<|.gG<|.gG<|.yw (.pickF Z Z)<|.mv Z<|.gy (.move Z)<|.gy (.move Z)<|.b2 (λh24=>?_) (λh24=>?_)
  ·try simp only [dt] at h24
   exact .gy (.fieldAddr Z uK)<|.gy (.load Z cP Hm Z)<|.gy (.call vD Z (λW s=>qY H fd (by omega) W s.agr))<|.gy (.not Z)<|.gy (.pickT Z Z)<|.yw (.pickF Z Z)<|.nt<|.me _ ⟨Z,Jt⟩ ⟨Z,Jt⟩ (λ_ s=>s) (by clear ih h hs1 hs2 hA;simp_all)
  try simp only [df] at h24
  exact .gG<|.gG<|.gG<|.gG<|.gy (.pickF Z Z)<|.yw (.pickF Z Z)<|.nt<|.me _ ⟨Z,Jt⟩ ⟨Z,Jt⟩ (λ_ s=>s) (by clear ih h hs1 hs2 hA;simp_all)
 have e9:=hC;refine .cd Z (λh30=>?_) (λh30=>?_)
 ·have hb:(rfN op.toNat && !fB nm || rfF op.toNat && !fB fd)=true:=by rw [h30] at e9;exact e9.symm
  refine .sr<|.az Z<|.tR<|?_
  refine y9 Z Z λW s=>⟨iQ ?_,s.ext⟩
  first
   | (rw [iM,KP,hb,hno,hal2];rfl;done)
   | (rw [iM,BE hk2 (by simpa using h51)];simp;done)
   | (rw [iM,KP,JM hk (by simpa using h40)];simp;done)
   | (rw [iM,KP,hb];rfl;done)
 have hb:(rfN op.toNat && !fB nm || rfF op.toNat && !fB fd)=false:=by rw [h30] at e9;exact e9.symm
 refine .sk<|.tN<|.sq<|.sr<|.fA Z eZ<|.lD Z gR Hm Z<|.yw (.lenSl gP Z)<|.mv Z<|.nt<|.bk<|.lp (X:=Nat) [(1,_),(32,_),(33,_)] ⟨Z,Z,Z,Jt⟩ [_] (λk=>[(34,iN k)]) (λk=>H) (λk=>[]) (λk=>k<=ex.length/\(ex.take k).any rQ=false) (λk=>ex.length - k) 0 (λ_ s=>s) ⟨Z,Jt⟩ ⟨aP _,Z⟩ λk hC=>?_
 obtain ⟨hk0,hal⟩:=hC;refine .sr<|.yw (.lss Z Z)<|.nt<|.sq<|.ce Z (λh35=>?_) (λh35=>?_)
 ·have hk:k<ex.length:=by omega
  obtain ⟨bE,oE,cE,hpE,rE,lE,mE⟩:=hs1.elem (iL (f:=dEx .i64) hk);cases hpE;refine .sk<|.tN<|.sq<|.bk<|.sr<|.yw (.indexSl gP Z Z Z (by omega) (q:=oE+k * 4) Z)<|.yw (.loadMW Z fT mE lE)<|.al nD Z λb6=>.sV .head Z Z mM lE rE.one Z<|.ns<|.yw (.loadW Z fT Hm lE)<|.yw (.call RV Z (λW s=>OZ _ H _ W rE s.agr))<|.yw (.not Z)<|.nt<|.cd Z (λh40=>?_) (λh40=>?_)
  ·refine .sr<|.az Z<|.bR<|.tR<|.tR<|.bR<|.tR<|?_
   refine y9 Z Z λW s=>⟨iQ ?_,s.ext⟩
   first
    | (rw [iM,KP,hb,hno,hal2];rfl;done)
    | (rw [iM,BE hk2 (by simpa using h51)];simp;done)
    | (rw [iM,KP,JM hk (by simpa using h40)];simp;done)
    | (rw [iM,KP,hb];rfl;done)
  exact .sk<|.bN<|.tN<|.rg<|.yw (.add Z Z w7)<|.mv Z<|.nt<|.ag (k+1) ⟨Z,Jt⟩ ⟨Z,Z,Z,Jt⟩ (λ_ s=>s.pick [1] [_] Z Z) ⟨by omega,DB hk hal (by simpa using h40)⟩ (by omega)
 obtain rfl:k=ex.length:=by omega
 rw [aY] at hal;have hno:=hal;refine .ex<|.eb<|.sq<|.sr<|.fA Z kQ<|.lD Z AB Hm Z<|.yw (.lenSl uH Z)<|.mv Z<|.nt<|.bk<|.lp (X:=Nat) [(43,_),(44,_)] ⟨Z,Z,Jt⟩ [_] (λk2=>[(45,iN k2)]) (λk2=>H) (λk2=>[]) (λk2=>k2<=args.length/\(args.take k2).all (Fm.all xQ)=true) (λk2=>args.length - k2) 0 (λ_ s=>s) ⟨Z,Jt⟩ ⟨aP _,Z⟩ λk2 hC=>?_
 obtain ⟨hk20,hal2⟩:=hC;refine .sr<|.yw (.lss Z Z)<|.nt<|.sq<|.ce Z (λh46=>?_) (λh46=>?_)
 ·have hk2:k2<args.length:=by omega
  obtain ⟨bF,oF,cF,hpF,rF,lF,mF⟩:=hs2.elem (iL (f:=dFm .i64) hk2);cases hpF;refine .sk<|.tN<|.sq<|.bk<|.sr<|.yw (.indexSl uH Z Z Z (by omega) (q:=oF+k2 * 7) Z)<|.yw (.loadMW Z eD mF lF)<|.al oQ Z λb8=>.sV .head Z Z kL lF rF.one Z<|.ns<|.yw (.loadW Z eD Hm lF)<|.yw (.call SD Z (λW s=>ih _ (bI hk2) H cF W rF s.agr))<|.yw (.not Z)<|.nt<|.cd Z (λh51=>?_) (λh51=>?_)
  ·refine .sr<|.az Z<|.bR<|.tR<|.tR<|.bR<|.tR<|?_
   refine y9 Z Z λW s=>⟨iQ ?_,s.ext⟩
   first
    | (rw [iM,KP,hb,hno,hal2];rfl;done)
    | (rw [iM,BE hk2 (by simpa using h51)];simp;done)
    | (rw [iM,KP,JM hk (by simpa using h40)];simp;done)
    | (rw [iM,KP,hb];rfl;done)
  exact .sk<|.bN<|.tN<|.rg<|.yw (.add Z Z w7)<|.mv Z<|.nt<|.ag (k2+1) ⟨Z,Jt⟩ ⟨Z,Z,Jt⟩ (λ_ s=>s.pick [1] [_] Z Z) ⟨by omega,DQ hk2 hal2 (by simpa using h51)⟩ (by omega)
 obtain rfl:k2=args.length:=by omega
 rw [aY] at hal2;refine .ex<|.eb<|.sr<|.az Z<|?_
 refine y9 Z Z λW s=>⟨iQ ?_,s.ext⟩
 first
  | (rw [iM,KP,hb,hno,hal2];rfl;done)
  | (rw [iM,BE hk2 (by simpa using h51)];simp;done)
  | (rw [iM,KP,JM hk (by simpa using h40)];simp;done)
  | (rw [iM,KP,hb];rfl;done)
theorem cN3 (h:(60:Int)<((n:Nat):Int)):decide (60<n)=true:=aF (by omega)
theorem cN4 (h:¬ (60:Int)<((n:Nat):Int)):decide (60<n)=false:=aI (by omega)
def gX (lv:Nat):Pz Ex:=pX lv
def gL (lv:Nat) (a:Ex):Pz Ex:=pL lv a
theorem Cz.ex (lv:Nat):Cz (gX lv):=by
 have prim:∀ rec:List Tk->Rs Ex,(∀ r r' c,rec r=.er r' c->c≠0)->∀ r r' c,sA rec r=.er r' c->c≠0:=by
  intro rec hr r r' c e
  have nd:∀ {α:Type} (w:Str) (r:List Tk) (f:List Tk->Rs α),(∀ r r' c,f r=.er r' c->c≠0)->∀ r' c,tO w r f=.er r' c->c≠0:=by
   intro α w r f hf r' c e;unfold tO at e
   split at e
   ·exact hf _ _ _ e
   ·injection e with _ e;omega
  have nm:∀ {α:Type} (r:List Tk) (f:Str->List Tk->Rs α),(∀ s r r' c,f s r=.er r' c->c≠0)->∀ r' c,BQ r f=.er r' c->c≠0:=by
   intro α r f hf r' c e;unfold BQ at e
   split at e
   ·injection e with _ e;omega
   ·split at e
    ·exact hf _ _ _ _ e
    ·injection e with _ e;omega
  have rb:∀ (r:List Tk) (f:Ex->List Tk->Rs Ex),(∀ x r r' c,f x r=.er r' c->c≠0)->∀ r' c,(rec r).bind f=.er r' c->c≠0:=by
   intro r f hf r' c e;rcases Rs.bind_er e with e | ⟨a,q,_,e⟩
   ·exact hr _ _ _ e
   ·exact hf _ _ _ _ e
  unfold sA at e
  split at e
  ·injection e with _ e;omega
  ·split at e
   ·split at e
    ·cases e
    ·injection e with _ e;omega
   split at e
   ·cases e
   split at e
   ·cases e
   split at e
   ·cases e
   split at e
   ·exact nm _ _ (λs r r' c e=>by cases e) _ _ e
   split at e
   ·exact rb _ _ (λx r r' c e=>nd _ _ _ (λr r' c e=>by cases e) _ _ e) _ _ e
   split at e
   ·exact nm _ _ (λs r r' c e=>nd _ _ _ (λr r' c e=>rb _ _ (λx r r' c e=>nd _ _ _ (λr r' c e=>by cases e) _ _ e) _ _ e) _ _ e) _ _ e
   split at e
   ·split at e
    ·exact rb _ _ (λx r r' c e=>nd _ _ _ (λr r' c e=>by cases e) _ _ e) _ _ e
    ·cases e
   ·injection e with _ e;omega
 have key:∀ f,(∀ lv r r' c,pE f (.ex lv) r=.er r' c->c≠0)/\(∀ lv a r r' c,pE f (.lp lv a) r=.er r' c->c≠0):=by
  intro f;induction f with
  | zero=>exact ⟨λlv r r' c e=>by unfold pE at e;injection e with _ e;omega,λlv a r r' c e=>by unfold pE at e;injection e with _ e;omega⟩
  | succ f ih =>
   obtain ⟨ih1,ih2⟩:=ih;refine ⟨λlv r r' c e=>?_,λlv a r r' c e=>?_⟩
   ·rw [WS] at e
    split at e
    ·rcases Rs.bind_er e with e | ⟨a,q,_,e⟩
     ·exact ih1 _ _ _ _ e
     ·exact ih2 _ _ _ _ _ e
    split at e
    ·rcases Rs.bind_er e with e | ⟨a,q,_,e⟩
     ·exact ih1 _ _ _ _ e
     ·cases e
    split at e
    ·rcases Rs.bind_er e with e | ⟨a,q,_,e⟩
     ·exact ih1 _ _ _ _ e
     ·cases e
    ·exact prim _ (λr r' c e=>ih1 _ _ _ _ e) _ _ _ e
   ·rw [WR] at e
    split at e
    ·cases e
    ·rcases Rs.bind_er e with e | ⟨b,q,_,e⟩
     ·exact ih1 _ _ _ _ e
     ·split at e
      ·cases e
      ·exact ih2 _ _ _ _ _ e
 exact λr r' c e=>(key _).1 _ _ _ _ e
theorem Shs.gx (lv:Nat):Shs (gX lv):=λr a r' e=>(CI _).1 _ _ _ _ e
theorem bF1 {lv:Nat} (h:lv<5):gX lv=dJ (gX (lv+1)) (gL lv):=funext λ_=>TP h
theorem bW9:gX 5=lP [45] (dJ (gX 5) λx=>gO (opE 9 [x])) (lP [110,111,116] (dJ (gX 5) λx=>gO (opE 10 [x])) (sA (gX 0))):=funext λ_=>EN
def gK (lv:Nat) (op:UInt8) (a:Ex) (b:Ex):Pz Ex:=if lv=2 then gO (opE op [a,b]) else gL lv (opE op [a,b])
def bS0 (op:UInt8) (nm:Str):Pz Ex:=dJ (gX 0) λx=>dJ (gNd [93]) λ_=>gO (.mk op nm 0 [x])
def bR9:Pz Ex:=dJ gNu λv=>gO (.mk 1 [] v [])
def aP2:Pz Ex:=dJ gNm λs=>lP [91] (bS0 6 s) (gO (.mk 5 s 0 []))
def aI7:List Tk->Bool
 | []=>false
 | t::_=>decide (t.k=3)
def NH:Pz Ex:=λr=>if aI7 r then bR9 r else aP2 r
def QV:Pz Ex :=
 lP [116,114,117,101] (gO (opE 2 []))<|lP [102,97,108,115,101] (gO (opE 3 []))<|lP [110,111,119] (gO (opE 4 []))<|lP [115,105,122,101] (dJ gNm λs=>gO (.mk 8 s 0 []))<|lP [104,97,115] (dJ gNm λs=>dJ (gNd [91]) λ_=>bS0 7 s)<|lP [40] (dJ (gX 0) λx=>dJ (gNd [41]) λ_=>gO x) NH
theorem XA {α:Type} (r:List Tk) (f:Str->Pz α):(BQ r λs q=>f s q)=dJ gNm f r:=by
 unfold BQ dJ gNm;cases r with
 | nil=>rfl
 | cons t q =>
  simp only
  split <;> rfl
theorem HN {α:Type} (w:Str) (r:List Tk) (f:Pz α):(tO w r λq=>f q)=dJ (gNd w) (λ_=>f) r:=by
 unfold tO dJ gNd
 split <;> rfl
variable {w:Str}
theorem bE8 {t:Tk} {q:List Tk} (h:isT w (t::q)=true):(t.k=2\/t.k=4)/\t.t=w:=by
 unfold isT at h;rw [aC,aA,aT,dM,dM] at h;exact h
theorem cB7 {t:Tk} {q:List Tk} (h:t.k=3):isT w (t::q)=false:=by
 cases e:isT w (t::q) with
 | false=>rfl
 | true =>
  have:=(bE8 e).1;rw [h] at this
  revert this
  decide
theorem aH1:sA (gX 0)=QV:=funext λr=>by
 cases r with
 | nil=>rfl
 | cons t q =>
  by_cases h3:t.k=3
  ·have e:QV (t::q)=bR9 (t::q):=by
    unfold QV lP NH aI7;simp only [cB7 h3,aB,aS,h3,decide_true,aU]
   rw [e];unfold sA bR9 dJ gNu;simp only [h3,aU]
   split <;> rfl
  ·have hl:NH (t::q)=aP2 (t::q):=by
    unfold NH aI7;simp only [h3,wH,aB,aS]
   unfold sA;simp only [h3,aS];unfold QV lP;refine ifC rfl (ifC rfl (ifC rfl (ifC ?_ ?_)))
   ·exact XA q λs=>gO _
   by_cases hp:isT [40] (t::q)=true
   ·have hn:isT [104,97,115] (t::q)=false:=by
     cases e:isT [104,97,115] (t::q) with
     | false=>rfl
     | true =>
      have h1:=(bE8 hp).2;have h2:=(bE8 e).2;rw [h1] at h2
      revert h2
      decide
    simp only [hp,hn,aU,aB,aS];refine Rs.bind_congr rfl λx r2 _=>?_;exact HN [41] r2 (gO x)
   ·simp only [hp,aB,aS];refine ifC ?_ ?_
    ·rw [yV,<-XA];unfold BQ;cases q with
     | nil=>rfl
     | cons t2 q2 =>
      simp only;refine ifC ?_ rfl;rw [<-HN];unfold tO;refine ifC ?_ rfl;refine Rs.bind_congr rfl λx r4 _=>?_;exact HN [93] r4 (gO _)
    ·rw [hl];unfold aP2 dJ gNm;simp only
     by_cases h1:t.k=1
     ·simp only [h1,aU];show _=lP [91] (bS0 6 t.t) (gO (.mk 5 t.t 0 [])) q;unfold lP;refine ifC ?_ rfl;refine Rs.bind_congr rfl λx r4 _=>?_;exact HN [93] r4 (gO _)
     ·simp only [h1,aS]
      rfl
section
variable {α β:Type}
end
theorem Cz.st {b:Pz (List Sm)} (h:Cz b):Cz (gSt b):=by
 have hx:Cz gEx:=Cz.ex 0;have blk:Cz (JB b):=.bind (.nd _) λ_=>.bind h λ_=>.bind (.nd _) λ_=>.pure _;have els:Cz (aP3 b):=.alt blk (.pure _);have oth:Cz (XK b):=.alt blk (.bind (.nd _) λ_=>.pure _);have lst:Cz (CP gEx):=.bind (.nd _) λ_=>.alt (.pure _) (.bind hx λ_=>.bind (.many hx) λ_=>.bind (.nd _) λ_=>.pure _)
 exact .alt (.bind hx λ_=>.bind blk λ_=>.bind els λ_=>.pure _)<|.alt (.bind hx λ_=>.bind blk λ_=>.pure _)<|.alt (.bind hx λ_=>.bind (.nd _) λ_=>.bind hx λ_=>.bind oth λ_=>.pure _)<|.alt (.bind .nm λ_=>.bind (.nd _) λ_=>.bind hx λ_=>.bind oth λ_=>.pure _)<|.alt (.bind .nm λ_=>.bind (.nd _) λ_=>.bind .nm λ_=>.bind lst λ_=>.bind (.nd _) λ_=>.pure _)<|.alt (.bind hx λ_=>.bind (.nd _) λ_=>.bind .nm λ_=>.bind lst λ_=>.bind (.nd _) λ_=>.pure _)<|.alt (.bind (.nd _) λ_=>.pure _)<|.alt (.bind .nm λ_=>.bind (.nd _) λ_=>.bind hx λ_=>.bind (.nd _) λ_=>.bind (.nd _) λ_=>.pure _)<|.bind .nm λ_=>.alt (.bind hx λ_=>.bind (.nd _) λ_=>.bind (.nd _) λ_=>.bind hx λ_=>.bind (.nd _) λ_=>.pure _)
  (.bind (.nd _) λ_=>.bind hx λ_=>.bind (.nd _) λ_=>.pure _)
theorem Cz.bF:∀ f,Cz (gBF f)
 | 0=>λr r' c e=>by unfold gBF at e;injection e with _ e;omega
 | f+1=>λr r' c e=>by
  unfold gBF at e
  split at e
  ·cases e
  ·rcases Rs.bind_er e with e | ⟨a,q,_,e⟩
   ·exact Cz.st (Cz.bF f) _ _ _ e
   ·rcases Rs.bind_er e with e | ⟨l,q2,_,e⟩
    ·exact Cz.bF f _ _ _ e
    ·cases e
theorem Cz.b:Cz gB:=λr r' c e=>Cz.bF _ _ _ _ e
section
variable {α:Type}
theorem Cz.blk:Cz (JB gB):=.bind (.nd _) λ_=>.bind Cz.b λ_=>.bind (.nd _) λ_=>.pure _
theorem Cz.list {p:Pz α} (h:Cz p):Cz (CP p):=.bind (.nd _) λ_=>.alt (.pure _) (.bind h λ_=>.bind (.many h) λ_=>.bind (.nd _) λ_=>.pure _)
theorem Cz.int:Cz bF2:=.alt (.bind .nu λ_=>.pure _) .nu
theorem Cz.hd:Cz gHd:=.bind .nm λ_=>.bind (.list .nm) λ_=>.bind .blk λ_=>.pure _
end
theorem Shr.int:Shr bF2:=.alt (.bind Shs.nu.le λ_=>.pure _) Shs.nu.le
section
variable {α β:Type}
def En (p:Pz α):Prop:=p []=.er [] 8\/∃ b,p []=.ok b []
def Pf (N:Nat) (p:Pz α):Prop:=∀ r a q,r.length<=N->p r=.ok a q->∃ u,r=u++q/\(∀ v w,u=v++w->p v=.er [] 8\/∃ b,p v=.ok b [])/\(∀ v,v≠[]->v.head? = q.head? -> p (u++v)=.ok a v)
theorem Pf.le {N M:Nat} {p:Pz α} (h:Pf N p) (k:M<=N):Pf M p:=λr a q hr e=>h r a q (aV hr k) e
theorem Pf.zero {p:Pz α} (h:Shr p):Pf 0 p:=λr a q hr e=>by
 obtain rfl:r=[]:=bK (by omega);have:=h _ _ _ e;obtain rfl:q=[]:=bK (by simpa using this);refine ⟨[],Z,λv w h=>?_,λv hv h=>?_⟩
 ·obtain rfl:=(gJ.1 h.symm).1;exact .inr ⟨a,e⟩
 ·cases v with
  | nil=>exact absurd rfl hv
  | cons x v=>cases h
theorem En.pure (a:α):En (gO a):=.inr ⟨a,Z⟩
theorem En.bind {p:Pz α} {f:α->Pz β} (h:En p) (k:∀ a,En (f a)):En (dJ p f):=by
 rcases h with h | ⟨b,h⟩
 ·exact .inl (by unfold dJ;rw [h];rfl)
 ·have e:dJ p f []=f b []:=by unfold dJ;rw [h];rfl
  rcases k b with k | ⟨c,k⟩
  ·exact .inl (e.trans k)
  ·exact .inr ⟨c,e.trans k⟩
theorem En.nd (w:Str):En (gNd w):=.inl rfl
theorem En.nm:En gNm:=.inl rfl
theorem En.nu:En gNu:=.inl rfl
theorem En.alt {w:Str} {p q:Pz α} (h:En q):En (lP w p q):=h
theorem En.many {w:Str} {p:Pz α}:En (BS w p):=.inr ⟨[],Z⟩
theorem Pf.pure {N:Nat} (a:α):Pf N (gO a):=λr b q _ e=>by
 injection e with e1 e2
 subst e1;subst e2;refine ⟨[],Z,λv w h=>?_,λv _ _=>rfl⟩;obtain rfl:=(gJ.1 h.symm).1;exact .inr ⟨a,Z⟩
theorem Pf.bindS {N M:Nat} {p:Pz α} {f:α->Pz β} (hp:Pf N p) (hM:∀ r a q,r.length<=N->p r=.ok a q->q.length<=M) (hf:∀ a,Pf M (f a)) (he:∀ a,En (f a)):Pf N (dJ p f):=by
 intro r b q' hr e;obtain ⟨a,q,h1,h2⟩:=Rs.bind_ok e;obtain ⟨u1,rfl,A1,B1⟩:=hp _ _ _ hr h1;obtain ⟨u2,rfl,A2,B2⟩:=hf a _ _ _ (hM _ _ _ hr h1) h2;have go:∀ x c y,p x=.ok c y->dJ p f x=f c y:=λx c y h=>by unfold dJ;rw [h];rfl
 have fst:∀ v w,u1=v++w->dJ p f v=.er [] 8\/∃ b,dJ p f v=.ok b []:=λv w h=>by
  rcases A1 v w h with h3 | ⟨b',h3⟩
  ·exact .inl (by unfold dJ;rw [h3];rfl)
  ·rw [go _ _ _ h3];exact he b'
 have hd:∀ (x y z:List Tk),(y.head? = z.head?)->(x++y).head? = (x++z).head? := λx y z h=>by
  cases x with
  | nil=>exact h
  | cons t x=>rfl
 refine ⟨u1++u2,(bW ..).symm,λv w h=>?_,λv hv h=>?_⟩
 ·rcases List.append_eq_append_iff.1 h with ⟨a',rfl,rfl⟩ | ⟨c,rfl,rfl⟩
  ·cases a' with
   | nil =>
    rw [dO];exact fst u1 [] (dO _).symm
   | cons t a' =>
    rw [go _ _ _ (B1 (t::a') (by simp) rfl)];exact A2 (t::a') w rfl
  ·exact fst v c rfl
 ·rw [bW,go _ _ _ (B1 (u2++v) (λk=>hv (gJ.1 k).2) (hd _ _ _ h))];exact B2 v hv h
theorem Pf.bind {N:Nat} {p:Pz α} {f:α->Pz β} (hp:Pf N p) (hf:∀ a,Pf N (f a)) (he:∀ a,En (f a)):Pf N (dJ p f):=.bindS hp (λr a q hr e=>by
 obtain ⟨u,rfl,_⟩:=hp r a q hr e;rw [aE] at hr;omega) hf he
theorem Pf.one {N:Nat} {p:Pz α} (h0:p []=.er [] 8) (h1:∀ t,(∃ a,∀ r,p (t::r)=.ok a r)\/∀ r,∃ r' c,p (t::r)=.er r' c):Pf N p:=by
 intro r a q _ e;cases r with
 | nil=>rw [h0] at e;cases e
 | cons t r =>
  rcases h1 t with ⟨b,h⟩ | h
  ·rw [h] at e;injection e with e1 e2
   subst e1;subst e2;refine ⟨[t],Z,λv w hv=>?_,λv _ _=>h v⟩;cases v with
   | nil=>exact .inl h0
   | cons x v =>
    injection hv with hx hv
    subst hx;obtain rfl:=(gJ.1 hv.symm).1;exact .inr ⟨b,h []⟩
  ·obtain ⟨r',c,h⟩:=h r;rw [h] at e;cases e
theorem Pf.nd {N:Nat} (w:Str):Pf N (gNd w):=.one rfl λt=>by
 cases e:isT w [t] with
 | true=>exact .inl ⟨(),λr=>by show (if isT w [t]=true then _ else _)=_;rw [aM e];rfl⟩
 | false=>exact .inr λr=>⟨_,_,by show (if isT w [t]=true then _ else _)=_;rw [aD (by rw [e];decide)]⟩
theorem Pf.nm {N:Nat}:Pf N gNm:=.one rfl λt=>by
 by_cases e:t.k=1
 ·exact .inl ⟨t.t,λr=>by unfold gNm;simp only [e,aU]⟩
 ·exact .inr λr=>⟨t::r,8,by unfold gNm;simp only [e,aS]⟩
theorem Pf.nu {N:Nat}:Pf N gNu:=.one rfl λt=>by
 by_cases e:t.k=3
 ·by_cases e2:lY t.t<=9223372036854775807
  ·exact .inl ⟨Int64.ofNat (lY t.t),λr=>by unfold gNu;simp only [e,e2,aU]⟩
  ·exact .inr λr=>⟨t::r,2,by unfold gNu;simp only [e,e2,aU,aS]⟩
 ·exact .inr λr=>⟨t::r,8,by unfold gNu;simp only [e,aS]⟩
theorem Pf.choice {N:Nat} {c:List Tk->Bool} {p:Tk->Pz α} {q g:Pz α} (hc0:c []=false) (hc:∀ t r r',c (t::r)=c (t::r')) (hT:∀ t r,c (t::r)=true->g (t::r)=p t r) (hF:∀ r,c r=false->g r=q r)
 (hp:∀ t M,M+1<=N->Pf M (p t)) (hq:Pf N q) (he:En q):Pf N g:=by
 intro r a z hr e;cases h:c r with
 | true =>
  cases r with
  | nil=>rw [hc0] at h;cases h
  | cons t r =>
   rw [hT _ _ h] at e;obtain ⟨u,rfl,A,B⟩:=hp t r.length (by simpa using hr) _ _ _ (aW _) e;refine ⟨t::u,Z,λv w hv=>?_,λv hn hv=>?_⟩
   ·cases v with
    | nil=>rw [hF _ hc0];exact he
    | cons x v =>
     injection hv with hx hv
     subst hx;rw [hT _ _ ((hc ..).trans h)];exact A v w hv
   ·show g (t::(u++v))=_;rw [hT _ _ ((hc ..).trans h)];exact B v hn hv
 | false =>
  rw [hF _ h] at e;obtain ⟨u,rfl,A,B⟩:=hq _ _ _ hr e
  have pre:∀ v,(v=[]\/v.head? = (u++z).head?)->c v=false:=λv hv=>by
   cases v with
   | nil=>exact hc0
   | cons x v =>
    rcases hv with hv | hv
    ·cases hv
    ·cases k:u++z with
     | nil=>rw [k] at hv;cases hv
     | cons y s =>
      rw [k] at hv h;injection hv with hv
      subst hv;exact (hc x v s).trans h
  refine ⟨u,Z,λv w hv=>?_,λv hn hv=>?_⟩
  ·rw [hF _ (pre v (by rw [hv];cases v <;> simp))];exact A v w hv
  ·rw [hF _ (pre (u++v) (.inr (by cases u <;> first | exact hv | rfl)))];exact B v hn hv
theorem Pf.look {N:Nat} {c:List Tk->Bool} {p q g:Pz α} (hc0:c []=false) (hc:∀ t r r',c (t::r)=c (t::r')) (hT:∀ r,c r=true->g r=p r) (hF:∀ r,c r=false->g r=q r)
 (hp:Pf N p) (hq:Pf N q) (he:En q):Pf N g:=by
 intro r a z hr e
 have pre:∀ (x:Bool) (v:List Tk),v≠[]->v.head? = r.head? -> c r=x->c v=x:=λx v hn h2 h3=>by
  cases v with
  | nil=>exact absurd rfl hn
  | cons y v =>
   cases r with
   | nil=>cases h2
   | cons t r =>
    injection h2 with h2
    subst h2;exact (hc ..).trans h3
 have h1:∀ (u v w:List Tk),r=u++z->u=v++w->v≠[]->v.head? = r.head? := λu v w h2 h3 hn=>by
  cases v with
  | nil=>exact absurd rfl hn
  | cons y v=>rw [h2,h3];rfl
 have h2:∀ (u v:List Tk),r=u++z->v.head? = z.head? -> (u++v).head? = r.head? := λu v h3 h4=>by
  rw [h3];cases u with
  | nil=>exact h4
  | cons y u=>rfl
 cases h:c r with
 | true =>
  rw [hT _ h] at e;obtain ⟨u,hu,A,B⟩:=hp _ _ _ hr e;refine ⟨u,hu,λv w hv=>?_,λv hn hv=>?_⟩
  ·by_cases hn:v=[]
   ·subst hn;rw [hF _ hc0];exact he
   ·rw [hT _ (pre _ v hn (h1 u v w hu hv hn) h)];exact A v w hv
  ·rw [hT _ (pre _ (u++v) (λk=>hn (gJ.1 k).2) (h2 u v hu hv) h)];exact B v hn hv
 | false =>
  rw [hF _ h] at e;obtain ⟨u,hu,A,B⟩:=hq _ _ _ hr e;refine ⟨u,hu,λv w hv=>?_,λv hn hv=>?_⟩
  ·by_cases hn:v=[]
   ·subst hn;rw [hF _ hc0];exact he
   ·rw [hF _ (pre _ v hn (h1 u v w hu hv hn) h)];exact A v w hv
  ·rw [hF _ (pre _ (u++v) (λk=>hn (gJ.1 k).2) (h2 u v hu hv) h)];exact B v hn hv
theorem Pf.alt {N:Nat} {w:Str} {p q:Pz α} (hp:∀ M,M+1<=N->Pf M p) (hq:Pf N q) (he:En q):Pf N (lP w p q) :=
 .choice (c:=isT w) (p:=λ_=>p) rfl (λ_ _ _=>rfl) (λt r h=>by unfold lP;rw [aM h];rfl) (λr h=>by unfold lP;rw [aD (by rw [h];decide)]) (λ_=>hp) hq he
theorem Pf.many {w:Str} {p:Pz α} (hs:Shr p):∀ (N:Nat),(∀ M,M+1<=N->Pf M p)->Pf N (BS w p)
 | 0,_=>.zero (.many hs)
 | N+1,h=>by
  rw [NG hs];refine .alt (λM hM=>?_) (.pure _) (.pure _);exact .bind (h M hM) (λa=>.bind ((Pf.many hs N λM hM=>h M (by omega)).le (by omega)) (λ_=>.pure _) (λ_=>.pure _)) (λa=>.bind .many λ_=>.pure _)
end
section
variable {α β:Type}
structure PE (N:Nat) (p:Pz α):Prop where
 pf:Pf N p
 en:En p
theorem PE.le {N M:Nat} {p:Pz α} (h:PE N p) (k:M<=N):PE M p:=⟨h.pf.le k,h.en⟩
theorem PE.pure {N:Nat} (a:α):PE N (gO a):=⟨.pure a,.pure a⟩
theorem PE.bind {N:Nat} {p:Pz α} {f:α->Pz β} (hp:PE N p) (hf:∀ a,PE N (f a)):PE N (dJ p f):=⟨.bind hp.pf (λa=>(hf a).pf) (λa=>(hf a).en),.bind hp.en λa=>(hf a).en⟩
theorem PE.nd {N:Nat} (w:Str):PE N (gNd w):=⟨.nd w,.nd w⟩
theorem PE.nm {N:Nat}:PE N gNm:=⟨.nm,.nm⟩
theorem PE.nu {N:Nat}:PE N gNu:=⟨.nu,.nu⟩
theorem PE.alt {N:Nat} {w:Str} {p q:Pz α} (hp:∀ M,M+1<=N->PE M p) (hq:PE N q):PE N (lP w p q):=⟨.alt (λM h=>(hp M h).pf) hq.pf hq.en,.alt hq.en⟩
theorem PE.many {N:Nat} {w:Str} {p:Pz α} (hs:Shr p) (hp:∀ M,M+1<=N->PE M p):PE N (BS w p):=⟨.many hs N λM h=>(hp M h).pf,.many⟩
theorem PE.list {N:Nat} {p:Pz α} (hs:Shr p) (hp:∀ M,M<=N->PE M p):PE N (CP p):=.bind (.nd _) λ_=>.alt (λM _=>.pure _) (.bind (hp N (aW _)) λ_=>.bind (.many hs λM h=>hp M (by omega)) λ_=>.bind (.nd _) λ_=>.pure _)
end
theorem WV (lv:Nat):opAt lv []=none:=by
 have h:(bZ9 lv).find? (λx=>isT x.1 [])=none:=List.find?_eq_none.2 (λx _=>Bool.false_ne_true);unfold opAt;rw [h]
 rfl
theorem En.l (lv:Nat) (a:Ex):En (gL lv a):=.inr ⟨a,DJ (WV lv)⟩
theorem En.nam:En aP2:=.bind .nm λ_=>.alt (.pure _)
theorem En.prim:En QV:=.alt<|.alt<|.alt<|.alt<|.alt<|.alt En.nam
theorem En.x:∀ (d lv:Nat),lv+d=5->En (gX lv)
 | 0,lv,h=>by
  obtain rfl:lv=5:=by omega
  rw [bW9,aH1];exact .alt (.alt En.prim)
 | d+1,lv,h=>by
  rw [bF1 (by omega)];exact .bind (En.x d (lv+1) (by omega)) λa=>En.l lv a
theorem Shr.l (lv:Nat) (a:Ex):Shr (gL lv a):=λr b r' e=>(CI _).2 _ _ _ _ _ e
theorem Pf.xl:∀ (N:Nat),(∀ lv,lv<=5->Pf N (gX lv))/\(∀ lv,lv<=4->∀ a,Pf N (gL lv a))
 | 0=>⟨λlv _=>.zero (Shs.gx lv).le,λlv _ a=>.zero (Shr.l lv a)⟩
 | N+1=>by
  obtain ⟨ih1,ih2⟩:=Pf.xl N;have x:∀ lv,lv<=5->∀ M,M+1<=N+1->PE M (gX lv):=λlv h M hM=>⟨(ih1 lv h).le (by omega),En.x (5 - lv) lv (by omega)⟩
  have hk:∀ lv op a b,lv<=4->∀ M,M+1<=N+1->PE M (gK lv op a b):=λlv op a b h M hM=>by
   unfold gK
   split
   ·exact .pure _
   ·exact ⟨(ih2 lv h _).le (by omega),En.l lv _⟩
  have hl:∀ lv,lv<=4->∀ a,Pf (N+1) (gL lv a):=λlv h a=>by
   refine .choice (c:=λr=>(opAt lv r).isSome) (p:=λt=>match opAt lv [t] with | some op=>dJ (gX (lv+1)) (gK lv op a) | none=>gO a) (q:=gO a) ?_ (λ_ _ _=>rfl) ?_ ?_ ?_ (.pure _) (.pure _)
   ·show (opAt lv []).isSome=false;rw [WV]
    rfl
   ·intro t r e;obtain ⟨op,e⟩:=qN.1 e;have e2:opAt lv [t]=some op:=e;simp only [e2];show pL lv a (t::r)=_;rw [aH3 h e];refine Rs.bind_congr rfl λb q _=>?_;unfold gK
    split <;> rfl
   ·intro r e
    have e2:opAt lv r=none:=by
     cases k:opAt lv r with
     | none=>rfl
     | some op=>rw [k] at e;cases e
    exact DJ e2
   ·intro t M hM;show Pf M (match opAt lv [t] with | some op=>dJ (gX (lv+1)) (gK lv op a) | none=>gO a);cases opAt lv [t] with
    | none=>exact .pure _
    | some op=>exact (PE.bind (x (lv+1) (by omega) M hM) λb=>hk lv op a b h M hM).pf
  have key:∀ op nm M,M+1<=N+1->PE M (bS0 op nm):=λop nm M hM=>.bind (x 0 (by omega) M hM) λ_=>.bind (.nd _) λ_=>.pure _;have nam:PE (N+1) aP2:=.bind .nm λs=>.alt (λM hM=>key 6 s M hM) (.pure _);have last:PE (N+1) NH:=⟨.look (c:=aI7) (p:=bR9) (q:=aP2) rfl (λ_ _ _=>rfl) (λr h=>by unfold NH;rw [aM h]) (λr h=>by unfold NH;rw [aD (by rw [h];decide)]) (PE.bind .nu λ_=>.pure _).pf nam.pf nam.en,nam.en⟩;have prim:PE (N+1) QV:=.alt (λ_ _=>.pure _)<|.alt (λ_ _=>.pure _)<|.alt (λ_ _=>.pure _)<|.alt (λ_ _=>.bind .nm λ_=>.pure _)<|.alt (λM hM=>.bind .nm λs=>.bind (.nd _) λ_=>key 7 s M hM)<|.alt (λM hM=>.bind (x 0 (by omega) M hM) λ_=>.bind (.nd _) λ_=>.pure _) last
  have h5:PE (N+1) (gX 5):=by
   rw [bW9,aH1];exact .alt (λM hM=>.bind (x 5 (by omega) M hM) λ_=>.pure _)<|.alt (λM hM=>.bind (x 5 (by omega) M hM) λ_=>.pure _) prim
  have all:∀ d lv,lv+d=5->PE (N+1) (gX lv):=λd=>by
   induction d with
   | zero =>
    intro lv h;obtain rfl:lv=5:=by omega
    exact h5
   | succ d ih =>
    intro lv h;rw [bF1 (by omega)];exact .bind (ih (lv+1) (by omega)) λa=>⟨hl lv (by omega) a,En.l lv a⟩
  exact ⟨λlv h=>(all (5 - lv) lv (by omega)).pf,hl⟩
theorem PE.ex:PE N gEx:=⟨(Pf.xl N).1 0 (by omega),En.x 5 0 rfl⟩
theorem PE.st {b:Pz (List Sm)} (hb:∀ M,M+1<=N->PE M b):PE N (gSt b):=by
 have blk:∀ M,M+1<=N->PE M (JB b):=λM h=>.bind (.nd _) λ_=>.bind (hb M h) λ_=>.bind (.nd _) λ_=>.pure _;have els:∀ M,M+1<=N->PE M (aP3 b):=λM h=>.alt (λM' h'=>blk M' (by omega)) (.pure _);have oth:∀ M,M+1<=N->PE M (XK b):=λM h=>.alt (λM' h'=>blk M' (by omega)) (.bind (.nd _) λ_=>.pure _);have lst:∀ M,PE M (CP gEx):=λM=>.list Shs.ex.le λ_ _=>.ex
 exact .alt (λM h=>.bind .ex λ_=>.bind (blk M h) λ_=>.bind (els M h) λ_=>.pure _)<|.alt (λM h=>.bind .ex λ_=>.bind (blk M h) λ_=>.pure _)<|.alt (λM h=>.bind .ex λ_=>.bind (.nd _) λ_=>.bind .ex λ_=>.bind (oth M h) λ_=>.pure _)<|.alt (λM h=>.bind .nm λ_=>.bind (.nd _) λ_=>.bind .ex λ_=>.bind (oth M h) λ_=>.pure _)<|.alt (λM h=>.bind .nm λ_=>.bind (.nd _) λ_=>.bind .nm λ_=>.bind (lst M) λ_=>.bind (.nd _) λ_=>.pure _)<|.alt (λM h=>.bind .ex λ_=>.bind (.nd _) λ_=>.bind .nm λ_=>.bind (lst M) λ_=>.bind (.nd _) λ_=>.pure _)<|.alt (λM h=>.bind (.nd _) λ_=>.pure _)<|.alt (λM h=>.bind .nm λ_=>.bind (.nd _) λ_=>.bind .ex λ_=>.bind (.nd _) λ_=>.bind (.nd _) λ_=>.pure _)<|.bind .nm λ_=>.alt (λM h=>.bind .ex λ_=>.bind (.nd _) λ_=>.bind (.nd _) λ_=>.bind .ex λ_=>.bind (.nd _) λ_=>.pure _)
  (.bind (.nd _) λ_=>.bind .ex λ_=>.bind (.nd _) λ_=>.pure _)
theorem En.b:En gB:=.inl (by rw [XL];rfl)
theorem PE.b:∀ N,PE N gB
 | 0=>⟨.zero Shr.b,En.b⟩
 | N+1=>by
  have st:PE (N+1) (gSt gB):=.st λM h=>(PE.b N).le (by omega);have rest:∀ a:Sm,PE N (dJ gB λl=>gO (a::l)):=λa=>.bind (PE.b N) λ_=>.pure _
  refine ⟨.look (c:=isT [125]) (p:=gO []) (q:=dJ (gSt gB) λs=>dJ gB λl=>gO (s::l)) rfl (λ_ _ _=>rfl) (λr h=>?_) (λr h=>?_) (.pure _)
   (.bindS st.pf (λr a q hr e=>?_) (λa=>(rest a).pf) (λa=>(rest a).en)) (.bind st.en λa=>(rest a).en),En.b⟩
  ·rw [XL,aM h]
   rfl
  ·rw [XL,aD (by rw [h];decide)]
   rfl
  ·have:=Shs.st Shr.b _ _ _ e;omega
theorem PE.blk:PE N (JB gB):=.bind (.nd _) λ_=>.bind (.b N) λ_=>.bind (.nd _) λ_=>.pure _
theorem PE.int:PE N bF2:=.alt (λ_ _=>.bind .nu λ_=>.pure _) .nu
theorem PE.hd:PE N gHd:=.bind .nm λ_=>.bind (.list Shs.nm.le λ_ _=>.nm) λ_=>.bind .blk λ_=>.pure _
structure Xf {α:Type} (p:Pz α):Prop where
 no:p []=.er [] 8
 go:∀ r a q w,p r=.ok a q->p (r++w)=.ok a (q++w)
theorem Xf.nd (w:Str):Xf (gNd w):=⟨Z,λr a q z e=>by
 cases r with
 | nil=>cases e
 | cons t r =>
  unfold gNd at e
  split at e
  ·rename_i h;injection e with _ e
   subst e;show (if isT w (t::(r++z))=true then _ else _)=_;have h2:isT w (t::(r++z))=true:=h;rw [aM h2]
   rfl
  ·cases e⟩
theorem Xf.pure {α β:Type} {p:Pz α} {f:α->β} (h:Xf p):Xf (dJ p λa=>gO (f a)):=⟨by unfold dJ;rw [h.no];rfl,λr b q w e=>by
 obtain ⟨a,q1,h1,h2⟩:=Rs.bind_ok e;injection h2 with h2 h3
 subst h2;subst h3;unfold dJ;rw [h.go r a q1 w h1]
 rfl⟩
theorem Xf.bind {α β:Type} {p:Pz α} {f:α->Pz β} (hp:∀ N,PE N p) (hf:∀ a,Xf (f a)):Xf (dJ p f):=⟨by
 unfold dJ;rcases (hp 0).en with h | ⟨b,h⟩
 ·rw [h];rfl
 ·rw [h];exact (hf b).no,λr b q' w e=>by
 obtain ⟨a,q,h1,h2⟩:=Rs.bind_ok e
 have hq:q≠[]:=λk=>by
  subst k;rw [(hf a).no] at h2;cases h2
 obtain ⟨u,rfl,_,B⟩:=(hp r.length).pf _ _ _ (aW _) h1;have h3:=B (q++w) (λk=>hq (gJ.1 k).1) (by cases q with | nil=>exact absurd rfl hq | cons t q=>rfl);unfold dJ;rw [bW,h3];exact (hf a).go q b q' w h2⟩
def TO (ks:List Kt):List Kt:=(4,[40])::(ks++[(4,[41])])
def RdK (ks:List Kt) (e:Ex):Prop:=∀ le r,le.map kt=ks->Stp 0 r->pX 0 (le++r)=.ok e r
variable {ks:List Kt}
theorem RdK.par (h:RdK ks e) {le r:List Tk} (hk:le.map kt=TO ks):pX 5 (le++r)=.ok e r:=by
 unfold TO at hk;obtain ⟨t,l1,rfl,ht,hk⟩:=cU.1 hk;obtain ⟨l2,l3,rfl,h2,h3⟩:=iJ.1 hk;obtain ⟨t2,l4,rfl,ht2,h4⟩:=cU.1 h3;obtain rfl:=fJ.1 h4;simp only [bL,bW,dB];have hf:=h l2 (t2::r) h2 (.of (by rw [ht2];decide) (by rw [ht2];decide));rw [EN,fP,fP,ht,aD (by decide),aD (by decide),sA];have hk0:t.k=4:=congrArg Prod.fst ht;simp only [fP,ht];rw [aD (by rw [hk0];decide),aD (by decide),aD (by decide),aD (by decide),aD (by decide),aM (by decide),hf];show tO [41] (t2::r) _=_;rw [tO,fP,ht2,aM (by decide)]
 rfl
end Go.Proofs.YtidclioghdbphaaGreatDoor
/- Plain: expressions with all parentheses are read back: the cases beside two operands. -/
namespace Go.Proofs.YtidclioghdbphaaGreatDoor
mutual
def XM:Ex->List Kt
 | .mk op nm n args=>match bF4 args with
  | []=>ktE (.mk op nm n [])
  | [b]=>if op=6 then (1,nm)::(4,[91])::(b++[(4,[93])]) else if op=7 then (2,[104,97,115])::(1,nm)::(4,[91])::(b++[(4,[93])])
   else if op=9 then (4,[45])::TO b else (2,[110,111,116])::TO b
  | a::b::_=>TO a++FG op::TO b
def bF4:List Ex->List (List Kt)
 | []=>[]
 | e::r=>XM e::bF4 r
end
mutual
def aJ1:Ex->Str
 | .mk op nm n args=>match bF3 args with
  | []=>Ex.text (.mk op nm n [])
  | [b]=>if op=6 then nm++91::(b++[93]) else if op=7 then [104,97,115]++32::(nm++91::(b++[93]))
   else if op=9 then 45::32::40::(b++[41]) else [110,111,116]++32::40::(b++[41])
  | a::b::_=>40::(a++41::((eK op).tx++40::(b++[41])))
def bF3:List Ex->List Str
 | []=>[]
 | e::r=>aJ1 e::bF3 r
end
def LxF (e:Ex):Prop:=∀ r ks,wD r->Lx r ks->Lx (aJ1 e++r) (XM e++ks)/\hdB (aJ1 e++r)
variable {r:Str} {ks:List Kt}
variable {e:Ex}
theorem LxF.par (h:LxF e) (hr:hdB r) (hk:Lx r ks):Lx (40::(aJ1 e++41::r)) (TO (XM e)++ks):=by
 obtain ⟨k1,k2⟩:=h (41::r) ((4,[41])::ks) aC2 (.sy (by decide) hr hk);have e2:TO (XM e)++ks=(4,[40])::(XM e++(4,[41])::ks):=by simp [TO]
 rw [e2];exact .sy (by decide) k2 k1
variable {n:Nat}
theorem WJ {c:UInt8} {k:UInt8} (h:bM (c::r)=(k,n)) (h5:k≠5) :
 (nG c=true/\n=pre iR (c::r)/\(if words.contains ((c::r).take n) then (2:UInt8) else if n<=12 then 1 else 5)=k) \/
 (nG c=false/\iC c=true/\n=pre iC (c::r)/\(n=1\/c≠48)/\k=3) \/
 (nG c=false/\iC c=false/\k=4/\∃ y,symbols.find? (λx=>x.isPrefixOf (c::r))=some y/\n=y.length):=by
 cases h1:nG c with
 | true =>
  refine .inl ⟨Z,?_⟩;cases h4:words.contains ((c::r).take (pre iR (c::r))) with
  | true =>
   simp only [bM,aH,h1,h4,aU,iV] at h;obtain ⟨rfl,rfl⟩:=h;exact ⟨Z,by rw [h4];rfl⟩
  | false =>
   by_cases h6:pre iR (c::r)<=12
   ·simp only [bM,aH,h1,h4,h6,aU,aB,aS,iV] at h;obtain ⟨rfl,rfl⟩:=h;exact ⟨Z,by rw [h4,aD (by decide),aM h6]⟩
   ·simp only [bM,aH,h1,h4,h6,aU,aB,aS,iV] at h;exact absurd h.1.symm h5
 | false =>
  cases h4:iC c with
  | true =>
   by_cases h6:pre iC (c::r)=1\/c≠48
   ·simp only [bM,aH,h1,h4,h6,aU,aB,aS,iV] at h;obtain ⟨rfl,rfl⟩:=h;exact .inr (.inl ⟨Z,Z,Z,h6,Z⟩)
   ·simp only [bM,aH,h1,h4,h6,aU,aB,aS,iV] at h;exact absurd h.1.symm h5
  | false =>
   cases hx:symbols.find? (λx=>x.isPrefixOf (c::r)) with
   | none =>
    simp only [bM,aH,h1,h4,hx,aB,aS,iV] at h;exact absurd h.1.symm h5
   | some y =>
    simp only [bM,aH,h1,h4,hx,aB,aS,iV] at h;obtain ⟨rfl,rfl⟩:=h;exact .inr (.inr ⟨Z,Z,Z,y,Z,Z⟩)
theorem bM0 {c:UInt8} {t:Str} (hsh:(c::t).length<=1000000) (hall:(c::t).all iC=true) (h2:t=[]\/c≠48) (hr:∀ d,r.head? = some d->iC d=false):Tok (3,c::t) r:=by
 have hp:pre iC ((c::t)++r)=(c::t).length:=AL hall hr;rw [fE,aC] at hall;have hb:=US c hall.1;refine ⟨by simp,?_,pF hb.1 (λe=>hb.2.1 e.1),(show (3:UInt8)≠5 by decide),hsh⟩;show bM ((c::t)++r)=(3,(c::t).length);unfold bM;simp only;rw [show ((c::t)++r).headD 0=c from rfl,hb.2.2.2.2.2,aD (by decide),hall.1,aM rfl,hp];refine aM ?_;rcases h2 with rfl | h2
 ·exact .inl Z
 ·exact .inr h2
variable {w:Str}
theorem HH {q:UInt8->Bool} (h:pre q (w++r)=w.length):w.all q=true/\∀ d,r.head? = some d->q d=false:=by
 induction w with
 | nil =>
  refine ⟨Z,λd hd=>?_⟩;cases r with
  | nil=>cases hd
  | cons e r =>
   obtain rfl:e=d:=bH hd;cases hq:q e with
   | false=>rfl
   | true =>
    rw [dB] at h;unfold pre at h;rw [dZ,hq] at h;simp at h
 | cons a w ih =>
  rw [bL] at h;unfold pre at h;rw [dZ] at h;cases hq:q a with
  | false=>rw [hq] at h;simp at h
  | true =>
   rw [hq] at h;have:=ih (by unfold pre;simpa using h);exact ⟨by rw [fE,hq,this.1];rfl,this.2⟩
theorem XY {α:Type} {p q:α->Bool}:∀ {l:List α},(∀ x∈l,p x=q x)->l.find? p=l.find? q
 | [],_=>rfl
 | a::l,h=>by
  rw [List.find?_cons,List.find?_cons,h a (by simp),XY λx hx=>h x (cI _ hx)]
theorem aM0:∀ w∈symbols,w≠[]/\nG (w.headD 0)=false/\iC (w.headD 0)=false/\lQ (w.headD 0)=false/\w.take 2≠[47,47]/\w.all (λc=>!lQ c)=true/\w.length<=2/\symbols.find? (λx=>x.isPrefixOf w)=some w:=by decide +kernel
theorem ZX {z a b:Str} (hz:z.length<=2) (h:a.take 2=b.take 2):z.isPrefixOf a=z.isPrefixOf b:=by
 have key:∀ (m:Str),z.isPrefixOf m=z.isPrefixOf (m.take 2):=by
  intro m
  match z,hz,m with
  | [],_,m=>simp [List.isPrefixOf]
  | [x],_,[]=>rfl
  | [x],_,[y]=>rfl
  | [x],_,y::u::m=>rfl
  | [x,x'],_,[]=>rfl
  | [x,x'],_,[y]=>rfl
  | [x,x'],_,y::u::m=>rfl
 rw [key a,key b,h]
theorem Tok.tail {x:Kt} {d:UInt8} {r':Str} (h:Tok x (d::r)):Tok x (d::r'):=by
 obtain ⟨k,w⟩:=x;have hne:=h.ne
 match w,hne with
 | c::t,hne =>
  have hrd:bM (c::(t++d::r))=(k,(c::t).length):=h.read;have htk:(c::(t++d::r)).take (c::t).length=c::t:=by rw [<-bL,jV]
  have h2t:((c::t)++d::r).take 2=((c::t)++d::r').take 2:=by
   cases t with
   | nil=>rfl
   | cons b t=>rfl
  have hsk:eF false ((c::t)++d::r')=(c::t)++d::r':=by
   have h0:eF false (c::(t++d::r))=c::(t++d::r):=h.skip;rw [eF] at h0
   have hb:lQ c=false:=by
    cases e:lQ c with
    | false=>rfl
    | true =>
     rw [aM e] at h0;have h1:=congrArg List.length h0;have h2:=nA false (t++d::r);rw [aK] at h1;omega
   rw [aD (by rw [hb];decide)] at h0;refine pF hb λe=>?_;have e2:(t++d::r').head? = (t++d::r).head? := by cases t <;> rfl
   have e1:c=47/\(t++d::r').head? = some 47:=e;rw [e2] at e1;rw [aM e1] at h0;have h1:=congrArg List.length h0;have h2:=nA true (t++d::r);rw [aK] at h1;omega
  refine ⟨h.ne,?_,hsk,h.k5,h.sh⟩;show bM ((c::t)++d::r')=(k,(c::t).length);rcases WJ hrd h.k5 with ⟨h1,h2,h3⟩ | ⟨h1,h2,h3,h4,h5⟩ | ⟨h1,h2,h3,y,h4,h5⟩
  ·have ha:=HH (w:=c::t) (r:=d::r) h2.symm;have hp:pre iR ((c::t)++d::r')=(c::t).length:=AL ha.1 λe he=>ha.2 e he;rw [htk] at h3;unfold bM;simp only;rw [show ((c::t)++d::r').headD 0=c from rfl,h1,aM rfl,hp,jV]
   split at h3
   ·rename_i e;rw [aM e,<-h3]
   ·rename_i e;rw [aD e]
    split at h3
    ·rename_i e2;rw [aM e2,<-h3]
    ·exact absurd h3.symm h.k5
  ·obtain rfl:k=3:=h5;have ha:=HH (w:=c::t) (r:=d::r) h3.symm;have hp:pre iC ((c::t)++d::r')=(c::t).length:=AL ha.1 λe he=>ha.2 e he;unfold bM;simp only;rw [show ((c::t)++d::r').headD 0=c from rfl,h1,aD (by decide),h2,aM rfl,hp];exact aM h4
  ·obtain rfl:k=4:=h3
   have hf:symbols.find? (λx=>x.isPrefixOf ((c::t)++d::r'))=some y:=by
    rw [<-h4];exact XY λx hx=>ZX (aM0 x hx).2.2.2.2.2.2.1 h2t.symm
   unfold bM;simp only;rw [show ((c::t)++d::r').headD 0=c from rfl,h1,h2,hf];simp [<-h5]
variable {s:Str}
theorem Lx.size {k:List Kt} (h:Lx s k):(k.map λx=>x.2.length).sum<=s.length/\k.length<=(k.map λx=>x.2.length).sum:=by
 induction h with
 | nil=>simp
 | blk _ _ ih=>simp only [aK];omega
 | @tok x s k ht _ ih =>
  have:=BO.2 ht.ne;simp only [eT,List.sum_cons,aK,aE];omega
end Go.Proofs.YtidclioghdbphaaGreatDoor
namespace Go.Proofs.YtidclioghdbphaaGreatDoor
open Go.RowKit Go.Par Go.Sx
def tqN (n:Str):List Kt:=match eA n with | some (a,b)=>[(1,a),(4,[46]),(1,b)] | none=>[(1,n)]
def prQ (b:Bool) (l:List Kt):List Kt:=if b then (4,[40])::(l++[(4,[41])]) else l
def hdQ (l:List (UInt8 × List Kt)):UInt8 × List Kt:=l.headD (0,[])
def tqO (op:UInt8) (nm:Str) (n:Int64) (l:List (UInt8 × List Kt)):List Kt :=
 if op=1 then [(3,Lib.itoa n.toInt)]
 else if op=4 then [(2,[110,111,119])]
 else if op=5 then tqN nm
 else if op=6 then tqN nm++((4,[91])::((hdQ l).2++[(4,[93])]))
 else if op=8 then (2,[115,105,122,101])::tqN nm
 else if op=9 then (4,[45])::prQ (decide (tlv (hdQ l).1<6)) (hdQ l).2
 else if op=11\/op=12\/op=13\/op=14\/op=15 then
  prQ (decide (tlv (hdQ l).1<tlv op)) (hdQ l).2++(4,SW op)::prQ (decide (tlv (hdQ (l.drop 1)).1<tlv op+1)) (hdQ (l.drop 1)).2
 else [(4,[95])]
mutual
def tqT:Ex->List Kt
 | .mk op nm n args=>tqO op nm n (bL8 args)
def bL8:List Ex->List (UInt8 × List Kt)
 | []=>[]
 | e::r=>(e.op,tqT e)::bL8 r
end
theorem VO:∀ l,bL8 l=l.map λe=>(e.op,tqT e)
 | []=>rfl
 | e::r=>by rw [bL8,VO r];rfl
theorem cG1 {op:UInt8} {nm:Str} {n:Int64} {args:List Ex} :tqT (.mk op nm n args)=tqO op nm n (args.map λe=>(e.op,tqT e)):=by rw [tqT,VO]
def nmQ (n:Str):Bool:=match eA n with | some (a,b)=>fB a && fB b | none=>fB n
theorem yN:∀ {n a b:Str},eA n=some (a,b)->n=a++([46]:Str)++b
 | [],_,_,h=>by cases h
 | c::r,a,b,h=>by
  rw [eA] at h
  split at h
  ·rename_i hc;cases h;rw [hc];rfl
  ·cases hs:eA r with
   | none=>rw [hs] at h;cases h
   | some x =>
    obtain ⟨y,z⟩:=x;rw [hs] at h;cases h;rw [yN hs];rfl
variable {r:Str}
theorem aX1 {u:Nat} (hu:u<=9223372036854775808) (hr:∀ d,r.head? = some d->iC d=false):Tok (3,Lib.decDigits u) r:=by
 have hdl:=aK2 hu;obtain ⟨c,t,e,h2,_⟩:=JI u
 have hall:(Lib.decDigits u).all iC=true:=bC.2 λd hd=>by
  have:=Plain.digits_are u d hd;simp only [iC,aC,aA];exact this
 rw [e] at hall hdl|-;exact bM0 (by omega) hall h2 hr
theorem Lx.nd {u:Nat} {k:List Kt} (hu:u<=9223372036854775808) (hr:∀ d,r.head? = some d->iC d=false) (h:Lx r k):Lx (Lib.decDigits u++r) ((3,Lib.decDigits u)::k):=.tok (x:=(3,Lib.decDigits u)) (aX1 hu hr) h
def LxN (s:Str) (q:List Kt):Prop:=∀ r ks,wD r->Lx r ks->Lx (s++r) (q++ks)/\hdB (s++r)
theorem cA6 {op:UInt8} {nm:Str} {n:Int64} {args:List Ex} (h:rQ (.mk op nm n args)=false):(op=5\/op=6\/op=8->nmQ nm=true)/\(op=6\/op=8->(eA nm).isSome=true)/\∀ a∈args,rQ a=false:=by
 rw [aI2,aX4,oY] at h;obtain ⟨h1,h2⟩:=h;rw [Bool.not_eq_false'] at h1;unfold tnB at h1;refine ⟨λho=>?_,λho=>?_,λa ha=>?_⟩
 ·rw [aM ho] at h1;unfold nmQ;cases hs:eA nm with
  | none=>rw [hs] at h1;simp only [aC] at h1;exact h1.2
  | some x=>rw [hs] at h1;exact h1
 ·rw [aM (.inr ho)] at h1;cases hs:eA nm with
  | none=>rw [hs] at h1;rcases ho with rfl | rfl <;> simp at h1
  | some x=>rfl
 ·cases hm:rQ a with
  | false=>rfl
  | true=>rw [iZ.2 ⟨a,ha,hm⟩] at h2;cases h2
theorem ZD {op:UInt8} {nm:Str} {n:Int64} {args:List Ex} (h:eL (.mk op nm n args)=true) :
 (op=1/\nm=[]/\0<=n.toInt/\args=[])\/(op=4/\nm=[]/\n=0/\args=[])\/((op=5\/op=8)/\n=0/\args=[])\/(op=6/\n=0/\∃ a,args=[a]/\eL a=true)\/(op=9/\nm=[]/\n=0/\∃ a,args=[a]/\eL a=true) \/
 (op∈([11,12,13,14,15]:List UInt8)/\nm=[]/\n=0/\∃ a b,args=[a,b]/\eL a=true/\eL b=true):=by
 rw [eL] at h
 split at h
 ·rename_i e;simp only [aC,aA] at h;exact .inl ⟨e,h.1.1,h.1.2,bK h.2⟩
 split at h
 ·rename_i e;simp only [aC,aA] at h;exact .inr (.inl ⟨e,h.1.1,h.1.2,bK h.2⟩)
 split at h
 ·rename_i e;simp only [aC,aA] at h;exact .inr (.inr (.inl ⟨e,h.1,bK h.2⟩))
 split at h
 ·rename_i e;simp only [aC,aA,sY] at h;obtain ⟨a,rfl⟩:=iW h.2.2;exact .inr (.inr (.inr (.inl ⟨e,h.1,a,Z,by simpa using h.2.1⟩)))
 split at h
 ·rename_i e;simp only [aC,aA,sY] at h;obtain ⟨a,rfl⟩:=iW h.2.2;exact .inr (.inr (.inr (.inr (.inl ⟨e,h.1.1,h.1.2,a,Z,by simpa using h.2.1⟩))))
 split at h
 ·rename_i e;simp only [aC,aA,sY] at h;obtain ⟨a,b,rfl⟩:=zS (l:=args) h.2.2;refine .inr (.inr (.inr (.inr (.inr ⟨?_,h.1.1,h.1.2,a,b,Z,?_⟩))))
  ·simpa using e
  ·simpa using h.2.1
 ·cases h
def bnW (a b:Int64):Prop:=(a=0/\b=-1)\/(0<=a.toInt/\a.toInt<=b.toInt/\b.toInt<=200)
inductive Fg7:Fm->Prop
 | tf {op:UInt8} (h:op=1\/op=2):Fg7 (.mk op [] [] 0 0 [] [])
 | cmp {o:UInt8} {x y:Ex} (h:o∈([16,17,18,19,20,21]:List UInt8)) (hx:eL x=true) (hy:eL y=true):Fg7 (.mk 3 [] [] 0 0 [.mk o [] 0 [x,y]] [])
 | var {nm fd:Str}:Fg7 (.mk 4 nm fd 0 0 [] [])
 | has {nm fd:Str} {x:Ex} (hx:eL x=true):Fg7 (.mk 5 nm fd 0 0 [x] [])
 | flg {nm:Str}:Fg7 (.mk 6 nm [] 0 0 [] [])
 | arr {nm fd:Str} {ex:List Ex} (hl:ex.length<=4) (hx:∀ x∈ex,x=zE\/eL x=true):Fg7 (.mk 7 nm fd 0 0 ex [])
 | un {op:UInt8} {g:Fm} (h:op=8\/op=12):Fg7 (.mk op [] [] 0 0 [] [g])
 | win {op:UInt8} {a b:Int64} {g:Fm} (h:op=13\/op=14) (hw:bnW a b):Fg7 (.mk op [] [] a b [] [g])
 | amo {op:UInt8} {nm:Str} {a b:Int64} {g:Fm} (h:op=16\/op=17) (ha:-1000000<=a.toInt) (hb:-1000000<=b.toInt):Fg7 (.mk op nm [] a b [] [g])
 | cnt {nm:Str} {a b n:Int64} {g:Fm} (ha:-1000000<=a.toInt) (hb:-1000000<=b.toInt) (hn:0<=n.toInt):Fg7 (.mk 18 nm [] a b [.mk 1 [] n []] [g])
 | bin {op:UInt8} {g h:Fm} (ho:op=9\/op=10\/op=11):Fg7 (.mk op [] [] 0 0 [] [g,h])
 | snc {a b:Int64} {g h:Fm} (hw:bnW a b):Fg7 (.mk 15 [] [] a b [] [g,h])
theorem cM0 {op:UInt8} (h:op.toNat<=18):op∈([0,1,2,3,4,5,6,7,8,9,10,11,12,13,14,15,16,17,18]:List UInt8):=by
 revert h
 exact qX (q:=λop=>op.toNat<=18->op∈([0,1,2,3,4,5,6,7,8,9,10,11,12,13,14,15,16,17,18]:List UInt8)) (by decide +kernel) op
theorem cA0 {op:UInt8} (h:16<=op.toNat/\op.toNat<=21):op∈([16,17,18,19,20,21]:List UInt8):=by
 revert h
 exact qX (q:=λop=>16<=op.toNat/\op.toNat<=21->op∈([16,17,18,19,20,21]:List UInt8)) (by decide +kernel) op
variable {e:Ex}
theorem cE7 (h:BX e=true):e=zE:=by
 obtain ⟨op,nm,n,args⟩:=e;simp only [BX,aC,aA] at h;obtain ⟨⟨⟨rfl,rfl⟩,rfl⟩,h⟩:=h;rw [bK h];rfl
theorem PB {α:Type} {l:List α} (h:l.length=1):∃ a,l=[a]:=List.length_eq_one_iff.1 h
theorem bD9 {α:Type} {l:List α} (h:l.length=2):∃ a b,l=[a,b]:=by
 match l,h with
 | [a,b],_=>exact ⟨a,b,Z⟩
variable {a:Int64}
theorem cL0 {op:UInt8} {nm fd:Str} {b:Int64} {ex:List Ex} {args:List Fm} (h:CY (.mk op nm fd a b ex args)=true):(((dD op).wn=true/\bnW a b)\/((dD op).wn=false/\(dD op).am=true/\-1000000<=a.toInt/\-1000000<=b.toInt))\/((dD op).wn=false/\(dD op).am=false/\a=0/\b=0):=by
 replace h:(if (dD op).wn=true then (decide (a=0) && decide (b.toInt=-1)) || (decide (0<=a.toInt) && decide (a.toInt<=b.toInt) && decide (b.toInt<=200))
  else if (dD op).am=true then decide (-1000000<=a.toInt) && decide (a.toInt<=b.toInt) && decide (b.toInt<=1000000) && decide (b.toInt - a.toInt<32)
  else decide (a=0) && decide (b=0))=true:=h
 cases hw:(dD op).wn with
 | true =>
  rw [aM hw] at h;simp only [aT,aC,aA] at h;refine .inl (.inl ⟨Z,?_⟩);rcases h with h | h
  ·exact .inl ⟨h.1,dW.1 h.2⟩
  ·exact .inr ⟨h.1.1,h.1.2,h.2⟩
 | false =>
  rw [aD (by rw [hw];decide)] at h;cases ha:(dD op).am with
  | true =>
   rw [aM ha] at h;simp only [aC,aA] at h;exact .inl (.inr ⟨Z,Z,by omega,by omega⟩)
  | false =>
   rw [aD (by rw [ha];decide)] at h;simp only [aC,aA] at h;exact .inr ⟨Z,Z,h.1,h.2⟩
theorem cE2 (h:JK e=true):∃ o x y,e=.mk o [] 0 [x,y]/\o∈([16,17,18,19,20,21]:List UInt8)/\eL x=true/\eL y=true:=by
 obtain ⟨o,nm,n,args⟩:=e;simp only [JK,aC,aA,sY] at h;obtain ⟨⟨⟨⟨h1,h2⟩,rfl⟩,rfl⟩,h3,h4⟩:=h;obtain ⟨x,y,rfl⟩:=bD9 h4;have h3':eL x=true/\eL y=true:=by simpa using h3
 exact ⟨o,x,y,Z,cA0 ⟨h1,h2⟩,h3'.1,h3'.2⟩
theorem bS1 {op:UInt8} {nm fd:Str} {b:Int64} {ex:List Ex} {args:List Fm} (h:kV (.mk op nm fd a b ex args)=true):Fg7 (.mk op nm fd a b ex args):=by
 have hop:=cM0 (UL h);have hB:=cL0 (mQ h).2.2.2;have hE:=(mQ h).2.2.1;have hA:=(mQ h).2.1;have hL:=(mQ h).1
 have hN:((dD op).nm=false->nm=[])/\((dD op).fd=false->fd=[]):=by
  unfold kV at h;rw [aC,aC,aC,aC,aC,aT,aT] at h;exact ⟨λe=>aJ (h.1.1.1.1.2.resolve_left (by show ¬ (dD op).nm=true;rw [e];decide)),λe=>aJ (h.1.1.1.2.resolve_left (by show ¬ (dD op).fd=true;rw [e];decide))⟩
 clear h
 replace hE:(if op=7 then decide (ex.length<=4) && ex.all λe=>BX e || eL e
  else decide (ex.length=(dD op).ex) && (if op=3 then JK (ex.headD (.mk 0 [] 0 [])) else if op=5 then eL (ex.headD (.mk 0 [] 0 []))
  else if op=18 then decide ((ex.headD (.mk 0 [] 0 [])).op=1) && eL (ex.headD (.mk 0 [] 0 [])) && decide ((ex.headD (.mk 0 [] 0 [])).n.toInt<=32) else true))=true:=hE
 have ab:(dD op).wn=false->(dD op).am=false->a=0/\b=0:=λh1 h2=>by
  rcases hB with (⟨e,_⟩ | ⟨_,e,_⟩) | ⟨_,_,e⟩
  ·rw [h1] at e;cases e
  ·rw [h2] at e;cases e
  ·exact e
 have aw:(dD op).wn=true->bnW a b:=λh1=>by
  rcases hB with (⟨_,e⟩ | ⟨e,_⟩) | ⟨e,_⟩
  ·exact e
  ·rw [h1] at e;cases e
  ·rw [h1] at e;cases e
 have am:(dD op).wn=false->(dD op).am=true->-1000000<=a.toInt/\-1000000<=b.toInt:=λh1 h2=>by
  rcases hB with (⟨e,_⟩ | ⟨_,_,e⟩) | ⟨_,e,_⟩
  ·rw [h1] at e;cases e
  ·exact e
  ·rw [h2] at e;cases e
 clear hB;simp only [bP,List.not_mem_nil,or_false] at hop
 have e0 {op:UInt8} (h7:¬ op=7) (h3:¬ op=3) (h5:¬ op=5) (h18:¬ op=18) (k:(dD op).ex=0) (hE:(if op=7 then decide (ex.length<=4) && ex.all λe=>BX e || eL e
  else decide (ex.length=(dD op).ex) && (if op=3 then JK (ex.headD (.mk 0 [] 0 [])) else if op=5 then eL (ex.headD (.mk 0 [] 0 []))
  else if op=18 then decide ((ex.headD (.mk 0 [] 0 [])).op=1) && eL (ex.headD (.mk 0 [] 0 [])) && decide ((ex.headD (.mk 0 [] 0 [])).n.toInt<=32) else true))=true):ex=[]:=by
  rw [aD h7,aD h3,aD h5,aD h18,cJ,aA,k] at hE;exact bK hE
 rcases hop with rfl | rfl | rfl | rfl | rfl | rfl | rfl | rfl | rfl | rfl | rfl | rfl | rfl | rfl | rfl | rfl | rfl | rfl | rfl
 ·exact absurd rfl hL
 ·obtain ⟨rfl,rfl⟩:=ab rfl rfl;obtain rfl:=hN.1 rfl;obtain rfl:=hN.2 rfl;obtain rfl:=e0 (by decide) (by decide) (by decide) (by decide) rfl hE;obtain rfl:=bK hA;exact .tf (.inl Z)
 ·obtain ⟨rfl,rfl⟩:=ab rfl rfl;obtain rfl:=hN.1 rfl;obtain rfl:=hN.2 rfl;obtain rfl:=e0 (by decide) (by decide) (by decide) (by decide) rfl hE;obtain rfl:=bK hA;exact .tf (.inr Z)
 ·obtain ⟨rfl,rfl⟩:=ab rfl rfl;obtain rfl:=hN.1 rfl;obtain rfl:=hN.2 rfl;obtain rfl:=bK hA;rw [aD (by decide),aM rfl,aC,aA] at hE;obtain ⟨e,rfl⟩:=PB hE.1;obtain ⟨o,x,y,rfl,h1,h2,h3⟩:=cE2 hE.2;exact .cmp h1 h2 h3
 ·obtain ⟨rfl,rfl⟩:=ab rfl rfl;obtain rfl:=e0 (by decide) (by decide) (by decide) (by decide) rfl hE;obtain rfl:=bK hA;exact .var
 ·obtain ⟨rfl,rfl⟩:=ab rfl rfl;obtain rfl:=bK hA;rw [aD (by decide),aD (by decide),aM rfl,aC,aA] at hE;obtain ⟨e,rfl⟩:=PB hE.1;exact .has hE.2
 ·obtain ⟨rfl,rfl⟩:=ab rfl rfl;obtain rfl:=hN.2 rfl;obtain rfl:=e0 (by decide) (by decide) (by decide) (by decide) rfl hE;obtain rfl:=bK hA;exact .flg
 ·obtain ⟨rfl,rfl⟩:=ab rfl rfl;obtain rfl:=bK hA;rw [aM rfl,aC,aA] at hE;refine .arr hE.1 λx hx=>?_;have:=bC.1 hE.2 x hx;rw [aT] at this;exact this.imp cE7 id
 ·obtain ⟨rfl,rfl⟩:=ab rfl rfl;obtain rfl:=hN.1 rfl;obtain rfl:=hN.2 rfl;obtain rfl:=e0 (by decide) (by decide) (by decide) (by decide) rfl hE;obtain ⟨g,rfl⟩:=PB hA;exact .un (.inl Z)
 ·obtain ⟨rfl,rfl⟩:=ab rfl rfl;obtain rfl:=hN.1 rfl;obtain rfl:=hN.2 rfl;obtain rfl:=e0 (by decide) (by decide) (by decide) (by decide) rfl hE;obtain ⟨g,h,rfl⟩:=bD9 hA;exact .bin (.inl Z)
 ·obtain ⟨rfl,rfl⟩:=ab rfl rfl;obtain rfl:=hN.1 rfl;obtain rfl:=hN.2 rfl;obtain rfl:=e0 (by decide) (by decide) (by decide) (by decide) rfl hE;obtain ⟨g,h,rfl⟩:=bD9 hA;exact .bin (.inr (.inl Z))
 ·obtain ⟨rfl,rfl⟩:=ab rfl rfl;obtain rfl:=hN.1 rfl;obtain rfl:=hN.2 rfl;obtain rfl:=e0 (by decide) (by decide) (by decide) (by decide) rfl hE;obtain ⟨g,h,rfl⟩:=bD9 hA;exact .bin (.inr (.inr Z))
 ·obtain ⟨rfl,rfl⟩:=ab rfl rfl;obtain rfl:=hN.1 rfl;obtain rfl:=hN.2 rfl;obtain rfl:=e0 (by decide) (by decide) (by decide) (by decide) rfl hE;obtain ⟨g,rfl⟩:=PB hA;exact .un (.inr Z)
 ·obtain rfl:=hN.1 rfl;obtain rfl:=hN.2 rfl;obtain rfl:=e0 (by decide) (by decide) (by decide) (by decide) rfl hE;obtain ⟨g,rfl⟩:=PB hA;exact .win (.inl Z) (aw Z)
 ·obtain rfl:=hN.1 rfl;obtain rfl:=hN.2 rfl;obtain rfl:=e0 (by decide) (by decide) (by decide) (by decide) rfl hE;obtain ⟨g,rfl⟩:=PB hA;exact .win (.inr Z) (aw Z)
 ·obtain rfl:=hN.1 rfl;obtain rfl:=hN.2 rfl;obtain rfl:=e0 (by decide) (by decide) (by decide) (by decide) rfl hE;obtain ⟨g,h,rfl⟩:=bD9 hA;exact .snc (aw Z)
 ·obtain rfl:=hN.2 rfl;obtain rfl:=e0 (by decide) (by decide) (by decide) (by decide) rfl hE;obtain ⟨g,rfl⟩:=PB hA;exact .amo (.inl Z) (am Z Z).1 (am Z Z).2
 ·obtain rfl:=hN.2 rfl;obtain rfl:=e0 (by decide) (by decide) (by decide) (by decide) rfl hE;obtain ⟨g,rfl⟩:=PB hA;exact .amo (.inr Z) (am Z Z).1 (am Z Z).2
 ·obtain rfl:=hN.2 rfl;obtain ⟨g,rfl⟩:=PB hA;rw [aD (by decide),aD (by decide),aD (by decide),aM rfl,aC,aA] at hE;obtain ⟨e,rfl⟩:=PB hE.1;have hE2:=hE.2;simp only [aH,aC,aA] at hE2;obtain ⟨o,m,n,al⟩:=e;obtain ⟨⟨ho,ht⟩,_⟩:=hE2;obtain rfl:o=1:=by first | exact ho | exact aJ ho
  rcases ZD ht with ⟨_,rfl,h3,rfl⟩ | ⟨k,_⟩ | ⟨k,_⟩ | ⟨k,_⟩ | ⟨k,_⟩ | ⟨k,_⟩
  ·exact .cnt (am Z Z).1 (am Z Z).2 h3
  ·cases k
  ·rcases k with k | k <;> cases k
  ·cases k
  ·cases k
  ·exact absurd k (by decide)
section
variable {l:Tks} {r r' r1 r2 ra:Rq} {w w':Str} {k:UInt8} {N x n:Fn} {m:Bool} {i j b:Nat}
def Sps (l:Tks):Rq->List Kt->Rq->Prop
 | r,[],r'=>r.er=0/\r'=r
 | r,x::ks,r'=>(r.er=0/\kt (tkf l r.i)=x)/\Sps l r.nx ks r'
theorem IS:∀ {ks:List Kt} {r r':Rq},Sps l r ks r'->r.er=0/\r'.er=0
 | [],_,_,⟨h,e⟩=>by subst e;exact ⟨h,h⟩
 | _::_,_,_,⟨h,h2⟩=>⟨h.1,(IS h2).2⟩
theorem HA:∀ {a b:List Kt} {r r':Rq},Sps l r (a++b) r'->∃ m,Sps l r a m/\Sps l m b r'
 | [],_,r,_,h=>⟨r,⟨(IS h).1,Z⟩,h⟩
 | _::_,_,_,_,⟨h,h2⟩=>by
  obtain ⟨m,p,q⟩:=HA h2;exact ⟨m,⟨h,p⟩,q⟩
theorem XG {t:Tk} (h:kt t=(k,w)):t.k=k:=congrArg Prod.fst h
theorem bE3 {t:Tk} (h:kt t=(k,w)):t.t=w:=congrArg Prod.snd h
theorem UZ (h:r.er=0/\kt (tkf l r.i)=(k,w)) (hk:k=2\/k=4):r.ac l w=true:=by
 unfold Rq.ac Rq.is;rw [XG h.2,bE3 h.2,aF h.1];rcases hk with rfl | rfl <;> simp
theorem cN8 (h:r.er=0/\kt (tkf l r.i)=(k,w)) (hn:¬ w=w'):r.ac l w'=false:=by
 unfold Rq.ac Rq.is;rw [bE3 h.2,aI hn,Bool.and_false,Bool.and_false]
theorem cF0 (h:r.er=0/\kt (tkf l r.i)=(k,w)) (hk:k=2\/k=4):r.exS l w=r.nx:=NO (UZ h hk)
theorem YM (h:r.er=0/\kt (tkf l r.i)=(1,w)):r.nmS l=r.nx:=WW h.1 (XG h.2)
theorem NW (h:r.er=0/\kt (tkf l r.i)=(1,w)):r.nmV l=w:=by rw [bC8 h.1 (XG h.2),bE3 h.2]
theorem cN9 {u:Nat} (h:r.er=0/\kt (tkf l r.i)=(3,Lib.decDigits u)) (hu:u<=9223372036854775807):r.nbS l=r.nx/\r.nbV l=Int64.ofNat u:=by
 have h1:r.nbB l=true:=by unfold Rq.nbB;rw [aF h.1,aF (XG h.2)];rfl
 have h2:r.fit l=true:=by unfold Rq.fit;rw [bE3 h.2,yQ];exact aF hu
 unfold Rq.nbS Rq.nbV;rw [aM h1,aM h2,h1,h2,bE3 h.2,yQ];exact ⟨Z,Z⟩
theorem cH8 {n:Int64} (h:0<=n.toInt):Int64.ofNat n.toInt.toNat=n:=by
 have:=n.toInt_lt;exact dW.1 (by rw [jL (by omega)];omega)
theorem cN7 {n:Int64} (h:r.er=0/\kt (tkf l r.i)=(3,Lib.itoa n.toInt)) (hn:0<=n.toInt):r.nbS l=r.nx/\r.nbV l=n:=by
 rw [Lib.itoa,aD (by omega)] at h;have:=n.toInt_lt;have:=cN9 h (by omega);rw [cH8 hn] at this;exact this
def cJ1:List Str:=[[91],[41],[95]]
def bV9:List Str:=[[110,111,116],[112,114,101,118,105,111,117,115],[111,110,99,101],[97,108,119,97,121,115],[102,111,114,97,108,108],[101,120,105,115,116,115],[99,111,117,110,116]]
theorem mZ {L:List Str} (h:r.ac l w=true) (hn:∀ x∈L,w≠x):∀ x∈L,r.ac l x=false:=λx hx=>wG h (hn x hx)
theorem bF0 {nt:Nt} (g:Gd l nt r n m r'):∀ k,nt=.lev k->r'.er=0->(∀ x∈cJ1,r.ac l x=false)/\(6<=k->∀ x∈bV9,r.ac l x=false)/\(k=10->r.ac l [45]=false):=by
 have b0:∀ {nt:Nt} {r r':Rq} {n:Fn} {m:Bool},Gd l nt r n m r'->r'.er=0->r.er=0:=λg e=>Classical.byContradiction λh=>h (by rw [<-CO g h];exact e);induction g with
 | seq hk h1 h2 i1 i2 =>
  rintro k' e e2;cases e;obtain ⟨a,b,_⟩:=i1 _ rfl (b0 h2 e2);exact ⟨a,λh=>b (by omega),λh=>by omega⟩
 | outJ=>rintro _ e _;cases e
 | outA=>rintro _ e _;cases e
 | join=>rintro _ e _;cases e
 | ari=>rintro _ e _;cases e
 | @pre w op r r1 x m hp h h1 =>
  rintro k' e e2;cases e;refine ⟨mZ h ?_,λh=>by omega,λh=>by omega⟩;have:∀ p∈IV,∀ x∈cJ1,p.1≠x:=by decide
  exact this _ hp
 | cnt h =>
  rintro k' e e2;cases e;exact ⟨mZ h (by decide),λh=>by omega,λh=>by omega⟩
 | cmp0 hp hc h1 i1 =>
  rintro k' e e2;cases e;exact ⟨(i1 _ rfl e2).1,λh=>by omega,λh=>by omega⟩
 | cm0 h1 h i1 =>
  rintro k' e e2;cases e;exact ⟨(i1 _ rfl e2).1,λ_=>(i1 _ rfl e2).2.1 (by decide),λh=>by omega⟩
 | cm1 hi h1 h h2 i1 i2 =>
  rintro k' e e2;cases e;have e1:=eX h;exact ⟨(i1 _ rfl e1).1,λ_=>(i1 _ rfl e1).2.1 (by decide),λh=>by omega⟩
 | neg h =>
  rintro k' e e2;cases e;exact ⟨mZ h (by decide),λ_=>mZ h (by decide),λh=>by omega⟩
 | pri h h1 i1 =>
  rintro k' e e2;cases e;exact ⟨(i1 _ rfl e2).1,λ_=>(i1 _ rfl e2).2.1 (by decide),λh=>by omega⟩
 | bad h=>rintro k' e e2;exact absurd e2 h
 | num h hk =>
  rintro k' e e2;have:=λw=>aO8 (l:=l) (w:=w) (by rw [hk];decide);exact ⟨λx _=>this x,λ_ x _=>this x,λ_=>this _⟩
 | now h=>rintro k' e e2;exact ⟨mZ h (by decide),λ_=>mZ h (by decide),λ_=>wG h (by decide)⟩
 | tru h=>rintro k' e e2;exact ⟨mZ h (by decide),λ_=>mZ h (by decide),λ_=>wG h (by decide)⟩
 | fal h=>rintro k' e e2;exact ⟨mZ h (by decide),λ_=>mZ h (by decide),λ_=>wG h (by decide)⟩
 | flg h=>rintro k' e e2;exact ⟨mZ h (by decide),λ_=>mZ h (by decide),λ_=>wG h (by decide)⟩
 | has h=>rintro k' e e2;exact ⟨mZ h (by decide),λ_=>mZ h (by decide),λ_=>wG h (by decide)⟩
 | arr0 h=>rintro k' e e2;exact ⟨mZ h (by decide),λ_=>mZ h (by decide),λ_=>wG h (by decide)⟩
 | arr h=>rintro k' e e2;exact ⟨mZ h (by decide),λ_=>mZ h (by decide),λ_=>wG h (by decide)⟩
 | siz h=>rintro k' e e2;exact ⟨mZ h (by decide),λ_=>mZ h (by decide),λ_=>wG h (by decide)⟩
 | par h=>rintro k' e e2;exact ⟨mZ h (by decide),λ_=>mZ h (by decide),λ_=>wG h (by decide)⟩
 | nam0 h hk =>
  rintro k' e e2;have:=λw=>aO8 (l:=l) (w:=w) (by rw [hk];decide);exact ⟨λx _=>this x,λ_ x _=>this x,λ_=>this _⟩
 | nam1 h hk =>
  rintro k' e e2;have:=λw=>aO8 (l:=l) (w:=w) (by rw [hk];decide);exact ⟨λx _=>this x,λ_ x _=>this x,λ_=>this _⟩
 | get h hk =>
  rintro k' e e2;have:=λw=>aO8 (l:=l) (w:=w) (by rw [hk];decide);exact ⟨λx _=>this x,λ_ x _=>this x,λ_=>this _⟩
 | non=>rintro k' e e2;exact absurd e2 (vM (by decide))
 | arU=>rintro _ e _;cases e
 | arT=>rintro _ e _;cases e
 | afC=>rintro _ e _;cases e
 | afE=>rintro _ e _;cases e
def cuL:List (Nat × Str):=[(20,[46]),(20,[91]),(1,[105,109,112,108,105,101,115]),(2,[111,114]),(3,[97,110,100]),(4,[115,105,110,99,101]),(6,[61,61]),(6,[33,61]),(6,[60]),(6,[60,61]),(6,[62]),(6,[62,61]),(7,[43]),(7,[45]),(8,[42]),(8,[47]),(8,[37])]
def Nx (l:Tks) (k:Nat) (r:Rq):Prop:=∀ x∈cuL,k<=x.1->r.ac l x.2=false
theorem Nx.up (h:Nx l i r) (hj:i<=j):Nx l j r:=λx hx hk=>h x hx (aV hj hk)
theorem Nx.n9 (h:Nx l 10 r):Nx l 9 r:=λx hx hk=>h x hx ((show ∀ x∈cuL,9<=x.1->10<=x.1 by decide) x hx hk)
theorem Nx.tok (h:r.er=0/\kt (tkf l r.i)=(k,w)) (hn:∀ x∈cuL,j<=x.1->¬ w=x.2):Nx l j r:=λx hx hk=>cN8 h (hn x hx hk)
theorem Nx.dot (h:Nx l j r) (hj:j<=20):r.ac l [46]=false:=h (20,[46]) (by decide) hj
theorem Nx.brk (h:Nx l j r) (hj:j<=20):r.ac l [91]=false:=h (20,[91]) (by decide) hj
def lpB (j:Nat):Prop:=(1<=j/\j<=4)\/j=7\/j=8
theorem cB3 (h:1<=j/\j<=4):(j,joW j)∈cuL:=by
 have:j=1\/j=2\/j=3\/j=4:=by omega
 rcases this with rfl | rfl | rfl | rfl <;> decide
theorem bU9 (h:BB j i):(j,kO.getD i [])∈cuL:=by
 rcases h with ⟨rfl,rfl | rfl⟩ | ⟨rfl,rfl | rfl | rfl⟩ <;> decide
theorem bU7 (h:16<=i) (h2:i<=21):(6,kO.getD i [])∈cuL:=by
 have:i=16\/i=17\/i=18\/i=19\/i=20\/i=21:=by omega
 rcases this with rfl | rfl | rfl | rfl | rfl | rfl <;> decide
def Rl (l:Tks) (j:Nat) (r:Rq) (N:Fn) (r':Rq):Prop:=(lpB j->∀ n m r2,Gd l (.lp j N) r' n m r2->Gd l (.lev j) r n m r2)/\(¬ lpB j->Gd l (.lev j) r N false r')
theorem Rl.full (h:Rl l j r N r') (hx:Nx l j r'):Gd l (.lev j) r N false r':=by
 by_cases hj:lpB j
 ·refine h.1 hj _ _ _ ?_;rcases hj with hj | hj
  ·exact .outJ hj (hx _ (cB3 hj) (aW _))
  ·exact .outA hj λi hi=>hx _ (bU9 hi) (aW _)
 ·exact h.2 hj
theorem Rl.of10 (h:Gd l (.lev 10) r N false r'):Rl l 10 r N r':=⟨λe=>by unfold lpB at e;omega,λ_=>h⟩
theorem Rl.dn (h:Gd l (.lev (j+1)) r N false r') (e:r'.er=0) (hj:1<=j/\j<=9) (hx:j=6->Nx l 6 r'):Rl l j r N r':=by
 refine ⟨λhl n m r2 g=>?_,λhl=>?_⟩
 ·exact Gd.seq hl h g
 ·obtain ⟨f1,f2,f3⟩:=bF0 h _ rfl e;have:j=5\/j=6\/j=9:=by unfold lpB at hl;omega
  rcases this with rfl | rfl | rfl
  ·have f2:=f2 (by decide);refine .cmp0 (λw op hw=>f2 w ?_) (f2 _ (by decide)) h;have:∀ p∈IV,p.1∈bV9:=by decide
   exact this _ hw
  ·exact .cm0 h λi h1 h2=>hx Z _ (bU7 h1 h2) (aW _)
  ·exact .pri (f3 Z) h
theorem Rl.go:∀ {d j:Nat},Rl l (j+d) r N r'->r'.er=0->1<=j->j+d<=10->Nx l (j+1) r'->(j<=6->Nx l 6 r')->Rl l j r N r'
 | 0,_,h,_,_,_,_,_=>h
 | d+1,j,h,e,h1,hb,hx,h6=>by
  have k:=Rl.go (j:=j+1) (d:=d) (by rw [show j+1+d=j+(d+1) by omega];exact h) e (by omega) (by omega) (hx.up (by omega)) (λhj=>h6 (by omega));exact .dn (k.full hx) e ⟨h1,by omega⟩ (λe=>h6 (by omega))
theorem Rl.to (h:Rl l b r N r') (e:r'.er=0) (h1:1<=j) (hj:j<=b) (hb:b<=10) (hx:Nx l (j+1) r') (h6:j<=6->Nx l 6 r'):Rl l j r N r':=by
 obtain ⟨d,rfl⟩:∃ d,b=j+d:=⟨b - j,by omega⟩;exact h.go e h1 hb hx h6
theorem Rl.at (h:Rl l b r N r') (e:r'.er=0) (h1:1<=j) (hj:j<=b) (hb:b<=10) (hx:Nx l j r'):Gd l (.lev j) r N false r':=(h.to e h1 hj hb (hx.up (by omega)) (λk=>hx.up k)).full hx
theorem bZ3 {ks:List Kt} (h:Sps l r ((4,[40])::(ks++[(4,[41])])) r') (hg:∀ m,Sps l r.nx ks m->Nx l 1 m->Gd l (.lev 1) r.nx N false m):Rl l 10 r N r':=by
 obtain ⟨t0,h⟩:=h;obtain ⟨m,h1,t1,e,rfl⟩:=HA h;have g:=Gd.par (UZ t0 (.inr Z)) (hg m h1 (.tok t1 (by decide)));have e1:m.exS l [41]=m.nx:=cF0 t1 (.inr Z);rw [e1] at g;exact .of10 g
end
end Go.Proofs.YtidclioghdbphaaGreatDoor
