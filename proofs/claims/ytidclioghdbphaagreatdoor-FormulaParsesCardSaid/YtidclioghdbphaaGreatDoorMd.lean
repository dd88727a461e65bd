/- Texts of the proof, one behind the other. -/
import Derived.Test.YtidclioghdbphaaGreatDoorMc
set_option linter.all false
set_option maxRecDepth 100000
namespace Go.Proofs.YtidclioghdbphaaGreatDoor
abbrev Kt:=UInt8 × Str
def kt (t:Tk):Kt:=(t.k,t.t)
def isK (w:Str) (x:Kt):Bool:=(x.1 == 2 || x.1 == 4) && decide (x.2=w)
def opK (lv:Nat) (x:Kt):Option UInt8:=((bZ9 lv).find? λy=>isK y.1 x).map (·.2)
theorem fP (w:Str) (t:Tk) (r:List Tk):isT w (t::r)=isK w (kt t):=rfl
theorem aO0 (lv:Nat) (t:Tk) (r:List Tk):opAt lv (t::r)=opK lv (kt t):=rfl
def EF (n lv:Nat) (l:List Kt):List Kt:=if lv<n then (4,[40])::(l++[(4,[41])]) else l
def FG (op:UInt8):Kt:=(if op=22\/op=23 then 2 else 4,((eK op).tx.drop 1).dropLast)
def ktx (op:UInt8) (nm:Str) (n:Int64) (ls:List (Nat × List Kt)):List Kt :=
 if op=1 then [(3,Lib.itoa n.toInt)]
 else if op=5 then [(1,nm)]
 else if op=8 then [(2,[115,105,122,101]),(1,nm)]
 else if op=6 then (1,nm)::(4,[91])::((ls.getD 0 (0,[])).2++[(4,[93])])
 else if op=7 then (2,[104,97,115])::(1,nm)::(4,[91])::((ls.getD 0 (0,[])).2++[(4,[93])])
 else if op=9 then (4,[45])::EF 6 (ls.getD 0 (0,[])).1 (ls.getD 0 (0,[])).2
 else if op=10 then (2,[110,111,116])::EF 6 (ls.getD 0 (0,[])).1 (ls.getD 0 (0,[])).2
 else if (eK op).n=0 then [(2,(eK op).tx)]
 else EF (aA5 (eK op).lv) (ls.getD 0 (0,[])).1 (ls.getD 0 (0,[])).2++FG op::EF ((eK op).lv+1) (ls.getD 1 (0,[])).1 (ls.getD 1 (0,[])).2
mutual
def ktE:Ex->List Kt
 | .mk op nm n args=>ktx op nm n (cI2 args)
def cI2:List Ex->List (Nat × List Kt)
 | []=>[]
 | e::r=>((eK e.op).lv,ktE e)::cI2 r
end
def Ex.lv (e:Ex):Nat:=(eK e.op).lv
def Stp (j:Nat) (r:List Tk):Prop:=(∀ i,j<=i->i<=4->opAt i r=none)/\isT [91] r=false
variable {i j:Nat}
theorem Stp.up {r:List Tk} (h:Stp i r) (hij:i<=j):Stp j r:=⟨λk h1 h2=>h.1 k (by omega) h2,h.2⟩
theorem Stp.of {t:Tk} {r:List Tk} (h:∀ i∈List.range 5,j<=i->opK i (kt t)=none) (h2:isK [91] (kt t)=false):Stp j (t::r) :=
 ⟨λi h1 h3=>h i (bU.2 (by omega)) h1,h2⟩
theorem WO {l:List Tk} {a:Ex} {r:List Tk}:∀ (d lv j:Nat),j=lv+1+d->j<=5->pX j l=.ok a r->Stp (lv+1) r->pX lv l=pL lv a r
 | 0,lv,j,e,hj,h,_=>by
  rw [TP (by omega),show lv+1=j by omega,h];rfl
 | d+1,lv,j,e,hj,h,hs=>by
  have:=WO d (lv+1) j (by omega) hj h (hs.up (by omega));rw [TP (by omega),this,DJ (hs.1 _ (aW _) (by omega))];rfl
def Rd (e:Ex):Prop:=∀ le r,le.map kt=ktE e->(∀ lv,lv<=4->lv+1<=e.lv->Stp (lv+1) r->pX lv (le++r)=if lv=2/\e.lv=3 then .ok e r else pL lv e r)/\(6<=e.lv->isT [91] r=false->pX 5 (le++r)=.ok e r)
variable {e:Ex}
theorem Rd.full (h:Rd e) {le r:List Tk} (hk:le.map kt=ktE e) {lv:Nat} (h5:lv<=5) (hl:lv+1<=e.lv) (hs:Stp lv r):pX lv (le++r)=.ok e r:=by
 by_cases e5:lv=5
 ·subst e5;exact (h le r hk).2 hl hs.2
 ·rw [(h le r hk).1 lv (by omega) hl (hs.up (by omega)),DJ (hs.1 lv (aW _) (by omega))]
  split <;> rfl
theorem Rd.of (h6:6<=e.lv) (h:∀ le r,le.map kt=ktE e->isT [91] r=false->pX 5 (le++r)=.ok e r):Rd e:=λle r hk=>by
 refine ⟨λlv hl h1 hs=>?_,λ_=>h le r hk⟩;rw [aD (by omega)];exact WO (4 - lv) lv 5 (by omega) (by omega) (h le r hk hs.2) hs
theorem Rd.par (h:Rd e) (h1:1<=e.lv) {le r:List Tk} (hk:le.map kt=(4,[40])::(ktE e++[(4,[41])])):pX 5 (le++r)=.ok e r:=by
 obtain ⟨t,l1,rfl,ht,hk⟩:=cU.1 hk;obtain ⟨l2,l3,rfl,h2,h3⟩:=iJ.1 hk;obtain ⟨t2,l4,rfl,ht2,h4⟩:=cU.1 h3;obtain rfl:=fJ.1 h4;simp only [bL,bW,dB];have hf:=h.full h2 (r:=t2::r) (lv:=0) (by omega) h1 (.of (by rw [ht2];decide) (by rw [ht2];decide));rw [EN,fP,fP,ht,aD (by decide),aD (by decide),sA];have hk0:t.k=4:=congrArg Prod.fst ht;simp only [fP,ht];rw [aD (by rw [hk0];decide),aD (by decide),aD (by decide),aD (by decide),aD (by decide),aM (by decide),hf];show tO [41] (t2::r) _=_;rw [tO,fP,ht2,aM (by decide)]
 rfl
variable {n:Nat}
theorem Rd.opnd (h:Rd e) (h1:1<=e.lv) {le r:List Tk} (hk:le.map kt=EF n e.lv (ktE e)) (hn:n<=6) (h0:0<n) (hs:Stp (n - 1) r):pX (n - 1) (le++r)=.ok e r:=by
 unfold EF at hk
 split at hk
 ·have hp:=h.par h1 hk (r:=r)
  by_cases e5:n=6
  ·subst e5;exact hp
  ·rw [WO (5 - n) (n - 1) 5 (by omega) (by omega) hp (hs.up (by omega)),DJ (hs.1 _ (aW _) (by omega))]
 ·exact h.full hk (by omega) (by omega) hs
theorem Rd.left (h:Rd e) (h1:1<=e.lv) {lv:Nat} {le r:List Tk} (hk:le.map kt=EF (lv+1) e.lv (ktE e)) (hn:lv<=4) (h2:lv≠2) (hs:Stp (lv+1) r):pX lv (le++r)=pL lv e r:=by
 unfold EF at hk
 split at hk
 ·exact WO (4 - lv) lv 5 (by omega) (by omega) (h.par h1 hk (r:=r)) hs
 ·rw [(h le r hk).1 lv hn (by omega) hs,aD (by omega)]
theorem yQ (u:Nat):lY (Lib.decDigits u)=u:=by
 induction u using Nat.strongRecOn with
 | _ u ih =>
  by_cases h:u<10
  ·rw [Lib.decDigits_one h];simp only [lY,tJ,yX,Plain.digit_nat u h];omega
  ·rw [Plain.digits_more u h];have:=ih (u / 10) (by omega);unfold lY at this|-;rw [nM,this];simp only [tJ,yX,Plain.digit_nat (u % 10) (by omega)];omega
theorem aO2 {n:Int} (h:0<=n):lY (Lib.itoa n)=n.toNat:=by
 unfold Lib.itoa;rw [aD (by omega),yQ]
theorem HK {op:UInt8} (h:TU op=true):op∈([1,2,3,4,5,6,7,8,9,10,11,12,13,14,15,16,17,18,19,20,21,22,23]:List UInt8):=by
 simp only [TU,aC,aA] at h;have key:∀ i∈List.range 24,1<=i->UInt8.ofNat i∈([1,2,3,4,5,6,7,8,9,10,11,12,13,14,15,16,17,18,19,20,21,22,23]:List UInt8):=by decide
 have:=key op.toNat (bU.2 (by omega)) h.1
 rwa [iH] at this
theorem MR {op:UInt8} (h:TU op=true):op=1\/op∈([11,12,13,14,15,16,17,18,19,20,21,22,23]:List UInt8)\/(op=2\/op=3\/op=4\/op=5\/op=6\/op=7\/op=8\/op=9\/op=10):=by
 have key:∀ o∈([1,2,3,4,5,6,7,8,9,10,11,12,13,14,15,16,17,18,19,20,21,22,23]:List UInt8),o=1\/o∈([11,12,13,14,15,16,17,18,19,20,21,22,23]:List UInt8)\/(o=2\/o=3\/o=4\/o=5\/o=6\/o=7\/o=8\/o=9\/o=10):=by decide
 exact key op (HK h)
theorem cH7 {op:UInt8} (h:TU op=true):1<=(eK op).lv:=by
 have key:∀ o∈([1,2,3,4,5,6,7,8,9,10,11,12,13,14,15,16,17,18,19,20,21,22,23]:List UInt8),1<=(eK o).lv:=by decide
 exact key op (HK h)
theorem eG {l:List Ex} (h:l.length=0):l=[]:=bK h
theorem iW {l:List Ex} (h:l.length=1):∃ a,l=[a]:=List.length_eq_one_iff.1 h
theorem zS {l:List Ex} (h:l.length=2):∃ a b,l=[a,b]:=by
 match l,h with
 | [a,b],_=>exact ⟨a,b,Z⟩
theorem XJ {n:Int64} (h:n.toInt=0):n=0:=dW.1 (by rw [h];rfl)
def binOp (op:UInt8):Bool:=decide (11<=op.toNat) && decide (op.toNat<=23)
theorem zP:∀ op∈([11,12,13,14,15,16,17,18,19,20,21,22,23]:List UInt8),(eK op).n=2/\(eK op).nm=false/\1<=(eK op).lv/\(eK op).lv<=5/\opK ((eK op).lv - 1) (FG op)=some op/\isK [91] (FG op)=false /\
 (∀ i∈List.range 5,(eK op).lv<=i->opK i (FG op)=none)/\¬ op=1/\¬ op=5/\¬ op=8/\¬ op=6/\¬ op=7/\¬ op=9/\¬ op=10:=by decide
theorem UD {op:UInt8} (h:op∈([11,12,13,14,15,16,17,18,19,20,21,22,23]:List UInt8)) (nm:Str) (n:Int64) (a b:Ex) :
 ktE (.mk op nm n [a,b])=EF (aA5 (eK op).lv) a.lv (ktE a)++FG op::EF ((eK op).lv+1) b.lv (ktE b):=by
 obtain ⟨h1,_,_,_,_,_,_,g1,g2,g3,g4,g5,g6,g7⟩:=zP op h;rw [ktE,ktx,aD g1,aD g2,aD g3,aD g4,aD g5,aD g6,aD g7,aD (by omega)]
 rfl
theorem bZ1 {op:UInt8} (h:op∈([11,12,13,14,15,16,17,18,19,20,21,22,23]:List UInt8)) {a b:Ex} (ha:Rd a) (hb:Rd b) (ha1:1<=a.lv) (hb1:1<=b.lv):Rd (opE op [a,b]):=by
 intro le r hk;obtain ⟨_,_,h3,h4,h5,h6,h7,_⟩:=zP op h;have hlv:(opE op [a,b]).lv=(eK op).lv:=rfl;rw [hlv];rw [show opE op [a,b]=.mk op [] 0 [a,b] from rfl,UD h] at hk;obtain ⟨la,l1,rfl,hla,hk⟩:=iJ.1 hk;obtain ⟨t,lb,rfl,ht,hlb⟩:=cU.1 hk;generalize hL:(eK op).lv=L at *;refine ⟨?_,λh8=>absurd h8 (by omega)⟩;have hst:∀ q,Stp L (t::q):=λq=>.of (by rw [ht];exact h7) (by rw [ht];exact h6)
 -- at its own level
 have own:Stp L r->pX (L - 1) (la++t::lb++r)=if L - 1=2 then .ok (opE op [a,b]) r else pL (L - 1) (opE op [a,b]) r:=by
  intro hs;have hopt:∀ q,opAt (L - 1) (t::q)=some op:=λq=>by rw [aO0,ht];exact h5
  have hB:pX L (lb++r)=.ok b r:=by
   have:=hb.opnd hb1 (n:=L+1) hlb (by omega) (by omega) (r:=r) (by simpa using hs);simpa using this
  have hA:pX (L - 1) (la++(t::lb++r))=pL (L - 1) a (t::lb++r):=by
   by_cases h2:L=3
   ·subst h2;have:=ha.opnd ha1 (n:=4) (r:=t::lb++r) hla (by omega) (by omega) (hst _);rw [TP (by omega)];show (pX 3 _).bind _=_;rw [show (4:Nat) - 1=3 from rfl] at this;rw [this];rfl
   ·have e:aA5 L=L - 1+1:=by unfold aA5;rw [aD h2];omega
    rw [e] at hla;exact ha.left ha1 hla (by omega) (by omega) (by rw [show L - 1+1=L by omega];exact hst _)
  rw [bW,hA,bL,aH3 (by omega) (hopt _)];show (pX (L - 1+1) (lb++r)).bind _=_;rw [show L - 1+1=L by omega,hB]
  rfl
 intro lv hl4 hl hs
 by_cases e:lv=L - 1
 ·subst e;rw [show L - 1+1=L by omega] at hs;rw [own hs];exact ifI (by omega)
 ·rw [aD (by omega)];refine WO (L - 2 - lv) lv (L - 1) (by omega) (by omega) ?_ hs;rw [own (hs.up (by omega)),DJ (hs.1 _ (by omega) (by omega))]
  split <;> rfl
theorem UC {op:UInt8} {nm:Str} {n:Int64} {args:List Ex} {x:Kt} (h:ktE (.mk op nm n args)=[x]) {le:List Tk} (hk:le.map kt=ktE (.mk op nm n args)):∃ t,le=[t]/\kt t=x:=by
 rw [h] at hk;obtain ⟨t,l,rfl,ht,hl⟩:=cU.1 hk;obtain rfl:=fJ.1 hl;exact ⟨t,Z,ht⟩
theorem bV7 {op:UInt8} {a:Ex} (ha:Rd a) (h1:1<=a.lv) (hop:op=9\/op=10):Rd (opE op [a]):=by
 refine .of (by rcases hop with rfl | rfl <;> exact (by decide:6<=6)) λle r hk h91=>?_
 have key:∃ t l,le=t::l/\kt t=(if op=9 then (4,[45]) else (2,[110,111,116]))/\l.map kt=EF 6 a.lv (ktE a):=by
  rcases hop with rfl | rfl
  ·obtain ⟨t,l,rfl,ht,hl⟩:=cU.1 (show le.map kt=(4,[45])::EF 6 a.lv (ktE a) from hk);exact ⟨t,l,Z,ht,hl⟩
  ·obtain ⟨t,l,rfl,ht,hl⟩:=cU.1 (show le.map kt=(2,[110,111,116])::EF 6 a.lv (ktE a) from hk);exact ⟨t,l,Z,ht,hl⟩
 obtain ⟨t,l,rfl,ht,hl⟩:=key;have hA:pX 5 (l++r)=.ok a r:=ha.opnd h1 (n:=6) hl (by omega) (by omega) ⟨λi h1 h2=>by omega,h91⟩;rw [bL,EN];rcases hop with rfl | rfl
 ·rw [fP,ht,aM (by decide)];show (pX 5 (l++r)).bind _=_;rw [hA];rfl
 ·rw [fP,fP,ht,aD (by decide),aM (by decide)];show (pX 5 (l++r)).bind _=_;rw [hA];rfl
theorem bA8 {a:Ex} (ha:Rd a) (h1:1<=a.lv) {l r:List Tk} (hl:l.map kt=(4,[91])::(ktE a++[(4,[93])])):isT [91] (l++r)=true/\∀ (g:Ex->List Tk->Rs Ex),((pX 0 (l++r).tail).bind λx r4=>tO [93] r4 λr5=>g x r5)=g a r:=by
 obtain ⟨t,l1,rfl,ht,hk⟩:=cU.1 hl;obtain ⟨l2,l3,rfl,h2,h3⟩:=iJ.1 hk;obtain ⟨t2,l4,rfl,ht2,h4⟩:=cU.1 h3;obtain rfl:=fJ.1 h4;refine ⟨by rw [bL,fP,ht];decide,λg=>?_⟩;have hf:=ha.full h2 (r:=t2::r) (lv:=0) (by omega) h1 (.of (by rw [ht2];decide) (by rw [ht2];decide));simp only [bL,bW,dB,yV];rw [hf];show tO [93] (t2::r) _=_;rw [tO,fP,ht2,aM (by decide)]
 rfl
theorem bZ2 (e:Ex):Ex.all uN e=true->Rd e/\1<=e.lv:=by
 induction e using Ex.ind with
 | _ op nm n args ih =>
  intro h;rw [BD,aC] at h;obtain ⟨hf,hr⟩:=h;have ha:∀ a∈args,Rd a/\1<=a.lv:=λa m=>ih a m (jF m hr);simp only [uN,aC,aT,aA] at hf;obtain ⟨⟨⟨hop,hl⟩,hnm⟩,hn⟩:=hf;refine ⟨?_,cH7 hop⟩;have hm:=HK hop
  by_cases h1:op=1
  ·subst h1;obtain rfl:=eG hl;obtain rfl:nm=[]:=hnm.resolve_left (by decide);rw [aM rfl,aA] at hn;refine .of (show 6<=(eK 1).lv by decide) λle r hk _=>?_;obtain ⟨t,rfl,ht⟩:=UC (x:=(3,Lib.itoa n.toInt)) rfl hk;have hk3:t.k=3:=congrArg Prod.fst ht;have ht2:t.t=Lib.itoa n.toInt:=congrArg Prod.snd ht;have hlt:=n.toInt_lt;rw [bL,dB,EN,fP,fP,ht,aD (by simp [isK]),aD (by simp [isK]),sA];rw [aM hk3,ht2,aO2 hn,aM (by omega)]
   congr 2
   exact dW.1 (by rw [jL (by omega)];omega)
  rw [aD h1,aA] at hn;obtain rfl:=XJ hn
  by_cases hb:op∈([11,12,13,14,15,16,17,18,19,20,21,22,23]:List UInt8)
  ·obtain ⟨b1,b2,_⟩:=zP op hb;obtain ⟨a,b,rfl⟩:=zS (l:=args) (by omega)
   obtain rfl : nm = [] := by rcases hnm with e | e
                              ·rw [b2] at e;cases e
                              ·exact e
   have h3:=ha a (by simp);have h4:=ha b (by simp);exact bZ1 hb h3.1 h4.1 h3.2 h4.2
  have hs:op=2\/op=3\/op=4\/op=5\/op=6\/op=7\/op=8\/op=9\/op=10:=((MR hop).resolve_left h1).resolve_left hb
  have cst:∀ (w:Str),op=2\/op=3\/op=4->w=(eK op).tx->Rd (.mk op nm 0 args):=by
   intro w ho hw
   have hnil:args=[]:=by
    rcases ho with rfl | rfl | rfl <;> exact eG hl
   have hnm0:nm=[]:=by
    rcases ho with rfl | rfl | rfl <;> exact hnm.resolve_left (by decide)
   subst hnil hnm0;refine .of (by rcases ho with rfl | rfl | rfl <;> exact (by decide:6<=7)) λle r hk _=>?_;rcases ho with rfl | rfl | rfl
   all_goals
    obtain ⟨t,rfl,ht⟩:=UC rfl hk;have hk3:t.k=2:=congrArg Prod.fst ht;rw [bL,dB,EN,fP,fP,ht,aD (by decide),aD (by decide),sA];simp only [fP,ht];rw [aD (by rw [hk3];decide)]
   ·rw [aM (by decide)];rfl
   ·rw [aD (by decide),aM (by decide)];rfl
   ·rw [aD (by decide),aD (by decide),aM (by decide)];rfl
  rcases hs with rfl | rfl | rfl | rfl | rfl | rfl | rfl | rfl | rfl
  ·exact cst _ (.inl Z) rfl
  ·exact cst _ (.inr (.inl Z)) rfl
  ·exact cst _ (.inr (.inr Z)) rfl
  ·obtain rfl:=eG hl;refine .of (show 6<=(eK 5).lv by decide) λle r hk h91=>?_;obtain ⟨t,rfl,ht⟩:=UC (x:=(1,nm)) rfl hk;have hk1:t.k=1:=congrArg Prod.fst ht;have ht2:t.t=nm:=congrArg Prod.snd ht;have hno:∀ w,isK w (1,nm)=false:=λw=>by simp [isK]
   rw [bL,dB,EN,fP,fP,ht,hno,hno,aD (by decide),aD (by decide),sA];simp only [fP,ht,hno];rw [aD (by rw [hk1];decide)];simp only [aB,aS];rw [aM hk1,h91,aD (by decide),ht2]
  ·obtain ⟨a,rfl⟩:=iW hl;obtain ⟨ra,r1⟩:=ha a (by simp);refine .of (show 6<=(eK 6).lv by decide) λle r hk h91=>?_;obtain ⟨t,l,rfl,ht,hl⟩:=cU.1 (show le.map kt=(1,nm)::(4,[91])::(ktE a++[(4,[93])]) from hk);have hk1:t.k=1:=congrArg Prod.fst ht;have ht2:t.t=nm:=congrArg Prod.snd ht;have hno:∀ w,isK w (1,nm)=false:=λw=>by simp [isK]
   obtain ⟨k1,k2⟩:=bA8 ra r1 hl (r:=r);rw [bL,EN,fP,fP,ht,hno,hno,aD (by decide),aD (by decide),sA];simp only [fP,ht,hno];rw [aD (by rw [hk1];decide)];simp only [aB,aS];rw [aM hk1,k1,aM rfl,k2,ht2]
  ·obtain ⟨a,rfl⟩:=iW hl;obtain ⟨ra,r1⟩:=ha a (by simp);refine .of (show 6<=(eK 7).lv by decide) λle r hk h91=>?_;obtain ⟨t,l,rfl,ht,hl⟩:=cU.1 (show le.map kt=(2,[104,97,115])::(1,nm)::(4,[91])::(ktE a++[(4,[93])]) from hk);obtain ⟨t2,l2,rfl,ht2,hl⟩:=cU.1 hl;have hk1:t.k=2:=congrArg Prod.fst ht;have hk2:t2.k=1:=congrArg Prod.fst ht2;have ht3:t2.t=nm:=congrArg Prod.snd ht2;obtain ⟨k1,k2⟩:=bA8 ra r1 hl (r:=r);rw [bL,EN,fP,fP,ht,aD (by decide),aD (by decide),sA];simp only [fP,ht];rw [aD (by rw [hk1];decide),aD (by decide),aD (by decide),aD (by decide),aD (by decide),aD (by decide),aM (by decide),bL,BQ];rw [aM hk2,tO,k1,aM rfl,k2,ht3]
  ·obtain rfl:=eG hl;refine .of (show 6<=(eK 8).lv by decide) λle r hk h91=>?_;obtain ⟨t,l,rfl,ht,hl⟩:=cU.1 (show le.map kt=(2,[115,105,122,101])::(1,nm)::[] from hk);obtain ⟨t2,l2,rfl,ht2,hl⟩:=cU.1 hl;obtain rfl:=fJ.1 hl;have hk1:t.k=2:=congrArg Prod.fst ht;have hk2:t2.k=1:=congrArg Prod.fst ht2;have ht3:t2.t=nm:=congrArg Prod.snd ht2;rw [bL,EN,fP,fP,ht,aD (by decide),aD (by decide),sA];simp only [fP,ht];rw [aD (by rw [hk1];decide),aD (by decide),aD (by decide),aD (by decide),aM (by decide),bL,BQ];rw [aM hk2,ht3];rfl
  ·obtain ⟨a,rfl⟩:=iW hl;obtain ⟨ra,r1⟩:=ha a (by simp);obtain rfl:nm=[]:=hnm.resolve_left (by decide);exact bV7 ra r1 (.inl Z)
  ·obtain ⟨a,rfl⟩:=iW hl;obtain ⟨ra,r1⟩:=ha a (by simp);obtain rfl:nm=[]:=hnm.resolve_left (by decide);exact bV7 ra r1 (.inr Z)
abbrev Pz (α:Type):=List Tk->Rs α
section
variable {α β:Type}
def gO (a:α):Pz α:=λr=>.ok a r
def dJ (p:Pz α) (f:α->Pz β):Pz β:=λr=>(p r).bind f
def gNd (w:Str):Pz Unit:=λr=>if isT w r then .ok () r.tail else .er r 8
def gNm:Pz Str:=λr=>match r with | []=>.er r 8 | t::q=>if t.k=1 then .ok t.t q else .er r 8
def gNu:Pz Int64:=λr=>match r with | []=>.er r 8 | t::q=>if t.k=3 then (if lY t.t<=9223372036854775807 then .ok (Int64.ofNat (lY t.t)) q else .er r 2) else .er r 8
def lP (w:Str) (p q:Pz α):Pz α:=λr=>if isT w r then p r.tail else q r
def AP (w:Str) (p:Pz α):Nat->Pz (List α)
 | 0=>λr=>.er r 99
 | f+1=>lP w (dJ p λa=>dJ (AP w p f) λl=>gO (a::l)) (gO [])
def BS (w:Str) (p:Pz α):Pz (List α):=λr=>AP w p (r.length+1) r
end
def gEx:Pz Ex:=pX 0
def JB (b:Pz (List Sm)):Pz (List Sm):=dJ (gNd [123]) λ_=>dJ b λl=>dJ (gNd [125]) λ_=>gO l
def aP3 (b:Pz (List Sm)):Pz (List Sm):=lP [101,108,115,101] (JB b) (gO [])
def XK (b:Pz (List Sm)):Pz (List Sm):=lP [101,108,115,101] (JB b) (dJ (gNd [59]) λ_=>gO [])
def CP {α:Type} (p:Pz α):Pz (List α):=dJ (gNd [40]) λ_=>lP [41] (gO []) (dJ p λa=>dJ (BS [44] p) λl=>dJ (gNd [41]) λ_=>gO (a::l))
def gSt (b:Pz (List Sm)):Pz Sm :=
 lP [105,102] (dJ gEx λe=>dJ (JB b) λt=>dJ (aP3 b) λl=>gO (.mk 4 [] [] [e] t l))<|lP [119,104,105,108,101] (dJ gEx λe=>dJ (JB b) λt=>gO (.mk 5 [] [] [e] t []))<|lP [115,116,111,114,101] (dJ gEx λe=>dJ (gNd [61]) λ_=>dJ gEx λe2=>dJ (XK b) λl=>gO (.mk 8 [] [] [e,e2] [] l))<|lP [102,101,116,99,104] (dJ gNm λn=>dJ (gNd [61]) λ_=>dJ gEx λe=>dJ (XK b) λl=>gO (.mk 9 n [] [e] [] l))<|lP [115,101,110,100] (dJ gNm λn=>dJ (gNd [46]) λ_=>dJ gNm λh=>dJ (CP gEx) λl=>dJ (gNd [59]) λ_=>gO (.mk 6 n h l [] []))<|lP [97,102,116,101,114] (dJ gEx λe=>dJ (gNd [100,111]) λ_=>dJ gNm λh=>dJ (CP gEx) λl=>dJ (gNd [59]) λ_=>gO (.mk 7 [] h (e::l) [] []))<|lP [115,116,111,112] (dJ (gNd [59]) λ_=>gO (.mk 10 [] [] [] [] []))<|lP [100,101,108,101,116,101] (dJ gNm λn=>dJ (gNd [91]) λ_=>dJ gEx λe=>dJ (gNd [93]) λ_=>dJ (gNd [59]) λ_=>gO (.mk 3 n [] [e] [] []))<|dJ gNm λn=>lP [91] (dJ gEx λe=>dJ (gNd [93]) λ_=>dJ (gNd [61]) λ_=>dJ gEx λe2=>dJ (gNd [59]) λ_=>gO (.mk 2 n [] [e,e2] [] []))
  (dJ (gNd [61]) λ_=>dJ gEx λe=>dJ (gNd [59]) λ_=>gO (.mk 1 n [] [e] [] []))
def gBF:Nat->Pz (List Sm)
 | 0=>λr=>.er r 99
 | f+1=>λr=>if isT [125] r then .ok [] r else (gSt (gBF f) r).bind λs r1=>(gBF f r1).bind λl r2=>.ok (s::l) r2
def gB:Pz (List Sm):=λr=>gBF (r.length+1) r
def bF2:Pz Int64:=lP [45] (dJ gNu λv=>gO (-v)) gNu
def gHd:Pz Hd:=dJ gNm λn=>dJ (CP gNm) λl=>dJ (JB gB) λb=>gO ⟨n,l,b⟩
/-! ### Rules that consume -/
section
variable {α β:Type}
def Shr (p:Pz α):Prop:=∀ r a r',p r=.ok a r'->r'.length<=r.length
def Shs (p:Pz α):Prop:=∀ r a r',p r=.ok a r'->r'.length<r.length
theorem Shs.le {p:Pz α} (h:Shs p):Shr p:=λr a r' e=>pW (h r a r' e)
theorem Shr.pure (a:α):Shr (gO a):=λr a r' e=>by injection e with _ e;subst e;exact aW _
theorem Shr.bind {p:Pz α} {f:α->Pz β} (h:Shr p) (k:∀ a,Shr (f a)):Shr (dJ p f):=λr b r' e=>by
 obtain ⟨a,q,h1,h2⟩:=Rs.bind_ok e;have:=h _ _ _ h1;have:=k _ _ _ _ h2;omega
theorem Shs.bind {p:Pz α} {f:α->Pz β} (h:Shs p) (k:∀ a,Shr (f a)):Shs (dJ p f):=λr b r' e=>by
 obtain ⟨a,q,h1,h2⟩:=Rs.bind_ok e;have:=h _ _ _ h1;have:=k _ _ _ _ h2;omega
theorem Shs.nd (w:Str):Shs (gNd w):=λr a r' e=>by
 unfold gNd at e
 split at e
 ·rename_i h;injection e with _ e;subst e;have:=qG h;omega
 ·cases e
theorem Shs.nm:Shs gNm:=λr a r' e=>by
 unfold gNm at e
 split at e
 ·cases e
 ·split at e
  ·injection e with _ e;subst e;simp
  ·cases e
theorem Shs.nu:Shs gNu:=λr a r' e=>by
 unfold gNu at e
 split at e
 ·cases e
 ·split at e
  ·split at e
   ·injection e with _ e;subst e;simp
   ·cases e
  ·cases e
theorem Shs.ex:Shs gEx:=λr a r' e=>(CI _).1 _ _ _ _ e
theorem Shr.alt {w:Str} {p q:Pz α} (h:Shr p) (k:Shr q):Shr (lP w p q):=λr a r' e=>by
 unfold lP at e
 split at e
 ·rename_i h2;have:=qG h2;have:=h _ _ _ e;omega
 ·exact k _ _ _ e
theorem Shs.alt {w:Str} {p q:Pz α} (h:Shr p) (k:Shs q):Shs (lP w p q):=λr a r' e=>by
 unfold lP at e
 split at e
 ·rename_i h2;have:=qG h2;have:=h _ _ _ e;omega
 ·exact k _ _ _ e
theorem Shr.many {w:Str} {p:Pz α} (h:Shr p):Shr (BS w p):=by
 have key:∀ f,Shr (AP w p f):=λf=>by
  induction f with
  | zero=>intro r a r' e;cases e
  | succ f ih=>exact .alt (.bind h λa=>.bind ih λl=>.pure _) (.pure _)
 exact λr a r' e=>key _ _ _ _ e
theorem KI {w:Str} {p:Pz α} (h:Shr p):∀ (f g:Nat) (r:List Tk),r.length<f->r.length<g->AP w p f r=AP w p g r
 | 0,_,_,k,_=>by omega
 | _,0,_,_,k=>by omega
 | f+1,g+1,r,k1,k2=>by
  unfold AP lP
  split
  ·rename_i e;have:=qG e;refine Rs.bind_congr rfl λa q e2=>?_;have:=h _ _ _ e2;exact Rs.bind_congr (KI h f g q (by omega) (by omega)) λ_ _ _=>rfl
  ·rfl
theorem NG {w:Str} {p:Pz α} (h:Shr p):BS w p=lP w (dJ p λa=>dJ (BS w p) λl=>gO (a::l)) (gO []):=funext λr=>by
 unfold BS
 conv=>lhs;unfold AP
 unfold lP
 split
 ·rename_i e;have:=qG e;refine Rs.bind_congr rfl λa q e2=>?_;have:=h _ _ _ e2;exact Rs.bind_congr (KI h _ _ q (by omega) (by omega)) λ_ _ _=>rfl
 ·rfl
theorem Shs.list {p:Pz α} (h:Shr p):Shs (CP p):=.bind (.nd _) λ_=>.alt (.pure _) (.bind h λ_=>.bind (.many h) λ_=>.bind (Shs.nd _).le λ_=>.pure _)
/-! ### Rules that agree on short lists of tokens -/
def Agz (n:Nat) (p q:Pz α):Prop:=∀ r,r.length<=n->p r=q r
theorem Agz.rfl' {n:Nat} {p:Pz α}:Agz n p p:=λ_ _=>rfl
theorem Agz.bind {n:Nat} {p q:Pz α} {f g:α->Pz β} (hp:Shr p) (h:Agz n p q) (k:∀ a,Agz n (f a) (g a)):Agz n (dJ p f) (dJ q g):=λr hr =>
 Rs.bind_congr (h r hr) λa r' e=>k a r' (aV (hp _ _ _ e) hr)
theorem Agz.alt {n:Nat} {w:Str} {p q p' q':Pz α} (h:Agz (n - 1) p p') (k:Agz n q q'):Agz n (lP w p q) (lP w p' q'):=λr hr=>by
 unfold lP
 split
 ·rename_i e;have:=qG e;exact h _ (by omega)
 ·exact k r hr
theorem Agz.altr {n:Nat} {w:Str} {p q p' q':Pz α} (h:Agz n p p') (k:Agz n q q'):Agz n (lP w p q) (lP w p' q'):=.alt (λr hr=>h r (by omega)) k
end
theorem Shs.blk {b:Pz (List Sm)} (h:Shr b):Shs (JB b):=.bind (.nd _) λ_=>.bind h λ_=>.bind (Shs.nd _).le λ_=>.pure _
theorem Shr.els {b:Pz (List Sm)} (h:Shr b):Shr (aP3 b):=.alt (Shs.blk h).le (.pure _)
theorem Shr.oth {b:Pz (List Sm)} (h:Shr b):Shr (XK b):=.alt (Shs.blk h).le (.bind (Shs.nd _).le λ_=>.pure _)
theorem Shs.st {b:Pz (List Sm)} (h:Shr b):Shs (gSt b) :=
 .alt (.bind Shs.ex.le λ_=>.bind (Shs.blk h).le λ_=>.bind (.els h) λ_=>.pure _)<|.alt (.bind Shs.ex.le λ_=>.bind (Shs.blk h).le λ_=>.pure _)<|.alt (.bind Shs.ex.le λ_=>.bind (Shs.nd _).le λ_=>.bind Shs.ex.le λ_=>.bind (.oth h) λ_=>.pure _)<|.alt (.bind Shs.nm.le λ_=>.bind (Shs.nd _).le λ_=>.bind Shs.ex.le λ_=>.bind (.oth h) λ_=>.pure _)<|.alt (.bind Shs.nm.le λ_=>.bind (Shs.nd _).le λ_=>.bind Shs.nm.le λ_=>.bind (Shs.list Shs.ex.le).le λ_=>.bind (Shs.nd _).le λ_=>.pure _)<|.alt (.bind Shs.ex.le λ_=>.bind (Shs.nd _).le λ_=>.bind Shs.nm.le λ_=>.bind (Shs.list Shs.ex.le).le λ_=>.bind (Shs.nd _).le λ_=>.pure _)<|.alt (.bind (Shs.nd _).le λ_=>.pure _)<|.alt (.bind Shs.nm.le λ_=>.bind (Shs.nd _).le λ_=>.bind Shs.ex.le λ_=>.bind (Shs.nd _).le λ_=>.bind (Shs.nd _).le λ_=>.pure _)<|.bind .nm λ_=>.alt (.bind Shs.ex.le λ_=>.bind (Shs.nd _).le λ_=>.bind (Shs.nd _).le λ_=>.bind Shs.ex.le λ_=>.bind (Shs.nd _).le λ_=>.pure _) (.bind (Shs.nd _).le λ_=>.bind Shs.ex.le λ_=>.bind (Shs.nd _).le λ_=>.pure _)
theorem Agz.blk {b c:Pz (List Sm)} (h:Agz n b c) (hb:Shr b):Agz n (JB b) (JB c):=.bind (Shs.nd _).le .rfl' λ_=>.bind hb h λ_=>.rfl'
theorem Agz.els {b c:Pz (List Sm)} (h:Agz n b c) (hb:Shr b):Agz n (aP3 b) (aP3 c):=.altr (.blk h hb) .rfl'
theorem Agz.oth {b c:Pz (List Sm)} (h:Agz n b c) (hb:Shr b):Agz n (XK b) (XK c):=.altr (.blk h hb) .rfl'
theorem Agz.st {b c:Pz (List Sm)} (h:Agz (n - 1) b c) (hb:Shr b):Agz n (gSt b) (gSt c) :=
 .alt (.bind Shs.ex.le .rfl' λ_=>.bind (Shs.blk hb).le (.blk h hb) λ_=>.bind (.els hb) (.els h hb) λ_=>.rfl')<|.alt (.bind Shs.ex.le .rfl' λ_=>.bind (Shs.blk hb).le (.blk h hb) λ_=>.rfl')<|.alt (.bind Shs.ex.le .rfl' λ_=>.bind (Shs.nd _).le .rfl' λ_=>.bind Shs.ex.le .rfl' λ_=>.bind (.oth hb) (.oth h hb) λ_=>.rfl')<|.alt (.bind Shs.nm.le .rfl' λ_=>.bind (Shs.nd _).le .rfl' λ_=>.bind Shs.ex.le .rfl' λ_=>.bind (.oth hb) (.oth h hb) λ_=>.rfl') .rfl'
theorem AQ:∀ f,Shr (gBF f)
 | 0=>λ_ _ _ e=>by cases e
 | f+1=>λr a r' e=>by
  unfold gBF at e
  split at e
  ·injection e with _ e;subst e;exact aW _
  ·obtain ⟨s,q,h1,h2⟩:=Rs.bind_ok e;obtain ⟨l,q2,h3,h4⟩:=Rs.bind_ok h2;injection h4 with _ h4;subst h4
   have:=(Shs.st (AQ f)) _ _ _ h1;have:=AQ f _ _ _ h3;omega
theorem Shr.b:Shr gB:=λ_ _ _ e=>AQ _ _ _ _ e
theorem HT:∀ (f g:Nat) (r:List Tk),r.length<f->r.length<g->gBF f r=gBF g r
 | 0,_,_,k,_=>by omega
 | _,0,_,_,k=>by omega
 | f+1,g+1,[],_,_=>rfl
 | f+1,g+1,t::r,k1,k2=>by
  unfold gBF;simp only [aK] at k1 k2;refine ifC rfl (Rs.bind_congr (Agz.st (n:=(t::r).length) (λq hq=>?_) (AQ f) _ (aW _)) λs q e=>?_)
  ·simp only [aK] at hq;exact HT f g q (by omega) (by omega)
  ·have:=(Shs.st (AQ f)) _ _ _ e;simp only [aK] at this;exact Rs.bind_congr (HT f g q (by omega) (by omega)) λ_ _ _=>rfl
theorem XL (r:List Tk):gB r=if isT [125] r then .ok [] r else (gSt gB r).bind λs r1=>(gB r1).bind λl r2=>.ok (s::l) r2:=by
 match r with
 | []=>rfl
 | t::r =>
  conv=>lhs;unfold gB;unfold gBF
  refine ifC rfl (Rs.bind_congr (Agz.st (n:=(t::r).length) (λq hq=>?_) (AQ _) _ (aW _)) λs q e=>?_)
  ·simp only [aK] at hq;exact HT _ _ q (by simp only [aK];omega) (by omega)
  ·have:=(Shs.st (AQ _)) _ _ _ e;exact Rs.bind_congr (HT _ _ q (by omega) (by omega)) λ_ _ _=>rfl
def hdO (r:List Tk):Option Kt:=r.head?.map kt
def hdC (k:List Kt) (o:Option Kt):Option Kt:=match k with | []=>o | x::_=>some x
theorem UH {l r:List Tk} {k:List Kt} (h:l.map kt=k):hdO (l++r)=hdC k (hdO r):=by
 subst h;cases l <;> rfl
def NV (_:Option Kt):Prop:=True
def TW (w:Str):Option Kt->Prop
 | none=>True
 | some x=>isK w x=false
def bY6:Option Kt->Prop
 | none=>True
 | some x=>(∀ i∈List.range 5,opK i x=none)/\isK [91] x=false
theorem UE (w:Str) (r:List Tk):isT w r=match hdO r with | none=>false | some x=>isK w x:=by cases r <;> rfl
variable {w:Str}
theorem bC6 {r:List Tk} (h:TW w (hdO r)):isT w r=false:=by
 rw [UE];cases e:hdO r with
 | none=>rfl
 | some x=>rw [e] at h;exact h
section
variable {α β:Type}
def Rdc (p:Pz α) (ks:List Kt) (v:α) (C:Option Kt->Prop):Prop:=∀ le r,le.map kt=ks->C (hdO r)->p (le++r)=.ok v r
variable {k k1 k2:List Kt} {v a:α} {C C1 C2:Option Kt->Prop} {w:Str} {x:Kt}
theorem Rdc.pure:Rdc (gO v) [] v C:=λle r e _=>by
 obtain rfl:=fJ.1 e;rfl
theorem Rdc.seq {p:Pz α} {f:α->Pz β} {b:β} (h1:Rdc p k1 a C1) (hc:∀ o,C2 o->C1 (hdC k2 o)) (h2:Rdc (f a) k2 b C2):Rdc (dJ p f) (k1++k2) b C2:=λle r e c=>by
 obtain ⟨l1,l2,rfl,e1,e2⟩:=iJ.1 e;unfold dJ;rw [bW,h1 l1 (l2++r) e1 (by rw [UH e2];exact hc _ c)];exact h2 l2 r e2 c
theorem Rdc.nd {f:Unit->Pz β} {b:β} (hx:isK w x=true) (h:Rdc (f ()) k b C):Rdc (dJ (gNd w) f) (x::k) b C:=λle r e c=>by
 obtain ⟨t,l,rfl,ht,hl⟩:=cU.1 e;unfold dJ gNd;rw [bL,fP,ht,hx];exact h l r hl c
theorem Rdc.nm {f:Str->Pz β} {b:β} (h:Rdc (f w) k b C):Rdc (dJ gNm f) ((1,w)::k) b C:=λle r e c=>by
 obtain ⟨t,l,rfl,ht,hl⟩:=cU.1 e;have h1:t.k=1:=congrArg Prod.fst ht;have h2:t.t=w:=congrArg Prod.snd ht;unfold dJ gNm;rw [bL];simp only [h1,h2,aU];exact h l r hl c
theorem Rdc.nm1:Rdc gNm [(1,w)] w C:=λle r e c=>by
 obtain ⟨t,l,rfl,ht,hl⟩:=cU.1 e;obtain rfl:=fJ.1 hl;have h1:t.k=1:=congrArg Prod.fst ht;have h2:t.t=w:=congrArg Prod.snd ht;unfold gNm;rw [bL];simp only [h1,h2,aU]
 rfl
theorem Rdc.nu {u:Nat} (h:u<=9223372036854775807):Rdc gNu [(3,Lib.decDigits u)] (Int64.ofNat u) C:=λle r e c=>by
 obtain ⟨t,l,rfl,ht,hl⟩:=cU.1 e;obtain rfl:=fJ.1 hl;have h1:t.k=3:=congrArg Prod.fst ht;have h2:t.t=Lib.decDigits u:=congrArg Prod.snd ht;unfold gNu;rw [bL];simp only [h1,h2,aU,yQ,h]
 rfl
theorem Rdc.altT {p q:Pz α} (hx:isK w x=true) (h:Rdc p k v C):Rdc (lP w p q) (x::k) v C:=λle r e c=>by
 obtain ⟨t,l,rfl,ht,hl⟩:=cU.1 e;unfold lP;rw [bL,fP,ht,hx];exact h l r hl c
theorem Rdc.altF {p q:Pz α} (hx:isK w x=false) (h:Rdc q (x::k) v C):Rdc (lP w p q) (x::k) v C:=λle r e c=>by
 have h2:=h le r e c;obtain ⟨t,l,rfl,ht,hl⟩:=cU.1 e;unfold lP;rw [bL,fP,ht,hx];exact h2
theorem Rdc.altE {p q:Pz α} (hc:∀ o,C o->TW w o) (h:Rdc q [] v C):Rdc (lP w p q) [] v C:=λle r e c=>by
 have h2:=h le r e c;obtain rfl:=fJ.1 e;unfold lP;rw [dB,bC6 (hc _ c),aD (by decide)];exact h2
theorem Rdc.many {p:Pz α} (hp:Shr p) (hx:isK w x=true) {g:α->List Kt} {Cp:Option Kt->Prop} (h1:Cp (some x)) (hc:∀ o,C o->Cp o/\TW w o):∀ l:List α,(∀ a∈l,Rdc p (g a) a Cp)->Rdc (BS w p) ((l.map λa=>x::g a).flatten) l C
 | [],_=>by
  rw [NG hp];exact .altE (λo c=>(hc o c).2) .pure
 | a::l,h=>by
  have ih:=Rdc.many hp hx h1 hc l λb hb=>h b (cI _ hb);rw [NG hp];simp only [eT,nN,bL];refine .altT hx (.seq (h a (bQ ..)) (λo c=>?_) ?_)
  ·cases l with
   | nil=>exact (hc o c).1
   | cons b l=>exact h1
  ·have:=Rdc.seq (f:=λl=>gO (a::l)) (k2:=[]) ih (λo c=>c) .pure
   rwa [dO] at this
def aQ8 (l:List (List Kt)):List Kt:=(l.map λk=>(4,[44])::k).flatten
def bZ0:List (List Kt)->List Kt
 | []=>[]
 | k::l=>k++aQ8 l
def XB (l:List (List Kt)):List Kt:=(4,[40])::(bZ0 l++[(4,[41])])
theorem Rdc.list {p:Pz α} (hp:Shr p) {g:α->List Kt} {Cp:Option Kt->Prop} (h1:Cp (some (4,[44]))) (h2:Cp (some (4,[41]))) {l:List α} (h:∀ a∈l,Rdc p (g a) a Cp) (hg:∀ a∈l,∃ x k,g a=x::k/\isK [41] x=false):Rdc (CP p) (XB (l.map g)) l C:=by
 refine .nd Z ?_;cases l with
 | nil=>exact .altT rfl .pure
 | cons a l =>
  obtain ⟨x,k,e,hk⟩:=hg a (bQ ..);have ha:=h a (bQ ..)
  have hm:Rdc (BS [44] p) (aQ8 (l.map g)) l (λo=>o=some (4,[41])):=by
   have:=Rdc.many (C:=λo=>o=some (4,[41])) hp (w:=[44]) (x:=(4,[44])) rfl (g:=g) h1 (λo c=>by subst c;exact ⟨h2,Z⟩) l λb hb=>h b (cI _ hb);unfold aQ8
   rwa [BV]
  have key:Rdc (dJ p λa=>dJ (BS [44] p) λl=>dJ (gNd [41]) λ_=>gO (a::l)) (g a++(aQ8 (l.map g)++[(4,[41])])) (a::l) C:=by
   refine .seq ha (λo c=>?_) (.seq hm (λo c=>rfl) (.nd Z .pure));cases l with
   | nil=>exact h2
   | cons b l=>exact h1
  simp only [eT,bZ0,bW];rw [e] at key|-;exact .altF hk key
end
def stK (kd:UInt8) (nm hd:Str) (es:List (List Kt)) (T:List Kt) (noE:Bool) (E:List Kt):List Kt :=
 if kd=1 then (1,nm)::(4,[61])::(es.getD 0 []++[(4,[59])])
 else if kd=2 then (1,nm)::(4,[91])::(es.getD 0 []++(4,[93])::(4,[61])::(es.getD 1 []++[(4,[59])]))
 else if kd=3 then (2,[100,101,108,101,116,101])::(1,nm)::(4,[91])::(es.getD 0 []++[(4,[93]),(4,[59])])
 else if kd=4 then (2,[105,102])::(es.getD 0 []++((4,[123])::(T++[(4,[125])])++if noE then [] else (2,[101,108,115,101])::(4,[123])::(E++[(4,[125])])))
 else if kd=5 then (2,[119,104,105,108,101])::(es.getD 0 []++(4,[123])::(T++[(4,[125])]))
 else if kd=6 then (2,[115,101,110,100])::(1,nm)::(4,[46])::(1,hd)::(XB es++[(4,[59])])
 else if kd=7 then (2,[97,102,116,101,114])::(es.getD 0 []++(2,[100,111])::(1,hd)::(XB (es.drop 1)++[(4,[59])]))
 else if kd=8 then (2,[115,116,111,114,101])::(es.getD 0 []++(4,[61])::(es.getD 1 []++if noE then [(4,[59])] else (2,[101,108,115,101])::(4,[123])::(E++[(4,[125])])))
 else if kd=9 then (2,[102,101,116,99,104])::(1,nm)::(4,[61])::(es.getD 0 []++if noE then [(4,[59])] else (2,[101,108,115,101])::(4,[123])::(E++[(4,[125])]))
 else [(2,[115,116,111,112]),(4,[59])]
mutual
def ktS:Sm->List Kt
 | .mk kd nm hd ex th el=>stK kd nm hd (ex.map ktE) (xS th) (decide (el.length=0)) (xS el)
def xS:List Sm->List Kt
 | []=>[]
 | s::r=>ktS s++xS r
end
theorem xT (kd:UInt8) (nm hd:Str) (ex:List Ex) (th el:List Sm):ktS (.mk kd nm hd ex th el)=stK kd nm hd (ex.map ktE) (xS th) (decide (el.length=0)) (xS el):=by rw [ktS]
theorem Rdc.ex (h:Ex.all uN e=true):Rdc gEx (ktE e) e bY6:=λle r hk c=>by
 obtain ⟨h1,h2⟩:=bZ2 e h;refine h1.full hk (by omega) h2 ⟨λi _ h4=>?_,?_⟩
 ·cases r with
  | nil=>unfold opAt isT;simp
  | cons t r=>exact c.1 i (bU.2 (by omega))
 ·cases r with
  | nil=>rfl
  | cons t r=>exact c.2
theorem cB1 (e:Ex):Ex.all uN e=true->∃ x k,ktE e=x::k/\isK [41] x=false:=by
 induction e using Ex.ind with
 | _ op nm n args ih =>
  intro h;rw [BD,aC] at h;obtain ⟨hf,hr⟩:=h;have ha:∀ a∈args,∃ x k,ktE a=x::k/\isK [41] x=false:=λa m=>ih a m (jF m hr);simp only [uN,aC,aT,aA] at hf;obtain ⟨⟨⟨hop,hl⟩,_⟩,_⟩:=hf
  by_cases h1:op=1
  ·subst h1;exact ⟨_,_,Z,by simp [isK]⟩
  by_cases hb:op∈([11,12,13,14,15,16,17,18,19,20,21,22,23]:List UInt8)
  ·obtain ⟨b1,_⟩:=zP op hb;obtain ⟨a,b,rfl⟩:=zS (l:=args) (by omega);rw [UD hb];unfold EF
   split
   ·exact ⟨_,_,Z,Z⟩
   ·obtain ⟨x,k,e,hx⟩:=ha a (by simp);rw [e];exact ⟨_,_,Z,hx⟩
  have hs:op=2\/op=3\/op=4\/op=5\/op=6\/op=7\/op=8\/op=9\/op=10:=((MR hop).resolve_left h1).resolve_left hb;rcases hs with rfl | rfl | rfl | rfl | rfl | rfl | rfl | rfl | rfl
  all_goals first | exact ⟨_,_,Z,Z⟩ | exact ⟨_,_,Z,by decide⟩
theorem Rdc.exs {C:Option Kt->Prop} {l:List Ex} (h:∀ a∈l,Ex.all uN a=true):Rdc (CP gEx) (XB (l.map ktE)) l C :=
 .list Shs.ex.le ⟨by decide,by decide⟩ ⟨by decide,by decide⟩ (λa ha=>.ex (h a ha)) λa ha=>cB1 a (h a ha)
def endB (o:Option Kt):Prop:=o=some (4,[125])
theorem Rdc.blk {C:Option Kt->Prop} {l:List Sm} (h:Rdc gB (xS l) l endB):Rdc (JB gB) ((4,[123])::(xS l++[(4,[125])])) l C :=
 .nd rfl (.seq h (λ_ _=>rfl) (.nd rfl .pure))
theorem aA1 {kd:UInt8} (h:MS kd=true):kd=1\/kd=2\/kd=3\/kd=4\/kd=5\/kd=6\/kd=7\/kd=8\/kd=9\/kd=10:=by
 simp only [MS,aC,aA] at h;have key:∀ i∈List.range 11,1<=i->(UInt8.ofNat i=1\/UInt8.ofNat i=2\/UInt8.ofNat i=3\/UInt8.ofNat i=4\/UInt8.ofNat i=5\/UInt8.ofNat i=6\/UInt8.ofNat i=7\/UInt8.ofNat i=8\/UInt8.ofNat i=9\/UInt8.ofNat i=10):=by decide
 have:=key kd.toNat (bU.2 (by omega)) h.1
 rwa [iH] at this
theorem bH6 {l:List Ex} (h:l.length=1) (hf:Ex.alls uN l=true):∃ a,l=[a]/\Ex.all uN a=true:=by
 obtain ⟨a,rfl⟩:=iW h;exact ⟨a,Z,jF (by simp) hf⟩
theorem cJ7 {l:List Ex} (h:l.length=2) (hf:Ex.alls uN l=true):∃ a b,l=[a,b]/\Ex.all uN a=true/\Ex.all uN b=true:=by
 obtain ⟨a,b,rfl⟩:=zS h;exact ⟨a,b,Z,jF (by simp) hf,jF (by simp) hf⟩
inductive FmS:Sm->Prop where
 | k1 {nm:Str} {a:Ex} (ha:Ex.all uN a=true):FmS (.mk 1 nm [] [a] [] [])
 | k2 {nm:Str} {a b:Ex} (ha:Ex.all uN a=true) (hb:Ex.all uN b=true):FmS (.mk 2 nm [] [a,b] [] [])
 | k3 {nm:Str} {a:Ex} (ha:Ex.all uN a=true):FmS (.mk 3 nm [] [a] [] [])
 | k4 {a:Ex} {th el:List Sm} (ha:Ex.all uN a=true):FmS (.mk 4 [] [] [a] th el)
 | k5 {a:Ex} {th:List Sm} (ha:Ex.all uN a=true):FmS (.mk 5 [] [] [a] th [])
 | k6 {nm hd:Str} {l:List Ex} (hl:∀ a∈l,Ex.all uN a=true):FmS (.mk 6 nm hd l [] [])
 | k7 {hd:Str} {a:Ex} {l:List Ex} (ha:Ex.all uN a=true) (hl:∀ a∈l,Ex.all uN a=true):FmS (.mk 7 [] hd (a::l) [] [])
 | k8 {a b:Ex} {el:List Sm} (ha:Ex.all uN a=true) (hb:Ex.all uN b=true):FmS (.mk 8 [] [] [a,b] [] el)
 | k9 {nm:Str} {a:Ex} {el:List Sm} (ha:Ex.all uN a=true):FmS (.mk 9 nm [] [a] [] el)
 | k10:FmS (.mk 10 [] [] [] [] [])
theorem QY {s:Sm} (h:UK s=true):FmS s:=by
 obtain ⟨kd,nm,hd,ex,th,el⟩:=s;simp only [UK,aC,aT,aA] at h;obtain ⟨⟨⟨⟨⟨⟨⟨hk,h1⟩,h2⟩,h3⟩,h4⟩,h5⟩,h6⟩,h7⟩:=h;have z:∀ {l:List Sm},l.length=0->l=[]:=bK;rcases aA1 hk with rfl | rfl | rfl | rfl | rfl | rfl | rfl | rfl | rfl | rfl
 ·obtain rfl:=h4.resolve_left (by decide);obtain rfl:=z (h5.resolve_left (by decide));obtain rfl:=z (h6.resolve_left (by decide));obtain ⟨a,rfl,ha⟩:=bH6 (kJ h2 h1) h7;exact .k1 ha
 ·obtain rfl:=h4.resolve_left (by decide);obtain rfl:=z (h5.resolve_left (by decide));obtain rfl:=z (h6.resolve_left (by decide));obtain ⟨a,b,rfl,ha,hb⟩:=cJ7 (kJ h2 h1) h7;exact .k2 ha hb
 ·obtain rfl:=h4.resolve_left (by decide);obtain rfl:=z (h5.resolve_left (by decide));obtain rfl:=z (h6.resolve_left (by decide));obtain ⟨a,rfl,ha⟩:=bH6 (kJ h2 h1) h7;exact .k3 ha
 ·obtain rfl:=h3.resolve_left (by decide);obtain rfl:=h4.resolve_left (by decide);obtain ⟨a,rfl,ha⟩:=bH6 (kJ h2 h1) h7;exact .k4 ha
 ·obtain rfl:=h3.resolve_left (by decide);obtain rfl:=h4.resolve_left (by decide);obtain rfl:=z (h6.resolve_left (by decide));obtain ⟨a,rfl,ha⟩:=bH6 (kJ h2 h1) h7;exact .k5 ha
 ·obtain rfl:=z (h5.resolve_left (by decide));obtain rfl:=z (h6.resolve_left (by decide));exact .k6 λa ha=>jF ha h7
 ·obtain rfl:=h3.resolve_left (by decide);obtain rfl:=z (h5.resolve_left (by decide));obtain rfl:=z (h6.resolve_left (by decide));cases ex with
  | nil=>exact absurd h1 (by decide)
  | cons a l=>exact .k7 (jF (by simp) h7) λb hb=>jF (by simp [hb]) h7
 ·obtain rfl:=h3.resolve_left (by decide);obtain rfl:=h4.resolve_left (by decide);obtain rfl:=z (h5.resolve_left (by decide));obtain ⟨a,b,rfl,ha,hb⟩:=cJ7 (kJ h2 h1) h7;exact .k8 ha hb
 ·obtain rfl:=h4.resolve_left (by decide);obtain rfl:=z (h5.resolve_left (by decide));obtain ⟨a,rfl,ha⟩:=bH6 (kJ h2 h1) h7;exact .k9 ha
 ·obtain rfl:=h3.resolve_left (by decide);obtain rfl:=h4.resolve_left (by decide);obtain rfl:=z (h5.resolve_left (by decide));obtain rfl:=z (h6.resolve_left (by decide));obtain rfl:=eG (Nat.le_zero.1 h2);exact .k10
theorem bE4 {s:Sm} (h:FmS s):∃ x k,ktS s=x::k/\isK [125] x=false/\isK [101,108,115,101] x=false:=by
 cases h <;> rw [xT] <;> exact ⟨_,_,Z,Z,Z⟩
def RdS (s:Sm):Prop:=Rdc (gSt gB) (ktS s) s (TW [101,108,115,101])
theorem SZ {x:Kt} (h1:(List.range 5).all (λi=>(opK i x).isNone)=true) (h2:isK [91] x=false):bY6 (some x):=⟨λi hi=>by simpa using bC.1 h1 i hi,h2⟩
theorem Rdc.oth {C:Option Kt->Prop} {el:List Sm} (h:Rdc gB (xS el) el endB):Rdc (XK gB) (if decide (el.length=0)=true then [(4,[59])] else (2,[101,108,115,101])::(4,[123])::(xS el++[(4,[125])])) el C:=by
 split
 ·rename_i e;obtain rfl:=bK (aJ e);exact .altF Z (.nd Z .pure)
 ·exact .altT Z (.blk h)
theorem aH5 (el:List Sm) (o:Option Kt):bY6 (hdC (if decide (el.length=0)=true then [(4,[59])] else (2,[101,108,115,101])::(4,[123])::(xS el++[(4,[125])])) o):=by
 split <;> exact SZ rfl rfl
theorem Rdc.st {s:Sm} (h:FmS s) (ht:∀ nm hd kd ex th el,s=.mk kd nm hd ex th el->Rdc gB (xS th) th endB/\Rdc gB (xS el) el endB):RdS s:=by
 unfold RdS;cases h with
 | k1 ha=>exact .altF rfl<|.altF rfl<|.altF rfl<|.altF rfl<|.altF rfl<|.altF rfl<|.altF rfl<|.altF rfl<|.nm<|.altF rfl<|.nd rfl<|.seq (.ex ha) (λ_ _=>SZ rfl rfl)<|.nd rfl .pure
 | k2 ha hb=>exact .altF rfl<|.altF rfl<|.altF rfl<|.altF rfl<|.altF rfl<|.altF rfl<|.altF rfl<|.altF rfl<|.nm<|.altT rfl<|.seq (.ex ha) (λ_ _=>SZ rfl rfl)<|.nd rfl<|.nd rfl<|.seq (.ex hb) (λ_ _=>SZ rfl rfl)<|.nd rfl .pure
 | k3 ha=>exact .altF rfl<|.altF rfl<|.altF rfl<|.altF rfl<|.altF rfl<|.altF rfl<|.altF rfl<|.altT rfl<|.nm<|.nd rfl<|.seq (.ex ha) (λ_ _=>SZ rfl rfl)<|.nd rfl<|.nd rfl .pure
 | @k4 a th el ha =>
  obtain ⟨h1,h2⟩:=ht _ _ _ _ _ _ rfl;refine .altT Z<|.seq (.ex ha) (λ_ _=>SZ Z Z)<|.seq (C1:=NV) (.blk h1) (λ_ _=>trivial) ?_
  split
  ·rename_i e;obtain rfl:=bK (aJ e);exact Rdc.seq (k1:=[]) (k2:=[]) (C1:=TW [101,108,115,101]) (.altE (λo c=>c) .pure) (λo c=>c) .pure
  ·have:=Rdc.seq (C2:=TW [101,108,115,101]) (f:=λl=>gO (Sm.mk 4 [] [] [a] th l)) (k2:=[]) (C1:=NV) (.altT (w:=[101,108,115,101]) (q:=gO []) (x:=(2,[101,108,115,101])) rfl (.blk h2)) (λo c=>trivial) .pure
   rwa [dO] at this
 | @k5 a th ha =>
  obtain ⟨h1,_⟩:=ht _ _ _ _ _ _ rfl;have:=Rdc.seq (C2:=TW [101,108,115,101]) (f:=λt=>gO (Sm.mk 5 [] [] [a] t [])) (k2:=[]) (C1:=NV) (.blk h1) (λo c=>trivial) .pure;rw [dO] at this;exact .altF Z<|.altT Z<|.seq (.ex ha) (λ_ _=>SZ Z Z) this
 | k6 hl=>exact .altF rfl<|.altF rfl<|.altF rfl<|.altF rfl<|.altT rfl<|.nm<|.nd rfl<|.nm<|.seq (C1:=NV) (.exs hl) (λ_ _=>trivial)<|.nd rfl .pure
 | k7 ha hl=>exact .altF rfl<|.altF rfl<|.altF rfl<|.altF rfl<|.altF rfl<|.altT rfl<|.seq (.ex ha) (λ_ _=>SZ rfl rfl)<|.nd rfl<|.nm<|.seq (C1:=NV) (.exs hl) (λ_ _=>trivial)<|.nd rfl .pure
 | @k8 a b el ha hb =>
  obtain ⟨_,h2⟩:=ht _ _ _ _ _ _ rfl;have:=Rdc.seq (C2:=TW [101,108,115,101]) (f:=λl=>gO (Sm.mk 8 [] [] [a,b] [] l)) (k2:=[]) (C1:=NV) (.oth h2) (λo c=>trivial) .pure;rw [dO] at this;exact .altF Z<|.altF Z<|.altT Z<|.seq (.ex ha) (λ_ _=>SZ Z Z)<|.nd Z<|.seq (.ex hb) (λo _=>aH5 el o) this
 | @k9 nm a el ha =>
  obtain ⟨_,h2⟩:=ht _ _ _ _ _ _ rfl;have:=Rdc.seq (C2:=TW [101,108,115,101]) (f:=λl=>gO (Sm.mk 9 nm [] [a] [] l)) (k2:=[]) (C1:=NV) (.oth h2) (λo c=>trivial) .pure;rw [dO] at this;exact .altF Z<|.altF Z<|.altF Z<|.altT Z<|.nm<|.nd Z<|.seq (.ex ha) (λo _=>aH5 el o) this
 | k10=>exact .altF rfl<|.altF rfl<|.altF rfl<|.altF rfl<|.altF rfl<|.altF rfl<|.altT rfl<|.nd rfl .pure
theorem Rdc.b:∀ (l:List Sm),(∀ s∈l,FmS s/\RdS s)->Rdc gB (xS l) l endB
 | [],_=>λle r e c=>by
  obtain rfl:=fJ.1 (by rw [xS] at e;exact e);rw [XL,dB,UE];have c:hdO r=some (4,[125]):=c;rw [c]
  rfl
 | s::l,h=>λle r e c=>by
  rw [xS] at e;obtain ⟨l1,l2,rfl,e1,e2⟩:=iJ.1 e;obtain ⟨hf,hs⟩:=h s (bQ ..);obtain ⟨x,k,hx,hx1,_⟩:=bE4 hf;have ih:=Rdc.b l (λa ha=>h a (cI _ ha)) l2 r e2 c
  have h2:=hs l1 (l2++r) e1 (by
   rw [UH e2];cases l with
   | nil=>rw [show hdC (xS []) (hdO r)=hdO r from rfl,show hdO r=some (4,[125]) from c];rfl
   | cons b l =>
    obtain ⟨y,k2,hy,_,hy2⟩:=bE4 (h b (by simp)).1;rw [xS,hy];exact hy2)
  rw [XL,bW,UE,UH e1,hx];show (if isK [125] x=true then _ else _)=_;rw [hx1,aD (by decide),h2];show (gB (l2++r)).bind _=_;rw [ih]
  rfl
theorem pZ {q:Sm->Bool}:∀ {l:List Sm} {a:Sm},a∈l->Sm.alls q l=true->Sm.all q a=true
 | b::l,a,h,k=>by
  rw [Sm.alls,aC] at k;rcases bP.1 h with rfl | h
  ·exact k.1
  ·exact pZ h k.2
theorem bP3 (s:Sm):Sm.all UK s=true->FmS s/\RdS s:=by
 induction s using Sm.ind with
 | _ kd nm hd ex th el ih1 ih2 =>
  intro h;rw [TA,aC,aC] at h;obtain ⟨⟨h1,h2⟩,h3⟩:=h;have hf:=QY h1
  exact ⟨hf,.st hf λnm' hd' kd' ex' th' el' e=>by
   injection e with _ _ _ _ e1 e2
   subst e1 e2;exact ⟨.b _ λs hs=>ih1 s hs (pZ hs h2),.b _ λs hs=>ih2 s hs (pZ hs h3)⟩⟩
theorem Rdc.body {l:List Sm} (h:Sm.alls UK l=true):Rdc gB (xS l) l endB:=.b l λs hs=>bP3 s (pZ hs h)
/-! ### Fleets -/
def cI5 (n:Int64):List Kt:=if n.toInt<0 then [(4,[45]),(3,Lib.decDigits (-n.toInt).toNat)] else [(3,Lib.decDigits n.toInt.toNat)]
def hdK (h:Hd):List Kt:=(1,h.nm)::(XB (h.ps.map λp=>[(1,p)])++(4,[123])::(xS h.body++[(4,[125])]))
section
variable {C:Option Kt->Prop}
theorem bR3 {n:Int64} (h:0<=n.toInt):n.toInt.toNat<=9223372036854775807/\Int64.ofNat n.toInt.toNat=n:=by
 have hlt:=n.toInt_lt;refine ⟨by omega,dW.1 ?_⟩;rw [jL (by omega)];omega
theorem Rdc.int {n:Int64} (h:n.toInt≠-9223372036854775808):Rdc bF2 (cI5 n) n C:=by
 unfold cI5
 split
 ·rename_i hn;have hlt:=n.le_toInt;have h1:(-n.toInt).toNat<=9223372036854775807:=by omega
  have e:-Int64.ofNat (-n.toInt).toNat=n:=by
   apply dW.1;rw [Int64.toInt_neg,jL (by omega)];rw [Int.toNat_of_nonneg (by omega),Int.neg_neg];exact Int.bmod_eq_of_le (by omega) (by have:=n.toInt_lt;omega)
  have:=Rdc.seq (C1:=NV) (C2:=C) (f:=λv=>gO (-v)) (k2:=[]) (.nu h1) (λ_ _=>trivial) .pure;rw [e] at this;exact .altT Z this
 ·obtain ⟨h1,h2⟩:=bR3 (n:=n) (by omega);have h3:=Rdc.nu (C:=C) h1;rw [h2] at h3;exact .altF (by simp [isK]) h3
theorem Rdc.hd {h:Hd} (hf:cM9 h=true):Rdc gHd (hdK h) h C:=by
 have h1:Rdc (CP gNm) (XB (h.ps.map λp=>[(1,p)])) h.ps NV:=.list Shs.nm.le (Cp:=NV) trivial trivial (λa _=>.nm1) λa _=>⟨_,_,Z,by simp [isK]⟩;have h2:=Rdc.seq (C1:=NV) (C2:=C) (f:=λb=>gO (Hd.mk h.nm h.ps b)) (k2:=[]) (.blk (.body hf)) (λ_ _=>trivial) .pure;rw [dO] at h2;exact .nm<|.seq h1 (λ_ _=>trivial) h2
theorem Shs.hd:Shs gHd:=.bind .nm λ_=>.bind (Shs.list Shs.nm.le).le λ_=>.bind (Shs.blk Shr.b).le λ_=>.pure _
theorem Shs.int:Shs bF2:=.alt (.bind Shs.nu.le λ_=>.pure _) .nu
end
structure Tok (x:Kt) (r:Str):Prop where
 ne:x.2≠[]
 read:bM (x.2++r)=(x.1,x.2.length)
 skip:eF false (x.2++r)=x.2++r
 k5:x.1≠5
 sh:x.2.length<=1000000
inductive Lx:Str->List Kt->Prop where
 | nil:Lx [] []
 | blk {c:UInt8} {s:Str} {k:List Kt} (h:lQ c=true) (l:Lx s k):Lx (c::s) k
 | tok {x:Kt} {s:Str} {k:List Kt} (h:Tok x s) (l:Lx s k):Lx (x.2++s) (x::k)
def wD (r:Str):Prop:=∀ c,r.head? = some c->iR c=false/\c≠46/\c≠61/\c≠62/\c≠47
def hdB (r:Str):Prop:=∀ c,r.head? = some c->c≠46/\c≠61/\c≠62/\c≠47
variable {r:Str}
theorem wD.hd (h:wD r):hdB r:=λc e=>(h c e).2
theorem oM {c:UInt8} (h:iR c=false/\c≠46/\c≠61/\c≠62/\c≠47):wD (c::r):=λd e=>by cases e;exact h
theorem gY {c:UInt8} (h:c≠46/\c≠61/\c≠62/\c≠47):hdB (c::r):=λd e=>by cases e;exact h
theorem AL {q:UInt8->Bool}:∀ {w r:Str},w.all q=true->(∀ c,r.head? = some c->q c=false)->pre q (w++r)=w.length
 | [],[],_,_=>rfl
 | [],c::r,_,h=>by unfold pre;rw [dB,dZ,h c rfl];rfl
 | a::w,r,hw,h=>by
  rw [fE,aC] at hw;have:=AL hw.2 h;unfold pre at this|-;rw [bL,dZ,hw.1];simp [this]
theorem LB {q:UInt8->Bool}:∀ {w:Str},pre q w=w.length->w.all q=true
 | [],_=>rfl
 | a::w,h=>by
  unfold pre at h;rw [dZ] at h;cases ha:q a with
  | false=>rw [ha] at h;simp at h
  | true =>
   rw [ha] at h;have:=LB (q:=q) (w:=w) (by unfold pre;simpa using h);rw [fE,ha,this];rfl
theorem NU {Q:UInt8->Prop} (h:∀ i∈List.range 256,Q (UInt8.ofNat i)) (c:UInt8):Q c:=by
 have:=h c.toNat (bU.2 c.toNat_lt)
 rwa [iH] at this
theorem LG (c:UInt8) (h:nG c=true):lQ c=false/\c≠47/\c≠46/\c≠61/\c≠62/\iR c=true/\iC c=false:=by
 revert h
 exact NU (Q:=λc=>nG c=true->lQ c=false/\c≠47/\c≠46/\c≠61/\c≠62/\iR c=true/\iC c=false) (by decide +kernel) c
theorem US (c:UInt8) (h:iC c=true):lQ c=false/\c≠47/\c≠46/\c≠61/\c≠62/\nG c=false:=by
 revert h
 exact NU (Q:=λc=>iC c=true->lQ c=false/\c≠47/\c≠46/\c≠61/\c≠62/\nG c=false) (by decide +kernel) c
theorem bR2 (c:UInt8) (h:iR c=false):iC c=false:=by
 revert h
 exact NU (Q:=λc=>iR c=false->iC c=false) (by decide +kernel) c
theorem aL5:∀ w∈words,w.length<=12:=by decide +kernel
theorem VP {k:UInt8} (h0:w≠[]) (hl:nG (w.headD 0)=true) (hw:w.all iR=true) (hk:(if words.contains w then (2:UInt8) else if w.length<=12 then 1 else 5)=k) (h5:k≠5) (hr:wD r):Tok (k,w) r:=by
 match w,h0 with
 | c::t,h0 =>
  have hlb:=LG c hl;have hp:pre iR ((c::t)++r)=(c::t).length:=AL hw λd hd=>(hr d hd).1;refine ⟨h0,?_,?_,h5,?_⟩
  ·show bM ((c::t)++r)=(k,(c::t).length);unfold bM;simp only;rw [show ((c::t)++r).headD 0=c from rfl,show nG c=true from hl,aM rfl,hp,jV]
   split at hk
   ·rename_i e;rw [aM e,<-hk]
   ·rename_i e;rw [aD e]
    split at hk
    ·rename_i e2;rw [aM e2,<-hk]
    ·exact absurd hk.symm h5
  ·exact pF hlb.1 (λe=>hlb.2.1 e.1)
  ·show (c::t).length<=1000000
   split at hk
   ·rename_i e;have:=aL5 _ (fV.1 e);omega
   ·split at hk
    ·omega
    ·exact absurd hk.symm h5
theorem XF:∀ w∈words,w≠[]/\nG (w.headD 0)=true/\w.all iR=true:=by decide +kernel
theorem aX3 (hw:w∈words) (hr:wD r):Tok (2,w) r:=by
 obtain ⟨h1,h2,h3⟩:=XF w hw;exact VP h1 h2 h3 (by rw [aM (fV.2 hw)]) (by decide) hr
theorem yR (h:fB w=true):w≠[]/\nG (w.headD 0)=true/\w.all iR=true/\words.contains w=false/\w.length<=12:=by
 have hlen:=bD3 h;simp only [fB,aC,aA,dM] at h;obtain ⟨⟨h0,h1⟩,h2⟩:=h
 match w,h0 with
 | c::t,h0 =>
  have hl:=QG h1
  have h3:words.contains ((c::t).take (pre iR (c::t)))=false/\pre iR (c::t)=(c::t).length:=by
   unfold bM at h1 h2;simp only [aH,hl,aU] at h1 h2
   split at h1
   ·simp at h1
   ·rename_i e;rw [aD e] at h2
    split at h1
    ·rename_i e2;rw [aM e2] at h2;exact ⟨by simpa using e,h2⟩
    ·simp at h1
  obtain ⟨h4,h5⟩:=h3;rw [h5,aY] at h4;exact ⟨h0,hl,LB h5,h4,hlen⟩
theorem aX2 (hw:fB w=true) (hr:wD r):Tok (1,w) r:=by
 obtain ⟨h1,h2,h3,h4,h5⟩:=yR hw;exact VP h1 h2 h3 (by rw [h4,aD (by decide),aM h5]) (by decide) hr
theorem LF (hw:fB w=true):hdB (w++r):=by
 obtain ⟨h1,h2,_⟩:=yR hw
 match w,h1 with
 | c::t,_=>have:=LG c h2;exact gY ⟨this.2.2.1,this.2.2.2.1,this.2.2.2.2.1,this.2.1⟩
theorem NB (hw:w∈words):hdB (w++r):=by
 obtain ⟨h1,h2,_⟩:=XF w hw
 match w,h1 with
 | c::t,_=>have:=LG c h2;exact gY ⟨this.2.2.1,this.2.2.2.1,this.2.2.2.2.1,this.2.1⟩
theorem JI:∀ (u:Nat),∃ c t,Lib.decDigits u=c::t/\(t=[]\/c≠48)/\(u≠0->c≠48):=by
 intro u;induction u using Nat.strongRecOn with
 | _ u ih =>
  by_cases h:u<10
  ·rw [Lib.decDigits_one h];refine ⟨_,[],Z,.inl rfl,λhu e=>?_⟩;have:=congrArg UInt8.toNat e;rw [Plain.digit_nat u h] at this;have h48:(48:UInt8).toNat=48:=rfl;omega
  ·rw [Plain.digits_more u h];obtain ⟨c,t,e,_,h2⟩:=ih (u / 10) (by omega);rw [e];exact ⟨c,_,Z,.inr (h2 (by omega)),λ_=>h2 (by omega)⟩
theorem aK2 {u:Nat} (h:u<=9223372036854775808):(Lib.decDigits u).length<=21:=by
 have h1:=Lib.itoa_length_le (-(u:Int)) (by omega) (by omega)
 by_cases h0:u=0
 ·subst h0;decide +kernel
 ·rw [Lib.itoa,aM (by omega),show (-(u:Int)).natAbs=u by omega,aK] at h1;omega
theorem cK1 {n:Int64} :n.toInt.toNat<=9223372036854775808:=by have:=n.toInt_lt;omega
theorem bL9 {u:Nat} (hu:u<=9223372036854775808) (hr:wD r):Tok (3,Lib.decDigits u) r:=by
 have hdl:=aK2 hu;obtain ⟨c,t,e,h2,_⟩:=JI u
 have hall:(Lib.decDigits u).all iC=true:=bC.2 λd hd=>by
  have:=Plain.digits_are u d hd;simp only [iC,aC,aA];exact this
 have hp:pre iC (Lib.decDigits u++r)=(Lib.decDigits u).length:=AL hall λd hd=>bR2 d (hr d hd).1;rw [e] at hall hp hdl|-;rw [fE,aC] at hall;have hb:=US c hall.1;refine ⟨by simp,?_,pF hb.1 (λe=>hb.2.1 e.1),(show (3:UInt8)≠5 by decide),(by show (c::t).length<=1000000;omega)⟩;show bM ((c::t)++r)=(3,(c::t).length);unfold bM;simp only;rw [show ((c::t)++r).headD 0=c from rfl,hb.2.2.2.2.2,aD (by decide),hall.1,aM rfl,hp];refine aM ?_;rcases h2 with rfl | h2
 ·exact .inl Z
 ·exact .inr h2
theorem cA4 {u:Nat} :hdB (Lib.decDigits u++r):=by
 obtain ⟨c,t,e,_⟩:=JI u;have:=Plain.digits_are u c (by rw [e];simp);have hd:iC c=true:=by simp only [iC,aC,aA];exact this
 have hb:=US c hd;rw [e];exact gY ⟨hb.2.2.1,hb.2.2.2.1,hb.2.2.2.2.1,hb.2.1⟩
def bM4:Str:=[123,125,40,41,91,93,44,59,58,46,61,60,62,43,45,42,47,37]
theorem aG0 {c:UInt8} (hc:c∈bM4) (hr:hdB r):Tok (4,[c]) r:=by
 have hx:∀ d,r.head? = some d->d≠46/\d≠61/\d≠62/\d≠47:=hr;refine ⟨by simp,?_,?_,(show (4:UInt8)≠5 by decide),(by show (1:Nat)<=_;omega)⟩
 ·show bM (c::r)=(4,1);have hl:nG c=false/\iC c=false:=by revert c;decide
  have hf:symbols.find? (λx=>x.isPrefixOf (c::r))=some [c]:=by
   cases r with
   | nil=>revert c;decide
   | cons d t =>
    obtain ⟨e1,e2,e3,e4⟩:=hx d rfl;have b1:((46:UInt8) == d)=false:=tH (rN e1);have b2:((61:UInt8) == d)=false:=tH (rN e2);have b3:((62:UInt8) == d)=false:=tH (rN e3);simp only [bM4,bP,List.not_mem_nil,or_false] at hc
    rcases hc with rfl | rfl | rfl | rfl | rfl | rfl | rfl | rfl | rfl | rfl | rfl | rfl | rfl | rfl | rfl | rfl | rfl | rfl <;>
     simp [symbols,List.find?,List.isPrefixOf,b1,b2,b3]
  unfold bM;simp only [aH,hl.1,hl.2,hf,aB,aS,zH]
 ·refine pF (by revert c;decide) ?_;rintro ⟨_,h⟩;exact (hx 47 h).2.2.2 rfl
def bY5:List Str:=[[61,61],[33,61],[60,61],[62,61],[45,62]]
theorem aF9 (hw:w∈bY5):Tok (4,w) r:=by
 simp only [bY5,bP,List.not_mem_nil,or_false] at hw;rcases hw with rfl | rfl | rfl | rfl | rfl <;> refine ⟨by simp,?_,?_,(show (4:UInt8)≠5 by decide),(by show (2:Nat)<=_;omega)⟩ <;> simp [bM,nG,iC,symbols,List.find?,List.isPrefixOf,eF,lQ]
theorem tY:wD (32::r):=oM (by decide)
theorem aC2:wD (41::r):=oM (by decide)
theorem UT:wD (91::r):=oM (by decide)
theorem aC5:wD (93::r):=oM (by decide)
theorem Lx.sp {k:List Kt} (h:Lx r k):Lx (32::r) k:=.blk (by decide) h
theorem Lx.sy {c:UInt8} {k:List Kt} (hc:c∈bM4) (hr:hdB r) (h:Lx r k):Lx (c::r) ((4,[c])::k):=.tok (x:=(4,[c])) (aG0 hc hr) h
theorem Lx.kw {k:List Kt} (hw:w∈words) (hr:wD r) (h:Lx r k):Lx (w++r) ((2,w)::k):=.tok (x:=(2,w)) (aX3 hw hr) h
theorem Lx.nm {k:List Kt} (hw:fB w=true) (hr:wD r) (h:Lx r k):Lx (w++r) ((1,w)::k):=.tok (x:=(1,w)) (aX2 hw hr) h
theorem Lx.nu {u:Nat} {k:List Kt} (hu:u<=9223372036854775808) (hr:wD r) (h:Lx r k):Lx (Lib.decDigits u++r) ((3,Lib.decDigits u)::k):=.tok (x:=(3,Lib.decDigits u)) (bL9 hu hr) h
def LxE (e:Ex):Prop:=∀ r ks,wD r->Lx r ks->Lx (e.text++r) (ktE e++ks)/\hdB (e.text++r)
variable {ks:List Kt}
theorem LxE.opnd (h:LxE e) (n:Nat) (hr:wD r) (hk:Lx r ks):Lx (opT n (e.lv,e.text)++r) (EF n e.lv (ktE e)++ks)/\hdB (opT n (e.lv,e.text)++r):=by
 unfold opT EF;simp only
 split
 ·simp only [bL,dB,bW];obtain ⟨h1,h2⟩:=h (41::r) ((4,[41])::ks) aC2 (.sy (by decide) hr.hd hk);exact ⟨.sy (by decide) h2 h1,gY (by decide)⟩
 ·exact h r ks hr hk
theorem bJ6:∀ op∈([11,12,13,14,15,16,17,18,19,20,21,22,23]:List UInt8),(eK op).tx=32::((FG op).2++[32])/\(((FG op).1=2/\(FG op).2∈words)\/((FG op).1=4/\((FG op).2∈bY5\/∃ c∈bM4,(FG op).2=[c]))):=by decide +kernel
theorem Lx.bin {op:UInt8} (h:op∈([11,12,13,14,15,16,17,18,19,20,21,22,23]:List UInt8)) {k:List Kt} (hk:Lx r k):Lx ((eK op).tx++r) (FG op::k):=by
 obtain ⟨h1,h2⟩:=bJ6 op h;rw [h1];simp only [bL,bW,dB];refine .sp ?_;have hs:=hk.sp;refine .tok (x:=FG op) ?_ hs;generalize FG op=x at h2;obtain ⟨k,w⟩:=x;rcases h2 with ⟨e,hw⟩ | ⟨e,hw | ⟨c,hc,hw⟩⟩
 ·obtain rfl:k=2:=e;exact aX3 hw tY
 ·obtain rfl:k=4:=e;exact aF9 hw
 ·obtain rfl:k=4:=e;obtain rfl:w=[c]:=hw;exact aG0 hc tY.hd
theorem cA9 (e:Ex):Ex.all uN e=true->Ex.all bD4 e=true->LxE e:=by
 induction e using Ex.ind with
 | _ op nm n args ih =>
  intro h hq;rw [BD,aC] at h hq;obtain ⟨hf,hr⟩:=h;obtain ⟨hg,hq⟩:=hq;have ha:∀ a∈args,LxE a:=λa m=>ih a m (jF m hr) (jF m hq);simp only [uN,aC,aT,aA] at hf;simp only [bD4,aT,dX] at hg;obtain ⟨⟨⟨hop,hl⟩,hnm⟩,hn⟩:=hf;have hm:=HK hop;intro r ks hs hk
  by_cases h1:op=1
  ·subst h1;rw [aM rfl,aA] at hn
   have e1:Ex.text (.mk 1 nm n args)=Lib.decDigits n.toInt.toNat:=by
    rw [Ex.text,txt,aM rfl,Lib.itoa,aD (by omega)]
   have e2:ktE (.mk 1 nm n args)=[(3,Lib.decDigits n.toInt.toNat)]:=by
    rw [ktE,ktx,aM rfl,Lib.itoa,aD (by omega)]
   rw [e1,e2];exact ⟨.nu cK1 hs hk,cA4⟩
  rw [aD h1,aA] at hn;obtain rfl:=XJ hn
  by_cases hb:op∈([11,12,13,14,15,16,17,18,19,20,21,22,23]:List UInt8)
  ·obtain ⟨b1,_,_,_,_,_,_,g1,g2,g3,g4,g5,g6,g7⟩:=zP op hb;obtain ⟨a,b,rfl⟩:=zS (l:=args) (by omega)
   have e1:Ex.text (.mk op nm 0 [a,b])=opT (aA5 (eK op).lv) (a.lv,a.text)++(eK op).tx++opT ((eK op).lv+1) (b.lv,b.text):=by
    rw [Ex.text,txt,aD g1,aD (by simp [g2,g3]),aD (by simp [g4,g5]),aD (by simp [g6,g7]),aD (by omega)]
    rfl
   rw [e1,UD hb];simp only [bW,bL];obtain ⟨k1,_⟩:=(ha b (by simp)).opnd ((eK op).lv+1) hs hk;have k2:=Lx.bin hb k1;refine (ha a (by simp)).opnd (aA5 (eK op).lv) ?_ k2;rw [(bJ6 op hb).1];exact tY
  have hs9:op=2\/op=3\/op=4\/op=5\/op=6\/op=7\/op=8\/op=9\/op=10:=((MR hop).resolve_left h1).resolve_left hb
  have key:∀ a,LxE a->Lx (91::(a.text++93::r)) ((4,[91])::(ktE a++(4,[93])::ks)):=by
   intro a hA;obtain ⟨k1,k2⟩:=hA (93::r) ((4,[93])::ks) aC5 (.sy (by decide) hs.hd hk);exact .sy (by decide) k2 k1
  have hn5:(eK op).nm=true->fB nm=true:=λe=>hg.resolve_left (by rw [e];decide);rcases hs9 with rfl | rfl | rfl | rfl | rfl | rfl | rfl | rfl | rfl
  ·exact ⟨Lx.kw (w:=[116,114,117,101]) (by decide) hs hk,NB (w:=[116,114,117,101]) (by decide)⟩
  ·exact ⟨Lx.kw (w:=[102,97,108,115,101]) (by decide) hs hk,NB (w:=[102,97,108,115,101]) (by decide)⟩
  ·exact ⟨Lx.kw (w:=[110,111,119]) (by decide) hs hk,NB (w:=[110,111,119]) (by decide)⟩
  ·exact ⟨Lx.nm (hn5 rfl) hs hk,LF (hn5 rfl)⟩
  ·obtain ⟨a,rfl⟩:=iW hl;have e1:Ex.text (.mk 6 nm 0 [a])++r=nm++91::(a.text++93::r):=by rw [GU];simp [txt,eK,TU,shapes]
   have e2:ktE (.mk 6 nm 0 [a])++ks=(1,nm)::(4,[91])::(ktE a++(4,[93])::ks):=by
    rw [show ktE (.mk 6 nm 0 [a])=(1,nm)::(4,[91])::(ktE a++[(4,[93])]) from rfl];simp
   rw [e1,e2];exact ⟨.nm (hn5 rfl) UT (key a (ha a (by simp))),LF (hn5 rfl)⟩
  ·obtain ⟨a,rfl⟩:=iW hl;have e1:Ex.text (.mk 7 nm 0 [a])++r=[104,97,115]++32::(nm++91::(a.text++93::r)):=by rw [GU];simp [txt,eK,TU,shapes]
   have e2:ktE (.mk 7 nm 0 [a])++ks=(2,[104,97,115])::(1,nm)::(4,[91])::(ktE a++(4,[93])::ks):=by
    rw [show ktE (.mk 7 nm 0 [a])=(2,[104,97,115])::(1,nm)::(4,[91])::(ktE a++[(4,[93])]) from rfl];simp
   rw [e1,e2];exact ⟨.kw (by decide) tY (.sp (.nm (hn5 rfl) UT (key a (ha a (by simp))))),NB (by decide)⟩
  ·obtain rfl:=eG hl;have e1:Ex.text (.mk 8 nm 0 [])++r=[115,105,122,101]++32::(nm++r):=by rw [GU];simp [txt,eK,TU,shapes]
   rw [e1];exact ⟨.kw (by decide) tY (.sp (.nm (hn5 rfl) hs hk)),NB (by decide)⟩
  ·obtain ⟨a,rfl⟩:=iW hl;obtain ⟨k1,k2⟩:=(ha a (by simp)).opnd 6 hs hk;have e1:Ex.text (.mk 9 nm 0 [a])++r=45::(opT 6 (a.lv,a.text)++r):=by rw [GU];rfl
   rw [e1];exact ⟨.sy (by decide) k2 k1,gY (by decide)⟩
  ·obtain ⟨a,rfl⟩:=iW hl;obtain ⟨k1,k2⟩:=(ha a (by simp)).opnd 6 hs hk;have e1:Ex.text (.mk 10 nm 0 [a])++r=[110,111,116]++32::(opT 6 (a.lv,a.text)++r):=by rw [GU];rfl
   rw [e1];exact ⟨.kw (by decide) tY (.sp k1),NB (by decide)⟩
theorem Lx.nl {k:List Kt} (h:Lx r k):Lx (10::r) k:=.blk (by decide) h
theorem Lx.spT {r:Str} {k:List Kt}:∀ (n:Nat),Lx r k->Lx (spT n++r) k
 | 0,h=>h
 | n+1,h=>by
  rw [Go.Proofs.YtidclioghdbphaaGreatDoor.spT,bW];exact Lx.spT n (.sp (.sp h))
theorem Lx.line {parts:List Str} {k:List Kt} (h:Lx (parts.flatten++10::r) k):Lx (vX n parts++r) k:=by
 unfold vX;rw [bW,bW];exact .spT n h
theorem Lx.to {k:List Kt} (h:Lx r k):Lx (45::62::r) ((4,[45,62])::k):=.tok (x:=(4,[45,62])) (aF9 (by decide)) h
theorem aL9 (hw:fB w=true) (hr:∀ d,r.head? = some d->iR d=false):Tok (1,w) r:=by
 obtain ⟨h1,h2,h3,h4,h5⟩:=yR hw
 match w,h1 with
 | c::t,h1 =>
  have hlb:=LG c h2;have hp:pre iR ((c::t)++r)=(c::t).length:=AL h3 hr;refine ⟨h1,?_,pF hlb.1 (λe=>hlb.2.1 e.1),(show (1:UInt8)≠5 by decide),(by show (c::t).length<=1000000;omega)⟩;show bM ((c::t)++r)=(1,(c::t).length);unfold bM;simp only;rw [show ((c::t)++r).headD 0=c from rfl,show nG c=true from h2,aM rfl,hp,jV,h4,aD (by decide),aM h5]
theorem Lx.nm2 {k:List Kt} (hw:fB w=true) (hr:∀ d,r.head? = some d->iR d=false) (h:Lx r k):Lx (w++r) ((1,w)::k):=.tok (x:=(1,w)) (aL9 hw hr) h
def LxI (t:Str) (k:List Kt):Prop:=∀ r ks,wD r->Lx r ks->Lx (t++r) (k++ks)/\hdB (t++r)
theorem LxI.one {t:Str} {k:List Kt} (h:LxI t k) (hr:wD r) (l:Lx r ks):Lx (t++r) (k++ks):=(h r ks hr l).1
theorem LxI.nm (h:fB w=true):LxI w [(1,w)]:=λr ks hr l=>⟨.nm h hr l,LF h⟩
theorem LxI.ex (h:Ex.all uN e=true) (hq:Ex.all bD4 e=true):LxI e.text (ktE e):=cA9 e h hq
theorem aI3 {α:Type} {tx:α->Str} {g:α->List Kt}:∀ (l:List α) (r:Str) (ks:List Kt),(∀ a∈l,LxI (tx a) (g a))->wD r->Lx r ks->Lx (Lib.joinTail [44,32] (l.map tx)++r) (aQ8 (l.map g)++ks)/\wD (Lib.joinTail [44,32] (l.map tx)++r)
 | [],r,ks,_,hr,h=>⟨h,hr⟩
 | a::l,r,ks,hl,hr,h=>by
  obtain ⟨h1,h2⟩:=aI3 l r ks (λb hb=>hl b (cI _ hb)) hr h;have h3:=hl a (bQ ..) _ _ h2 h1;unfold Lib.joinTail aQ8 at *;simp only [eT,nN,bL,bW,dB];exact ⟨.sy (by decide) (gY (by decide)) (.sp h3.1),oM (by decide)⟩
theorem aI4 {α:Type} {tx:α->Str} {g:α->List Kt} {l:List α} (hl:∀ a∈l,LxI (tx a) (g a)) (hr:hdB r) (h:Lx r ks):Lx (40::(aI5 (l.map tx)++41::r)) (XB (l.map g)++ks):=by
 have h0:Lx (41::r) ((4,[41])::ks):=.sy (by decide) hr h;unfold XB aI5;cases l with
 | nil=>exact .sy (by decide) (gY (by decide)) h0
 | cons a l =>
  simp only [eT,Lib.join_cons,bZ0,bL,bW,dB];obtain ⟨h1,h2⟩:=aI3 l (41::r) _ (λb hb=>hl b (cI _ hb)) aC2 h0;obtain ⟨h3,h4⟩:=hl a (bQ ..) _ _ h2 h1;exact .sy (by decide) h4 h3
def LxS (s:Sm):Prop:=∀ n r ks,Lx r ks->Lx (Sm.text n s++r) (ktS s++ks)
def LxB (l:List Sm):Prop:=∀ n r ks,Lx r ks->Lx (Sm.texts n l++r) (xS l++ks)
theorem LxB.of:∀ {l:List Sm},(∀ s∈l,LxS s)->LxB l
 | [],_=>λn r ks h=>by rw [Sm.texts,xS];exact h
 | s::l,hs=>λn r ks h=>by
  rw [Sm.texts,xS,bW,bW];exact hs s (bQ ..) n _ _ (LxB.of (λa ha=>hs a (cI _ ha)) n r ks h)
theorem EO {k:List Kt} (hw:w∈words) (h:Lx r k):Lx (w++32::r) ((2,w)::k):=.kw hw tY (.sp h)
theorem UB (h:Lx r ks):Lx (vX n [[125]]++r) ((4,[125])::ks):=.line (.sy (by decide) (gY (by decide)) (.nl h))
theorem bD5 {el:List Sm} (hb:LxB el) {first:Str} {k:List Kt} (hf:LxI first k) (h:Lx r ks) :
 Lx (aK0 n first (decide (el.length=0)) (Sm.texts (n+1) el)++r) (k++((if decide (el.length=0)=true then [(4,[59])] else (2,[101,108,115,101])::(4,[123])::(xS el++[(4,[125])]))++ks)):=by
 unfold aK0
 split
 ·refine .line ?_;simp only [nN,wO,dO,bW,bL,dB];exact hf.one (oM (by decide)) (.sy (by decide) (gY (by decide)) (.nl h))
 ·simp only [bW];refine .line ?_;simp only [nN,wO,dO,bW,bL,dB];exact hf.one tY (.sp (EO (w:=[101,108,115,101]) (by decide) (.sy (by decide) (gY (by decide)) (.nl (hb _ _ _ (UB h))))))
theorem LxI.app {t t2:Str} {k k2:List Kt} (h:LxI t k) (h2:∀ r ks,wD r->Lx r ks->Lx (t2++r) (k2++ks)/\wD (t2++r)):LxI (t++t2) (k++k2):=λr ks hr l=>by
 rw [bW,bW];obtain ⟨h3,h4⟩:=h2 r ks hr l;exact h _ _ h4 h3
theorem LxI.kw (hw:w∈words) {t:Str} {k:List Kt} (h:LxI t k):LxI (w++32::t) ((2,w)::k):=λr ks hr l=>by
 rw [bW];exact ⟨EO hw (h r ks hr l).1,NB hw⟩
theorem LxI.eq {t t2:Str} {k k2:List Kt} (h:LxI t k) (h2:LxI t2 k2):LxI (t++([32,32,61,32].drop 1++t2)) (k++(4,[61])::k2):=h.app λr ks hr l =>
 ⟨.sp (.sy (by decide) (gY (by decide)) (.sp (h2.one hr l))),tY⟩
theorem cB0 {s:Sm} (h:FmS s) (hn:HO s=true) (hb:∀ nm hd kd ex th el,s=.mk kd nm hd ex th el->LxB th/\LxB el):LxS s:=by
 intro n r ks hk;cases h with
 | @k1 nm a ha =>
  simp only [HO,aC] at hn;have h1:fB nm=true:=by simpa [tB,MS,KJ] using hn.1.1
  have h2:=LxI.ex ha (jF (bQ ..) hn.2);refine .line ?_;rw [xT];simp [stK];exact .nm h1 tY<|.sp<|.sy (by decide) (gY (by decide))<|.sp<|h2.one (oM (by decide))<|.sy (by decide) (gY (by decide)) (.nl hk)
 | @k2 nm a b ha hb2 =>
  simp only [HO,aC] at hn;have h1:fB nm=true:=by simpa [tB,MS,KJ] using hn.1.1
  have h2:=LxI.ex ha (jF (by simp) hn.2);have h3:=LxI.ex hb2 (jF (by simp) hn.2);refine .line ?_;rw [xT];simp [stK];have h4:=h3.one (oM (by decide))<|Lx.sy (c:=59) (by decide) (gY (by decide)) (.nl hk)
  obtain ⟨h5,h6⟩:=h2 _ _ aC5<|Lx.sy (c:=93) (by decide) (gY (by decide))<|.sp<|.sy (c:=61) (by decide) (gY (by decide))<|.sp h4
  exact .nm h1 UT<|.sy (by decide) h6 h5
 | @k3 nm a ha =>
  simp only [HO,aC] at hn;have h1:fB nm=true:=by simpa [tB,MS,KJ] using hn.1.1
  have h2:=LxI.ex ha (jF (by simp) hn.2);refine .line ?_;rw [xT];simp [stK];obtain ⟨h5,h6⟩:=h2 _ _ aC5<|Lx.sy (c:=93) (by decide) (gY (by decide))<|.sy (c:=59) (by decide) (gY (by decide)) (.nl hk)
  exact EO (w:=[100,101,108,101,116,101]) (by decide)<|.nm h1 UT<|.sy (by decide) h6 h5
 | @k4 a th el ha =>
  obtain ⟨b1,b2⟩:=hb _ _ _ _ _ _ rfl;simp only [HO,aC] at hn;have h2:=LxI.ex ha (jF (by simp) hn.2);rw [GY,xT]
  by_cases he:el.length=0
  ·simp [stT,stK,he];refine .line ?_;simp;exact EO (w:=[105,102]) (by decide)<|h2.one tY<|.sp<|.sy (by decide) (gY (by decide))<|.nl<|b1 _ _ _<|UB hk
  ·have he2:¬ el=[]:=λe=>he (by rw [e];rfl);simp [stT,stK,he2];refine .line ?_;simp;exact EO (w:=[105,102]) (by decide)<|h2.one tY<|.sp<|.sy (by decide) (gY (by decide))<|.nl<|b1 _ _ _<|.line<|.sy (by decide) (gY (by decide))<|.sp<|EO (w:=[101,108,115,101]) (by decide)<|.sy (by decide) (gY (by decide))<|.nl<|b2 _ _ _<|UB hk
 | @k5 a th ha =>
  obtain ⟨b1,b2⟩:=hb _ _ _ _ _ _ rfl;simp only [HO,aC] at hn;have h2:=LxI.ex ha (jF (by simp) hn.2);rw [GY,xT];simp [stT,stK];refine .line ?_;simp;exact EO (w:=[119,104,105,108,101]) (by decide)<|h2.one tY<|.sp<|.sy (by decide) (gY (by decide))<|.nl<|b1 _ _ _<|UB hk
 | @k6 nm hd l hl =>
  simp only [HO,aC] at hn;have h1:fB nm=true:=by simpa [tB,MS,KJ] using hn.1.1
  have h2:fB hd=true:=by simpa [tB,MS,KJ] using hn.1.2
  refine .line ?_;rw [xT];simp [stK];exact EO (w:=[115,101,110,100]) (by decide)<|.nm2 h1 (λd e=>by cases e;rfl)<|.sy (by decide) (LF h2)<|.nm h2 (oM (by decide))<|aI4 (λa ha=>.ex (hl a ha) (jF ha hn.2)) (gY (by decide))<|.sy (by decide) (gY (by decide)) (.nl hk)
 | @k7 hd a l ha hl =>
  simp only [HO,aC] at hn;have h2:fB hd=true:=by simpa [tB,MS,KJ] using hn.1.2
  have h3:=LxI.ex ha (jF (by simp) hn.2);refine .line ?_;rw [xT];simp [stK];exact EO (w:=[97,102,116,101,114]) (by decide)<|h3.one tY<|.sp<|EO (w:=[100,111]) (by decide)<|.nm h2 (oM (by decide))<|aI4 (λb hb=>.ex (hl b hb) (jF (by simp [hb]) hn.2)) (gY (by decide))<|.sy (by decide) (gY (by decide)) (.nl hk)
 | @k8 a b el ha hb2 =>
  obtain ⟨_,b2⟩:=hb _ _ _ _ _ _ rfl;simp only [HO,aC] at hn;have h2:=LxI.ex ha (jF (by simp) hn.2);have h3:=LxI.ex hb2 (jF (by simp) hn.2);have h4:=bD5 b2 (n:=n) (LxI.kw (w:=[115,116,111,114,101]) (by decide) (h2.eq h3)) hk;rw [GY,xT];simp [stT,stK] at h4|-;exact h4
 | @k9 nm a el ha =>
  obtain ⟨_,b2⟩:=hb _ _ _ _ _ _ rfl;simp only [HO,aC] at hn;have h1:fB nm=true:=by simpa [tB,MS,KJ] using hn.1.1
  have h2:=LxI.ex ha (jF (by simp) hn.2);have h4:=bD5 b2 (n:=n) (LxI.kw (w:=[102,101,116,99,104]) (by decide) ((LxI.nm h1).eq h2)) hk;rw [GY,xT];simp [stT,stK] at h4|-;exact h4
 | k10 =>
  refine .line ?_;rw [xT];simp [stK];exact .kw (w:=[115,116,111,112]) (by decide) (oM (by decide))<|.sy (by decide) (gY (by decide)) (.nl hk)
theorem bQ4 (s:Sm):Sm.all UK s=true->Sm.all HO s=true->LxS s:=by
 induction s using Sm.ind with
 | _ kd nm hd ex th el ih1 ih2 =>
  intro h k;rw [TA,aC,aC] at h k;obtain ⟨⟨h1,h2⟩,h3⟩:=h;obtain ⟨⟨k1,k2⟩,k3⟩:=k;refine cB0 (QY h1) k1 λnm' hd' kd' ex' th' el' e=>?_;injection e with _ _ _ _ e1 e2
  subst e1 e2;exact ⟨.of λs hs=>ih1 s hs (pZ hs h2) (pZ hs k2),.of λs hs=>ih2 s hs (pZ hs h3) (pZ hs k3)⟩
theorem LxB.all {l:List Sm} (h:Sm.alls UK l=true) (k:Sm.alls HO l=true):LxB l:=.of λs hs=>bQ4 s (pZ hs h) (pZ hs k)
/-! ### Fleets -/
end Go.Proofs.YtidclioghdbphaaGreatDoor
namespace Go.Proofs.YtidclioghdbphaaGreatDoor
open Go.RowKit Go.Par Go.Sx Tryz
structure Mk where
 ints:Nat
 tables:Nat
 flags:Nat
 own:Nat
 ars:List (List Nat)
 params:Nat
def arN (M:Mk) (c h:Nat):Nat:=(M.ars.getD c []).getD h 0
def arL (M:Mk) (c:Nat):Nat:=(M.ars.getD c []).length
def Mk.at (M:Mk) (k:Nat):Mk:={ M with params:=arN M M.own k }
section
variable {H:Hp}
end
variable {k:Nat}
theorem bE1 {q:Ex->Bool} {l:List Ex} (h:k<l.length) (ha:Ex.alls q l=true):Ex.all q l[k]=true:=by
 cases hb:Ex.all q l[k] with
 | true=>rfl
 | false=>rw [bK4 h hb] at ha;cases ha
theorem aR7 (H:Hp) (k:Nat) (w:World) (hA:Agr H w):Calls prg 170 #[iN k] w λr w'=>r=.returned (.int .i64 (arR k))/\Ext w w':=by
 refine Sx.enter (H:=H) func170 rfl ntmps170 rfl hA ?_;refine .sr<|.aq Z<|.sq<|.bk<|.sm Z<|.yw (.lss Z Z)<|.mv Z<|.e2 (λh6=>?_) (λh6=>?_)
 ·refine .gG<|.gG<|.yw (.pickT Z Z)<|.aq Z<|.cT Z<|.sr<|.az Z<|.bR<|.tR<|?_
  refine y9 Z Z λW s=>⟨?_,s.ext⟩
  first
   | (rw [arR];simp_all <;> omega)
   | (rw [arR];simp_all;omega)
   | (congr 1;congr 1;rw [arR];simp_all <;> omega)
 refine .gy (.move Z)<|.gy (.gtr Z Z)<|.yw (.pickF Z Z)<|.aq Z<|.cd Z (λh3=>?_) (λh3=>?_)
 ·refine .sr<|.az Z<|.bR<|.tR<|?_
  refine y9 Z Z λW s=>⟨?_,s.ext⟩
  first
   | (rw [arR];simp_all <;> omega)
   | (rw [arR];simp_all;omega)
   | (congr 1;congr 1;rw [arR];simp_all <;> omega)
 refine .sm Z<|.yw (.leq Z Z)<|.mv Z<|.e2 (λh13=>?_) (λh13=>?_)
 ·refine .gG<|.gG<|.yw (.pickT Z Z)<|.aq Z<|.cT Z<|.sr<|.az Z<|.bR<|.tR<|?_
  refine y9 Z Z λW s=>⟨?_,s.ext⟩
  first
   | (rw [arR];simp_all <;> omega)
   | (rw [arR];simp_all;omega)
   | (congr 1;congr 1;rw [arR];simp_all <;> omega)
 refine .gy (.move Z)<|.gy (.eql Z Z)<|.yw (.pickF Z Z)<|.aq Z<|.cd Z (λh10=>?_) (λh10=>?_)
 ·refine .sr<|.az Z<|.bR<|.tR<|?_
  refine y9 Z Z λW s=>⟨?_,s.ext⟩
  first
   | (rw [arR];simp_all <;> omega)
   | (rw [arR];simp_all;omega)
   | (congr 1;congr 1;rw [arR];simp_all <;> omega)
 refine .sm Z<|.yw (.eql Z Z)<|.mv Z<|.e2 (λh20=>?_) (λh20=>?_)
 ·refine .gG<|.gG<|.yw (.pickT Z Z)<|.mv Z<|.gG<|.gG<|.yw (.pickT Z Z)<|.mv Z<|.gG<|.gG<|.yw (.pickT Z Z)<|.aq Z<|.cT Z<|.sr<|.az Z<|.bR<|.tR<|?_
  refine y9 Z Z λW s=>⟨?_,s.ext⟩
  first
   | (rw [arR];simp_all <;> omega)
   | (rw [arR];simp_all;omega)
   | (congr 1;congr 1;rw [arR];simp_all <;> omega)
 refine .gy (.move Z)<|.gy (.eql Z Z)<|.yw (.pickF Z Z)<|.mv Z<|.e2 (λh24=>?_) (λh24=>?_)
 ·refine .gG<|.gG<|.yw (.pickT Z Z)<|.mv Z<|.gG<|.gG<|.yw (.pickT Z Z)<|.aq Z<|.cT Z<|.sr<|.az Z<|.bR<|.tR<|?_
  refine y9 Z Z λW s=>⟨?_,s.ext⟩
  first
   | (rw [arR];simp_all <;> omega)
   | (rw [arR];simp_all;omega)
   | (congr 1;congr 1;rw [arR];simp_all <;> omega)
 refine .gy (.move Z)<|.gy (.eql Z Z)<|.yw (.pickF Z Z)<|.mv Z<|.e2 (λh28=>?_) (λh28=>?_)
 ·refine .gG<|.gG<|.yw (.pickT Z Z)<|.aq Z<|.cT Z<|.sr<|.az Z<|.bR<|.tR<|?_
  refine y9 Z Z λW s=>⟨?_,s.ext⟩
  first
   | (rw [arR];simp_all <;> omega)
   | (rw [arR];simp_all;omega)
   | (congr 1;congr 1;rw [arR];simp_all <;> omega)
 refine .gy (.move Z)<|.gy (.eql Z Z)<|.yw (.pickF Z Z)<|.aq Z<|.cd Z (λh17=>?_) (λh17=>?_)
 ·refine .sr<|.az Z<|.bR<|.tR<|?_
  refine y9 Z Z λW s=>⟨?_,s.ext⟩
  first
   | (rw [arR];simp_all <;> omega)
   | (rw [arR];simp_all;omega)
   | (congr 1;congr 1;rw [arR];simp_all <;> omega)
 refine .sk<|.bN<|.tN<|.sr<|.az Z<|?_
 refine y9 Z Z λW s=>⟨?_,s.ext⟩
 first
  | (rw [arR];simp_all <;> omega)
  | (rw [arR];simp_all;omega)
  | (congr 1;congr 1;rw [arR];simp_all <;> omega)
def cF3 (e:Ex):Prop:=Ex.all FI e=true->∀ (H:Hp) (cs:List Value) (w:World),Rep H (dEx .i64 e) cs->Agr H w ->
 Calls prg 39 #[.agg cs.toArray] w λr w'=>∃ x H',Rep H' (dEx .u8 e) x/\r=.returned (.agg x.toArray)/\zT H w H' w'
theorem bH7 (e:Ex):cF3 e:=by
 induction e using Ex.ind with | _ op nm nn args ih
 intro hnr H cs w h hA;rw [BD,aC,QP,aA] at hnr;obtain ⟨p,c,rfl,hs,hnm⟩:=jB h;have hcap:=hs.cap;have hn3:=hnr.1;refine Sx.enter (H:=H) func39 rfl ntmps39 rfl hA ?_;refine .sr<|.bx Z Z Z λb1=>.al kS Z λb2=>?_
 refine Sx.row0 76 4 ?_;refine .ns<|.fA Z eH<|.lD Z bS kP Z<|.yw (.conv Z rU YR (c:=(op.toNat:Nat)) (by have:=op.toNat_lt;simp only [IntKind.wrap,IntKind.signed,IntKind.bits];simp;omega))<|.fA Z nL<|.lD Z cP kP Z<|.fA Z pK<|.lD Z kM kP Z<|.yw (.build Z (OV _ _ _))<|.al kS Z λb3=>.sX .head Z Z gM Z<|.nt<|.sq<|.sr<|.fA Z kZ<|.lD Z gR qP Z<|.yw (.lenSl gP Z)<|.mv Z<|.nt<|.bk<|.lp (X:=Nat × Hp × Value × List Value) [(2,_),(3,_),(15,_),(16,_)] ⟨Z,Z,Z,Z,Jt⟩ [_,_] (λz=>[(17,iN z.1)]) (λz=>z.2.1) (λz=>[.box b3 [.int .u8 op.toNat,bV nm,.int .i64 nn.toInt,z.2.2.1] 76,.row 76 4 z.2.2.1 z.1 z.2.2.2]) (λz=>z.1<=args.length/\HUp w H z.2.1/\eJ z.2.1 4 ((args.take z.1).map (dEx .u8)) z.2.2.2) (λz=>args.length - z.1) (0,H,.slice none 0 0,[]) (λ_ s=>s) ⟨Z,Jt⟩ ⟨by simp,.refl,eJ.nil⟩ λz hC=>?_
 obtain ⟨k,H1,r,xs⟩:=z;dsimp only at hC|-;obtain ⟨hk0,u1,hz⟩:=hC;refine .sr<|.yw (.lss Z Z)<|.nt<|.sq<|.ce Z (λh18=>?_) (λh18=>?_)
 ·have hk:k<args.length:=by omega
  obtain ⟨bE,oE,cE,hpE,rE,lE,mE⟩:=(hs.up u1.up).elem (iL hk);cases hpE;have hnr1:=bE1 hk hnr.2;refine .sk<|.tN<|.sq<|.bk<|.sr<|.yw (.indexSl gP Z Z Z (by omega) (q:=oE+k * 4) Z)<|.yw (.loadMW Z fT mE lE)<|.al nD Z λb5=>.sV .head Z Z mM lE rE.one Z<|.nt<|.fL 5 [(0,0),(1,0),(2,0),(3,1),(4,1)]<|.fA Z eI<|.lD Z dG cR Z<|.yw (.loadW Z fT Hm lE)<|.ct (X:=List Value) SF Z (λW s=>ih _ (bI hk) hnr1 H1 cE W rE s.agr) Z λx2 H2 hc2 u2=>?_
  generalize hx:args[k]=x at hc2;obtain ⟨op2,nm2,n2,zS⟩:=x;obtain ⟨p2,c2,rfl,hs2,hnm2⟩:=jB hc2;refine .bl Z (nY _ _ _ _) Z λb25=>.fn (tl:=[_,_,_]) Z<|.ap (news:=[.int .u8 op2.toNat,bV nm2,.int .i64 n2.toInt,.slice p2 zS.length c2]) vY Z (λ_=>nP) Z (.box Hm z0) Z (by simp [Value.oneCell',bV]) (by simp [maxLen];omega) (by omega) Z λr26 _=>?_
  refine At.ra (.tail _ (.tail _ (.tail _ Hm))) λp26 c26 e26=>?_;exact .fA Z eI<|.st jW Z Z nE (by rw [e26];rfl) (nb Z) Z<|.nl<|.bN<|.tN<|.rg<|.yw (.add Z Z w7)<|.mv Z<|.nt<|.ag (x:=(k,H1,r,xs)) (k+1,H2,r26,xs++[.int .u8 op2.toNat,bV nm2,.int .i64 n2.toInt,.slice p2 zS.length c2]) ⟨Z,Jt⟩ ⟨Z,Z,Z,Z,Jt⟩ (λ_ s=>(s.pick [2,3,4,5] _ Z Z)) ⟨by dsimp only;omega,u1.trans u2,by dsimp only;rw [uT hk,hx,bT];exact (hz.up u2.up).snoc hc2 Z⟩ (by dsimp only;omega)
 obtain rfl:k=args.length:=by omega
 rw [aY] at hz;refine At.ra (.tail _ Hm) λp26 c26 e26=>?_;subst e26;refine .ex<|.eb<|.sr<|.yw (.loadW Z dS Hm Z)<|.sX jW Z Z gM Z<|.nt<|.rt<|?_
 refine At.pm [1,2] [_,_] rfl rfl ?_;refine nB (ds:=args.map (dEx .u8)) (by simp) hz λH3 p3 c3 u3 hr3 hs3=>?_;refine y8 Z (.cell Z dS Hm rfl) λW s=>⟨_,H3,uF hnm hs3,Z,(u1.trans u3).grow s⟩
structure Sp where
 wh:UInt8
 i:UInt8
 nm:UInt8
 n:Int64
 nodes:List Nd
def okE (e:Ex):Bool:=decide (e.depth<=64) && Ex.all FI e
def bP9 (N:Nat):Sm->Bool
 | .mk _ _ _ ex _ _=>decide (ex.length<=N) && ex.all okE
structure okL (N:Nat) (l:List Sm):Prop where
 cnt:Sm.counts l<=N
 dep:Sm.deeps l<=N
 all:Sm.alls (bP9 N) l=true
mutual
theorem bA4 {q q':Sm->Bool} (h:∀ s,q s=true->q' s=true):∀ s,Sm.all q s=true->Sm.all q' s=true
 | .mk kd nm hd ex th el,hh=>by
  rw [TA] at hh|-;simp only [aC] at hh|-;exact ⟨⟨h _ hh.1.1,uU h th hh.1.2⟩,uU h el hh.2⟩
theorem uU {q q':Sm->Bool} (h:∀ s,q s=true->q' s=true):∀ l,Sm.alls q l=true->Sm.alls q' l=true
 | [],_=>rfl
 | s::r,hh=>by
  rw [Sm.alls,aC] at hh|-;exact ⟨bA4 h s hh.1,uU h r hh.2⟩
end
variable {N M:Nat}
theorem IW (h:N<=M):∀ s,bP9 N s=true->bP9 M s=true
 | .mk _ _ _ ex _ _,hh=>by
  simp only [bP9,aC,aA] at hh|-;exact ⟨by omega,hh.2⟩
theorem okL.mono {l:List Sm} (h:okL N l) (k:N<=M):okL M l:=⟨by have:=h.cnt;omega,by have:=h.dep;omega,uU (IW k) l h.all⟩
theorem okL.nil:okL N []:=⟨by simp [Sm.counts],by simp [Sm.deeps],Z⟩
theorem okL.app {a b:List Sm} (h:okL N a) (k:okL M b):okL (N+M) (a++b):=by
 have h2:=h.mono (M:=N+M) (by omega);have k2:=k.mono (M:=N+M) (by omega);refine ⟨?_,?_,?_⟩
 ·rw [oZ];have:=h.cnt;have:=k.cnt;omega
 ·rw [qS];have:=h2.dep;have:=k2.dep;omega
 ·rw [tM,h2.all,k2.all];rfl
theorem okL.len {l:List Sm} (h:okL N l):l.length<=N:=aV (WF l) h.cnt
theorem okL.left {a b:List Sm} (h:okL N (a++b)):okL N a:=by
 obtain ⟨h1,h2,h3⟩:=h;rw [oZ] at h1;rw [qS] at h2;rw [tM,aC] at h3;exact ⟨by omega,by omega,h3.1⟩
theorem okL.right {a b:List Sm} (h:okL N (a++b)):okL N b:=by
 obtain ⟨h1,h2,h3⟩:=h;rw [oZ] at h1;rw [qS] at h2;rw [tM,aC] at h3;exact ⟨by omega,by omega,h3.2⟩
variable {j:Nat}
theorem WC {α:Type} {l:List α} (h:j<l.length):l=l.take j++([l[j]]++l.drop (j+1)):=by simp
theorem bY9 {α:Type} {l:List α} (h:j<l.length) (s:α):l.set j s=l.take j++([s]++l.drop (j+1)):=by
 rw [List.set_eq_take_append_cons_drop,aM h];rfl
theorem okL.at {l:List Sm} (h:okL N l) (hj:j<l.length):okL N [l[j]]:=by
 have h2:=h;rw [WC hj] at h2;exact h2.right.left
theorem okL.put {l:List Sm} (h:okL N l) (hj:j<l.length) {s:Sm} (k:okL (N+M) [s]):okL (N+(N+M)) (l.set j s):=by
 have h2:=h;rw [WC hj] at h2
 have h3:okL N (l.take j++l.drop (j+1)):=by
  obtain ⟨a1,a2,a3⟩:=h2;simp only [oZ,qS,tM,aC] at a1 a2 a3;refine ⟨?_,?_,?_⟩
  ·rw [oZ];omega
  ·rw [qS];omega
  ·rw [tM,a3.1,a3.2.2];rfl
 rw [bY9 hj];obtain ⟨a1,a2,a3⟩:=h3;obtain ⟨b1,b2,b3⟩:=k;rw [oZ] at a1;rw [qS] at a2;rw [tM,aC] at a3;have m1:=IW (N:=N) (M:=N+(N+M)) (by omega);have m2:=IW (N:=N+M) (M:=N+(N+M)) (by omega);refine ⟨?_,?_,?_⟩
 ·rw [oZ,oZ];omega
 ·rw [qS,qS];omega
 ·rw [tM,tM,uU m1 _ a3.1,uU m2 _ b3,uU m1 _ a3.2];rfl
structure bQ0 (N:Nat) (h:Hd):Prop where
 ps:h.ps.length<=N
 body:okL N h.body
theorem bQ0.mono {h:Hd} (k:bQ0 N h) (l:N<=M):bQ0 M h:=⟨by have:=k.ps;omega,k.body.mono l⟩
structure aO1 (N:Nat) (v:List Hd):Prop where
 len:v.length<=N
 all:∀ h∈v,bQ0 N h
theorem aO1.mono {v:List Hd} (k:aO1 N v) (l:N<=M):aO1 M v:=⟨by have:=k.len;omega,λh m=>(k.all h m).mono l⟩
theorem aO1.nil:aO1 N []:=⟨by simp,λ_ h=>by cases h⟩
structure bQ1 (N:Nat) (c:Cp):Prop where
 vars:c.vars.length<=N
 vers:c.vers.length<=N
 all:∀ v∈c.vers,aO1 N v
theorem bQ1.mono {c:Cp} (k:bQ1 N c) (l:N<=M):bQ1 M c:=⟨by have:=k.vars;omega,by have:=k.vers;omega,λv m=>(k.all v m).mono l⟩
structure cA2 (N:Nat) (f:Ft):Prop where
 flags:f.flags.length<=N
 links:f.links.length<=N
 comps:f.comps.length<=N
 pos:0<f.comps.length
 all:∀ c∈f.comps,bQ1 N c
theorem cA2.mono {f:Ft} (k:cA2 N f) (l:N<=M):cA2 M f:=⟨by have:=k.flags;omega,by have:=k.links;omega,by have:=k.comps;omega,k.pos,λc m=>(k.all c m).mono l⟩
def okD (D:Nat) (e:Ex):Prop:=e.depth<=D/\Ex.all FI e=true
variable {e:Ex}
theorem okD.mono {D D':Nat} (h:okD D e) (k:D<=D'):okD D' e:=⟨aV h.1 k,h.2⟩
def wfE (D:Nat) (e:Ex):Prop:=e.depth<=D/\Ex.all uN e=true/\Ex.all bD4 e=true
theorem wfE.mono {D D':Nat} (h:wfE D e) (k:D<=D'):wfE D' e:=⟨aV h.1 k,h.2⟩
def e0:Ex:=.mk 4 [] 0 []
structure cF1 (M:Mk):Prop where
 i0:0<M.ints
 i3:M.ints<=3
 p2:M.params<=2
 f2:M.flags<=2
 a3:M.ars.length<=3
 a0:0<M.ars.length
 ar2:∀ c h,arN M c h<=2
 al:∀ c,c<M.ars.length->0<arL M c/\arL M c<=3
 own:M.own<M.ars.length
structure Wf (D lf:Nat) (l:List Sm) (lf':Nat):Prop where
 cnt:Sm.counts l+lf'<=lf
 dep:Sm.deeps l<=D
 frm:Sm.alls UK l=true
 nam:Sm.alls HO l=true
 sma:Sm.alls cG8 l=true
theorem Wf.all {D lf lf':Nat} {l:List Sm} (h:Wf D lf l lf'):Sm.deeps l<=D/\Sm.alls UK l=true/\Sm.alls HO l=true/\Sm.alls cG8 l=true:=⟨h.dep,h.frm,h.nam,h.sma⟩
theorem cF1.at {M:Mk} (h:cF1 M) (k:Nat):cF1 (M.at k):=⟨h.i0,h.i3,h.ar2 _ _,h.f2,h.a3,h.a0,h.ar2,h.al,h.own⟩
structure Sg where
 r:List Tk
 e:Nat
 o:Nat
def cM2 (n:Nat):List Tk->Nat
 | []=>n
 | t::_=>t.o
section
variable {α β:Type}
def up (n:Nat) (g:Pz α) (s:Sg):Sg:=if s.e=0 then (match g s.r with | .ok _ r=>⟨r,s.e,s.o⟩ | .er r c=>⟨r,c,cM2 n r⟩) else s
def vl (g:Pz α) (s:Sg) (x:α):Prop:=s.e=0->∀ a r,g s.r=.ok a r->x=a
def Cz (g:Pz α):Prop:=∀ r r' c,g r=.er r' c->c≠0
theorem Rs.bind_er {x:Rs α} {f:α->List Tk->Rs β} {r:List Tk} {c:Nat} (h:x.bind f=.er r c):x=.er r c\/∃ a q,x=.ok a q/\f a q=.er r c:=by
 cases x with
 | ok a q=>exact .inr ⟨a,q,Z,h⟩
 | er q d=>left;injection h with h1 h2;subst h1;subst h2;rfl
theorem Cz.pure (a:α):Cz (gO a):=λr r' c e=>by cases e
theorem Cz.bind {g:Pz α} {f:α->Pz β} (h:Cz g) (k:∀ a,Cz (f a)):Cz (dJ g f):=λr r' c e=>by
 rcases Rs.bind_er e with e | ⟨a,q,_,e⟩
 ·exact h _ _ _ e
 ·exact k _ _ _ _ e
theorem Cz.nd (w:Str):Cz (gNd w):=λr r' c e=>by
 unfold gNd at e
 split at e
 ·cases e
 ·injection e with _ e;omega
theorem Cz.nm:Cz gNm:=λr r' c e=>by
 unfold gNm at e
 split at e
 ·injection e with _ e;omega
 ·split at e
  ·cases e
  ·injection e with _ e;omega
theorem Cz.nu:Cz gNu:=λr r' c e=>by
 unfold gNu at e
 split at e
 ·injection e with _ e;omega
 ·split at e
  ·split at e
   ·cases e
   ·injection e with _ e;omega
  ·injection e with _ e;omega
theorem Cz.alt {w:Str} {p q:Pz α} (h:Cz p) (k:Cz q):Cz (lP w p q):=λr r' c e=>by
 unfold lP at e
 split at e
 ·exact h _ _ _ e
 ·exact k _ _ _ e
theorem Cz.manyF {w:Str} {p:Pz α} (h:Cz p):∀ f,Cz (AP w p f)
 | 0=>λr r' c e=>by unfold AP at e;injection e with _ e;omega
 | f+1=>.alt (.bind h λ_=>.bind (Cz.manyF h f) λ_=>.pure _) (.pure _)
theorem Cz.many {w:Str} {p:Pz α} (h:Cz p):Cz (BS w p):=λr r' c e=>Cz.manyF h _ _ _ _ e
def ac (w:Str) (s:Sg):Bool:=decide (s.e=0) && isT w s.r
end
theorem bV4:∀ w∈words,nG (w.headD 0)=true/\w.length<=12:=by decide +kernel
theorem cG5:∀ w∈symbols,nG (w.headD 0)=false/\iC (w.headD 0)=false:=by decide +kernel
variable {r w:Str}
theorem WK {c:UInt8} (e:(c::r).take (bM (c::r)).2=w):w.headD 0=c:=by
 have h:=(qC (l:=c::r) (by simp)).1;obtain ⟨k,hk⟩:∃ k,(bM (c::r)).2=k+1:=⟨(bM (c::r)).2 - 1,by omega⟩;rw [hk] at e;subst e
 rfl
theorem bU2 {c:UInt8} (h:iC c=true):nG c=false:=by
 have key:∀ i∈List.range 256,iC (UInt8.ofNat i)=true->nG (UInt8.ofNat i)=false:=by decide +kernel
 have:=key c.toNat (bU.2 c.toNat_lt);rw [iH] at this;exact this h
theorem ZU {m:Str} (h:m≠[]) (hw:w∈words\/w∈symbols) (e:m.take (bM m).2=w):(bM m).1=2\/(bM m).1=4:=by
 match m,h with
 | c::r,_ =>
  have hh:=WK e;cases h1:nG c with
  | true =>
   have hw1:w∈words:=by
    rcases hw with hw | hw
    ·exact hw
    ·have:=(cG5 w hw).1;rw [hh,h1] at this;cases this
   cases h4:words.contains ((c::r).take (pre iR (c::r))) with
   | true=>left;simp only [bM,aH,h1,h4,aU]
   | false =>
    by_cases h5:pre iR (c::r)<=12
    ·simp only [bM,aH,h1,h4,h5,aU,aB,aS] at e;rw [e] at h4;rw [fV.2 hw1] at h4;cases h4
    ·simp only [bM,aH,h1,h4,h5,aU,aB,aS] at e;rw [aY] at e;have h6:=uC iR (c::r);have h7:=(bV4 w hw1).2;rw [<-e] at h7;omega
  | false =>
   have hw1:w∈symbols:=by
    rcases hw with hw | hw
    ·have:=(bV4 w hw).1;rw [hh,h1] at this;cases this
    ·exact hw
   have h4:iC c=false:=by
    have:=(cG5 w hw1).2;rw [hh] at this;exact this
   cases hx:symbols.find? (λx=>x.isPrefixOf (c::r)) with
   | some x=>right;simp only [bM,aH,h1,h4,hx,aB,aS]
   | none =>
    simp only [bM,aH,h1,h4,hx,aB,aS] at e;rw [aY] at e;have:=List.find?_eq_none.1 hx w hw1;rw [<-e] at this;exact absurd (iI.2 (List.prefix_refl _)) this
theorem QH {m:Str} {c0:UInt8} (h:m≠[]) (hc:c0=50\/c0=51) (e:m.take (bM m).2=[c0]):(bM m).1=3:=by
 match m,h with
 | c::r,_ =>
  have hh:c0=c:=WK e;have h4:iC c=true:=by rw [<-hh];rcases hc with rfl | rfl <;> decide
  have h1:=bU2 h4;have h5:pre iC (c::r)=1\/c≠48:=.inr (by rw [<-hh];rcases hc with rfl | rfl <;> decide);simp only [bM,aH,h1,h4,h5,aU,aB,aS]
def Tkg (t:Tk):Prop:=(t.t∈words\/t.t∈symbols->t.k=2\/t.k=4)/\(t.t=[50]\/t.t=[51]->t.k=3)/\t.t≠[]
theorem bV5:∀ (f o:Nat) (m:Str),∀ t∈AD f o m,Tkg t
 | 0,_,_,t,h=>by cases h
 | f+1,o,m,t,h=>by
  by_cases h0:m=[]
  ·rw [h0,oK] at h;cases h
  ·rw [mL h0] at h;rcases bP.1 h with rfl | h
   ·refine ⟨λhw=>ZU h0 hw rfl,λhc=>?_,λe=>?_⟩
    ·rcases hc with hc | hc
     ·exact QH h0 (.inl Z) hc
     ·exact QH h0 (.inr Z) hc
    ·have hb:=qC h0;have h2:=congrArg List.length e;rw [dV] at h2;simp only [aQ] at h2;omega
   ·exact bV5 f _ _ t h
theorem QU (s:Str):∀ t∈nQ s,Tkg t:=bV5 _ _ _
theorem bC4 (l:Str) (c:UInt8):lY (l++[c])=10 * lY l+(c.toNat - 48):=by
 unfold lY;rw [nM]
 rfl
theorem bC3:∀ (r:Str) (v:Nat),v<=r.foldl (λv c=>10 * v+(c.toNat - 48)) v
 | [],v=>aW _
 | c::r,v=>by
  rw [tJ];have:=bC3 r (10 * v+(c.toNat - 48));omega
theorem bQ2 (l r:Str):lY l<=lY (l++r):=by
 unfold lY;rw [nM];exact bC3 r _
theorem QN (t:Str) (i:Nat):lY (t.take i)<=lY t:=by
 have h:=bQ2 (t.take i) (t.drop i);rw [eU] at h;exact h
variable {i:Nat}
theorem QO {t:Str} {c:UInt8} (h:t[i]? = some c):lY (t.take (i+1))=10 * lY (t.take i)+(c.toNat - 48):=by
 rw [List.take_succ,h];exact bC4 _ _
theorem QM:lY []=0:=rfl
def ZE (o:Nat) (m:Str):List Tk:=AD (m.length+1) o m
def wK (m:Str):Nat:=m.length - (eF false m).length
theorem WD (m:Str):wK m<=m.length:=Nat.sub_le _ _
theorem NP (m:Str):m.drop (wK m)=eF false m:=xK false m
theorem aW9 (o:Nat):ZE o []=[]:=oK _ _
theorem PT {o:Nat} {m:Str} (h:m≠[]):ZE o m=⟨(bM m).1,m.take (bM m).2,o⟩::ZE (o+(bM m).2+wK (m.drop (bM m).2)) (m.drop ((bM m).2+wK (m.drop (bM m).2))):=by
 have hr:=qC h;have hs:=nA false (m.drop (bM m).2);rw [cS] at hs;unfold ZE;rw [mL h,<-fC,NP]
 have e:o+(bM m).2+wK (m.drop (bM m).2)=o+(m.length - (eF false (m.drop (bM m).2)).length):=by
  unfold wK;rw [cS];omega
 rw [e,zI _ _ _ _ _ (cY _)];omega
theorem aO7 (s:Str):nQ s=ZE (wK s) (s.drop (wK s)):=by
 unfold ZE nQ;rw [NP];have hs:=nA false s;exact zI _ _ _ _ (by omega) (by omega)
theorem VT:∀ (f o:Nat) (m:Str),(AD f o m).length<=m.length
 | 0,_,_=>by rw [AD];simp
 | f+1,o,m=>by
  by_cases h0:m=[]
  ·subst h0;rw [oK];simp
  ·have hr:=qC h0;have hs:=nA false (m.drop (bM m).2);rw [cS] at hs;rw [mL h0,aK];have:=VT f (o+(m.length - (eF false (m.drop (bM m).2)).length)) (eF false (m.drop (bM m).2));omega
theorem MZ (s:Str):(nQ s).length<=s.length:=aV (VT _ _ _) (nA false s)
theorem u8w {c:UInt8} (h:48<=c.toNat):IntKind.u8.wrap ((c.toNat:Int) - 48)=((c.toNat - 48:Nat):Int):=by
 have key:∀ i∈List.range 256,IntKind.u8.wrap (i:Int)=(i:Int):=by decide +kernel
 rw [show (c.toNat:Int) - 48=((c.toNat - 48:Nat):Int) by omega];exact key _ (bU.2 (by have:=c.toNat_lt;omega))
theorem aK1 {c:UInt8} (h:iC c=true):48<=c.toNat/\c.toNat<=57:=by
 have key:∀ i∈List.range 256,iC (UInt8.ofNat i)=true->48<=i/\i<=57:=by decide +kernel
 exact key c.toNat (bU.2 c.toNat_lt) (by rw [iH];exact h)
def LX (t:Tk):Nat:=if t.k=3 then (if lY t.t<=9223372036854775807 then 0 else 2) else 1
def VL (t:Tk):Nat:=if t.k=3/\lY t.t<=9223372036854775807 then lY t.t else 0
theorem IP {t:Tk} (h:t.k=3) (hn:lY t.t<=9223372036854775807):LX t=0/\VL t=lY t.t:=⟨by unfold LX;rw [aM h,aM hn],by unfold VL;rw [aM ⟨h,hn⟩]⟩
theorem GO {t:Tk} (h:t.k=3) (hn:¬ lY t.t<=9223372036854775807):LX t=2/\VL t=0:=⟨by unfold LX;rw [aM h,aD hn],by unfold VL;rw [aD (λk=>hn k.2)]⟩
theorem aW8 {t:Tk} (h:¬ t.k=3):LX t=1/\VL t=0:=⟨by unfold LX;rw [aD h],by unfold VL;rw [aD (λk=>h k.1)]⟩
theorem aL7 (t:Tk) (hd:t.k=3->pre iC t.t=t.t.length/\¬ t.t=[]) (hl:t.t.length<=1000000) (w:World) :
 Calls prg 158 #[.agg (cTk .u8 t).toArray] w λr w'=>r=.returned (.tuple #[iN (VL t),iN (LX t)])/\Ext w w':=by
 refine y6 func158 Z ntmps158 Z ?_;refine .sr<|.bx Z Z Z λb1=>.a Z Z<|.aq Z<|.sq<|.sq<|.fL 16 [(0,0),(1,0),(2,0),(3,0),(4,0),(5,0),(6,0),(7,0),(8,0),(9,0),(10,0),(11,0),(12,0),(13,0),(14,0),(15,0)]<|.fA Z jY<|.lD Z oS Hm Z<|.yw (.neq Z Z)<|.mv Z<|.b2 (λh10=>?_) (λh10=>?_)
 ·have hk:¬ t.k=3:=λe=>aJ h10 (by rw [e];rfl);obtain ⟨hv1,hv2⟩:=aW8 hk;refine .gG<|.gG<|.gG<|.yw (.pickT Z Z)<|.mv Z<|.gG<|.gG<|.gG<|.gG<|.gG<|.gG<|.gG<|.fn (tl:=[_]) Z<|.yw (.pickT Z Z)<|.nt<|.cT Z<|.sr<|.a Z Z<|.az Z<|.tR<|?_
  refine y7 Z (.cons (.tmp Z) (.cons (.tmp Z) .nil)) rfl λW s=>⟨?_,s.ext⟩
  first
   | (rw [hv1,hv2];rfl)
   | (rw [hv1,hv2,aY];rfl)
   | (rw [hv1,hv2,aY])
 have hk:t.k=3:=aR.1 (by have:=bD.1 (aO h10);exact Int.ofNat.inj this);obtain ⟨hd1,hd2⟩:=hd hk;have hall:=bC.1 (LB hd1);refine .yg Z Z (.fieldAddr Z lH) Z<|.yg Z Z (.load Z cP Hm Z) Z<|.yg Z Z (.cast (.eqS Z Z) (congrArg Value.bool (aI hd2))) Z<|.yw (.pickF Z Z)<|.mv Z<|.yg Z Z (.fieldAddr Z lH) Z<|.yg Z Z (.load Z cP Hm Z) Z<|.yg Z Z (.call yD Z (λW s=>xN 153 iC BI DM t.t (by omega) W)) Z<|.yg Z Z (.fieldAddr Z lH) Z<|.yg Z Z (.load Z cP Hm Z) Z<|.yg Z Z (.lenS dE Z) Z<|.yg Z Z (.cast (.neq Z Z) (congrArg Value.bool (aI (by rw [hd1];simp)))) Z<|.fn (tl:=[_]) Z<|.yw (.pickF Z Z)<|.nt<|.cF Z<|.sk<|.tN<|.sr<|.aq Z<|.sq<|.sr<|.fA Z lH<|.lD Z cP Hm Z<|.yw (.lenS dE Z)<|.mv Z<|.nt<|.bk<|.lp (X:=Nat) [(1,_),(26,_)] ⟨Z,Z,Jt⟩ [_] (λk=>[(27,iN k),(4,iN (lY (t.t.take k)))]) (λk=>(⟨λ_=>none,0⟩:Hp)) (λk=>[]) (λk=>k<=t.t.length/\lY (t.t.take k)<=9223372036854775807) (λk=>t.t.length - k) 0 (λ_ s=>s) ⟨Z,Z,Jt⟩ ⟨aP _,by simp [QM]⟩ λk hC=>?_
 obtain ⟨hk0,hv0⟩:=hC;refine .sr<|.yw (.lss Z Z)<|.nt<|.sq<|.ce Z (λh28=>?_) (λh28=>?_)
 ·have hlt:k<t.t.length:=by omega
  obtain ⟨c,hc⟩:∃ c,c=t.t[k]:=⟨_,Z⟩;obtain ⟨hc1,hc2⟩:=aK1 (hall c (by rw [hc];exact bI hlt));have hst:lY (t.t.take (k+1))=10 * lY (t.t.take k)+(c.toNat - 48):=QO (by rw [hc];exact List.getElem?_eq_getElem hlt);have hle:=QN t.t (k+1);rw [hst] at hle;refine .sk<|.tN<|.sq<|.bk<|.sm Z<|.a Z Z<|.ns<|.fA Z lH<|.lD Z cP Hm Z<|.mv Z<|.yw (.idxS dE Z Z Z (b:=c) (j:=k) (by rw [hc];exact List.getElem?_eq_getElem hlt))<|.yw (.sub Z Z (u8w hc1))<|.yw (.conv Z rT aL4 (c:=((c.toNat - 48:Nat):Int)) (w6 (by omega)))<|.aq Z<|.sq<|.sm Z<|.mv Z<|.yw (.sub Z Z (c:=((9223372036854775807 - (c.toNat - 48):Nat):Int)) ((w6 (by omega)).trans (by omega)))<|.yw (.quo Z Z (by decide) (c:=(((9223372036854775807 - (c.toNat - 48)) / 10:Nat):Int)) (by rw [pC (by omega)];exact (w6 (by omega)).trans (by omega)))<|.yw (.gtr Z Z)<|.nt<|.ce Z (λh40=>?_) (λh40=>?_)
  ·obtain ⟨hv1,hv2⟩:=GO hk (show ¬ lY t.t<=9223372036854775807 by omega);refine .sr<|.a Z Z<|.az Z<|.tR<|.bR<|.tR<|.tR<|.bR<|.tR<|?_
   refine y7 Z (.cons (.tmp Z) (.cons (.tmp Z) .nil)) rfl λW s=>⟨?_,s.ext⟩
   first
    | (rw [hv1,hv2];rfl)
    | (rw [hv1,hv2,aY];rfl)
    | (rw [hv1,hv2,aY])
  have hb:10 * lY (t.t.take k)+(c.toNat - 48)<=9223372036854775807:=by omega
  exact .sk<|.tN<|.rg<|.mv Z<|.yw (.mul Z Z (c:=((10 * lY (t.t.take k):Nat):Int)) ((w6 (by omega)).trans (by omega)))<|.mv Z<|.yw (.add Z Z (c:=((10 * lY (t.t.take k)+(c.toNat - 48):Nat):Int)) ((w6 (by omega)).trans (by omega)))<|.a Z Z<|.nl<|.bN<|.tN<|.rg<|.yw (.add Z Z w7)<|.mv Z<|.nt<|.ag (k+1) ⟨Z,by rw [hst];rfl,Jt⟩ ⟨Z,Z,Jt⟩ (λ_ s=>s) ⟨by omega,by rw [hst];omega⟩ (by omega)
 obtain rfl:k=t.t.length:=by omega
 rw [aY] at hv0;obtain ⟨hv1,hv2⟩:=IP hk hv0;refine .ex<|.eb<|.sm Z<|.a Z Z<|.az Z<|?_
 refine y7 Z (.cons (.tmp Z) (.cons (.tmp Z) .nil)) rfl λW s=>⟨?_,s.ext⟩
 first
  | (rw [hv1,hv2];rfl)
  | (rw [hv1,hv2,aY];rfl)
  | (rw [hv1,hv2,aY])
variable {H:Hp} {l:Tks} {tp:Option Addr} {tc:Nat} {q:Rq}
theorem bY3 (K:Tkf H l tp tc) (hq:q.i<l.length):(tkf l q.i).k=3->pre iC (tkf l q.i).t=(tkf l q.i).t.length/\¬ (tkf l q.i).t=[]:=K.num _ (SR hq)
variable {n:Nat}
theorem UG (h:n<=9223372036854775807):(Int64.ofNat n).toInt=(n:Int):=by
 rw [jL (by omega)]
theorem aI0:0<=(q.nbV l).toInt/\(q.nbV l).toInt<=9223372036854775807:=by
 unfold Rq.nbV
 split
 ·rename_i h;rw [aC] at h;have h2:=aJ h.2;rw [UG h2];omega
 ·decide
variable {w0 W:World} {bs:List Res} {ro rv:Value} {bd:Bool}
theorem xP {b:Nat} {rd dn:Bool} (K:Tkf H l tp tc) (hq:q.i<l.length) (s:St H w0 (.box b [.slice tp l.length tc,iN q.i,ro,rv,.bool rd,.bool dn,.bool bd,iN q.off,iN q.er] 102::bs) W) :
 Calls prg 110 #[.pointer (some ⟨b,0,none⟩)] W λe W'=>∃ _:Unit,(True)/\e=.returned (.int .i64 (q.nbV l).toInt)/\St H w0 (.box b [.slice tp l.length tc,iN ((q.nbS l).i),ro,rv,.bool rd,.bool dn,.bool bd,iN ((q.nbS l).off),iN ((q.nbS l).er)] 102::bs) W':=by
 have hcap:=K.rep.cap;refine fN func110 rfl ntmps110 rfl s ?_;refine .sr<|.aq Z<|.sq<|.sm Z<|.nC Z<|.fA Z jM<|.lD Z rL Hm Z<|.yw (.neq Z Z)<|.mv Z<|.b2 (λh10=>?_) (λh10=>?_)
 ·have hbad:¬ q.nbB l=true:=λe=>by have:=(IY e).1;simp [this] at h10
  have e1:q.nbS l=q.fail l 8:=by unfold Rq.nbS;rw [aD hbad]
  have e2:q.nbV l=0:=by unfold Rq.nbV;rw [aD (λe=>hbad (by rw [aC] at e;exact e.1))]
  rw [e1,e2];refine .gG<|.gG<|.gG<|.gG<|.yw (.pickT Z Z)<|.nt<|.cT Z<|.sm Z<|.cs (X:=Unit) jG Z (λW s=>qZ K hq 8 (s.p1_1 [0] Z)) Z λ_ _=>.ns<|.az Z<|.tR<|?_
  refine y9 Z Z λW s=>?_;exact ⟨(),Jt,Z,s.p1_1 [0] rfl⟩
 have h0:q.er=0:=by have:=aO h10;omega
 refine .gy (.move Z)<|.gd Z Z<|.cs (X:=Unit) tP Z (λW s=>yL K hq  (s.p1_1 [0] Z)) Z λ_ _=>.gy (.fld Z (aB3 _ _ _))<|.gy (.neq Z Z)<|.yw (.pickF Z Z)<|.nt<|.cd Z (λh15=>?_) (λh15=>?_)
 ·have hbad:¬ q.nbB l=true:=λe=>by have:=(IY e).2;simp [this] at h15
  have e1:q.nbS l=q.fail l 8:=by unfold Rq.nbS;rw [aD hbad]
  have e2:q.nbV l=0:=by unfold Rq.nbV;rw [aD (λe=>hbad (by rw [aC] at e;exact e.1))]
  rw [e1,e2];refine .sm Z<|.cs (X:=Unit) jG Z (λW s=>qZ K hq 8 (s.p1_1 [0] Z)) Z λ_ _=>.ns<|.az Z<|.tR<|?_
  refine y9 Z Z λW s=>?_;exact ⟨(),Jt,Z,s.p1_1 [0] rfl⟩
 have hk:(tkf l q.i).k=3:=aR.1 (by have:=aO h15;show (tkf l q.i).k.toNat=3;omega);have hok:q.nbB l=true:=by unfold Rq.nbB;rw [aF h0,aF hk];rfl
 refine .sk<|.tN<|.sm Z<|.cs (X:=Unit) tP Z (λW s=>yL K hq  (s.p1_1 [0] Z)) Z λ_ _=>.yw (.call aD5 Z λW s=>aL7 (tkf l q.i) (bY3 K hq) (aV (K.short _ (SR hq)) (by decide)) W)<|.mv Z<|.yw (.extract Z Z)<|.yw (.extract Z Z)<|.a Z Z<|.aq Z<|.sq<|.sm Z<|.yw (.neq Z Z)<|.nt<|.ce Z (λh25=>?_) (λh25=>?_)
 ·have hv:¬ lY (tkf l q.i).t<=9223372036854775807:=λe=>by rw [(IP hk e).1] at h25;omega
  obtain ⟨v1,v2⟩:=GO hk hv;have e1:q.nbS l=q.fail l (LX (tkf l q.i)):=by rw [v1];unfold Rq.nbS;rw [aM hok,aD (by unfold Rq.fit;rw [aI hv];decide)]
  have e2:q.nbV l=0:=by unfold Rq.nbV;rw [aD (by unfold Rq.fit;rw [aI hv,Bool.and_false];decide)]
  rw [e1,e2];refine .sm Z<|.mv Z<|.cs (X:=Unit) jG Z (λW s=>qZ K hq (LX (tkf l q.i)) (s.p1_1 [0] Z)) Z λ_ _=>?_

  refine .ns<|.az Z<|.tR<|?_
  refine y9 Z Z λW s=>?_;exact ⟨(),Jt,Z,s.p1_1 [0] rfl⟩
 have hv:lY (tkf l q.i).t<=9223372036854775807:=Classical.byContradiction λe=>by rw [(GO hk e).1] at h25;omega
 obtain ⟨v1,v2⟩:=IP hk hv;have hf:q.fit l=true:=by unfold Rq.fit;rw [aF hv]
 have e1:q.nbS l=q.nx:=by unfold Rq.nbS;rw [aM hok,aM hf]
 have e2:q.nbV l=Int64.ofNat (lY (tkf l q.i).t):=by unfold Rq.nbV;rw [hok,hf];rfl
 rw [e1,e2,UG hv];have hi:=K.gd.last _ hq (by rw [hk];decide);have hi2:q.nx.i=q.i+1:=rfl;rw [v2];refine .sk<|.tN<|.sm Z<|.nC Z<|.fA Z iE<|.lD Z bS Hm Z<|.yw (.add Z Z (c:=((q.nx.i:Nat):Int)) ((w6 (by omega)).trans (by show _=((q.i+1:Nat):Int);omega)))<|.nC Z<|.fA Z iE<|.st .head Z Z iG Z (nb Z) Z<|.ns<|.mv Z<|.az Z<|?_
 refine y9 Z Z λW s=>?_;exact ⟨(),Jt,Z,s.p1_1 [0] rfl⟩
theorem MN {b:Nat} {rd dn:Bool} (K:Tkf H l tp tc) (hq:q.i<l.length) (op:UInt8) (s:St H w0 (.box b [.slice tp l.length tc,iN q.i,ro,rv,.bool rd,.bool dn,.bool bd,iN q.off,iN q.er] 102::bs) W) :
 Calls prg 112 #[.pointer (some ⟨b,0,none⟩),.int .u8 op.toNat] W λe W'=>∃ _:Unit,(True)/\e=.returned (.agg [.int .u8 op.toNat,bV (q.paN l),bV (q.paF l),.int .i64 0,.int .i64 0,.slice none 0 0,.slice none 0 0].toArray)/\St H w0 (.box b [.slice tp l.length tc,iN ((q.paS l).i),ro,rv,.bool rd,.bool dn,.bool bd,iN ((q.paS l).off),iN ((q.paS l).er)] 102::bs) W':=by
 refine fN func112 rfl ntmps112 rfl s ?_;refine .sr<|.al eS Z λb4=>.ns<|.mv Z<|.mv Z<|.cs (X:=Unit) tC Z (λW s=>FJ K hq  (s.p2_2 [1,0] Z)) Z λ_ _=>.yw (.build Z (wY _ _))<|.al eS Z λb5=>.sX .head Z Z dC Z<|.ns<|.mv Z<|.cs (X:=Unit) nX Z (λW s=>sL K (iB K.gd.last hq) [46] (s.p3_3 [1,0,2] Z)) Z λ_ _=>.ns<|.mv Z<|.cs (X:=Unit) tC Z (λW s=>FJ K (fM K.gd.last (iB K.gd.last hq))  (s.p3_3 [0,1,2] Z)) Z λ_ _=>.fA Z gA<|.st jS Z Z YN Z (nb Z) Z<|.ns<|.yw (.loadW Z cL cR Z)<|.sX jW Z Z dC Z<|.nt<|.rt<|?_
 refine y8 Z (.cell Z cL kP rfl) λW s=>?_;exact ⟨(),Jt,Z,s.p3_1 [0] rfl⟩
theorem LQ {b:Nat} {rd dn:Bool} (K:Tkf H l tp tc) (hq:q.i<l.length) (op:UInt8) (s:St H w0 (.box b [.slice tp l.length tc,iN q.i,ro,rv,.bool rd,.bool dn,.bool bd,iN q.off,iN q.er] 102::bs) W) :
 Calls prg 154 #[.pointer (some ⟨b,0,none⟩),.int .u8 op.toNat] W λe W'=>∃ _:Unit,(True)/\e=.returned (.agg [.int .u8 op.toNat,bV [],bV [],.int .i64 (q.wiA l).toInt,.int .i64 (q.wiB l).toInt,.slice none 0 0,.slice none 0 0].toArray)/\St H w0 (.box b [.slice tp l.length tc,iN ((q.wiS l).i),ro,rv,.bool rd,.bool dn,.bool bd,iN ((q.wiS l).off),iN ((q.wiS l).er)] 102::bs) W':=by
 refine fN func154 rfl ntmps154 rfl s ?_;refine .sr<|.al eS Z λb4=>.ns<|.mv Z<|.yw (.build Z (VD _ _))<|.al eS Z λb5=>.sX .head Z Z dC Z<|.nt<|.sq<|.sm Z<|.cs (X:=Unit) dI Z (λW s=>eQ K hq [91] (s.p3_3 [2,0,1] Z)) Z λ_ _=>.nt<|.cd Z (λh9=>?_) (λh9=>?_)
 ·have a9:Rq.ac l [91] q=true:=h9;rw [lN a9];have e1:q.wiA l=q.nx.nbV l:=by unfold Rq.wiA;rw [aM a9]
  have e2:q.wiB l=((q.nx.nbS l).exS l [44]).nbV l:=by unfold Rq.wiB;rw [aM a9]
  have e3:q.wiS l=(((q.nx.nbS l).exS l [44]).nbS l).exS l [93]:=by unfold Rq.wiS;rw [aM a9]
  rw [e1,e2,e3];refine .sm Z<|.cs (X:=Unit) tD Z (λW s=>xP K (cC K.gd.last hq a9)  (s.p3_3 [0,1,2] Z)) Z λ_ _=>.fA Z fI<|.st jS Z Z iG Z (nb Z) Z<|.ns<|.mv Z<|.cs (X:=Unit) nX Z (λW s=>sL K (tK K.gd.last (cC K.gd.last hq a9)) [44] (s.p3_3 [0,1,2] Z)) Z λ_ _=>.ns<|.mv Z<|.cs (X:=Unit) tD Z (λW s=>xP K (fM K.gd.last (tK K.gd.last (cC K.gd.last hq a9)))  (s.p3_3 [0,1,2] Z)) Z λ_ _=>.fA Z eW<|.st jS Z Z iG Z (nb Z) Z<|.nt<|.rg<|.mv Z<|.cs (X:=Unit) nX Z (λW s=>sL K (tK K.gd.last (fM K.gd.last (tK K.gd.last (cC K.gd.last hq a9)))) [93] (s.p3_3 [0,1,2] Z)) Z λ_ _=>.ns<|.yw (.loadW Z cL cR Z)<|.sX jW Z Z dC Z<|.nt<|.rt<|?_
  refine y8 Z (.cell Z cL kP rfl) λW s=>?_;exact ⟨(),Jt,Z,s.p3_1 [0] rfl⟩
 have a9:Rq.ac l [91] q=false:=h9;rw [lS a9];have e1:q.wiA l=0:=by unfold Rq.wiA;rw [aD (by rw [a9];decide)]
 have e2:q.wiB l=-1:=by unfold Rq.wiB;rw [aD (by rw [a9];decide)]
 have e3:q.wiS l=q:=by unfold Rq.wiS;rw [aD (by rw [a9];decide)]
 rw [e1,e2,e3];refine .sk<|.tN<|.sr<|.yw (.loadW Z cL cR Z)<|.sX jW Z Z dC Z<|.nt<|.rt<|?_
 refine y8 Z (.cell Z cL kP rfl) λW s=>?_;exact ⟨(),Jt,Z,s.p3_1 [0] rfl⟩
theorem aH9 {x:Int64} (h:0<=x.toInt/\x.toInt<=9223372036854775807):IntKind.i64.wrap (0 - x.toInt)=(-x).toInt:=by
 rw [Go.Sx.w64 (by omega) (by omega),Int64.toInt_neg,Int.bmod_eq_of_le (by omega) (by omega)];omega
theorem aK8 {b:Nat} {rd dn:Bool} (K:Tkf H l tp tc) (hq:q.i<l.length) (s:St H w0 (.box b [.slice tp l.length tc,iN q.i,ro,rv,.bool rd,.bool dn,.bool bd,iN q.off,iN q.er] 102::bs) W) :
 Calls prg 180 #[.pointer (some ⟨b,0,none⟩)] W λe W'=>∃ _:Unit,(True)/\e=.returned (.int .i64 (q.boV l).toInt)/\St H w0 (.box b [.slice tp l.length tc,iN ((q.boS l).i),ro,rv,.bool rd,.bool dn,.bool bd,iN ((q.boS l).off),iN ((q.boS l).er)] 102::bs) W':=by
 refine fN func180 rfl ntmps180 rfl s ?_;refine .sr<|.aq Z<|.sq<|.sm Z<|.cs (X:=Unit) dI Z (λW s=>eQ K hq [45] (s.p1_1 [0] Z)) Z λ_ _=>.nt<|.cd Z (λh4=>?_) (λh4=>?_)
 ·have a4:Rq.ac l [45] q=true:=h4;rw [lN a4];have e1:q.boV l=-(q.nx.nbV l):=by unfold Rq.boV;rw [aM a4]
  have e3:q.boS l=q.nx.nbS l:=by unfold Rq.boS;rw [aM a4]
  rw [e1,e3];refine .sm Z<|.cs (X:=Unit) tD Z (λW s=>xP K (cC K.gd.last hq a4)  (s.p1_1 [0] Z)) Z λ_ _=>.yw (.neg Z (c:=(-(q.nx.nbV l)).toInt) (aH9 aI0))<|.az Z<|.tR<|?_
  refine y9 Z Z λW s=>?_;exact ⟨(),Jt,Z,s.p1_1 [0] rfl⟩
 have a4:Rq.ac l [45] q=false:=h4;rw [lS a4];have e1:q.boV l=q.nbV l:=by unfold Rq.boV;rw [aD (by rw [a4];decide)]
 have e3:q.boS l=q.nbS l:=by unfold Rq.boS;rw [aD (by rw [a4];decide)]
 rw [e1,e3];refine .sk<|.tN<|.sm Z<|.cs (X:=Unit) tD Z (λW s=>xP K hq  (s.p1_1 [0] Z)) Z λ_ _=>.az Z<|?_
 refine y9 Z Z λW s=>?_;exact ⟨(),Jt,Z,s.p1_1 [0] rfl⟩
theorem UX {b:Nat} {rd dn:Bool} (K:Tkf H l tp tc) (hq:q.i<l.length) (op:UInt8) (s:St H w0 (.box b [.slice tp l.length tc,iN q.i,ro,rv,.bool rd,.bool dn,.bool bd,iN q.off,iN q.er] 102::bs) W) :
 Calls prg 157 #[.pointer (some ⟨b,0,none⟩),.int .u8 op.toNat] W λe W'=>∃ _:Unit,(True)/\e=.returned (.agg [.int .u8 op.toNat,bV (q.nmV l),bV [],.int .i64 ((q.ama l).boV l).toInt,.int .i64 ((q.amb l).boV l).toInt,.slice none 0 0,.slice none 0 0].toArray)/\St H w0 (.box b [.slice tp l.length tc,iN ((q.amS l).i),ro,rv,.bool rd,.bool dn,.bool bd,iN ((q.amS l).off),iN ((q.amS l).er)] 102::bs) W':=by
 refine fN func157 rfl ntmps157 rfl s ?_;refine .sr<|.al eS Z λb4=>.ns<|.mv Z<|.mv Z<|.cs (X:=Unit) tC Z (λW s=>FJ K hq  (s.p2_2 [1,0] Z)) Z λ_ _=>.yw (.build Z (wY _ _))<|.al eS Z λb5=>.sX .head Z Z dC Z<|.ns<|.mv Z<|.cs (X:=Unit) nX Z (λW s=>sL K (iB K.gd.last hq) [105,110] (s.p3_3 [1,0,2] Z)) Z λ_ _=>.ns<|.mv Z<|.cs (X:=Unit) OB Z (λW s=>aK8 K (fM K.gd.last (iB K.gd.last hq))  (s.p3_3 [0,1,2] Z)) Z λ_ _=>.fA Z fI<|.st jS Z Z iG Z (nb Z) Z<|.ns<|.mv Z<|.cs (X:=Unit) nX Z (λW s=>sL K (BP K.gd.last (fM K.gd.last (iB K.gd.last hq))) [46,46] (s.p3_3 [0,1,2] Z)) Z λ_ _=>.ns<|.mv Z<|.cs (X:=Unit) OB Z (λW s=>aK8 K (fM K.gd.last (BP K.gd.last (fM K.gd.last (iB K.gd.last hq))))  (s.p3_3 [0,1,2] Z)) Z λ_ _=>.fA Z eW<|.st jS Z Z iG Z (nb Z) Z<|.ns<|.yw (.loadW Z cL cR Z)<|.sX jW Z Z dC Z<|.nt<|.rt<|?_
 refine y8 Z (.cell Z cL kP rfl) λW s=>?_;exact ⟨(),Jt,Z,s.p3_1 [0] rfl⟩
theorem UU {c:UInt8} (h:(c.toNat:Int)=32\/(c.toNat:Int)=9\/(c.toNat:Int)=10\/(c.toNat:Int)=13):lQ c=true:=by
 simp only [lQ,aT,aA,<-aR];rcases h with h | h | h | h
 ·exact .inl (.inl (.inl (by show c.toNat=32;omega)))
 ·exact .inl (.inl (.inr (by show c.toNat=9;omega)))
 ·exact .inl (.inr (by show c.toNat=10;omega))
 ·exact .inr (by show c.toNat=13;omega)
theorem sT {c:UInt8} (h:¬ ((c.toNat:Int)=32\/(c.toNat:Int)=9\/(c.toNat:Int)=10\/(c.toNat:Int)=13)):lQ c=false:=by
 cases e:lQ c with
 | false=>rfl
 | true =>
  refine absurd ?_ h;simp only [lQ,aT,aA] at e;rcases e with ((e | e) | e) | e <;> subst e <;> simp
variable {s:Str}
theorem HC {R:Str} (hk:k<s.length) (hb:lQ s[k]=true) (h:eF false (s.drop k)=R):eF false (s.drop (k+1))=R:=by
 rw [fO hk,QE hb] at h;exact h
theorem bN3 {R:Str} (hk:k+1<s.length) (h1:(s[k].toNat:Int)=47) (h2:(s[k+1].toNat:Int)=47) (h:eF false (s.drop k)=R):eF true (s.drop k)=R:=by
 have e1:s[k]=47:=aR.1 (by show s[k].toNat=47;omega);have e2:s[k+1]=47:=aR.1 (by show s[k+1].toNat=47;omega);rw [fO (show k<s.length by omega),fO hk,e1,e2] at h|-;rw [<-QB];exact h
theorem aZ1 {R:Str} (hk:k<s.length) (hb:¬ (s[k].toNat:Int)=10) (h:eF true (s.drop k)=R):eF true (s.drop (k+1))=R:=by
 rw [fO hk,QD (λe=>hb (by rw [e];rfl))] at h;exact h
theorem QA {R:Str} (hk:s.length<=k) (h:eF true (s.drop k)=R):eF false (s.drop k)=R:=by
 rw [iK hk,tL] at h|-;exact h
theorem PZ {R:Str} (hk:k<s.length) (hb:(s[k].toNat:Int)=10) (h:eF true (s.drop k)=R):eF false (s.drop k)=R:=by
 have e1:s[k]=10:=aR.1 (by show s[k].toNat=10;omega);rw [fO hk,e1] at h|-;rw [<-QC];exact h
theorem sQ (hk:k<s.length) (hb:lQ s[k]=false) (h:¬ (s[k].toNat:Int)=47\/¬ k+1<s.length\/∃ h:k+1<s.length,¬ (s[k+1].toNat:Int)=47):eF false (s.drop k)=s.drop k:=by
 rw [fO hk];refine pF hb ?_;rintro ⟨e1,e2⟩;rcases h with h | h | ⟨h0,h⟩
 ·exact h (by rw [e1];rfl)
 ·rw [iK (by omega)] at e2;cases e2
 ·rw [fO h0] at e2;exact h (by rw [bH e2];rfl)
theorem GX (hk:s.length<=k):eF false (s.drop k)=s.drop k:=by rw [iK hk,tL]
theorem lW {R:Str} (hk:k<=s.length) (h:eF false (s.drop k)=R) (h2:eF false (s.drop k)=s.drop k):s.length - R.length=k:=by
 rw [<-h,h2,cS];omega
theorem HD (s:Str) (hl:s.length<=1000000) (o:Nat) (ho:o<=s.length) (w:World) :
 Calls prg 67 #[bV s,iN o] w λr w'=>r=.returned (.int .i64 ((s.length - (eF false (s.drop o)).length:Nat):Int))/\Ext w w':=by
 refine y6 func67 Z ntmps67 Z ?_;refine .sr<|.aq Z<|.sq<|.bk<|.lp (X:=Nat) [(0,_)] ⟨Z,Jt⟩ [] (λk=>[(1,iN k)]) (λk=>(⟨λ_=>none,0⟩:Hp)) (λk=>[]) (λk=>k<=s.length/\eF false (s.drop k)=eF false (s.drop o)) (λk=>s.length - k) o (λ_ s=>s) ⟨Z,Jt⟩ ⟨ho,Z⟩ λk hC=>?_
 obtain ⟨hk0,hC2⟩:=hC;refine .sq<|.sm Z<|.mv Z<|.yw (.lenS dE Z)<|.yw (.lss Z Z)<|.nt<|.ce Z (λh8=>?_) (λh8=>?_)
 ·have hk:k<s.length:=by omega
  refine .sk<|.tN<|.bk<|.sm Z<|.mv Z<|.yw (.idxS dE Z Z Z (b:=s[k]) (j:=k) (List.getElem?_eq_getElem hk))<|.yw (.eql Z Z)<|.mv Z<|.e2 (λh13=>?_) (λh13=>?_)
  ·exact .gG<|.gG<|.gG<|.gG<|.yw (.pickT Z Z)<|.mv Z<|.gG<|.gG<|.gG<|.gG<|.yw (.pickT Z Z)<|.mv Z<|.gG<|.gG<|.gG<|.gG<|.yw (.pickT Z Z)<|.nt<|.cT Z<|.rg<|.mv Z<|.yw (.add Z Z w7)<|.a Z Z<|.nl<|.bN<|.tN<|.ag (k+1) ⟨Z,Jt⟩ ⟨Z,Jt⟩ (λ_ s=>s) ⟨by omega,HC (by omega) (UU (by omega)) hC2⟩ (by first | omega | (have:j≠k:=λe=>by subst e;omega);omega)
  refine .gy (.move Z)<|.gy (.move Z)<|.gy (.idxS dE Z Z Z (b:=s[k]) (j:=k) (List.getElem?_eq_getElem hk))<|.gy (.eql Z Z)<|.yw (.pickF Z Z)<|.mv Z<|.e2 (λh19=>?_) (λh19=>?_)
  ·exact .gG<|.gG<|.gG<|.gG<|.yw (.pickT Z Z)<|.mv Z<|.gG<|.gG<|.gG<|.gG<|.yw (.pickT Z Z)<|.nt<|.cT Z<|.rg<|.mv Z<|.yw (.add Z Z w7)<|.a Z Z<|.nl<|.bN<|.tN<|.ag (k+1) ⟨Z,Jt⟩ ⟨Z,Jt⟩ (λ_ s=>s) ⟨by omega,HC (by omega) (UU (by omega)) hC2⟩ (by first | omega | (have:j≠k:=λe=>by subst e;omega);omega)
  refine .gy (.move Z)<|.gy (.move Z)<|.gy (.idxS dE Z Z Z (b:=s[k]) (j:=k) (List.getElem?_eq_getElem hk))<|.gy (.eql Z Z)<|.yw (.pickF Z Z)<|.mv Z<|.e2 (λh25=>?_) (λh25=>?_)
  ·exact .gG<|.gG<|.gG<|.gG<|.yw (.pickT Z Z)<|.nt<|.cT Z<|.rg<|.mv Z<|.yw (.add Z Z w7)<|.a Z Z<|.nl<|.bN<|.tN<|.ag (k+1) ⟨Z,Jt⟩ ⟨Z,Jt⟩ (λ_ s=>s) ⟨by omega,HC (by omega) (UU (by omega)) hC2⟩ (by first | omega | (have:j≠k:=λe=>by subst e;omega);omega)
  refine .gy (.move Z)<|.gy (.move Z)<|.gy (.idxS dE Z Z Z (b:=s[k]) (j:=k) (List.getElem?_eq_getElem hk))<|.gy (.eql Z Z)<|.yw (.pickF Z Z)<|.nt<|.ce Z (λh30=>?_) (λh30=>?_)
  ·exact .rg<|.mv Z<|.yw (.add Z Z w7)<|.a Z Z<|.nl<|.bN<|.tN<|.ag (k+1) ⟨Z,Jt⟩ ⟨Z,Jt⟩ (λ_ s=>s) ⟨by omega,HC (by omega) (UU (by omega)) hC2⟩ (by first | omega | (have:j≠k:=λe=>by subst e;omega);omega)
  refine .sm Z<|.yw (.add Z Z w7)<|.mv Z<|.yw (.lenS dE Z)<|.yw (.lss Z Z)<|.mv Z<|.e2 (λh38=>?_) (λh38=>?_)
  ·have hk1:k+1<s.length:=by omega
   refine .gy (.move Z)<|.gy (.move Z)<|.gy (.idxS dE Z Z Z (b:=s[k]) (j:=k) (List.getElem?_eq_getElem hk))<|.gy (.eql Z Z)<|.yw (.pickT Z Z)<|.mv Z<|.e2 (λh44=>?_) (λh44=>?_)
   ·refine .gy (.move Z)<|.gy (.move Z)<|.gy (.add Z Z w7)<|.gy (.idxS dE Z Z (by omega) (b:=s[(k+1)]) (j:=(k+1)) (List.getElem?_eq_getElem hk1))<|.gy (.eql Z Z)<|.yw (.pickT Z Z)<|.nt<|.ce Z (λh50=>?_) (λh50=>?_)
    ·refine .bk<|.lp (X:=Nat) [(0,_)] ⟨Z,Jt⟩ [] (λj=>[(1,iN j)]) (λj=>(⟨λ_=>none,0⟩:Hp)) (λj=>[]) (λj=>k<=j/\j<=s.length/\eF true (s.drop j)=eF false (s.drop o)) (λj=>s.length - j) k (λ_ s=>s) ⟨Z,Jt⟩ ⟨by omega,by omega,bN3 (by omega) (by omega) (by omega) hC2⟩ λj hC=>?_
     obtain ⟨hj0,hj1,hC3⟩:=hC;refine .sq<|.sm Z<|.mv Z<|.yw (.lenS dE Z)<|.yw (.lss Z Z)<|.mv Z<|.e2 (λh55=>?_) (λh55=>?_)
     ·have hj:j<s.length:=by omega
      refine .gy (.move Z)<|.gy (.move Z)<|.gy (.idxS dE Z Z Z (b:=s[j]) (j:=j) (List.getElem?_eq_getElem hj))<|.gy (.neq Z Z)<|.yw (.pickT Z Z)<|.nt<|.ce Z (λh60=>?_) (λh60=>?_)
      ·exact .sk<|.tN<|.bk<|.rg<|.mv Z<|.yw (.add Z Z w7)<|.a Z Z<|.nl<|.bN<|.tN<|.ag (j+1) ⟨Z,Jt⟩ ⟨Z,Jt⟩ (λ_ s=>s) ⟨by omega,by omega,aZ1 (by omega) (by omega) hC3⟩ (by omega)
      exact .ex<|.tE<|.tE<|.bE<|.bN<|.tN<|.ag j ⟨Z,Jt⟩ ⟨Z,Jt⟩ (λ_ s=>s) ⟨by omega,by first | exact QA (by omega) hC3 | exact PZ (show j<s.length by omega) (by omega) hC3⟩ (by first | omega | (have:j≠k:=λe=>by subst e;omega);omega)
     exact .gG<|.gG<|.gG<|.gG<|.yw (.pickF Z Z)<|.nt<|.cF Z<|.ex<|.tE<|.tE<|.bE<|.bN<|.tN<|.ag j ⟨Z,Jt⟩ ⟨Z,Jt⟩ (λ_ s=>s) ⟨by omega,by first | exact QA (by omega) hC3 | exact PZ (show j<s.length by omega) (by omega) hC3⟩ (by first | omega | (have:j≠k:=λe=>by subst e;omega);omega)
    refine .sm Z<|.az Z<|.bR<|.tR<|.bR<|.tR<|?_
    refine y9 Z Z λW s=>⟨?_,s.ext⟩
    first
     | (rw [lW hk0 hC2 (sQ hk (sT (by omega)) (.inl (by omega)))])
     | (rw [lW hk0 hC2 (sQ hk (sT (by omega)) (.inr (.inl (by omega))))])
     | (rw [lW hk0 hC2 (sQ hk (sT (by omega)) (.inr (.inr ⟨hk1,by omega⟩)))])
     | (rw [lW hk0 hC2 (GX (by omega))])
   refine .gG<|.gG<|.gG<|.gG<|.gG<|.yw (.pickF Z Z)<|.nt<|.cF Z<|.sm Z<|.az Z<|.bR<|.tR<|.bR<|.tR<|?_
   refine y9 Z Z λW s=>⟨?_,s.ext⟩
   first
    | (rw [lW hk0 hC2 (sQ hk (sT (by omega)) (.inl (by omega)))])
    | (rw [lW hk0 hC2 (sQ hk (sT (by omega)) (.inr (.inl (by omega))))])
    | (rw [lW hk0 hC2 (sQ hk (sT (by omega)) (.inr (.inr ⟨hk1,by omega⟩)))])
    | (rw [lW hk0 hC2 (GX (by omega))])
  refine .gG<|.gG<|.gG<|.gG<|.yw (.pickF Z Z)<|.mv Z<|.gG<|.gG<|.gG<|.gG<|.gG<|.yw (.pickF Z Z)<|.nt<|.cF Z<|.sm Z<|.az Z<|.bR<|.tR<|.bR<|.tR<|?_
  refine y9 Z Z λW s=>⟨?_,s.ext⟩
  first
   | (rw [lW hk0 hC2 (sQ hk (sT (by omega)) (.inl (by omega)))])
   | (rw [lW hk0 hC2 (sQ hk (sT (by omega)) (.inr (.inl (by omega))))])
   | (rw [lW hk0 hC2 (sQ hk (sT (by omega)) (.inr (.inr ⟨hk1,by omega⟩)))])
   | (rw [lW hk0 hC2 (GX (by omega))])
 obtain rfl:k=s.length:=by omega
 refine .ex<|.eb<|.sm Z<|.az Z<|?_
 refine y9 Z Z λW s=>⟨?_,s.ext⟩
 first
  | (rw [lW hk0 hC2 (sQ hk (sT (by omega)) (.inl (by omega)))])
  | (rw [lW hk0 hC2 (sQ hk (sT (by omega)) (.inr (.inl (by omega))))])
  | (rw [lW hk0 hC2 (sQ hk (sT (by omega)) (.inr (.inr ⟨hk1,by omega⟩)))])
  | (rw [lW hk0 hC2 (GX (by omega))])
theorem PC (H:Hp) (w:World) (hA:Agr H w):Calls prg 126 #[] w λr w'=>∃ (b:Nat) (H':Hp),kU H' b 0 (words.map bV)/\r=.returned (.slice (some ⟨b,0,none⟩) 39 39)/\zT H w H' w':=by
 refine Sx.enter (H:=H) func126 rfl ntmps126 rfl hA ?_;refine .sr<|.a Z Z<|.ns<|.bl Z (YT _ _ _ _ _ _ _ _ _ _ _ _ _ _ _ _ _ _ _ _ _ _ _ _ _ _ _ _ _ _ _ _ _ _ _ _ _ _ _) Z λb1=>?_
 refine rR λH1 u1 m1=>?_;refine .az Z<|?_
 exact y9 Z Z λW s=>⟨b1,H1,m1,Z,u1.grow s⟩
theorem SV (H:Hp) (w:World) (hA:Agr H w):Calls prg 127 #[] w λr w'=>∃ (b:Nat) (H':Hp),kU H' b 0 (symbols.map bV)/\r=.returned (.slice (some ⟨b,0,none⟩) 25 25)/\zT H w H' w':=by
 refine Sx.enter (H:=H) func127 rfl ntmps127 rfl hA ?_;refine .sr<|.a Z Z<|.ns<|.bl Z (YU _ _ _ _ _ _ _ _ _ _ _ _ _ _ _ _ _ _ _ _ _ _ _ _ _) Z λb1=>?_
 refine rR λH1 u1 m1=>?_;refine .az Z<|?_
 exact y9 Z Z λW s=>⟨b1,H1,m1,Z,u1.grow s⟩
theorem JA {c:UInt8} (h:nG c=true\/iC c=true\/(c.toNat:Int)=95):iR c=true:=by
 simp only [iR,aT,aA];rcases h with h | h | h
 ·exact .inl (.inl h)
 ·exact .inl (.inr h)
 ·exact .inr (by omega)
theorem LE {c:UInt8} (h1:nG c=false) (h2:iC c=false) (h3:¬ (c.toNat:Int)=95):iR c=false:=by
 simp only [iR,oY,jI];exact ⟨⟨h1,h2⟩,by omega⟩
theorem LA {q:UInt8->Bool} {l:Str} (h:k<=pre q l) (hk:¬ k<l.length):k=pre q l:=by
 have:=uC q l;omega
theorem HP (s:Str) (o n:Nat):(s.take (o+n)).drop o=(s.drop o).take n:=by
 rw [uM,jJ]
theorem vU {l x:Str} (h:symbols.find? (λx=>x.isPrefixOf l)=some x):l.take x.length=x:=by
 have h1:=List.find?_some (p:=λ(x:Str)=>x.isPrefixOf l) h;obtain ⟨t,ht⟩:=iI.1 h1;rw [<-ht,jV]
theorem bL5 {l:Str} (hk:k<39) (h:words.getD k []=l):words.contains l=true:=by
 rw [fV,<-h,AO (show k<words.length from hk)];exact bI _
theorem bL4 {l:Str} (h:∀ j,j<39->words.getD j []≠l):words.contains l=false:=by
 rw [Bool.eq_false_iff,Ne,fV];intro hm;obtain ⟨j,hj,e⟩:=oU.1 hm;exact h j hj (by rw [AO hj];exact e)
theorem bD0 (H:Hp) (s:Str) (hl:s.length<=1000000) (o:Nat) (ho:o<s.length) (w:World) (hA:Agr H w) :
 Calls prg 68 #[bV s,iN o] w λr w'=>r=.returned (.agg [iN ((bM (s.drop o)).1.toNat),bV ((s.drop o).take (bM (s.drop o)).2),iN o].toArray)/\Ext w w':=by
 obtain ⟨l,hm⟩:∃ l,l=s.drop o:=⟨_,Z⟩;rw [<-hm];have hlen:o+l.length=s.length:=by rw [hm,cS];omega
 have hget:∀ k (h:k<l.length),s[o+k]? = some l[k]:=λk h=>by rw [<-List.getElem?_drop,<-hm,List.getElem?_eq_getElem h]
 cases l with
 | nil=>simp only [aQ] at hlen;omega
 | cons c m =>
 have hlen2:(c::m).length=m.length+1:=rfl;refine Sx.enter (H:=H) func68 rfl ntmps68 rfl hA ?_;refine .sr<|.al vB Z λb4=>.ns<|.mv Z<|.aq Z<|.sq<|.sm Z<|.mv Z<|.yw (.idxS dE Z Z Z (b:=c) (j:=o) (by rw [<-kC o];exact hget 0 (by simp)))<|.yw (.call OG Z (λW s=>KD _ W))<|.nt<|.cd Z (λh15=>?_) (λh15=>?_)
 ·refine .cu (X:=Unit) [(0,_),(1,_),(4,_)] ⟨Z,Z,Z,Jt⟩ (λz=>[(5,.int .i64 ((o+pre iR (c::m):Nat):Int))]) (λz=>H) (λz=>[.box b4 [.int .i64 0,.string ⟨#[]⟩,.int .i64 0] 70]) (λz=>True) ?_ λz hC=>?_
  ·
   refine .bk<|.lp (X:=Nat) [(0,_),(1,_),(4,_)] ⟨Z,Z,Z,Jt⟩ [_] (λk=>[(5,.int .i64 ((o+k:Nat):Int))]) (λk=>H) (λk=>[]) (λk=>k<=pre iR (c::m)) (λk=>pre iR (c::m) - k) 0 (λ_ s=>s) ⟨Z,Jt⟩ (by omega) λk hC=>?_
   refine .sq<|.sm Z<|.mv Z<|.yw (.lenS dE Z)<|.yw (.lss Z Z)<|.mv Z<|.e2 (λh20=>?_) (λh20=>?_)
   ·have hk:k<(c::m).length:=by omega
    refine .gy (.move Z)<|.gy (.move Z)<|.gy (.idxS dE Z Z Z (b:=(c::m)[k]) (j:=o+k) (hget k hk))<|.gy (.call OG Z (λW s=>KD _ W))<|.gy (.move Z)<|.b2 (λh25=>?_) (λh25=>?_)
    ·exact .gG<|.gG<|.gG<|.gG<|.gy (.pickT Z Z)<|.gy (.move Z)<|.gG<|.gG<|.gG<|.gG<|.gy (.pickT Z Z)<|.yw (.pickT Z Z)<|.nt<|.cT Z<|.sk<|.tN<|.bk<|.rg<|.mv Z<|.yw (.add Z Z (c:=((o+(k+1):Nat):Int)) ((w6 (by omega)).trans (by omega)))<|.a Z Z<|.nl<|.bN<|.tN<|.ag (k+1) ⟨Z,Jt⟩ ⟨Z,Z,Z,Jt⟩ (λ_ s=>s) (qT hk hC (JA (by first | exact .inl (by assumption) | exact .inr (.inl (by assumption)) | exact .inr (.inr (by omega))))) (by have:=qT hk hC (JA (by first | exact .inl (by assumption) | exact .inr (.inl (by assumption)) | exact .inr (.inr (by omega))));omega)
    refine .gy (.move Z)<|.gy (.move Z)<|.gy (.idxS dE Z Z Z (b:=(c::m)[k]) (j:=o+k) (hget k hk))<|.gy (.call BK Z (λW s=>AJ _ W))<|.gy (.pickF Z Z)<|.gy (.move Z)<|.b2 (λh31=>?_) (λh31=>?_)
    ·exact .gG<|.gG<|.gG<|.gG<|.gy (.pickT Z Z)<|.yw (.pickT Z Z)<|.nt<|.cT Z<|.sk<|.tN<|.bk<|.rg<|.mv Z<|.yw (.add Z Z (c:=((o+(k+1):Nat):Int)) ((w6 (by omega)).trans (by omega)))<|.a Z Z<|.nl<|.bN<|.tN<|.ag (k+1) ⟨Z,Jt⟩ ⟨Z,Z,Z,Jt⟩ (λ_ s=>s) (qT hk hC (JA (by first | exact .inl (by assumption) | exact .inr (.inl (by assumption)) | exact .inr (.inr (by omega))))) (by have:=qT hk hC (JA (by first | exact .inl (by assumption) | exact .inr (.inl (by assumption)) | exact .inr (.inr (by omega))));omega)
    refine .gy (.move Z)<|.gy (.move Z)<|.gy (.idxS dE Z Z Z (b:=(c::m)[k]) (j:=o+k) (hget k hk))<|.gy (.eql Z Z)<|.gy (.pickF Z Z)<|.yw (.pickT Z Z)<|.nt<|.ce Z (λh37=>?_) (λh37=>?_)
    ·exact .sk<|.tN<|.bk<|.rg<|.mv Z<|.yw (.add Z Z (c:=((o+(k+1):Nat):Int)) ((w6 (by omega)).trans (by omega)))<|.a Z Z<|.nl<|.bN<|.tN<|.ag (k+1) ⟨Z,Jt⟩ ⟨Z,Z,Z,Jt⟩ (λ_ s=>s) (qT hk hC (JA (by first | exact .inl (by assumption) | exact .inr (.inl (by assumption)) | exact .inr (.inr (by omega))))) (by have:=qT hk hC (JA (by first | exact .inl (by assumption) | exact .inr (.inl (by assumption)) | exact .inr (.inr (by omega))));omega)
    exact .ex<|.eb<|.me () ⟨(by first | (rw [<-LA hC (by omega)];rfl) | (rw [<-xO hk hC (by first | exact LE (by assumption) (by assumption) (by omega) | assumption)];rfl)),Jt⟩ ⟨Z,Z,Z,Jt⟩ (λ_ s=>s) trivial
   exact .gG<|.gG<|.gG<|.gG<|.gG<|.gV<|.gV<|.gV<|.gV<|.gG<|.gG<|.gV<|.gV<|.gV<|.gV<|.gG<|.yw (.pickF Z Z)<|.nt<|.cF Z<|.ex<|.eb<|.me () ⟨(by first | (rw [<-LA hC (by omega)];rfl) | (rw [<-xO hk hC (by first | exact LE (by assumption) (by assumption) (by omega) | assumption)];rfl)),Jt⟩ ⟨Z,Z,Z,Jt⟩ (λ_ s=>s) trivial
  refine .sm Z<|.mv Z<|.mv Z<|.yw (.cast (.midS dE Z Z Z Z Z (by omega) (by have:=uC iR (c::m);omega)) (by rw [HP,<-hm]))<|.aq Z<|.sq<|.sr<|.ct (X:=Nat) aE4 Z (λW s=>PC H W s.agr) Z λb44 H1 m1 u1=>.yw (.lenSl uG Z)<|.mv Z<|.nt<|.bk<|.lp (X:=Nat) [(0,_),(1,_),(4,_),(5,_),(6,_),(44,_),(45,_)] ⟨Z,Z,Z,Z,Z,Z,Z,Jt⟩ [_] (λk=>[(46,iN k)]) (λk=>H1) (λk=>[]) (λk=>k<=39/\∀ j,j<k->words.getD j []≠((c::m).take (pre iR (c::m)))) (λk=>39 - k) 0 (λ_ s=>s) ⟨Z,Jt⟩ ⟨by omega,λj hj=>by omega⟩ λk hC=>?_
  obtain ⟨hk0,hne⟩:=hC;refine .sr<|.yw (.lss Z Z)<|.nt<|.sq<|.ce Z (λh47=>?_) (λh47=>?_)
  ·refine .sk<|.tN<|.sq<|.bk<|.sr<|.yw (.indexSl uG Z Z Z (by omega) (q:=k) (by omega))<|.yw (.loadM Z cP m1 (k:=k) (by omega) (uD (by show k<39;omega) []))<|.a Z Z<|.ns<|.mv Z<|.mv Z<|.yw (.eqS Z Z)<|.nt<|.ce Z (λh52=>?_) (λh52=>?_)
   ·have hw:=bL5 (by omega) h52;refine .sm Z<|.mv Z<|.yw (.build Z (lO _ _ _))<|.sX .head Z Z lT Z<|.zR<|.tR<|.bR<|.tR<|.tR<|?_
    refine y8 Z (.cell Z oR Hm rfl) λW s=>⟨?_,(u1.grow s).ext⟩
    first
     | (simp only [bM,aH,h15,hw,aU,aS,aB];rfl)
     | (simp only [bM,aH,h15,hw,aU,aS,aB,aY];rfl)
     | (simp only [bM,aH,h15,hw,hw9,aU,aS,aB];rfl)
     | (simp only [bM,aH,h15,hw,hw9,aU,aS,aB,aY];rfl)
     | (simp only [bM,aH,h15,h71,hor,aU,aS,aB];rfl)
     | (simp only [bM,aH,h15,h71,hor,aU,aS,aB,aY];rfl)
     | (simp only [bM,aH,h15,h71,hfind,aU,aS,aB];rfl)
     | (simp only [bM,aH,h15,h71,hfind,aU,aS,aB,aY];rfl)
     | (simp only [bM,aH,h15,h71,hfind,aU,aS,aB,vU hfind];rfl)
     | (simp only [bM,aH,h15,h71,hfind,aU,aS,aB,aY];rfl)
   exact .sk<|.bN<|.tN<|.rg<|.yw (.add Z Z w7)<|.mv Z<|.nt<|.ag (k+1) ⟨Z,Jt⟩ ⟨Z,Z,Z,Z,Z,Z,Z,Jt⟩ (λ_ s=>s) ⟨by omega,λj hj=>by
   by_cases e:j=k
   ·subst e;exact h52
   ·exact hne j (by omega)⟩ (by omega)
  have hw:=bL4 (λj hj=>hne j (by omega));refine .ex<|.eb<|.sq<|.sm Z<|.yw (.lenS dE Z)<|.yw (.leq Z Z)<|.nt<|.ce Z (λh59=>?_) (λh59=>?_)
  ·have hw9:pre iR (c::m)<=12:=by have:=uC iR (c::m);rw [dV] at h59;omega
   refine .sm Z<|.mv Z<|.yw (.build Z (lO _ _ _))<|.sX .head Z Z lT Z<|.nt<|.rt<|.tR<|.tR<|?_
   refine y8 Z (.cell Z oR Hm rfl) λW s=>⟨?_,(u1.grow s).ext⟩
   first
    | (simp only [bM,aH,h15,hw,aU,aS,aB];rfl)
    | (simp only [bM,aH,h15,hw,aU,aS,aB,aY];rfl)
    | (simp only [bM,aH,h15,hw,hw9,aU,aS,aB];rfl)
    | (simp only [bM,aH,h15,hw,hw9,aU,aS,aB,aY];rfl)
    | (simp only [bM,aH,h15,h71,hor,aU,aS,aB];rfl)
    | (simp only [bM,aH,h15,h71,hor,aU,aS,aB,aY];rfl)
    | (simp only [bM,aH,h15,h71,hfind,aU,aS,aB];rfl)
    | (simp only [bM,aH,h15,h71,hfind,aU,aS,aB,aY];rfl)
    | (simp only [bM,aH,h15,h71,hfind,aU,aS,aB,vU hfind];rfl)
    | (simp only [bM,aH,h15,h71,hfind,aU,aS,aB,aY];rfl)
  have hw9:¬ pre iR (c::m)<=12:=by have:=uC iR (c::m);rw [dV] at h59;omega
  refine .sk<|.tN<|.sm Z<|.mv Z<|.yw (.cast (.dropS dE Z Z Z (by omega)) (by rw [<-hm]))<|.mv Z<|.yw (.build Z (lO _ _ _))<|.sX .head Z Z lT Z<|.nt<|.rt<|.tR<|?_
  refine y8 Z (.cell Z oR Hm rfl) λW s=>⟨?_,(u1.grow s).ext⟩
  first
   | (simp only [bM,aH,h15,hw,aU,aS,aB];rfl)
   | (simp only [bM,aH,h15,hw,aU,aS,aB,aY];rfl)
   | (simp only [bM,aH,h15,hw,hw9,aU,aS,aB];rfl)
   | (simp only [bM,aH,h15,hw,hw9,aU,aS,aB,aY];rfl)
   | (simp only [bM,aH,h15,h71,hor,aU,aS,aB];rfl)
   | (simp only [bM,aH,h15,h71,hor,aU,aS,aB,aY];rfl)
   | (simp only [bM,aH,h15,h71,hfind,aU,aS,aB];rfl)
   | (simp only [bM,aH,h15,h71,hfind,aU,aS,aB,aY];rfl)
   | (simp only [bM,aH,h15,h71,hfind,aU,aS,aB,vU hfind];rfl)
   | (simp only [bM,aH,h15,h71,hfind,aU,aS,aB,aY];rfl)
 refine .sk<|.tN<|.sq<|.sm Z<|.mv Z<|.yw (.idxS dE Z Z Z (b:=c) (j:=o) (by rw [<-kC o];exact hget 0 (by simp)))<|.yw (.call BK Z (λW s=>AJ _ W))<|.nt<|.cd Z (λh71=>?_) (λh71=>?_)
 ·refine .cu (X:=Unit) [(0,_),(1,_),(4,_)] ⟨Z,Z,Z,Jt⟩ (λz=>[(5,.int .i64 ((o+pre iC (c::m):Nat):Int))]) (λz=>H) (λz=>[.box b4 [.int .i64 0,.string ⟨#[]⟩,.int .i64 0] 70]) (λz=>True) ?_ λz hC=>?_
  ·
   refine .bk<|.lp (X:=Nat) [(0,_),(1,_),(4,_)] ⟨Z,Z,Z,Jt⟩ [_] (λk=>[(5,.int .i64 ((o+k:Nat):Int))]) (λk=>H) (λk=>[]) (λk=>k<=pre iC (c::m)) (λk=>pre iC (c::m) - k) 0 (λ_ s=>s) ⟨Z,Jt⟩ (by omega) λk hC=>?_
   refine .sq<|.sm Z<|.mv Z<|.yw (.lenS dE Z)<|.yw (.lss Z Z)<|.mv Z<|.e2 (λh76=>?_) (λh76=>?_)
   ·have hk:k<(c::m).length:=by omega
    refine .gy (.move Z)<|.gy (.move Z)<|.gy (.idxS dE Z Z Z (b:=(c::m)[k]) (j:=o+k) (hget k hk))<|.gy (.call BK Z (λW s=>AJ _ W))<|.yw (.pickT Z Z)<|.nt<|.cd Z (λh81=>?_) (λh81=>?_)
    ·exact .sk<|.tN<|.bk<|.rg<|.mv Z<|.yw (.add Z Z (c:=((o+(k+1):Nat):Int)) ((w6 (by omega)).trans (by omega)))<|.a Z Z<|.nl<|.bN<|.tN<|.ag (k+1) ⟨Z,Jt⟩ ⟨Z,Z,Z,Jt⟩ (λ_ s=>s) (qT hk hC (by assumption)) (by have:=qT hk hC (by assumption);omega)
    exact .ex<|.eb<|.me () ⟨(by first | (rw [<-LA hC (by omega)];rfl) | (rw [<-xO hk hC (by first | exact LE (by assumption) (by assumption) (by omega) | assumption)];rfl)),Jt⟩ ⟨Z,Z,Z,Jt⟩ (λ_ s=>s) trivial
   exact .gG<|.gG<|.gG<|.gG<|.yw (.pickF Z Z)<|.nt<|.cF Z<|.ex<|.eb<|.me () ⟨(by first | (rw [<-LA hC (by omega)];rfl) | (rw [<-xO hk hC (by first | exact LE (by assumption) (by assumption) (by omega) | assumption)];rfl)),Jt⟩ ⟨Z,Z,Z,Jt⟩ (λ_ s=>s) trivial
  refine .sq<|.sm Z<|.mv Z<|.yw (.idxS dE Z Z Z (b:=c) (j:=o) (by rw [<-kC o];exact hget 0 (by simp)))<|.yw (.eql Z Z)<|.mv Z<|.e2 (λh88=>?_) (λh88=>?_)
  ·have h48:c=48:=aR.1 (by show c.toNat=48;omega);refine .gy (.move Z)<|.gy (.move Z)<|.gy (.add Z Z w7)<|.gy (.gtr Z Z)<|.yw (.pickT Z Z)<|.nt<|.ce Z (λh93=>?_) (λh93=>?_)
   ·have hor:¬ (pre iC (c::m)=1\/c≠48):=by
     rintro (h | h)
     ·omega
     ·exact h h48
    refine .sm Z<|.mv Z<|.yw (.cast (.dropS dE Z Z Z (by omega)) (by rw [<-hm]))<|.mv Z<|.yw (.build Z (lO _ _ _))<|.sX .head Z Z lT Z<|.nt<|.rt<|.tR<|.tR<|?_
    refine y8 Z (.cell Z oR Hm rfl) λW s=>⟨?_,(s.ext)⟩
    first
     | (simp only [bM,aH,h15,hw,aU,aS,aB];rfl)
     | (simp only [bM,aH,h15,hw,aU,aS,aB,aY];rfl)
     | (simp only [bM,aH,h15,hw,hw9,aU,aS,aB];rfl)
     | (simp only [bM,aH,h15,hw,hw9,aU,aS,aB,aY];rfl)
     | (simp only [bM,aH,h15,h71,hor,aU,aS,aB];rfl)
     | (simp only [bM,aH,h15,h71,hor,aU,aS,aB,aY];rfl)
     | (simp only [bM,aH,h15,h71,hfind,aU,aS,aB];rfl)
     | (simp only [bM,aH,h15,h71,hfind,aU,aS,aB,aY];rfl)
     | (simp only [bM,aH,h15,h71,hfind,aU,aS,aB,vU hfind];rfl)
     | (simp only [bM,aH,h15,h71,hfind,aU,aS,aB,aY];rfl)
   have hp1:=qT (l:=c::m) (k:=0) (by simp) (aP _) h71;have hor:(pre iC (c::m)=1\/c≠48):=.inl (by omega);refine .sk<|.tN<|.sm Z<|.mv Z<|.mv Z<|.yw (.cast (.midS dE Z Z Z Z Z (by omega) (by have:=uC iC (c::m);omega)) (by rw [HP,<-hm]))<|.mv Z<|.yw (.build Z (lO _ _ _))<|.sX .head Z Z lT Z<|.nt<|.rt<|.tR<|?_
   refine y8 Z (.cell Z oR Hm rfl) λW s=>⟨?_,(s.ext)⟩
   first
    | (simp only [bM,aH,h15,hw,aU,aS,aB];rfl)
    | (simp only [bM,aH,h15,hw,aU,aS,aB,aY];rfl)
    | (simp only [bM,aH,h15,hw,hw9,aU,aS,aB];rfl)
    | (simp only [bM,aH,h15,hw,hw9,aU,aS,aB,aY];rfl)
    | (simp only [bM,aH,h15,h71,hor,aU,aS,aB];rfl)
    | (simp only [bM,aH,h15,h71,hor,aU,aS,aB,aY];rfl)
    | (simp only [bM,aH,h15,h71,hfind,aU,aS,aB];rfl)
    | (simp only [bM,aH,h15,h71,hfind,aU,aS,aB,aY];rfl)
    | (simp only [bM,aH,h15,h71,hfind,aU,aS,aB,vU hfind];rfl)
    | (simp only [bM,aH,h15,h71,hfind,aU,aS,aB,aY];rfl)
  have hor:(pre iC (c::m)=1\/c≠48):=.inr (λe=>h88 (by rw [e];rfl));refine .gG<|.gG<|.gG<|.gG<|.yw (.pickF Z Z)<|.nt<|.cF Z<|.sk<|.tN<|.sm Z<|.mv Z<|.mv Z<|.yw (.cast (.midS dE Z Z Z Z Z (by omega) (by have:=uC iC (c::m);omega)) (by rw [HP,<-hm]))<|.mv Z<|.yw (.build Z (lO _ _ _))<|.sX .head Z Z lT Z<|.nt<|.rt<|.tR<|?_
  refine y8 Z (.cell Z oR Hm rfl) λW s=>⟨?_,(s.ext)⟩
  first
   | (simp only [bM,aH,h15,hw,aU,aS,aB];rfl)
   | (simp only [bM,aH,h15,hw,aU,aS,aB,aY];rfl)
   | (simp only [bM,aH,h15,hw,hw9,aU,aS,aB];rfl)
   | (simp only [bM,aH,h15,hw,hw9,aU,aS,aB,aY];rfl)
   | (simp only [bM,aH,h15,h71,hor,aU,aS,aB];rfl)
   | (simp only [bM,aH,h15,h71,hor,aU,aS,aB,aY];rfl)
   | (simp only [bM,aH,h15,h71,hfind,aU,aS,aB];rfl)
   | (simp only [bM,aH,h15,h71,hfind,aU,aS,aB,aY];rfl)
   | (simp only [bM,aH,h15,h71,hfind,aU,aS,aB,vU hfind];rfl)
   | (simp only [bM,aH,h15,h71,hfind,aU,aS,aB,aY];rfl)
 refine .sk<|.tN<|.sq<|.sr<|.ct (X:=Nat) aE3 Z (λW s=>SV H W s.agr) Z λb105 H1 m1 u1=>.yw (.lenSl uG Z)<|.mv Z<|.nt<|.bk<|.lp (X:=Nat) [(0,_),(1,_),(4,_),(105,_),(106,_)] ⟨Z,Z,Z,Z,Z,Jt⟩ [_] (λk=>[(107,iN k)]) (λk=>H1) (λk=>[]) (λk=>k<=25/\∀ j,j<k->yI (c::m) (symbols.getD j [])=false) (λk=>25 - k) 0 (λ_ s=>s) ⟨Z,Jt⟩ ⟨by omega,λj hj=>by omega⟩ λk hC=>?_
 obtain ⟨hk0,hne⟩:=hC;refine .sr<|.yw (.lss Z Z)<|.nt<|.sq<|.ce Z (λh108=>?_) (λh108=>?_)
 ·refine .sk<|.tN<|.sq<|.bk<|.sr<|.yw (.indexSl uG Z Z Z (by omega) (q:=k) (by omega))<|.yw (.loadM Z cP m1 (k:=k) (by omega) (uD (by show k<25;omega) []))<|.a Z Z<|.ns<|.mv Z<|.yw (.lenS dE Z)<|.mv Z<|.yw (.sub Z Z (w6 (by omega)))<|.mv Z<|.yw (.lenS dE Z)<|.yw (.geq Z Z)<|.mv Z<|.e2 (λh118=>?_) (λh118=>?_)
  ·refine .gy (.move Z)<|.gy (.move Z)<|.gy (.move Z)<|.gy (.move Z)<|.gy (.lenS dE Z)<|.gy (.add Z Z w7)<|.gy (.cast (.midS dE Z Z Z Z (hi:=o+(symbols.getD k []).length) (by omega) (by omega) (by omega)) (by rw [HP,<-hm]))<|.gy (.move Z)<|.gy (.eqS Z Z)<|.yw (.pickT Z Z)<|.nt<|.ce Z (λh128=>?_) (λh128=>?_)
   ·have hfind:=VZ (l:=c::m) (by omega) hne (by simp only [yI,aC,aA] at *;exact ⟨by omega,by assumption⟩);refine .sm Z<|.mv Z<|.yw (.build Z (lO _ _ _))<|.sX .head Z Z lT Z<|.zR<|.tR<|.bR<|.tR<|?_
    refine y8 Z (.cell Z oR Hm rfl) λW s=>⟨?_,(u1.grow s).ext⟩
    first
     | (simp only [bM,aH,h15,hw,aU,aS,aB];rfl)
     | (simp only [bM,aH,h15,hw,aU,aS,aB,aY];rfl)
     | (simp only [bM,aH,h15,hw,hw9,aU,aS,aB];rfl)
     | (simp only [bM,aH,h15,hw,hw9,aU,aS,aB,aY];rfl)
     | (simp only [bM,aH,h15,h71,hor,aU,aS,aB];rfl)
     | (simp only [bM,aH,h15,h71,hor,aU,aS,aB,aY];rfl)
     | (simp only [bM,aH,h15,h71,hfind,aU,aS,aB];rfl)
     | (simp only [bM,aH,h15,h71,hfind,aU,aS,aB,aY];rfl)
     | (simp only [bM,aH,h15,h71,hfind,aU,aS,aB,vU hfind];rfl)
     | (simp only [bM,aH,h15,h71,hfind,aU,aS,aB,aY];rfl)
   exact .sk<|.bN<|.tN<|.rg<|.yw (.add Z Z w7)<|.mv Z<|.nt<|.ag (k+1) ⟨Z,Jt⟩ ⟨Z,Z,Z,Z,Z,Jt⟩ (λ_ s=>s) ⟨by omega,λj hj=>by
   by_cases e:j=k
   ·subst e;simp only [yI,sP,jI] at *;first | exact .inl (by omega) | exact .inr (by assumption)
   ·exact hne j (by omega)⟩ (by omega)
  exact .gG<|.gG<|.gG<|.gG<|.gG<|.gG<|.gG<|.gG<|.gG<|.yw (.pickF Z Z)<|.nt<|.cF Z<|.sk<|.bN<|.tN<|.rg<|.yw (.add Z Z w7)<|.mv Z<|.nt<|.ag (k+1) ⟨Z,Jt⟩ ⟨Z,Z,Z,Z,Z,Jt⟩ (λ_ s=>s) ⟨by omega,λj hj=>by
   by_cases e:j=k
   ·subst e;simp only [yI,sP,jI] at *;first | exact .inl (by omega) | exact .inr (by assumption)
   ·exact hne j (by omega)⟩ (by omega)
 have hfind:=VY (l:=c::m) (λj hj=>hne j (by omega));refine .ex<|.eb<|.sm Z<|.mv Z<|.yw (.cast (.dropS dE Z Z Z (by omega)) (by rw [<-hm]))<|.mv Z<|.yw (.build Z (lO _ _ _))<|.sX .head Z Z lT Z<|.nt<|.rt<|?_
 refine y8 Z (.cell Z oR Hm rfl) λW s=>⟨?_,(u1.grow s).ext⟩
 first
  | (simp only [bM,aH,h15,hw,aU,aS,aB];rfl)
  | (simp only [bM,aH,h15,hw,aU,aS,aB,aY];rfl)
  | (simp only [bM,aH,h15,hw,hw9,aU,aS,aB];rfl)
  | (simp only [bM,aH,h15,hw,hw9,aU,aS,aB,aY];rfl)
  | (simp only [bM,aH,h15,h71,hor,aU,aS,aB];rfl)
  | (simp only [bM,aH,h15,h71,hor,aU,aS,aB,aY];rfl)
  | (simp only [bM,aH,h15,h71,hfind,aU,aS,aB];rfl)
  | (simp only [bM,aH,h15,h71,hfind,aU,aS,aB,aY];rfl)
  | (simp only [bM,aH,h15,h71,hfind,aU,aS,aB,vU hfind];rfl)
  | (simp only [bM,aH,h15,h71,hfind,aU,aS,aB,aY];rfl)
theorem XC {m:Str} {o:Nat} (hm:m=s.drop o) (h:o<s.length) (hsl:(eF false (m.drop (bM m).2)).length<=m.length - (bM m).2) :
 eF false (m.drop (bM m).2)=s.drop (o+(m.length - (eF false (m.drop (bM m).2)).length)):=by
 have h1:=xK false (m.drop (bM m).2);rw [cS,fC] at h1
 by_cases h0:(bM m).2<=m.length
 ·rw [show (bM m).2+(m.length - (bM m).2 - (eF false (m.drop (bM m).2)).length)=m.length - (eF false (m.drop (bM m).2)).length by omega] at h1;rw [<-fC,<-hm];exact h1.symm
 ·have e:m.drop (bM m).2=[]:=iK (by omega);rw [e,tL,<-fC,<-hm];simp
theorem bC9 (H:Hp) (s:Str) (hl:s.length<=1000000) (o:Nat) (ho:o<s.length) (m:Str) (hm:m=s.drop o) (w:World) (hA:Agr H w) :
 Calls prg 68 #[bV s,iN o] w λr w'=>r=.returned (.agg (cTk .i64 ⟨(bM m).1,m.take (bM m).2,o⟩).toArray)/\Ext w w':=by
 subst hm;exact bD0 H s hl o ho w hA
theorem bD8 (H:Hp) (s:Str) (hl:s.length<=1000000) (w:World) (hA:Agr H w) :
 Calls prg 32 #[bV s] w λr w'=>∃ (v:Value) (H':Hp),Rep H' (.seq 3 ((nQ s).map (dTk .i64))) [v]/\r=.returned v/\zT H w H' w':=by
 refine Sx.enter (H:=H) func32 rfl ntmps32 rfl hA ?_;refine .sr<|.a Z Z<|.ns<|.a Z Z<|?_
 refine Sx.row0 70 3 ?_;refine .ns<|.mv Z<|.yw (.call EA Z (λW _=>HD s hl 0 (by omega) W))<|.aq Z<|.sq<|.bk<|.lp (X:=Nat × Nat × Value × List Value) [(0,_)] ⟨Z,Jt⟩ [] (λz=>[(3,z.2.2.1),(4,iN z.1)]) (λz=>H) (λz=>[.row 70 3 z.2.2.1 z.2.1 z.2.2.2]) (λz=>z.1<=s.length/\z.2.1<=z.1/\∃ tk:List Tk,tk.length=z.2.1/\eJ H 3 (tk.map (dTk .i64)) z.2.2.2/\tk++AD (s.length+1) z.1 (s.drop z.1)=nQ s) (λz=>s.length - z.1) (s.length - (eF false s).length,0,.slice none 0 0,[]) (λ_ s=>s) ⟨Z,Z,Jt⟩ ⟨by dsimp only;omega,by dsimp only;omega,[],Z,eJ.nil,by rw [xK];rfl⟩ λz hC=>?_
 obtain ⟨o,n,r,xs⟩:=z;dsimp only at hC|-;obtain ⟨ho,hn,tk,hk,hz,htk⟩:=hC;refine .sq<|.sm Z<|.mv Z<|.yw (.lenS dE Z)<|.yw (.lss Z Z)<|.nt<|.ce Z (λh11=>?_) (λh11=>?_)
 ·have hlt:o<s.length:=by omega
  obtain ⟨m,hm⟩:∃ m,m=s.drop o:=⟨_,Z⟩;have hml:m.length=s.length - o:=by rw [hm,cS]
  have hm0:m≠[]:=by intro e;rw [e] at hml;simp at hml;omega
  have hrk:=qC hm0;have htl:(m.take (bM m).2).length=(bM m).2:=by rw [dV];omega
  rw [<-hm] at htk;have hsl:=nA false (m.drop (bM m).2);rw [cS] at hsl;exact .sk<|.tN<|.bk<|.sm Z<|.mv Z<|.yw (.call SA Z (λW t=>bC9 H s hl o hlt m hm W t.agr))<|.al vB Z λb5=>.sW .head Z Z lT (by simp [cTk,Value.oneCell',bV]) Z<|.ns<|.mv Z<|.yw (.loadW Z oR Hm Z)<|.bl Z (GF _ _ _) Z λb17=>.ap (news:=cTk .i64 ⟨(bM m).1,m.take (bM m).2,o⟩) NY Z (λ_=>jW) Z (.box Hm z0) Z (by simp [cTk,Value.oneCell',bV]) (by simp [maxLen];omega) (by omega) Z λr18 _=>.aq Z<|.rg<|.mv Z<|.mv Z<|.fA Z lC<|.lD Z cP cR Z<|.yw (.lenS dE Z)<|.yw (.add Z Z (c:=((o+(bM m).2:Nat):Int)) (by rw [htl];exact (w6 (by omega)).trans (by omega)))<|.yw (.cast (.call EA Z (λW _=>HD s hl (o+(bM m).2) (by omega) W)) (by rw [<-fC,<-hm,show s.length - (eF false (m.drop (bM m).2)).length=o+(m.length - (eF false (m.drop (bM m).2)).length) by omega]))<|.a Z Z<|.nl<|.bN<|.tN<|.ag (x:=(o,n,r,xs)) (o+(m.length - (eF false (m.drop (bM m).2)).length),n+1,r18,xs++cTk .i64 ⟨(bM m).1,m.take (bM m).2,o⟩) ⟨Z,Z,Jt⟩ ⟨Z,Jt⟩ (λ_ s=>(s.pick [2] _ Z Z)) ⟨by dsimp only;omega,by dsimp only;omega,tk++[⟨(bM m).1,m.take (bM m).2,o⟩],by simp;omega,by dsimp only;rw [bT];exact hz.snoc (DE (by rw [htl];omega)) Z,by dsimp only;rw [<-htk,bW,<-XC hm hlt hsl,mL hm0,bL,dB,zI (s.length+1) s.length _ _ (by omega) (by omega)]⟩ (by dsimp only;omega)
 obtain rfl:o=s.length:=by omega
 rw [List.drop_length,oK,dO] at htk;refine .ex<|.eb<|.sm Z<|.az Z<|?_
 refine At.pm [0] [_] rfl rfl ?_;refine nB (ds:=(nQ s).map (dTk .i64)) (by rw [<-htk];simp;omega) (by rw [<-htk];exact hz) λH3 p3 c3 u3 hr3 hs3=>?_;exact y9 Z Z λW t=>⟨r,H3,hs3,Z,u3.grow t⟩
theorem bC1 {x:Tk} (h:(nQ s).length=1) (hx:(nQ s)[0]=x):nQ s=[x]:=by
 match e:nQ s,h with
 | [y],_=>simp only [e,List.getElem_cons_zero] at hx;rw [hx]
theorem bD2 (h:¬ (nQ s).length=1):fB s=false:=by
 rw [Bool.eq_false_iff,Ne,MY];rintro ⟨o,e⟩;rw [e] at h;exact h rfl
theorem bD1 {x:Tk} (h:(nQ s).length=1) (hx:(nQ s)[0]=x) (hk:¬ x.k=1):fB s=false:=by
 rw [Bool.eq_false_iff,Ne,MY];rintro ⟨o,e⟩;rw [bC1 h hx] at e;injection e with e _
 exact hk (by rw [e])
theorem TZ {x:Tk} (h:(nQ s).length=1) (hx:(nQ s)[0]=x) (hk:x.k=1):fB s=decide (x.t=s):=by
 rw [aX,MY,aA,bC1 h hx];obtain ⟨k,t,o⟩:=x
 constructor
 ·rintro ⟨o,e⟩;injection e with e _
  injection e
 ·intro e;dsimp only at hk e;exact ⟨o,by rw [hk,e]⟩
theorem qY (H:Hp) (s:Str) (hl:s.length<=1000000) (w:World) (hA:Agr H w) :
 Calls prg 83 #[bV s] w λr w'=>r=.returned (.bool (fB s))/\Ext w w':=by
 refine Sx.enter (H:=H) func83 rfl ntmps83 rfl hA ?_;refine .sr<|.a Z Z<|.ns<|.mv Z<|.ct (X:=Value) SG Z (λW t=>bD8 H s hl W t.agr) Z λv H1 hsq u1=>?_
 obtain ⟨p,c,e,_⟩:=hsq.sl;simp only [jK,wA] at e;subst e;refine .a Z Z<|.ns<|.mv Z<|.yw (.lenSl LN Z)<|.yw (.eql Z Z)<|.mv Z<|.e2 (λh9=>?_) (λh9=>?_)
 ·have hl1:(nQ s).length=1:=by simp only [bJ] at *;omega
  obtain ⟨bE,oE,cE,hpE,rE,lE,mE⟩:=hsq.elem (iL (f:=dTk .i64) (show 0<(nQ s).length by omega));subst hpE;generalize hx:(nQ s)[0]=x at rE;obtain ⟨rfl,hxt⟩:=GR rE;refine .gy (.move Z)<|.gy (.indexSl LN Z Z (i:=0) Z (by omega) (q:=oE+0 * 3) (by omega))<|.gy (.fieldAddr Z rV)<|.gy (.loadM Z bS mE (k:=0) Z Z)<|.gy (.eql Z Z)<|.yw (.pickT Z Z)<|.mv Z<|.e2 (λh16=>?_) (λh16=>?_)
  ·have hk1:x.k=1:=aR.1 (by show x.k.toNat=1;omega);refine .gy (.move Z)<|.gy (.indexSl LN Z Z (i:=0) Z (by omega) (q:=oE+0 * 3) (by omega))<|.gy (.fieldAddr Z lC)<|.gy (.loadM Z cP mE (k:=1) Z Z)<|.gy (.move Z)<|.gy (.eqS Z Z)<|.yw (.pickT Z Z)<|.az Z<|?_
   refine y9 Z Z λW t=>⟨?_,(u1.grow t).ext⟩
   first
    | (rw [hno])
    | (rw [TZ hl1 hx hk1])
  have hno:fB s=false:=bD1 hl1 hx (λe=>h16 (by rw [e];rfl));refine .gG<|.gG<|.gG<|.gG<|.gG<|.gG<|.yw (.pickF Z Z)<|.az Z<|?_
  refine y9 Z Z λW t=>⟨?_,(u1.grow t).ext⟩
  first
   | (rw [hno])
   | (rw [TZ hl1 hx hk1])
 have hno:fB s=false:=bD2 (by simp only [bJ] at *;omega);refine .gG<|.gG<|.gG<|.gG<|.gG<|.yw (.pickF Z Z)<|.mv Z<|.gG<|.gG<|.gG<|.gG<|.gG<|.gG<|.yw (.pickF Z Z)<|.az Z<|?_
 refine y9 Z Z λW t=>⟨?_,(u1.grow t).ext⟩
 first
  | (rw [hno])
  | (rw [TZ hl1 hx hk1])
theorem dA:lR prg 142=some (some 13):=by kernel_rfl
theorem vG:cV prg 186=true:=by kernel_rfl
theorem kG:cV prg 187=true:=by kernel_rfl
theorem vF:cV prg 189=true:=by kernel_rfl
theorem aD0:cV prg 199=true:=by kernel_rfl
theorem zG:eN prg 140 4=some 4:=by kernel_rfl
theorem PN:eN prg 142 0=some 0:=by kernel_rfl
theorem PM:eN prg 142 1=some 1:=by kernel_rfl
theorem EZ:eN prg 142 2=some 2:=by kernel_rfl
theorem EY:eN prg 142 3=some 9:=by kernel_rfl
theorem YS:UF prg 12=some Go.IntKind.u64:=by kernel_rfl
theorem cZ:iP prg 142=some 13:=by kernel_rfl
theorem fD:qK prg 142=some
 [Go.Value.bool false,Go.Value.bool false,Go.Value.int Go.IntKind.i64 (Int.ofNat 0),
  Go.Value.string { data:={ toList:=[] } },Go.Value.string { data:={ toList:=[] } },
  Go.Value.int Go.IntKind.i64 (Int.ofNat 0),Go.Value.int Go.IntKind.i64 (Int.ofNat 0),
  Go.Value.slice none 0 0,Go.Value.slice none 0 0,Go.Value.int Go.IntKind.i64 (Int.ofNat 0),
  Go.Value.string { data:={ toList:=[] } },Go.Value.int Go.IntKind.i64 (Int.ofNat 0),
  Go.Value.slice none 0 0]:=by kernel_rfl
theorem PR (x0:Bool) (x20 x21 x22 x23 x24 x25 x26:Value):fK prg 142 [(0,.bool x0),(2,.agg [x20,x21,x22,x23,x24,x25,x26].toArray)]=some [.bool x0,.bool false,x20,x21,x22,x23,x24,x25,x26,.int .i64 0,.string ⟨#[]⟩,.int .i64 0,.slice none 0 0]:=by kernel_rfl
theorem PQ (x1:Bool) (x30 x31 x32 x33:Value):fK prg 142 [(1,.bool x1),(3,.agg [x30,x31,x32,x33].toArray)]=some [.bool false,.bool x1,.int .i64 0,.string ⟨#[]⟩,.string ⟨#[]⟩,.int .i64 0,.int .i64 0,.slice none 0 0,.slice none 0 0,x30,x31,x32,x33]:=by kernel_rfl
theorem wU (h:n<18446744073709551616):IntKind.u64.wrap (n:Int)=(n:Int):=by
 simp only [IntKind.wrap,IntKind.signed,IntKind.bits];simp;omega
theorem ZR (t:Tk) (hd:t.k=3->pre iC t.t=t.t.length/\¬ t.t=[]) (hl:t.t.length<=1000000) (w:World) :
 Calls prg 199 #[.agg (cTk .i64 t).toArray] w λr w'=>r=.returned (.tuple #[iN (VL t),iN (LX t)])/\Ext w w':=by
 refine y6 func199 Z ntmps199 Z ?_;refine .sr<|.bx Z Z Z λb1=>.a Z Z<|.aq Z<|.sq<|.sr<|.fA Z rV<|.lD Z bS Hm Z<|.yw (.neq Z Z)<|.mv Z<|.e2 (λh11=>?_) (λh11=>?_)
 ·have hk:¬ t.k=3:=λe=>by simp [e] at h11
  obtain ⟨hv1,hv2⟩:=aW8 hk;refine .gG<|.gG<|.gG<|.yw (.pickT Z Z)<|.nt<|.cT Z<|.sr<|.a Z Z<|.az Z<|.tR<|?_
  refine y7 Z (.cons (.tmp Z) (.cons (.tmp Z) .nil)) rfl λW s=>⟨?_,s.ext⟩
  first
   | (rw [hv1,hv2];rfl)
   | (rw [hv1,hv2,hvk];rfl)
   | (rw [hv1,hv2,hvk])
 have hk:t.k=3:=aR.1 (by show t.k.toNat=3;omega);obtain ⟨hd1,hd2⟩:=hd hk;have hall:=bC.1 (LB hd1);refine .gy (.fieldAddr Z lC)<|.gy (.load Z cP Hm Z)<|.gy (.cast (.eqS Z Z) (congrArg Value.bool (aI hd2)))<|.yw (.pickF Z Z)<|.nt<|.cF Z<|.sk<|.tN<|.sr<|.a Z Z<|.ns<|.aq Z<|.sq<|.sr<|.aq Z<|.bk<|.lp (X:=Nat × Bool × Nat) [(1,_)] ⟨Z,Jt⟩ [_] (λz=>[(6,iN z.1),(5,.bool z.2.1),(4,.int .u64 (z.2.2:Nat))]) (λz=>(⟨λ_=>none,0⟩:Hp)) (λz=>[]) (λz=>z.1<=t.t.length/\z.2.2<=9223372036854775807/\(z.2.1=false->z.2.2=lY (t.t.take z.1))/\(z.2.1=true->¬ lY t.t<=9223372036854775807)) (λz=>t.t.length - z.1) (0,false,0) (λ_ s=>s) ⟨Z,Z,Z,Jt⟩ ⟨aP _,aP _,λ_=>by simp [QM],λh=>by cases h⟩ λz hC=>?_
 obtain ⟨k,ov,v⟩:=z;obtain ⟨hk0,hvb,hF,hT⟩:=hC;dsimp only at hk0 hvb hF hT|-;refine .sq<|.sm Z<|.fA Z lC<|.lD Z cP Hm Z<|.yw (.lenS dE Z)<|.yw (.lss Z Z)<|.nt<|.ce Z (λh20=>?_) (λh20=>?_)
 ·have hlt:k<t.t.length:=by omega
  obtain ⟨c,hc⟩:∃ c,c=t.t[k]:=⟨_,Z⟩;have hdc:iC c=true:=hall c (by rw [hc];exact bI hlt);obtain ⟨hc1,hc2⟩:=aK1 hdc;have hst:lY (t.t.take (k+1))=10 * lY (t.t.take k)+(c.toNat - 48):=QO (by rw [hc];exact List.getElem?_eq_getElem hlt);have hle:=QN t.t (k+1);rw [hst] at hle;refine .sk<|.tN<|.sq<|.bk<|.sq<|.sr<|.fA Z lC<|.lD Z cP Hm Z<|.mv Z<|.yw (.idxS dE Z Z Z (b:=c) (j:=k) (by rw [hc];exact List.getElem?_eq_getElem hlt))<|.yw (.cast (.call BK Z (λW s=>AJ _ W)) (congrArg Value.bool hdc))<|.yw (.not Z)<|.nt<|.cF Z<|.sk<|.tN<|.sr<|.fA Z lC<|.lD Z cP Hm Z<|.mv Z<|.yw (.idxS dE Z Z Z (b:=c) (j:=k) (by rw [hc];exact List.getElem?_eq_getElem hlt))<|.yw (.sub Z Z (u8w hc1))<|.yw (.conv Z rT YS (c:=((c.toNat - 48:Nat):Int)) (wU (by omega)))<|.aq Z<|.sq<|.sm Z<|.mv Z<|.b2 (λh36=>?_) (λh36=>?_)
  ·exact .gG<|.gG<|.gG<|.gG<|.gG<|.yw (.pickT Z Z)<|.nt<|.cT Z<|.sr<|.aq Z<|.ex<|.tE<|.bE<|.tN<|.rg<|.mv Z<|.yw (.add Z Z w7)<|.aq Z<|.ag (x:=(k,ov,v)) (k+1,true,v) ⟨Z,Z,Z,Jt⟩ ⟨Z,Jt⟩ (λ_ s=>s) ⟨by show k+1<=_;omega,hvb,λh=>(by cases h),λ_=>hT (by assumption)⟩ (by show t.t.length - (k+1)<t.t.length - k;omega)
  obtain rfl:ov=false:=h36;have hvk:v=lY (t.t.take k):=hF rfl;refine .gy (.move Z)<|.gy (.move Z)<|.gy (.sub Z Z (c:=((9223372036854775807 - (c.toNat - 48):Nat):Int)) (by rw [show (9223372036854775807:Int) - ((c.toNat - 48:Nat):Int)=((9223372036854775807 - (c.toNat - 48):Nat):Int) by omega];exact wU (by omega)))<|.gy (.quo Z Z (by decide) (c:=(((9223372036854775807 - (c.toNat - 48)) / 10:Nat):Int)) (by rw [pC (by omega)];rw [show ((9223372036854775807 - (c.toNat - 48):Nat):Int) / 10=(((9223372036854775807 - (c.toNat - 48)) / 10:Nat):Int) by omega];exact wU (by omega)))<|.gy (.gtr Z Z)<|.yw (.pickF Z Z)<|.nt<|.ce Z (λh42=>?_) (λh42=>?_)
  ·have hbig:¬ lY t.t<=9223372036854775807:=by omega
   exact .sr<|.aq Z<|.ex<|.tE<|.bE<|.tN<|.rg<|.mv Z<|.yw (.add Z Z w7)<|.aq Z<|.ag (x:=(k,false,v)) (k+1,true,v) ⟨Z,Z,Z,Jt⟩ ⟨Z,Jt⟩ (λ_ s=>s) ⟨by show k+1<=_;omega,hvb,λh=>(by cases h),λ_=>hbig⟩ (by show t.t.length - (k+1)<t.t.length - k;omega)
  have hb:10 * v+(c.toNat - 48)<=9223372036854775807:=by omega
  exact .sk<|.tN<|.rg<|.mv Z<|.yw (.mul Z Z (c:=((10 * v:Nat):Int)) (by rw [show (10:Int) * (v:Int)=((10 * v:Nat):Int) by omega];exact wU (by omega)))<|.mv Z<|.yw (.add Z Z (c:=((10 * v+(c.toNat - 48):Nat):Int)) (by rw [show ((10 * v:Nat):Int)+(((c.toNat - 48):Nat):Int)=((10 * v+(c.toNat - 48):Nat):Int) by omega];exact wU (by omega)))<|.a Z Z<|.nl<|.bN<|.tN<|.rg<|.mv Z<|.yw (.add Z Z w7)<|.aq Z<|.ag (x:=(k,false,v)) (k+1,false,10 * v+(c.toNat - 48)) ⟨Z,Z,Z,Jt⟩ ⟨Z,Jt⟩ (λ_ s=>s) ⟨by show k+1<=_;omega,(by show 10 * v+(c.toNat - 48)<=_;omega),λ_=>(by show 10 * v+(c.toNat - 48)=_;rw [hst,<-hvk]),λh=>(by cases h)⟩ (by show t.t.length - (k+1)<t.t.length - k;omega)
 obtain rfl:k=t.t.length:=by omega
 rw [aY] at hF;refine .ex<|.eb<|.sq<|.sm Z<|.nt<|.cd Z (λh47=>?_) (λh47=>?_)
 ·obtain ⟨hv1,hv2⟩:=GO hk (hT h47);refine .sr<|.a Z Z<|.az Z<|.tR<|?_
  refine y7 Z (.cons (.tmp Z) (.cons (.tmp Z) .nil)) rfl λW s=>⟨?_,s.ext⟩
  first
   | (rw [hv1,hv2];rfl)
   | (rw [hv1,hv2,hvk];rfl)
   | (rw [hv1,hv2,hvk])
 have hvk:=hF h47;obtain ⟨hv1,hv2⟩:=IP hk (by rw [<-hvk];exact hvb);refine .sk<|.tN<|.sm Z<|.yw (.conv Z YS aL4 (c:=((v:Nat):Int)) (w6 (by omega)))<|.a Z Z<|.az Z<|?_
 refine y7 Z (.cons (.tmp Z) (.cons (.tmp Z) .nil)) rfl λW s=>⟨?_,s.ext⟩
 first
  | (rw [hv1,hv2];rfl)
  | (rw [hv1,hv2,hvk];rfl)
  | (rw [hv1,hv2,hvk])
theorem bM2 (K:Tkq H l tp tc) (hq:q.i<l.length):(tkf l q.i).k=3->pre iC (tkf l q.i).t=(tkf l q.i).t.length/\¬ (tkf l q.i).t=[]:=K.num _ (SQ hq)
theorem cF8 {t:Tk} (h:LX t=0) (hk:t.k=3):lY t.t<=9223372036854775807:=Classical.byContradiction λe=>by rw [(GO hk e).1] at h;cases h
variable {mi:Bool}
theorem QL {b:Nat} (K:Tkq H l tp tc) (hq:q.i<l.length) (s:St H w0 (.box b [.slice tp l.length tc,iN q.i,iN q.er,iN q.off,.bool (mi)] 140::bs) W) :
 Calls prg 189 #[.pointer (some ⟨b,0,none⟩)] W λe W'=>∃ _:Unit,(True)/\e=.returned (.int .i64 (q.nbV l).toInt)/\St H w0 (.box b [.slice tp l.length tc,iN ((q.nbS l).i),iN ((q.nbS l).er),iN ((q.nbS l).off),.bool (mi)] 140::bs) W':=by
 have hcap:=K.rep.cap;refine fN func189 rfl ntmps189 rfl s ?_;refine .sr<|.a Z Z<|.ns<|.mv Z<|.cs (X:=Unit) vE Z (λW s=>MV K hq  (s.p1_1 [0] Z)) Z λ_ _=>.al vB Z λb3=>.sW .head Z Z lT (by simp [cTk,Value.oneCell',bV]) Z<|.nt<|.sq<|.sm Z<|.nC Z<|.fA Z gD<|.lD Z bS cR Z<|.yw (.neq Z Z)<|.mv Z<|.e2 (λh13=>?_) (λh13=>?_)
 ·have hbad:¬ q.nbB l=true:=λe=>by have:=(IY e).1;omega
  have e1:q.nbS l=q.fail l 8:=by unfold Rq.nbS;rw [aD hbad]
  have e2:q.nbV l=0:=by unfold Rq.nbV;rw [aD (λe=>hbad (by rw [aC] at e;exact e.1))]
  rw [e1,e2];refine .gG<|.gG<|.gG<|.yw (.pickT Z Z)<|.nt<|.cT Z<|.sm Z<|.cs (X:=Unit) tT Z (λW s=>CT K hq 8 (s.p2_2 [1,0] Z)) Z λ_ _=>.ns<|.az Z<|.tR<|?_
  refine y9 Z Z λW s=>?_;exact ⟨(),Jt,Z,s.p2_1 [0] rfl⟩
 have h0:q.er=0:=by omega
 refine .gy (.fieldAddr Z rV)<|.gy (.load Z bS Hm Z)<|.gy (.neq Z Z)<|.yw (.pickF Z Z)<|.nt<|.ce Z (λh17=>?_) (λh17=>?_)
 ·have hbad:¬ q.nbB l=true:=λe=>by have:=(IY e).2;simp [this] at h17
  have e1:q.nbS l=q.fail l 8:=by unfold Rq.nbS;rw [aD hbad]
  have e2:q.nbV l=0:=by unfold Rq.nbV;rw [aD (λe=>hbad (by rw [aC] at e;exact e.1))]
  rw [e1,e2];refine .sm Z<|.cs (X:=Unit) tT Z (λW s=>CT K hq 8 (s.p2_2 [1,0] Z)) Z λ_ _=>.ns<|.az Z<|.tR<|?_
  refine y9 Z Z λW s=>?_;exact ⟨(),Jt,Z,s.p2_1 [0] rfl⟩
 have hk:(tkf l q.i).k=3:=aR.1 (by show (tkf l q.i).k.toNat=3;omega);have hok:q.nbB l=true:=by unfold Rq.nbB;rw [aF h0,aF hk];rfl
 refine .sk<|.tN<|.sr<|.yw (.loadW Z oR Hm Z)<|.yw (.call aD0 Z λW s=>ZR (tkf l q.i) (bM2 K hq) (aV (K.short _ (SQ hq)) (by decide)) W)<|.mv Z<|.yw (.extract Z Z)<|.yw (.extract Z Z)<|.a Z Z<|.aq Z<|.sq<|.sm Z<|.yw (.neq Z Z)<|.nt<|.ce Z (λh26=>?_) (λh26=>?_)
 ·have hv:¬ lY (tkf l q.i).t<=9223372036854775807:=λe=>by rw [(IP hk e).1] at h26;omega
  have e1:q.nbS l=q.fail l 2:=by unfold Rq.nbS;rw [aM hok,aD (by unfold Rq.fit;rw [aI hv];decide)]
  have e2:q.nbV l=0:=by unfold Rq.nbV;rw [aD (by unfold Rq.fit;rw [aI hv,Bool.and_false];decide)]
  rw [e1,e2];refine .sm Z<|.cs (X:=Unit) tT Z (λW s=>CT K hq 2 (s.p2_2 [1,0] Z)) Z λ_ _=>.ns<|.az Z<|.tR<|?_
  refine y9 Z Z λW s=>?_;exact ⟨(),Jt,Z,s.p2_1 [0] rfl⟩
 have hv:lY (tkf l q.i).t<=9223372036854775807:=cF8 (by omega) hk;obtain ⟨v1,v2⟩:=IP hk hv;have hf:q.fit l=true:=by unfold Rq.fit;rw [aF hv]
 have e1:q.nbS l=q.nx:=by unfold Rq.nbS;rw [aM hok,aM hf]
 have e2:q.nbV l=Int64.ofNat (lY (tkf l q.i).t):=by unfold Rq.nbV;rw [hok,hf];rfl
 rw [e1,e2,UG hv];have hi:=K.gd.last _ hq (by rw [hk];decide);have hi2:q.nx.i=q.i+1:=rfl;rw [v2];refine .sk<|.tN<|.sm Z<|.nC Z<|.fA Z nT<|.lD Z bS cR Z<|.yw (.add Z Z (c:=((q.nx.i:Nat):Int)) ((w6 (by omega)).trans (by show _=((q.i+1:Nat):Int);omega)))<|.nC Z<|.fA Z nT<|.st jS Z Z iG Z (nb Z) Z<|.ns<|.mv Z<|.az Z<|?_
 refine y9 Z Z λW s=>?_;exact ⟨(),Jt,Z,s.p2_1 [1] rfl⟩
theorem bV6 {b:Nat} (K:Tkq H l tp tc) (hq:q.i<l.length) (s:St H w0 (.box b [.slice tp l.length tc,iN q.i,iN q.er,iN q.off,.bool (mi)] 140::bs) W) :
 Calls prg 188 #[.pointer (some ⟨b,0,none⟩)] W λe W'=>∃ _:Unit,(True)/\e=.returned (.int .i64 (q.boV l).toInt)/\St H w0 (.box b [.slice tp l.length tc,iN ((q.boS l).i),iN ((q.boS l).er),iN ((q.boS l).off),.bool (mi)] 140::bs) W':=by
 refine fN func188 rfl ntmps188 rfl s ?_;refine .sr<|.aq Z<|.sq<|.sm Z<|.cs (X:=Unit) fW Z (λW s=>mN K hq [45] (s.p1_1 [0] Z)) Z λ_ _=>.nt<|.cd Z (λh4=>?_) (λh4=>?_)
 ·have a4:Rq.ac l [45] q=true:=h4;rw [qL a4];have e1:q.boV l=-(q.nx.nbV l):=by unfold Rq.boV;rw [aM a4]
  have e3:q.boS l=q.nx.nbS l:=by unfold Rq.boS;rw [aM a4]
  rw [e1,e3];refine .sm Z<|.cs (X:=Unit) vF Z (λW s=>QL K (cC K.gd.last hq a4)  (s.p1_1 [0] Z)) Z λ_ _=>.yw (.neg Z (c:=(-(q.nx.nbV l)).toInt) (aH9 aI0))<|.az Z<|.tR<|?_
  refine y9 Z Z λW s=>?_;exact ⟨(),Jt,Z,s.p1_1 [0] rfl⟩
 have a4:Rq.ac l [45] q=false:=h4;rw [qM a4];have e1:q.boV l=q.nbV l:=by unfold Rq.boV;rw [aD (by rw [a4];decide)]
 have e3:q.boS l=q.nbS l:=by unfold Rq.boS;rw [aD (by rw [a4];decide)]
 rw [e1,e3];refine .sk<|.tN<|.sm Z<|.cs (X:=Unit) vF Z (λW s=>QL K hq  (s.p1_1 [0] Z)) Z λ_ _=>.az Z<|?_
 refine y9 Z Z λW s=>?_;exact ⟨(),Jt,Z,s.p1_1 [0] rfl⟩
theorem aW3 {b:Nat} (K:Tkq H l tp tc) (hq:q.i<l.length) (s:St H w0 (.box b [.slice tp l.length tc,iN q.i,iN q.er,iN q.off,.bool (mi)] 140::bs) W) :
 Calls prg 167 #[.pointer (some ⟨b,0,none⟩)] W λe W'=>∃ _:Unit,(True)/\e=.returned (.tuple #[.int .i64 (q.wiA l).toInt,.int .i64 (q.wiB l).toInt])/\St H w0 (.box b [.slice tp l.length tc,iN ((q.wiS l).i),iN ((q.wiS l).er),iN ((q.wiS l).off),.bool (mi)] 140::bs) W':=by
 refine fN func167 rfl ntmps167 rfl s ?_;refine .sr<|.a Z Z<|.aq Z<|.sq<|.sm Z<|.cs (X:=Unit) fW Z (λW s=>mN K hq [91] (s.p1_1 [0] Z)) Z λ_ _=>.yw (.not Z)<|.nt<|.cd Z (λh8=>?_) (λh8=>?_)
 ·have a9:q.ac l [91]=false:=by simpa using h8
  have e1:q.wiA l=0:=by unfold Rq.wiA;rw [aD (by rw [a9];decide)]
  have e2:q.wiB l=-1:=by unfold Rq.wiB;rw [aD (by rw [a9];decide)]
  have e3:q.wiS l=q:=by unfold Rq.wiS;rw [aD (by rw [a9];decide)]
  rw [qM a9,e1,e2,e3];refine .sr<|.a Z Z<|.az Z<|.tR<|?_
  refine y7 Z (.cons (.tmp Z) (.cons (.tmp Z) .nil)) rfl λW s=>?_;exact ⟨(),Jt,Z,s.p1_1 [0] rfl⟩
 have a9:q.ac l [91]=true:=by simpa using h8
 have e1:q.wiA l=q.nx.nbV l:=by unfold Rq.wiA;rw [aM a9]
 have e2:q.wiB l=((q.nx.nbS l).exS l [44]).nbV l:=by unfold Rq.wiB;rw [aM a9]
 have e3:q.wiS l=(((q.nx.nbS l).exS l [44]).nbS l).exS l [93]:=by unfold Rq.wiS;rw [aM a9]
 rw [qL a9,e1,e2,e3];refine .sk<|.tN<|.sm Z<|.cs (X:=Unit) vF Z (λW s=>QL K (cC K.gd.last hq a9)  (s.p1_1 [0] Z)) Z λ_ _=>.a Z Z<|.ns<|.mv Z<|.cs (X:=Unit) kG Z (λW s=>sZ K (tK K.gd.last (cC K.gd.last hq a9)) [44] (s.p1_1 [0] Z)) Z λ_ _=>.ns<|.mv Z<|.cs (X:=Unit) vF Z (λW s=>QL K (fM K.gd.last (tK K.gd.last (cC K.gd.last hq a9)))  (s.p1_1 [0] Z)) Z λ_ _=>.a Z Z<|.ns<|.mv Z<|.cs (X:=Unit) kG Z (λW s=>sZ K (tK K.gd.last (fM K.gd.last (tK K.gd.last (cC K.gd.last hq a9)))) [93] (s.p1_1 [0] Z)) Z λ_ _=>.ns<|.mv Z<|.mv Z<|.a Z Z<|.az Z<|?_
 refine y7 Z (.cons (.tmp Z) (.cons (.tmp Z) .nil)) rfl λW s=>?_;exact ⟨(),Jt,Z,s.p1_1 [0] rfl⟩
theorem ZZ {b:Nat} (K:Tkq H l tp tc) (hq:q.i<l.length) (s:St H w0 (.box b [.slice tp l.length tc,iN q.i,iN q.er,iN q.off,.bool (mi)] 140::bs) W) :
 Calls prg 214 #[.pointer (some ⟨b,0,none⟩)] W λe W'=>∃ _:Unit,(True)/\e=.returned (.tuple #[bV (q.paN l),bV (q.paF l)])/\St H w0 (.box b [.slice tp l.length tc,iN ((q.paS l).i),iN ((q.paS l).er),iN ((q.paS l).off),.bool (mi)] 140::bs) W':=by
 refine fN func214 rfl ntmps214 rfl s ?_;refine .sr<|.a Z Z<|.a Z Z<|.ns<|.mv Z<|.cs (X:=Unit) vG Z (λW s=>IZ K hq  (s.p1_1 [0] Z)) Z λ_ _=>.a Z Z<|.ns<|.mv Z<|.cs (X:=Unit) kG Z (λW s=>sZ K (iB K.gd.last hq) [46] (s.p1_1 [0] Z)) Z λ_ _=>.ns<|.mv Z<|.mv Z<|.cs (X:=Unit) vG Z (λW s=>IZ K (fM K.gd.last (iB K.gd.last hq))  (s.p1_1 [0] Z)) Z λ_ _=>.a Z Z<|.az Z<|?_
 refine y7 Z (.cons (.tmp Z) (.cons (.tmp Z) .nil)) rfl λW s=>?_;exact ⟨(),Jt,Z,s.p1_1 [0] rfl⟩
def dFn (n:Fn):D:=.str [.val (.bool n.fm),.val (.bool n.tm),dFm .i64 n.f,dEx .i64 n.e]
theorem bS2 {n:Fn} {cs:List Value} (h:Rep H (dFn n) cs):∃ c1 c2,cs=.bool n.fm::.bool n.tm::(c1++c2)/\Rep H (dFm .i64 n.f) c1/\Rep H (dEx .i64 n.e) c2:=by
 rw [dFn,WG] at h;obtain ⟨_,rfl,_,_,h⟩:=iF.1 h;obtain ⟨_,rfl,_,_,h⟩:=iF.1 h;obtain ⟨c1,r1,rfl,h1,h⟩:=rP.1 h;obtain ⟨c2,r2,rfl,h2,h⟩:=rP.1 h;rw [vW] at h;subst h;rw [dO];exact ⟨c1,c2,Z,h1,h2⟩
variable {c1:List Value}
theorem HV {n:Fn} {c2:List Value} (h1:Rep H (dFm .i64 n.f) c1) (h2:Rep H (dEx .i64 n.e) c2):Rep H (dFn n) (.bool n.fm::.bool n.tm::(c1++c2)):=by
 rw [dFn,WG];exact iF.2 ⟨_,Z,Z,Jt,iF.2 ⟨_,Z,Z,Jt,rP.2 ⟨c1,c2,Z,h1,rP.2 ⟨c2,[],(dO _).symm,h2,vW.2 rfl⟩⟩⟩⟩
theorem cG9 {cs:List Value} (h:cs.length=7):∃ a b c d e f g,cs=[a,b,c,d,e,f,g]:=by
 match cs,h with
 | [a,b,c,d,e,f,g],_=>exact ⟨a,b,c,d,e,f,g,Z⟩
theorem cJ2 {cs:List Value} (h:cs.length=4):∃ a b c d,cs=[a,b,c,d]:=by
 match cs,h with
 | [a,b,c,d],_=>exact ⟨a,b,c,d,Z⟩
theorem AW {k:IntKind} {cs:List Value} (h:Rep H (dEx k e) cs):cs.length=4:=by
 obtain ⟨op,nm,n,args⟩:=e;obtain ⟨_,_,rfl,_⟩:=jB h
 rfl
theorem gH {n:Fn} {cs:List Value} (h:Rep H (dFn n) cs):∃ a b c d e f g x y z w,cs=[.bool n.fm,.bool n.tm,a,b,c,d,e,f,g,x,y,z,w]/\Rep H (dFm .i64 n.f) [a,b,c,d,e,f,g]/\Rep H (dEx .i64 n.e) [x,y,z,w]:=by
 obtain ⟨c1,c2,rfl,h1,h2⟩:=bS2 h;obtain ⟨a,b,c,d,e,f,g,rfl⟩:=cG9 (xV h1);obtain ⟨x,y,z,w,rfl⟩:=cJ2 (AW h2);exact ⟨a,b,c,d,e,f,g,x,y,z,w,Z,h1,h2⟩
theorem EV {b:Nat} (K:Tkq H l tp tc) (hq:q.i<l.length) {n:Fn} {x1 x2 x3 x4 x5 x6 x7 y1 y2 y3 y4:Value} (h0:∀ a∈[x1,x2,x3,x4,x5,x6,x7],a.oneCell'=true) (s:St H w0 (.box b [.slice tp l.length tc,iN q.i,iN q.er,iN q.off,.bool (mi)] 140::bs) W) :
 Calls prg 66 #[.pointer (some ⟨b,0,none⟩),.agg [.bool n.fm,.bool n.tm,x1,x2,x3,x4,x5,x6,x7,y1,y2,y3,y4].toArray] W λe W'=>∃ _:Unit,(True)/\e=.returned (.agg [x1,x2,x3,x4,x5,x6,x7].toArray)/\St H w0 (.box b [.slice tp l.length tc,iN q.i,iN q.er,iN q.off,.bool (mi || !n.fm)] 140::bs) W':=by
 refine fN func66 rfl ntmps66 rfl s ?_;refine .sr<|.bx Z Z Z λb3=>.al oQ Z λb4=>.nt<|.sq<|.sr<|.fA Z PN<|.lD Z kB cR Z<|.yw (.not Z)<|.nt<|.cd Z (λh7=>?_) (λh7=>?_)
 ·have hb:n.fm=false:=by simpa using h7
  rw [show (mi || !n.fm)=true by rw [hb];cases mi <;> rfl];refine .rg<|.mv Z<|.nC Z<|.fA Z zG<|.st jW Z Z lZ Z (nb Z) Z<|.ns<|.fA Z EZ<|.yw (.loadS (vs:=[_,_,_,_,_,_,_]) Z eD cR Z (SX Z))<|.sW .head Z Z kL (by intro a ha;exact h0 a ha) Z<|.nt<|.rt<|?_
  refine y8 Z (.cell Z eD Hm rfl) λW s=>?_;exact ⟨(),Jt,Z,s.p3_1 [2] rfl⟩
 have hb:n.fm=true:=by simpa using h7
 rw [show (mi || !n.fm)=mi by rw [hb];cases mi <;> rfl];refine .sk<|.tN<|.sr<|.fA Z EZ<|.yw (.loadS (vs:=[_,_,_,_,_,_,_]) Z eD cR Z (SX Z))<|.sW .head Z Z kL (by intro a ha;exact h0 a ha) Z<|.nt<|.rt<|?_
 refine y8 Z (.cell Z eD Hm rfl) λW s=>?_;exact ⟨(),Jt,Z,s.p3_1 [2] rfl⟩
theorem EU {b:Nat} (K:Tkq H l tp tc) (hq:q.i<l.length) {n:Fn} {x1 x2 x3 x4 x5 x6 x7 y1 y2 y3 y4:Value} (h0:∀ a∈[y1,y2,y3,y4],a.oneCell'=true) (s:St H w0 (.box b [.slice tp l.length tc,iN q.i,iN q.er,iN q.off,.bool (mi)] 140::bs) W) :
 Calls prg 201 #[.pointer (some ⟨b,0,none⟩),.agg [.bool n.fm,.bool n.tm,x1,x2,x3,x4,x5,x6,x7,y1,y2,y3,y4].toArray] W λe W'=>∃ _:Unit,(True)/\e=.returned (.agg [y1,y2,y3,y4].toArray)/\St H w0 (.box b [.slice tp l.length tc,iN q.i,iN q.er,iN q.off,.bool (mi || !n.tm)] 140::bs) W':=by
 refine fN func201 rfl ntmps201 rfl s ?_;refine .sr<|.bx Z Z Z λb3=>.al nD Z λb4=>.nt<|.sq<|.sr<|.fA Z PM<|.lD Z kB cR Z<|.yw (.not Z)<|.nt<|.cd Z (λh7=>?_) (λh7=>?_)
 ·have hb:n.tm=false:=by simpa using h7
  rw [show (mi || !n.tm)=true by rw [hb];cases mi <;> rfl];refine .rg<|.mv Z<|.nC Z<|.fA Z zG<|.st jW Z Z lZ Z (nb Z) Z<|.ns<|.fA Z EY<|.yw (.loadS (vs:=[_,_,_,_]) Z fT cR Z (SX Z))<|.sW .head Z Z mM (by intro a ha;exact h0 a ha) Z<|.nt<|.rt<|?_
  refine y8 Z (.cell Z fT Hm rfl) λW s=>?_;exact ⟨(),Jt,Z,s.p3_1 [2] rfl⟩
 have hb:n.tm=true:=by simpa using h7
 rw [show (mi || !n.tm)=mi by rw [hb];cases mi <;> rfl];refine .sk<|.tN<|.sr<|.fA Z EY<|.yw (.loadS (vs:=[_,_,_,_]) Z fT cR Z (SX Z))<|.sW .head Z Z mM (by intro a ha;exact h0 a ha) Z<|.nt<|.rt<|?_
 refine y8 Z (.cell Z fT Hm rfl) λW s=>?_;exact ⟨(),Jt,Z,s.p3_1 [2] rfl⟩
theorem tA (H:Hp) {x1 x2 x3 x4 x5 x6 x7:Value} (h0:∀ a∈[x1,x2,x3,x4,x5,x6,x7],a.oneCell'=true) (w:World) (hA:Agr H w):Calls prg 123 #[.agg [x1,x2,x3,x4,x5,x6,x7].toArray] w λr w'=>r=.returned (.agg [.bool true,.bool false,x1,x2,x3,x4,x5,x6,x7,.int .i64 0,.string ⟨#[]⟩,.int .i64 0,.slice none 0 0].toArray)/\Ext w w':=by
 refine Sx.enter (H:=H) func123 rfl ntmps123 rfl hA ?_;refine .sr<|.bx Z Z Z λb1=>.al fD Z λb2=>.ns<|.yw (.loadW Z eD cR Z)<|.yw (.build Z (PR _ _ _ _ _ _ _ _))<|.sW .head Z Z cZ (by intro a ha;simp only [bP,List.not_mem_nil,or_false] at ha h0;rcases ha with rfl | rfl | rfl | rfl | rfl | rfl | rfl | rfl | rfl | rfl | rfl | rfl | rfl <;> first | rfl | exact h0 _ (by simp)) Z<|.nt<|.rt<|?_
 exact y8 Z (.cell Z dA Hm rfl) λW s=>⟨Z,s.ext⟩
theorem JZ (H:Hp) {y1 y2 y3 y4:Value} (h0:∀ a∈[y1,y2,y3,y4],a.oneCell'=true) (w:World) (hA:Agr H w):Calls prg 209 #[.agg [y1,y2,y3,y4].toArray] w λr w'=>r=.returned (.agg [.bool false,.bool true,.int .i64 0,.string ⟨#[]⟩,.string ⟨#[]⟩,.int .i64 0,.int .i64 0,.slice none 0 0,.slice none 0 0,y1,y2,y3,y4].toArray)/\Ext w w':=by
 refine Sx.enter (H:=H) func209 rfl ntmps209 rfl hA ?_;refine .sr<|.bx Z Z Z λb1=>.al fD Z λb2=>.ns<|.yw (.loadW Z fT cR Z)<|.yw (.build Z (PQ _ _ _ _ _))<|.sW .head Z Z cZ (by intro a ha;simp only [bP,List.not_mem_nil,or_false] at ha h0;rcases ha with rfl | rfl | rfl | rfl | rfl | rfl | rfl | rfl | rfl | rfl | rfl | rfl | rfl <;> first | rfl | exact h0 _ (by simp)) Z<|.nt<|.rt<|?_
 exact y8 Z (.cell Z dA Hm rfl) λW s=>⟨Z,s.ext⟩
theorem zW:cV prg 63=true:=by kernel_rfl
theorem qE:cV prg 66=true:=by kernel_rfl
theorem aE5:cV prg 121=true:=by kernel_rfl
theorem kH:cV prg 123=true:=by kernel_rfl
theorem VE (x0:Int) (x6p:Option Addr) (x6n x6c:Nat):fK prg 27 [(0,.int .i64 x0),(6,.slice x6p x6n x6c)]=some [.int .i64 x0,.string ⟨#[]⟩,.string ⟨#[]⟩,.int .i64 0,.int .i64 0,.slice none 0 0,.slice x6p x6n x6c]:=by kernel_rfl
theorem OQ (x00 x01 x02 x03 x04 x05 x06 x10 x11 x12 x13 x14 x15 x16:Value):uO prg 25 2 [(0,.agg [x00,x01,x02,x03,x04,x05,x06].toArray),(1,.agg [x10,x11,x12,x13,x14,x15,x16].toArray)]=some (27,[x00,x01,x02,x03,x04,x05,x06,x10,x11,x12,x13,x14,x15,x16]):=by kernel_rfl
end Go.Proofs.YtidclioghdbphaaGreatDoor
