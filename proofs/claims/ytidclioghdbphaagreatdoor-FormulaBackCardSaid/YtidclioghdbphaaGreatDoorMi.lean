/- Texts of the proof, one behind the other. -/
import Derived.Test.YtidclioghdbphaaGreatDoorMh
import Derived.Test.YtidclioghdbphaaGreatDoorTie
import Derived.ProofKit
import Derived.OpenShut
import Derived.ShutString
import Derived.Lay
import Derived.Stop.LaidErr
import Derived.Stop.Joined
import Derived.Shelf.Vars
import Derived.Lib.LaidTab
import Derived.Lib.SmallJoins
import Derived.SevenTiedAt
import Derived.Test.YtidclioghdbphaaGreatDoorCards
set_option linter.all false
set_option maxRecDepth 100000
namespace Go.Proofs.YtidclioghdbphaaGreatDoor
open Go.RowKit Go.Par Go.Sx
def bnW (a b:Int64):Prop:=(a=0/\b=-1)\/(0<=a.toInt/\a.toInt<=b.toInt/\b.toInt<=200)
inductive Fg7:Fm->Prop
 | tf {op:UInt8} (h:op=1\/op=2):Fg7 (.mk op [] [] 0 0 [] [])
 | cmp {o:UInt8} {x y:Ex} (h:o∈([16,17,18,19,20,21]:List UInt8)) (hx:eL x=true) (hy:eL y=true):Fg7 (.mk 3 [] [] 0 0 [.mk o [] 0 [x,y]] [])
 | var {nm fd:Str}:Fg7 (.mk 4 nm fd 0 0 [] [])
 | has {nm fd:Str} {x:Ex} (hx:eL x=true):Fg7 (.mk 5 nm fd 0 0 [x] [])
 | flg {nm:Str}:Fg7 (.mk 6 nm [] 0 0 [] [])
 | arr {nm fd:Str} {ex:List Ex} (hl:ex.length<=4) (hx:∀ x∈ex,x=zE\/eL x=true):Fg7 (.mk 7 nm fd 0 0 ex [])
 | un {op:UInt8} {g:Fm} (h:op=8\/op=12):Fg7 (.mk op [] [] 0 0 [] [g])
 | win {op:UInt8} {a b:Int64} {g:Fm} (h:op=13\/op=14) (hw:bnW a b):Fg7 (.mk op [] [] a b [] [g])
 | amo {op:UInt8} {nm:Str} {a b:Int64} {g:Fm} (h:op=16\/op=17) (ha:-1000000<=a.toInt) (hb:-1000000<=b.toInt):Fg7 (.mk op nm [] a b [] [g])
 | cnt {nm:Str} {a b n:Int64} {g:Fm} (ha:-1000000<=a.toInt) (hb:-1000000<=b.toInt) (hn:0<=n.toInt):Fg7 (.mk 18 nm [] a b [.mk 1 [] n []] [g])
 | bin {op:UInt8} {g h:Fm} (ho:op=9\/op=10\/op=11):Fg7 (.mk op [] [] 0 0 [] [g,h])
 | snc {a b:Int64} {g h:Fm} (hw:bnW a b):Fg7 (.mk 15 [] [] a b [] [g,h])
theorem bX9 {op:UInt8} (h:op.toNat<=18):op∈([0,1,2,3,4,5,6,7,8,9,10,11,12,13,14,15,16,17,18]:List UInt8):=by
 revert h
 exact AS (q:=λop=>op.toNat<=18->op∈([0,1,2,3,4,5,6,7,8,9,10,11,12,13,14,15,16,17,18]:List UInt8)) (by decide +kernel) op
theorem bM1 {op:UInt8} (h:16<=op.toNat/\op.toNat<=21):op∈([16,17,18,19,20,21]:List UInt8):=by
 revert h
 exact AS (q:=λop=>16<=op.toNat/\op.toNat<=21->op∈([16,17,18,19,20,21]:List UInt8)) (by decide +kernel) op
theorem bQ4 {e:Ex} (h:HJ e=true):e=zE:=by
 obtain ⟨op,nm,n,args⟩:=e;simp only [HJ,aE,aD] at h;obtain ⟨⟨⟨rfl,rfl⟩,rfl⟩,h⟩:=h;rw [bI h];rfl
theorem LZ {α:Type} {l:List α} (h:l.length=1):∃ a,l=[a]:=List.length_eq_one_iff.1 h
theorem aR3 {α:Type} {l:List α} (h:l.length=2):∃ a b,l=[a,b]:=by
 match l,h with
 | [a,b],_=>exact ⟨a,b,Z⟩
variable {a:Int64}
theorem bV4 {op:UInt8} {nm fd:Str} {b:Int64} {ex:List Ex} {args:List Fm} (h:FN (.mk op nm fd a b ex args)=true):(((cK op).wn=true/\bnW a b)\/((cK op).wn=false/\(cK op).am=true/\-1000000<=a.toInt/\-1000000<=b.toInt))\/((cK op).wn=false/\(cK op).am=false/\a=0/\b=0):=by
 replace h:(if (cK op).wn=true then (decide (a=0) && decide (b.toInt=-1)) || (decide (0<=a.toInt) && decide (a.toInt<=b.toInt) && decide (b.toInt<=200))
  else if (cK op).am=true then decide (-1000000<=a.toInt) && decide (a.toInt<=b.toInt) && decide (b.toInt<=1000000) && decide (b.toInt - a.toInt<32)
  else decide (a=0) && decide (b=0))=true:=h
 cases hw:(cK op).wn with
 | true =>
  rw [aL hw] at h;simp only [bC,aE,aD] at h;refine .inl (.inl ⟨Z,?_⟩);rcases h with h | h
  ·exact .inl ⟨h.1,dR.1 h.2⟩
  ·exact .inr ⟨h.1.1,h.1.2,h.2⟩
 | false =>
  rw [aF (by rw [hw];decide)] at h;cases ha:(cK op).am with
  | true =>
   rw [aL ha] at h;simp only [aE,aD] at h;exact .inl (.inr ⟨Z,Z,by omega,by omega⟩)
  | false =>
   rw [aF (by rw [ha];decide)] at h;simp only [aE,aD] at h;exact .inr ⟨Z,Z,h.1,h.2⟩
theorem bQ1 {e:Ex} (h:IL e=true):∃ o x y,e=.mk o [] 0 [x,y]/\o∈([16,17,18,19,20,21]:List UInt8)/\eL x=true/\eL y=true:=by
 obtain ⟨o,nm,n,args⟩:=e;simp only [IL,aE,aD,rV] at h;obtain ⟨⟨⟨⟨h1,h2⟩,rfl⟩,rfl⟩,h3,h4⟩:=h;obtain ⟨x,y,rfl⟩:=aR3 h4;have h3':eL x=true/\eL y=true:=by simpa using h3
 exact ⟨o,x,y,Z,bM1 ⟨h1,h2⟩,h3'.1,h3'.2⟩
theorem QQ {op:UInt8} {nm fd:Str} {b:Int64} {ex:List Ex} {args:List Fm} (h:kY (.mk op nm fd a b ex args)=true):Fg7 (.mk op nm fd a b ex args):=by
 have hop:=bX9 (ZI h);have hB:=bV4 (kA h).2.2.2;have hE:=(kA h).2.2.1;have hA:=(kA h).2.1;have hL:=(kA h).1
 have hN:((cK op).nm=false->nm=[])/\((cK op).fd=false->fd=[]):=by
  unfold kY at h;rw [aE,aE,aE,aE,aE,bC,bC] at h;exact ⟨λe=>aH (h.1.1.1.1.2.resolve_left (by show ¬ (cK op).nm=true;rw [e];decide)),λe=>aH (h.1.1.1.2.resolve_left (by show ¬ (cK op).fd=true;rw [e];decide))⟩
 clear h
 replace hE:(if op=7 then decide (ex.length<=4) && ex.all λe=>HJ e || eL e
  else decide (ex.length=(cK op).ex) && (if op=3 then IL (ex.headD (.mk 0 [] 0 [])) else if op=5 then eL (ex.headD (.mk 0 [] 0 []))
  else if op=18 then decide ((ex.headD (.mk 0 [] 0 [])).op=1) && eL (ex.headD (.mk 0 [] 0 [])) && decide ((ex.headD (.mk 0 [] 0 [])).n.toInt<=32) else true))=true:=hE
 have ab:(cK op).wn=false->(cK op).am=false->a=0/\b=0:=λh1 h2=>by
  rcases hB with (⟨e,_⟩ | ⟨_,e,_⟩) | ⟨_,_,e⟩
  ·rw [h1] at e;cases e
  ·rw [h2] at e;cases e
  ·exact e
 have aw:(cK op).wn=true->bnW a b:=λh1=>by
  rcases hB with (⟨_,e⟩ | ⟨e,_⟩) | ⟨e,_⟩
  ·exact e
  ·rw [h1] at e;cases e
  ·rw [h1] at e;cases e
 have am:(cK op).wn=false->(cK op).am=true->-1000000<=a.toInt/\-1000000<=b.toInt:=λh1 h2=>by
  rcases hB with (⟨e,_⟩ | ⟨_,_,e⟩) | ⟨_,e,_⟩
  ·rw [h1] at e;cases e
  ·exact e
  ·rw [h2] at e;cases e
 clear hB;simp only [bQ,List.not_mem_nil,or_false] at hop
 have e0 {op:UInt8} (h7:¬ op=7) (h3:¬ op=3) (h5:¬ op=5) (h18:¬ op=18) (k:(cK op).ex=0) (hE:(if op=7 then decide (ex.length<=4) && ex.all λe=>HJ e || eL e
  else decide (ex.length=(cK op).ex) && (if op=3 then IL (ex.headD (.mk 0 [] 0 [])) else if op=5 then eL (ex.headD (.mk 0 [] 0 []))
  else if op=18 then decide ((ex.headD (.mk 0 [] 0 [])).op=1) && eL (ex.headD (.mk 0 [] 0 [])) && decide ((ex.headD (.mk 0 [] 0 [])).n.toInt<=32) else true))=true):ex=[]:=by
  rw [aF h7,aF h3,aF h5,aF h18,aC,aD,k] at hE;exact bI hE
 rcases hop with rfl | rfl | rfl | rfl | rfl | rfl | rfl | rfl | rfl | rfl | rfl | rfl | rfl | rfl | rfl | rfl | rfl | rfl | rfl
 ·exact absurd rfl hL
 ·obtain ⟨rfl,rfl⟩:=ab rfl rfl;obtain rfl:=hN.1 rfl;obtain rfl:=hN.2 rfl;obtain rfl:=e0 (by decide) (by decide) (by decide) (by decide) rfl hE;obtain rfl:=bI hA;exact .tf (.inl Z)
 ·obtain ⟨rfl,rfl⟩:=ab rfl rfl;obtain rfl:=hN.1 rfl;obtain rfl:=hN.2 rfl;obtain rfl:=e0 (by decide) (by decide) (by decide) (by decide) rfl hE;obtain rfl:=bI hA;exact .tf (.inr Z)
 ·obtain ⟨rfl,rfl⟩:=ab rfl rfl;obtain rfl:=hN.1 rfl;obtain rfl:=hN.2 rfl;obtain rfl:=bI hA;rw [aF (by decide),aL rfl,aE,aD] at hE;obtain ⟨e,rfl⟩:=LZ hE.1;obtain ⟨o,x,y,rfl,h1,h2,h3⟩:=bQ1 hE.2;exact .cmp h1 h2 h3
 ·obtain ⟨rfl,rfl⟩:=ab rfl rfl;obtain rfl:=e0 (by decide) (by decide) (by decide) (by decide) rfl hE;obtain rfl:=bI hA;exact .var
 ·obtain ⟨rfl,rfl⟩:=ab rfl rfl;obtain rfl:=bI hA;rw [aF (by decide),aF (by decide),aL rfl,aE,aD] at hE;obtain ⟨e,rfl⟩:=LZ hE.1;exact .has hE.2
 ·obtain ⟨rfl,rfl⟩:=ab rfl rfl;obtain rfl:=hN.2 rfl;obtain rfl:=e0 (by decide) (by decide) (by decide) (by decide) rfl hE;obtain rfl:=bI hA;exact .flg
 ·obtain ⟨rfl,rfl⟩:=ab rfl rfl;obtain rfl:=bI hA;rw [aL rfl,aE,aD] at hE;refine .arr hE.1 λx hx=>?_;have:=aW.1 hE.2 x hx;rw [bC] at this;exact this.imp bQ4 id
 ·obtain ⟨rfl,rfl⟩:=ab rfl rfl;obtain rfl:=hN.1 rfl;obtain rfl:=hN.2 rfl;obtain rfl:=e0 (by decide) (by decide) (by decide) (by decide) rfl hE;obtain ⟨g,rfl⟩:=LZ hA;exact .un (.inl Z)
 ·obtain ⟨rfl,rfl⟩:=ab rfl rfl;obtain rfl:=hN.1 rfl;obtain rfl:=hN.2 rfl;obtain rfl:=e0 (by decide) (by decide) (by decide) (by decide) rfl hE;obtain ⟨g,h,rfl⟩:=aR3 hA;exact .bin (.inl Z)
 ·obtain ⟨rfl,rfl⟩:=ab rfl rfl;obtain rfl:=hN.1 rfl;obtain rfl:=hN.2 rfl;obtain rfl:=e0 (by decide) (by decide) (by decide) (by decide) rfl hE;obtain ⟨g,h,rfl⟩:=aR3 hA;exact .bin (.inr (.inl Z))
 ·obtain ⟨rfl,rfl⟩:=ab rfl rfl;obtain rfl:=hN.1 rfl;obtain rfl:=hN.2 rfl;obtain rfl:=e0 (by decide) (by decide) (by decide) (by decide) rfl hE;obtain ⟨g,h,rfl⟩:=aR3 hA;exact .bin (.inr (.inr Z))
 ·obtain ⟨rfl,rfl⟩:=ab rfl rfl;obtain rfl:=hN.1 rfl;obtain rfl:=hN.2 rfl;obtain rfl:=e0 (by decide) (by decide) (by decide) (by decide) rfl hE;obtain ⟨g,rfl⟩:=LZ hA;exact .un (.inr Z)
 ·obtain rfl:=hN.1 rfl;obtain rfl:=hN.2 rfl;obtain rfl:=e0 (by decide) (by decide) (by decide) (by decide) rfl hE;obtain ⟨g,rfl⟩:=LZ hA;exact .win (.inl Z) (aw Z)
 ·obtain rfl:=hN.1 rfl;obtain rfl:=hN.2 rfl;obtain rfl:=e0 (by decide) (by decide) (by decide) (by decide) rfl hE;obtain ⟨g,rfl⟩:=LZ hA;exact .win (.inr Z) (aw Z)
 ·obtain rfl:=hN.1 rfl;obtain rfl:=hN.2 rfl;obtain rfl:=e0 (by decide) (by decide) (by decide) (by decide) rfl hE;obtain ⟨g,h,rfl⟩:=aR3 hA;exact .snc (aw Z)
 ·obtain rfl:=hN.2 rfl;obtain rfl:=e0 (by decide) (by decide) (by decide) (by decide) rfl hE;obtain ⟨g,rfl⟩:=LZ hA;exact .amo (.inl Z) (am Z Z).1 (am Z Z).2
 ·obtain rfl:=hN.2 rfl;obtain rfl:=e0 (by decide) (by decide) (by decide) (by decide) rfl hE;obtain ⟨g,rfl⟩:=LZ hA;exact .amo (.inr Z) (am Z Z).1 (am Z Z).2
 ·obtain rfl:=hN.2 rfl;obtain ⟨g,rfl⟩:=LZ hA;rw [aF (by decide),aF (by decide),aF (by decide),aL rfl,aE,aD] at hE;obtain ⟨e,rfl⟩:=LZ hE.1;have hE2:=hE.2;simp only [aU,aE,aD] at hE2;obtain ⟨o,m,n,al⟩:=e;obtain ⟨⟨ho,ht⟩,_⟩:=hE2;obtain rfl:o=1:=by first | exact ho | exact aH ho
  rcases OO ht with ⟨_,rfl,h3,rfl⟩ | ⟨k,_⟩ | ⟨k,_⟩ | ⟨k,_⟩ | ⟨k,_⟩ | ⟨k,_⟩
  ·exact .cnt (am Z Z).1 (am Z Z).2 h3
  ·cases k
  ·rcases k with k | k <;> cases k
  ·cases k
  ·cases k
  ·exact absurd k (by decide)
theorem QB {op:UInt8} {nm fd:Str} {b:Int64} {ex:List Ex} {args:List Fm} (h:wF (.mk op nm fd a b ex args)=true):((cK op).nm=true->fN nm=true)/\((cK op).fd=true->fN fd=true)/\∀ e∈ex,qK e=false:=by
 replace h:(!((cK op).nm && !fN nm || (cK op).fd && !fN fd) && !HY ex)=true:=h;simp only [aE,dS,sM,xY,Bool.not_eq_false'] at h;obtain ⟨⟨h1,h2⟩,h3⟩:=h;refine ⟨λe=>h1.resolve_left (by rw [e];decide),λe=>h2.resolve_left (by rw [e];decide),λe he=>?_⟩;rw [GK] at h3;cases hm:qK e with
 | false=>rfl
 | true=>rw [fW.2 ⟨e,he,hm⟩] at h3;cases h3
section
variable {l:Tks} {r r' r1 r2 ra:Rq} {w w':Str} {k:UInt8} {N x n:Fn} {m:Bool} {i j b:Nat}
def Sps (l:Tks):Rq->List Kt->Rq->Prop
 | r,[],r'=>r.er=0/\r'=r
 | r,x::ks,r'=>(r.er=0/\kt (tkf l r.i)=x)/\Sps l r.nx ks r'
theorem qX:∀ {ks:List Kt} {r r':Rq},Sps l r ks r'->r.er=0/\r'.er=0
 | [],_,_,⟨h,e⟩=>by subst e;exact ⟨h,h⟩
 | _::_,_,_,⟨h,h2⟩=>⟨h.1,(qX h2).2⟩
theorem mO:∀ {a b:List Kt} {r r':Rq},Sps l r (a++b) r'->∃ m,Sps l r a m/\Sps l m b r'
 | [],_,r,_,h=>⟨r,⟨(qX h).1,Z⟩,h⟩
 | _::_,_,_,_,⟨h,h2⟩=>by
  obtain ⟨m,p,q⟩:=mO h2;exact ⟨m,⟨h,p⟩,q⟩
theorem aM7:∀ (ks:List Kt) (i:Nat),(∀ j (h:j<ks.length),kt (tkf l (i+j))=ks[j])->Sps l ⟨i,0,0⟩ ks ⟨i+ks.length,0,0⟩
 | [],_,_=>⟨Z,Z⟩
 | x::ks,i,h=>by
  refine ⟨⟨Z,h 0 (by simp)⟩,?_⟩
  have:=aM7 ks (i+1) λj hj=>by
   have:=h (j+1) (by simpa using hj);rw [show i+1+j=i+(j+1) by omega,this];rfl
  rw [aJ,show i+(ks.length+1)=i+1+ks.length by omega];exact this
theorem MA {t:Tk} (h:kt t=(k,w)):t.k=k:=congrArg Prod.fst h
theorem aR6 {t:Tk} (h:kt t=(k,w)):t.t=w:=congrArg Prod.snd h
theorem uL (h:r.er=0/\kt (tkf l r.i)=(k,w)) (hk:k=2\/k=4):r.ac l w=true:=by
 unfold Rq.ac Rq.is;rw [MA h.2,aR6 h.2,aS h.1];rcases hk with rfl | rfl <;> simp
theorem bI0 (h:r.er=0/\kt (tkf l r.i)=(k,w)) (hn:¬ w=w'):r.ac l w'=false:=by
 unfold Rq.ac Rq.is;rw [aR6 h.2,aP hn,Bool.and_false,Bool.and_false]
theorem bZ1 (h:r.er=0/\kt (tkf l r.i)=(k,w)) (hn:k=1\/k=3):r.ac l w'=false:=TM (by rw [MA h.2];rcases hn with rfl | rfl <;> decide)
theorem FU (h:r.er=0/\kt (tkf l r.i)=(k,w)) (hk:k=2\/k=4):r.exS l w=r.nx:=NK (uL h hk)
theorem IG (h:r.er=0/\kt (tkf l r.i)=(1,w)):r.nmS l=r.nx:=TA h.1 (MA h.2)
theorem BH (h:r.er=0/\kt (tkf l r.i)=(1,w)):r.nmV l=w:=by rw [aQ0 h.1 (MA h.2),aR6 h.2]
theorem bW2 {u:Nat} (h:r.er=0/\kt (tkf l r.i)=(3,Lib.decDigits u)) (hu:u<=9223372036854775807):r.nbS l=r.nx/\r.nbV l=Int64.ofNat u:=by
 have h1:r.nbB l=true:=by unfold Rq.nbB;rw [aS h.1,aS (MA h.2)];rfl
 have h2:r.fit l=true:=by unfold Rq.fit;rw [aR6 h.2,xG];exact aS hu
 unfold Rq.nbS Rq.nbV;rw [aL h1,aL h2,h1,h2,aR6 h.2,xG];exact ⟨Z,Z⟩
theorem bS6 {n:Int64} (h:0<=n.toInt):Int64.ofNat n.toInt.toNat=n:=by
 have:=n.toInt_lt;exact dR.1 (by rw [fR (by omega)];omega)
theorem aY5 {n:Int64} (h:r.er=0/\kt (tkf l r.i)=(3,Lib.itoa n.toInt)) (hn:0<=n.toInt):r.nbS l=r.nx/\r.nbV l=n:=by
 rw [Lib.itoa,aF (by omega)] at h;have:=n.toInt_lt;have:=bW2 h (by omega);rw [bS6 hn] at this;exact this
def bU1:List Str:=[[91],[41],[95]]
def bI7:List Str:=[[110,111,116],[112,114,101,118,105,111,117,115],[111,110,99,101],[97,108,119,97,121,115],[102,111,114,97,108,108],[101,120,105,115,116,115],[99,111,117,110,116]]
theorem mJ {L:List Str} (h:r.ac l w=true) (hn:∀ x∈L,w≠x):∀ x∈L,r.ac l x=false:=λx hx=>uT h (hn x hx)
theorem AZ {nt:Nt} (g:Gd l nt r n m r'):∀ k,nt=.lev k->r'.er=0->(∀ x∈bU1,r.ac l x=false)/\(6<=k->∀ x∈bI7,r.ac l x=false)/\(k=10->r.ac l [45]=false):=by
 have b0:∀ {nt:Nt} {r r':Rq} {n:Fn} {m:Bool},Gd l nt r n m r'->r'.er=0->r.er=0:=λg e=>Classical.byContradiction λh=>h (by rw [<-BA g h];exact e);induction g with
 | seq hk h1 h2 i1 i2 =>
  rintro k' e e2;cases e;obtain ⟨a,b,_⟩:=i1 _ rfl (b0 h2 e2);exact ⟨a,λh=>b (by omega),λh=>by omega⟩
 | outJ=>rintro _ e _;cases e
 | outA=>rintro _ e _;cases e
 | join=>rintro _ e _;cases e
 | ari=>rintro _ e _;cases e
 | @pre w op r r1 x m hp h h1 =>
  rintro k' e e2;cases e;refine ⟨mJ h ?_,λh=>by omega,λh=>by omega⟩;have:∀ p∈II,∀ x∈bU1,p.1≠x:=by decide
  exact this _ hp
 | cnt h =>
  rintro k' e e2;cases e;exact ⟨mJ h (by decide),λh=>by omega,λh=>by omega⟩
 | cmp0 hp hc h1 i1 =>
  rintro k' e e2;cases e;exact ⟨(i1 _ rfl e2).1,λh=>by omega,λh=>by omega⟩
 | cm0 h1 h i1 =>
  rintro k' e e2;cases e;exact ⟨(i1 _ rfl e2).1,λ_=>(i1 _ rfl e2).2.1 (by decide),λh=>by omega⟩
 | cm1 hi h1 h h2 i1 i2 =>
  rintro k' e e2;cases e;have e1:=jE h;exact ⟨(i1 _ rfl e1).1,λ_=>(i1 _ rfl e1).2.1 (by decide),λh=>by omega⟩
 | neg h =>
  rintro k' e e2;cases e;exact ⟨mJ h (by decide),λ_=>mJ h (by decide),λh=>by omega⟩
 | pri h h1 i1 =>
  rintro k' e e2;cases e;exact ⟨(i1 _ rfl e2).1,λ_=>(i1 _ rfl e2).2.1 (by decide),λh=>by omega⟩
 | bad h=>rintro k' e e2;exact absurd e2 h
 | num h hk =>
  rintro k' e e2;have:=λw=>TM (l:=l) (w:=w) (by rw [hk];decide);exact ⟨λx _=>this x,λ_ x _=>this x,λ_=>this _⟩
 | now h=>rintro k' e e2;exact ⟨mJ h (by decide),λ_=>mJ h (by decide),λ_=>uT h (by decide)⟩
 | tru h=>rintro k' e e2;exact ⟨mJ h (by decide),λ_=>mJ h (by decide),λ_=>uT h (by decide)⟩
 | fal h=>rintro k' e e2;exact ⟨mJ h (by decide),λ_=>mJ h (by decide),λ_=>uT h (by decide)⟩
 | flg h=>rintro k' e e2;exact ⟨mJ h (by decide),λ_=>mJ h (by decide),λ_=>uT h (by decide)⟩
 | has h=>rintro k' e e2;exact ⟨mJ h (by decide),λ_=>mJ h (by decide),λ_=>uT h (by decide)⟩
 | arr0 h=>rintro k' e e2;exact ⟨mJ h (by decide),λ_=>mJ h (by decide),λ_=>uT h (by decide)⟩
 | arr h=>rintro k' e e2;exact ⟨mJ h (by decide),λ_=>mJ h (by decide),λ_=>uT h (by decide)⟩
 | siz h=>rintro k' e e2;exact ⟨mJ h (by decide),λ_=>mJ h (by decide),λ_=>uT h (by decide)⟩
 | par h=>rintro k' e e2;exact ⟨mJ h (by decide),λ_=>mJ h (by decide),λ_=>uT h (by decide)⟩
 | nam0 h hk =>
  rintro k' e e2;have:=λw=>TM (l:=l) (w:=w) (by rw [hk];decide);exact ⟨λx _=>this x,λ_ x _=>this x,λ_=>this _⟩
 | nam1 h hk =>
  rintro k' e e2;have:=λw=>TM (l:=l) (w:=w) (by rw [hk];decide);exact ⟨λx _=>this x,λ_ x _=>this x,λ_=>this _⟩
 | get h hk =>
  rintro k' e e2;have:=λw=>TM (l:=l) (w:=w) (by rw [hk];decide);exact ⟨λx _=>this x,λ_ x _=>this x,λ_=>this _⟩
 | non=>rintro k' e e2;exact absurd e2 (tZ (by decide))
 | arU=>rintro _ e _;cases e
 | arT=>rintro _ e _;cases e
 | afC=>rintro _ e _;cases e
 | afE=>rintro _ e _;cases e
def cuL:List (Nat × Str):=[(20,[46]),(20,[91]),(1,[105,109,112,108,105,101,115]),(2,[111,114]),(3,[97,110,100]),(4,[115,105,110,99,101]),(6,[61,61]),(6,[33,61]),(6,[60]),(6,[60,61]),(6,[62]),(6,[62,61]),(7,[43]),(7,[45]),(8,[42]),(8,[47]),(8,[37])]
def Nx (l:Tks) (k:Nat) (r:Rq):Prop:=∀ x∈cuL,k<=x.1->r.ac l x.2=false
theorem Nx.up (h:Nx l i r) (hj:i<=j):Nx l j r:=λx hx hk=>h x hx (aZ hj hk)
theorem Nx.n9 (h:Nx l 10 r):Nx l 9 r:=λx hx hk=>h x hx ((show ∀ x∈cuL,9<=x.1->10<=x.1 by decide) x hx hk)
theorem Nx.n5 (h:Nx l 6 r):Nx l 5 r:=λx hx hk=>h x hx ((show ∀ x∈cuL,5<=x.1->6<=x.1 by decide) x hx hk)
theorem Nx.tok (h:r.er=0/\kt (tkf l r.i)=(k,w)) (hn:∀ x∈cuL,j<=x.1->¬ w=x.2):Nx l j r:=λx hx hk=>bI0 h (hn x hx hk)
theorem Nx.fin (h:(tkf l r.i).k=0):Nx l j r:=λx _ _=>TM (by rw [h];decide)
theorem Nx.dot (h:Nx l j r) (hj:j<=20):r.ac l [46]=false:=h (20,[46]) (by decide) hj
theorem Nx.brk (h:Nx l j r) (hj:j<=20):r.ac l [91]=false:=h (20,[91]) (by decide) hj
def lpB (j:Nat):Prop:=(1<=j/\j<=4)\/j=7\/j=8
theorem bN2 (h:1<=j/\j<=4):(j,joW j)∈cuL:=by
 have:j=1\/j=2\/j=3\/j=4:=by omega
 rcases this with rfl | rfl | rfl | rfl <;> decide
theorem bH7 (h:HI j i):(j,lR.getD i [])∈cuL:=by
 rcases h with ⟨rfl,rfl | rfl⟩ | ⟨rfl,rfl | rfl | rfl⟩ <;> decide
theorem bH5 (h:16<=i) (h2:i<=21):(6,lR.getD i [])∈cuL:=by
 have:i=16\/i=17\/i=18\/i=19\/i=20\/i=21:=by omega
 rcases this with rfl | rfl | rfl | rfl | rfl | rfl <;> decide
def Rl (l:Tks) (j:Nat) (r:Rq) (N:Fn) (r':Rq):Prop:=(lpB j->∀ n m r2,Gd l (.lp j N) r' n m r2->Gd l (.lev j) r n m r2)/\(¬ lpB j->Gd l (.lev j) r N false r')
theorem Rl.full (h:Rl l j r N r') (hx:Nx l j r'):Gd l (.lev j) r N false r':=by
 by_cases hj:lpB j
 ·refine h.1 hj _ _ _ ?_;rcases hj with hj | hj
  ·exact .outJ hj (hx _ (bN2 hj) (aY _))
  ·exact .outA hj λi hi=>hx _ (bH7 hi) (aY _)
 ·exact h.2 hj
theorem Rl.of10 (h:Gd l (.lev 10) r N false r'):Rl l 10 r N r':=⟨λe=>by unfold lpB at e;omega,λ_=>h⟩
theorem Rl.dn (h:Gd l (.lev (j+1)) r N false r') (e:r'.er=0) (hj:1<=j/\j<=9) (hx:j=6->Nx l 6 r'):Rl l j r N r':=by
 refine ⟨λhl n m r2 g=>?_,λhl=>?_⟩
 ·exact Gd.seq hl h g
 ·obtain ⟨f1,f2,f3⟩:=AZ h _ rfl e;have:j=5\/j=6\/j=9:=by unfold lpB at hl;omega
  rcases this with rfl | rfl | rfl
  ·have f2:=f2 (by decide);refine .cmp0 (λw op hw=>f2 w ?_) (f2 _ (by decide)) h;have:∀ p∈II,p.1∈bI7:=by decide
   exact this _ hw
  ·exact .cm0 h λi h1 h2=>hx Z _ (bH5 h1 h2) (aY _)
  ·exact .pri (f3 Z) h
theorem Rl.go:∀ {d j:Nat},Rl l (j+d) r N r'->r'.er=0->1<=j->j+d<=10->Nx l (j+1) r'->(j<=6->Nx l 6 r')->Rl l j r N r'
 | 0,_,h,_,_,_,_,_=>h
 | d+1,j,h,e,h1,hb,hx,h6=>by
  have k:=Rl.go (j:=j+1) (d:=d) (by rw [show j+1+d=j+(d+1) by omega];exact h) e (by omega) (by omega) (hx.up (by omega)) (λhj=>h6 (by omega));exact .dn (k.full hx) e ⟨h1,by omega⟩ (λe=>h6 (by omega))
theorem Rl.to (h:Rl l b r N r') (e:r'.er=0) (h1:1<=j) (hj:j<=b) (hb:b<=10) (hx:Nx l (j+1) r') (h6:j<=6->Nx l 6 r'):Rl l j r N r':=by
 obtain ⟨d,rfl⟩:∃ d,b=j+d:=⟨b - j,by omega⟩;exact h.go e h1 hb hx h6
theorem Rl.at (h:Rl l b r N r') (e:r'.er=0) (h1:1<=j) (hj:j<=b) (hb:b<=10) (hx:Nx l j r'):Gd l (.lev j) r N false r':=(h.to e h1 hj hb (hx.up (by omega)) (λk=>hx.up k)).full hx
theorem aO9 {ks:List Kt} (h:Sps l r ((4,[40])::(ks++[(4,[41])])) r') (hg:∀ m,Sps l r.nx ks m->Nx l 1 m->Gd l (.lev 1) r.nx N false m):Rl l 10 r N r':=by
 obtain ⟨t0,h⟩:=h;obtain ⟨m,h1,t1,e,rfl⟩:=mO h;have g:=Gd.par (uL t0 (.inr Z)) (hg m h1 (.tok t1 (by decide)));have e1:m.exS l [41]=m.nx:=FU t1 (.inr Z);rw [e1] at g;exact .of10 g
end
section
variable {l:Tks} {r r' ra m:Rq} {w w':Str} {i j:Nat}
def ndE (e:Ex):Fn:=if e.op=5 then (match eI e.nm with | some (a,b)=>⟨true,true,.mk 4 a b 0 0 [] [],e⟩ | none=>vlN e) else vlN e
theorem tI (e:Ex):(ndE e).e=e/\(ndE e).tm=true:=by
 unfold ndE
 split
 ·cases eI e.nm <;> exact ⟨Z,Z⟩
 ·exact ⟨Z,Z⟩
theorem bM6 {op:UInt8} {nm:Str} {n:Int64} {args:List Ex} (h:¬ op=5):ndE (.mk op nm n args)=vlN (.mk op nm n args):=aF h
def Td (l:Tks) (e:Ex):Prop:=∀ r r',Sps l r (tqT e) r'->Nx l (tlv e.op+4) r'->Rl l (tlv e.op+3) r (ndE e) r'
theorem yW (op:UInt8):4<=tlv op:=by
 unfold tlv
 split
 ·omega
 split
 ·omega
 split <;> omega
theorem OU {a:Ex} (h:Td l a) {b:Bool} (hj:7<=j/\j<=9) (hb:b=false->j<=tlv a.op+3) (s:Sps l r (prQ b (tqT a)) r') (hx:Nx l (j+1) r'):Rl l j r (ndE a) r':=by
 have e:=(qX s).2;have h1:=yW a.op;have h2:=GF a.op;cases b with
 | true =>
  have:=aO9 (N:=ndE a) (show Sps l r ((4,[40])::(tqT a++[(4,[41])])) r' from s) λm sm hm=>(h _ _ sm (hm.up (by omega))).at (qX sm).2 (aY _) (by omega) (by omega) hm;exact this.to e (by omega) (by omega) (aY _) hx (λk=>by omega)
 | false =>
  have:=hb rfl;exact (h _ _ s (hx.up (by omega))).to e (by omega) this (by omega) hx (λk=>by omega)
theorem MD {p q:Prop} [Decidable p] (h:¬ p->q) (e:decide p=false):q:=h (aN e)
theorem WQ {a b:Str} (t0:r.er=0/\kt (tkf l r.i)=(1,a)) (t2:r.nx.nx.er=0/\kt (tkf l r.nx.nx.i)=(1,b)):r.ful l=a++([46]:Str)++b:=by
 unfold Rq.ful;rw [IG t0,BH t0,BH t2]
theorem bS7 {nm:Str} (s:Sps l r (tqN nm) r') (hx:Nx l 11 r'):Gd l (.lev 10) r (ndE (.mk 5 nm 0 [])) false r':=by
 unfold tqN at s;unfold ndE;rw [aL (show (Ex.mk 5 nm 0 []).op=5 from rfl)];show Gd l (.lev 10) r (match eI nm with | some (a,b)=>⟨true,true,.mk 4 a b 0 0 [] [],.mk 5 nm 0 []⟩ | none=>vlN (.mk 5 nm 0 [])) false r';cases hs:eI nm with
 | none =>
  rw [hs] at s;obtain ⟨t0,e,rfl⟩:=s;have g:=Gd.nam0 t0.1 (MA t0.2) (hx.dot (by omega));rw [BH t0] at g;exact g
 | some x =>
  obtain ⟨a,b⟩:=x;rw [hs] at s;obtain ⟨t0,t1,t2,e,rfl⟩:=s;have e2:r.nx.nx.nmS l=r.nx.nx.nx:=IG t2;have g:=Gd.nam1 t0.1 (MA t0.2) (uL t1 (.inr Z)) (by rw [e2];exact hx.brk (by omega));rw [e2,BH t0,BH t2,WQ t0 t2,<-sF hs] at g;exact g
theorem aP0 {a b:Str} (t0:r.er=0/\kt (tkf l r.i)=(1,a)) (t1:r.nx.er=0/\kt (tkf l r.nx.i)=(4,[46])) (t2:r.nx.nx.er=0/\kt (tkf l r.nx.nx.i)=(1,b)):r.paS l=r.nx.nx.nx/\r.paN l=a/\r.paF l=b:=by
 unfold Rq.paS Rq.paN Rq.paF;rw [IG t0,BH t0,FU t1 (.inr Z),IG t2,BH t2];exact ⟨Z,Z,Z⟩
theorem VO (e:Ex):eL e=true->qK e=false->Td l e:=by
 induction e using Ex.ind with
 | _ op nm n args ih =>
  intro h hm r r' s hx;obtain ⟨m1,m2,m3⟩:=GJ hm;rw [aK8] at s;rcases OO h with ⟨rfl,rfl,hn,rfl⟩ | ⟨rfl,rfl,rfl,rfl⟩ | ⟨ho,rfl,rfl⟩ | ⟨rfl,rfl,a,rfl,ha⟩ | ⟨rfl,rfl,rfl,a,rfl,ha⟩ | ⟨ho,rfl,rfl,a,b,rfl,ha,hb⟩
  ·obtain ⟨t0,e,rfl⟩:=s;have g:=Gd.num t0.1 (MA t0.2);have h1:=aY5 t0 hn;rw [h1.1,h1.2] at g;exact .of10 g
  ·obtain ⟨t0,e,rfl⟩:=s;exact .of10 (Gd.now (uL t0 (.inl Z)))
  ·rcases ho with rfl | rfl
   ·exact .of10 (bS7 s hx)
   ·have hS:=m2 (.inr Z);obtain ⟨t0,s⟩:=(show Sps l r ((2,[115,105,122,101])::tqN nm) r' from s);unfold tqN at s;cases hs:eI nm with
    | none=>rw [hs] at hS;cases hS
    | some x =>
     obtain ⟨a,b⟩:=x;rw [hs] at s;obtain ⟨t1,t2,t3,e,rfl⟩:=s;have g:=Gd.siz (uL t0 (.inl Z));obtain ⟨p1,p2,p3⟩:=aP0 t1 t2 t3;rw [p1,p2,p3] at g;have e3:=sF hs;rw [<-e3] at g;exact .of10 g
  ·have hS:=m2 (.inl Z);obtain ⟨m,s0,s⟩:=mO (show Sps l r (tqN nm++((4,[91])::(tqT a++[(4,[93])]))) r' from s);obtain ⟨t3,s⟩:=s;obtain ⟨m',s1,t4,e,rfl⟩:=mO s;unfold tqN at s0;cases hs:eI nm with
   | none=>rw [hs] at hS;cases hS
   | some x =>
    obtain ⟨p,q⟩:=x;rw [hs] at s0;obtain ⟨t0,t1,t2,e0,rfl⟩:=s0;have e2:r.nx.nx.nmS l=r.nx.nx.nx:=IG t2;have hx7:Nx l 7 m':=.tok t4 (by decide);have g1:=(ih a (by simp) ha (m3 a (by simp)) _ _ s1 (hx7.up (by have:=yW a.op;omega))).at (qX s1).2 (by omega) (show 7<=tlv a.op+3 by have:=yW a.op;omega) (by have:=GF a.op;omega) hx7;have g:=Gd.get t0.1 (MA t0.2) (uL t1 (.inr Z)) (by rw [e2];exact uL t3 (.inr Z)) (by rw [e2];exact g1);rw [WQ t0 t2,(tI a).1,(tI a).2,FU t4 (.inr Z)] at g;rw [<-sF hs] at g;exact .of10 g
  ·obtain ⟨t0,s⟩:=(show Sps l r ((4,[45])::prQ (decide (tlv a.op<6)) (tqT a)) r' from s);have g1:=(OU (j:=9) (ih a (by simp) ha (m3 a (by simp))) (by decide) (MD (by omega)) s hx).full (Nx.n9 hx);have g:=Gd.neg (uL t0 (.inr Z)) g1;rw [(tI a).1,(tI a).2] at g;exact ⟨λe=>absurd (show lpB 9 from e) (by unfold lpB;decide),λ_=>g⟩
  ·have ho2:op=11\/op=12\/op=13\/op=14\/op=15:=by simpa using ho
   have e1:tqO op [] 0 ([a,b].map λe=>(e.op,tqT e))=prQ (decide (tlv a.op<tlv op)) (tqT a)++(4,wZ op)::prQ (decide (tlv b.op<tlv op+1)) (tqT b):=by
    rcases ho2 with rfl | rfl | rfl | rfl | rfl <;> rfl
   rw [e1] at s;obtain ⟨ra,sa,t0,sb⟩:=mO s;have hlv:tlv op=4\/tlv op=5:=by rcases ho2 with rfl | rfl | rfl | rfl | rfl <;> decide
   have hxa:Nx l (tlv op+3+1) ra:=.tok t0 (by rcases ho2 with rfl | rfl | rfl | rfl | rfl <;> decide);have A:=OU (j:=tlv op+3) (ih a (by simp) ha (m3 a (by simp))) (by omega) (MD (by omega)) sa hxa;have B:=(OU (j:=tlv op+3+1) (ih b (by simp) hb (m3 b (by simp))) (by omega) (MD (by omega)) sb (hx.up (Nat.le_succ _))).full hx;have hl:lpB (tlv op+3):=by unfold lpB;omega
   have hk:HI (tlv op+3) op.toNat:=by unfold HI;rcases ho2 with rfl | rfl | rfl | rfl | rfl <;> decide
   refine ⟨λ_ n m r2 g=>?_,λe=>absurd hl e⟩;have hy:ra.ac l (lR.getD op.toNat [])=true:=uL t0 (.inr Z)
   have g':Gd l (.lp (tlv op+3) (vlN (opB op.toNat [(ndE a).e,(ndE b).e]))) r' n m r2:=by
    rw [(tI a).1,(tI b).1];unfold opB;rw [gZ];rw [bM6 (by rcases ho2 with rfl | rfl | rfl | rfl | rfl <;> decide)] at g;exact g
   have G:=Gd.ari hk hy B g';rw [(tI a).2,(tI b).2] at G;exact A.1 hl _ _ _ G
end
theorem IR:∀ op∈([1,2,8,9,10,11,12,13,14,15,16,17,18]:List UInt8),iB op∈words:=by decide +kernel
theorem bM2 {o:UInt8} (h:o∈([16,17,18,19,20,21]:List UInt8)):o∈([11,12,13,14,15,16,17,18,19,20,21]:List UInt8):=by
 simp only [bQ,List.not_mem_nil,or_false] at h;rcases h with rfl | rfl | rfl | rfl | rfl | rfl <;> decide
variable {r:Str} {ks:List Kt}
variable {s:Str}
theorem LxN.app {q:List Kt} (h:LxN s q) (hr:rI r) (hk:Lx r ks):Lx (s++r) (q++ks):=(h r ks hr hk).1
theorem aQ4 {op:UInt8} {b:Int64} {g:List Fm} (hw:bnW a b) (hr:rI r) (hk:Lx r ks) :
 Lx (vJ (.mk op [] [] a b [] g)++r) (AK (.mk op [] [] a b [] g)++ks)/\rI (vJ (.mk op [] [] a b [] g)++r):=by
 unfold vJ AK
 split
 ·exact ⟨hk,hr⟩
 ·rename_i h;simp only [bC,aD,tV,Fm.b] at h
  have hab:0<=a.toInt/\0<=b.toInt:=by
   rcases hw with ⟨rfl,rfl⟩ | hw
   ·exact absurd (aS (by decide)) h.2
   ·omega
  simp only [bD,aV,bW,Fm.a,Fm.b];obtain ⟨k1,_⟩:=KK (n:=b) hab.2 (r:=93::r) (k:=(4,[93])::ks) (EN HH) (.sy (by decide) hr.hd hk);obtain ⟨k2,k3⟩:=KK (n:=a) hab.1 (r:=44::32::(Lib.itoa b.toInt++93::r)) (EN (kQ (by decide))) (.sy (c:=44) (by decide) iO.hd (.sp k1));exact ⟨.sy (by decide) k3 k2,DM⟩
theorem aR0 {op:UInt8} {nm:Str} {b:Int64} {ex:List Ex} {g:List Fm} (hn:fN nm=true) (hr:rI r) (hk:Lx r ks) :
 Lx (FP (.mk op nm [] a b ex g)++r) (IM (.mk op nm [] a b ex g)++ks)/\rI (FP (.mk op nm [] a b ex g)++r):=by
 unfold FP IM;simp only [bD,aV,bW,Fm.a,Fm.b,Fm.nm];obtain ⟨k1,_⟩:=aQ6 (n:=b) (EN hr) hk;have k2:Lx (46::46::(Lib.itoa b.toInt++r)) ((4,[46,46])::(WL b.toInt++ks)):=.tok (x:=(4,[46,46])) bK8 k1;obtain ⟨k3,_⟩:=aQ6 (n:=a) (λd e=>by cases e;decide) k2;exact ⟨.sp (.nm hn iO (.sp (.kw (w:=[105,110]) (by decide) iO (.sp k3)))),iO⟩
theorem aQ9 (hk:Lx r ks):Lx (tmT zE++r) (tqT zE++ks)/\hdB (tmT zE++r):=⟨.tok (x:=(4,[95])) bK7 hk,fJ (by decide)⟩
theorem aQ8:∀ {l:List Ex},(∀ x∈l,(x=zE\/eL x=true)/\qK x=false)->∀ {r:Str} {ks:List Kt},rI r->Lx r ks->Lx (wK [44,32] (l.map tmT)++r) (DH (l.map tqT)++ks)/\hdB (wK [44,32] (l.map tmT)++r)
 | [],_,r,ks,hr,hk=>⟨hk,hr.hd⟩
 | [x],h,r,ks,hr,hk=>by
  obtain ⟨h1,h2⟩:=h x (by simp);rcases h1 with rfl | h1
  ·exact aQ9 hk
  ·exact TG x h1 h2 r ks hr hk
 | x::y::l,h,r,ks,hr,hk=>by
  obtain ⟨k1,_⟩:=aQ8 (l:=y::l) (λz hz=>h z (bS _ hz)) hr hk;have k2:Lx (44::32::(wK [44,32] ((y::l).map tmT)++r)) ((4,[44])::(DH ((y::l).map tqT)++ks)):=.sy (by decide) iO.hd (.sp k1)
  have e1:wK [44,32] ((x::y::l).map tmT)++r=tmT x++44::32::(wK [44,32] ((y::l).map tmT)++r):=by
   show (tmT x++[44,32]++wK [44,32] ((y::l).map tmT))++r=_;simp only [bD,aV,bW]
  have e2:DH ((x::y::l).map tqT)++ks=tqT x++(4,[44])::(DH ((y::l).map tqT)++ks):=by
   show (tqT x++(4,[44])::DH ((y::l).map tqT))++ks=_;simp only [bD,aV]
  rw [e1,e2];obtain ⟨h1,h2⟩:=h x (by simp);rcases h1 with rfl | h1
  ·exact aQ9 k2
  ·exact TG x h1 h2 _ _ (kQ (by decide)) k2
theorem bS9 (f:Fm):Fm.all kY f=true->Fm.all wF f=true->LxN (fmT f) (tqF f):=by
 induction f using Fm.ind with
 | _ op nm fd a b ex args ih =>
  intro hf hn r ks hr hk;obtain ⟨hf,hfs⟩:=yI hf;rw [rT,aE,aW] at hn;obtain ⟨hn,hns⟩:=hn;obtain ⟨n1,n2,n3⟩:=QB hn;have ih':∀ g∈args,LxN (fmT g) (tqF g):=λg hg=>ih g hg (hfs g hg) (hns g hg);have hg:=QQ hf;clear ih hfs hns hf hn;generalize e:Fm.mk op nm fd a b ex args=f at hg|-;cases hg with
  | @tf op' h =>
   cases e;rcases h with rfl | rfl
   ·exact ⟨Lx.kw (w:=[116,114,117,101]) (by decide) hr hk,tJ (w:=[116,114,117,101]) (by decide)⟩
   ·exact ⟨Lx.kw (w:=[102,97,108,115,101]) (by decide) hr hk,tJ (w:=[102,97,108,115,101]) (by decide)⟩
  | @cmp o x y h hx hy =>
   cases e;have hm:=n3 _ (bV.2 rfl);have m3:=(GJ hm).2.2;obtain ⟨k1,_⟩:=TG y hy (m3 y (by simp)) r ks hr hk;have k2:=aQ5 (op:=o) (bM2 h) k1;obtain ⟨k3,k4⟩:=TG x hx (m3 x (by simp)) _ _ iO k2
   have e1:fmT (.mk 3 [] [] 0 0 [.mk o [] 0 [x,y]] [])++r=tmT x++([32]++(wZ o++([32]++(tmT y++r)))):=by
    rw [fx3 (args0:=[x,y]) rfl rfl (by simp) (by simp)];simp only [bD];rfl
   have e2:tqF (.mk 3 [] [] 0 0 [.mk o [] 0 [x,y]] [])++ks=tqT x++(4,wZ o)::(tqT y++ks):=by
    rw [CR];show (tqT x++(4,wZ o)::tqT y)++ks=_;simp only [bD,aV]
   rw [e1,e2];exact ⟨k3,k4⟩
  | var =>
   cases e;have e1:fmT (.mk 4 nm fd 0 0 [] [])++r=nm++46::(fd++r):=by rw [fx4 rfl];simp
   rw [e1];exact ⟨.nw (n1 rfl) (λc e=>by cases e;decide) (.sy (by decide) (sZ (n2 rfl)) (.nm (n2 rfl) hr hk)),sZ (n1 rfl)⟩
  | @has nm' fd' x hx =>
   cases e;obtain ⟨k1,k2⟩:=TG x hx (n3 x (by simp)) (93::r) ((4,[93])::ks) HH (.sy (by decide) hr.hd hk)
   have e1:fmT (.mk 5 nm fd 0 0 [x] [])++r=[104,97,115]++32::(nm++46::(fd++91::(tmT x++93::r))):=by
    rw [fx5 rfl rfl];show ([104,97,115]++[32]++nm++[46]++fd++[91]++tmT x++[93]:Str)++r=_;simp only [bD,aV,bW]
   have e2:tqF (.mk 5 nm fd 0 0 [x] [])++ks=(2,[104,97,115])::(1,nm)::(4,[46])::(1,fd)::(4,[91])::(tqT x++(4,[93])::ks):=by
    rw [CR];show ((2,[104,97,115])::(1,nm)::(4,[46])::(1,fd)::(4,[91])::(tqT x++[(4,[93])]):List Kt)++ks=_;simp only [bD,aV,bW]
   rw [e1,e2];exact ⟨.kw (by decide) iO (.sp (.nw (n1 rfl) (λc e=>by cases e;decide) (.sy (by decide) (sZ (n2 rfl)) (.nm (n2 rfl) DM (.sy (by decide) k2 k1))))),tJ (by decide)⟩
  | flg =>
   cases e
   have e1:fmT (.mk 6 nm [] 0 0 [] [])++r=[102,108,97,103]++32::(nm++r):=by
    rw [fx6 rfl];show ([102,108,97,103]++[32]++nm:Str)++r=_;simp only [bD,aV,bW]
   rw [e1];exact ⟨.kw (by decide) iO (.sp (.nm (n1 rfl) hr hk)),tJ (by decide)⟩
  | @arr nm' fd' ex' hl hx =>
   cases e;obtain ⟨k1,k2⟩:=aQ8 (l:=ex) (λx h=>⟨hx x h,n3 x h⟩) (r:=41::r) (ks:=(4,[41])::ks) HF (.sy (by decide) hr.hd hk)
   have e1:fmT (.mk 7 nm fd 0 0 ex [])++r=[97,114,114,105,118,101,115]++32::(nm++46::(fd++40::(wK [44,32] (ex.map tmT)++41::r))):=by
    rw [fx7 rfl];show ([97,114,114,105,118,101,115]++[32]++nm++[46]++fd++[40]++wK [44,32] (ex.map tmT)++[41]:Str)++r=_;simp only [bD,aV,bW]
   have e2:tqF (.mk 7 nm fd 0 0 ex [])++ks=(2,[97,114,114,105,118,101,115])::(1,nm)::(4,[46])::(1,fd)::(4,[40])::(DH (ex.map tqT)++(4,[41])::ks):=by
    rw [CR];show ((2,[97,114,114,105,118,101,115])::(1,nm)::(4,[46])::(1,fd)::(4,[40])::(DH (ex.map tqT)++[(4,[41])]):List Kt)++ks=_;simp only [bD,aV,bW]
   rw [e1,e2];exact ⟨.kw (by decide) iO (.sp (.nw (n1 rfl) (λc e=>by cases e;decide) (.sy (by decide) (sZ (n2 rfl)) (.nm (n2 rfl) (kQ (by decide)) (.sy (by decide) k2 k1))))),tJ (by decide)⟩
  | @un op' g h =>
   cases e;obtain ⟨k1,_⟩:=xR (ih' g (by simp)) (decide ((cK g.op).lv<5)) r ks hr hk;have hw:iB op∈words:=IR op (by rcases h with rfl | rfl <;> decide);have hq:vJ (.mk op [] [] 0 0 [] [g])=[]/\AK (.mk op [] [] 0 0 [] [g])=[]:=by rcases h with rfl | rfl <;> exact ⟨Z,Z⟩
   have e1:fmT (.mk op [] [] 0 0 [] [g])++r=iB op++32::(pfW 5 g++r):=by
    rw [fxu (by rcases h with rfl | rfl <;> simp) (by simp),hq.1];simp only [bD,aV,bW];rfl
   have e2:tqF (.mk op [] [] 0 0 [] [g])++ks=(2,iB op)::(prQ (decide ((cK g.op).lv<5)) (tqF g)++ks):=by
    have:tqF (.mk op [] [] 0 0 [] [g])=(2,iB op)::(AK (.mk op [] [] 0 0 [] [g])++prQ (decide ((cK g.op).lv<5)) (tqF g)):=by
     rw [CR];rcases h with rfl | rfl <;> rfl
    rw [this,hq.2];rfl
   rw [e1,e2];exact ⟨.kw hw iO (.sp k1),tJ hw⟩
  | @win op' a' b' g h hwn =>
   cases e;obtain ⟨k1,_⟩:=xR (ih' g (by simp)) (decide ((cK g.op).lv<5)) r ks hr hk;have hw:iB op∈words:=IR op (by rcases h with rfl | rfl <;> decide);obtain ⟨k2,k3⟩:=aQ4 (op:=op) (g:=[g]) hwn iO k1.sp
   have e1:fmT (.mk op [] [] a b [] [g])++r=iB op++(vJ (.mk op [] [] a b [] [g])++32::(pfW 5 g++r)):=by
    rw [fxu (by rcases h with rfl | rfl <;> simp) (by simp)];simp only [bD,aV,bW];rfl
   have e2:tqF (.mk op [] [] a b [] [g])++ks=(2,iB op)::(AK (.mk op [] [] a b [] [g])++(prQ (decide ((cK g.op).lv<5)) (tqF g)++ks)):=by
    have:tqF (.mk op [] [] a b [] [g])=(2,iB op)::(AK (.mk op [] [] a b [] [g])++prQ (decide ((cK g.op).lv<5)) (tqF g)):=by
     rw [CR];rcases h with rfl | rfl <;> rfl
    rw [this];simp only [bD,aV]
   rw [e1,e2];exact ⟨.kw hw k3 k2,tJ hw⟩
  | @amo op' nm' a' b' g h ha hb =>
   cases e;obtain ⟨k1,_⟩:=xR (ih' g (by simp)) (decide ((cK g.op).lv<5)) r ks hr hk;have hw:iB op∈words:=IR op (by rcases h with rfl | rfl <;> decide);obtain ⟨k2,k3⟩:=aR0 (op:=op) (nm:=nm) (a:=a) (b:=b) (ex:=[]) (g:=[g]) (n1 (by rcases h with rfl | rfl <;> rfl)) iO k1.sp
   have e1:fmT (.mk op nm [] a b [] [g])++r=iB op++(FP (.mk op nm [] a b [] [g])++32::(pfW 5 g++r)):=by
    rw [fxq (by rcases h with rfl | rfl <;> simp) (by simp)];simp only [bD,aV,bW];rfl
   have e2:tqF (.mk op nm [] a b [] [g])++ks=(2,iB op)::(IM (.mk op nm [] a b [] [g])++(prQ (decide ((cK g.op).lv<5)) (tqF g)++ks)):=by
    have:tqF (.mk op nm [] a b [] [g])=(2,iB op)::(IM (.mk op nm [] a b [] [g])++prQ (decide ((cK g.op).lv<5)) (tqF g)):=by
     rw [CR];rcases h with rfl | rfl <;> rfl
    rw [this];simp only [bD,aV]
   rw [e1,e2];exact ⟨.kw hw k3 k2,tJ hw⟩
  | @cnt nm' a' b' n g ha hb hn0 =>
   cases e;obtain ⟨k1,_⟩:=KK (n:=n) hn0 (EN hr) hk;have k2:Lx (62::61::32::(Lib.itoa n.toInt++r)) ((4,[62,61])::(3,Lib.itoa n.toInt)::ks):=.tok (x:=(4,[62,61])) (OP (by decide)) (.sp k1);have k3:Lx (41::32::62::61::32::(Lib.itoa n.toInt++r)) ((4,[41])::(4,[62,61])::(3,Lib.itoa n.toInt)::ks):=.sy (by decide) iO.hd (.sp k2);obtain ⟨k4,k5⟩:=ih' g (by simp) _ _ HF k3;have k6:=Lx.sy (c:=40) (by decide) k5 k4;obtain ⟨k7,k8⟩:=aR0 (op:=18) (nm:=nm) (a:=a) (b:=b) (ex:=[.mk 1 [] n []]) (g:=[g]) (n1 rfl) iO k6.sp
   have e1:fmT (.mk 18 nm [] a b [.mk 1 [] n []] [g])++r=[99,111,117,110,116]++(FP (.mk 18 nm [] a b [.mk 1 [] n []] [g])++32::40::(fmT g++41::32::62::61::32::(Lib.itoa n.toInt++r))):=by
    rw [IJ rfl rfl (by simp)];show ([99,111,117,110,116]++FP (.mk 18 nm [] a b [.mk 1 [] n []] [g])++[32,40]++fmT g++[41,32,62,61,32]++Lib.itoa n.toInt:Str)++r=_;simp only [bD,aV,bW]
   have e2:tqF (.mk 18 nm [] a b [.mk 1 [] n []] [g])++ks=(2,[99,111,117,110,116])::(IM (.mk 18 nm [] a b [.mk 1 [] n []] [g])++(4,[40])::(tqF g++(4,[41])::(4,[62,61])::(3,Lib.itoa n.toInt)::ks)):=by
    rw [CR];show ((2,[99,111,117,110,116])::(IM (.mk 18 nm [] a b [.mk 1 [] n []] [g])++(4,[40])::(tqF g++(4,[41])::(4,[62,61])::[(3,Lib.itoa n.toInt)])):List Kt)++ks=_;simp only [bD,aV,bW]
   rw [e1,e2];exact ⟨.kw (by decide) k8 k7,tJ (by decide)⟩
  | @bin op' g h ho =>
   cases e;obtain ⟨k1,_⟩:=xR (ih' h (by simp)) (decide ((cK h.op).lv<(cK op).lv+1)) r ks hr hk;have hw:iB op∈words:=IR op (by rcases ho with rfl | rfl | rfl <;> decide);have k2:Lx (32::(iB op++32::(pfW ((cK op).lv+1) h++r))) ((2,iB op)::(prQ (decide ((cK h.op).lv<(cK op).lv+1)) (tqF h)++ks)):=.sp (.kw hw iO (.sp k1));obtain ⟨k3,k4⟩:=xR (ih' g (by simp)) (decide ((cK g.op).lv<(cK op).lv)) _ _ iO k2;have hq:vJ (.mk op [] [] 0 0 [] [g,h])=[]/\AK (.mk op [] [] 0 0 [] [g,h])=[]:=by rcases ho with rfl | rfl | rfl <;> exact ⟨Z,Z⟩
   have e1:fmT (.mk op [] [] 0 0 [] [g,h])++r=pfW (cK op).lv g++32::(iB op++32::(pfW ((cK op).lv+1) h++r)):=by
    rw [fxb (by rcases ho with rfl | rfl | rfl <;> simp) (by simp) (by simp),hq.1];simp only [bD,aV,bW];rfl
   have e2:tqF (.mk op [] [] 0 0 [] [g,h])++ks=prQ (decide ((cK g.op).lv<(cK op).lv)) (tqF g)++(2,iB op)::(prQ (decide ((cK h.op).lv<(cK op).lv+1)) (tqF h)++ks):=by
    have:tqF (.mk op [] [] 0 0 [] [g,h])=prQ (decide ((cK g.op).lv<(cK op).lv)) (tqF g)++(2,iB op)::(AK (.mk op [] [] 0 0 [] [g,h])++prQ (decide ((cK h.op).lv<(cK op).lv+1)) (tqF h)):=by
     rw [CR];rcases ho with rfl | rfl | rfl <;> rfl
    rw [this,hq.2];simp only [bD,aV,bW]
   rw [e1,e2];exact ⟨k3,k4⟩
  | @snc a' b' g h hwn =>
   cases e;obtain ⟨k1,_⟩:=xR (ih' h (by simp)) (decide ((cK h.op).lv<5)) r ks hr hk;obtain ⟨k2,k3⟩:=aQ4 (op:=15) (g:=[g,h]) hwn iO k1.sp;have k4:Lx (32::([115,105,110,99,101]++(vJ (.mk 15 [] [] a b [] [g,h])++32::(pfW 5 h++r)))) ((2,[115,105,110,99,101])::(AK (.mk 15 [] [] a b [] [g,h])++(prQ (decide ((cK h.op).lv<5)) (tqF h)++ks))):=.sp (.kw (by decide) k3 k2);obtain ⟨k5,k6⟩:=xR (ih' g (by simp)) (decide ((cK g.op).lv<4)) _ _ iO k4
   have e1:fmT (.mk 15 [] [] a b [] [g,h])++r=pfW 4 g++32::([115,105,110,99,101]++(vJ (.mk 15 [] [] a b [] [g,h])++32::(pfW 5 h++r))):=by
    rw [fxb (.inl Z) (by simp) (by simp)];show (pfW 4 g++[32]++[115,105,110,99,101]++vJ (.mk 15 [] [] a b [] [g,h])++[32]++pfW 5 h:Str)++r=_;simp only [bD,aV,bW]
   have e2:tqF (.mk 15 [] [] a b [] [g,h])++ks=prQ (decide ((cK g.op).lv<4)) (tqF g)++(2,[115,105,110,99,101])::(AK (.mk 15 [] [] a b [] [g,h])++(prQ (decide ((cK h.op).lv<5)) (tqF h)++ks)):=by
    rw [CR];show (prQ (decide ((cK g.op).lv<4)) (tqF g)++(2,[115,105,110,99,101])::(AK (.mk 15 [] [] a b [] [g,h])++prQ (decide ((cK h.op).lv<5)) (tqF h)):List Kt)++ks=_;simp only [bD,aV]
   rw [e1,e2];exact ⟨k5,k6⟩
section
variable {l:Tks} {r r' ra m:Rq} {w w':Str} {i j:Nat}
def ndF (f:Fm):Fn:=if f.op=4 then ⟨true,true,f,.mk 5 (f.nm++([46]:Str)++f.fd) 0 []⟩ else mdN f
theorem CM (f:Fm):(ndF f).f=f/\(ndF f).fm=true:=by
 unfold ndF
 split <;> exact ⟨Z,Z⟩
theorem aQ1 {f:Fm} (h:¬ f.op=4):ndF f=mdN f:=aF h
def bsF (op:UInt8):Nat:=if (cK op).lv<6 then (cK op).lv else if op=3 then 6 else 10
def Fd (l:Tks) (f:Fm):Prop:=∀ r r',Sps l r (tqF f) r'->Nx l (bsF f.op+1) r'->Rl l (bsF f.op) r (ndF f) r'
theorem bM9 (op:UInt8):(cK op).lv<=6:=AS (q:=λop=>(cK op).lv<=6) (by decide +kernel) op
theorem ZW (op:UInt8):(cK op).lv<=bsF op/\bsF op<=10:=by
 have:=bM9 op;unfold bsF
 split
 ·omega
 ·split <;> omega
theorem JC {g:Fm} (h:Fd l g) {b:Bool} (hl:1<=(cK g.op).lv) (hj:1<=j/\j<=5) (hb:b=false->j<=(cK g.op).lv) (s:Sps l r (prQ b (tqF g)) r') (hx:Nx l (j+1) r'):Rl l j r (ndF g) r':=by
 have e:=(qX s).2;have h1:=ZW g.op;cases b with
 | true =>
  have:=aO9 (N:=ndF g) (show Sps l r ((4,[40])::(tqF g++[(4,[41])])) r' from s) λm sm hm=>(h _ _ sm (hm.up (by omega))).at (qX sm).2 (aY _) (by omega) (by omega) hm;exact this.to e (by omega) (by omega) (aY _) hx (λk=>hx.up (by omega))
 | false =>
  have:=hb rfl;exact (h _ _ s (hx.up (by omega))).to e (by omega) (by omega) (by omega) hx (λk=>hx.up (by omega))
theorem JD {g:Fm} (h:Fd l g) {b:Bool} (hl:1<=(cK g.op).lv) (hb:b=false->5<=(cK g.op).lv) (s:Sps l r (prQ b (tqF g)) r') (hx:Nx l 6 r'):Gd l (.lev 5) r (ndF g) false r':=(JC (j:=5) h hl (by decide) hb s hx).full hx.n5
theorem aP8 {j:Nat} {N:Fn} (h:¬ lpB j) (g:Gd l (.lev j) r N false r'):Rl l j r N r':=⟨λe=>absurd e h,λ_=>g⟩
theorem aK3 {op:UInt8} {a b:Int64} {gs:List Fm} (hw:bnW a b) (hwn:(cK op).wn=true) (s:Sps l r (AK (.mk op [] [] a b [] gs)) m) (hno:r=m->r.ac l [91]=false):r.wiS l=m/\r.wiA l=a/\r.wiB l=b:=by
 unfold AK at s;simp only [Fm.op,hwn,Fm.a,Fm.b] at s;unfold Rq.wiS Rq.wiA Rq.wiB
 by_cases h:b.toInt<0
 ·rw [aL (by simp [h])] at s;obtain ⟨e,rfl⟩:=s;have hn:¬ m.ac l [91]=true:=by rw [hno rfl];decide
  rw [aF hn,aF hn,aF hn];rcases hw with ⟨rfl,rfl⟩ | hw
  ·exact ⟨Z,Z,Z⟩
  ·omega
 ·rw [aF (by simp [h])] at s;obtain ⟨t0,t1,t2,t3,t4,e,rfl⟩:=s
  have hab:0<=a.toInt/\0<=b.toInt:=by
   rcases hw with ⟨rfl,rfl⟩ | hw
   ·exact absurd (by decide) h
   ·omega
  have hy:=uL t0 (.inr Z);have n1:=aY5 t1 hab.1;have n3:=aY5 t3 hab.2;rw [aL hy,aL hy,aL hy,n1.1,FU t2 (.inr Z),n3.1,FU t4 (.inr Z),n1.2,n3.2];exact ⟨Z,Z,Z⟩
theorem aS2 {n:Int64} (h:-1000000<=n.toInt) (s:Sps l r (WL n.toInt) m):r.boS l=m/\r.boV l=n:=by
 unfold WL at s;unfold Rq.boS Rq.boV
 by_cases h0:n.toInt<0
 ·rw [aL h0] at s;obtain ⟨t0,t1,e,rfl⟩:=s;have hy:=uL t0 (.inr Z);have hb:=bW2 t1 (by omega);rw [aL hy,aL hy,hb.1,hb.2];refine ⟨Z,dR.1 ?_⟩;have h1:(Int64.ofNat n.toInt.natAbs).toInt=(n.toInt.natAbs:Int):=fR (by omega);rw [Int64.toInt_neg,h1,Int.bmod_eq_of_le (by omega) (by omega)];omega
 ·rw [aF h0] at s;obtain ⟨t0,e,rfl⟩:=s;have hn:¬ r.ac l [45]=true:=by rw [bZ1 t0 (.inr Z)];decide
  rw [aF hn,aF hn];exact aY5 t0 (by omega)
theorem aX8 {op:UInt8} {nm:Str} {a b:Int64} {ex:List Ex} {gs:List Fm} (ha:-1000000<=a.toInt) (hb:-1000000<=b.toInt) (s:Sps l r (IM (.mk op nm [] a b ex gs)) m):r.amS l=m/\∀ o,r.amV l o=.mk o nm [] a b [] []:=by
 unfold IM at s;simp only [Fm.nm,Fm.a,Fm.b] at s;obtain ⟨t0,t1,s⟩:=s;obtain ⟨m1,s1,t2,s2⟩:=mO s;have e1:r.ama l=r.nx.nx:=by unfold Rq.ama;rw [IG t0,FU t1 (.inl Z)]
 have i1:=aS2 ha s1;have e2:r.amb l=m1.nx:=by unfold Rq.amb;rw [e1,i1.1,FU t2 (.inr Z)]
 have i2:=aS2 hb s2;unfold Rq.amS Rq.amV;rw [e2,i2.1,e1,i1.2,i2.2,BH t0];exact ⟨Z,λ_=>rfl⟩
theorem aZ1 (f:Fm) (x:Ex) (es:List Ex):(f.wEx (f.ex++[x])).wEx ((f.wEx (f.ex++[x])).ex++es)=f.wEx (f.ex++(x::es)):=by
 show f.wEx (f.ex++[x]++es)=_;rw [bD];rfl
theorem aX6:∀ (es:List Ex) (f:Fm) (r r':Rq),es≠[]->(∀ x∈es,(x=zE\/eL x=true)/\qK x=false)->Sps l r (DH (es.map tqT)++[(4,[41])]) r'->Gd l (.arg f) r (mdN (f.wEx (f.ex++es))) false r'/\r.ac l [41]=false
 | [],_,_,_,h,_,_=>absurd rfl h
 | [x],f,r,r',_,hx,s=>by
  obtain ⟨m,s1,t,e,rfl⟩:=mO s
  have ga:∀ f',Gd l (.aft f') m (mdN f') false m.nx:=λf'=>by
   have g:=Gd.afE (f:=f') (bI0 (w':=[44]) t (by decide));rw [FU t (.inr Z)] at g;exact g
  obtain ⟨h1,h2⟩:=hx x (by simp);rcases h1 with rfl | h1
  ·obtain ⟨t0,e0,rfl⟩:=(show Sps l r [(4,[95])] m from s1);exact ⟨.arU (uL t0 (.inr Z)) (ga _),bI0 t0 (by decide)⟩
  ·have hx7:Nx l 7 m:=.tok t (by decide);have g1:=(VO x h1 h2 _ _ s1 (hx7.up (by have:=yW x.op;omega))).at (qX s1).2 (by omega) (show 7<=tlv x.op+3 by have:=yW x.op;omega) (by have:=GF x.op;omega) hx7;have hf:=AZ g1 _ rfl (qX s1).2;refine ⟨?_,hf.1 _ (by decide)⟩;have g:=Gd.arT (f:=f) (hf.1 _ (by decide)) g1 (ga _);rw [(tI x).1,(tI x).2] at g;exact g
 | x::y::es,f,r,r',_,hx,s=>by
  obtain ⟨m,s1,s2⟩:=mO (show Sps l r (tqT x++((4,[44])::(DH ((y::es).map tqT)++[(4,[41])]))) r' from by
   have e:DH ((x::y::es).map tqT)++[(4,[41])]=tqT x++((4,[44])::(DH ((y::es).map tqT)++[(4,[41])])):=by
    show (tqT x++(4,[44])::DH ((y::es).map tqT))++_=_;simp only [bD,aV]
   rw [<-e];exact s)
  obtain ⟨t,s3⟩:=s2
  have ga:Gd l (.aft (f.wEx (f.ex++[x]))) m (mdN (f.wEx (f.ex++(x::y::es)))) false r':=by
   have g:=(aX6 (y::es) (f.wEx (f.ex++[x])) m.nx r' (by simp) (λz hz=>hx z (bS _ hz)) s3).1;rw [aZ1] at g;exact .afC (uL t (.inr Z)) g
  obtain ⟨h1,h2⟩:=hx x (by simp);rcases h1 with rfl | h1
  ·obtain ⟨t0,e0,rfl⟩:=(show Sps l r [(4,[95])] m from s1);exact ⟨.arU (uL t0 (.inr Z)) ga,bI0 t0 (by decide)⟩
  ·have hx7:Nx l 7 m:=.tok t (by decide);have g1:=(VO x h1 h2 _ _ s1 (hx7.up (by have:=yW x.op;omega))).at (qX s1).2 (by omega) (show 7<=tlv x.op+3 by have:=yW x.op;omega) (by have:=GF x.op;omega) hx7;have hf:=AZ g1 _ rfl (qX s1).2;refine ⟨?_,hf.1 _ (by decide)⟩;have g:=Gd.arT (f:=f) (n:=mdN (f.wEx (f.ex++(x::y::es)))) (hf.1 _ (by decide)) g1 (by rw [(tI x).1];exact ga);rw [(tI x).2] at g;exact g
theorem t7 {x:Ex} (h1:eL x=true) (h2:qK x=false) (s:Sps l r (tqT x) m) (hx:Nx l 7 m):Gd l (.lev 7) r (ndE x) false m :=
 (VO x h1 h2 _ _ s (hx.up (by have:=yW x.op;omega))).at (qX s).2 (by omega) (by have:=yW x.op;omega) (by have:=GF x.op;omega) hx
theorem WA {op:UInt8} {a b:Int64} {nm:Str} {g:Fm} (hp:(w,op)∈II) (t0:r.er=0/\kt (tkf l r.i)=(2,w)) (hg:Gd l (.lev 5) (r.prS l op) (ndF g) false r') (hf:r.prF l op=.mk op nm [] a b [] []) (h4:¬ op=4):Rl l 5 r (ndF (.mk op nm [] a b [] [g])) r':=by
 have G:=Gd.pre hp (uL t0 (.inl Z)) hg;rw [(CM g).1,(CM g).2,hf] at G;rw [aQ1 (show ¬ (Fm.mk op nm [] a b [] [g]).op=4 from h4)];exact aP8 (by unfold lpB;decide) G
theorem bJ4 {op:UInt8} {a b:Int64} {f g:Fm} {k:Nat} (hk:1<=k/\k<=4) (A:Rl l k r (ndF f) ra) (t0:ra.er=0/\kt (tkf l ra.i)=(2,joW k)) (hj:ra.jnF l k=.mk op [] [] a b [] []) (hB:Gd l (.lev (k+1)) (ra.jnS l k) (ndF g) false r') (h4:¬ op=4):Rl l k r (ndF (.mk op [] [] a b [] [f,g])) r':=by
 have hl:lpB k:=.inl hk;refine ⟨λ_ n m r2 gg=>?_,λe=>absurd hl e⟩
 have g':Gd l (.lp k (mdN ((ra.jnF l k).wAr [(ndF f).f,(ndF g).f]))) r' n m r2:=by
  rw [(CM f).1,(CM g).1,hj];rw [aQ1 (show ¬ (Fm.mk op [] [] a b [] [f,g]).op=4 from h4)] at gg;exact gg
 have G:=Gd.join hk (uL t0 (.inl Z)) hB g';rw [(CM f).2,(CM g).2] at G;exact A.1 hl _ _ _ G
theorem aP3:∀ o∈([16,17,18,19,20,21]:List UInt8),(16<=o.toNat/\o.toNat<=21)/\∀ x∈cuL,7<=x.1->¬ wZ o=x.2:=by decide +kernel
theorem bV5 {op:UInt8} (ho:op=9\/op=10\/op=11):bsF op=(cK op).lv/\(1<=(cK op).lv/\(cK op).lv<=3)/\joW (cK op).lv=iB op/\UInt8.ofNat (12 - (cK op).lv)=op:=by
 rcases ho with rfl | rfl | rfl <;> decide
theorem bP2 (f:Fm):Fm.all kY f=true->Fm.all wF f=true->Fd l f:=by
 induction f using Fm.ind with
 | _ op nm fd a b ex args ih =>
  intro hf hn r r' s hx;obtain ⟨hf,hfs⟩:=yI hf;rw [rT,aE,aW] at hn;obtain ⟨hn,hns⟩:=hn;obtain ⟨n1,n2,n3⟩:=QB hn
  have ih':∀ g∈args,Fd l g/\1<=(cK g.op).lv:=λg hg=>⟨ih g hg (hfs g hg) (hns g hg),by
   have:=hfs g hg;obtain ⟨o,x1,x2,x3,x4,x5,x6⟩:=g;have h0:=(kA (yI this).1).1;show 1<=(cK o).lv;omega⟩
  have hg:=QQ hf;clear ih hfs hns hf hn;rw [CR] at s;cases hg with
  | tf h =>
   rcases h with rfl | rfl
   ·obtain ⟨t0,e,rfl⟩:=(show Sps l r [(2,[116,114,117,101])] r' from s);exact .of10 (Gd.tru (uL t0 (.inl Z)))
   ·obtain ⟨t0,e,rfl⟩:=(show Sps l r [(2,[102,97,108,115,101])] r' from s);exact .of10 (Gd.fal (uL t0 (.inl Z)))
  | @cmp o x y h hx1 hy1 =>
   have hm:=n3 _ (bV.2 rfl);have m3:=(GJ hm).2.2;obtain ⟨m,s1,t0,s2⟩:=mO (show Sps l r (tqT x++(4,wZ o)::tqT y) r' from s);have hx7:Nx l 7 m:=.tok t0 (aP3 o h).2;have g1:=t7 hx1 (m3 x (by simp)) s1 hx7;have g2:=t7 hy1 (m3 y (by simp)) s2 hx;have hi:=(aP3 o h).1;have g:=Gd.cm1 hi g1 (uL t0 (.inr Z)) g2;unfold opB at g;rw [(tI x).1,(tI y).1,(tI x).2,(tI y).2,gZ] at g;exact aP8 (j:=6) (by unfold lpB;decide) g
  | var =>
   obtain ⟨t0,t1,t2,e,rfl⟩:=(show Sps l r [(1,nm),(4,[46]),(1,fd)] r' from s);have e2:r.nx.nx.nmS l=r.nx.nx.nx:=IG t2;have g:=Gd.nam1 t0.1 (MA t0.2) (uL t1 (.inr Z)) (by rw [e2];exact hx.brk (show bsF 4+1<=20 by decide));rw [e2,BH t0,BH t2,WQ t0 t2] at g;exact .of10 g
  | @has _ _ x hx1 =>
   obtain ⟨t0,t1,t2,t3,t4,s⟩:=(show Sps l r ((2,[104,97,115])::(1,nm)::(4,[46])::(1,fd)::(4,[91])::(tqT x++[(4,[93])])) r' from s);obtain ⟨m,s1,t5,e,rfl⟩:=mO s;obtain ⟨p1,p2,p3⟩:=aP0 t1 t2 t3;have e1:(r.nx.paS l).exS l [91]=r.nx.nx.nx.nx.nx:=by rw [p1,FU t4 (.inr Z)]
   have g:=Gd.has (uL t0 (.inl Z)) (by rw [e1];exact t7 hx1 (n3 x (by simp)) s1 (.tok t5 (by decide)));unfold Rq.paV at g;rw [p2,p3,(tI x).1,(tI x).2,FU t5 (.inr Z)] at g;exact .of10 g
  | flg =>
   obtain ⟨t0,t1,e,rfl⟩:=(show Sps l r [(2,[102,108,97,103]),(1,nm)] r' from s);have g:=Gd.flg (uL t0 (.inl Z));rw [IG t1,BH t1] at g;exact .of10 g
  | arr hl hxs =>
   obtain ⟨t0,t1,t2,t3,t4,s⟩:=(show Sps l r ((2,[97,114,114,105,118,101,115])::(1,nm)::(4,[46])::(1,fd)::(4,[40])::(DH (ex.map tqT)++[(4,[41])])) r' from s);obtain ⟨p1,p2,p3⟩:=aP0 t1 t2 t3;have e1:(r.nx.paS l).exS l [40]=r.nx.nx.nx.nx.nx:=by rw [p1,FU t4 (.inr Z)]
   have pv:r.nx.paV l 7=.mk 7 nm fd 0 0 [] []:=by unfold Rq.paV;rw [p2,p3]
   by_cases h0:ex=[]
   ·subst h0;obtain ⟨t5,e,rfl⟩:=(show Sps l r.nx.nx.nx.nx.nx [(4,[41])] r' from s);have g:=Gd.arr0 (uL t0 (.inl Z)) (by rw [e1];exact uL t5 (.inr Z));rw [e1,pv] at g;exact .of10 g
   ·have g1:=aX6 ex (.mk 7 nm fd 0 0 [] []) _ _ h0 (λx h=>⟨hxs x h,n3 x h⟩) s;have g:=Gd.arr (uL t0 (.inl Z)) (by rw [e1];exact g1.2) (by rw [e1,pv];exact g1.1);exact .of10 g
  | @un _ g h =>
   obtain ⟨g1,hl⟩:=ih' g (by simp);have e1:fqO (.mk op [] [] 0 0 [] [g]) ([g].map λf=>(f.op,tqF f))=(2,iB op)::prQ (decide ((cK g.op).lv<5)) (tqF g):=by rcases h with rfl | rfl <;> rfl
   rw [e1] at s;obtain ⟨t0,s⟩:=s;have hb:bsF op=5:=by rcases h with rfl | rfl <;> decide
   rw [show (Fm.mk op [] [] 0 0 [] [g]).op=op from rfl,hb] at hx|-;have G:=JD g1 hl (MD (by omega)) s hx;exact WA (w:=iB op) (by rcases h with rfl | rfl <;> decide) t0 (by rcases h with rfl | rfl <;> exact G) (by rcases h with rfl | rfl <;> rfl) (by rcases h with rfl | rfl <;> decide)
  | @win _ _ _ g h hw =>
   obtain ⟨g1,hl⟩:=ih' g (by simp);have e1:fqO (.mk op [] [] a b [] [g]) ([g].map λf=>(f.op,tqF f))=(2,iB op)::(AK (.mk op [] [] a b [] [g])++prQ (decide ((cK g.op).lv<5)) (tqF g)):=by rcases h with rfl | rfl <;> rfl
   rw [e1] at s;obtain ⟨t0,s⟩:=s;obtain ⟨m,s1,s2⟩:=mO s;have hb:bsF op=5:=by rcases h with rfl | rfl <;> decide
   rw [show (Fm.mk op [] [] a b [] [g]).op=op from rfl,hb] at hx|-;have G:=JD g1 hl (MD (by omega)) s2 hx;have hf:=(AZ G _ rfl (qX s2).2).1 [91] (by decide);obtain ⟨w1,w2,w3⟩:=aK3 hw (by rcases h with rfl | rfl <;> rfl) s1 (λe=>by rw [e];exact hf);have pS:r.prS l op=m:=by unfold Rq.prS;rw [aL h,w1]
   have pF:r.prF l op=.mk op [] [] a b [] []:=by unfold Rq.prF Rq.wiV;rw [aL h,w2,w3]
   exact WA (w:=iB op) (by rcases h with rfl | rfl <;> decide) t0 (by rw [pS];exact G) pF (by rcases h with rfl | rfl <;> decide)
  | @amo _ _ _ _ g h ha hb' =>
   obtain ⟨g1,hl⟩:=ih' g (by simp);have e1:fqO (.mk op nm [] a b [] [g]) ([g].map λf=>(f.op,tqF f))=(2,iB op)::(IM (.mk op nm [] a b [] [g])++prQ (decide ((cK g.op).lv<5)) (tqF g)):=by rcases h with rfl | rfl <;> rfl
   rw [e1] at s;obtain ⟨t0,s⟩:=s;obtain ⟨m,s1,s2⟩:=mO s;have hb:bsF op=5:=by rcases h with rfl | rfl <;> decide
   rw [show (Fm.mk op nm [] a b [] [g]).op=op from rfl,hb] at hx|-;have G:=JD g1 hl (MD (by omega)) s2 hx;obtain ⟨w1,w2⟩:=aX8 ha hb' s1;have pS:r.prS l op=m:=by unfold Rq.prS;rw [aF (by rcases h with rfl | rfl <;> decide),aL h,w1]
   have pF:r.prF l op=.mk op nm [] a b [] []:=by unfold Rq.prF;rw [aF (by rcases h with rfl | rfl <;> decide),aL h,w2]
   exact WA (w:=iB op) (by rcases h with rfl | rfl <;> decide) t0 (by rw [pS];exact G) pF (by rcases h with rfl | rfl <;> decide)
  | @cnt _ _ _ n g ha hb' hn0 =>
   obtain ⟨g1,hl⟩:=ih' g (by simp);obtain ⟨t0,s⟩:=(show Sps l r ((2,[99,111,117,110,116])::(IM (.mk 18 nm [] a b [.mk 1 [] n []] [g])++(4,[40])::(tqF g++(4,[41])::(4,[62,61])::[(3,Lib.itoa n.toInt)]))) r' from s);obtain ⟨m,s1,t1,s⟩:=mO s;obtain ⟨m2,s2,t2,t3,t4,e,rfl⟩:=mO s;obtain ⟨w1,w2⟩:=aX8 ha hb' s1;have e1:(r.nx.amS l).exS l [40]=m.nx:=by rw [w1,FU t1 (.inr Z)]
   have hx1:Nx l 1 m2:=.tok t2 (by decide);have G:=(g1 _ _ s2 (hx1.up (by omega))).at (qX s2).2 (aY _) (by have:=ZW g.op;omega) (ZW g.op).2 hx1;have gg:=Gd.cnt (uL t0 (.inl Z)) (by rw [e1];exact G);have nu:=aY5 t4 hn0;rw [(CM g).1,(CM g).2,FU t2 (.inr Z),FU t3 (.inr Z),nu.1,nu.2,w2] at gg;exact aP8 (j:=5) (by unfold lpB;decide) gg
  | @bin _ g h ho =>
   obtain ⟨g1,hl1⟩:=ih' g (by simp);obtain ⟨g2,hl2⟩:=ih' h (by simp);have e1:fqO (.mk op [] [] 0 0 [] [g,h]) ([g,h].map λf=>(f.op,tqF f))=prQ (decide ((cK g.op).lv<(cK op).lv)) (tqF g)++(2,iB op)::prQ (decide ((cK h.op).lv<(cK op).lv+1)) (tqF h):=by rcases ho with rfl | rfl | rfl <;> rfl
   rw [e1] at s;obtain ⟨m,s1,t0,s2⟩:=mO s;obtain ⟨hb,hk,hw,hop⟩:=bV5 ho;rw [show (Fm.mk op [] [] 0 0 [] [g,h]).op=op from rfl,hb] at hx|-;have hxm:Nx l ((cK op).lv+1) m:=.tok t0 (by rcases ho with rfl | rfl | rfl <;> decide);have A:=JC (j:=(cK op).lv) g1 hl1 (by omega) (MD (by omega)) s1 hxm;have B:=(JC (j:=(cK op).lv+1) g2 hl2 (by omega) (MD (by omega)) s2 (hx.up (Nat.le_succ _))).full hx;exact bJ4 (k:=(cK op).lv) (by omega) A (by rw [hw];exact t0) (by unfold Rq.jnF;rw [aF (by omega),hop]) (by unfold Rq.jnS;rw [aF (by omega)];exact B) (by rcases ho with rfl | rfl | rfl <;> decide)
  | @snc _ _ g h hw =>
   obtain ⟨g1,hl1⟩:=ih' g (by simp);obtain ⟨g2,hl2⟩:=ih' h (by simp);obtain ⟨m,s1,t0,s2⟩:=mO (show Sps l r (prQ (decide ((cK g.op).lv<4)) (tqF g)++(2,[115,105,110,99,101])::(AK (.mk 15 [] [] a b [] [g,h])++prQ (decide ((cK h.op).lv<5)) (tqF h))) r' from s);obtain ⟨m2,s3,s4⟩:=mO s2;have hxm:Nx l 5 m:=.tok t0 (by decide);have A:=JC (j:=4) g1 hl1 (by omega) (MD (by omega)) s1 hxm;have B:=JD g2 hl2 (MD (by omega)) s4 (hx.up (show bsF 15+1<=6 by decide));have hf:=(AZ B _ rfl (qX s4).2).1 [91] (by decide);obtain ⟨w1,w2,w3⟩:=aK3 hw rfl s3 (λe=>by rw [e];exact hf);exact bJ4 (k:=4) (by decide) A t0 (by unfold Rq.jnF Rq.wiV;rw [aL rfl,w2,w3]) (by unfold Rq.jnS;rw [aL rfl,w1];exact B) (by decide)
theorem bP1 {f:Fm} (hf:Fm.all kY f=true) (hn:Fm.all wF f=true) {k:Nat} (hk:1<=k) (hb:k<=(cK f.op).lv) (s:Sps l r (tqF f) r') (hx:Nx l k r'):Gd l (.lev k) r (ndF f) false r':=by
 have:=ZW f.op;exact (bP2 f hf hn r r' s (hx.up (by omega))).at (qX s).2 hk (by omega) this.2 hx
theorem bP0 {f:Fm} (hf:Fm.all kY f=true):1<=(cK f.op).lv:=by
 obtain ⟨o,x1,x2,x3,x4,x5,x6⟩:=f;have h0:=(kA (yI hf).1).1;show 1<=(cK o).lv;omega
end
theorem YG (h:(wH s).map kt=ks):Sps (oI s) ⟨0,0,0⟩ ks ⟨ks.length,0,0⟩/\(tkf (oI s) ks.length).k=0:=by
 have hl:(wH s).length=ks.length:=by rw [<-h,bJ]
 refine ⟨?_,?_⟩
 ·have:=aM7 (l:=oI s) ks 0 λj hj=>by
   unfold tkf oI;rw [dL,List.getD_eq_getElem?_getD,List.getElem?_append_left (by omega),List.getElem?_eq_getElem (by omega)];subst h;rw [nM];rfl
  rwa [dL] at this
 ·unfold tkf oI;rw [List.getD_eq_getElem?_getD,List.getElem?_append_right (by omega),hl,iV];rfl
variable {f:Fm}
theorem NH (h:gT f=0):f.count<=60/\Fm.all uZ f=true/\Fm.all wF f=true/\Fm.all kY f=true:=by
 unfold gT at h
 split at h
 ·cases h
 rename_i h1
 split at h
 ·cases h
 rename_i h2
 split at h
 ·cases h
 rename_i h3;rw [tV] at h1;exact ⟨by omega,by simpa using h1.2,by simpa using h2,by simpa using h3⟩
theorem bD1 {n:Fn} {m:Bool} (h:(wH s).map kt=ks) (g:Gd (oI s) (.lev 1) ⟨0,0,0⟩ n m ⟨ks.length,0,0⟩):CH (oI s)=if m || !n.fm then (zF,0,6) else if ¬ gT n.f=0 then (zF,0,gT n.f) else (n.f,0,0):=by
 rw [bL8 (aL7 s) (by rw [vY];omega) g];unfold aO0;have e:JW (oI s) ⟨ks.length,0,0⟩=⟨ks.length,0,0⟩:=by unfold JW;rw [aF (λk=>k.2 (YG h).2)]
 rw [e,aF (λk=>k rfl)]
theorem aW9 (h:gT f=0):CH (oI (fmT f))=(f,0,0):=by
 obtain ⟨_,_,hn,hf⟩:=NH h
 have hk:(wH (fmT f)).map kt=tqF f:=by
  have:=(bS9 f hf hn [] [] aN8 .nil).1;rw [dQ,dQ] at this;exact this.lex
 obtain ⟨s,e⟩:=YG hk;have g:=bP1 hf hn (aY 1) (bP0 hf) s (.fin e);rw [bD1 hk g,(CM f).1,(CM f).2,aF (by decide),aF (by rw [h];decide)]
def nsE (e:Ex):Bool:=Ex.all (λe=>decide (e.nm.length<=30)) e
theorem EE (e:Ex) (hn:nsE e=true):(tmT e).length<=130 * e.count:=by
 induction e using Ex.ind with | _ op nm n args ih
 unfold nsE at hn;rw [nR,mL,aE,aD,aW] at hn;obtain ⟨hn,ha⟩:=hn;have hn':nm.length<=30:=hn
 have hx:∀ (l:List (UInt8 × Str)),l=args.map (λe=>(e.op,tmT e))->(l.headD (0,[])).2.length+((l.drop 1).headD (0,[])).2.length<=130 * Ex.counts args:=by
  rintro l rfl
  match args,ih,ha with
  | [],_,_=>exact aO _
  | [a],ih,ha =>
   have:=ih a (aX ..) (ha a (aX ..));rw [Ex.counts,Ex.counts];show (tmT a).length+0<=_;omega
  | a::b::r,ih,ha =>
   have h1:=ih a (aX ..) (ha a (aX ..));have h2:=ih b (bS _ (aX ..)) (ha b (bS _ (aX ..)));rw [Ex.counts,Ex.counts];show (tmT a).length+(tmT b).length<=_;omega
 have hx:=hx _ rfl;rw [lS,vX];unfold VI;generalize args.map (λe=>(e.op,tmT e))=l at hx|-;have hi:=rL n;have p1:=(kX (decide (tlv (l.headD (0,[])).1<6)) (l.headD (0,[])).2).2;have p2:=(kX (decide (tlv (l.headD (0,[])).1<tlv op)) (l.headD (0,[])).2).2;have p3:=(kX (decide (tlv ((l.drop 1).headD (0,[])).1<tlv op+1)) ((l.drop 1).headD (0,[])).2).2;have p4:=yA op;generalize Ex.counts args=C at hx|-
 repeat' split
 all_goals (try simp only [aG,aJ,aM]);omega
def nsF (f:Fm):Bool:=Fm.all (λf=>decide (f.nm.length<=30) && decide (f.fd.length<=30) && f.ex.all nsE) f
theorem RY:∀ l:List Ex,(∀ e∈l,nsE e=true)->((l.map tmT).map List.length).sum<=130 * Ex.counts l
 | [],_=>aO _
 | e::r,h=>by
  rw [dG,dG,List.sum_cons,Ex.counts];have h1:=EE e (h e (aX ..));have h2:=RY r λx hx=>h x (bS _ hx);omega
theorem aL6 (e:Ex) (h:nsE e=true):(tmT (ex0 e)).length+(tmT (ex1 e)).length<=130 * e.count:=by
 obtain ⟨op,nm,n,args⟩:=e;unfold nsE at h;rw [nR,mL,aE,aW] at h;rw [lS];have hz:tmT zE=[95]:=vX
 match args,h.2 with
 | [],_=>show (tmT zE).length+(tmT zE).length<=_;rw [hz,Ex.counts];decide
 | [x],h =>
  have:=EE x (h x (aX ..));show (tmT x).length+(tmT zE).length<=_;rw [hz,Ex.counts,Ex.counts];show _+1<=_;omega
 | x::y::r,h =>
  have h1:=EE x (h x (aX ..));have h2:=EE y (h y (bS _ (aX ..)));show (tmT x).length+(tmT y).length<=_;rw [Ex.counts,Ex.counts];omega
theorem aT6 (F:Fm) (l:List (UInt8 × Str)) (C D:Nat) (h1:F.nm.length<=30) (h2:F.fd.length<=30) (he:(tmT (exH F)).length+(tmT (ex0 (exH F))).length+(tmT (ex1 (exH F))).length<=260 * D+3)
 (hj:(wK ([44,32]:Str) (F.ex.map tmT)).length<=132 * D) (hx:(l.headD (0,[])).2.length+((l.drop 1).headD (0,[])).2.length<=400 * C) (w1:(vJ F).length<=46) (w2:(FP F).length<=F.nm.length+49):(KV F l).length<=400 * (D+C+1):=by
 have w3:=GB F.op;have w4:=yA (exH F).op;have p1:=(kX (decide ((cK (l.headD (0,[])).1).lv<5)) (l.headD (0,[])).2).2;have p2:=(kX (decide ((cK (l.headD (0,[])).1).lv<(cK F.op).lv)) (l.headD (0,[])).2).2;have p3:=(kX (decide ((cK ((l.drop 1).headD (0,[])).1).lv<(cK F.op).lv+1)) ((l.drop 1).headD (0,[])).2).2;unfold KV
 repeat' split
 all_goals (try simp only [aG,aJ,aM]);omega
theorem bF5 (f:Fm) (hn:nsF f=true):(fmT f).length<=400 * f.count:=by
 induction f using Fm.ind with | _ op nm fd a b ex args ih
 unfold nsF at hn;rw [rT,aE,aE,aE,aD,aD,aW,aW] at hn;obtain ⟨⟨⟨hn,hf⟩,he⟩,ha⟩:=hn;have hn':nm.length<=30:=hn;have hf':fd.length<=30:=hf;have he':∀ e∈ex,nsE e=true:=he
 have hx:∀ (l:List (UInt8 × Str)),l=args.map (λf=>(f.op,fmT f))->(l.headD (0,[])).2.length+((l.drop 1).headD (0,[])).2.length<=400 * Fm.counts args:=by
  rintro l rfl
  match args,ih,ha with
  | [],_,_=>exact aO _
  | [a],ih,ha =>
   have:=ih a (aX ..) (ha a (aX ..));rw [Fm.counts,Fm.counts];show (fmT a).length+0<=_;omega
  | a::b::r,ih,ha =>
   have h1:=ih a (aX ..) (ha a (aX ..));have h2:=ih b (bS _ (aX ..)) (ha b (bS _ (aX ..)));rw [Fm.counts,Fm.counts];show (fmT a).length+(fmT b).length<=_;omega
 have hx:=hx _ rfl
 have he0:(tmT (exH (.mk op nm fd a b ex args))).length+(tmT (ex0 (exH (.mk op nm fd a b ex args)))).length+(tmT (ex1 (exH (.mk op nm fd a b ex args)))).length<=260 * Ex.counts ex+3:=by
  have hz:tmT zE=[95]:=vX
  match ex,he' with
  | [],_ =>
   show (tmT zE).length+(tmT zE).length+(tmT zE).length<=_;rw [hz];show 3<=_;omega
  | e::r,h =>
   have h1:=EE e (h e (aX ..));have h2:=aL6 e (h e (aX ..));show (tmT e).length+(tmT (ex0 e)).length+(tmT (ex1 e)).length<=_;rw [Ex.counts];omega
 have hj:=QI ([44,32]:Str) (ex.map tmT);have hs:=RY ex he';have hl2:=XB ex;rw [bJ] at hj;rw [oQ,AF];have e2:([44,32]:Str).length=2:=rfl;rw [e2] at hj;exact aT6 _ _ _ _ hn' hf' he0 (aZ hj (by omega)) hx OI RA
theorem QE (e:Ex):qK e=false->eL e=true->nsE e=true:=by
 induction e using Ex.ind with | _ op nm n args ih
 intro h ht;obtain ⟨m1,_,m3⟩:=GJ h;unfold nsE;rw [nR,mL,aE,aD,aW]
 have nm30:(op=5\/op=6\/op=8)->nm.length<=30:=λho=>by
  have k:=m1 ho;unfold nmQ at k;cases hs:eI nm with
  | none=>rw [hs] at k;have:=(lK k).2.2.2.2;omega
  | some x =>
   obtain ⟨a,b⟩:=x;rw [hs] at k;simp only [aE] at k;have k1:=(lK k.1).2.2.2.2;have k2:=(lK k.2).2.2.2.2;rw [sF hs,aG,aG];show a.length+1+b.length<=30;omega
 show nm.length<=30/\_;rcases OO ht with ⟨rfl,rfl,_,rfl⟩ | ⟨rfl,rfl,_,rfl⟩ | ⟨ho,_,rfl⟩ | ⟨rfl,_,a,rfl,ha⟩ | ⟨rfl,rfl,_,a,rfl,ha⟩ | ⟨_,rfl,_,a,b,rfl,ha,hb⟩
 ·exact ⟨by decide,λx hx=>(by cases hx)⟩
 ·exact ⟨by decide,λx hx=>(by cases hx)⟩
 ·exact ⟨nm30 (by rcases ho with h | h <;> simp [h]),λx hx=>(by cases hx)⟩
 ·exact ⟨nm30 (by simp),λx hx=>by rw [bV.1 hx];exact ih a (by simp) (m3 a (by simp)) ha⟩
 ·exact ⟨by decide,λx hx=>by rw [bV.1 hx];exact ih a (by simp) (m3 a (by simp)) ha⟩
 ·refine ⟨by decide,λx hx=>?_⟩;simp only [bQ,List.not_mem_nil,or_false] at hx;rcases hx with rfl | rfl
  ·exact ih _ (by simp) (m3 _ (by simp)) ha
  ·exact ih _ (by simp) (m3 _ (by simp)) hb
theorem bF0 (f:Fm):Fm.all kY f=true->Fm.all wF f=true->nsF f=true:=by
 induction f using Fm.ind with | _ op nm fd a b ex args ih
 intro hf hn;obtain ⟨hf,hfs⟩:=yI hf;rw [rT,aE,aW] at hn;obtain ⟨hn,hns⟩:=hn;obtain ⟨n1,n2,n3⟩:=QB hn;unfold nsF;rw [rT,aE,aW];refine ⟨?_,λg hg=>ih g hg (hfs g hg) (hns g hg)⟩;have hg:=QQ hf;rw [aE,aE,aD,aD,aW];show (nm.length<=30/\fd.length<=30)/\∀ x∈ex,nsE x=true;have l1:fN nm=true->nm.length<=30:=λk=>by have:=(lK k).2.2.2.2;omega
 have l2:fN fd=true->fd.length<=30:=λk=>by have:=(lK k).2.2.2.2;omega
 have z:∀ x∈([]:List Ex),nsE x=true:=λx hx=>(by cases hx);have nz:([]:Str).length<=30:=by decide
 have z0:nsE zE=true:=by decide
 cases hg with
 | tf=>exact ⟨⟨nz,nz⟩,z⟩
 | @cmp o x y h hx hy =>
  refine ⟨⟨nz,nz⟩,λe he=>?_⟩;rw [bV.1 he];have m3:=(GJ (n3 _ (bV.2 rfl))).2.2;unfold nsE;rw [nR,mL,aE,aD,aW];refine ⟨nz,λe he=>?_⟩;simp only [bQ,List.not_mem_nil,or_false] at he;rcases he with rfl | rfl
  ·exact QE _ (m3 _ (by simp)) hx
  ·exact QE _ (m3 _ (by simp)) hy
 | var=>exact ⟨⟨l1 (n1 rfl),l2 (n2 rfl)⟩,z⟩
 | has hx=>exact ⟨⟨l1 (n1 rfl),l2 (n2 rfl)⟩,λe he=>by rw [bV.1 he];exact QE _ (n3 _ (by simp)) hx⟩
 | flg=>exact ⟨⟨l1 (n1 rfl),nz⟩,z⟩
 | arr hl hx =>
  refine ⟨⟨l1 (n1 rfl),l2 (n2 rfl)⟩,λe he=>?_⟩;rcases hx e he with rfl | h
  ·exact z0
  ·exact QE _ (n3 e he) h
 | un=>exact ⟨⟨nz,nz⟩,z⟩
 | win=>exact ⟨⟨nz,nz⟩,z⟩
 | amo h=>exact ⟨⟨l1 (n1 (by rcases h with rfl | rfl <;> rfl)),nz⟩,z⟩
 | cnt=>exact ⟨⟨l1 (n1 rfl),nz⟩,λe he=>by rw [bV.1 he];rfl⟩
 | bin=>exact ⟨⟨nz,nz⟩,z⟩
 | snc=>exact ⟨⟨nz,nz⟩,z⟩
theorem WN (h:gT f=0):(fmT f).length<=24000:=by
 obtain ⟨hc,_,hn,hf⟩:=NH h;have:=bF5 f (bF0 f hf hn);omega
theorem aL8 (h:gT f=0):HR f=fmT f:=aL h
theorem aL9 (h:¬ gT f=0):HR f=[]:=aF h
theorem aI8:dK prg 24=true:=by kernel_rfl
set_option maxHeartbeats 2000000 in
theorem IK (H:Hp) (GL:Gl H) (G:Gf H) (gq:Gq H) (l:List Nf) (v:Value) (h:Rep H (.seq 8 (l.map dNf)) [v]) (w:World) (hA:Agr H w) :
 Calls prg 7 #[v] w λr w'=>r=.returned (.bool true)/\Ext w w':=by
 refine Sx.enter (H:=H) Tryz.func7 rfl Tryz.ntmps7 rfl hA ?_;refine .sr<|.aq Z<|.sq<|.sr<|.yw (.call aJ0 Z (λW s=>aF8 H GL G gq W s.agr))<|.yw (.not Z)<|.nt<|.cF Z<|.sk<|.tN<|.sm Z<|.ct (X:=List Value) aI9 Z (λW s=>QV H l v h W s.agr) Z λx1 H1 hx1 u1=>?_
 obtain ⟨g1,r1,hg1,hc1⟩:=hx1;refine .ct (X:=List Value) OD Z (λW s=>aT3 g1 hg1 H1 _ W r1 s.agr) Z λx3 H2 hx3 uH2=>.al eG Z λb3=>.sV .head Z Z cV (wM hx3) hx3.one Z<|.nt<|.sq<|.sr<|.yw (.loadW Z cD Hm (wM hx3))<|.yw (.call CF Z (λW s=>zJ H2 ((GL.up u1.up).up uH2.up) ((G.up u1.up).up uH2.up) g1 (QM (by decide) g1 hg1) _ W hx3 s.agr))<|.yw (.neq Z Z)<|.nt<|.cd Z (λh14=>?_) (λh14=>?_)
 ·have hc:¬ gT g1=0:=λe=>aH h14 (by rw [e];rfl);refine .sr<|.yw (.loadW Z cD Hm (wM hx3))<|.yw (.cast (.call HL Z (λW s=>GV H2 ((GL.up u1.up).up uH2.up) ((G.up u1.up).up uH2.up) ((gq.up u1.up).up uH2.up) g1 (QM (by decide) g1 hg1) _ W hx3 s.agr)) (congrArg cH (aL9 hc)))<|.yw (.cast (.eqS Z Z) (congrArg Value.bool (aS Z)))<|.az Z<|.tR<|?_
  exact y9 Z Z λW s=>⟨Z,((u1.trans uH2).grow s).ext⟩
 have hc:gT g1=0:=by have:=aN h14;omega
 refine .sk<|.tN<|.sr<|.yw (.loadW Z cD Hm (wM hx3))<|.yw (.cast (.call HL Z (λW s=>GV H2 ((GL.up u1.up).up uH2.up) ((G.up u1.up).up uH2.up) ((gq.up u1.up).up uH2.up) g1 (QM (by decide) g1 hg1) _ W hx3 s.agr)) (congrArg cH (aL8 hc)))<|.ct (X:=List Value) HK Z (λW s=>GP H2 ((GL.up u1.up).up uH2.up) ((G.up u1.up).up uH2.up) (fmT g1) g1 (aZ (WN hc) (by decide)) (aW9 hc) W s.agr) Z λx4 H3 hx4 uH3=>?_
 have hx3a:=hx3.up uH3.up;refine .mv Z<|.yw (.extract Z Z)<|.yw (.extract Z Z)<|.yw (.extract Z Z)<|.al eG Z λb4=>.sV .head Z Z cV (wM hx4) hx4.one Z<|.a Z Z<|.a Z Z<|.ns<|.mv Z<|.yw (.cast (.eql Z Z) (congrArg Value.bool (aS Z)))<|.mv Z<|.gy (.move Z)<|.gy (.cast (.eql Z Z) (congrArg Value.bool (aS Z)))<|.yw (.pickT Z Z)<|.mv Z<|.gy (.loadW Z cD cO (wM hx3))<|.gy (.loadW Z cD Hm (wM hx4))<|.gy (.cast (.call aI8 Z (λW s=>WY H3 g1 g1 4 (QM (by decide) g1 hg1) (by omega) (by decide) _ _ W hx3a hx4 s.agr)) (congrArg Value.bool (aR.2 Z)))<|.yw (.pickT Z Z)<|.az Z<|?_
 exact y9 Z Z λW s=>⟨Z,(((u1.trans uH2).trans uH3).grow s).ext⟩
variable {H:Type} {enc:TypeId × Value->H}
theorem wrap {a:Assume} {C:Checked} {os:Os} {f:FuncId} {fn:Func} {s:ChangeSpec} {conds:List PathCond} {apart fresh handsOn aY3:Bool} {X:World->Array Value->Prop} 
 (hX:∀ (w w':World) (args:Array Value),w.heap=w'.heap->X w args->X w' args)
 (own:ownKnob C.prog.godebug=none) (started:os.Started) (noInit:C.prog.inits.idxOf? f=none) (hfn:C.prog.funcs[f]? = some fn)
 (witness:∃ (w:World) (tape:Tape) (i:Input),w.os=os/\(w.forCall tape i).Shaped C.prog/\i.vars=[]/\Input.okWide C.prog (w.forCall tape i) .any w.heap.size f i /\
  ((s.pre enc C.prog fn conds apart (w.forCall tape i).memory i.args/\X (w.forCall tape i).memory i.args)/\sizedMet enc C.prog fn (OpenSpec.ofChange s) apart (w.forCall tape i).memory i.args)/\a.holds C.prog (lone (Frame.enter C.prog f i.args .normal) [] (w.forCall tape i)))
 (contract:∀ (W:World) (base:Nat) (args:Array Value) (ds gs:List (DataW H)) (before:List MemPlace),
  (∀ (j:Nat) t v,fn.params[j]? = some t->args[j]? = some v->Value.okWide C.prog W .any base t v) ->
  DataW.Whole enc C.prog fn.params.toList s.vars apart W args.toList ds gs before ->
  X W args->W.ShapedOpen C.prog ->
  Calls C.prog f args W λe W'=>∃ v,e=.returned v/\s.post enc C.prog fn apart fresh handsOn aY3 W args v W') :
 ReturnsInHanded a C os f .any (λw args=>(s.pre enc C.prog fn conds apart w args/\X w args)/\sizedMet enc C.prog fn (OpenSpec.ofChange s) apart w args) (s.post enc C.prog fn apart fresh handsOn aY3):=by
 refine returnsInHanded_of_calls own started noInit witness ?_;intro w tape i _ hsh _ hok hpre _;obtain ⟨_,_,_,fn',hfn',_,_,_,_,hval⟩:=hok;have e:fn'=fn:=bK (hfn'.symm.trans hfn);subst e;obtain ⟨⟨⟨ds,gs,before,hw,_⟩,hx⟩,_⟩:=hpre;have hw':=DataW.Whole.of_heap (w':=w.forCall tape i) (by rfl) hw;refine (contract (w.forCall tape i) w.heap.size i.args ds gs before hval hw' (hX _ _ _ (by rfl) hx) hsh).mono λe W' ⟨v,he,hp⟩=>?_;subst he;exact ChangeSpec.post_blind hp

theorem own:ownKnob prg.godebug=none:=by kernel_rfl
def CP:List (String × DataW Unit):=[("math/bits.deBruijn32tab",Rows.laid_math_bits_deBruijn32tab),("math/bits.deBruijn64tab",Rows.laid_math_bits_deBruijn64tab),("internal/strconv.uint64pow10",Rows.laid_internal_strconv_uint64pow10),("rootcause/lexer.words",Rows.laid_rootcause_lexer_words),("rootcause/lexer.symbols",Rows.laid_rootcause_lexer_symbols),("rootcause/formula.shapes",Rows.laid_rootcause_formula_shapes),("rootcause/formula.symbols",Rows.laid_rootcause_formula_symbols),("rootcause/formula.words",Rows.laid_rootcause_formula_words)]
theorem bU0:prg.globalNamed "internal/strconv.uint64pow10" = some 6:=by kernel_rfl
theorem bT9:(prg.globals[6]?).map (·.type)=some 257:=by kernel_rfl
theorem aW6:prg.cellsOf 257=20:=by kernel_rfl
theorem aF3:prg.cellsOf 242=1:=by kernel_rfl
theorem bR7:(Rows.laid_internal_strconv_uint64pow10:DataW Unit)=Lib.tabData .u64 Lib.pow10Tab:=by kernel_rfl
variable {W:World}
theorem bT3 (h:laidMet prg CP W):Gq (MF W):=by
 intro W' hA;have h1:Lib.TabIs prg W "internal/strconv.uint64pow10" .u64 Lib.pow10Tab:=Lib.tabIs_of_head bU0 bT9 Tryz.underlying257 Tryz.underlying242 aF3 aW6 (bR7 ▸ h.tail.tail);unfold Lib.TabIs World.var? at *;rw [bU0] at *;simp only [iC] at *
 split at h1
 ·rename_i cs T m hb;rw [hA 6 _ hb];exact h1
 ·cases h1
theorem bT4 (h:laidMet prg CP W):Gl (MF W) :=
 ⟨AW (t:=235) (.arr 39 .strg) _ (by kernel_rfl) (by kernel_rfl) (by kernel_rfl) (by kernel_rfl) (by kernel_rfl) h.tail.tail.tail,
  AW (t:=217) (.arr 25 .strg) _ (by kernel_rfl) (by kernel_rfl) (by kernel_rfl) (by kernel_rfl) (by kernel_rfl) h.tail.tail.tail.tail⟩
theorem bT5 (h:laidMet prg CP W):Gf (MF W) :=
 ⟨AW (t:=163) (.arr 19 .strg) _ (by kernel_rfl) (by kernel_rfl) (by kernel_rfl) (by kernel_rfl) (by kernel_rfl) h.tail.tail.tail.tail.tail.tail.tail,
  AW (t:=165) (.arr 22 .strg) _ (by kernel_rfl) (by kernel_rfl) (by kernel_rfl) (by kernel_rfl) (by kernel_rfl) h.tail.tail.tail.tail.tail.tail,
  AW (t:=200) (.arr 19 (.str [.int .u8,.bool,.bool,.bool,.bool,.int .u8,.int .u8])) _ (by kernel_rfl) (by kernel_rfl) (by kernel_rfl) (by kernel_rfl) (by kernel_rfl) h.tail.tail.tail.tail.tail⟩
theorem aR5 (os:Os) (args:Array Value):laidMet prg CP ((World.laidAll prg os CP).forCall (λ_ _=>0) ⟨#[],args,[]⟩).memory :=
 laidMet_laidAll _ (by kernel_rfl) (by kernel_rfl)
theorem TJ (os:Os) (args:Array Value):((World.laidAll prg os CP).forCall (λ_ _=>0) ⟨#[],args,[]⟩).Shaped prg :=
 World.shaped_of_ZipB (by kernel_rfl) (by kernel_rfl)
variable {W':World}
theorem aU9 (h:Ext W W'):∀ may,W.keptBut W' may:=λmay=>(Ext.below h).frame may
theorem bE8:laidOutB prg=true:=by kernel_rfl
end Go.Proofs.YtidclioghdbphaaGreatDoor
/- The walk lifted: for every input, rootcauselaw34.FormulaBack returns true, and its arguments read as they did (the tied card FormulaBackCardSaid). Conditions: the card's own (the listed package variables read as the program's initialisers lay them, tied to the text), and no others. -/
namespace Go.Proofs.YtidclioghdbphaaGreatDoor
open Go.RowKit Go.Par Go.Sx
theorem bE0 {x:D} (h:Ty.has (.str [.int .u8,.int .u8,.int .u8,.bool,.int .i64]) x):∃ y:Nd,x=dNd y:=by
 simp only [Ty.has,Ty.hasL] at h;obtain ⟨_,rfl,_,_,rfl,⟨a,rfl,ha⟩,_,_,rfl,⟨b,rfl,hb⟩,_,_,rfl,⟨c,rfl,hc⟩,_,_,rfl,⟨o,rfl⟩,_,_,rfl,⟨n,rfl,hn⟩,rfl⟩:=h;obtain ⟨a,rfl⟩:=QL ha;obtain ⟨b,rfl⟩:=QL hb;obtain ⟨c,rfl⟩:=QL hc;obtain ⟨n,rfl⟩:=ZD hn;exact ⟨⟨a,b,c,o,n⟩,Z⟩
theorem ON {x:D} (h:Ty.has (.int .u8) x):∃ y:UInt8,x=.val (.int .u8 y.toNat):=by
 simp only [Ty.has] at h;obtain ⟨n,rfl,hn⟩:=h;obtain ⟨a,rfl⟩:=QL hn;exact ⟨a,Z⟩
theorem aS4 {x:D} (h:Ty.has (.int .i64) x):∃ y:Int64,x=.val (.int .i64 y.toInt):=by
 simp only [Ty.has] at h;obtain ⟨n,rfl,hn⟩:=h;obtain ⟨a,rfl⟩:=ZD hn;exact ⟨a,Z⟩
theorem aN7 {α:Type} {f:α->D} {τ:Ty} {x:D} (k:∀ y,Ty.has τ y->∃ z,y=f z) (h:Ty.has (.seq τ) x):∃ l:List α,x=.seq τ.cells (l.map f):=by
 unfold Ty.has at h;obtain ⟨ds,rfl,h1⟩:=h;obtain ⟨l,rfl⟩:=YY (f:=f) λx hx=>k x (h1 x hx);exact ⟨l,Z⟩
theorem bS8 {x:D} (h:Ty.has (.str [.int .u8,.int .u8,.int .u8,.int .u8,.bool,.int .i64,.int .i64,.seq (.str [.int .u8,.int .u8,.int .u8,.bool,.int .i64])]) x):∃ y:Nf,x=dNf y:=by
 rw [Ty.has] at h;obtain ⟨ds,rfl,h⟩:=h;simp only [Ty.hasL] at h;obtain ⟨_,_,rfl,h1,_,_,rfl,h2,_,_,rfl,h3,_,_,rfl,h4,_,_,rfl,h5,_,_,rfl,h6,_,_,rfl,h7,_,_,rfl,h8,rfl⟩:=h;obtain ⟨a,rfl⟩:=ON h1;obtain ⟨b,rfl⟩:=ON h2;obtain ⟨c,rfl⟩:=ON h3;obtain ⟨d,rfl⟩:=ON h4;simp only [Ty.has] at h5;obtain ⟨o,rfl⟩:=h5;obtain ⟨m,rfl⟩:=aS4 h6;obtain ⟨n,rfl⟩:=aS4 h7;obtain ⟨l,rfl⟩:=aN7 (f:=dNd) (λ_=>bE0) h8;exact ⟨⟨a,b,c,d,o,m,n,l⟩,Z⟩
variable {W:World} {b:Nat} {v:Value}
theorem WE {H:Type} {enc:TypeId × Value->H} {base:Nat} {sp:Nat->Bool} {held:Bool} {d:DataW H} {p:List MemPlace} (hv:Value.okWide prg W .any b 22 v) (h:DataW.Trod enc prg W base sp held 22 v d p) :
 ∃ l:List Nf,Rep (MF W) (.seq 8 (l.map dNf)) [v]:=by
 obtain ⟨a0,n0,c0,rfl⟩:=Go.WideShapes.okWide_slice Tryz.underlying22 hv;obtain ⟨fuel,hf⟩:=h;obtain ⟨d,hd,hr⟩:=Ty.opens W (.seq (.str [.int .u8,.int .u8,.int .u8,.int .u8,.bool,.int .i64,.int .i64,.seq (.str [.int .u8,.int .u8,.int .u8,.bool,.int .i64])])) 22 fuel _ _ (by kernel_rfl) (by kernel_rfl) hf;obtain ⟨l,rfl⟩:=aN7 (f:=dNf) (λ_=>bS8) hd;exact ⟨l,hr⟩
namespace formulaBack
open Go.ChangeShapes Go.WideShapes Go.ChangeAt Go.RowKit
open Go.ChangeMaps (open_string shut_string)
theorem lifted (os:Os) (started:os.Started) (H:Type) (enc:TypeId × Value->H) :
 ReturnsInHanded {} Tryz.checked os 7 .any (λw args=>(Rows.formulaBackSpec.pre enc prg Tryz.f7 [] false w args/\laidMet prg CP w)/\sizedMet enc prg Tryz.f7 (OpenSpec.ofChange Rows.formulaBackSpec) false w args)
  (Rows.formulaBackSpec.post enc prg Tryz.f7 false true false false):=by
 refine wrap (C:=Tryz.checked) (X:=λw _=>laidMet prg CP w) (λ_ _ _ hh h=>h.of_heap hh) own started (by kernel_rfl) Tryz.func7
  (ChangeSpec.witness_shaped (enc:=enc) (C:=Tryz.checked) (os:=os) (X:=λw _=>laidMet prg CP w) false (World.laidAll prg os CP) #[.slice none 0 0] 8 (World.laidAll_os _ _ _) (TJ os _) (by kernel_rfl) (by kernel_rfl) (by kernel_rfl) (aR5 os _)) ?_
 intro W base args ds gs before hval0 hW hL hS;have GL:=bT4 hL;have G:=bT5 hL;have gq:=bT3 hL;have hval:∀ (j:Nat) t v,Tryz.f7.params[j]? = some t->args[j]? = some v->Value.okWide prg W .any base t v:=hval0;have hW':=hW;obtain ⟨p,q,hA0,hV,rfl,hfz,hnd⟩:=hW;have hA:DataW.TrodAll enc prg W 0 (λ_=>true) true Tryz.f7.params.toList args.toList ds p:=hA0;rw [Tryz.params7] at hA hval;obtain ⟨v0,d0,rfl,rfl,h0⟩:=trodAll_one hA;obtain ⟨rfl,rfl⟩:=trodVars_none hV;have k0:=h0;have hlt0:∀ x∈p,x.block<W.heap.size:=λx hx=>hW'.lt x (by simp [hx]);obtain ⟨l0,hr0⟩:=WE (hval 0 22 v0 rfl rfl) h0;clear hA0 hval0;simp only [dQ] at hW';refine (IK (MF W) GL G gq l0 v0 hr0 W (aY2 W)).mono λe W' ⟨he,hg⟩=>?_;subst he;refine ⟨_,Z,_,_,_,[],p,[],hW',?_,?_,Z,aU9 hg _,λh=>by cases h⟩
 ·exact trodAll_mk1 (shut_bool Tryz.underlying4 _)
 ·exact trodAll_mk1 (Below.trod bE8 (by kernel_rfl) (aH (by kernel_rfl)) k0 hg.below hlt0)
end formulaBack
end Go.Proofs.YtidclioghdbphaaGreatDoor
