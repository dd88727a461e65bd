/- Texts of the proof, one behind the other. -/
import Derived.Test.YtidclioghdbphaaGreatDoorMc
import Derived.Shelf.Strings.Builder1
import Derived.Shelf.Strings.Builder2
import Derived.Shelf.Strings.OnBuilder
import Derived.Shelf.Strings.BuilderF
import Derived.Shelf.Strings.BuilderK
import Derived.Shelf.Strings.Builder2Cap
import Derived.Shelf.Strconv.Itoa0
import Derived.Shelf.Strconv.Itoa1
import Derived.Shelf.LaysM
import Derived.Shelf.Strconv.Itoa2
import Derived.Shelf.Strconv.Itoa3
import Derived.Shelf.Strconv.Itoa4
import Derived.Shelf.Strings.Search1
import Derived.Shelf.Strings.Search2
import Derived.Shelf.Strings.Cut
import Derived.Shelf.Strings.Shaped
import Derived.Shelf.Strings.Prefix
import Derived.Shelf.Strings.BuilderCap
import Derived.Test.YtidclioghdbphaaGreatDoorProg
set_option linter.all false
set_option maxRecDepth 100000
namespace Go.Proofs.YtidclioghdbphaaGreatDoor
def hdO (r:List Tk):Option Kt:=r.head?.map kt
def hdC (k:List Kt) (o:Option Kt):Option Kt:=match k with | []=>o | x::_=>some x
theorem RG {l r:List Tk} {k:List Kt} (h:l.map kt=k):hdO (l++r)=hdC k (hdO r):=by
 subst h;cases l <;> rfl
def LS (_:Option Kt):Prop:=True
def QR (w:Str):Option Kt->Prop
 | none=>True
 | some x=>isK w x=false
def bN1:Option Kt->Prop
 | none=>True
 | some x=>(∀ i∈List.range 5,opK i x=none)/\isK [91] x=false
theorem RF (w:Str) (r:List Tk):isT w r=match hdO r with | none=>false | some x=>isK w x:=by cases r <;> rfl
variable {w:Str}
theorem aQ8 {r:List Tk} (h:QR w (hdO r)):isT w r=false:=by
 rw [RF];cases e:hdO r with
 | none=>rfl
 | some x=>rw [e] at h;exact h
section
variable {α β:Type}
def Rdc (p:Pz α) (ks:List Kt) (v:α) (C:Option Kt->Prop):Prop:=∀ le r,le.map kt=ks->C (hdO r)->p (le++r)=.ok v r
variable {k k1 k2:List Kt} {v a:α} {C C1 C2:Option Kt->Prop} {w:Str} {x:Kt}
theorem Rdc.pure:Rdc (gH v) [] v C:=λle r e _=>by
 obtain rfl:=eZ.1 e;rfl
theorem Rdc.seq {p:Pz α} {f:α->Pz β} {b:β} (h1:Rdc p k1 a C1) (hc:∀ o,C2 o->C1 (hdC k2 o)) (h2:Rdc (f a) k2 b C2):Rdc (dJ p f) (k1++k2) b C2:=λle r e c=>by
 obtain ⟨l1,l2,rfl,e1,e2⟩:=hO.1 e;unfold dJ;rw [aZ,h1 l1 (l2++r) e1 (by rw [RG e2];exact hc _ c)];exact h2 l2 r e2 c
theorem Rdc.nd {f:Unit->Pz β} {b:β} (hx:isK w x=true) (h:Rdc (f ()) k b C):Rdc (dJ (gNd w) f) (x::k) b C:=λle r e c=>by
 obtain ⟨t,l,rfl,ht,hl⟩:=cL.1 e;unfold dJ gNd;rw [aT,fH,ht,hx];exact h l r hl c
theorem Rdc.nm {f:Str->Pz β} {b:β} (h:Rdc (f w) k b C):Rdc (dJ gNm f) ((1,w)::k) b C:=λle r e c=>by
 obtain ⟨t,l,rfl,ht,hl⟩:=cL.1 e;have h1:t.k=1:=congrArg Prod.fst ht;have h2:t.t=w:=congrArg Prod.snd ht;unfold dJ gNm;rw [aT];simp only [h1,h2,bS];exact h l r hl c
theorem Rdc.nm1:Rdc gNm [(1,w)] w C:=λle r e c=>by
 obtain ⟨t,l,rfl,ht,hl⟩:=cL.1 e;obtain rfl:=eZ.1 hl;have h1:t.k=1:=congrArg Prod.fst ht;have h2:t.t=w:=congrArg Prod.snd ht;unfold gNm;rw [aT];simp only [h1,h2,bS]
 rfl
theorem Rdc.nu {u:Nat} (h:u<=9223372036854775807):Rdc gNu [(3,Lib.decDigits u)] (Int64.ofNat u) C:=λle r e c=>by
 obtain ⟨t,l,rfl,ht,hl⟩:=cL.1 e;obtain rfl:=eZ.1 hl;have h1:t.k=3:=congrArg Prod.fst ht;have h2:t.t=Lib.decDigits u:=congrArg Prod.snd ht;unfold gNu;rw [aT];simp only [h1,h2,bS,xM,h]
 rfl
theorem Rdc.altT {p q:Pz α} (hx:isK w x=true) (h:Rdc p k v C):Rdc (kQ w p q) (x::k) v C:=λle r e c=>by
 obtain ⟨t,l,rfl,ht,hl⟩:=cL.1 e;unfold kQ;rw [aT,fH,ht,hx];exact h l r hl c
theorem Rdc.altF {p q:Pz α} (hx:isK w x=false) (h:Rdc q (x::k) v C):Rdc (kQ w p q) (x::k) v C:=λle r e c=>by
 have h2:=h le r e c;obtain ⟨t,l,rfl,ht,hl⟩:=cL.1 e;unfold kQ;rw [aT,fH,ht,hx];exact h2
theorem Rdc.altE {p q:Pz α} (hc:∀ o,C o->QR w o) (h:Rdc q [] v C):Rdc (kQ w p q) [] v C:=λle r e c=>by
 have h2:=h le r e c;obtain rfl:=eZ.1 e;unfold kQ;rw [bW,aQ8 (hc _ c),aG (by decide)];exact h2
theorem Rdc.many {p:Pz α} (hp:Shr p) (hx:isK w x=true) {g:α->List Kt} {Cp:Option Kt->Prop} (h1:Cp (some x)) (hc:∀ o,C o->Cp o/\QR w o):∀ l:List α,(∀ a∈l,Rdc p (g a) a Cp)->Rdc (AJ w p) ((l.map λa=>x::g a).flatten) l C
 | [],_=>by
  rw [LG hp];exact .altE (λo c=>(hc o c).2) .pure
 | a::l,h=>by
  have ih:=Rdc.many hp hx h1 hc l λb hb=>h b (bT _ hb);rw [LG hp];simp only [dG,mY,aT];refine .altT hx (.seq (h a (aY ..)) (λo c=>?_) ?_)
  ·cases l with
   | nil=>exact (hc o c).1
   | cons b l=>exact h1
  ·have:=Rdc.seq (f:=λl=>gH (a::l)) (k2:=[]) ih (λo c=>c) .pure
   rwa [eK] at this
def aH0 (l:List (List Kt)):List Kt:=(l.map λk=>(4,[44])::k).flatten
def bN4:List (List Kt)->List Kt
 | []=>[]
 | k::l=>k++aH0 l
def UA (l:List (List Kt)):List Kt:=(4,[40])::(bN4 l++[(4,[41])])
theorem Rdc.list {p:Pz α} (hp:Shr p) {g:α->List Kt} {Cp:Option Kt->Prop} (h1:Cp (some (4,[44]))) (h2:Cp (some (4,[41]))) {l:List α} (h:∀ a∈l,Rdc p (g a) a Cp) (hg:∀ a∈l,∃ x k,g a=x::k/\isK [41] x=false):Rdc (BH p) (UA (l.map g)) l C:=by
 refine .nd Z ?_;cases l with
 | nil=>exact .altT rfl .pure
 | cons a l =>
  obtain ⟨x,k,e,hk⟩:=hg a (aY ..);have ha:=h a (aY ..)
  have hm:Rdc (AJ [44] p) (aH0 (l.map g)) l (λo=>o=some (4,[41])):=by
   have:=Rdc.many (C:=λo=>o=some (4,[41])) hp (w:=[44]) (x:=(4,[44])) rfl (g:=g) h1 (λo c=>by subst c;exact ⟨h2,Z⟩) l λb hb=>h b (bT _ hb);unfold aH0
   rwa [AM]
  have key:Rdc (dJ p λa=>dJ (AJ [44] p) λl=>dJ (gNd [41]) λ_=>gH (a::l)) (g a++(aH0 (l.map g)++[(4,[41])])) (a::l) C:=by
   refine .seq ha (λo c=>?_) (.seq hm (λo c=>rfl) (.nd Z .pure));cases l with
   | nil=>exact h2
   | cons b l=>exact h1
  simp only [dG,bN4,aZ];rw [e] at key|-;exact .altF hk key
end
def stK (kd:UInt8) (nm hd:Str) (es:List (List Kt)) (T:List Kt) (noE:Bool) (E:List Kt):List Kt :=
 if kd=1 then (1,nm)::(4,[61])::(es.getD 0 []++[(4,[59])])
 else if kd=2 then (1,nm)::(4,[91])::(es.getD 0 []++(4,[93])::(4,[61])::(es.getD 1 []++[(4,[59])]))
 else if kd=3 then (2,[100,101,108,101,116,101])::(1,nm)::(4,[91])::(es.getD 0 []++[(4,[93]),(4,[59])])
 else if kd=4 then (2,[105,102])::(es.getD 0 []++((4,[123])::(T++[(4,[125])])++if noE then [] else (2,[101,108,115,101])::(4,[123])::(E++[(4,[125])])))
 else if kd=5 then (2,[119,104,105,108,101])::(es.getD 0 []++(4,[123])::(T++[(4,[125])]))
 else if kd=6 then (2,[115,101,110,100])::(1,nm)::(4,[46])::(1,hd)::(UA es++[(4,[59])])
 else if kd=7 then (2,[97,102,116,101,114])::(es.getD 0 []++(2,[100,111])::(1,hd)::(UA (es.drop 1)++[(4,[59])]))
 else if kd=8 then (2,[115,116,111,114,101])::(es.getD 0 []++(4,[61])::(es.getD 1 []++if noE then [(4,[59])] else (2,[101,108,115,101])::(4,[123])::(E++[(4,[125])])))
 else if kd=9 then (2,[102,101,116,99,104])::(1,nm)::(4,[61])::(es.getD 0 []++if noE then [(4,[59])] else (2,[101,108,115,101])::(4,[123])::(E++[(4,[125])]))
 else [(2,[115,116,111,112]),(4,[59])]
mutual
def ktS:Sm->List Kt
 | .mk kd nm hd ex th el=>stK kd nm hd (ex.map ktE) (wN th) (decide (el.length=0)) (wN el)
def wN:List Sm->List Kt
 | []=>[]
 | s::r=>ktS s++wN r
end
theorem wO (kd:UInt8) (nm hd:Str) (ex:List Ex) (th el:List Sm):ktS (.mk kd nm hd ex th el)=stK kd nm hd (ex.map ktE) (wN th) (decide (el.length=0)) (wN el):=by rw [ktS]
theorem Rdc.ex {e:Ex} (h:Ex.all tK e=true):Rdc gEx (ktE e) e bN1:=λle r hk c=>by
 obtain ⟨h1,h2⟩:=bN6 e h;refine h1.full hk (by omega) h2 ⟨λi _ h4=>?_,?_⟩
 ·cases r with
  | nil=>unfold opAt isT;simp
  | cons t r=>exact c.1 i (bY.2 (by omega))
 ·cases r with
  | nil=>rfl
  | cons t r=>exact c.2
theorem bP0 (e:Ex):Ex.all tK e=true->∃ x k,ktE e=x::k/\isK [41] x=false:=by
 induction e using Ex.ind with
 | _ op nm n args ih =>
  intro h;rw [nT,aE] at h;obtain ⟨hf,hr⟩:=h;have ha:∀ a∈args,∃ x k,ktE a=x::k/\isK [41] x=false:=λa m=>ih a m (iQ m hr);simp only [tK,aE,bC,aD] at hf;obtain ⟨⟨⟨hop,hl⟩,_⟩,_⟩:=hf
  by_cases h1:op=1
  ·subst h1;exact ⟨_,_,Z,by simp [isK]⟩
  by_cases hb:op∈([11,12,13,14,15,16,17,18,19,20,21,22,23]:List UInt8)
  ·obtain ⟨b1,_⟩:=yO op hb;obtain ⟨a,b,rfl⟩:=oD (l:=args) (by omega);rw [RD hb];unfold CR
   split
   ·exact ⟨_,_,Z,Z⟩
   ·obtain ⟨x,k,e,hx⟩:=ha a (by simp);rw [e];exact ⟨_,_,Z,hx⟩
  have hs:op=2\/op=3\/op=4\/op=5\/op=6\/op=7\/op=8\/op=9\/op=10:=((KR hop).resolve_left h1).resolve_left hb;rcases hs with rfl | rfl | rfl | rfl | rfl | rfl | rfl | rfl | rfl
  all_goals first | exact ⟨_,_,Z,Z⟩ | exact ⟨_,_,Z,by decide⟩
theorem Rdc.exs {C:Option Kt->Prop} {l:List Ex} (h:∀ a∈l,Ex.all tK a=true):Rdc (BH gEx) (UA (l.map ktE)) l C :=
 .list Shs.ex.le ⟨by decide,by decide⟩ ⟨by decide,by decide⟩ (λa ha=>.ex (h a ha)) λa ha=>bP0 a (h a ha)
def endB (o:Option Kt):Prop:=o=some (4,[125])
theorem Rdc.blk {C:Option Kt->Prop} {l:List Sm} (h:Rdc gB (wN l) l endB):Rdc (HB gB) ((4,[123])::(wN l++[(4,[125])])) l C :=
 .nd rfl (.seq h (λ_ _=>rfl) (.nd rfl .pure))
theorem WZ {kd:UInt8} (h:KS kd=true):kd=1\/kd=2\/kd=3\/kd=4\/kd=5\/kd=6\/kd=7\/kd=8\/kd=9\/kd=10:=by
 simp only [KS,aE,aD] at h;have key:∀ i∈List.range 11,1<=i->(UInt8.ofNat i=1\/UInt8.ofNat i=2\/UInt8.ofNat i=3\/UInt8.ofNat i=4\/UInt8.ofNat i=5\/UInt8.ofNat i=6\/UInt8.ofNat i=7\/UInt8.ofNat i=8\/UInt8.ofNat i=9\/UInt8.ofNat i=10):=by decide
 have:=key kd.toNat (bY.2 (by omega)) h.1
 rwa [hI] at this
theorem aW4 {l:List Ex} (h:l.length=1) (hf:Ex.alls tK l=true):∃ a,l=[a]/\Ex.all tK a=true:=by
 obtain ⟨a,rfl⟩:=gZ h;exact ⟨a,Z,iQ (by simp) hf⟩
theorem bW6 {l:List Ex} (h:l.length=2) (hf:Ex.alls tK l=true):∃ a b,l=[a,b]/\Ex.all tK a=true/\Ex.all tK b=true:=by
 obtain ⟨a,b,rfl⟩:=oD h;exact ⟨a,b,Z,iQ (by simp) hf,iQ (by simp) hf⟩
inductive FmS:Sm->Prop where
 | k1 {nm:Str} {a:Ex} (ha:Ex.all tK a=true):FmS (.mk 1 nm [] [a] [] [])
 | k2 {nm:Str} {a b:Ex} (ha:Ex.all tK a=true) (hb:Ex.all tK b=true):FmS (.mk 2 nm [] [a,b] [] [])
 | k3 {nm:Str} {a:Ex} (ha:Ex.all tK a=true):FmS (.mk 3 nm [] [a] [] [])
 | k4 {a:Ex} {th el:List Sm} (ha:Ex.all tK a=true):FmS (.mk 4 [] [] [a] th el)
 | k5 {a:Ex} {th:List Sm} (ha:Ex.all tK a=true):FmS (.mk 5 [] [] [a] th [])
 | k6 {nm hd:Str} {l:List Ex} (hl:∀ a∈l,Ex.all tK a=true):FmS (.mk 6 nm hd l [] [])
 | k7 {hd:Str} {a:Ex} {l:List Ex} (ha:Ex.all tK a=true) (hl:∀ a∈l,Ex.all tK a=true):FmS (.mk 7 [] hd (a::l) [] [])
 | k8 {a b:Ex} {el:List Sm} (ha:Ex.all tK a=true) (hb:Ex.all tK b=true):FmS (.mk 8 [] [] [a,b] [] el)
 | k9 {nm:Str} {a:Ex} {el:List Sm} (ha:Ex.all tK a=true):FmS (.mk 9 nm [] [a] [] el)
 | k10:FmS (.mk 10 [] [] [] [] [])
theorem NV {s:Sm} (h:RJ s=true):FmS s:=by
 obtain ⟨kd,nm,hd,ex,th,el⟩:=s;simp only [RJ,aE,bC,aD] at h;obtain ⟨⟨⟨⟨⟨⟨⟨hk,h1⟩,h2⟩,h3⟩,h4⟩,h5⟩,h6⟩,h7⟩:=h;have z:∀ {l:List Sm},l.length=0->l=[]:=bI;rcases WZ hk with rfl | rfl | rfl | rfl | rfl | rfl | rfl | rfl | rfl | rfl
 ·obtain rfl:=h4.resolve_left (by decide);obtain rfl:=z (h5.resolve_left (by decide));obtain rfl:=z (h6.resolve_left (by decide));obtain ⟨a,rfl,ha⟩:=aW4 (jO h2 h1) h7;exact .k1 ha
 ·obtain rfl:=h4.resolve_left (by decide);obtain rfl:=z (h5.resolve_left (by decide));obtain rfl:=z (h6.resolve_left (by decide));obtain ⟨a,b,rfl,ha,hb⟩:=bW6 (jO h2 h1) h7;exact .k2 ha hb
 ·obtain rfl:=h4.resolve_left (by decide);obtain rfl:=z (h5.resolve_left (by decide));obtain rfl:=z (h6.resolve_left (by decide));obtain ⟨a,rfl,ha⟩:=aW4 (jO h2 h1) h7;exact .k3 ha
 ·obtain rfl:=h3.resolve_left (by decide);obtain rfl:=h4.resolve_left (by decide);obtain ⟨a,rfl,ha⟩:=aW4 (jO h2 h1) h7;exact .k4 ha
 ·obtain rfl:=h3.resolve_left (by decide);obtain rfl:=h4.resolve_left (by decide);obtain rfl:=z (h6.resolve_left (by decide));obtain ⟨a,rfl,ha⟩:=aW4 (jO h2 h1) h7;exact .k5 ha
 ·obtain rfl:=z (h5.resolve_left (by decide));obtain rfl:=z (h6.resolve_left (by decide));exact .k6 λa ha=>iQ ha h7
 ·obtain rfl:=h3.resolve_left (by decide);obtain rfl:=z (h5.resolve_left (by decide));obtain rfl:=z (h6.resolve_left (by decide));cases ex with
  | nil=>exact absurd h1 (by decide)
  | cons a l=>exact .k7 (iQ (by simp) h7) λb hb=>iQ (by simp [hb]) h7
 ·obtain rfl:=h3.resolve_left (by decide);obtain rfl:=h4.resolve_left (by decide);obtain rfl:=z (h5.resolve_left (by decide));obtain ⟨a,b,rfl,ha,hb⟩:=bW6 (jO h2 h1) h7;exact .k8 ha hb
 ·obtain rfl:=h4.resolve_left (by decide);obtain rfl:=z (h5.resolve_left (by decide));obtain ⟨a,rfl,ha⟩:=aW4 (jO h2 h1) h7;exact .k9 ha
 ·obtain rfl:=h3.resolve_left (by decide);obtain rfl:=h4.resolve_left (by decide);obtain rfl:=z (h5.resolve_left (by decide));obtain rfl:=z (h6.resolve_left (by decide));obtain rfl:=args0 (Nat.le_zero.1 h2);exact .k10
theorem aS7 {s:Sm} (h:FmS s):∃ x k,ktS s=x::k/\isK [125] x=false/\isK [101,108,115,101] x=false:=by
 cases h <;> rw [wO] <;> exact ⟨_,_,Z,Z,Z⟩
def RdS (s:Sm):Prop:=Rdc (gSt gB) (ktS s) s (QR [101,108,115,101])
theorem PS {x:Kt} (h1:(List.range 5).all (λi=>(opK i x).isNone)=true) (h2:isK [91] x=false):bN1 (some x):=⟨λi hi=>by simpa using aW.1 h1 i hi,h2⟩
theorem Rdc.oth {C:Option Kt->Prop} {el:List Sm} (h:Rdc gB (wN el) el endB):Rdc (UL gB) (if decide (el.length=0)=true then [(4,[59])] else (2,[101,108,115,101])::(4,[123])::(wN el++[(4,[125])])) el C:=by
 split
 ·rename_i e;obtain rfl:=bI (aH e);exact .altF Z (.nd Z .pure)
 ·exact .altT Z (.blk h)
theorem ZJ (el:List Sm) (o:Option Kt):bN1 (hdC (if decide (el.length=0)=true then [(4,[59])] else (2,[101,108,115,101])::(4,[123])::(wN el++[(4,[125])])) o):=by
 split <;> exact PS rfl rfl
theorem Rdc.st {s:Sm} (h:FmS s) (ht:∀ nm hd kd ex th el,s=.mk kd nm hd ex th el->Rdc gB (wN th) th endB/\Rdc gB (wN el) el endB):RdS s:=by
 unfold RdS;cases h with
 | k1 ha=>exact .altF rfl<|.altF rfl<|.altF rfl<|.altF rfl<|.altF rfl<|.altF rfl<|.altF rfl<|.altF rfl<|.nm<|.altF rfl<|.nd rfl<|.seq (.ex ha) (λ_ _=>PS rfl rfl)<|.nd rfl .pure
 | k2 ha hb=>exact .altF rfl<|.altF rfl<|.altF rfl<|.altF rfl<|.altF rfl<|.altF rfl<|.altF rfl<|.altF rfl<|.nm<|.altT rfl<|.seq (.ex ha) (λ_ _=>PS rfl rfl)<|.nd rfl<|.nd rfl<|.seq (.ex hb) (λ_ _=>PS rfl rfl)<|.nd rfl .pure
 | k3 ha=>exact .altF rfl<|.altF rfl<|.altF rfl<|.altF rfl<|.altF rfl<|.altF rfl<|.altF rfl<|.altT rfl<|.nm<|.nd rfl<|.seq (.ex ha) (λ_ _=>PS rfl rfl)<|.nd rfl<|.nd rfl .pure
 | @k4 a th el ha =>
  obtain ⟨h1,h2⟩:=ht _ _ _ _ _ _ rfl;refine .altT Z<|.seq (.ex ha) (λ_ _=>PS Z Z)<|.seq (C1:=LS) (.blk h1) (λ_ _=>trivial) ?_
  split
  ·rename_i e;obtain rfl:=bI (aH e);exact Rdc.seq (k1:=[]) (k2:=[]) (C1:=QR [101,108,115,101]) (.altE (λo c=>c) .pure) (λo c=>c) .pure
  ·have:=Rdc.seq (C2:=QR [101,108,115,101]) (f:=λl=>gH (Sm.mk 4 [] [] [a] th l)) (k2:=[]) (C1:=LS) (.altT (w:=[101,108,115,101]) (q:=gH []) (x:=(2,[101,108,115,101])) rfl (.blk h2)) (λo c=>trivial) .pure
   rwa [eK] at this
 | @k5 a th ha =>
  obtain ⟨h1,_⟩:=ht _ _ _ _ _ _ rfl;have:=Rdc.seq (C2:=QR [101,108,115,101]) (f:=λt=>gH (Sm.mk 5 [] [] [a] t [])) (k2:=[]) (C1:=LS) (.blk h1) (λo c=>trivial) .pure;rw [eK] at this;exact .altF Z<|.altT Z<|.seq (.ex ha) (λ_ _=>PS Z Z) this
 | k6 hl=>exact .altF rfl<|.altF rfl<|.altF rfl<|.altF rfl<|.altT rfl<|.nm<|.nd rfl<|.nm<|.seq (C1:=LS) (.exs hl) (λ_ _=>trivial)<|.nd rfl .pure
 | k7 ha hl=>exact .altF rfl<|.altF rfl<|.altF rfl<|.altF rfl<|.altF rfl<|.altT rfl<|.seq (.ex ha) (λ_ _=>PS rfl rfl)<|.nd rfl<|.nm<|.seq (C1:=LS) (.exs hl) (λ_ _=>trivial)<|.nd rfl .pure
 | @k8 a b el ha hb =>
  obtain ⟨_,h2⟩:=ht _ _ _ _ _ _ rfl;have:=Rdc.seq (C2:=QR [101,108,115,101]) (f:=λl=>gH (Sm.mk 8 [] [] [a,b] [] l)) (k2:=[]) (C1:=LS) (.oth h2) (λo c=>trivial) .pure;rw [eK] at this;exact .altF Z<|.altF Z<|.altT Z<|.seq (.ex ha) (λ_ _=>PS Z Z)<|.nd Z<|.seq (.ex hb) (λo _=>ZJ el o) this
 | @k9 nm a el ha =>
  obtain ⟨_,h2⟩:=ht _ _ _ _ _ _ rfl;have:=Rdc.seq (C2:=QR [101,108,115,101]) (f:=λl=>gH (Sm.mk 9 nm [] [a] [] l)) (k2:=[]) (C1:=LS) (.oth h2) (λo c=>trivial) .pure;rw [eK] at this;exact .altF Z<|.altF Z<|.altF Z<|.altT Z<|.nm<|.nd Z<|.seq (.ex ha) (λo _=>ZJ el o) this
 | k10=>exact .altF rfl<|.altF rfl<|.altF rfl<|.altF rfl<|.altF rfl<|.altF rfl<|.altT rfl<|.nd rfl .pure
theorem Rdc.b:∀ (l:List Sm),(∀ s∈l,FmS s/\RdS s)->Rdc gB (wN l) l endB
 | [],_=>λle r e c=>by
  obtain rfl:=eZ.1 (by rw [wN] at e;exact e);rw [UM,bW,RF];have c:hdO r=some (4,[125]):=c;rw [c]
  rfl
 | s::l,h=>λle r e c=>by
  rw [wN] at e;obtain ⟨l1,l2,rfl,e1,e2⟩:=hO.1 e;obtain ⟨hf,hs⟩:=h s (aY ..);obtain ⟨x,k,hx,hx1,_⟩:=aS7 hf;have ih:=Rdc.b l (λa ha=>h a (bT _ ha)) l2 r e2 c
  have h2:=hs l1 (l2++r) e1 (by
   rw [RG e2];cases l with
   | nil=>rw [show hdC (wN []) (hdO r)=hdO r from rfl,show hdO r=some (4,[125]) from c];rfl
   | cons b l =>
    obtain ⟨y,k2,hy,_,hy2⟩:=aS7 (h b (by simp)).1;rw [wN,hy];exact hy2)
  rw [UM,aZ,RF,RG e1,hx];show (if isK [125] x=true then _ else _)=_;rw [hx1,aG (by decide),h2];show (gB (l2++r)).bind _=_;rw [ih]
  rfl
theorem oW {q:Sm->Bool}:∀ {l:List Sm} {a:Sm},a∈l->Sm.alls q l=true->Sm.all q a=true
 | b::l,a,h,k=>by
  rw [Sm.alls,aE] at k;rcases bM.1 h with rfl | h
  ·exact k.1
  ·exact oW h k.2
theorem bE2 (s:Sm):Sm.all RJ s=true->FmS s/\RdS s:=by
 induction s using Sm.ind with
 | _ kd nm hd ex th el ih1 ih2 =>
  intro h;rw [PV,aE,aE] at h;obtain ⟨⟨h1,h2⟩,h3⟩:=h;have hf:=NV h1
  exact ⟨hf,.st hf λnm' hd' kd' ex' th' el' e=>by
   injection e with _ _ _ _ e1 e2
   subst e1 e2;exact ⟨.b _ λs hs=>ih1 s hs (oW hs h2),.b _ λs hs=>ih2 s hs (oW hs h3)⟩⟩
theorem Rdc.body {l:List Sm} (h:Sm.alls RJ l=true):Rdc gB (wN l) l endB:=.b l λs hs=>bE2 s (oW hs h)
/-! ### Fleets -/
def bV4 (n:Int64):List Kt:=if n.toInt<0 then [(4,[45]),(3,Lib.decDigits (-n.toInt).toNat)] else [(3,Lib.decDigits n.toInt.toNat)]
def hdK (h:Hd):List Kt:=(1,h.nm)::(UA (h.ps.map λp=>[(1,p)])++(4,[123])::(wN h.body++[(4,[125])]))
section
variable {C:Option Kt->Prop}
theorem bG7 {n:Int64} (h:0<=n.toInt):n.toInt.toNat<=9223372036854775807/\Int64.ofNat n.toInt.toNat=n:=by
 have hlt:=n.toInt_lt;refine ⟨by omega,dQ.1 ?_⟩;rw [fU (by omega)];omega
theorem Rdc.int {n:Int64} (h:n.toInt≠-9223372036854775808):Rdc aT9 (bV4 n) n C:=by
 unfold bV4
 split
 ·rename_i hn;have hlt:=n.le_toInt;have h1:(-n.toInt).toNat<=9223372036854775807:=by omega
  have e:-Int64.ofNat (-n.toInt).toNat=n:=by
   apply dQ.1;rw [Int64.toInt_neg,fU (by omega)];rw [Int.toNat_of_nonneg (by omega),Int.neg_neg];exact Int.bmod_eq_of_le (by omega) (by have:=n.toInt_lt;omega)
  have:=Rdc.seq (C1:=LS) (C2:=C) (f:=λv=>gH (-v)) (k2:=[]) (.nu h1) (λ_ _=>trivial) .pure;rw [e] at this;exact .altT Z this
 ·obtain ⟨h1,h2⟩:=bG7 (n:=n) (by omega);have h3:=Rdc.nu (C:=C) h1;rw [h2] at h3;exact .altF (by simp [isK]) h3
theorem Rdc.hd {h:Hd} (hf:cA9 h=true):Rdc gHd (hdK h) h C:=by
 have h1:Rdc (BH gNm) (UA (h.ps.map λp=>[(1,p)])) h.ps LS:=.list Shs.nm.le (Cp:=LS) trivial trivial (λa _=>.nm1) λa _=>⟨_,_,Z,by simp [isK]⟩;have h2:=Rdc.seq (C1:=LS) (C2:=C) (f:=λb=>gH (Hd.mk h.nm h.ps b)) (k2:=[]) (.blk (.body hf)) (λ_ _=>trivial) .pure;rw [eK] at h2;exact .nm<|.seq h1 (λ_ _=>trivial) h2
theorem Shs.hd:Shs gHd:=.bind .nm λ_=>.bind (Shs.list Shs.nm.le).le λ_=>.bind (Shs.blk Shr.b).le λ_=>.pure _
theorem Shs.int:Shs aT9:=.alt (.bind Shs.nu.le λ_=>.pure _) .nu
end
structure Tok (x:Kt) (r:Str):Prop where
 ne:x.2≠[]
 read:cI (x.2++r)=(x.1,x.2.length)
 skip:gD false (x.2++r)=x.2++r
 k5:x.1≠5
 sh:x.2.length<=1000000
inductive Lx:Str->List Kt->Prop where
 | nil:Lx [] []
 | blk {c:UInt8} {s:Str} {k:List Kt} (h:mH c=true) (l:Lx s k):Lx (c::s) k
 | tok {x:Kt} {s:Str} {k:List Kt} (h:Tok x s) (l:Lx s k):Lx (x.2++s) (x::k)
variable {s:Str}
theorem Lx.toks {k:List Kt} (h:Lx s k):∀ (f o:Nat),(gD false s).length<f->(AS f o (gD false s)).map kt=k:=by
 induction h with
 | nil=>intro f o _;rw [yI,sS];rfl
 | blk h _ ih=>intro f o hf;rw [NK h] at hf|-;exact ih f o hf
 | @tok x s k h _ ih =>
  intro f o hf;rw [h.skip] at hf|-
  match f,hf with
  | f+1,hf =>
   have hne:x.2++s≠[]:=by intro e;exact h.ne (fE.1 e).1
   rw [qN hne,h.read];simp only [iI,List.drop_left,dG];have hl:=nO false s;have h1:1<=x.2.length:=tJ.2 h.ne;rw [ih f _ (by rw [aF] at hf;omega)]
   rfl
theorem Lx.lex {k:List Kt} (h:Lx s k):(wM s).map kt=k:=by
 unfold wM;have:=nO false s;exact h.toks _ _ (by omega)
def rH (r:Str):Prop:=∀ c,r.head? = some c->jC c=false/\c≠46/\c≠61/\c≠62/\c≠47
def hdB (r:Str):Prop:=∀ c,r.head? = some c->c≠46/\c≠61/\c≠62/\c≠47
variable {r:Str}
theorem rH.hd (h:rH r):hdB r:=λc e=>(h c e).2
theorem kS {c:UInt8} (h:jC c=false/\c≠46/\c≠61/\c≠62/\c≠47):rH (c::r):=λd e=>by cases e;exact h
theorem fC {c:UInt8} (h:c≠46/\c≠61/\c≠62/\c≠47):hdB (c::r):=λd e=>by cases e;exact h
theorem xL {q:UInt8->Bool}:∀ {w r:Str},w.all q=true->(∀ c,r.head? = some c->q c=false)->pre q (w++r)=w.length
 | [],[],_,_=>rfl
 | [],c::r,_,h=>by unfold pre;rw [bW,dT,h c rfl];rfl
 | a::w,r,hw,h=>by
  rw [eE,aE] at hw;have:=xL hw.2 h;unfold pre at this|-;rw [aT,dT,hw.1];simp [this]
theorem QJ {q:UInt8->Bool}:∀ {w:Str},pre q w=w.length->w.all q=true
 | [],_=>rfl
 | a::w,h=>by
  unfold pre at h;rw [dT] at h;cases ha:q a with
  | false=>rw [ha] at h;simp at h
  | true =>
   rw [ha] at h;have:=QJ (q:=q) (w:=w) (by unfold pre;simpa using h);rw [eE,ha,this];rfl
theorem LP {Q:UInt8->Prop} (h:∀ i∈List.range 256,Q (UInt8.ofNat i)) (c:UInt8):Q c:=by
 have:=h c.toNat (bY.2 c.toNat_lt)
 rwa [hI] at this
theorem FL (c:UInt8) (h:pJ c=true):mH c=false/\c≠47/\c≠46/\c≠61/\c≠62/\jC c=true/\iX c=false:=by
 revert h
 exact LP (Q:=λc=>pJ c=true->mH c=false/\c≠47/\c≠46/\c≠61/\c≠62/\jC c=true/\iX c=false) (by decide +kernel) c
theorem RN (c:UInt8) (h:iX c=true):mH c=false/\c≠47/\c≠46/\c≠61/\c≠62/\pJ c=false:=by
 revert h
 exact LP (Q:=λc=>iX c=true->mH c=false/\c≠47/\c≠46/\c≠61/\c≠62/\pJ c=false) (by decide +kernel) c
theorem ZT (c:UInt8) (h:jC c=false):iX c=false:=by
 revert h
 exact LP (Q:=λc=>jC c=false->iX c=false) (by decide +kernel) c
theorem aC3:∀ w∈words,w.length<=12:=by decide +kernel
theorem SK {k:UInt8} (h0:w≠[]) (hl:pJ (w.headD 0)=true) (hw:w.all jC=true) (hk:(if words.contains w then (2:UInt8) else if w.length<=12 then 1 else 5)=k) (h5:k≠5) (hr:rH r):Tok (k,w) r:=by
 match w,h0 with
 | c::t,h0 =>
  have hlb:=FL c hl;have hp:pre jC ((c::t)++r)=(c::t).length:=xL hw λd hd=>(hr d hd).1;refine ⟨h0,?_,?_,h5,?_⟩
  ·show cI ((c::t)++r)=(k,(c::t).length);unfold cI;simp only;rw [show ((c::t)++r).headD 0=c from rfl,show pJ c=true from hl,aL rfl,hp,iI]
   split at hk
   ·rename_i e;rw [aL e,<-hk]
   ·rename_i e;rw [aG e]
    split at hk
    ·rename_i e2;rw [aL e2,<-hk]
    ·exact absurd hk.symm h5
  ·exact pZ hlb.1 (λe=>hlb.2.1 e.1)
  ·show (c::t).length<=1000000
   split at hk
   ·rename_i e;have:=aC3 _ (iC.1 e);omega
   ·split at hk
    ·omega
    ·exact absurd hk.symm h5
theorem UD:∀ w∈words,w≠[]/\pJ (w.headD 0)=true/\w.all jC=true:=by decide +kernel
theorem aM7 (hw:w∈words) (hr:rH r):Tok (2,w) r:=by
 obtain ⟨h1,h2,h3⟩:=UD w hw;exact SK h1 h2 h3 (by rw [aL (iC.2 hw)]) (by decide) hr
theorem lL (h:fQ w=true):w≠[]/\pJ (w.headD 0)=true/\w.all jC=true/\words.contains w=false/\w.length<=12:=by
 have hlen:=aR3 h;simp only [fQ,aE,aD,eT] at h;obtain ⟨⟨h0,h1⟩,h2⟩:=h
 match w,h0 with
 | c::t,h0 =>
  have hl:=aE0 h1
  have h3:words.contains ((c::t).take (pre jC (c::t)))=false/\pre jC (c::t)=(c::t).length:=by
   unfold cI at h1 h2;simp only [aV,hl,bS] at h1 h2
   split at h1
   ·simp at h1
   ·rename_i e;rw [aG e] at h2
    split at h1
    ·rename_i e2;rw [aL e2] at h2;exact ⟨by simpa using e,h2⟩
    ·simp at h1
  obtain ⟨h4,h5⟩:=h3;rw [h5,dD] at h4;exact ⟨h0,hl,QJ h5,h4,hlen⟩
theorem aM6 (hw:fQ w=true) (hr:rH r):Tok (1,w) r:=by
 obtain ⟨h1,h2,h3,h4,h5⟩:=lL hw;exact SK h1 h2 h3 (by rw [h4,aG (by decide),aL h5]) (by decide) hr
theorem tC (hw:fQ w=true):hdB (w++r):=by
 obtain ⟨h1,h2,_⟩:=lL hw
 match w,h1 with
 | c::t,_=>have:=FL c h2;exact fC ⟨this.2.2.1,this.2.2.2.1,this.2.2.2.2.1,this.2.1⟩
theorem tO (hw:w∈words):hdB (w++r):=by
 obtain ⟨h1,h2,_⟩:=UD w hw
 match w,h1 with
 | c::t,_=>have:=FL c h2;exact fC ⟨this.2.2.1,this.2.2.2.1,this.2.2.2.2.1,this.2.1⟩
theorem HN:∀ (u:Nat),∃ c t,Lib.decDigits u=c::t/\(t=[]\/c≠48)/\(u≠0->c≠48):=by
 intro u;induction u using Nat.strongRecOn with
 | _ u ih =>
  by_cases h:u<10
  ·rw [Lib.decDigits_one h];refine ⟨_,[],Z,.inl rfl,λhu e=>?_⟩;have:=congrArg UInt8.toNat e;rw [Plain.digit_nat u h] at this;have h48:(48:UInt8).toNat=48:=rfl;omega
  ·rw [Plain.digits_more u h];obtain ⟨c,t,e,_,h2⟩:=ih (u / 10) (by omega);rw [e];exact ⟨c,_,Z,.inr (h2 (by omega)),λ_=>h2 (by omega)⟩
theorem aA8 {u:Nat} (h:u<=9223372036854775808):(Lib.decDigits u).length<=21:=by
 have h1:=Lib.itoa_length_le (-(u:Int)) (by omega) (by omega)
 by_cases h0:u=0
 ·subst h0;decide +kernel
 ·rw [Lib.itoa,aL (by omega),show (-(u:Int)).natAbs=u by omega,aJ] at h1;omega
theorem bM0 {n:Int64} :n.toInt.toNat<=9223372036854775808:=by have:=n.toInt_lt;omega
theorem bB1 {u:Nat} (hu:u<=9223372036854775808) (hr:rH r):Tok (3,Lib.decDigits u) r:=by
 have hdl:=aA8 hu;obtain ⟨c,t,e,h2,_⟩:=HN u
 have hall:(Lib.decDigits u).all iX=true:=aW.2 λd hd=>by
  have:=Plain.digits_are u d hd;simp only [iX,aE,aD];exact this
 have hp:pre iX (Lib.decDigits u++r)=(Lib.decDigits u).length:=xL hall λd hd=>ZT d (hr d hd).1;rw [e] at hall hp hdl|-;rw [eE,aE] at hall;have hb:=RN c hall.1;refine ⟨by simp,?_,pZ hb.1 (λe=>hb.2.1 e.1),(show (3:UInt8)≠5 by decide),(by show (c::t).length<=1000000;omega)⟩;show cI ((c::t)++r)=(3,(c::t).length);unfold cI;simp only;rw [show ((c::t)++r).headD 0=c from rfl,hb.2.2.2.2.2,aG (by decide),hall.1,aL rfl,hp];refine aL ?_;rcases h2 with rfl | h2
 ·exact .inl Z
 ·exact .inr h2
theorem XA {u:Nat} :hdB (Lib.decDigits u++r):=by
 obtain ⟨c,t,e,_⟩:=HN u;have:=Plain.digits_are u c (by rw [e];simp);have hd:iX c=true:=by simp only [iX,aE,aD];exact this
 have hb:=RN c hd;rw [e];exact fC ⟨hb.2.2.1,hb.2.2.2.1,hb.2.2.2.2.1,hb.2.1⟩
def aN4:Str:=[123,125,40,41,91,93,44,59,58,46,61,60,62,43,45,42,47,37]
theorem YX {c:UInt8} (hc:c∈aN4) (hr:hdB r):Tok (4,[c]) r:=by
 have hx:∀ d,r.head? = some d->d≠46/\d≠61/\d≠62/\d≠47:=hr;refine ⟨by simp,?_,?_,(show (4:UInt8)≠5 by decide),(by show (1:Nat)<=_;omega)⟩
 ·show cI (c::r)=(4,1);have hl:pJ c=false/\iX c=false:=by revert c;decide
  have hf:symbols.find? (λx=>x.isPrefixOf (c::r))=some [c]:=by
   cases r with
   | nil=>revert c;decide
   | cons d t =>
    obtain ⟨e1,e2,e3,e4⟩:=hx d rfl;have b1:((46:UInt8) == d)=false:=sG (qL e1);have b2:((61:UInt8) == d)=false:=sG (qL e2);have b3:((62:UInt8) == d)=false:=sG (qL e3);simp only [aN4,bM,List.not_mem_nil,or_false] at hc
    rcases hc with rfl | rfl | rfl | rfl | rfl | rfl | rfl | rfl | rfl | rfl | rfl | rfl | rfl | rfl | rfl | rfl | rfl | rfl <;>
     simp [symbols,List.find?,List.isPrefixOf,b1,b2,b3]
  unfold cI;simp only [aV,hl.1,hl.2,hf,aI,bL,yD]
 ·refine pZ (by revert c;decide) ?_;rintro ⟨_,h⟩;exact (hx 47 h).2.2.2 rfl
def bB4:List Str:=[[61,61],[33,61],[60,61],[62,61],[45,62]]
theorem PK (hw:w∈bB4):Tok (4,w) r:=by
 simp only [bB4,bM,List.not_mem_nil,or_false] at hw;rcases hw with rfl | rfl | rfl | rfl | rfl <;> refine ⟨by simp,?_,?_,(show (4:UInt8)≠5 by decide),(by show (2:Nat)<=_;omega)⟩ <;> simp [cI,pJ,iX,symbols,List.find?,List.isPrefixOf,gD,mH]
theorem iE:rH (32::r):=kS (by decide)
theorem BM:rH (41::r):=kS (by decide)
theorem EA:rH (91::r):=kS (by decide)
theorem HQ:rH (93::r):=kS (by decide)
theorem Lx.sp {k:List Kt} (h:Lx r k):Lx (32::r) k:=.blk (by decide) h
theorem Lx.sy {c:UInt8} {k:List Kt} (hc:c∈aN4) (hr:hdB r) (h:Lx r k):Lx (c::r) ((4,[c])::k):=.tok (x:=(4,[c])) (YX hc hr) h
theorem Lx.kw {k:List Kt} (hw:w∈words) (hr:rH r) (h:Lx r k):Lx (w++r) ((2,w)::k):=.tok (x:=(2,w)) (aM7 hw hr) h
theorem Lx.nm {k:List Kt} (hw:fQ w=true) (hr:rH r) (h:Lx r k):Lx (w++r) ((1,w)::k):=.tok (x:=(1,w)) (aM6 hw hr) h
theorem Lx.nu {u:Nat} {k:List Kt} (hu:u<=9223372036854775808) (hr:rH r) (h:Lx r k):Lx (Lib.decDigits u++r) ((3,Lib.decDigits u)::k):=.tok (x:=(3,Lib.decDigits u)) (bB1 hu hr) h
def LxE (e:Ex):Prop:=∀ r ks,rH r->Lx r ks->Lx (e.text++r) (ktE e++ks)/\hdB (e.text++r)
variable {ks:List Kt}
theorem LxE.opnd {e:Ex} (h:LxE e) (n:Nat) (hr:rH r) (hk:Lx r ks):Lx (opT n (e.lv,e.text)++r) (CR n e.lv (ktE e)++ks)/\hdB (opT n (e.lv,e.text)++r):=by
 unfold opT CR;simp only
 split
 ·simp only [aT,bW,aZ];obtain ⟨h1,h2⟩:=h (41::r) ((4,[41])::ks) BM (.sy (by decide) hr.hd hk);exact ⟨.sy (by decide) h2 h1,fC (by decide)⟩
 ·exact h r ks hr hk
theorem aY4:∀ op∈([11,12,13,14,15,16,17,18,19,20,21,22,23]:List UInt8),(eF op).tx=32::((DP op).2++[32])/\(((DP op).1=2/\(DP op).2∈words)\/((DP op).1=4/\((DP op).2∈bB4\/∃ c∈aN4,(DP op).2=[c]))):=by decide +kernel
theorem Lx.bin {op:UInt8} (h:op∈([11,12,13,14,15,16,17,18,19,20,21,22,23]:List UInt8)) {k:List Kt} (hk:Lx r k):Lx ((eF op).tx++r) (DP op::k):=by
 obtain ⟨h1,h2⟩:=aY4 op h;rw [h1];simp only [aT,aZ,bW];refine .sp ?_;have hs:=hk.sp;refine .tok (x:=DP op) ?_ hs;generalize DP op=x at h2;obtain ⟨k,w⟩:=x;rcases h2 with ⟨e,hw⟩ | ⟨e,hw | ⟨c,hc,hw⟩⟩
 ·obtain rfl:k=2:=e;exact aM7 hw iE
 ·obtain rfl:k=4:=e;exact PK hw
 ·obtain rfl:k=4:=e;obtain rfl:w=[c]:=hw;exact YX hc iE.hd
theorem bO7 (e:Ex):Ex.all tK e=true->Ex.all aR4 e=true->LxE e:=by
 induction e using Ex.ind with
 | _ op nm n args ih =>
  intro h hq;rw [nT,aE] at h hq;obtain ⟨hf,hr⟩:=h;obtain ⟨hg,hq⟩:=hq;have ha:∀ a∈args,LxE a:=λa m=>ih a m (iQ m hr) (iQ m hq);simp only [tK,aE,bC,aD] at hf;simp only [aR4,bC,dR] at hg;obtain ⟨⟨⟨hop,hl⟩,hnm⟩,hn⟩:=hf;have hm:=FG hop;intro r ks hs hk
  by_cases h1:op=1
  ·subst h1;rw [aL rfl,aD] at hn
   have e1:Ex.text (.mk 1 nm n args)=Lib.decDigits n.toInt.toNat:=by
    rw [Ex.text,txt,aL rfl,Lib.itoa,aG (by omega)]
   have e2:ktE (.mk 1 nm n args)=[(3,Lib.decDigits n.toInt.toNat)]:=by
    rw [ktE,ktx,aL rfl,Lib.itoa,aG (by omega)]
   rw [e1,e2];exact ⟨.nu bM0 hs hk,XA⟩
  rw [aG h1,aD] at hn;obtain rfl:=UJ hn
  by_cases hb:op∈([11,12,13,14,15,16,17,18,19,20,21,22,23]:List UInt8)
  ·obtain ⟨b1,_,_,_,_,_,_,g1,g2,g3,g4,g5,g6,g7⟩:=yO op hb;obtain ⟨a,b,rfl⟩:=oD (l:=args) (by omega)
   have e1:Ex.text (.mk op nm 0 [a,b])=opT (XF (eF op).lv) (a.lv,a.text)++(eF op).tx++opT ((eF op).lv+1) (b.lv,b.text):=by
    rw [Ex.text,txt,aG g1,aG (by simp [g2,g3]),aG (by simp [g4,g5]),aG (by simp [g6,g7]),aG (by omega)]
    rfl
   rw [e1,RD hb];simp only [aZ,aT];obtain ⟨k1,_⟩:=(ha b (by simp)).opnd ((eF op).lv+1) hs hk;have k2:=Lx.bin hb k1;refine (ha a (by simp)).opnd (XF (eF op).lv) ?_ k2;rw [(aY4 op hb).1];exact iE
  have hs9:op=2\/op=3\/op=4\/op=5\/op=6\/op=7\/op=8\/op=9\/op=10:=((KR hop).resolve_left h1).resolve_left hb
  have key:∀ a,LxE a->Lx (91::(a.text++93::r)) ((4,[91])::(ktE a++(4,[93])::ks)):=by
   intro a hA;obtain ⟨k1,k2⟩:=hA (93::r) ((4,[93])::ks) HQ (.sy (by decide) hs.hd hk);exact .sy (by decide) k2 k1
  have hn5:(eF op).nm=true->fQ nm=true:=λe=>hg.resolve_left (by rw [e];decide);rcases hs9 with rfl | rfl | rfl | rfl | rfl | rfl | rfl | rfl | rfl
  ·exact ⟨Lx.kw (w:=[116,114,117,101]) (by decide) hs hk,tO (w:=[116,114,117,101]) (by decide)⟩
  ·exact ⟨Lx.kw (w:=[102,97,108,115,101]) (by decide) hs hk,tO (w:=[102,97,108,115,101]) (by decide)⟩
  ·exact ⟨Lx.kw (w:=[110,111,119]) (by decide) hs hk,tO (w:=[110,111,119]) (by decide)⟩
  ·exact ⟨Lx.nm (hn5 rfl) hs hk,tC (hn5 rfl)⟩
  ·obtain ⟨a,rfl⟩:=gZ hl;have e1:Ex.text (.mk 6 nm 0 [a])++r=nm++91::(a.text++93::r):=by rw [ES];simp [txt,eF,QP,shapes]
   have e2:ktE (.mk 6 nm 0 [a])++ks=(1,nm)::(4,[91])::(ktE a++(4,[93])::ks):=by
    rw [show ktE (.mk 6 nm 0 [a])=(1,nm)::(4,[91])::(ktE a++[(4,[93])]) from rfl];simp
   rw [e1,e2];exact ⟨.nm (hn5 rfl) EA (key a (ha a (by simp))),tC (hn5 rfl)⟩
  ·obtain ⟨a,rfl⟩:=gZ hl;have e1:Ex.text (.mk 7 nm 0 [a])++r=[104,97,115]++32::(nm++91::(a.text++93::r)):=by rw [ES];simp [txt,eF,QP,shapes]
   have e2:ktE (.mk 7 nm 0 [a])++ks=(2,[104,97,115])::(1,nm)::(4,[91])::(ktE a++(4,[93])::ks):=by
    rw [show ktE (.mk 7 nm 0 [a])=(2,[104,97,115])::(1,nm)::(4,[91])::(ktE a++[(4,[93])]) from rfl];simp
   rw [e1,e2];exact ⟨.kw (by decide) iE (.sp (.nm (hn5 rfl) EA (key a (ha a (by simp))))),tO (by decide)⟩
  ·obtain rfl:=args0 hl;have e1:Ex.text (.mk 8 nm 0 [])++r=[115,105,122,101]++32::(nm++r):=by rw [ES];simp [txt,eF,QP,shapes]
   rw [e1];exact ⟨.kw (by decide) iE (.sp (.nm (hn5 rfl) hs hk)),tO (by decide)⟩
  ·obtain ⟨a,rfl⟩:=gZ hl;obtain ⟨k1,k2⟩:=(ha a (by simp)).opnd 6 hs hk;have e1:Ex.text (.mk 9 nm 0 [a])++r=45::(opT 6 (a.lv,a.text)++r):=by rw [ES];rfl
   rw [e1];exact ⟨.sy (by decide) k2 k1,fC (by decide)⟩
  ·obtain ⟨a,rfl⟩:=gZ hl;obtain ⟨k1,k2⟩:=(ha a (by simp)).opnd 6 hs hk;have e1:Ex.text (.mk 10 nm 0 [a])++r=[110,111,116]++32::(opT 6 (a.lv,a.text)++r):=by rw [ES];rfl
   rw [e1];exact ⟨.kw (by decide) iE (.sp k1),tO (by decide)⟩
theorem Lx.nl {k:List Kt} (h:Lx r k):Lx (10::r) k:=.blk (by decide) h
theorem Lx.spT {r:Str} {k:List Kt}:∀ (n:Nat),Lx r k->Lx (spT n++r) k
 | 0,h=>h
 | n+1,h=>by
  rw [Go.Proofs.YtidclioghdbphaaGreatDoor.spT,aZ];exact Lx.spT n (.sp (.sp h))
variable {n:Nat}
theorem Lx.line {parts:List Str} {k:List Kt} (h:Lx (parts.flatten++10::r) k):Lx (uP n parts++r) k:=by
 unfold uP;rw [aZ,aZ];exact .spT n h
theorem aC7 (hw:fQ w=true) (hr:∀ d,r.head? = some d->jC d=false):Tok (1,w) r:=by
 obtain ⟨h1,h2,h3,h4,h5⟩:=lL hw
 match w,h1 with
 | c::t,h1 =>
  have hlb:=FL c h2;have hp:pre jC ((c::t)++r)=(c::t).length:=xL h3 hr;refine ⟨h1,?_,pZ hlb.1 (λe=>hlb.2.1 e.1),(show (1:UInt8)≠5 by decide),(by show (c::t).length<=1000000;omega)⟩;show cI ((c::t)++r)=(1,(c::t).length);unfold cI;simp only;rw [show ((c::t)++r).headD 0=c from rfl,show pJ c=true from h2,aL rfl,hp,iI,h4,aG (by decide),aL h5]
theorem Lx.nm2 {k:List Kt} (hw:fQ w=true) (hr:∀ d,r.head? = some d->jC d=false) (h:Lx r k):Lx (w++r) ((1,w)::k):=.tok (x:=(1,w)) (aC7 hw hr) h
def LxI (t:Str) (k:List Kt):Prop:=∀ r ks,rH r->Lx r ks->Lx (t++r) (k++ks)/\hdB (t++r)
theorem LxI.one {t:Str} {k:List Kt} (h:LxI t k) (hr:rH r) (l:Lx r ks):Lx (t++r) (k++ks):=(h r ks hr l).1
theorem LxI.nm (h:fQ w=true):LxI w [(1,w)]:=λr ks hr l=>⟨.nm h hr l,tC h⟩
theorem LxI.ex {e:Ex} (h:Ex.all tK e=true) (hq:Ex.all aR4 e=true):LxI e.text (ktE e):=bO7 e h hq
theorem ZO {α:Type} {tx:α->Str} {g:α->List Kt}:∀ (l:List α) (r:Str) (ks:List Kt),(∀ a∈l,LxI (tx a) (g a))->rH r->Lx r ks->Lx (Lib.joinTail [44,32] (l.map tx)++r) (aH0 (l.map g)++ks)/\rH (Lib.joinTail [44,32] (l.map tx)++r)
 | [],r,ks,_,hr,h=>⟨h,hr⟩
 | a::l,r,ks,hl,hr,h=>by
  obtain ⟨h1,h2⟩:=ZO l r ks (λb hb=>hl b (bT _ hb)) hr h;have h3:=hl a (aY ..) _ _ h2 h1;unfold Lib.joinTail aH0 at *;simp only [dG,mY,aT,aZ,bW];exact ⟨.sy (by decide) (fC (by decide)) (.sp h3.1),kS (by decide)⟩
theorem ZP {α:Type} {tx:α->Str} {g:α->List Kt} {l:List α} (hl:∀ a∈l,LxI (tx a) (g a)) (hr:hdB r) (h:Lx r ks):Lx (40::(ZR (l.map tx)++41::r)) (UA (l.map g)++ks):=by
 have h0:Lx (41::r) ((4,[41])::ks):=.sy (by decide) hr h;unfold UA ZR;cases l with
 | nil=>exact .sy (by decide) (fC (by decide)) h0
 | cons a l =>
  simp only [dG,Lib.join_cons,bN4,aT,aZ,bW];obtain ⟨h1,h2⟩:=ZO l (41::r) _ (λb hb=>hl b (bT _ hb)) BM h0;obtain ⟨h3,h4⟩:=hl a (aY ..) _ _ h2 h1;exact .sy (by decide) h4 h3
def LxS (s:Sm):Prop:=∀ n r ks,Lx r ks->Lx (Sm.text n s++r) (ktS s++ks)
def LxB (l:List Sm):Prop:=∀ n r ks,Lx r ks->Lx (Sm.texts n l++r) (wN l++ks)
theorem LxB.of:∀ {l:List Sm},(∀ s∈l,LxS s)->LxB l
 | [],_=>λn r ks h=>by rw [Sm.texts,wN];exact h
 | s::l,hs=>λn r ks h=>by
  rw [Sm.texts,wN,aZ,aZ];exact hs s (aY ..) n _ _ (LxB.of (λa ha=>hs a (bT _ ha)) n r ks h)
theorem CY {k:List Kt} (hw:w∈words) (h:Lx r k):Lx (w++32::r) ((2,w)::k):=.kw hw iE (.sp h)
theorem QZ (h:Lx r ks):Lx (uP n [[125]]++r) ((4,[125])::ks):=.line (.sy (by decide) (fC (by decide)) (.nl h))
theorem aR7 {el:List Sm} (hb:LxB el) {first:Str} {k:List Kt} (hf:LxI first k) (h:Lx r ks) :
 Lx (aA7 n first (decide (el.length=0)) (Sm.texts (n+1) el)++r) (k++((if decide (el.length=0)=true then [(4,[59])] else (2,[101,108,115,101])::(4,[123])::(wN el++[(4,[125])]))++ks)):=by
 unfold aA7
 split
 ·refine .line ?_;simp only [mY,vP,eK,aZ,aT,bW];exact hf.one (kS (by decide)) (.sy (by decide) (fC (by decide)) (.nl h))
 ·simp only [aZ];refine .line ?_;simp only [mY,vP,eK,aZ,aT,bW];exact hf.one iE (.sp (CY (w:=[101,108,115,101]) (by decide) (.sy (by decide) (fC (by decide)) (.nl (hb _ _ _ (QZ h))))))
theorem LxI.app {t t2:Str} {k k2:List Kt} (h:LxI t k) (h2:∀ r ks,rH r->Lx r ks->Lx (t2++r) (k2++ks)/\rH (t2++r)):LxI (t++t2) (k++k2):=λr ks hr l=>by
 rw [aZ,aZ];obtain ⟨h3,h4⟩:=h2 r ks hr l;exact h _ _ h4 h3
theorem LxI.kw (hw:w∈words) {t:Str} {k:List Kt} (h:LxI t k):LxI (w++32::t) ((2,w)::k):=λr ks hr l=>by
 rw [aZ];exact ⟨CY hw (h r ks hr l).1,tO hw⟩
theorem LxI.eq {t t2:Str} {k k2:List Kt} (h:LxI t k) (h2:LxI t2 k2):LxI (t++([32,32,61,32].drop 1++t2)) (k++(4,[61])::k2):=h.app λr ks hr l =>
 ⟨.sp (.sy (by decide) (fC (by decide)) (.sp (h2.one hr l))),iE⟩
theorem bO8 {s:Sm} (h:FmS s) (hn:FK s=true) (hb:∀ nm hd kd ex th el,s=.mk kd nm hd ex th el->LxB th/\LxB el):LxS s:=by
 intro n r ks hk;cases h with
 | @k1 nm a ha =>
  simp only [FK,aE] at hn;have h1:fQ nm=true:=by simpa [sC,KS,IK] using hn.1.1
  have h2:=LxI.ex ha (iQ (aY ..) hn.2);refine .line ?_;rw [wO];simp [stK];exact .nm h1 iE<|.sp<|.sy (by decide) (fC (by decide))<|.sp<|h2.one (kS (by decide))<|.sy (by decide) (fC (by decide)) (.nl hk)
 | @k2 nm a b ha hb2 =>
  simp only [FK,aE] at hn;have h1:fQ nm=true:=by simpa [sC,KS,IK] using hn.1.1
  have h2:=LxI.ex ha (iQ (by simp) hn.2);have h3:=LxI.ex hb2 (iQ (by simp) hn.2);refine .line ?_;rw [wO];simp [stK];have h4:=h3.one (kS (by decide))<|Lx.sy (c:=59) (by decide) (fC (by decide)) (.nl hk)
  obtain ⟨h5,h6⟩:=h2 _ _ HQ<|Lx.sy (c:=93) (by decide) (fC (by decide))<|.sp<|.sy (c:=61) (by decide) (fC (by decide))<|.sp h4
  exact .nm h1 EA<|.sy (by decide) h6 h5
 | @k3 nm a ha =>
  simp only [FK,aE] at hn;have h1:fQ nm=true:=by simpa [sC,KS,IK] using hn.1.1
  have h2:=LxI.ex ha (iQ (by simp) hn.2);refine .line ?_;rw [wO];simp [stK];obtain ⟨h5,h6⟩:=h2 _ _ HQ<|Lx.sy (c:=93) (by decide) (fC (by decide))<|.sy (c:=59) (by decide) (fC (by decide)) (.nl hk)
  exact CY (w:=[100,101,108,101,116,101]) (by decide)<|.nm h1 EA<|.sy (by decide) h6 h5
 | @k4 a th el ha =>
  obtain ⟨b1,b2⟩:=hb _ _ _ _ _ _ rfl;simp only [FK,aE] at hn;have h2:=LxI.ex ha (iQ (by simp) hn.2);rw [EU,wO]
  by_cases he:el.length=0
  ·simp [stT,stK,he];refine .line ?_;simp;exact CY (w:=[105,102]) (by decide)<|h2.one iE<|.sp<|.sy (by decide) (fC (by decide))<|.nl<|b1 _ _ _<|QZ hk
  ·have he2:¬ el=[]:=λe=>he (by rw [e];rfl);simp [stT,stK,he2];refine .line ?_;simp;exact CY (w:=[105,102]) (by decide)<|h2.one iE<|.sp<|.sy (by decide) (fC (by decide))<|.nl<|b1 _ _ _<|.line<|.sy (by decide) (fC (by decide))<|.sp<|CY (w:=[101,108,115,101]) (by decide)<|.sy (by decide) (fC (by decide))<|.nl<|b2 _ _ _<|QZ hk
 | @k5 a th ha =>
  obtain ⟨b1,b2⟩:=hb _ _ _ _ _ _ rfl;simp only [FK,aE] at hn;have h2:=LxI.ex ha (iQ (by simp) hn.2);rw [EU,wO];simp [stT,stK];refine .line ?_;simp;exact CY (w:=[119,104,105,108,101]) (by decide)<|h2.one iE<|.sp<|.sy (by decide) (fC (by decide))<|.nl<|b1 _ _ _<|QZ hk
 | @k6 nm hd l hl =>
  simp only [FK,aE] at hn;have h1:fQ nm=true:=by simpa [sC,KS,IK] using hn.1.1
  have h2:fQ hd=true:=by simpa [sC,KS,IK] using hn.1.2
  refine .line ?_;rw [wO];simp [stK];exact CY (w:=[115,101,110,100]) (by decide)<|.nm2 h1 (λd e=>by cases e;rfl)<|.sy (by decide) (tC h2)<|.nm h2 (kS (by decide))<|ZP (λa ha=>.ex (hl a ha) (iQ ha hn.2)) (fC (by decide))<|.sy (by decide) (fC (by decide)) (.nl hk)
 | @k7 hd a l ha hl =>
  simp only [FK,aE] at hn;have h2:fQ hd=true:=by simpa [sC,KS,IK] using hn.1.2
  have h3:=LxI.ex ha (iQ (by simp) hn.2);refine .line ?_;rw [wO];simp [stK];exact CY (w:=[97,102,116,101,114]) (by decide)<|h3.one iE<|.sp<|CY (w:=[100,111]) (by decide)<|.nm h2 (kS (by decide))<|ZP (λb hb=>.ex (hl b hb) (iQ (by simp [hb]) hn.2)) (fC (by decide))<|.sy (by decide) (fC (by decide)) (.nl hk)
 | @k8 a b el ha hb2 =>
  obtain ⟨_,b2⟩:=hb _ _ _ _ _ _ rfl;simp only [FK,aE] at hn;have h2:=LxI.ex ha (iQ (by simp) hn.2);have h3:=LxI.ex hb2 (iQ (by simp) hn.2);have h4:=aR7 b2 (n:=n) (LxI.kw (w:=[115,116,111,114,101]) (by decide) (h2.eq h3)) hk;rw [EU,wO];simp [stT,stK] at h4|-;exact h4
 | @k9 nm a el ha =>
  obtain ⟨_,b2⟩:=hb _ _ _ _ _ _ rfl;simp only [FK,aE] at hn;have h1:fQ nm=true:=by simpa [sC,KS,IK] using hn.1.1
  have h2:=LxI.ex ha (iQ (by simp) hn.2);have h4:=aR7 b2 (n:=n) (LxI.kw (w:=[102,101,116,99,104]) (by decide) ((LxI.nm h1).eq h2)) hk;rw [EU,wO];simp [stT,stK] at h4|-;exact h4
 | k10 =>
  refine .line ?_;rw [wO];simp [stK];exact .kw (w:=[115,116,111,112]) (by decide) (kS (by decide))<|.sy (by decide) (fC (by decide)) (.nl hk)
theorem bG3 (s:Sm):Sm.all RJ s=true->Sm.all FK s=true->LxS s:=by
 induction s using Sm.ind with
 | _ kd nm hd ex th el ih1 ih2 =>
  intro h k;rw [PV,aE,aE] at h k;obtain ⟨⟨h1,h2⟩,h3⟩:=h;obtain ⟨⟨k1,k2⟩,k3⟩:=k;refine bO8 (NV h1) k1 λnm' hd' kd' ex' th' el' e=>?_;injection e with _ _ _ _ e1 e2
  subst e1 e2;exact ⟨.of λs hs=>ih1 s hs (oW hs h2) (oW hs k2),.of λs hs=>ih2 s hs (oW hs h3) (oW hs k3)⟩
theorem LxB.all {l:List Sm} (h:Sm.alls RJ l=true) (k:Sm.alls FK l=true):LxB l:=.of λs hs=>bG3 s (oW hs h) (oW hs k)
/-! ### Fleets -/
end Go.Proofs.YtidclioghdbphaaGreatDoor
namespace Go.Proofs.YtidclioghdbphaaGreatDoor
open Go.RowKit Go.Par Go.Sx Tryz
structure Mk where
 ints:Nat
 tables:Nat
 flags:Nat
 own:Nat
 ars:List (List Nat)
 params:Nat
def arN (M:Mk) (c h:Nat):Nat:=(M.ars.getD c []).getD h 0
def arL (M:Mk) (c:Nat):Nat:=(M.ars.getD c []).length
def Mk.at (M:Mk) (k:Nat):Mk:={ M with params:=arN M M.own k }
section
variable {H:Hp}
end
variable {i:Nat}
theorem bB5 {es:List Str} (h:i<es.length):(es.map cH)[i]? = some (cH (es.getD i [])):=by simp [h]
variable {k:Nat}
theorem KY {q:Ex->Bool} {l:List Ex} (h:k<l.length) (ha:Ex.alls q l=true):Ex.all q l[k]=true:=by
 cases hb:Ex.all q l[k] with
 | true=>rfl
 | false=>rw [aZ4 h hb] at ha;cases ha
theorem lP (H:Hp) (n:UInt8) (w:World) (hA:Agr H w):Calls prg 128 #[.int .u8 n.toNat] w λr w'=>r=.returned (cH (nJ n))/\Ext w w':=by
 refine Sx.enter (H:=H) func128 rfl ntmps128 rfl hA ?_;refine .sr<|.a Z Z<|.ns<|.bl Z (VQ _ _ _ _ _ _ _ _ _ _ _) Z λb3=>.mv Z<|.yw (.rem Z Z (by decide) (c:=((n.toNat % 11:Nat):Int)) (by rw [cY (by omega)];omega))<|.yw (.indexSl aC1 Z Z (i:=n.toNat % 11) Z (uK _ (by omega)) (q:=n.toNat % 11) (by omega))<|.yw (.load (v:=cH (nJ n)) Z cZ Hm (bB5 (es:=VY) (uK _ (by show 0<11;omega))))<|.az Z<|?_
 exact y9 Z Z λW s=>⟨Z,s.ext⟩
theorem aH8 (H:Hp) (k:Nat) (w:World) (hA:Agr H w):Calls prg 170 #[iN k] w λr w'=>r=.returned (.int .i64 (arR k))/\Ext w w':=by
 refine Sx.enter (H:=H) func170 rfl ntmps170 rfl hA ?_;refine .sr<|.aq Z<|.sq<|.bk<|.sm Z<|.yw (.lss Z Z)<|.mv Z<|.e2 (λh6=>?_) (λh6=>?_)
 ·refine .gG<|.gG<|.yw (.pickT Z Z)<|.aq Z<|.cT Z<|.sr<|.az Z<|.bR<|.tR<|?_
  refine y9 Z Z λW s=>⟨?_,s.ext⟩
  first
   | (rw [arR];simp_all <;> omega)
   | (rw [arR];simp_all;omega)
   | (congr 1;congr 1;rw [arR];simp_all <;> omega)
 refine .gy (.move Z)<|.gy (.gtr Z Z)<|.yw (.pickF Z Z)<|.aq Z<|.cd Z (λh3=>?_) (λh3=>?_)
 ·refine .sr<|.az Z<|.bR<|.tR<|?_
  refine y9 Z Z λW s=>⟨?_,s.ext⟩
  first
   | (rw [arR];simp_all <;> omega)
   | (rw [arR];simp_all;omega)
   | (congr 1;congr 1;rw [arR];simp_all <;> omega)
 refine .sm Z<|.yw (.leq Z Z)<|.mv Z<|.e2 (λh13=>?_) (λh13=>?_)
 ·refine .gG<|.gG<|.yw (.pickT Z Z)<|.aq Z<|.cT Z<|.sr<|.az Z<|.bR<|.tR<|?_
  refine y9 Z Z λW s=>⟨?_,s.ext⟩
  first
   | (rw [arR];simp_all <;> omega)
   | (rw [arR];simp_all;omega)
   | (congr 1;congr 1;rw [arR];simp_all <;> omega)
 refine .gy (.move Z)<|.gy (.eql Z Z)<|.yw (.pickF Z Z)<|.aq Z<|.cd Z (λh10=>?_) (λh10=>?_)
 ·refine .sr<|.az Z<|.bR<|.tR<|?_
  refine y9 Z Z λW s=>⟨?_,s.ext⟩
  first
   | (rw [arR];simp_all <;> omega)
   | (rw [arR];simp_all;omega)
   | (congr 1;congr 1;rw [arR];simp_all <;> omega)
 refine .sm Z<|.yw (.eql Z Z)<|.mv Z<|.e2 (λh20=>?_) (λh20=>?_)
 ·refine .gG<|.gG<|.yw (.pickT Z Z)<|.mv Z<|.gG<|.gG<|.yw (.pickT Z Z)<|.mv Z<|.gG<|.gG<|.yw (.pickT Z Z)<|.aq Z<|.cT Z<|.sr<|.az Z<|.bR<|.tR<|?_
  refine y9 Z Z λW s=>⟨?_,s.ext⟩
  first
   | (rw [arR];simp_all <;> omega)
   | (rw [arR];simp_all;omega)
   | (congr 1;congr 1;rw [arR];simp_all <;> omega)
 refine .gy (.move Z)<|.gy (.eql Z Z)<|.yw (.pickF Z Z)<|.mv Z<|.e2 (λh24=>?_) (λh24=>?_)
 ·refine .gG<|.gG<|.yw (.pickT Z Z)<|.mv Z<|.gG<|.gG<|.yw (.pickT Z Z)<|.aq Z<|.cT Z<|.sr<|.az Z<|.bR<|.tR<|?_
  refine y9 Z Z λW s=>⟨?_,s.ext⟩
  first
   | (rw [arR];simp_all <;> omega)
   | (rw [arR];simp_all;omega)
   | (congr 1;congr 1;rw [arR];simp_all <;> omega)
 refine .gy (.move Z)<|.gy (.eql Z Z)<|.yw (.pickF Z Z)<|.mv Z<|.e2 (λh28=>?_) (λh28=>?_)
 ·refine .gG<|.gG<|.yw (.pickT Z Z)<|.aq Z<|.cT Z<|.sr<|.az Z<|.bR<|.tR<|?_
  refine y9 Z Z λW s=>⟨?_,s.ext⟩
  first
   | (rw [arR];simp_all <;> omega)
   | (rw [arR];simp_all;omega)
   | (congr 1;congr 1;rw [arR];simp_all <;> omega)
 refine .gy (.move Z)<|.gy (.eql Z Z)<|.yw (.pickF Z Z)<|.aq Z<|.cd Z (λh17=>?_) (λh17=>?_)
 ·refine .sr<|.az Z<|.bR<|.tR<|?_
  refine y9 Z Z λW s=>⟨?_,s.ext⟩
  first
   | (rw [arR];simp_all <;> omega)
   | (rw [arR];simp_all;omega)
   | (congr 1;congr 1;rw [arR];simp_all <;> omega)
 refine .sk<|.bN<|.tN<|.sr<|.az Z<|?_
 refine y9 Z Z λW s=>⟨?_,s.ext⟩
 first
  | (rw [arR];simp_all <;> omega)
  | (rw [arR];simp_all;omega)
  | (congr 1;congr 1;rw [arR];simp_all <;> omega)
def bT0 (e:Ex):Prop:=Ex.all uY e=true->∀ (H:Hp) (cs:List Value) (w:World),Rep H (dEx .i64 e) cs->Agr H w ->
 Calls prg 39 #[.agg cs.toArray] w λr w'=>∃ x H',Rep H' (dEx .u8 e) x/\r=.returned (.agg x.toArray)/\xF H w H' w'
theorem aW5 (e:Ex):bT0 e:=by
 induction e using Ex.ind with | _ op nm nn args ih
 intro hnr H cs w h hA;rw [nT,aE,tV,aD] at hnr;obtain ⟨p,c,rfl,hs,hnm⟩:=iM h;have hcap:=hs.cap;have hn3:=hnr.1;refine Sx.enter (H:=H) func39 rfl ntmps39 rfl hA ?_;refine .sr<|.bx Z Z Z λb1=>.al jT Z λb2=>?_
 refine Sx.row0 76 4 ?_;refine .ns<|.fA Z fO<|.lD Z cS lR Z<|.yw (.conv Z lI VP (c:=(op.toNat:Nat)) (by have:=op.toNat_lt;simp only [IntKind.wrap,IntKind.signed,IntKind.bits];simp;omega))<|.fA Z dZ<|.lD Z cZ lR Z<|.fA Z eR<|.lD Z fG lR Z<|.yw (.build Z (MK _ _ _))<|.al jT Z λb3=>.sX .head Z Z gC Z<|.nt<|.sq<|.sr<|.fA Z tH<|.lD Z yV pY Z<|.yw (.lenSl CH Z)<|.mv Z<|.nt<|.bk<|.lp (X:=Nat × Hp × Value × List Value) [(2,_),(3,_),(15,_),(16,_)] ⟨Z,Z,Z,Z,Jt⟩ [_,_] (λz=>[(17,iN z.1)]) (λz=>z.2.1) (λz=>[.box b3 [.int .u8 op.toNat,cH nm,.int .i64 nn.toInt,z.2.2.1] 76,.row 76 4 z.2.2.1 z.1 z.2.2.2]) (λz=>z.1<=args.length/\HUp w H z.2.1/\eD z.2.1 4 ((args.take z.1).map (dEx .u8)) z.2.2.2) (λz=>args.length - z.1) (0,H,.slice none 0 0,[]) (λ_ s=>s) ⟨Z,Jt⟩ ⟨by simp,.refl,eD.nil⟩ λz hC=>?_
 obtain ⟨k,H1,r,xs⟩:=z;dsimp only at hC|-;obtain ⟨hk0,u1,hz⟩:=hC;refine .sr<|.yw (.lss Z Z)<|.nt<|.sq<|.ce Z (λh18=>?_) (λh18=>?_)
 ·have hk:k<args.length:=by omega
  obtain ⟨bE,oE,cE,hpE,rE,lE,mE⟩:=(hs.up u1.up).elem (kN hk);cases hpE;have hnr1:=KY hk hnr.2;refine .sk<|.tN<|.sq<|.bk<|.sr<|.yw (.indexSl CH Z Z Z (by omega) (q:=oE+k * 4) Z)<|.yw (.loadMW Z jZ mE lE)<|.al pC Z λb5=>.sV .head Z Z lO lE rE.one Z<|.nt<|.fL 5 [(0,0),(1,0),(2,0),(3,1),(4,1)]<|.fA Z eA<|.lD Z dE cP Z<|.yw (.loadW Z jZ Hm lE)<|.ct (X:=List Value) OV Z (λW s=>ih _ (bU hk) hnr1 H1 cE W rE s.agr) Z λx2 H2 hc2 u2=>?_
  generalize hx:args[k]=x at hc2;obtain ⟨op2,nm2,n2,oD⟩:=x;obtain ⟨p2,c2,rfl,hs2,hnm2⟩:=iM hc2;refine .bl Z (nE _ _ _ _) Z λb25=>.fn (tl:=[_,_,_]) Z<|.ap (news:=[.int .u8 op2.toNat,cH nm2,.int .i64 n2.toInt,.slice p2 oD.length c2]) uS Z (λ_=>mP) Z (.box Hm z0) Z (by simp [Value.oneCell',cH]) (by simp [maxLen];omega) (by omega) Z λr26 _=>?_
  refine At.ra (.tail _ (.tail _ (.tail _ Hm))) λp26 c26 e26=>?_;exact .fA Z eA<|.st mD Z Z mO (by rw [e26];rfl) (nb Z) Z<|.nl<|.bN<|.tN<|.rg<|.yw (.add Z Z w7)<|.mv Z<|.nt<|.ag (x:=(k,H1,r,xs)) (k+1,H2,r26,xs++[.int .u8 op2.toNat,cH nm2,.int .i64 n2.toInt,.slice p2 oD.length c2]) ⟨Z,Jt⟩ ⟨Z,Z,Z,Z,Jt⟩ (λ_ s=>(s.pick [2,3,4,5] _ Z Z)) ⟨by dsimp only;omega,u1.trans u2,by dsimp only;rw [tT hk,hx,bV];exact (hz.up u2.up).snoc hc2 Z⟩ (by dsimp only;omega)
 obtain rfl:k=args.length:=by omega
 rw [dD] at hz;refine At.ra (.tail _ Hm) λp26 c26 e26=>?_;subst e26;refine .ex<|.eb<|.sr<|.yw (.loadW Z dP Hm Z)<|.sX mD Z Z gC Z<|.nt<|.rt<|?_
 refine At.pm [1,2] [_,_] rfl rfl ?_;refine mM (ds:=args.map (dEx .u8)) (by simp) hz λH3 p3 c3 u3 hr3 hs3=>?_;refine y8 Z (.cell Z dP Hm rfl) λW s=>⟨_,H3,qP hnm hs3,Z,(u1.trans u3).grow s⟩
def BD (d:Nat) (e:Ex):Prop:=e.depth+d<=32/\Ex.all uY e=true
def HA (d:Nat) (l:List Ex):Prop:=Ex.deeps l+(d+1)<=32/\Ex.alls uY l=true
theorem LF {d:Nat} {op:UInt8} {nm:Str} {n:Int64} (h:d<=31):BD d (.mk op nm n []):=⟨by rw [tD];simp only [Ex.deeps];omega,by rw [nT,tV];rfl⟩
theorem aT7 {d:Nat} {op:UInt8} {nm:Str} {n:Int64} {l:List Ex} :BD d (.mk op nm n l)↔l.length<=3/\HA d l:=by
 simp only [BD,HA,tD,nT,tV,aE,aD]
 constructor
 ·rintro ⟨h1,h2,h3⟩;exact ⟨h2,by omega,h3⟩
 ·rintro ⟨h1,h2,h3⟩;exact ⟨by omega,h1,h3⟩
theorem XI (d:Nat) (h:d+1<=32:=by omega):HA d []:=⟨by simp only [Ex.deeps];omega,Z⟩
theorem UK {d:Nat} {l:List Ex} {e:Ex} (h:HA d l) (k:BD (d+1) e):HA d (l++[e]):=by
 obtain ⟨h1,h2⟩:=h;obtain ⟨k1,k2⟩:=k;refine ⟨?_,?_⟩
 ·rw [HO];simp only [Ex.deeps];omega
 ·rw [GG,h2];simp [Ex.alls,k2]
structure Sp where
 wh:UInt8
 i:UInt8
 nm:UInt8
 n:Int64
 nodes:List Nd
def okE (e:Ex):Bool:=decide (e.depth<=64) && Ex.all uY e
def bF4 (N:Nat):Sm->Bool
 | .mk _ _ _ ex _ _=>decide (ex.length<=N) && ex.all okE
structure okL (N:Nat) (l:List Sm):Prop where
 cnt:Sm.counts l<=N
 dep:Sm.deeps l<=N
 all:Sm.alls (bF4 N) l=true
mutual
theorem aP0 {q q':Sm->Bool} (h:∀ s,q s=true->q' s=true):∀ s,Sm.all q s=true->Sm.all q' s=true
 | .mk kd nm hd ex th el,hh=>by
  rw [PV] at hh|-;simp only [aE] at hh|-;exact ⟨⟨h _ hh.1.1,tU h th hh.1.2⟩,tU h el hh.2⟩
theorem tU {q q':Sm->Bool} (h:∀ s,q s=true->q' s=true):∀ l,Sm.alls q l=true->Sm.alls q' l=true
 | [],_=>rfl
 | s::r,hh=>by
  rw [Sm.alls,aE] at hh|-;exact ⟨aP0 h s hh.1,tU h r hh.2⟩
end
variable {N M:Nat}
theorem GX (h:N<=M):∀ s,bF4 N s=true->bF4 M s=true
 | .mk _ _ _ ex _ _,hh=>by
  simp only [bF4,aE,aD] at hh|-;exact ⟨by omega,hh.2⟩
theorem okL.mono {l:List Sm} (h:okL N l) (k:N<=M):okL M l:=⟨by have:=h.cnt;omega,by have:=h.dep;omega,tU (GX k) l h.all⟩
theorem okL.app {a b:List Sm} (h:okL N a) (k:okL M b):okL (N+M) (a++b):=by
 have h2:=h.mono (M:=N+M) (by omega);have k2:=k.mono (M:=N+M) (by omega);refine ⟨?_,?_,?_⟩
 ·rw [nZ];have:=h.cnt;have:=k.cnt;omega
 ·rw [qA];have:=h2.dep;have:=k2.dep;omega
 ·rw [sJ,h2.all,k2.all];rfl
theorem okL.len {l:List Sm} (h:okL N l):l.length<=N:=bD (TA l) h.cnt
theorem okL.left {a b:List Sm} (h:okL N (a++b)):okL N a:=by
 obtain ⟨h1,h2,h3⟩:=h;rw [nZ] at h1;rw [qA] at h2;rw [sJ,aE] at h3;exact ⟨by omega,by omega,h3.1⟩
theorem okL.right {a b:List Sm} (h:okL N (a++b)):okL N b:=by
 obtain ⟨h1,h2,h3⟩:=h;rw [nZ] at h1;rw [qA] at h2;rw [sJ,aE] at h3;exact ⟨by omega,by omega,h3.2⟩
variable {j:Nat}
theorem SX {α:Type} {l:List α} (h:j<l.length):l=l.take j++([l[j]]++l.drop (j+1)):=by simp
theorem bN3 {α:Type} {l:List α} (h:j<l.length) (s:α):l.set j s=l.take j++([s]++l.drop (j+1)):=by
 rw [List.set_eq_take_append_cons_drop,aL h];rfl
theorem okL.at {l:List Sm} (h:okL N l) (hj:j<l.length):okL N [l[j]]:=by
 have h2:=h;rw [SX hj] at h2;exact h2.right.left
theorem okL.put {l:List Sm} (h:okL N l) (hj:j<l.length) {s:Sm} (k:okL (N+M) [s]):okL (N+(N+M)) (l.set j s):=by
 have h2:=h;rw [SX hj] at h2
 have h3:okL N (l.take j++l.drop (j+1)):=by
  obtain ⟨a1,a2,a3⟩:=h2;simp only [nZ,qA,sJ,aE] at a1 a2 a3;refine ⟨?_,?_,?_⟩
  ·rw [nZ];omega
  ·rw [qA];omega
  ·rw [sJ,a3.1,a3.2.2];rfl
 rw [bN3 hj];obtain ⟨a1,a2,a3⟩:=h3;obtain ⟨b1,b2,b3⟩:=k;rw [nZ] at a1;rw [qA] at a2;rw [sJ,aE] at a3;have m1:=GX (N:=N) (M:=N+(N+M)) (by omega);have m2:=GX (N:=N+M) (M:=N+(N+M)) (by omega);refine ⟨?_,?_,?_⟩
 ·rw [nZ,nZ];omega
 ·rw [qA,qA];omega
 ·rw [sJ,sJ,tU m1 _ a3.1,tU m2 _ b3,tU m1 _ a3.2];rfl
structure bF5 (N:Nat) (h:Hd):Prop where
 ps:h.ps.length<=N
 body:okL N h.body
theorem bF5.mono {h:Hd} (k:bF5 N h) (l:N<=M):bF5 M h:=⟨by have:=k.ps;omega,k.body.mono l⟩
structure bF3 (N:Nat) (v:List Hd):Prop where
 len:v.length<=N
 all:∀ h∈v,bF5 N h
theorem bF3.mono {v:List Hd} (k:bF3 N v) (l:N<=M):bF3 M v:=⟨by have:=k.len;omega,λh m=>(k.all h m).mono l⟩
structure bF6 (N:Nat) (c:Cp):Prop where
 vars:c.vars.length<=N
 vers:c.vers.length<=N
 all:∀ v∈c.vers,bF3 N v
theorem bF6.mono {c:Cp} (k:bF6 N c) (l:N<=M):bF6 M c:=⟨by have:=k.vars;omega,by have:=k.vers;omega,λv m=>(k.all v m).mono l⟩
structure bO4 (N:Nat) (f:Ft):Prop where
 flags:f.flags.length<=N
 links:f.links.length<=N
 comps:f.comps.length<=N
 pos:0<f.comps.length
 all:∀ c∈f.comps,bF6 N c
theorem bO4.mono {f:Ft} (k:bO4 N f) (l:N<=M):bO4 M f:=⟨by have:=k.flags;omega,by have:=k.links;omega,by have:=k.comps;omega,k.pos,λc m=>(k.all c m).mono l⟩
def okD (D:Nat) (e:Ex):Prop:=e.depth<=D/\Ex.all uY e=true
theorem okD.mono {D D':Nat} {e:Ex} (h:okD D e) (k:D<=D'):okD D' e:=⟨bD h.1 k,h.2⟩
def wfE (D:Nat) (e:Ex):Prop:=e.depth<=D/\Ex.all tK e=true/\Ex.all aR4 e=true
theorem wfE.mono {D D':Nat} {e:Ex} (h:wfE D e) (k:D<=D'):wfE D' e:=⟨bD h.1 k,h.2⟩
def e0:Ex:=.mk 4 [] 0 []
structure bS8 (M:Mk):Prop where
 i0:0<M.ints
 i3:M.ints<=3
 p2:M.params<=2
 f2:M.flags<=2
 a3:M.ars.length<=3
 a0:0<M.ars.length
 ar2:∀ c h,arN M c h<=2
 al:∀ c,c<M.ars.length->0<arL M c/\arL M c<=3
 own:M.own<M.ars.length
structure Wf (D lf:Nat) (l:List Sm) (lf':Nat):Prop where
 cnt:Sm.counts l+lf'<=lf
 dep:Sm.deeps l<=D
 frm:Sm.alls RJ l=true
 nam:Sm.alls FK l=true
 sma:Sm.alls bU2 l=true
theorem Wf.all {D lf lf':Nat} {l:List Sm} (h:Wf D lf l lf'):Sm.deeps l<=D/\Sm.alls RJ l=true/\Sm.alls FK l=true/\Sm.alls bU2 l=true:=⟨h.dep,h.frm,h.nam,h.sma⟩
theorem bS8.at {M:Mk} (h:bS8 M) (k:Nat):bS8 (M.at k):=⟨h.i0,h.i3,h.ar2 _ _,h.f2,h.a3,h.a0,h.ar2,h.al,h.own⟩
structure Sg where
 r:List Tk
 e:Nat
 o:Nat
def cA3 (n:Nat):List Tk->Nat
 | []=>n
 | t::_=>t.o
section
variable {α β:Type}
def up (n:Nat) (g:Pz α) (s:Sg):Sg:=if s.e=0 then (match g s.r with | .ok _ r=>⟨r,s.e,s.o⟩ | .er r c=>⟨r,c,cA3 n r⟩) else s
def vl (g:Pz α) (s:Sg) (x:α):Prop:=s.e=0->∀ a r,g s.r=.ok a r->x=a
def Cz (g:Pz α):Prop:=∀ r r' c,g r=.er r' c->c≠0
theorem Rs.bind_er {x:Rs α} {f:α->List Tk->Rs β} {r:List Tk} {c:Nat} (h:x.bind f=.er r c):x=.er r c\/∃ a q,x=.ok a q/\f a q=.er r c:=by
 cases x with
 | ok a q=>exact .inr ⟨a,q,Z,h⟩
 | er q d=>left;injection h with h1 h2;subst h1;subst h2;rfl
theorem Cz.pure (a:α):Cz (gH a):=λr r' c e=>by cases e
theorem Cz.bind {g:Pz α} {f:α->Pz β} (h:Cz g) (k:∀ a,Cz (f a)):Cz (dJ g f):=λr r' c e=>by
 rcases Rs.bind_er e with e | ⟨a,q,_,e⟩
 ·exact h _ _ _ e
 ·exact k _ _ _ _ e
theorem Cz.nd (w:Str):Cz (gNd w):=λr r' c e=>by
 unfold gNd at e
 split at e
 ·cases e
 ·injection e with _ e;omega
theorem Cz.nm:Cz gNm:=λr r' c e=>by
 unfold gNm at e
 split at e
 ·injection e with _ e;omega
 ·split at e
  ·cases e
  ·injection e with _ e;omega
theorem Cz.nu:Cz gNu:=λr r' c e=>by
 unfold gNu at e
 split at e
 ·injection e with _ e;omega
 ·split at e
  ·split at e
   ·cases e
   ·injection e with _ e;omega
  ·injection e with _ e;omega
theorem Cz.alt {w:Str} {p q:Pz α} (h:Cz p) (k:Cz q):Cz (kQ w p q):=λr r' c e=>by
 unfold kQ at e
 split at e
 ·exact h _ _ _ e
 ·exact k _ _ _ e
theorem Cz.manyF {w:Str} {p:Pz α} (h:Cz p):∀ f,Cz (zL w p f)
 | 0=>λr r' c e=>by unfold zL at e;injection e with _ e;omega
 | f+1=>.alt (.bind h λ_=>.bind (Cz.manyF h f) λ_=>.pure _) (.pure _)
theorem Cz.many {w:Str} {p:Pz α} (h:Cz p):Cz (AJ w p):=λr r' c e=>Cz.manyF h _ _ _ _ e
def ac (w:Str) (s:Sg):Bool:=decide (s.e=0) && isT w s.r
end
theorem bK5:∀ w∈words,pJ (w.headD 0)=true/\w.length<=12:=by decide +kernel
theorem bU0:∀ w∈symbols,pJ (w.headD 0)=false/\iX (w.headD 0)=false:=by decide +kernel
variable {r w:Str}
theorem TG {c:UInt8} (e:(c::r).take (cI (c::r)).2=w):w.headD 0=c:=by
 have h:=(vW (l:=c::r) (by simp)).1;obtain ⟨k,hk⟩:∃ k,(cI (c::r)).2=k+1:=⟨(cI (c::r)).2 - 1,by omega⟩;rw [hk] at e;subst e
 rfl
theorem bJ0 {c:UInt8} (h:iX c=true):pJ c=false:=by
 have key:∀ i∈List.range 256,iX (UInt8.ofNat i)=true->pJ (UInt8.ofNat i)=false:=by decide +kernel
 have:=key c.toNat (bY.2 c.toNat_lt);rw [hI] at this;exact this h
variable {m:Str}
theorem WS (h:m≠[]) (hw:w∈words\/w∈symbols) (e:m.take (cI m).2=w):(cI m).1=2\/(cI m).1=4:=by
 match m,h with
 | c::r,_ =>
  have hh:=TG e;cases h1:pJ c with
  | true =>
   have hw1:w∈words:=by
    rcases hw with hw | hw
    ·exact hw
    ·have:=(bU0 w hw).1;rw [hh,h1] at this;cases this
   cases h4:words.contains ((c::r).take (pre jC (c::r))) with
   | true=>left;simp only [cI,aV,h1,h4,bS]
   | false =>
    by_cases h5:pre jC (c::r)<=12
    ·simp only [cI,aV,h1,h4,h5,bS,aI,bL] at e;rw [e] at h4;rw [iC.2 hw1] at h4;cases h4
    ·simp only [cI,aV,h1,h4,h5,bS,aI,bL] at e;rw [dD] at e;have h6:=AW jC (c::r);have h7:=(bK5 w hw1).2;rw [<-e] at h7;omega
  | false =>
   have hw1:w∈symbols:=by
    rcases hw with hw | hw
    ·have:=(bK5 w hw).1;rw [hh,h1] at this;cases this
    ·exact hw
   have h4:iX c=false:=by
    have:=(bU0 w hw1).2;rw [hh] at this;exact this
   cases hx:symbols.find? (λx=>x.isPrefixOf (c::r)) with
   | some x=>right;simp only [cI,aV,h1,h4,hx,aI,bL]
   | none =>
    simp only [cI,aV,h1,h4,hx,aI,bL] at e;rw [dD] at e;have:=List.find?_eq_none.1 hx w hw1;rw [<-e] at this;exact absurd (jB.2 (List.prefix_refl _)) this
theorem NN {c0:UInt8} (h:m≠[]) (hc:c0=50\/c0=51) (e:m.take (cI m).2=[c0]):(cI m).1=3:=by
 match m,h with
 | c::r,_ =>
  have hh:c0=c:=TG e;have h4:iX c=true:=by rw [<-hh];rcases hc with rfl | rfl <;> decide
  have h1:=bJ0 h4;have h5:pre iX (c::r)=1\/c≠48:=.inr (by rw [<-hh];rcases hc with rfl | rfl <;> decide);simp only [cI,aV,h1,h4,h5,bS,aI,bL]
def Tkg (t:Tk):Prop:=(t.t∈words\/t.t∈symbols->t.k=2\/t.k=4)/\(t.t=[50]\/t.t=[51]->t.k=3)/\t.t≠[]
theorem bK6:∀ (f o:Nat) (m:Str),∀ t∈AS f o m,Tkg t
 | 0,_,_,t,h=>by cases h
 | f+1,o,m,t,h=>by
  by_cases h0:m=[]
  ·rw [h0,sS] at h;cases h
  ·rw [qN h0] at h;rcases bM.1 h with rfl | h
   ·refine ⟨λhw=>WS h0 hw rfl,λhc=>?_,λe=>?_⟩
    ·rcases hc with hc | hc
     ·exact NN h0 (.inl Z) hc
     ·exact NN h0 (.inr Z) hc
    ·have hb:=vW h0;have h2:=congrArg List.length e;rw [fI] at h2;simp only [aM] at h2;omega
   ·exact bK6 f _ _ t h
theorem NT (s:Str):∀ t∈wM s,Tkg t:=bK6 _ _ _
theorem aQ7 (l:Str) (c:UInt8):nY (l++[c])=10 * nY l+(c.toNat - 48):=by
 unfold nY;rw [mW]
 rfl
theorem aQ6:∀ (r:Str) (v:Nat),v<=r.foldl (λv c=>10 * v+(c.toNat - 48)) v
 | [],v=>aX _
 | c::r,v=>by
  rw [sH];have:=aQ6 r (10 * v+(c.toNat - 48));omega
theorem bF7 (l r:Str):nY l<=nY (l++r):=by
 unfold nY;rw [mW];exact aQ6 r _
theorem aF0 (t:Str) (i:Nat):nY (t.take i)<=nY t:=by
 have h:=bF7 (t.take i) (t.drop i);rw [eY] at h;exact h
theorem aF1 {t:Str} {c:UInt8} (h:t[i]? = some c):nY (t.take (i+1))=10 * nY (t.take i)+(c.toNat - 48):=by
 rw [List.take_succ,h];exact aQ7 _ _
theorem aE9:nY []=0:=rfl
def toks (o:Nat) (m:Str):List Tk:=AS (m.length+1) o m
def vI (m:Str):Nat:=m.length - (gD false m).length
theorem SY (m:Str):vI m<=m.length:=Nat.sub_le _ _
theorem LL (m:Str):m.drop (vI m)=gD false m:=WR false m
theorem aM3 (o:Nat):toks o []=[]:=sS _ _
theorem NF {o:Nat} (h:m≠[]):toks o m=⟨(cI m).1,m.take (cI m).2,o⟩::toks (o+(cI m).2+vI (m.drop (cI m).2)) (m.drop ((cI m).2+vI (m.drop (cI m).2))):=by
 have hr:=vW h;have hs:=nO false (m.drop (cI m).2);rw [cW] at hs;unfold toks;rw [qN h,<-gW,LL]
 have e:o+(cI m).2+vI (m.drop (cI m).2)=o+(m.length - (gD false (m.drop (cI m).2)).length):=by
  unfold vI;rw [cW];omega
 rw [e,GR _ _ _ _ _ (cO _)];omega
theorem aF6 (s:Str):wM s=toks (vI s) (s.drop (vI s)):=by
 unfold toks wM;rw [LL];have hs:=nO false s;exact GR _ _ _ _ (by omega) (by omega)
theorem SM:∀ (f o:Nat) (m:Str),(AS f o m).length<=m.length
 | 0,_,_=>by rw [AS];simp
 | f+1,o,m=>by
  by_cases h0:m=[]
  ·subst h0;rw [sS];simp
  ·have hr:=vW h0;have hs:=nO false (m.drop (cI m).2);rw [cW] at hs;rw [qN h0,aJ];have:=SM f (o+(m.length - (gD false (m.drop (cI m).2)).length)) (gD false (m.drop (cI m).2));omega
theorem UB (s:Str):(wM s).length<=s.length:=bD (SM _ _ _) (nO false s)
theorem bZ:kR prg 35=some (some 7):=by kernel_rfl
theorem sE:dI prg 110=true:=by kernel_rfl
theorem sD:dI prg 113=true:=by kernel_rfl
theorem nD:dI prg 114=true:=by kernel_rfl
theorem YG:dI prg 158=true:=by kernel_rfl
theorem LU:dI prg 180=true:=by kernel_rfl
theorem fW:dY prg 35 2=some 2:=by kernel_rfl
theorem eX:dY prg 35 3=some 3:=by kernel_rfl
theorem eS:dY prg 35 4=some 4:=by kernel_rfl
theorem RY:UI prg 2=some Go.IntKind.i64:=by kernel_rfl
theorem cV:hP prg 35=some 7:=by kernel_rfl
theorem dX:pT prg 35=some
 [Go.Value.int Go.IntKind.u8 (Int.ofNat 0),Go.Value.string { data:={ toList:=[] } },
  Go.Value.string { data:={ toList:=[] } },Go.Value.int Go.IntKind.i64 (Int.ofNat 0),
  Go.Value.int Go.IntKind.i64 (Int.ofNat 0),Go.Value.slice none 0 0,Go.Value.slice none 0 0]:=by kernel_rfl
theorem vT (x0:Int) (x1:ByteArray):iJ prg 35 [(0,.int .u8 x0),(1,.string x1)]=some [.int .u8 x0,.string x1,.string ⟨#[]⟩,.int .i64 0,.int .i64 0,.slice none 0 0,.slice none 0 0]:=by kernel_rfl
theorem SC (x0 x4:Int):iJ prg 35 [(0,.int .u8 x0),(4,.int .i64 x4)]=some [.int .u8 x0,.string ⟨#[]⟩,.string ⟨#[]⟩,.int .i64 0,.int .i64 x4,.slice none 0 0,.slice none 0 0]:=by kernel_rfl
theorem u8w {c:UInt8} (h:48<=c.toNat):IntKind.u8.wrap ((c.toNat:Int) - 48)=((c.toNat - 48:Nat):Int):=by
 have key:∀ i∈List.range 256,IntKind.u8.wrap (i:Int)=(i:Int):=by decide +kernel
 rw [show (c.toNat:Int) - 48=((c.toNat - 48:Nat):Int) by omega];exact key _ (bY.2 (by have:=c.toNat_lt;omega))
theorem bI9 {c:UInt8} (h:iX c=true):48<=c.toNat/\c.toNat<=57:=by
 have key:∀ i∈List.range 256,iX (UInt8.ofNat i)=true->48<=i/\i<=57:=by decide +kernel
 exact key c.toNat (bY.2 c.toNat_lt) (by rw [hI];exact h)
def PH (t:Tk):Nat:=if t.k=3 then (if nY t.t<=9223372036854775807 then 0 else 2) else 1
def WD (t:Tk):Nat:=if t.k=3/\nY t.t<=9223372036854775807 then nY t.t else 0
theorem WC {t:Tk} (h:t.k=3) (hn:nY t.t<=9223372036854775807):PH t=0/\WD t=nY t.t:=⟨by unfold PH;rw [aL h,aL hn],by unfold WD;rw [aL ⟨h,hn⟩]⟩
theorem PG {t:Tk} (h:t.k=3) (hn:¬ nY t.t<=9223372036854775807):PH t=2/\WD t=0:=⟨by unfold PH;rw [aL h,aG hn],by unfold WD;rw [aG (λk=>hn k.2)]⟩
theorem bM5 {t:Tk} (h:¬ t.k=3):PH t=1/\WD t=0:=⟨by unfold PH;rw [aG h],by unfold WD;rw [aG (λk=>h k.1)]⟩
theorem aC4 (t:Tk) (hd:t.k=3->pre iX t.t=t.t.length/\¬ t.t=[]) (hl:t.t.length<=1000000) (w:World) :
 Calls prg 158 #[.agg (cTk .u8 t).toArray] w λr w'=>r=.returned (.tuple #[iN (WD t),iN (PH t)])/\Ext w w':=by
 refine y6 func158 Z ntmps158 Z ?_;refine .sr<|.bx Z Z Z λb1=>.a Z Z<|.aq Z<|.sq<|.sq<|.fL 16 [(0,0),(1,0),(2,0),(3,0),(4,0),(5,0),(6,0),(7,0),(8,0),(9,0),(10,0),(11,0),(12,0),(13,0),(14,0),(15,0)]<|.fA Z jF<|.lD Z nU Hm Z<|.yw (.neq Z Z)<|.mv Z<|.b2 (λh10=>?_) (λh10=>?_)
 ·have hk:¬ t.k=3:=λe=>aH h10 (by rw [e];rfl);obtain ⟨hv1,hv2⟩:=bM5 hk;refine .gG<|.gG<|.gG<|.yw (.pickT Z Z)<|.mv Z<|.gG<|.gG<|.gG<|.gG<|.gG<|.gG<|.gG<|.fn (tl:=[_]) Z<|.yw (.pickT Z Z)<|.nt<|.cT Z<|.sr<|.a Z Z<|.az Z<|.tR<|?_
  refine y7 Z (.cons (.tmp Z) (.cons (.tmp Z) .nil)) rfl λW s=>⟨?_,s.ext⟩
  first
   | (rw [hv1,hv2];rfl)
   | (rw [hv1,hv2,dD];rfl)
   | (rw [hv1,hv2,dD])
 have hk:t.k=3:=aQ.1 (by have:=gJ.1 (aN h10);exact Int.ofNat.inj this);obtain ⟨hd1,hd2⟩:=hd hk;have hall:=aW.1 (QJ hd1);refine .yg Z Z (.fieldAddr Z kG) Z<|.yg Z Z (.load Z cZ Hm Z) Z<|.yg Z Z (.cast (.eqS Z Z) (congrArg Value.bool (aP hd2))) Z<|.yw (.pickF Z Z)<|.mv Z<|.yg Z Z (.fieldAddr Z kG) Z<|.yg Z Z (.load Z cZ Hm Z) Z<|.yg Z Z (.call wY Z (λW s=>wJ 153 iX AC CD t.t (by omega) W)) Z<|.yg Z Z (.fieldAddr Z kG) Z<|.yg Z Z (.load Z cZ Hm Z) Z<|.yg Z Z (.lenS iO Z) Z<|.yg Z Z (.cast (.neq Z Z) (congrArg Value.bool (aP (by rw [hd1];simp)))) Z<|.fn (tl:=[_]) Z<|.yw (.pickF Z Z)<|.nt<|.cF Z<|.sk<|.tN<|.sr<|.aq Z<|.sq<|.sr<|.fA Z kG<|.lD Z cZ Hm Z<|.yw (.lenS iO Z)<|.mv Z<|.nt<|.bk<|.lp (X:=Nat) [(1,_),(26,_)] ⟨Z,Z,Jt⟩ [_] (λk=>[(27,iN k),(4,iN (nY (t.t.take k)))]) (λk=>(⟨λ_=>none,0⟩:Hp)) (λk=>[]) (λk=>k<=t.t.length/\nY (t.t.take k)<=9223372036854775807) (λk=>t.t.length - k) 0 (λ_ s=>s) ⟨Z,Z,Jt⟩ ⟨aO _,by simp [aE9]⟩ λk hC=>?_
 obtain ⟨hk0,hv0⟩:=hC;refine .sr<|.yw (.lss Z Z)<|.nt<|.sq<|.ce Z (λh28=>?_) (λh28=>?_)
 ·have hlt:k<t.t.length:=by omega
  obtain ⟨c,hc⟩:∃ c,c=t.t[k]:=⟨_,Z⟩;obtain ⟨hc1,hc2⟩:=bI9 (hall c (by rw [hc];exact bU hlt));have hst:nY (t.t.take (k+1))=10 * nY (t.t.take k)+(c.toNat - 48):=aF1 (by rw [hc];exact List.getElem?_eq_getElem hlt);have hle:=aF0 t.t (k+1);rw [hst] at hle;refine .sk<|.tN<|.sq<|.bk<|.sm Z<|.a Z Z<|.ns<|.fA Z kG<|.lD Z cZ Hm Z<|.mv Z<|.yw (.idxS iO Z Z Z (b:=c) (j:=k) (by rw [hc];exact List.getElem?_eq_getElem hlt))<|.yw (.sub Z Z (u8w hc1))<|.yw (.conv Z kU RY (c:=((c.toNat - 48:Nat):Int)) (w6 (by omega)))<|.aq Z<|.sq<|.sm Z<|.mv Z<|.yw (.sub Z Z (c:=((9223372036854775807 - (c.toNat - 48):Nat):Int)) ((w6 (by omega)).trans (by omega)))<|.yw (.quo Z Z (by decide) (c:=(((9223372036854775807 - (c.toNat - 48)) / 10:Nat):Int)) (by rw [oI (by omega)];exact (w6 (by omega)).trans (by omega)))<|.yw (.gtr Z Z)<|.nt<|.ce Z (λh40=>?_) (λh40=>?_)
  ·obtain ⟨hv1,hv2⟩:=PG hk (show ¬ nY t.t<=9223372036854775807 by omega);refine .sr<|.a Z Z<|.az Z<|.tR<|.bR<|.tR<|.tR<|.bR<|.tR<|?_
   refine y7 Z (.cons (.tmp Z) (.cons (.tmp Z) .nil)) rfl λW s=>⟨?_,s.ext⟩
   first
    | (rw [hv1,hv2];rfl)
    | (rw [hv1,hv2,dD];rfl)
    | (rw [hv1,hv2,dD])
  have hb:10 * nY (t.t.take k)+(c.toNat - 48)<=9223372036854775807:=by omega
  exact .sk<|.tN<|.rg<|.mv Z<|.yw (.mul Z Z (c:=((10 * nY (t.t.take k):Nat):Int)) ((w6 (by omega)).trans (by omega)))<|.mv Z<|.yw (.add Z Z (c:=((10 * nY (t.t.take k)+(c.toNat - 48):Nat):Int)) ((w6 (by omega)).trans (by omega)))<|.a Z Z<|.nl<|.bN<|.tN<|.rg<|.yw (.add Z Z w7)<|.mv Z<|.nt<|.ag (k+1) ⟨Z,by rw [hst];rfl,Jt⟩ ⟨Z,Z,Jt⟩ (λ_ s=>s) ⟨by omega,by rw [hst];omega⟩ (by omega)
 obtain rfl:k=t.t.length:=by omega
 rw [dD] at hv0;obtain ⟨hv1,hv2⟩:=WC hk hv0;refine .ex<|.eb<|.sm Z<|.a Z Z<|.az Z<|?_
 refine y7 Z (.cons (.tmp Z) (.cons (.tmp Z) .nil)) rfl λW s=>⟨?_,s.ext⟩
 first
  | (rw [hv1,hv2];rfl)
  | (rw [hv1,hv2,dD];rfl)
  | (rw [hv1,hv2,dD])
variable {H:Hp} {tp:Option Addr} {tc:Nat} {q:Rq}
theorem bN0 {l:Tks} (K:Tkf H l tp tc) (hq:q.i<l.length):(tkf l q.i).k=3->pre iX (tkf l q.i).t=(tkf l q.i).t.length/\¬ (tkf l q.i).t=[]:=K.num _ (PL hq)
variable {n:Nat}
theorem ZU (h:n<=9223372036854775807):(Int64.ofNat n).toInt=(n:Int):=by
 rw [fU (by omega)]
theorem bG1 {l:Tks} :0<=(q.nbV l).toInt/\(q.nbV l).toInt<=9223372036854775807:=by
 unfold Rq.nbV
 split
 ·rename_i h;rw [aE] at h;have h2:=aH h.2;rw [ZU h2];omega
 ·decide
variable {w0 W:World} {bs:List Res} {ro rv:Value} {bd:Bool}
theorem wK {b:Nat} {l:Tks} {rd dn:Bool} (K:Tkf H l tp tc) (hq:q.i<l.length) (s:St H w0 (.box b [.slice tp l.length tc,iN q.i,ro,rv,.bool rd,.bool dn,.bool bd,iN q.off,iN q.er] 102::bs) W) :
 Calls prg 110 #[.pointer (some ⟨b,0,none⟩)] W λe W'=>∃ _:Unit,(True)/\e=.returned (.int .i64 (q.nbV l).toInt)/\St H w0 (.box b [.slice tp l.length tc,iN ((q.nbS l).i),ro,rv,.bool rd,.bool dn,.bool bd,iN ((q.nbS l).off),iN ((q.nbS l).er)] 102::bs) W':=by
 have hcap:=K.rep.cap;refine kC func110 rfl ntmps110 rfl s ?_;refine .sr<|.aq Z<|.sq<|.sm Z<|.nC Z<|.fA Z iT<|.lD Z qI Hm Z<|.yw (.neq Z Z)<|.mv Z<|.b2 (λh10=>?_) (λh10=>?_)
 ·have hbad:¬ q.nbB l=true:=λe=>by have:=(QU e).1;simp [this] at h10
  have e1:q.nbS l=q.fail l 8:=by unfold Rq.nbS;rw [aG hbad]
  have e2:q.nbV l=0:=by unfold Rq.nbV;rw [aG (λe=>hbad (by rw [aE] at e;exact e.1))]
  rw [e1,e2];refine .gG<|.gG<|.gG<|.gG<|.yw (.pickT Z Z)<|.nt<|.cT Z<|.sm Z<|.cs (X:=Unit) iR Z (λW s=>qD K hq 8 (s.p1_1 [0] Z)) Z λ_ _=>.ns<|.az Z<|.tR<|?_
  refine y9 Z Z λW s=>?_;exact ⟨(),Jt,Z,s.p1_1 [0] rfl⟩
 have h0:q.er=0:=by have:=aN h10;omega
 refine .gy (.move Z)<|.gd Z Z<|.cs (X:=Unit) sM Z (λW s=>xI K hq  (s.p1_1 [0] Z)) Z λ_ _=>.gy (.fld Z (XP _ _ _))<|.gy (.neq Z Z)<|.yw (.pickF Z Z)<|.nt<|.cd Z (λh15=>?_) (λh15=>?_)
 ·have hbad:¬ q.nbB l=true:=λe=>by have:=(QU e).2;simp [this] at h15
  have e1:q.nbS l=q.fail l 8:=by unfold Rq.nbS;rw [aG hbad]
  have e2:q.nbV l=0:=by unfold Rq.nbV;rw [aG (λe=>hbad (by rw [aE] at e;exact e.1))]
  rw [e1,e2];refine .sm Z<|.cs (X:=Unit) iR Z (λW s=>qD K hq 8 (s.p1_1 [0] Z)) Z λ_ _=>.ns<|.az Z<|.tR<|?_
  refine y9 Z Z λW s=>?_;exact ⟨(),Jt,Z,s.p1_1 [0] rfl⟩
 have hk:(tkf l q.i).k=3:=aQ.1 (by have:=aN h15;show (tkf l q.i).k.toNat=3;omega);have hok:q.nbB l=true:=by unfold Rq.nbB;rw [aR h0,aR hk];rfl
 refine .sk<|.tN<|.sm Z<|.cs (X:=Unit) sM Z (λW s=>xI K hq  (s.p1_1 [0] Z)) Z λ_ _=>.yw (.call YG Z λW s=>aC4 (tkf l q.i) (bN0 K hq) (bD (K.short _ (PL hq)) (by decide)) W)<|.mv Z<|.yw (.extract Z Z)<|.yw (.extract Z Z)<|.a Z Z<|.aq Z<|.sq<|.sm Z<|.yw (.neq Z Z)<|.nt<|.ce Z (λh25=>?_) (λh25=>?_)
 ·have hv:¬ nY (tkf l q.i).t<=9223372036854775807:=λe=>by rw [(WC hk e).1] at h25;omega
  obtain ⟨v1,v2⟩:=PG hk hv;have e1:q.nbS l=q.fail l (PH (tkf l q.i)):=by rw [v1];unfold Rq.nbS;rw [aL hok,aG (by unfold Rq.fit;rw [aP hv];decide)]
  have e2:q.nbV l=0:=by unfold Rq.nbV;rw [aG (by unfold Rq.fit;rw [aP hv,Bool.and_false];decide)]
  rw [e1,e2];refine .sm Z<|.mv Z<|.cs (X:=Unit) iR Z (λW s=>qD K hq (PH (tkf l q.i)) (s.p1_1 [0] Z)) Z λ_ _=>?_

  refine .ns<|.az Z<|.tR<|?_
  refine y9 Z Z λW s=>?_;exact ⟨(),Jt,Z,s.p1_1 [0] rfl⟩
 have hv:nY (tkf l q.i).t<=9223372036854775807:=Classical.byContradiction λe=>by rw [(PG hk e).1] at h25;omega
 obtain ⟨v1,v2⟩:=WC hk hv;have hf:q.fit l=true:=by unfold Rq.fit;rw [aR hv]
 have e1:q.nbS l=q.nx:=by unfold Rq.nbS;rw [aL hok,aL hf]
 have e2:q.nbV l=Int64.ofNat (nY (tkf l q.i).t):=by unfold Rq.nbV;rw [hok,hf];rfl
 rw [e1,e2,ZU hv];have hi:=K.gd.last _ hq (by rw [hk];decide);have hi2:q.nx.i=q.i+1:=rfl;rw [v2];refine .sk<|.tN<|.sm Z<|.nC Z<|.fA Z gT<|.lD Z cS Hm Z<|.yw (.add Z Z (c:=((q.nx.i:Nat):Int)) ((w6 (by omega)).trans (by show _=((q.i+1:Nat):Int);omega)))<|.nC Z<|.fA Z gT<|.st .head Z Z iH Z (nb Z) Z<|.ns<|.mv Z<|.az Z<|?_
 refine y9 Z Z λW s=>?_;exact ⟨(),Jt,Z,s.p1_1 [0] rfl⟩
theorem KN {b:Nat} {l:Tks} {rd dn:Bool} (K:Tkf H l tp tc) (hq:q.i<l.length) (op:UInt8) (s:St H w0 (.box b [.slice tp l.length tc,iN q.i,ro,rv,.bool rd,.bool dn,.bool bd,iN q.off,iN q.er] 102::bs) W) :
 Calls prg 112 #[.pointer (some ⟨b,0,none⟩),.int .u8 op.toNat] W λe W'=>∃ _:Unit,(True)/\e=.returned (.agg [.int .u8 op.toNat,cH (q.paN l),cH (q.paF l),.int .i64 0,.int .i64 0,.slice none 0 0,.slice none 0 0].toArray)/\St H w0 (.box b [.slice tp l.length tc,iN ((q.paS l).i),ro,rv,.bool rd,.bool dn,.bool bd,iN ((q.paS l).off),iN ((q.paS l).er)] 102::bs) W':=by
 refine kC func112 rfl ntmps112 rfl s ?_;refine .sr<|.al dX Z λb4=>.ns<|.mv Z<|.mv Z<|.cs (X:=Unit) sD Z (λW s=>DT K hq  (s.p2_2 [1,0] Z)) Z λ_ _=>.yw (.build Z (vT _ _))<|.al dX Z λb5=>.sX .head Z Z cV Z<|.ns<|.mv Z<|.cs (X:=Unit) nD Z (λW s=>rU K (kE K.gd.last hq) [46] (s.p3_3 [1,0,2] Z)) Z λ_ _=>.ns<|.mv Z<|.cs (X:=Unit) sD Z (λW s=>DT K (kL K.gd.last (kE K.gd.last hq))  (s.p3_3 [0,1,2] Z)) Z λ_ _=>.fA Z fW<|.st kP Z Z fP Z (nb Z) Z<|.ns<|.yw (.loadW Z bZ cP Z)<|.sX mD Z Z cV Z<|.nt<|.rt<|?_
 refine y8 Z (.cell Z bZ lR rfl) λW s=>?_;exact ⟨(),Jt,Z,s.p3_1 [0] rfl⟩
theorem JQ {b:Nat} {l:Tks} {rd dn:Bool} (K:Tkf H l tp tc) (hq:q.i<l.length) (op:UInt8) (s:St H w0 (.box b [.slice tp l.length tc,iN q.i,ro,rv,.bool rd,.bool dn,.bool bd,iN q.off,iN q.er] 102::bs) W) :
 Calls prg 154 #[.pointer (some ⟨b,0,none⟩),.int .u8 op.toNat] W λe W'=>∃ _:Unit,(True)/\e=.returned (.agg [.int .u8 op.toNat,cH [],cH [],.int .i64 (q.wiA l).toInt,.int .i64 (q.wiB l).toInt,.slice none 0 0,.slice none 0 0].toArray)/\St H w0 (.box b [.slice tp l.length tc,iN ((q.wiS l).i),ro,rv,.bool rd,.bool dn,.bool bd,iN ((q.wiS l).off),iN ((q.wiS l).er)] 102::bs) W':=by
 refine kC func154 rfl ntmps154 rfl s ?_;refine .sr<|.al dX Z λb4=>.ns<|.mv Z<|.yw (.build Z (SC _ _))<|.al dX Z λb5=>.sX .head Z Z cV Z<|.nt<|.sq<|.sm Z<|.cs (X:=Unit) dH Z (λW s=>eI K hq [91] (s.p3_3 [2,0,1] Z)) Z λ_ _=>.nt<|.cd Z (λh9=>?_) (λh9=>?_)
 ·have a9:Rq.ac l [91] q=true:=h9;rw [kO a9];have e1:q.wiA l=q.nx.nbV l:=by unfold Rq.wiA;rw [aL a9]
  have e2:q.wiB l=((q.nx.nbS l).exS l [44]).nbV l:=by unfold Rq.wiB;rw [aL a9]
  have e3:q.wiS l=(((q.nx.nbS l).exS l [44]).nbS l).exS l [93]:=by unfold Rq.wiS;rw [aL a9]
  rw [e1,e2,e3];refine .sm Z<|.cs (X:=Unit) sE Z (λW s=>wK K (dC K.gd.last hq a9)  (s.p3_3 [0,1,2] Z)) Z λ_ _=>.fA Z eX<|.st kP Z Z iH Z (nb Z) Z<|.ns<|.mv Z<|.cs (X:=Unit) nD Z (λW s=>rU K (xH K.gd.last (dC K.gd.last hq a9)) [44] (s.p3_3 [0,1,2] Z)) Z λ_ _=>.ns<|.mv Z<|.cs (X:=Unit) sE Z (λW s=>wK K (kL K.gd.last (xH K.gd.last (dC K.gd.last hq a9)))  (s.p3_3 [0,1,2] Z)) Z λ_ _=>.fA Z eS<|.st kP Z Z iH Z (nb Z) Z<|.nt<|.rg<|.mv Z<|.cs (X:=Unit) nD Z (λW s=>rU K (xH K.gd.last (kL K.gd.last (xH K.gd.last (dC K.gd.last hq a9)))) [93] (s.p3_3 [0,1,2] Z)) Z λ_ _=>.ns<|.yw (.loadW Z bZ cP Z)<|.sX mD Z Z cV Z<|.nt<|.rt<|?_
  refine y8 Z (.cell Z bZ lR rfl) λW s=>?_;exact ⟨(),Jt,Z,s.p3_1 [0] rfl⟩
 have a9:Rq.ac l [91] q=false:=h9;rw [kT a9];have e1:q.wiA l=0:=by unfold Rq.wiA;rw [aG (by rw [a9];decide)]
 have e2:q.wiB l=-1:=by unfold Rq.wiB;rw [aG (by rw [a9];decide)]
 have e3:q.wiS l=q:=by unfold Rq.wiS;rw [aG (by rw [a9];decide)]
 rw [e1,e2,e3];refine .sk<|.tN<|.sr<|.yw (.loadW Z bZ cP Z)<|.sX mD Z Z cV Z<|.nt<|.rt<|?_
 refine y8 Z (.cell Z bZ lR rfl) λW s=>?_;exact ⟨(),Jt,Z,s.p3_1 [0] rfl⟩
theorem bF9 {x:Int64} (h:0<=x.toInt/\x.toInt<=9223372036854775807):IntKind.i64.wrap (0 - x.toInt)=(-x).toInt:=by
 rw [Go.Sx.w64 (by omega) (by omega),Int64.toInt_neg,Int.bmod_eq_of_le (by omega) (by omega)];omega
theorem aB5 {b:Nat} {l:Tks} {rd dn:Bool} (K:Tkf H l tp tc) (hq:q.i<l.length) (s:St H w0 (.box b [.slice tp l.length tc,iN q.i,ro,rv,.bool rd,.bool dn,.bool bd,iN q.off,iN q.er] 102::bs) W) :
 Calls prg 180 #[.pointer (some ⟨b,0,none⟩)] W λe W'=>∃ _:Unit,(True)/\e=.returned (.int .i64 (q.boV l).toInt)/\St H w0 (.box b [.slice tp l.length tc,iN ((q.boS l).i),ro,rv,.bool rd,.bool dn,.bool bd,iN ((q.boS l).off),iN ((q.boS l).er)] 102::bs) W':=by
 refine kC func180 rfl ntmps180 rfl s ?_;refine .sr<|.aq Z<|.sq<|.sm Z<|.cs (X:=Unit) dH Z (λW s=>eI K hq [45] (s.p1_1 [0] Z)) Z λ_ _=>.nt<|.cd Z (λh4=>?_) (λh4=>?_)
 ·have a4:Rq.ac l [45] q=true:=h4;rw [kO a4];have e1:q.boV l=-(q.nx.nbV l):=by unfold Rq.boV;rw [aL a4]
  have e3:q.boS l=q.nx.nbS l:=by unfold Rq.boS;rw [aL a4]
  rw [e1,e3];refine .sm Z<|.cs (X:=Unit) sE Z (λW s=>wK K (dC K.gd.last hq a4)  (s.p1_1 [0] Z)) Z λ_ _=>.yw (.neg Z (c:=(-(q.nx.nbV l)).toInt) (bF9 bG1))<|.az Z<|.tR<|?_
  refine y9 Z Z λW s=>?_;exact ⟨(),Jt,Z,s.p1_1 [0] rfl⟩
 have a4:Rq.ac l [45] q=false:=h4;rw [kT a4];have e1:q.boV l=q.nbV l:=by unfold Rq.boV;rw [aG (by rw [a4];decide)]
 have e3:q.boS l=q.nbS l:=by unfold Rq.boS;rw [aG (by rw [a4];decide)]
 rw [e1,e3];refine .sk<|.tN<|.sm Z<|.cs (X:=Unit) sE Z (λW s=>wK K hq  (s.p1_1 [0] Z)) Z λ_ _=>.az Z<|?_
 refine y9 Z Z λW s=>?_;exact ⟨(),Jt,Z,s.p1_1 [0] rfl⟩
theorem RR {b:Nat} {l:Tks} {rd dn:Bool} (K:Tkf H l tp tc) (hq:q.i<l.length) (op:UInt8) (s:St H w0 (.box b [.slice tp l.length tc,iN q.i,ro,rv,.bool rd,.bool dn,.bool bd,iN q.off,iN q.er] 102::bs) W) :
 Calls prg 157 #[.pointer (some ⟨b,0,none⟩),.int .u8 op.toNat] W λe W'=>∃ _:Unit,(True)/\e=.returned (.agg [.int .u8 op.toNat,cH (q.nmV l),cH [],.int .i64 ((q.ama l).boV l).toInt,.int .i64 ((q.amb l).boV l).toInt,.slice none 0 0,.slice none 0 0].toArray)/\St H w0 (.box b [.slice tp l.length tc,iN ((q.amS l).i),ro,rv,.bool rd,.bool dn,.bool bd,iN ((q.amS l).off),iN ((q.amS l).er)] 102::bs) W':=by
 refine kC func157 rfl ntmps157 rfl s ?_;refine .sr<|.al dX Z λb4=>.ns<|.mv Z<|.mv Z<|.cs (X:=Unit) sD Z (λW s=>DT K hq  (s.p2_2 [1,0] Z)) Z λ_ _=>.yw (.build Z (vT _ _))<|.al dX Z λb5=>.sX .head Z Z cV Z<|.ns<|.mv Z<|.cs (X:=Unit) nD Z (λW s=>rU K (kE K.gd.last hq) [105,110] (s.p3_3 [1,0,2] Z)) Z λ_ _=>.ns<|.mv Z<|.cs (X:=Unit) LU Z (λW s=>aB5 K (kL K.gd.last (kE K.gd.last hq))  (s.p3_3 [0,1,2] Z)) Z λ_ _=>.fA Z eX<|.st kP Z Z iH Z (nb Z) Z<|.ns<|.mv Z<|.cs (X:=Unit) nD Z (λW s=>rU K (YV K.gd.last (kL K.gd.last (kE K.gd.last hq))) [46,46] (s.p3_3 [0,1,2] Z)) Z λ_ _=>.ns<|.mv Z<|.cs (X:=Unit) LU Z (λW s=>aB5 K (kL K.gd.last (YV K.gd.last (kL K.gd.last (kE K.gd.last hq))))  (s.p3_3 [0,1,2] Z)) Z λ_ _=>.fA Z eS<|.st kP Z Z iH Z (nb Z) Z<|.ns<|.yw (.loadW Z bZ cP Z)<|.sX mD Z Z cV Z<|.nt<|.rt<|?_
 refine y8 Z (.cell Z bZ lR rfl) λW s=>?_;exact ⟨(),Jt,Z,s.p3_1 [0] rfl⟩
end Go.Proofs.YtidclioghdbphaaGreatDoor
namespace Go.Sx
open Go.RowKit Go.Par
section
variable {dfs:List Deferred} {P:Program} {n:Nat} {L:Sl} {H:Hp} {w0:World} {bs:List Res} {Q:Exit->Act->World->Prop} {ops:Array Oper} {rest:List Oper} {K:Act->World->Prop}
variable {d:Option Tmp} {ty:TypeId} {pos:String} {aft:Array Edge} {v:Value} {t:Tmp} {x y:Operand} {T:TypeId}
variable {N hn:Nat} {pa:List (Nat × Oper × Value)} {E:Sl->Hp->List Res->Prop} {fr:List (Nat × Nat × Oper)} {i k:Nat}
theorem St.perm {W:World} {bs':List Res} (s:St H w0 bs W) (h:bs.Perm bs'):St H w0 bs' W :=
 ⟨s.ext,s.agr,λz hz=>s.own z (h.mem_iff.2 hz),h.pairwise s.apart (λ{x y} k=>Res.apart.symm k),s.lo⟩
theorem St.mid {W:World} {a d c e:List Res} (s:St H w0 (a++(d++(c++e))) W):St H w0 (a++(c++(d++e))) W :=
 s.perm (List.Perm.append_left a (by rw [<-aZ,<-aZ];exact List.Perm.append_right e List.perm_append_comm))
theorem Yl.loadR1 {e:TypeId} {size k g c off:Nat} {xs:List Value} (hp:ev L x=some (.pointer (some ⟨g,off,none⟩))) (hT:kR P T=some none) (hm:Res.row e size (.slice (some ⟨g,0,none⟩) k c) k xs∈bs) (hv:xs[off]? = some v) {gd:Option (Nat × Bool)}:Yl P L H w0 bs ⟨d,.load T x,ty,pos,aft,gd⟩ v:=.of_run λa W f s=>by
 have ho:W.ownsRow w0.heap.size e size (.slice (some ⟨g,0,none⟩) k c) k xs:=(s.own _ hm).1;have hc:=World.ownsRow.cells ho (g:=g) rfl off v hv;rw [Addr.add_lit,dL] at hc;unfold execOp;simp only [f x _ hp,Instr.loadAt,Instr.sureAddr,loadVar,Sem.run_bind,Sem.run_pure,Result.andThen,tA hT,aI,bL];rw [show (Go.load ⟨g,off,none⟩).run P W=.ok v W from by simp [Go.load,Sem.run,hc]]
theorem eC.apB {e:TypeId} {size bytes m c k b off:Nat} {r:Value} {xs news:List Value} {bs':Value->List Res} (hT:zG P T=some (e,size,bytes)) (hx:ev L x=some r)
 (hm:∀ r',Upd bs (.row e size r k xs) (.row e size r' (k+m) (xs++news)) (bs' r')) (hy:ev L y=some (.slice (some ⟨b,off,none⟩) m c)) (hs:Src H bs b off news) (hl:news.length=m * size) (h1:∀ u∈news,u.oneCell'=true)
 (h63:k+m<=maxLen) (hb:(k+m) * bytes<=140737488355328) (ht:Nat.blt t N=true)
 (hr2:∀ r',iG dfs P ops hn w0 N L H (bs' r') i pa) (h:∀ p c,eC dfs P ops hn w0 N E fr pa ((t,.slice p (k+m) c)::L) H (bs' (.slice p (k+m) c))) :
 eC dfs P ops hn w0 N E ((i,3,⟨some t,.call ⟨.builtin .append,#[x,y],#[T,T]⟩,ty,pos,aft,none⟩)::fr) pa L H bs :=
 ⟨rJ ht,append hT hx hm hy hs hl h1 h63 hb ht λr' _=>At.ra (hm r').new λp c e=>by subst e;exact eC.into (.inr<|.inr<|hr2 _) (h p c)⟩
theorem At.s1Q {g off k c size:Nat} {e:TypeId} {xs ys:List Value} {v:Value} {bs':List Res} (he:xs.set off v=ys) (hp:ev L x=some (.pointer (some ⟨g,off,none⟩))) (hv:ev L y=some v) (hT:hP P T=some 1) (h1:v.oneCell'=true)
 (hm:Upd bs (.row e size (.slice (some ⟨g,0,none⟩) k c) k xs) (.row e size (.slice (some ⟨g,0,none⟩) k c) k ys) bs') (ho:off<xs.length) (h:At dfs n L H w0 bs' (wpList P ops Q rest)) :
 At dfs n L H w0 bs (wpList P ops Q (⟨none,.store T x y,ty,pos,aft,none⟩::rest)):=by
 subst he;exact At.s1R hp hv hT h1 hm ho h
theorem qX.s1Q {kk:Nat} {q:PlT} {bs':List Res} {g off k c size:Nat} {e:TypeId} {xs ys:List Value} {v:Value} (he:xs.set off v=ys) (hp:ev L x=some (.pointer (some ⟨g,off,none⟩))) (hv:ev L y=some v) (hT:hP P T=some 1) (h1:v.oneCell'=true)
 (hm:Upd bs (.row e size (.slice (some ⟨g,0,none⟩) k c) k xs) (.row e size (.slice (some ⟨g,0,none⟩) k c) k ys) bs') (ho:off<xs.length)
 (hr:iG dfs P ops hn w0 N L H bs' i pa) (h:fM dfs P ops hn w0 N E q pa L H bs'):qX dfs P ops hn w0 N E i kk ⟨none,.store T x y,ty,pos,aft,none⟩ q pa L H bs:=by
 subst he;exact ⟨λ_ e=>(by cases e),ZB hp hv hT h1 hm ho (qX.into0 hr h)⟩
theorem sZ {xr cs cs':List Value} {n j:Nat} {v:Value} (hl:xr.length=n) (h:cs.set j v=cs'):(xr++cs).set (n+j) v=xr++cs':=by
 subst hl h;rw [kK _ _ (Nat.le_add_right _ _),jS]
end
end Go.Sx
namespace Go.Proofs.YtidclioghdbphaaGreatDoor
open Go.RowKit Go.Par Go.Sx Tryz
theorem yU:kR prg 97=some (some 11):=by kernel_rfl
theorem uT:kR prg 98=some none:=by kernel_rfl
theorem pI:kR prg 100=some none:=by kernel_rfl
theorem wB:kR prg 179=some (some 13):=by kernel_rfl
theorem lW:dI prg 105=true:=by kernel_rfl
theorem oO:dY prg 97 1=some 1:=by kernel_rfl
theorem tG:dY prg 97 2=some 2:=by kernel_rfl
theorem iV:dY prg 102 2=some 2:=by kernel_rfl
theorem iU:dY prg 102 3=some 3:=by kernel_rfl
theorem lM:dY prg 102 4=some 4:=by kernel_rfl
theorem VO:zG prg 98=some (97,11,128):=by kernel_rfl
theorem aI7:zG prg 100=some (179,13,168):=by kernel_rfl
theorem mU:hP prg 4=some 1:=by kernel_rfl
theorem CI:hP prg 98=some 1:=by kernel_rfl
theorem LT:hP prg 100=some 1:=by kernel_rfl
theorem wW:hP prg 179=some 13:=by kernel_rfl
theorem CG:slN prg 98=some 11:=by kernel_rfl
theorem tF:slN prg 100=some 13:=by kernel_rfl
theorem wU:pT prg 179=some
 [Go.Value.bool false,Go.Value.bool false,Go.Value.int Go.IntKind.u8 (Int.ofNat 0),
  Go.Value.string { data:={ toList:=[] } },Go.Value.int Go.IntKind.i64 (Int.ofNat 0),
  Go.Value.slice none 0 0,Go.Value.int Go.IntKind.u8 (Int.ofNat 0),
  Go.Value.string { data:={ toList:=[] } },Go.Value.string { data:={ toList:=[] } },
  Go.Value.int Go.IntKind.i64 (Int.ofNat 0),Go.Value.int Go.IntKind.i64 (Int.ofNat 0),
  Go.Value.slice none 0 0,Go.Value.slice none 0 0]:=by kernel_rfl
theorem VS (x00 x01 x02 x03 x04 x05 x06 x07 x08 x09 x010 x011 x012:Value):yA prg 100 1 [(0,.agg [x00,x01,x02,x03,x04,x05,x06,x07,x08,x09,x010,x011,x012].toArray)]=some (179,[x00,x01,x02,x03,x04,x05,x06,x07,x08,x09,x010,x011,x012]):=by kernel_rfl
theorem EI (x00 x01 x02 x03 x04 x05 x06 x07 x08 x09 x010:Value):yA prg 98 1 [(0,.agg [x00,x01,x02,x03,x04,x05,x06,x07,x08,x09,x010].toArray)]=some (97,[x00,x01,x02,x03,x04,x05,x06,x07,x08,x09,x010]):=by kernel_rfl
variable {g k c:Nat}
variable {H:Hp} {w0 W:World} {bs:List Res} {tp:Option Addr} {tc:Nat} {rv:Value} {bd:Bool} {q:Rq}
theorem AQ {b:Nat} {l:Tks} {rd dn:Bool} (K:Tkf H l tp tc) (hq:q.i<l.length) (hkm:k<=600001) (s:St H w0 (.box b [.slice tp l.length tc,iN q.i,.slice (some ⟨g,0,none⟩) (k+1) c,rv,.bool rd,.bool dn,.bool bd,iN q.off,iN q.er] 102::bs) W) :
 Calls prg 105 #[.pointer (some ⟨b,0,none⟩)] W λe W'=>∃ _:Unit,(True)/\e=.returned (.pointer (some ⟨g,k * 11,none⟩))/\St H w0 (.box b [.slice tp l.length tc,iN q.i,.slice (some ⟨g,0,none⟩) (k+1) c,rv,.bool rd,.bool dn,.bool bd,iN q.off,iN q.er] 102::bs) W':=by
 have hcap:=K.rep.cap;refine kC func105 rfl ntmps105 rfl s ?_;refine .sr<|.aq Z<|.sq<|.fL 11 [(0,0),(1,0),(2,0),(3,0),(4,0),(5,0),(6,0),(7,0),(8,0),(9,0),(10,0)]<|.mv Z<|.nC Z<|.fA Z iV<|.lD Z uT Hm Z<|.mv Z<|.nC Z<|.fA Z iV<|.lD Z uT Hm Z<|.yw (.lenSl CG Z)<|.yw (.sub Z Z (c:=((k:Nat):Int)) ((w6 (by omega)).trans (by omega)))<|.yw (.indexSl CG Z Z (i:=k) Z (by omega) (q:=k * 11) (by omega))<|.fn (tl:=[_]) Z<|.az Z<|?_
 refine y9 Z Z λW s=>?_;exact ⟨(),Jt,Z,s.p1_1 [0] rfl⟩
theorem bL1 {lv:Nat} {t:Bool} {a0 a3 a4 a5 a6 a7 a8 a9 a10:Value} (h1:∀ u∈[a0,a3,a4,a5,a6,a7,a8,a9,a10],u.oneCell'=true):∀ u∈[a0,iN lv,.bool t,a3,a4,a5,a6,a7,a8,a9,a10],u.oneCell'=true:=by
 intro u hu;simp only [bM,List.not_mem_nil,or_false] at hu h1;rcases hu with h | h | h | h | h | h | h | h | h | h | h
 ·exact h1 u (by simp [h])
 ·rw [h];rfl
 ·rw [h];rfl
 all_goals exact h1 u (by simp [h])
variable {xo:List Value}
variable {ro:Value}
theorem mK {b:Nat} {l:Tks} {rd dn:Bool} (K:Tkf H l tp tc) (hq:q.i<l.length) {lv:Nat} {t t':Bool} {a0 a3 a4 a5 a6 a7 a8 a9 a10:Value} (h1:∀ u∈[a0,a3,a4,a5,a6,a7,a8,a9,a10],u.oneCell'=true) (hkm:k<=600001) (hT:0<lv->∃ k1,k=k1+1/\xo[k1 * 11+2]? = some (.bool t')) (s:St H w0 (.box b [.slice tp l.length tc,iN q.i,ro,rv,.bool rd,.bool dn,.bool bd,iN q.off,iN q.er] 102::.row 97 11 (ro) (k) (xo)::bs) W) :
 Calls prg 109 #[.pointer (some ⟨b,0,none⟩),.agg [a0,iN lv,.bool t,a3,a4,a5,a6,a7,a8,a9,a10].toArray] W λe W'=>∃ z:Option Addr × Nat,(True)/\e=.returned (.tuple #[])/\St H w0 (.box b [.slice tp l.length tc,iN q.i,(.slice z.1 (k+1) z.2),rv,.bool false,.bool dn,.bool bd,iN q.off,iN q.er] 102::.row 97 11 (.slice z.1 (k+1) z.2) (k+1) (xo++[a0,iN lv,.bool (if 0<lv then t' else t),a3,a4,a5,a6,a7,a8,a9,a10])::bs) W':=by
 have hcap:=K.rep.cap;refine kC func109 rfl ntmps109 rfl s ?_;refine .sr<|.bx Z Z Z λb3=>.nt<|.sq<|.sr<|.fA Z oO<|.lD Z cS Hm Z<|.yw (.gtr Z Z)<|.nt<|.ce Z (λh6=>?_) (λh6=>?_)
 ·obtain ⟨k1,rfl,ht⟩:=hT (by omega);refine Sx.At.rs (size:=11) (k:=k1+1) (r:=ro) (xs:=xo) (e:=97) lR (by omega) λg c e=>?_;subst e;refine .rg<|.mv Z<|.cs (X:=Unit) lW Z (λW s=>AQ K hq (g:=g) (k:=k1) (c:=c) (by omega) (s.p3_3 [1,0,2] Z)) Z λ_ _=>.nC Z<|.fA Z tG<|.yw (.loadR1 Z jI lR ht)<|.fA Z tG<|.st kP Z Z mU Z (nb Z) Z<|.nt<|.sq<|.fL 8 [(0,0),(1,0),(2,0),(3,0),(4,0),(5,0),(6,1),(7,3)]<|.mv Z<|.mv Z<|.nC Z<|.fA Z iV<|.lD Z uT Hm Z<|.yw (.loadW Z yU cP Z)<|.bl Z (EI _ _ _ _ _ _ _ _ _ _ _) Z λb19=>.apB VO Z (λ_=>mP) Z (.box Hm z0) Z (bL1 h1) (by simp only [maxLen];omega) (by omega) Z (λ_=>(.d3<|.d2<|.yv (.move Z)<|.nl)) λp20 c20=>.fn (tl:=[_,_,_]) Z<|.nC Z<|.fA Z iV<|.st kP Z Z CI Z (nb Z) Z<|.nt<|.rg<|.mv Z<|.nC Z<|.fA Z lM<|.st kP Z Z mU Z (nb Z) Z<|.nl<|?_
  refine jA (.inr Z) rfl .nil rfl λW s=>⟨(p20,c20),Jt,Z,?_⟩;rw [aL (show 0<lv by omega)];exact s.p4_2 [1,3] rfl
 refine .sk<|.tN<|.sq<|.fL 8 [(0,0),(1,0),(2,0),(3,0),(4,0),(5,0),(6,1),(7,3)]<|.mv Z<|.mv Z<|.nC Z<|.fA Z iV<|.lD Z uT cP Z<|.yw (.loadW Z yU Hm Z)<|.bl Z (EI _ _ _ _ _ _ _ _ _ _ _) Z λb19=>.apB VO Z (λ_=>mP) Z (.box Hm z0) Z (bL1 h1) (by simp only [maxLen];omega) (by omega) Z (λ_=>(.d3<|.d2<|.yv (.move Z)<|.nl)) λp20 c20=>.fn (tl:=[_,_,_]) Z<|.nC Z<|.fA Z iV<|.st mD Z Z CI Z (nb Z) Z<|.nt<|.rg<|.mv Z<|.nC Z<|.fA Z lM<|.st mD Z Z mU Z (nb Z) Z<|.nl<|?_
 refine jA (.inr Z) rfl .nil rfl λW s=>⟨(p20,c20),Jt,Z,?_⟩;rw [aG (show ¬ 0<lv by omega)];exact s.p4_2 [2,3] rfl
variable {v0 v1:Value} {xv:List Value}
theorem lS {b:Nat} {l:Tks} {rd dn:Bool} (K:Tkf H l tp tc) (hq:q.i<l.length) {v2 v3 v4 v5 v6 v7 v8 v9 va vb vc:Value} (h1:∀ u∈[v0,v1,v2,v3,v4,v5,v6,v7,v8,v9,va,vb,vc],u.oneCell'=true) (hkm:k<=600001) (s:St H w0 (.box b [.slice tp l.length tc,iN q.i,ro,rv,.bool rd,.bool dn,.bool bd,iN q.off,iN q.er] 102::.row 179 13 (rv) (k) (xv)::bs) W) :
 Calls prg 108 #[.pointer (some ⟨b,0,none⟩),.agg [v0,v1,v2,v3,v4,v5,v6,v7,v8,v9,va,vb,vc].toArray] W λe W'=>∃ z:Option Addr × Nat,(True)/\e=.returned (.tuple #[])/\St H w0 (.box b [.slice tp l.length tc,iN q.i,ro,(.slice z.1 (k+1) z.2),.bool true,.bool dn,.bool bd,iN q.off,iN q.er] 102::.row 179 13 (.slice z.1 (k+1) z.2) (k+1) (xv++[v0,v1,v2,v3,v4,v5,v6,v7,v8,v9,va,vb,vc])::bs) W':=by
 have hcap:=K.rep.cap;refine kC func108 rfl ntmps108 rfl s ?_;refine .sr<|.bx Z Z Z λb3=>.nt<|.sq<|.fL 8 [(0,0),(1,0),(2,0),(3,0),(4,0),(5,0),(6,1),(7,3)]<|.mv Z<|.mv Z<|.nC Z<|.fA Z iU<|.lD Z pI cP Z<|.yw (.loadW Z wB Hm Z)<|.bl Z (VS _ _ _ _ _ _ _ _ _ _ _ _ _) Z λb10=>.apB aI7 Z (λ_=>mP) Z (.box Hm z0) Z h1 (by simp only [maxLen];omega) (by omega) Z (λ_=>(.d3<|.d2<|.yv (.move Z)<|.nl)) λp20 c20=>.fn (tl:=[_,_,_]) Z<|.nC Z<|.fA Z iU<|.st mD Z Z LT Z (nb Z) Z<|.nt<|.rg<|.mv Z<|.nC Z<|.fA Z lM<|.st mD Z Z mU Z (nb Z) Z<|.nl<|?_
 refine jA (.inr Z) rfl .nil rfl λW s=>⟨(p20,c20),Jt,Z,?_⟩;exact s.p4_2 [2,3] rfl
variable {xr:List Value}
theorem aQ0 {b:Nat} {l:Tks} {rd dn:Bool} (K:Tkf H l tp tc) (hq:q.i<l.length) {v2 v3 v4 v5 v6 v7 v8 v9 va vb vc:Value} (h1:∀ u∈[v0,v1,v2,v3,v4,v5,v6,v7,v8,v9,va,vb,vc],u.oneCell'=true) (hkm:k<=600001) (hl:xr.length=k * 13) (s:St H w0 (.box b [.slice tp l.length tc,iN q.i,ro,rv,.bool rd,.bool dn,.bool bd,iN q.off,iN q.er] 102::.row 179 13 (rv) (k+1) (xr++[v0,v1,v2,v3,v4,v5,v6,v7,v8,v9,va,vb,vc])::bs) W) :
 Calls prg 116 #[.pointer (some ⟨b,0,none⟩)] W λe W'=>∃ z:Nat × Nat,(True)/\e=.returned (.agg [v0,v1,v2,v3,v4,v5,v6,v7,v8,v9,va,vb,vc].toArray)/\St H w0 (.box b [.slice tp l.length tc,iN q.i,ro,(.slice (some ⟨z.1,0,none⟩) k z.2),.bool rd,.bool dn,.bool bd,iN q.off,iN q.er] 102::.row 179 13 (.slice (some ⟨z.1,0,none⟩) k z.2) (k) (xr)::bs) W':=by
 have hcap:=K.rep.cap;refine kC func116 rfl ntmps116 rfl s ?_;refine Sx.rowCase (size:=13) (k:=k+1) (r:=rv) (e:=179) cP (by omega) λg c e hkc=>?_;subst e;refine .sr<|.al wU Z λb2=>.ns<|.mv Z<|.nC Z<|.fA Z iU<|.lD Z pI cP Z<|.yw (.lenSl tF Z)<|.yw (.sub Z Z (c:=((k:Nat):Int)) ((w6 (by omega)).trans (by omega)))<|.a Z Z<|.ns<|.mv Z<|.nC Z<|.fA Z iU<|.lD Z pI cP Z<|.mv Z<|.yw (.indexSl tF Z Z (i:=k) Z (by omega) (q:=k * 13) (by omega))<|.yw (.loadR (vs:=[v0,v1,v2,v3,v4,v5,v6,v7,v8,v9,va,vb,vc]) Z wB lR Z (λj u h=>(List.getElem?_append_right (by omega)).trans (by rw [hl,jS];exact h)))<|.al wU Z λb4=>.sW .head Z Z wW h1 Z<|.ns<|.mv Z<|.mv Z<|.nC Z<|.fA Z iU<|.lD Z pI lR Z<|.mv Z<|.yw (.cutHi tF Z Z Z (by omega) (λq e=>by cases e;rfl))<|.nC Z<|.fA Z iU<|.st mD Z Z LT Z (nb Z) Z<|?_
 refine Sx.At.rcut (size:=13) (m:=k) (ys:=xr) mP (by omega) (by rw [<-hl,iI]) ?_;refine .ns<|.yw (.loadW Z wB Hm Z)<|.sW kP Z Z wW h1 Z<|.nt<|.rt<|?_
 refine y8 Z (.cell Z wB cP rfl) λW s=>?_;exact ⟨(g,c),Jt,Z,s.p4_2 [2,3] rfl⟩
abbrev vC (v:Vl) (s0 s1 s2:Value):List Value:=[.bool v.tm,.bool v.wh,.int .u8 v.e.op.toNat,cH v.e.nm,.int .i64 v.e.n.toInt,s0,.int .u8 v.f.op.toNat,cH v.f.nm,cH v.f.fd,.int .i64 v.f.a.toInt,.int .i64 v.f.b.toInt,s1,s2]
abbrev oC (o:Ov) (s1 s2:Value):List Value:=[.int .u8 o.kd.toNat,iN o.lv,.bool o.tm,.int .u8 o.op.toNat,.int .u8 o.f.op.toNat,cH o.f.nm,cH o.f.fd,.int .i64 o.f.a.toInt,.int .i64 o.f.b.toInt,s1,s2]
structure FmR (H:Hp) (f:Fm) (s1 s2:Value):Prop where
 ex:Rep H (.seq 4 (f.ex.map (dEx .u8))) [s1]
 ar:Rep H (.seq 7 (f.args.map (dFm .u8))) [s2]
 nm:f.nm.length<=1000000
 fd:f.fd.length<=1000000
structure ExR (H:Hp) (e:Ex) (s:Value):Prop where
 ar:Rep H (.seq 4 (e.args.map (dEx .u8))) [s]
 nm:e.nm.length<=1000000
structure VlR (H:Hp) (v:Vl) (s0 s1 s2:Value):Prop where
 e:ExR H v.e s0
 f:FmR H v.f s1 s2
variable {H':Hp} {f:Fm} {s1 s2:Value}
theorem FmR.up (h:FmR H f s1 s2) (u:Up H H'):FmR H' f s1 s2:=⟨h.ex.up u,h.ar.up u,h.nm,h.fd⟩
theorem ExR.up {e:Ex} {s:Value} (h:ExR H e s) (u:Up H H'):ExR H' e s:=⟨h.ar.up u,h.nm⟩
theorem VlR.up {v:Vl} {s0:Value} (h:VlR H v s0 s1 s2) (u:Up H H'):VlR H' v s0 s1 s2:=⟨h.e.up u,h.f.up u⟩
theorem ExR.rep {e:Ex} {s:Value} (h:ExR H e s):Rep H (dEx .u8 e) [.int .u8 e.op.toNat,cH e.nm,.int .i64 e.n.toInt,s]:=by
 obtain ⟨op,nm,n,args⟩:=e;exact qP h.nm h.ar
theorem FmR.rep (h:FmR H f s1 s2):Rep H (dFm .u8 f) (cFm .u8 f.op f.nm f.fd f.a f.b s1 s2):=by
 obtain ⟨op,nm,fd,a,b,ex,args⟩:=f;exact CB h.nm h.fd h.ex h.ar
variable {z:Nat}
theorem Rep.nil4:Rep H (.seq z []) [.slice none 0 0]:=Rep.empty (p:=none) (c:=0) (by decide)
theorem FmR.zero (h1:f.ex=[]) (h2:f.args=[]) (h3:f.nm.length<=1000000) (h4:f.fd.length<=1000000):FmR H f (.slice none 0 0) (.slice none 0 0):=⟨by rw [h1];exact Rep.nil4,by rw [h2];exact Rep.nil4,h3,h4⟩
theorem ExR.zero {e:Ex} (h1:e.args=[]) (h3:e.nm.length<=1000000):ExR H e (.slice none 0 0):=⟨by rw [h1];exact Rep.nil4,h3⟩
theorem KP {ds:List D} {s:Value} (h:Rep H (.seq z ds) [s]):s.oneCell'=true:=h.one s (bQ.2 rfl)
theorem VlR.one {v:Vl} {s0:Value} (h:VlR H v s0 s1 s2):∀ u∈vC v s0 s1 s2,u.oneCell'=true:=by
 intro u hu;simp only [bM,List.not_mem_nil,or_false] at hu;rcases hu with rfl | rfl | rfl | rfl | rfl | rfl | rfl | rfl | rfl | rfl | rfl | rfl | rfl <;> first | rfl | exact KP h.e.ar | exact KP h.f.ex | exact KP h.f.ar
inductive VR (H:Hp):List Vl->List Value->Prop
 | nil:VR H [] []
 | cons {v:Vl} {vs:List Vl} {xv:List Value} {s0 s1 s2:Value}:VR H vs xv->VlR H v s0 s1 s2->VR H (v::vs) (xv++vC v s0 s1 s2)
theorem VR.up (u:Up H H'):∀ {vs:List Vl} {xv:List Value},VR H vs xv->VR H' vs xv
 | _,_,.nil=>.nil
 | _,_,.cons h k=>.cons (h.up u) (k.up u)
theorem VR.len:∀ {vs:List Vl} {xv:List Value},VR H vs xv->xv.length=vs.length * 13
 | _,_,.nil=>rfl
 | _,_,.cons h _=>by have:=h.len;simp only [aF,aJ,aM];omega
inductive Ops (H:Hp):List Ov->List Value->List Res->Prop
 | nil:Ops H [] [] []
 | cons {o:Ov} {r:List Ov} {xo:List Value} {s1 s2:Value} {AR:List Res}:Ops H r xo AR->o.kd≠5->FmR H o.f s1 s2->Ops H (o::r) (xo++oC o s1 s2) AR
 | arg {o:Ov} {r:List Ov} {xo xe:List Value} {s1:Value} {AR:List Res}:Ops H r xo AR->o.kd=5->o.f.args=[]->o.f.nm.length<=1000000->o.f.fd.length<=1000000->eD H 4 (o.f.ex.map (dEx .u8)) xe->s1.oneCell'=true->Ops H (o::r) (xo++oC o s1 (.slice none 0 0)) (.row 76 4 s1 o.f.ex.length xe::AR)
theorem Ops.up (u:Up H H'):∀ {os:List Ov} {xo:List Value} {AR:List Res},Ops H os xo AR->Ops H' os xo AR
 | _,_,_,.nil=>.nil
 | _,_,_,.cons h k f=>.cons (h.up u) k (f.up u)
 | _,_,_,.arg h k a b c z s=>.arg (h.up u) k a b c (z.up u) s
theorem Ops.len:∀ {os:List Ov} {xo:List Value} {AR:List Res},Ops H os xo AR->xo.length=os.length * 11
 | _,_,_,.nil=>rfl
 | _,_,_,.cons h _ _=>by have:=h.len;simp only [aF,aJ,aM];omega
 | _,_,_,.arg h _ _ _ _ _ _=>by have:=h.len;simp only [aF,aJ,aM];omega
variable {AR:List Res}
theorem Ops.top {o:Ov} {r:List Ov} (h:Ops H (o::r) xo AR):∃ xr s1 s2,xo=xr++oC o s1 s2/\xr.length=r.length * 11/\s1.oneCell'=true/\s2.oneCell'=true:=by
 cases h with
 | cons h k f=>exact ⟨_,_,_,Z,h.len,KP f.ex,KP f.ar⟩
 | arg h k a b c z s=>exact ⟨_,_,_,Z,h.len,s,Z⟩
variable {n j:Nat}
theorem kD {cs:List Value} {u:Value} (hl:xr.length=n) (h:cs[j]? = some u):(xr++cs)[n+j]? = some u:=by
 subst hl;rw [List.getElem?_append_right (Nat.le_add_right _ _),jS];exact h
theorem bO5 {o:Ov} (h1:s1.oneCell'=true) (h2:s2.oneCell'=true):∀ u∈oC o s1 s2,u.oneCell'=true:=by
 intro u hu;simp only [bM,List.not_mem_nil,or_false] at hu;rcases hu with rfl | rfl | rfl | rfl | rfl | rfl | rfl | rfl | rfl | rfl | rfl <;> first | rfl | exact h1 | exact h2
structure Sq (H:Hp) (q:Ps) (xo xv:List Value) (AR:List Res):Prop where
 ops:Ops H q.op xo AR
 vls:VR H q.x.1 xv
theorem Sq.up {q:Ps} (h:Sq H q xo xv AR) (u:Up H H'):Sq H' q xo xv AR:=⟨h.ops.up u,h.vls.up u⟩
theorem Sq.at {q:Ps} {c:Rq} (h:Sq H q xo xv AR):Sq H (q.at c) xo xv AR:=⟨h.ops,h.vls⟩
abbrev pB (tp:Option Addr) (n tc:Nat) (q:Ps) (b:Nat) (ro rv:Value) (xo xv:List Value):List Res:=[.box b [.slice tp n tc,iN q.c.i,ro,rv,.bool q.rd,.bool q.dn,.bool q.x.2,iN q.c.off,iN q.c.er] 102,.row 97 11 ro q.op.length xo,.row 179 13 rv q.x.1.length xv]
abbrev StP (H:Hp) (w0:World) (bs:List Res) (W:World) (b:Nat) (l:Tks) (tp:Option Addr) (tc:Nat) (q:Ps) (ro rv:Value) (xo xv:List Value) (AR:List Res):Prop:=St H w0 (pB tp l.length tc q b ro rv xo xv++(AR++bs)) W
def Get (w0:World) (bs:List Res) (b:Nat) (l:Tks) (tp:Option Addr) (tc:Nat) (H:Hp) (q:Ps) (e:Ending) (W:World):Prop :=
 ∃ z:Hp × Value × Value × List Value × List Value × List Res,(HUp w0 H z.1/\Sq z.1 q z.2.2.2.1 z.2.2.2.2.1 z.2.2.2.2.2)/\e=.returned (.tuple #[])/\StP z.1 w0 bs W b l tp tc q z.2.1 z.2.2.1 z.2.2.2.1 z.2.2.2.2.1 z.2.2.2.2.2
end Go.Proofs.YtidclioghdbphaaGreatDoor
namespace Go.Proofs
open Go.Shelf
def Tryz.lays156_ren:Go.Shelf.Ren:=⟨λ| 156=>90 | 165=>141 | 166=>142 | 169=>143 | 240=>172 | 241=>173 | 276=>195 | 277=>196 | n=>n,λ| 31=>71 | 9=>9 | 3=>3 | 4=>4 | 0=>0 | 20=>20 | 72=>209 | 76=>212 | 70=>207 | 37=>50 | 75=>211 | 127=>232 | 164=>247 | 5=>5 | 80=>40 | n=>n,λ| n=>n⟩
theorem Tryz.lays156:Go.Proofs.Lays.n156 prg Tryz.lays156_ren:={
 mixed:=by kernel_rfl
 f156:=Tryz.func90.trans (congrArg some (by kernel_rfl))
 f165:=Tryz.func141.trans (congrArg some (by kernel_rfl))
 f166:=Tryz.func142.trans (congrArg some (by kernel_rfl))
 f169:=Tryz.func143.trans (congrArg some (by kernel_rfl))
 f240:=Tryz.func172.trans (congrArg some (by kernel_rfl))
 f241:=Tryz.func173.trans (congrArg some (by kernel_rfl))
 f276:=Tryz.func195.trans (congrArg some (by kernel_rfl))
 f277:=Tryz.func196.trans (congrArg some (by kernel_rfl))
 t0:=Tryz.underlying0
 a0:=Tryz.isAgg0
 z0:=Tryz.sizeOf0
 v0:=Tryz.zeroValue0
 t3:=Tryz.underlying3
 a3:=Tryz.isAgg3
 z3:=Tryz.sizeOf3
 v3:=Tryz.zeroValue3
 t4:=Tryz.underlying4
 a4:=Tryz.isAgg4
 z4:=Tryz.sizeOf4
 v4:=Tryz.zeroValue4
 t9:=Tryz.underlying9
 a9:=Tryz.isAgg9
 z9:=Tryz.sizeOf9
 v9:=Tryz.zeroValue9
 t20:=Tryz.underlying20
 a20:=Tryz.isAgg20
 z20:=Tryz.sizeOf20
 v20:=Tryz.zeroValue20
 t31:=Tryz.underlying71
 a31:=Tryz.isAgg71
 z31:=Tryz.sizeOf71
 v31:=Tryz.zeroValue71
 t37:=Tryz.underlying50
 a37:=Tryz.isAgg50
 z37:=Tryz.sizeOf50
 v37:=Tryz.zeroValue50
 t70:=Tryz.underlying207
 a70:=Tryz.isAgg207
 z70:=Tryz.sizeOf207
 v70:=Tryz.zeroValue207
 t72:=Tryz.underlying209
 a72:=Tryz.isAgg209
 z72:=Tryz.sizeOf209
 v72:=Tryz.zeroValue209
 t75:=Tryz.underlying211
 a75:=Tryz.isAgg211
 z75:=Tryz.sizeOf211
 v75:=Tryz.zeroValue211
 t76:=Tryz.underlying212
 a76:=Tryz.isAgg212
 z76:=Tryz.sizeOf212
 v76:=Tryz.zeroValue212
 t127:=Tryz.underlying232
 a127:=Tryz.isAgg232
 z127:=Tryz.sizeOf232
 v127:=Tryz.zeroValue232
 t164:=Tryz.underlying247
 a164:=Tryz.isAgg247
 z164:=Tryz.sizeOf247
 v164:=Tryz.zeroValue247 }
theorem Tryz.Builder_Extra_156:Builder.Extra prg Tryz.lays156_ren:={
 sizeBuilder:=by kernel_rfl
 liesBuilder:=by kernel_rfl
 t5:=Tryz.underlying5
 a5:=Tryz.isAgg5
 z5:=Tryz.sizeOf5
 v5:=Tryz.zeroValue5
 infoByte:=by kernel_rfl
 cellsByte:=by kernel_rfl
 sizeByte:=by kernel_rfl
 neB5:=by decide }
open Go.RowKit in
theorem Tryz.strings_Join_none (a:Option Addr) (c:Nat) (sep:ByteArray) (w:World) :
 Calls prg 90 #[.slice a 0 c,.string sep] w λe w'=>e=.returned (.string ⟨#[]⟩)/\w'=w:=Any.strings_Join_none Tryz.lays156 Tryz.Builder_Extra_156 a c sep w
open Go.RowKit in
theorem Tryz.strings_Join (bk o c:Nat) (xs:List ByteArray) (sep:ByteArray) (w:World) (hcells:∀ (j:Nat) x,xs[j]? = some x->w.cell? ⟨bk,o+j,none⟩=some (.string x)) (hbk:bk<w.heap.size) (hN:xs.length<=140737488355328) (hcap:xs.length<=c) (hlen:(Lib.join (xs.map (·.data.toList)) sep.data.toList).length<=140737488355328) :
 Calls prg 90 #[.slice (some ⟨bk,o,none⟩) xs.length c,.string sep] w λe w'=>e=.returned (.string ⟨(Lib.join (xs.map (·.data.toList)) sep.data.toList).toArray⟩)/\Below w.heap.size w w':=Any.strings_Join Tryz.lays156 Tryz.Builder_Extra_156 bk o c xs sep w hcells hbk hN hcap hlen
def Tryz.laysM171_ren:Go.Shelf.Ren:=⟨λ| 171=>144 | 243=>174 | 246=>171 | 283=>191 | 284=>192 | 285=>193 | 286=>194 | 129=>203 | 317=>202 | 318=>204 | 319=>205 | 320=>206 | 337=>210 | 338=>211 | n=>n,λ| 3=>3 | 9=>9 | 2=>2 | 4=>4 | 171=>241 | 0=>0 | 53=>242 | 37=>50 | 5=>5 | 173=>245 | 212=>257 | 51=>250 | 20=>20 | 213=>258 | 46=>234 | 232=>264 | 233=>265 | n=>n,λ| 17=>6 | 18=>7 | 19=>8 | n=>n⟩
theorem Tryz.laysM171:Go.Proofs.LaysM.n171 prg Tryz.laysM171_ren:={
 mixed:=by kernel_rfl
 f129:=Tryz.func203.trans (congrArg some (by kernel_rfl))
 f171:=Tryz.func144.trans (congrArg some (by kernel_rfl))
 f243:=Tryz.func174.trans (congrArg some (by kernel_rfl))
 f246:=Tryz.func171.trans (congrArg some (by kernel_rfl))
 f283:=Tryz.func191.trans (congrArg some (by kernel_rfl))
 f284:=Tryz.func192.trans (congrArg some (by kernel_rfl))
 f285:=Tryz.func193.trans (congrArg some (by kernel_rfl))
 f286:=Tryz.func194.trans (congrArg some (by kernel_rfl))
 f317:=Tryz.func202.trans (congrArg some (by kernel_rfl))
 f318:=Tryz.func204.trans (congrArg some (by kernel_rfl))
 f319:=Tryz.func205.trans (congrArg some (by kernel_rfl))
 f320:=Tryz.func206.trans (congrArg some (by kernel_rfl))
 f337:=Tryz.func210.trans (congrArg some (by kernel_rfl))
 f338:=Tryz.func211.trans (congrArg some (by kernel_rfl))
 t0:=Tryz.underlying0
 a0:=Tryz.isAgg0
 z0:=Tryz.sizeOf0
 v0:=Tryz.zeroValue0
 t2:=Tryz.underlying2
 a2:=Tryz.isAgg2
 z2:=Tryz.sizeOf2
 v2:=Tryz.zeroValue2
 t3:=Tryz.underlying3
 a3:=Tryz.isAgg3
 z3:=Tryz.sizeOf3
 v3:=Tryz.zeroValue3
 t4:=Tryz.underlying4
 a4:=Tryz.isAgg4
 z4:=Tryz.sizeOf4
 v4:=Tryz.zeroValue4
 t5:=Tryz.underlying5
 a5:=Tryz.isAgg5
 z5:=Tryz.sizeOf5
 v5:=Tryz.zeroValue5
 t9:=Tryz.underlying9
 a9:=Tryz.isAgg9
 z9:=Tryz.sizeOf9
 v9:=Tryz.zeroValue9
 t20:=Tryz.underlying20
 a20:=Tryz.isAgg20
 z20:=Tryz.sizeOf20
 v20:=Tryz.zeroValue20
 t37:=Tryz.underlying50
 a37:=Tryz.isAgg50
 z37:=Tryz.sizeOf50
 v37:=Tryz.zeroValue50
 t46:=Tryz.underlying234
 a46:=Tryz.isAgg234
 z46:=Tryz.sizeOf234
 v46:=Tryz.zeroValue234
 t51:=Tryz.underlying250
 a51:=Tryz.isAgg250
 z51:=Tryz.sizeOf250
 v51:=Tryz.zeroValue250
 t53:=Tryz.underlying242
 a53:=Tryz.isAgg242
 z53:=Tryz.sizeOf242
 v53:=Tryz.zeroValue242
 t171:=Tryz.underlying241
 a171:=Tryz.isAgg241
 z171:=Tryz.sizeOf241
 v171:=Tryz.zeroValue241
 t173:=Tryz.underlying245
 a173:=Tryz.isAgg245
 z173:=Tryz.sizeOf245
 v173:=Tryz.zeroValue245
 t212:=Tryz.underlying257
 a212:=Tryz.isAgg257
 z212:=Tryz.sizeOf257
 v212:=Tryz.zeroValue257
 t213:=Tryz.underlying258
 a213:=Tryz.isAgg258
 z213:=Tryz.sizeOf258
 t232:=Tryz.underlying264
 a232:=Tryz.isAgg264
 z232:=Tryz.sizeOf264
 v232:=Tryz.zeroValue264
 t233:=Tryz.underlying265
 a233:=Tryz.isAgg265
 z233:=Tryz.sizeOf265
 v233:=Tryz.zeroValue265
 g17:=by kernel_rfl
 g18:=by kernel_rfl
 g19:=by kernel_rfl
 i0:=by kernel_rfl
 i2:=by kernel_rfl
 i3:=by kernel_rfl
 i4:=by kernel_rfl
 i5:=by kernel_rfl
 i9:=by kernel_rfl
 i20:=by kernel_rfl
 i37:=by kernel_rfl
 i46:=by kernel_rfl
 i51:=by kernel_rfl
 i53:=by kernel_rfl
 i171:=by kernel_rfl
 i173:=by kernel_rfl
 i212:=by kernel_rfl
 i232:=by kernel_rfl
 i233:=by kernel_rfl
 m17:=by kernel_rfl
 m18:=by kernel_rfl
 m19:=by kernel_rfl }
open Go.RowKit Go.Sort Go.Lib in
theorem Tryz.strconv_Itoa (n:Int) (h0:-9223372036854775808<=n) (h1:n<=9223372036854775807) (w:World) (htab:Lib.TabIs prg w "internal/strconv.uint64pow10" .u64 Lib.pow10Tab) :
 Calls prg 144 #[.int .i64 n] w λe w'=>e=.returned (.string ⟨(Lib.itoa n).toArray⟩)/\∃ k os,w'=grow (w.drewN k) os:=Any.strconv_Itoa Tryz.laysM171 n h0 h1 w htab
def Tryz.laysM173_ren:Go.Shelf.Ren:=⟨λ| 173=>138 | 246=>171 | 283=>191 | 284=>192 | 285=>193 | 286=>194 | 129=>203 | 317=>202 | 318=>204 | 319=>205 | 320=>206 | 337=>210 | 338=>211 | n=>n,λ| 2=>2 | 3=>3 | 9=>9 | 4=>4 | 171=>241 | 0=>0 | 53=>242 | 37=>50 | 5=>5 | 173=>245 | 212=>257 | 51=>250 | 20=>20 | 213=>258 | 46=>234 | 232=>264 | 233=>265 | n=>n,λ| 17=>6 | 18=>7 | 19=>8 | n=>n⟩
theorem Tryz.laysM173:Go.Proofs.LaysM.n173 prg Tryz.laysM173_ren:={
 mixed:=by kernel_rfl
 f129:=Tryz.func203.trans (congrArg some (by kernel_rfl))
 f173:=Tryz.func138.trans (congrArg some (by kernel_rfl))
 f246:=Tryz.func171.trans (congrArg some (by kernel_rfl))
 f283:=Tryz.func191.trans (congrArg some (by kernel_rfl))
 f284:=Tryz.func192.trans (congrArg some (by kernel_rfl))
 f285:=Tryz.func193.trans (congrArg some (by kernel_rfl))
 f286:=Tryz.func194.trans (congrArg some (by kernel_rfl))
 f317:=Tryz.func202.trans (congrArg some (by kernel_rfl))
 f318:=Tryz.func204.trans (congrArg some (by kernel_rfl))
 f319:=Tryz.func205.trans (congrArg some (by kernel_rfl))
 f320:=Tryz.func206.trans (congrArg some (by kernel_rfl))
 f337:=Tryz.func210.trans (congrArg some (by kernel_rfl))
 f338:=Tryz.func211.trans (congrArg some (by kernel_rfl))
 t0:=Tryz.underlying0
 a0:=Tryz.isAgg0
 z0:=Tryz.sizeOf0
 v0:=Tryz.zeroValue0
 t2:=Tryz.underlying2
 a2:=Tryz.isAgg2
 z2:=Tryz.sizeOf2
 v2:=Tryz.zeroValue2
 t3:=Tryz.underlying3
 a3:=Tryz.isAgg3
 z3:=Tryz.sizeOf3
 v3:=Tryz.zeroValue3
 t4:=Tryz.underlying4
 a4:=Tryz.isAgg4
 z4:=Tryz.sizeOf4
 v4:=Tryz.zeroValue4
 t5:=Tryz.underlying5
 a5:=Tryz.isAgg5
 z5:=Tryz.sizeOf5
 v5:=Tryz.zeroValue5
 t9:=Tryz.underlying9
 a9:=Tryz.isAgg9
 z9:=Tryz.sizeOf9
 v9:=Tryz.zeroValue9
 t20:=Tryz.underlying20
 a20:=Tryz.isAgg20
 z20:=Tryz.sizeOf20
 v20:=Tryz.zeroValue20
 t37:=Tryz.underlying50
 a37:=Tryz.isAgg50
 z37:=Tryz.sizeOf50
 v37:=Tryz.zeroValue50
 t46:=Tryz.underlying234
 a46:=Tryz.isAgg234
 z46:=Tryz.sizeOf234
 v46:=Tryz.zeroValue234
 t51:=Tryz.underlying250
 a51:=Tryz.isAgg250
 z51:=Tryz.sizeOf250
 v51:=Tryz.zeroValue250
 t53:=Tryz.underlying242
 a53:=Tryz.isAgg242
 z53:=Tryz.sizeOf242
 v53:=Tryz.zeroValue242
 t171:=Tryz.underlying241
 a171:=Tryz.isAgg241
 z171:=Tryz.sizeOf241
 v171:=Tryz.zeroValue241
 t173:=Tryz.underlying245
 a173:=Tryz.isAgg245
 z173:=Tryz.sizeOf245
 v173:=Tryz.zeroValue245
 t212:=Tryz.underlying257
 a212:=Tryz.isAgg257
 z212:=Tryz.sizeOf257
 v212:=Tryz.zeroValue257
 t213:=Tryz.underlying258
 a213:=Tryz.isAgg258
 z213:=Tryz.sizeOf258
 t232:=Tryz.underlying264
 a232:=Tryz.isAgg264
 z232:=Tryz.sizeOf264
 v232:=Tryz.zeroValue264
 t233:=Tryz.underlying265
 a233:=Tryz.isAgg265
 z233:=Tryz.sizeOf265
 v233:=Tryz.zeroValue265
 g17:=by kernel_rfl
 g18:=by kernel_rfl
 g19:=by kernel_rfl
 i0:=by kernel_rfl
 i2:=by kernel_rfl
 i3:=by kernel_rfl
 i4:=by kernel_rfl
 i5:=by kernel_rfl
 i9:=by kernel_rfl
 i20:=by kernel_rfl
 i37:=by kernel_rfl
 i46:=by kernel_rfl
 i51:=by kernel_rfl
 i53:=by kernel_rfl
 i171:=by kernel_rfl
 i173:=by kernel_rfl
 i212:=by kernel_rfl
 i232:=by kernel_rfl
 i233:=by kernel_rfl
 m17:=by kernel_rfl
 m18:=by kernel_rfl
 m19:=by kernel_rfl }
open Go.RowKit Go.Sort Go.Lib in
theorem Tryz.strconv_FormatInt_10 (n:Int) (h0:-9223372036854775808<=n) (h1:n<=9223372036854775807) (w:World) (htab:Lib.TabIs prg w "internal/strconv.uint64pow10" .u64 Lib.pow10Tab) :
 Calls prg 138 #[.int .i64 n,.int .i64 10] w λe w'=>e=.returned (.string ⟨(Lib.itoa n).toArray⟩)/\∃ k os,w'=grow (w.drewN k) os:=Any.strconv_FormatInt_10 Tryz.laysM173 n h0 h1 w htab
def Tryz.lays219_ren:Go.Shelf.Ren:=⟨λ| 219=>145 | 217=>175 | 225=>176 | 224=>177 | 267=>178 | 266=>197 | 314=>198 | n=>n,λ| 9=>9 | 3=>3 | 4=>4 | 5=>5 | 46=>234 | 146=>251 | 51=>250 | n=>n,λ| 1=>4 | n=>n⟩
theorem Tryz.lays219:Go.Proofs.Lays.n219 prg Tryz.lays219_ren:={
 mixed:=by kernel_rfl
 f217:=Tryz.func175.trans (congrArg some (by kernel_rfl))
 f219:=Tryz.func145.trans (congrArg some (by kernel_rfl))
 f224:=Tryz.func177.trans (congrArg some (by kernel_rfl))
 f225:=Tryz.func176.trans (congrArg some (by kernel_rfl))
 f266:=Tryz.func197.trans (congrArg some (by kernel_rfl))
 f267:=Tryz.func178.trans (congrArg some (by kernel_rfl))
 f314:=Tryz.func198.trans (congrArg some (by kernel_rfl))
 t3:=Tryz.underlying3
 a3:=Tryz.isAgg3
 z3:=Tryz.sizeOf3
 v3:=Tryz.zeroValue3
 t4:=Tryz.underlying4
 a4:=Tryz.isAgg4
 z4:=Tryz.sizeOf4
 v4:=Tryz.zeroValue4
 t5:=Tryz.underlying5
 a5:=Tryz.isAgg5
 z5:=Tryz.sizeOf5
 v5:=Tryz.zeroValue5
 t9:=Tryz.underlying9
 a9:=Tryz.isAgg9
 z9:=Tryz.sizeOf9
 v9:=Tryz.zeroValue9
 t46:=Tryz.underlying234
 a46:=Tryz.isAgg234
 z46:=Tryz.sizeOf234
 v46:=Tryz.zeroValue234
 t51:=Tryz.underlying250
 a51:=Tryz.isAgg250
 z51:=Tryz.sizeOf250
 v51:=Tryz.zeroValue250
 t146:=Tryz.underlying251
 a146:=Tryz.isAgg251
 z146:=Tryz.sizeOf251
 v146:=Tryz.zeroValue251
 g1:=by kernel_rfl }
open Go.RowKit Go.Lib in
theorem Tryz.stringslite_Index_one (s:ByteArray) (c:UInt8) (w:World) :
 Calls prg 145 #[.string s,.string ⟨#[c]⟩] w λe w'=>e=.returned (.int .i64 (Lib.indexByte s.data.toList c))/\w'=w:=Any.stringslite_Index_one Tryz.lays219 s c w
end Go.Proofs
namespace Go.Proofs.YtidclioghdbphaaGreatDoor
open Go.RowKit Go.Par Go.Sx Tryz
theorem OY:dI prg 20=true:=by kernel_rfl
theorem aK1:dI prg 49=true:=by kernel_rfl
theorem aJ0:dI prg 94=true:=by kernel_rfl
theorem fR:dI prg 108=true:=by kernel_rfl
theorem EH:dI prg 116=true:=by kernel_rfl
theorem YL:dI prg 145=true:=by kernel_rfl
theorem nA:dY prg 102 6=some 6:=by kernel_rfl
theorem DE:dY prg 179 0=some 0:=by kernel_rfl
theorem uG:dY prg 179 2=some 2:=by kernel_rfl
theorem MY:dY prg 179 3=some 6:=by kernel_rfl
theorem xB (x0:Int) (x1 x2:ByteArray):iJ prg 35 [(0,.int .u8 x0),(1,.string x1),(2,.string x2)]=some [.int .u8 x0,.string x1,.string x2,.int .i64 0,.int .i64 0,.slice none 0 0,.slice none 0 0]:=by kernel_rfl
theorem wG:∀ n:Str,(∃ i:Nat,Lib.indexByte n 46=(i:Int)/\i<n.length/\eJ n=some (n.take i,n.drop (i+1)))\/(Lib.indexByte n 46=-1/\eJ n=none)
 | []=>.inr ⟨Z,Z⟩
 | c::r=>by
  by_cases hc:c=46
  ·refine .inl ⟨0,?_,Nat.succ_pos _,?_⟩
   ·rw [Lib.indexByte,aL (by rw [hc];rfl)];rfl
   ·rw [eJ,aL hc];rfl
  ·have hb:¬ (c == 46)=true:=λe=>hc (by simpa using e);rcases wG r with ⟨i,h1,h2,h3⟩ | ⟨h1,h2⟩
   ·refine .inl ⟨i+1,?_,Nat.succ_lt_succ h2,?_⟩
    ·rw [Lib.indexByte,aG hb,h1,aG (by intro e;have:=eq_of_beq e;omega)];omega
    ·rw [eJ,aG hc,h3];rfl
   ·refine .inr ⟨?_,?_⟩
    ·rw [Lib.indexByte,aG hb,h1];rfl
    ·rw [eJ,aG hc,h2];rfl
def spV (n:Str):Value:=.tuple #[cH (spA n),cH (spB n),.bool (eJ n).isSome]
def aG9 (n:Str):Value:=.tuple #[cH (if (eJ n).isSome then spA n else n),cH (spB n),.bool (eJ n).isSome]
theorem aX3 (n:Str) (hn:n.length<=9223372036854775807) (w:World):Calls prg 94 #[cH n,cH [46]] w λe w'=>e=.returned (aG9 n)/\Ext w w':=by
 refine y6 func94 Z ntmps94 Z ?_;refine .sr<|.a Z Z<|.a Z Z<|.aq Z<|.sq<|.sm Z<|.mv Z<|.yw (.call (v:=.int .i64 (Lib.indexByte n 46)) YL Z λW s=>(Tryz.stringslite_Index_one ⟨n.toArray⟩ 46 W).mono λ_ _ h=>⟨h.1,by rw [h.2];exact Ext.refl _⟩)<|.a Z Z<|.ns<|.mv Z<|.yw (.geq Z Z)<|.nt<|.ce Z (λh12=>?_) (λh12=>?_)
 ·obtain ⟨i,hx,hi,hs⟩:∃ i:Nat,Lib.indexByte n 46=(i:Int)/\i<n.length/\eJ n=some (n.take i,n.drop (i+1)):=by
   rcases wG n with h | ⟨h,_⟩
   ·exact h
   ·omega
  refine .sq<|.fL 11 [(0,0),(1,0),(2,0),(3,0),(4,0),(5,0),(6,0),(7,0),(8,0),(9,0),(10,0)]<|.mv Z<|.mv Z<|.yw (.takeS iO Z Z (hi:=i) hx (by omega))<|.mv Z<|.mv Z<|.mv Z<|.yw (.lenS iO Z)<|.yw (.add Z Z (c:=((i+1:Nat):Int)) (by rw [hx];exact (w64 (by show _<=(i:Int)+((1:Nat):Int);omega) (by show (i:Int)+((1:Nat):Int)<=_;omega)).trans (by show (i:Int)+((1:Nat):Int)=_;omega)))<|.yw (.dropS iO Z Z (lo:=i+1) Z (by omega))<|.a Z Z<|.a Z Z<|.fn (tl:=[_]) Z<|.az Z<|.tR<|?_
  refine y7 Z (.cons (.tmp Z) (.cons (.tmp Z) (.cons (.tmp Z) .nil))) rfl λW s=>⟨(by unfold aG9 spA spB;rw [hs];rfl),s.ext⟩
 have hs:eJ n=none:=by
  rcases wG n with ⟨i,h,_⟩ | ⟨_,h⟩
  ·omega
  ·exact h
 refine .sk<|.tN<|.sm Z<|.a Z Z<|.a Z Z<|.az Z<|?_
 refine y7 Z (.cons (.tmp Z) (.cons (.tmp Z) (.cons (.tmp Z) .nil))) rfl λW s=>⟨(by unfold aG9 spA spB;rw [hs];rfl),s.ext⟩
theorem bJ3 (n:Str) (hn:n.length<=9223372036854775807) (w:World):Calls prg 49 #[cH n,cH [46]] w λe w'=>e=.returned (aG9 n)/\Ext w w':=by
 refine y6 func49 Z ntmps49 Z ?_;refine .sr<|.a Z Z<|.a Z Z<|.a Z Z<|.ns<|.mv Z<|.mv Z<|.yw (.call (v:=aG9 n) aJ0 Z λW s=>aX3 n hn W)<|.yw (.extract Z Z)<|.yw (.extract Z Z)<|.yw (.extract Z Z)<|.a Z Z<|.a Z Z<|.az Z<|?_
 refine y7 Z (.cons (.tmp Z) (.cons (.tmp Z) (.cons (.tmp Z) .nil))) rfl λW s=>⟨Z,s.ext⟩
theorem NJ (n:Str) (hn:n.length<=9223372036854775807) (w:World):Calls prg 20 #[cH n] w λe w'=>e=.returned (spV n)/\Ext w w':=by
 refine y6 func20 Z ntmps20 Z ?_;refine .sr<|.a Z Z<|.a Z Z<|.a Z Z<|.ns<|.mv Z<|.yw (.call (v:=aG9 n) aK1 Z λW s=>bJ3 n hn W)<|.mv Z<|.yw (.extract Z Z)<|.yw (.extract Z Z)<|.yw (.extract Z Z)<|.a Z Z<|.a Z Z<|.aq Z<|.sq<|.sm Z<|.yw (.not Z)<|.nt<|.cd Z (λh12=>?_) (λh12=>?_)
 ·have hs:eJ n=none:=by cases e:eJ n with | none=>rfl | some x=>rw [e] at h12;cases h12
  refine .sr<|.a Z Z<|.a Z Z<|.az Z<|.tR<|?_
  refine y7 Z (.cons (.tmp Z) (.cons (.tmp Z) (.cons (.tmp Z) .nil))) rfl λW s=>⟨(by unfold spV spA spB;rw [hs];rfl),s.ext⟩
 obtain ⟨x,hs⟩:∃ x,eJ n=some x:=by cases e:eJ n with | some x=>exact ⟨x,rfl⟩ | none=>rw [e] at h12;cases h12
 refine .sk<|.tN<|.sm Z<|.mv Z<|.a Z Z<|.a Z Z<|.az Z<|?_
 refine y7 Z (.cons (.tmp Z) (.cons (.tmp Z) (.cons (.tmp Z) .nil))) rfl λW s=>⟨(by unfold spV spA spB;rw [hs];rfl),s.ext⟩
variable {l:List Value}
theorem bU6 {p:Value->Prop} {t u e0 e1 e2 e3:Value} (h1:∀ x∈t::u::e0::e1::e2::e3::l,p x):∀ x∈[e0,e1,e2,e3],p x:=λx hx=>h1 x (bT _<|bT _<|(cC.2 (.inl hx):x∈[e0,e1,e2,e3]++l))
theorem cA2 {p:Value->Prop} {t u e0 e1 e2 e3:Value} (h1:∀ x∈t::u::e0::e1::e2::e3::l,p x):∀ x∈l,p x:=λx hx=>h1 x (bT _<|bT _<|(cC.2 (.inr hx):x∈[e0,e1,e2,e3]++l))
variable {k:Nat} {xr:List Value}
variable {H:Hp} {w0 W:World} {bs:List Res} {tp:Option Addr} {tc:Nat} {ro rv:Value} {bd:Bool} {q:Rq}
theorem xW {b:Nat} {l:Tks} {rd dn:Bool} (K:Tkf H l tp tc) (hq:q.i<l.length) {tm wh:Bool} {eop:UInt8} {enm:Str} {e2 e3 f0 f1 f2 f3 f4 f5 f6:Value} (h1:∀ u∈[.bool tm,.bool wh,.int .u8 eop.toNat,cH enm,e2,e3,f0,f1,f2,f3,f4,f5,f6],u.oneCell'=true) (hkm:k<=600001) (hl:xr.length=k * 13) (s:St H w0 (.box b [.slice tp l.length tc,iN q.i,ro,rv,.bool rd,.bool dn,.bool bd,iN q.off,iN q.er] 102::.row 179 13 (rv) (k+1) (xr++[.bool tm,.bool wh,.int .u8 eop.toNat,cH enm,e2,e3,f0,f1,f2,f3,f4,f5,f6])::bs) W) :
 Calls prg 155 #[.pointer (some ⟨b,0,none⟩)] W λe W'=>∃ z:Nat × Nat,(True)/\e=.returned (.agg [.int .u8 eop.toNat,cH enm,e2,e3].toArray)/\St H w0 (.box b [.slice tp l.length tc,iN q.i,ro,(.slice (some ⟨z.1,0,none⟩) k z.2),.bool rd,.bool dn,.bool (bd || !tm),iN q.off,iN q.er] 102::.row 179 13 (.slice (some ⟨z.1,0,none⟩) k z.2) (k) (xr)::bs) W':=by
 have hcap:=K.rep.cap;refine kC func155 rfl ntmps155 rfl s ?_;refine .sr<|.al jT Z λb2=>.ns<|.mv Z<|.cs (X:=Nat × Nat) EH Z (λW s=>aQ0 K hq h1 hkm hl (s.p3_3 [1,2,0] Z)) Z λz _=>.al wU Z λb3=>.sW .head Z Z wW h1 Z<|.ns<|.mv Z<|.mv Z<|.nC Z<|.fA Z nA<|.lD Z jI cP Z<|.mv Z<|.b2 (λh11=>?_) (λh11=>?_)
 ·subst h11;refine .gG<|.gG<|.gG<|.yw (.pickT Z Z)<|.nC Z<|.fA Z nA<|.st kP Z Z mU Z (nb Z) Z<|.ns<|.fA Z uG<|.yw (.loadS (vs:=[_,_,_,_]) Z dP Hm Z (aN5 Z))<|.sW mP Z Z gC (bU6 h1) Z<|.nt<|.rt<|?_
  refine y8 Z (.cell Z dP pY rfl) λW s=>?_;exact ⟨z,Jt,Z,s.p4_2 [1,2] rfl⟩
 subst h11;refine .gy (.fieldAddr Z DE)<|.gy (.load Z jI Hm Z)<|.gy (.not Z)<|.yw (.pickF Z Z)<|.nC Z<|.fA Z nA<|.st kP Z Z mU Z (nb Z) Z<|.ns<|.fA Z uG<|.yw (.loadS (vs:=[_,_,_,_]) Z dP Hm Z (aN5 Z))<|.sW mP Z Z gC (bU6 h1) Z<|.nt<|.rt<|?_
 refine y8 Z (.cell Z dP pY rfl) λW s=>?_;exact ⟨z,Jt,Z,s.p4_2 [1,2] rfl⟩
def fmC (tm:Bool) (enm:Str) (fs:List Value):List Value:=if tm then [.int .u8 4,cH (spA enm),cH (spB enm),.int .i64 0,.int .i64 0,.slice none 0 0,.slice none 0 0] else fs
theorem vX {b:Nat} {l:Tks} {rd dn:Bool} (K:Tkf H l tp tc) (hq:q.i<l.length) {tm wh:Bool} {eop:UInt8} {enm:Str} {e2 e3 f0 f1 f2 f3 f4 f5 f6:Value} (h1:∀ u∈[.bool tm,.bool wh,.int .u8 eop.toNat,cH enm,e2,e3,f0,f1,f2,f3,f4,f5,f6],u.oneCell'=true) (hen:enm.length<=1000000) (hkm:k<=600001) (hl:xr.length=k * 13) (s:St H w0 (.box b [.slice tp l.length tc,iN q.i,ro,rv,.bool rd,.bool dn,.bool bd,iN q.off,iN q.er] 102::.row 179 13 (rv) (k+1) (xr++[.bool tm,.bool wh,.int .u8 eop.toNat,cH enm,e2,e3,f0,f1,f2,f3,f4,f5,f6])::bs) W) :
 Calls prg 57 #[.pointer (some ⟨b,0,none⟩)] W λe W'=>∃ z:Nat × Nat,(True)/\e=.returned (.agg (fmC tm enm [f0,f1,f2,f3,f4,f5,f6]).toArray)/\St H w0 (.box b [.slice tp l.length tc,iN q.i,ro,(.slice (some ⟨z.1,0,none⟩) k z.2),.bool rd,.bool dn,.bool (bd || (tm && (!decide (eop=5) || (eJ enm).isNone))),iN q.off,iN q.er] 102::.row 179 13 (.slice (some ⟨z.1,0,none⟩) k z.2) (k) (xr)::bs) W':=by
 have hcap:=K.rep.cap;refine kC func57 rfl ntmps57 rfl s ?_;refine .sr<|.al dX Z λb2=>.ns<|.mv Z<|.cs (X:=Nat × Nat) EH Z (λW s=>aQ0 K hq h1 hkm hl (s.p3_3 [1,2,0] Z)) Z λz _=>.al wU Z λb3=>.sW .head Z Z wW h1 Z<|.nt<|.sq<|.sr<|.fA Z DE<|.lD Z jI Hm Z<|.yw (.not Z)<|.nt<|.cd Z (λh11=>?_) (λh11=>?_)
 ·have ht:tm=false:=by simpa using h11
  subst ht;refine .sr<|.fA Z MY<|.yw (.loadS (vs:=[_,_,_,_,_,_,_]) Z bZ Hm Z (aN5 Z))<|.sW mP Z Z cV (cA2 h1) Z<|.nt<|.rt<|.tR<|?_
  refine y8 Z (.cell Z bZ pY rfl) λW s=>?_;rw [aB,Bool.or_false];exact ⟨z,Jt,Z,s.p4_2 [1,2] rfl⟩
 have ht:tm=true:=by simpa using h11
 subst ht;refine .sk<|.tN<|.sr<|.fA Z uG<|.fA Z fV<|.lD Z cZ Hm Z<|.yw (.call OY Z λW s=>NJ enm (by omega) W)<|.mv Z<|.yw (.extract Z Z)<|.yw (.extract Z Z)<|.yw (.extract Z Z)<|.a Z Z<|.a Z Z<|.aq Z<|.sq<|.sr<|.fA Z uG<|.fA Z gQ<|.lD Z jR Hm Z<|.yw (.neq Z Z)<|.mv Z<|.b2 (λh26=>?_) (λh26=>?_)
 ·have e5:¬ eop=5:=λe=>by subst e;simp at h26
  have hb:(!decide (eop=5) || (eJ enm).isNone)=true:=by rw [aP e5];rfl
  refine .gG<|.gG<|.yw (.pickT Z Z)<|.nt<|.cT Z<|.rg<|.mv Z<|.nC Z<|.fA Z nA<|.st kP Z Z mU Z (nb Z) Z<|.ns<|.mv Z<|.mv Z<|.yw (.build Z (xB _ _ _))<|.sX mP Z Z cV Z<|.nt<|.rt<|?_
  refine y8 Z (.cell Z bZ pY rfl) λW s=>?_;rw [hb,aA,Bool.or_true];exact ⟨z,Jt,Z,s.p4_2 [1,2] rfl⟩
 have e5:eop=5:=aQ.1 (by have:=aN h26;show eop.toNat=5;omega);refine .gy (.move Z)<|.gy (.not Z)<|.yw (.pickF Z Z)<|.nt<|.cd Z (λh29=>?_) (λh29=>?_)
 ·have hb:(!decide (eop=5) || (eJ enm).isNone)=true:=by
   rw [aR e5];cases hs:eJ enm with
   | none=>rfl
   | some x=>rw [hs] at h29;cases h29
  refine .rg<|.mv Z<|.nC Z<|.fA Z nA<|.st kP Z Z mU Z (nb Z) Z<|.ns<|.mv Z<|.mv Z<|.yw (.build Z (xB _ _ _))<|.sX mP Z Z cV Z<|.nt<|.rt<|?_
  refine y8 Z (.cell Z bZ pY rfl) λW s=>?_;rw [hb,aA,Bool.or_true];exact ⟨z,Jt,Z,s.p4_2 [1,2] rfl⟩
 have hb:(!decide (eop=5) || (eJ enm).isNone)=false:=by
  rw [aR e5];cases hs:eJ enm with
  | some x=>rfl
  | none=>rw [hs] at h29;cases h29
 refine .sk<|.tN<|.sm Z<|.mv Z<|.yw (.build Z (xB _ _ _))<|.sX mP Z Z cV Z<|.nt<|.rt<|?_
 refine y8 Z (.cell Z bZ pY rfl) λW s=>?_;rw [hb,aA,Bool.or_false];exact ⟨z,Jt,Z,s.p4_2 [1,2] rfl⟩
variable {j:Nat} {v0 v1:Value} {xv:List Value}
theorem xO {b:Nat} {l:Tks} {rd dn:Bool} (K:Tkf H l tp tc) (hq:q.i<l.length) {v2 v3 v4 v5 v6 v7 v8 v9 va vb vc:Value} {os:List Value} (h1:∀ u∈[v0,v1,v2,v3,v4,v5,v6,v7,v8,v9,va,vb,vc],u.oneCell'=true) (hkm:k<=600001) (hjm:j<=600001) (hl:xr.length=k * 11) (s:St H w0 (.box b [.slice tp l.length tc,iN q.i,ro,rv,.bool rd,.bool dn,.bool bd,iN q.off,iN q.er] 102::.row 97 11 (ro) (k+1) (xr++os)::.row 179 13 (rv) (j) (xv)::bs) W) :
 Calls prg 156 #[.pointer (some ⟨b,0,none⟩),.agg [v0,v1,v2,v3,v4,v5,v6,v7,v8,v9,va,vb,vc].toArray] W λe W'=>∃ z:(Nat × Nat) × (Option Addr × Nat),(True)/\e=.returned (.tuple #[])/\St H w0 (.box b [.slice tp l.length tc,iN q.i,(.slice (some ⟨z.1.1,0,none⟩) k z.1.2),(.slice z.2.1 (j+1) z.2.2),.bool true,.bool dn,.bool bd,iN q.off,iN q.er] 102::.row 97 11 (.slice (some ⟨z.1.1,0,none⟩) k z.1.2) (k) (xr)::.row 179 13 (.slice z.2.1 (j+1) z.2.2) (j+1) (xv++[v0,v1,v2,v3,v4,v5,v6,v7,v8,v9,va,vb,vc])::bs) W':=by
 have hcap:=K.rep.cap;refine kC func156 rfl ntmps156 rfl s ?_;refine Sx.rowCase (size:=11) (k:=k+1) (r:=ro) (e:=97) cP (by omega) λg c e hkc=>?_;subst e;refine .sr<|.bx Z Z Z λb3=>.nt<|.sq<|.fL 12 [(0,0),(1,0),(2,0),(3,0),(4,0),(5,0),(6,0),(7,0),(8,0),(9,0),(10,0),(11,0)]<|.mv Z<|.mv Z<|.nC Z<|.fA Z iV<|.lD Z uT cP Z<|.mv Z<|.nC Z<|.fA Z iV<|.lD Z uT cP Z<|.yw (.lenSl CG Z)<|.yw (.sub Z Z (c:=((k:Nat):Int)) ((w6 (by omega)).trans (by omega)))<|.yw (.cutHi CG Z Z Z (by omega) (λq e=>by cases e;rfl))<|.fn (tl:=[_,_,_]) Z<|.nC Z<|.fA Z iV<|.st kP Z Z CI Z (nb Z) Z<|?_
 refine Sx.At.rcut (size:=11) (m:=k) (ys:=xr) mD (by omega) (by rw [<-hl,iI]) ?_;refine .nt<|.rg<|.mv Z<|.yw (.loadW Z wB Hm Z)<|.cs (X:=Option Addr × Nat) fR Z (λW s=>lS K hq h1 hjm (s.p4_4 [1,3,0,2] Z)) Z λz _=>.nl<|?_
 refine jA (.inr Z) rfl .nil rfl λW s=>⟨((g,c),z),Jt,Z,?_⟩;exact s.p4_3 [0,3,1] rfl
theorem lY:kR prg 95=some none:=by kernel_rfl
theorem wA:dI prg 57=true:=by kernel_rfl
theorem nB:dI prg 155=true:=by kernel_rfl
theorem cU:dY prg 35 6=some 6:=by kernel_rfl
theorem gP:dY prg 97 0=some 0:=by kernel_rfl
theorem zW:dY prg 97 3=some 3:=by kernel_rfl
theorem dK:dY prg 97 4=some 4:=by kernel_rfl
theorem CJ:hP prg 33=some 1:=by kernel_rfl
theorem ON:hP prg 97=some 11:=by kernel_rfl
theorem OL:pT prg 97=some
 [Go.Value.int Go.IntKind.u8 (Int.ofNat 0),Go.Value.int Go.IntKind.i64 (Int.ofNat 0),Go.Value.bool false,
  Go.Value.int Go.IntKind.u8 (Int.ofNat 0),Go.Value.int Go.IntKind.u8 (Int.ofNat 0),
  Go.Value.string { data:={ toList:=[] } },Go.Value.string { data:={ toList:=[] } },
  Go.Value.int Go.IntKind.i64 (Int.ofNat 0),Go.Value.int Go.IntKind.i64 (Int.ofNat 0),
  Go.Value.slice none 0 0,Go.Value.slice none 0 0]:=by kernel_rfl
theorem jH (x0:Bool) (x20 x21 x22 x23:Value):iJ prg 179 [(0,.bool x0),(2,.agg [x20,x21,x22,x23].toArray)]=some [.bool x0,.bool false,x20,x21,x22,x23,.int .u8 0,.string ⟨#[]⟩,.string ⟨#[]⟩,.int .i64 0,.int .i64 0,.slice none 0 0,.slice none 0 0]:=by kernel_rfl
theorem iS (x30 x31 x32 x33 x34 x35 x36:Value):iJ prg 179 [(3,.agg [x30,x31,x32,x33,x34,x35,x36].toArray)]=some [.bool false,.bool false,.int .u8 0,.string ⟨#[]⟩,.int .i64 0,.slice none 0 0,x30,x31,x32,x33,x34,x35,x36]:=by kernel_rfl
theorem SB (x0:Int) (x5p:Option Addr) (x5n x5c:Nat):iJ prg 35 [(0,.int .u8 x0),(5,.slice x5p x5n x5c)]=some [.int .u8 x0,.string ⟨#[]⟩,.string ⟨#[]⟩,.int .i64 0,.int .i64 0,.slice x5p x5n x5c,.slice none 0 0]:=by kernel_rfl
theorem AF (x0:Int) (x3p:Option Addr) (x3n x3c:Nat):iJ prg 76 [(0,.int .u8 x0),(3,.slice x3p x3n x3c)]=some [.int .u8 x0,.string ⟨#[]⟩,.int .i64 0,.slice x3p x3n x3c]:=by kernel_rfl
theorem MG (x00 x01 x02 x03 x10 x11 x12 x13:Value):yA prg 32 2 [(0,.agg [x00,x01,x02,x03].toArray),(1,.agg [x10,x11,x12,x13].toArray)]=some (76,[x00,x01,x02,x03,x10,x11,x12,x13]):=by kernel_rfl
theorem qH (x00 x01 x02 x03 x04 x05 x06:Value):yA prg 33 1 [(0,.agg [x00,x01,x02,x03,x04,x05,x06].toArray)]=some (35,[x00,x01,x02,x03,x04,x05,x06]):=by kernel_rfl
theorem YR (x00 x01 x02 x03 x04 x05 x06 x10 x11 x12 x13 x14 x15 x16:Value):yA prg 33 2 [(0,.agg [x00,x01,x02,x03,x04,x05,x06].toArray),(1,.agg [x10,x11,x12,x13,x14,x15,x16].toArray)]=some (35,[x00,x01,x02,x03,x04,x05,x06,x10,x11,x12,x13,x14,x15,x16]):=by kernel_rfl
variable {xo:List Value} {AR:List Res}
theorem Ops.inv {o:Ov} {r:List Ov} (h:Ops H (o::r) xo AR) (hk:o.kd≠5):∃ xr s1 s2,xo=xr++oC o s1 s2/\Ops H r xr AR/\FmR H o.f s1 s2:=by
 cases h with
 | cons h k f=>exact ⟨_,_,_,Z,h,f⟩
 | arg h k a b c z s=>exact absurd k hk
theorem VR.inv {v:Vl} {vs:List Vl} (h:VR H (v::vs) xv):∃ xr s0 s1 s2,xv=xr++vC v s0 s1 s2/\VR H vs xr/\VlR H v s0 s1 s2:=by
 cases h with
 | cons h k=>exact ⟨_,_,_,_,Z,h,k⟩
theorem bS1 (r:List Ov):CU r<=r.length:=List.length_filter_le ..
theorem EM {l:Tks} {c:Rq} {o:Ov} {r:List Ov} {x:Vb} {dn:Bool} (h:Fwf l ⟨c,o::r,x,true,dn⟩) (h0:0<o.lv):Fwf l ⟨c,r,vB o x,true,dn⟩:=by
 obtain ⟨r1,e,hr⟩:=h.op;cases r1 with
 | nil =>
  injection e with e1 e2
  subst e1;exact absurd h0 (by decide)
 | cons o1 r1 =>
  injection e with e1 e2
  subst e1;have ho:=hr _ (aY ..);have hv:=h.vs
  have hv':x.1.length=(if cnO o then 1 else 0)+CU r+1:=by
   have:x.1.length=CU (o::r)+1:=hv;rw [rV] at this;exact this
  have hl:=VG ho h0 (x:=x) (by rw [hv'];split <;> omega);refine ⟨h.i,⟨r1,e2,λz hz=>hr z (bT _ hz)⟩,?_,?_⟩
  ·show (vB o x).1.length=CU r+1;rw [hl,hv'];split <;> omega
  ·have:=h.so;show r.length<=c.i+1;have e3:(o::r).length<=c.i+1:=this;rw [aJ] at e3;omega
theorem oJ {l:Tks} {q:Ps} (h:Fwf l q) (hn:l.length<=600000):q.op.length<=600000/\q.x.1.length<=600001:=by
 have h1:=h.so;have h2:=h.i;have h3:=h.vs;have h4:=bS1 q.op;refine ⟨by omega,?_⟩;rw [h3]
 split <;> omega
theorem aA9 {o:Ov} {v:Vl} {V:List Vl} {b:Bool} (h:o.kd=10):vB o (v::V,b)=(tmv (.mk 9 [] 0 [v.e])::V,b || !v.tm):=by unfold vB;rw [aL h];rfl
theorem aX5 {o:Ov} {v u:Vl} {V:List Vl} {b:Bool} (h:o.kd=9):vB o (v::u::V,b)=(tmv (.mk o.op [] 0 [u.e,v.e])::V,b || !v.tm || !u.tm):=by
 unfold vB;rw [aG (by rw [h];decide),aL h];rfl
theorem aX6 {o:Ov} {v u:Vl} {V:List Vl} {b:Bool} (h:o.kd=8):vB o (v::u::V,b)=(fmv (.mk 3 [] [] 0 0 [.mk o.op [] 0 [u.e,v.e]] [])::V,b || !v.tm || !u.tm):=by
 unfold vB;rw [aG (by rw [h];decide),aG (by rw [h];decide),aL h];rfl
theorem aX7 {o:Ov} {v:Vl} {V:List Vl} {b:Bool} (h:o.kd=7):vB o (v::V,b)=(fmv (o.f.wAr [v.fm])::V,b || v.noF):=by
 unfold vB;rw [aG (by rw [h];decide),aG (by rw [h];decide),aG (by rw [h];decide),aL h];rfl
theorem aX8 {o:Ov} {v u:Vl} {V:List Vl} {b:Bool} (h:o.kd=6):vB o (v::u::V,b)=(fmv (o.f.wAr [u.fm,v.fm])::V,b || v.noF || u.noF):=by
 unfold vB;rw [aG (by rw [h];decide),aG (by rw [h];decide),aG (by rw [h];decide),aG (by rw [h];decide),aL h];rfl
theorem BA {α:Type} {l:List α} (h:1<=l.length):∃ a r,l=a::r:=by cases l with | nil=>cases h | cons a r=>exact ⟨a,r,rfl⟩
theorem aS1 {α:Type} {l:List α} (h:2<=l.length):∃ a b r,l=a::b::r:=by
 match l,h with
 | a::b::r,_=>exact ⟨a,b,r,Z⟩
variable {s1 s2:Value}
theorem HC {v:Vl} {s0:Value} (h:VlR H v s0 s1 s2):∃ t1 t2,fmC v.tm v.e.nm (cFm .u8 v.f.op v.f.nm v.f.fd v.f.a v.f.b s1 s2)=cFm .u8 v.fm.op v.fm.nm v.fm.fd v.fm.a v.fm.b t1 t2/\FmR H v.fm t1 t2:=by
 unfold fmC Vl.fm;cases v.tm with
 | true =>
  refine ⟨.slice none 0 0,.slice none 0 0,Z,FmR.zero rfl rfl ?_ ?_⟩
  ·show (spA v.e.nm).length<=1000000;have:=h.e.nm;unfold spA;rcases wG v.e.nm with ⟨i,_,hi,e⟩ | ⟨_,e⟩
   ·rw [e];show (v.e.nm.take i).length<=_;rw [fI];omega
   ·rw [e];exact aO _
  ·show (spB v.e.nm).length<=1000000;have:=h.e.nm;unfold spB;rcases wG v.e.nm with ⟨i,_,hi,e⟩ | ⟨_,e⟩
   ·rw [e];show (v.e.nm.drop (i+1)).length<=_;rw [cW];omega
   ·rw [e];exact aO _
 | false=>exact ⟨s1,s2,Z,h.f⟩
theorem Ops.inv2 {o:Ov} {r:List Ov} (h:Ops H (o::r) (xr++oC o s1 s2) AR) (hk:o.kd≠5):Ops H r xr AR/\FmR H o.f s1 s2:=by
 obtain ⟨xr',t1,t2,e,h1,h2⟩:=h.inv hk;obtain ⟨e1,e2⟩:=List.append_inj' e rfl;subst e1;simp only [fT,oH,true_and] at e2;obtain ⟨rfl,rfl⟩:=e2;exact ⟨h1,h2⟩
theorem tB {b:Nat} {l:Tks} {op:List Ov} {x:Vb} {dn:Bool} (K:Tkf H l tp tc) (Wq:Fwf l ⟨q,op,x,true,dn⟩) (S:Sq H ⟨q,op,x,true,dn⟩ xo xv AR) (lv:Nat) (hlv:1<=lv/\lv<=9) (s:St H w0 (.box b [.slice tp l.length tc,iN q.i,ro,rv,.bool true,.bool dn,.bool x.2,iN q.off,iN q.er] 102::.row 97 11 (ro) (op.length) (xo)::.row 179 13 (rv) (x.1.length) (xv)::(AR++bs)) W) :
 Calls prg 102 #[.pointer (some ⟨b,0,none⟩),iN lv] W (Get w0 bs b l tp tc H (jP lv ⟨q,op,x,true,dn⟩)):=by
 have hq:q.i<l.length:=Wq.i;have hcap:=K.rep.cap;refine kC func102 rfl ntmps102 rfl s ?_;refine .bk<|.lp (X:=(Hp × Value × Value × List Value × List Value) × List Ov × Vb) [(0,_),(1,_)] ⟨Z,Z,Jt⟩ ((AR++bs)) (λz=>[]) (λz=>z.1.1) (λz=>[.box b [.slice tp l.length tc,iN q.i,z.1.2.1,z.1.2.2.1,.bool true,.bool dn,.bool z.2.2.2,iN q.off,iN q.er] 102,.row 97 11 (z.1.2.1) (z.2.1.length) (z.1.2.2.2.1),.row 179 13 (z.1.2.2.1) (z.2.2.1.length) (z.1.2.2.2.2)]) (λz=>HUp w0 H z.1.1/\Sq z.1.1 ⟨q,z.2.1,z.2.2,true,dn⟩ z.1.2.2.2.1 z.1.2.2.2.2 AR/\Fwf l ⟨q,z.2.1,z.2.2,true,dn⟩/\wI lv z.2.1 z.2.2=wI lv op x) (λz=>z.2.1.length) ((H,ro,rv,xo,xv),op,x) (λ_ s=>s) trivial ⟨.refl,S,Wq,Z⟩ λz hC=>?_
 obtain ⟨⟨H1,ro1,rv1,xo1,xv1⟩,op1,x1⟩:=z;obtain ⟨u1,S1,W1,e1⟩:=hC;dsimp only at u1 S1 W1 e1|-;have K1:=K.up u1.up;obtain ⟨o,r,rfl⟩:=BA (l:=op1) (by have:=W1.ne;cases op1 with | nil=>exact absurd rfl this | cons a t=>exact Nat.succ_pos _);obtain ⟨hn1,hn2⟩:=oJ W1 K.few;try dsimp only [List.length_cons] at hn1 hn2
 obtain ⟨xr,s1,s2,e2,hlo,ho1,ho2⟩:=Ops.top S1.ops;try dsimp only at e2
 subst e2;refine Sx.rowCase (size:=11) (r:=ro1) (e:=97) cP (Nat.succ_pos _) λg c e hkc=>?_;try dsimp only [List.length_cons] at hkc
 subst e;refine .sq<|.sm Z<|.cs (X:=Unit) lW Z (λW s=>AQ K1 hq (g:=g) (k:=r.length) (c:=c) (by omega) (s.pickT (hd:=[_,_,_]) (tl:=(AR++bs)) (hd':=[_,_,_]) [0,1,2] Z Z)) Z λ_ _=>.nC Z<|.fA Z oO<|.yw (.loadR1 Z cS cP (kD hlo Z))<|.mv Z<|.yw (.geq Z Z)<|.nt<|.ce Z (λh17=>?_) (λh17=>?_)
 ·have hle:lv<=o.lv:=by omega
  have h0:0<o.lv:=by omega
  refine .sk<|.tN<|.bk<|.sm Z<|.cs (X:=Unit) lW Z (λW s=>AQ K1 hq (g:=g) (k:=r.length) (c:=c) (by omega) (s.pickT (hd:=[_,_,_]) (tl:=(AR++bs)) (hd':=[_,_,_]) [0,1,2] Z Z)) Z λ_ _=>.nC Z<|.yw (.loadR (vs:=oC o s1 s2) Z yU cP Z (λj u h=>kD hlo h))<|.al OL Z λb4=>.sW .head Z Z ON (bO5 ho1 ho2) Z<|.nt<|.sq<|.fL 12 [(0,0),(1,0),(2,0),(3,0),(4,0),(5,0),(6,0),(7,0),(8,0),(9,0),(10,0),(11,0)]<|.mv Z<|.mv Z<|.nC Z<|.fA Z iV<|.lD Z uT cP Z<|.mv Z<|.nC Z<|.fA Z iV<|.lD Z uT cP Z<|.yw (.lenSl CG Z)<|.yw (.sub Z Z (c:=((r.length:Nat):Int)) ((w6 (by omega)).trans (by omega)))<|.yw (.cutHi CG Z Z Z (by omega) (λq e=>by cases e;rfl))<|.fn (tl:=[_,_,_]) Z<|.nC Z<|.fA Z iV<|.st kP Z Z CI Z (nb Z) Z<|?_
  refine Sx.At.rcut (size:=11) (m:=r.length) (ys:=xr) mD (Nat.le_succ _) (by rw [<-hlo,iI]) ?_;refine .ns<|.fA Z gP<|.lD Z lY Hm Z<|.nt<|.bk<|.sr<|.yw (.eql Z Z)<|.aq Z<|.ce Z (λh38=>?_) (λh38=>?_)
  ·have hk:o.kd=10:=aQ.1 (by show o.kd.toNat=10;omega);have hk5:o.kd≠5:=by rw [hk];decide
   have hv1:1<=x1.1.length:=by have:=W1.vs;dsimp only at this;rw [this];exact Nat.le_add_left _ _
   obtain ⟨vs,bd⟩:=x1;try dsimp only at hv1 hn2
   obtain ⟨v,V,rfl⟩:=BA hv1;obtain ⟨yr,t0,t1,t2,e4,VS1,V1⟩:=VR.inv S1.vls;try dsimp only at e4
   subst e4;have l1:=VS1.len;try dsimp only [List.length_cons] at hn2
   refine .sm Z<|.cs (X:=Nat × Nat) nB Z (λW s=>xW K1 hq V1.one (by omega) l1 (s.pickT (hd:=[_,_,_,_]) (tl:=(AR++bs)) (hd':=[_,_,_,_]) [1,3,0,2] Z Z)) Z λp1 _=>.al jT Z λb5=>.sW .head Z Z gC (by intro u hu;exact Rep.one V1.e.rep u hu) Z<|.nt<|.rg<|.mv Z<|.yw (.loadW Z dP Hm Z)<|.bl Z (nE _ _ _ _) Z λb44=>?_
   refine Sx.freezeBoxN λH2 u2 m2=>?_;refine .yw (.build Z (AF _ _ _ _))<|.yw (.build Z (jH _ _ _ _ _))<|?_
   have VN:VlR H2 (tmv (.mk 9 [] 0 [v.e])) (.slice (some ⟨b44,0,none⟩) 1 1) (.slice none 0 0) (.slice none 0 0):=⟨⟨(Rep.mk m2 (.single (V1.e.up u2.up).rep rfl) rfl (aX _) (by decide)),aO _⟩,FmR.zero rfl rfl (aO _) (aO _)⟩;exact .cs (X:=Option Addr × Nat) fR Z (λW s=>lS (K1.up u2.up) hq VN.one (by omega) (s.pickT (hd:=[_,_,_,_,_]) (tl:=(AR++bs)) (hd':=[_,_,_,_,_]) [1,2,0,3,4] Z Z)) Z λp9 _=>.nl<|.bN<|.bN<|.tN<|.ag (x:=((H1,Value.slice (some ⟨g,0,none⟩) (o::r).length c,rv1,xr++oC o s1 s2,yr++vC v t0 t1 t2),o::r,(v::V,bd))) (((H2,Value.slice (some ⟨g,0,none⟩) r.length c,Value.slice p9.1 (V.length+1) p9.2,xr,yr++vC (tmv (.mk 9 [] 0 [v.e])) (.slice (some ⟨b44,0,none⟩) 1 1) (.slice none 0 0) (.slice none 0 0)),r,(tmv (.mk 9 [] 0 [v.e])::V,bd || !v.tm))) trivial ⟨rfl,rfl,trivial⟩ (λ_ s=>(s.pickT (hd:=[_,_,_,_,_]) (tl:=(AR++bs)) (hd':=[_,_,_]) [0,4,1] Z Z)) ⟨u1.trans u2,⟨(Ops.inv2 S1.ops hk5).1.up u2.up,.cons (VS1.up u2.up) VN⟩,(by rw [<-aA9 hk];exact EM W1 h0),(by rw [<-aA9 hk,<-e1,wI,aL hle])⟩ (cO _)
  have hk10:¬ o.kd=10:=λe=>by rw [e] at h38;exact h38 rfl
  refine .sq<|.sr<|.yw (.eql Z Z)<|.aq Z<|.cr Z (λh48=>?_) (λh48=>?_)
  ·try simp only [dt] at h48
   have hk:o.kd=9:=aQ.1 (by show o.kd.toNat=9;omega);have hk5:o.kd≠5:=by rw [hk];decide
   have hv1:2<=x1.1.length:=by have:=W1.vs;dsimp only at this;rw [this,rV,show cnO o=true by unfold cnO;rw [hk];decide];simp only [bS];omega
   obtain ⟨vs,bd⟩:=x1;try dsimp only at hv1 hn2
   obtain ⟨v,u,V,rfl⟩:=aS1 hv1;obtain ⟨yr,t0,t1,t2,e4,VS1,V1⟩:=VR.inv S1.vls;try dsimp only at e4
   subst e4;have l1:=VS1.len;obtain ⟨yr2,w0_,w1,w2,e5,VS2,V2⟩:=VR.inv VS1;subst e5;have l2:=VS2.len;try dsimp only [List.length_cons] at hn2 l1
   refine .sk<|.tN<|.cT Z<|.sm Z<|.cs (X:=Nat × Nat) nB Z (λW s=>xW K1 hq V1.one (by omega) l1 (s.pickT (hd:=[_,_,_,_]) (tl:=(AR++bs)) (hd':=[_,_,_,_]) [1,3,0,2] Z Z)) Z λp1 _=>.mv Z<|.cs (X:=Nat × Nat) nB Z (λW s=>xW K1 hq V2.one (by omega) l2 (s.pickT (hd:=[_,_,_,_]) (tl:=(AR++bs)) (hd':=[_,_,_,_]) [0,1,2,3] Z Z)) Z λp2 _=>.al jT Z λb6=>.al jT Z λb7=>.sW kP Z Z gC (by intro a ha;exact Rep.one V1.e.rep a ha) Z<|.sW .head Z Z gC (by intro a ha;exact Rep.one V2.e.rep a ha) Z<|.ns<|.fA Z zW<|.lD Z jR uZ Z<|.yw (.loadW Z dP Hm Z)<|.yw (.loadW Z dP cP Z)<|.bl Z (MG _ _ _ _ _ _ _ _) Z λb59=>?_
   refine Sx.freezeBoxN λH2 u2 m2=>?_;refine .yw (.build Z (AF _ _ _ _))<|.al jT Z λb8=>.sX .head Z Z gC Z<|.ns<|.fA Z gP<|.lD Z lY aF5 Z<|.yw (.eql Z Z)<|.nt<|.cd Z (λh63=>?_) (λh63=>?_)
   ·try simp only [dt] at h63
    refine .rg<|.mv Z<|.yw (.loadW Z dP Hm Z)<|.yw (.build Z (jH _ _ _ _ _))<|?_
    have VN:VlR H2 (tmv (.mk o.op [] 0 [u.e,v.e])) (.slice (some ⟨b59,0,none⟩) 2 2) (.slice none 0 0) (.slice none 0 0):=⟨⟨(Rep.mk m2 (.app (.single (V2.e.up u2.up).rep rfl) (.single (V1.e.up u2.up).rep rfl)) rfl (aX _) (by decide)),aO _⟩,FmR.zero rfl rfl (aO _) (aO _)⟩;exact .cs (X:=Option Addr × Nat) fR Z (λW s=>lS (K1.up u2.up) hq VN.one (by omega) (s.pickT (hd:=[_,_,_,_,_,_,_]) (tl:=(AR++bs)) (hd':=[_,_,_,_,_,_,_]) [3,4,0,1,2,5,6] Z Z)) Z λp9 _=>.nl<|.bN<|.bN<|.tN<|.ag (x:=((H1,Value.slice (some ⟨g,0,none⟩) (o::r).length c,rv1,xr++oC o s1 s2,(yr2++vC u w0_ w1 w2)++vC v t0 t1 t2),o::r,(v::u::V,bd))) (((H2,Value.slice (some ⟨g,0,none⟩) r.length c,Value.slice p9.1 (V.length+1) p9.2,xr,yr2++vC (tmv (.mk o.op [] 0 [u.e,v.e])) (.slice (some ⟨b59,0,none⟩) 2 2) (.slice none 0 0) (.slice none 0 0)),r,(tmv (.mk o.op [] 0 [u.e,v.e])::V,bd || !v.tm || !u.tm))) trivial ⟨rfl,rfl,trivial⟩ (λ_ s=>(s.pickT (hd:=[_,_,_,_,_,_,_]) (tl:=(AR++bs)) (hd':=[_,_,_]) [0,6,1] Z Z)) ⟨u1.trans u2,⟨(Ops.inv2 S1.ops hk5).1.up u2.up,.cons (VS2.up u2.up) VN⟩,(by rw [<-aX5 hk];exact EM W1 h0),(by rw [<-aX5 hk,<-e1,wI,aL hle])⟩ (cO _)
   exact absurd (by rw [hk];rfl) (aN h63)
  try simp only [df] at h48
  have hk9:¬ o.kd=9:=λe=>by rw [e] at h48;exact h48 rfl
  refine .rg<|.yw (.eql Z Z)<|.aq Z<|.cr Z (λh48=>?_) (λh48=>?_)
  ·try simp only [dt] at h48
   have hk:o.kd=8:=aQ.1 (by show o.kd.toNat=8;omega);have hk5:o.kd≠5:=by rw [hk];decide
   have hv1:2<=x1.1.length:=by have:=W1.vs;dsimp only at this;rw [this,rV,show cnO o=true by unfold cnO;rw [hk];decide];simp only [bS];omega
   obtain ⟨vs,bd⟩:=x1;try dsimp only at hv1 hn2
   obtain ⟨v,u,V,rfl⟩:=aS1 hv1;obtain ⟨yr,t0,t1,t2,e4,VS1,V1⟩:=VR.inv S1.vls;try dsimp only at e4
   subst e4;have l1:=VS1.len;obtain ⟨yr2,w0_,w1,w2,e5,VS2,V2⟩:=VR.inv VS1;subst e5;have l2:=VS2.len;try dsimp only [List.length_cons] at hn2 l1
   refine .sm Z<|.cs (X:=Nat × Nat) nB Z (λW s=>xW K1 hq V1.one (by omega) l1 (s.pickT (hd:=[_,_,_,_]) (tl:=(AR++bs)) (hd':=[_,_,_,_]) [1,3,0,2] Z Z)) Z λp1 _=>.mv Z<|.cs (X:=Nat × Nat) nB Z (λW s=>xW K1 hq V2.one (by omega) l2 (s.pickT (hd:=[_,_,_,_]) (tl:=(AR++bs)) (hd':=[_,_,_,_]) [0,1,2,3] Z Z)) Z λp2 _=>.al jT Z λb6=>.al jT Z λb7=>.sW kP Z Z gC (by intro a ha;exact Rep.one V1.e.rep a ha) Z<|.sW .head Z Z gC (by intro a ha;exact Rep.one V2.e.rep a ha) Z<|.ns<|.fA Z zW<|.lD Z jR uZ Z<|.yw (.loadW Z dP Hm Z)<|.yw (.loadW Z dP cP Z)<|.bl Z (MG _ _ _ _ _ _ _ _) Z λb59=>?_
   refine Sx.freezeBoxN λH2 u2 m2=>?_;refine .yw (.build Z (AF _ _ _ _))<|.al jT Z λb8=>.sX .head Z Z gC Z<|.ns<|.fA Z gP<|.lD Z lY aF5 Z<|.yw (.eql Z Z)<|.nt<|.cd Z (λh63=>?_) (λh63=>?_)
   ·exact absurd (aH h63) (by rw [hk];decide)
   try simp only [df] at h63
   refine .rg<|.mv Z<|.yw (.loadW Z dP Hm Z)<|.bl Z (nE _ _ _ _) Z λb70=>?_
   refine Sx.freezeBoxN λH3 u3 m3=>?_;refine .yw (.build Z (SB _ _ _ _))<|.yw (.build Z (iS _ _ _ _ _ _ _))<|?_
   have RX:ExR H2 (.mk o.op [] 0 [u.e,v.e]) (.slice (some ⟨b59,0,none⟩) 2 2):=⟨(Rep.mk m2 (.app (.single (V2.e.up u2.up).rep rfl) (.single (V1.e.up u2.up).rep rfl)) rfl (aX _) (by decide)),aO _⟩;have VN:VlR H3 (fmv (.mk 3 [] [] 0 0 [.mk o.op [] 0 [u.e,v.e]] [])) (.slice none 0 0) (.slice (some ⟨b70,0,none⟩) 1 1) (.slice none 0 0):=⟨ExR.zero rfl (aO _),⟨(Rep.mk m3 (.single (RX.up u3.up).rep rfl) rfl (aX _) (by decide)),Rep.nil4,aO _,aO _⟩⟩;exact .cs (X:=Option Addr × Nat) fR Z (λW s=>lS ((K1.up u2.up).up u3.up) hq VN.one (by omega) (s.pickT (hd:=[_,_,_,_,_,_,_]) (tl:=(AR++bs)) (hd':=[_,_,_,_,_,_,_]) [3,4,0,1,2,5,6] Z Z)) Z λp9 _=>.nl<|.bN<|.bN<|.tN<|.ag (x:=((H1,Value.slice (some ⟨g,0,none⟩) (o::r).length c,rv1,xr++oC o s1 s2,(yr2++vC u w0_ w1 w2)++vC v t0 t1 t2),o::r,(v::u::V,bd))) (((H3,Value.slice (some ⟨g,0,none⟩) r.length c,Value.slice p9.1 (V.length+1) p9.2,xr,yr2++vC (fmv (.mk 3 [] [] 0 0 [.mk o.op [] 0 [u.e,v.e]] [])) (.slice none 0 0) (.slice (some ⟨b70,0,none⟩) 1 1) (.slice none 0 0)),r,(fmv (.mk 3 [] [] 0 0 [.mk o.op [] 0 [u.e,v.e]] [])::V,bd || !v.tm || !u.tm))) trivial ⟨rfl,rfl,trivial⟩ (λ_ s=>(s.pickT (hd:=[_,_,_,_,_,_,_]) (tl:=(AR++bs)) (hd':=[_,_,_]) [0,6,1] Z Z)) ⟨u1.trans (u2.trans u3),⟨(Ops.inv2 S1.ops hk5).1.up (u2.trans u3).up,.cons (VS2.up (u2.trans u3).up) VN⟩,(by rw [<-aX6 hk];exact EM W1 h0),(by rw [<-aX6 hk,<-e1,wI,aL hle])⟩ (cO _)
  try simp only [df] at h48
  have hk8:¬ o.kd=8:=λe=>by rw [e] at h48;exact h48 rfl
  refine .sr<|.yw (.eql Z Z)<|.aq Z<|.ce Z (λh74=>?_) (λh74=>?_)
  ·have hk:o.kd=7:=aQ.1 (by show o.kd.toNat=7;omega);have hk5:o.kd≠5:=by rw [hk];decide
   have hv1:1<=x1.1.length:=by have:=W1.vs;dsimp only at this;rw [this];exact Nat.le_add_left _ _
   obtain ⟨vs,bd⟩:=x1;try dsimp only at hv1 hn2
   obtain ⟨v,V,rfl⟩:=BA hv1;obtain ⟨yr,t0,t1,t2,e4,VS1,V1⟩:=VR.inv S1.vls;try dsimp only at e4
   subst e4;have l1:=VS1.len;try dsimp only [List.length_cons] at hn2
   refine .sm Z<|.cs (X:=Nat × Nat) wA Z (λW s=>vX K1 hq V1.one V1.e.nm (by omega) l1 (s.pickT (hd:=[_,_,_,_]) (tl:=(AR++bs)) (hd':=[_,_,_,_]) [1,3,0,2] Z Z)) Z λp1 _=>?_
   obtain ⟨q1,q2,ef,FR⟩:=HC V1;rw [ef];refine .bl Z (qH _ _ _ _ _ _ _) Z λb78=>?_;refine Sx.freezeBoxN λH2 u2 m2=>?_;refine .fA Z dK<|.fA Z cU<|.st mD Z Z CJ Z (nb Z) Z<|.nt<|.rg<|.mv Z<|.fA Z dK<|.yw (.loadS (vs:=[_,_,_,_,_,_,_]) Z bZ lR Z (aN5 Z))<|.yw (.build Z (iS _ _ _ _ _ _ _))<|?_
   have FO:=(Ops.inv2 S1.ops hk5).2;have VN:VlR H2 (fmv (o.f.wAr [v.fm])) (.slice none 0 0) s1 (.slice (some ⟨b78,0,none⟩) 1 1):=⟨ExR.zero rfl (aO _),⟨FO.ex.up u2.up,(Rep.mk m2 (.single (FR.up u2.up).rep rfl) rfl (aX _) (by decide)),FO.nm,FO.fd⟩⟩;exact .cs (X:=Option Addr × Nat) fR Z (λW s=>lS (K1.up u2.up) hq VN.one (by omega) (s.pickT (hd:=[_,_,_,_]) (tl:=(AR++bs)) (hd':=[_,_,_,_]) [0,1,2,3] Z Z)) Z λp9 _=>.nl<|.bN<|.bN<|.tN<|.ag (x:=((H1,Value.slice (some ⟨g,0,none⟩) (o::r).length c,rv1,xr++oC o s1 s2,yr++vC v t0 t1 t2),o::r,(v::V,bd))) (((H2,Value.slice (some ⟨g,0,none⟩) r.length c,Value.slice p9.1 (V.length+1) p9.2,xr,yr++vC (fmv (o.f.wAr [v.fm])) (.slice none 0 0) s1 (.slice (some ⟨b78,0,none⟩) 1 1)),r,(fmv (o.f.wAr [v.fm])::V,bd || v.noF))) trivial ⟨rfl,rfl,trivial⟩ (λ_ s=>(s.pickT (hd:=[_,_,_,_]) (tl:=(AR++bs)) (hd':=[_,_,_]) [0,3,1] Z Z)) ⟨u1.trans u2,⟨(Ops.inv2 S1.ops hk5).1.up u2.up,.cons (VS1.up u2.up) VN⟩,(by rw [<-aX7 hk];exact EM W1 h0),(by rw [<-aX7 hk,<-e1,wI,aL hle])⟩ (cO _)
  have hk7:¬ o.kd=7:=λe=>by rw [e] at h74;exact h74 rfl
  refine .sr<|.yw (.eql Z Z)<|.aq Z<|.cd Z (λh86=>?_) (λh86=>?_)
  ·try simp only [dt] at h86
   have hk:o.kd=6:=aQ.1 (by show o.kd.toNat=6;omega);have hk5:o.kd≠5:=by rw [hk];decide
   have hv1:2<=x1.1.length:=by have:=W1.vs;dsimp only at this;rw [this,rV,show cnO o=true by unfold cnO;rw [hk];decide];simp only [bS];omega
   obtain ⟨vs,bd⟩:=x1;try dsimp only at hv1 hn2
   obtain ⟨v,u,V,rfl⟩:=aS1 hv1;obtain ⟨yr,t0,t1,t2,e4,VS1,V1⟩:=VR.inv S1.vls;try dsimp only at e4
   subst e4;have l1:=VS1.len;obtain ⟨yr2,w0_,w1,w2,e5,VS2,V2⟩:=VR.inv VS1;subst e5;have l2:=VS2.len;try dsimp only [List.length_cons] at hn2 l1
   refine .sm Z<|.cs (X:=Nat × Nat) wA Z (λW s=>vX K1 hq V1.one V1.e.nm (by omega) l1 (s.pickT (hd:=[_,_,_,_]) (tl:=(AR++bs)) (hd':=[_,_,_,_]) [1,3,0,2] Z Z)) Z λp1 _=>?_
   obtain ⟨q1,q2,ef,FR⟩:=HC V1;rw [ef];refine .mv Z<|.cs (X:=Nat × Nat) wA Z (λW s=>vX K1 hq V2.one V2.e.nm (by omega) l2 (s.pickT (hd:=[_,_,_,_]) (tl:=(AR++bs)) (hd':=[_,_,_,_]) [0,1,2,3] Z Z)) Z λp2 _=>?_
   obtain ⟨q3,q4,ef2,FR2⟩:=HC V2;rw [ef2];refine .al dX Z λb9=>.al dX Z λb10=>.sW kP Z Z cV (by intro a ha;exact Rep.one FR.rep a ha) Z<|.sW .head Z Z cV (by intro a ha;exact Rep.one FR2.rep a ha) Z<|.ns<|.yw (.loadW Z bZ Hm Z)<|.yw (.loadW Z bZ cP Z)<|.bl Z (YR _ _ _ _ _ _ _ _ _ _ _ _ _ _) Z λb94=>?_
   refine Sx.freezeBoxN λH2 u2 m2=>?_;refine .fA Z dK<|.fA Z cU<|.st WE Z Z CJ Z (nb Z) Z<|.nt<|.rg<|.mv Z<|.fA Z dK<|.yw (.loadS (vs:=[_,_,_,_,_,_,_]) Z bZ uZ Z (aN5 Z))<|.yw (.build Z (iS _ _ _ _ _ _ _))<|?_
   have FO:=(Ops.inv2 S1.ops hk5).2;have VN:VlR H2 (fmv (o.f.wAr [u.fm,v.fm])) (.slice none 0 0) s1 (.slice (some ⟨b94,0,none⟩) 2 2):=⟨ExR.zero rfl (aO _),⟨FO.ex.up u2.up,(Rep.mk m2 (.app (.single (FR2.up u2.up).rep rfl) (.single (FR.up u2.up).rep rfl)) rfl (aX _) (by decide)),FO.nm,FO.fd⟩⟩;exact .cs (X:=Option Addr × Nat) fR Z (λW s=>lS (K1.up u2.up) hq VN.one (by omega) (s.pickT (hd:=[_,_,_,_,_,_]) (tl:=(AR++bs)) (hd':=[_,_,_,_,_,_]) [2,3,0,1,4,5] Z Z)) Z λp9 _=>.nl<|.bN<|.bN<|.tN<|.ag (x:=((H1,Value.slice (some ⟨g,0,none⟩) (o::r).length c,rv1,xr++oC o s1 s2,(yr2++vC u w0_ w1 w2)++vC v t0 t1 t2),o::r,(v::u::V,bd))) (((H2,Value.slice (some ⟨g,0,none⟩) r.length c,Value.slice p9.1 (V.length+1) p9.2,xr,yr2++vC (fmv (o.f.wAr [u.fm,v.fm])) (.slice none 0 0) s1 (.slice (some ⟨b94,0,none⟩) 2 2)),r,(fmv (o.f.wAr [u.fm,v.fm])::V,bd || v.noF || u.noF))) trivial ⟨rfl,rfl,trivial⟩ (λ_ s=>(s.pickT (hd:=[_,_,_,_,_,_]) (tl:=(AR++bs)) (hd':=[_,_,_]) [0,5,1] Z Z)) ⟨u1.trans u2,⟨(Ops.inv2 S1.ops hk5).1.up u2.up,.cons (VS2.up u2.up) VN⟩,(by rw [<-aX8 hk];exact EM W1 h0),(by rw [<-aX8 hk,<-e1,wI,aL hle])⟩ (cO _)
  exact absurd ((aQ5 (by obtain ⟨r1,e7,hr1⟩:=W1.op;cases r1 with | nil=>(injection e7 with e7 _;subst e7;exact absurd h0 (by decide)) | cons a r1=>(injection e7 with e7 _;subst e7;exact hr1 _ (aY ..)))).2 h0) (by rintro (e | e | e | e | e) <;> first | exact hk10 e | exact hk9 e | exact hk8 e | exact hk7 e | exact (aN h86) (by rw [e];rfl))
 have e6:jP lv ⟨q,op,x,true,dn⟩=⟨q,o::r,x1,true,dn⟩:=by unfold jP;dsimp only;rw [<-e1,wI,aG (show ¬ lv<=o.lv by omega)]
 refine .ex<|.tE<|.tE<|.bE<|?_
 refine jA (.inr Z) rfl .nil rfl λW s=>?_;rw [e6];exact ⟨(H1,_,rv1,_,xv1,AR),⟨u1,S1⟩,Z,s.pickT (hd:=[_,_,_]) (tl:=(AR++bs)) (hd':=[_,_,_]) [0,1,2] rfl rfl⟩
theorem fZ:dI prg 109=true:=by kernel_rfl
theorem wZ:dI prg 112=true:=by kernel_rfl
theorem EF:dI prg 154=true:=by kernel_rfl
theorem EE:dI prg 157=true:=by kernel_rfl
theorem oQ (x0:Int):iJ prg 35 [(0,.int .u8 x0)]=some [.int .u8 x0,.string ⟨#[]⟩,.string ⟨#[]⟩,.int .i64 0,.int .i64 0,.slice none 0 0,.slice none 0 0]:=by kernel_rfl
theorem YU (x1:ByteArray):iJ prg 35 [(1,.string x1)]=some [.int .u8 0,.string x1,.string ⟨#[]⟩,.int .i64 0,.int .i64 0,.slice none 0 0,.slice none 0 0]:=by kernel_rfl
theorem vS (x0:Int) (x1:ByteArray):iJ prg 76 [(0,.int .u8 x0),(1,.string x1)]=some [.int .u8 x0,.string x1,.int .i64 0,.slice none 0 0]:=by kernel_rfl
theorem jG (x0 x1:Int) (x40 x41 x42 x43 x44 x45 x46:Value):iJ prg 97 [(0,.int .u8 x0),(1,.int .i64 x1),(4,.agg [x40,x41,x42,x43,x44,x45,x46].toArray)]=some [.int .u8 x0,.int .i64 x1,.bool false,.int .u8 0,x40,x41,x42,x43,x44,x45,x46]:=by kernel_rfl
theorem HV (x0:Int) (x2:Bool) (x3:Int) (x40 x41 x42 x43 x44 x45 x46:Value):iJ prg 97 [(0,.int .u8 x0),(2,.bool x2),(3,.int .u8 x3),(4,.agg [x40,x41,x42,x43,x44,x45,x46].toArray)]=some [.int .u8 x0,.int .i64 0,.bool x2,.int .u8 x3,x40,x41,x42,x43,x44,x45,x46]:=by kernel_rfl
theorem xA (x0:Int) (x2:Bool) (x40 x41 x42 x43 x44 x45 x46:Value):iJ prg 97 [(0,.int .u8 x0),(2,.bool x2),(4,.agg [x40,x41,x42,x43,x44,x45,x46].toArray)]=some [.int .u8 x0,.int .i64 0,.bool x2,.int .u8 0,x40,x41,x42,x43,x44,x45,x46]:=by kernel_rfl
theorem RZ (x0:Int) (x40 x41 x42 x43 x44 x45 x46:Value):iJ prg 97 [(0,.int .u8 x0),(4,.agg [x40,x41,x42,x43,x44,x45,x46].toArray)]=some [.int .u8 x0,.int .i64 0,.bool false,.int .u8 0,x40,x41,x42,x43,x44,x45,x46]:=by kernel_rfl
def cB5 (w0:World) (bs:List Res) (b:Nat) (l:Tks) (tp:Option Addr) (tc:Nat) (H:Hp) (v:Value) (q:Ps) (e:Ending) (W:World):Prop :=
 ∃ z:Hp × Value × Value × List Value × List Value × List Res,(HUp w0 H z.1/\Sq z.1 q z.2.2.2.1 z.2.2.2.2.1 z.2.2.2.2.2)/\e=.returned v/\StP z.1 w0 bs W b l tp tc q z.2.1 z.2.2.1 z.2.2.2.1 z.2.2.2.2.1 z.2.2.2.2.2
theorem Ops.tm {op:List Ov} (h:Ops H op xo AR) (hn:op≠[]):∃ k1,op.length=k1+1/\xo[k1 * 11+2]? = some (.bool (op.headD bO).tm):=by
 cases op with
 | nil=>exact absurd rfl hn
 | cons o r =>
  obtain ⟨xr,s1,s2,e,hl,_⟩:=h.top;subst e;exact ⟨r.length,Z,kD hl rfl⟩
set_option maxHeartbeats 1000000 in
theorem aP8 {b:Nat} {l:Tks} {op:List Ov} {x:Vb} {dn:Bool} (K:Tkf H l tp tc) (Wq:Fwf l ⟨q,op,x,false,dn⟩) (S:Sq H ⟨q,op,x,false,dn⟩ xo xv AR) (s:St H w0 (.box b [.slice tp l.length tc,iN q.i,ro,rv,.bool false,.bool dn,.bool x.2,iN q.off,iN q.er] 102::.row 97 11 (ro) (op.length) (xo)::.row 179 13 (rv) (x.1.length) (xv)::(AR++bs)) W) :
 Calls prg 106 #[.pointer (some ⟨b,0,none⟩)] W (cB5 w0 bs b l tp tc H (.bool (mJ l ⟨q,op,x,false,dn⟩).isSome) ((mJ l ⟨q,op,x,false,dn⟩).getD ⟨q,op,x,false,dn⟩)):=by
 have hq:q.i<l.length:=Wq.i;have hne:op≠[]:=Wq.ne;obtain ⟨hn1,hn2⟩:=oJ Wq K.few;dsimp only at hn1 hn2;have hcap:=K.rep.cap;refine kC func106 rfl ntmps106 rfl s ?_;refine .sr<|.a Z Z<|.ns<|.al dX Z λb3=>.nt<|.sq<|.bk<|.sm Z<|.cs (X:=Unit) dH Z (λW s=>eI K hq [110,111,116] (s.pickT (hd:=[_,_,_,_]) (tl:=(AR++bs)) (hd':=[_,_,_,_]) [1,0,2,3] Z Z)) Z λ_ _=>.aq Z<|.cd Z (λh4=>?_) (λh4=>?_)
 ·have a4:Rq.ac l [110,111,116] q=true:=h4;rw [kO a4];refine .rg<|.yw (.build Z (oQ _))<|.sX kP Z Z cV Z<|.nl<|.bN<|.tN<|.sm Z<|.yw (.loadW Z bZ cP Z)<|.yw (.build Z (jG _ _ _ _ _ _ _ _ _))<|.cs (X:=Option Addr × Nat) fZ Z (λW s=>mK K (dC K.gd.last hq a4) (by simp [Value.oneCell',cH]) (bD hn1 (by decide)) (λ_=>S.ops.tm hne) (s.pickT (hd:=[_,_,_,_]) (tl:=(AR++bs)) (hd':=[_,_,_,_]) [0,2,1,3] Z Z)) Z λp9 _=>.ns<|.az Z<|?_
  refine y9 Z Z λW s=>?_;rw [zH (q:=⟨q,op,x,false,dn⟩) (op:=8) a4 (by decide)];exact ⟨(_,_,_,_,_,AR),⟨.refl,⟨.cons S.ops (by show ¬ (7:UInt8)=5;decide) (FmR.zero rfl rfl (aO _) (aO _)),S.vls⟩⟩,Z,s.pickT (hd:=[_,_,_,_]) (tl:=(AR++bs)) (hd':=[_,_,_]) [0,1,3] rfl rfl⟩
 have a4:Rq.ac l [110,111,116] q=false:=h4;rw [kT a4];refine .sm Z<|.cs (X:=Unit) dH Z (λW s=>eI K hq [112,114,101,118,105,111,117,115] (s.pickT (hd:=[_,_,_,_]) (tl:=(AR++bs)) (hd':=[_,_,_,_]) [0,1,2,3] Z Z)) Z λ_ _=>.aq Z<|.cd Z (λh8=>?_) (λh8=>?_)
 ·have a8:Rq.ac l [112,114,101,118,105,111,117,115] q=true:=h8;rw [kO a8];refine .rg<|.yw (.build Z (oQ _))<|.sX kP Z Z cV Z<|.nl<|.bN<|.tN<|.sm Z<|.yw (.loadW Z bZ cP Z)<|.yw (.build Z (jG _ _ _ _ _ _ _ _ _))<|.cs (X:=Option Addr × Nat) fZ Z (λW s=>mK K (dC K.gd.last hq a8) (by simp [Value.oneCell',cH]) (bD hn1 (by decide)) (λ_=>S.ops.tm hne) (s.pickT (hd:=[_,_,_,_]) (tl:=(AR++bs)) (hd':=[_,_,_,_]) [0,2,1,3] Z Z)) Z λp9 _=>.ns<|.az Z<|?_
  refine y9 Z Z λW s=>?_;rw [zH (q:=⟨q,op,x,false,dn⟩) (op:=12) a8 (by decide)];exact ⟨(_,_,_,_,_,AR),⟨.refl,⟨.cons S.ops (by show ¬ (7:UInt8)=5;decide) (FmR.zero rfl rfl (aO _) (aO _)),S.vls⟩⟩,Z,s.pickT (hd:=[_,_,_,_]) (tl:=(AR++bs)) (hd':=[_,_,_]) [0,1,3] rfl rfl⟩
 have a8:Rq.ac l [112,114,101,118,105,111,117,115] q=false:=h8;rw [kT a8];refine .sm Z<|.cs (X:=Unit) dH Z (λW s=>eI K hq [111,110,99,101] (s.pickT (hd:=[_,_,_,_]) (tl:=(AR++bs)) (hd':=[_,_,_,_]) [0,1,2,3] Z Z)) Z λ_ _=>.aq Z<|.cd Z (λh12=>?_) (λh12=>?_)
 ·have a12:Rq.ac l [111,110,99,101] q=true:=h12;rw [kO a12];refine .rg<|.mv Z<|.cs (X:=Unit) EF Z (λW s=>JQ K (dC K.gd.last hq a12) 13 (s.pickT (hd:=[_,_,_,_]) (tl:=(AR++bs)) (hd':=[_,_,_,_]) [0,1,2,3] Z Z)) Z λ_ _=>.sX kP Z Z cV Z<|.nl<|.bN<|.tN<|.sm Z<|.yw (.loadW Z bZ cP Z)<|.yw (.build Z (jG _ _ _ _ _ _ _ _ _))<|.cs (X:=Option Addr × Nat) fZ Z (λW s=>mK K (JS K.gd.last (dC K.gd.last hq a12)) (by simp [Value.oneCell',cH]) (bD hn1 (by decide)) (λ_=>S.ops.tm hne) (s.pickT (hd:=[_,_,_,_]) (tl:=(AR++bs)) (hd':=[_,_,_,_]) [0,2,1,3] Z Z)) Z λp9 _=>.ns<|.az Z<|?_
  refine y9 Z Z λW s=>?_;rw [zH (q:=⟨q,op,x,false,dn⟩) (op:=13) a12 (by decide)];exact ⟨(_,_,_,_,_,AR),⟨.refl,⟨.cons S.ops (by show ¬ (7:UInt8)=5;decide) (FmR.zero rfl rfl (aO _) (aO _)),S.vls⟩⟩,Z,s.pickT (hd:=[_,_,_,_]) (tl:=(AR++bs)) (hd':=[_,_,_]) [0,1,3] rfl rfl⟩
 have a12:Rq.ac l [111,110,99,101] q=false:=h12;rw [kT a12];refine .sm Z<|.cs (X:=Unit) dH Z (λW s=>eI K hq [97,108,119,97,121,115] (s.pickT (hd:=[_,_,_,_]) (tl:=(AR++bs)) (hd':=[_,_,_,_]) [0,1,2,3] Z Z)) Z λ_ _=>.aq Z<|.cd Z (λh17=>?_) (λh17=>?_)
 ·have a17:Rq.ac l [97,108,119,97,121,115] q=true:=h17;rw [kO a17];refine .rg<|.mv Z<|.cs (X:=Unit) EF Z (λW s=>JQ K (dC K.gd.last hq a17) 14 (s.pickT (hd:=[_,_,_,_]) (tl:=(AR++bs)) (hd':=[_,_,_,_]) [0,1,2,3] Z Z)) Z λ_ _=>.sX kP Z Z cV Z<|.nl<|.bN<|.tN<|.sm Z<|.yw (.loadW Z bZ cP Z)<|.yw (.build Z (jG _ _ _ _ _ _ _ _ _))<|.cs (X:=Option Addr × Nat) fZ Z (λW s=>mK K (JS K.gd.last (dC K.gd.last hq a17)) (by simp [Value.oneCell',cH]) (bD hn1 (by decide)) (λ_=>S.ops.tm hne) (s.pickT (hd:=[_,_,_,_]) (tl:=(AR++bs)) (hd':=[_,_,_,_]) [0,2,1,3] Z Z)) Z λp9 _=>.ns<|.az Z<|?_
  refine y9 Z Z λW s=>?_;rw [zH (q:=⟨q,op,x,false,dn⟩) (op:=14) a17 (by decide)];exact ⟨(_,_,_,_,_,AR),⟨.refl,⟨.cons S.ops (by show ¬ (7:UInt8)=5;decide) (FmR.zero rfl rfl (aO _) (aO _)),S.vls⟩⟩,Z,s.pickT (hd:=[_,_,_,_]) (tl:=(AR++bs)) (hd':=[_,_,_]) [0,1,3] rfl rfl⟩
 have a17:Rq.ac l [97,108,119,97,121,115] q=false:=h17;rw [kT a17];refine .sm Z<|.cs (X:=Unit) dH Z (λW s=>eI K hq [102,111,114,97,108,108] (s.pickT (hd:=[_,_,_,_]) (tl:=(AR++bs)) (hd':=[_,_,_,_]) [0,1,2,3] Z Z)) Z λ_ _=>.aq Z<|.cd Z (λh22=>?_) (λh22=>?_)
 ·have a22:Rq.ac l [102,111,114,97,108,108] q=true:=h22;rw [kO a22];refine .rg<|.mv Z<|.cs (X:=Unit) EE Z (λW s=>RR K (dC K.gd.last hq a22) 16 (s.pickT (hd:=[_,_,_,_]) (tl:=(AR++bs)) (hd':=[_,_,_,_]) [0,1,2,3] Z Z)) Z λ_ _=>.sX kP Z Z cV Z<|.nl<|.bN<|.tN<|.sm Z<|.yw (.loadW Z bZ cP Z)<|.yw (.build Z (jG _ _ _ _ _ _ _ _ _))<|.cs (X:=Option Addr × Nat) fZ Z (λW s=>mK K (JT K.gd.last (dC K.gd.last hq a22)) (by simp [Value.oneCell',cH]) (bD hn1 (by decide)) (λ_=>S.ops.tm hne) (s.pickT (hd:=[_,_,_,_]) (tl:=(AR++bs)) (hd':=[_,_,_,_]) [0,2,1,3] Z Z)) Z λp9 _=>.ns<|.az Z<|?_
  refine y9 Z Z λW s=>?_;rw [zH (q:=⟨q,op,x,false,dn⟩) (op:=16) a22 (by decide)];exact ⟨(_,_,_,_,_,AR),⟨.refl,⟨.cons S.ops (by show ¬ (7:UInt8)=5;decide) (FmR.zero rfl rfl (bD (gN K (dC K.gd.last hq a22)) (by decide)) (aO _)),S.vls⟩⟩,Z,s.pickT (hd:=[_,_,_,_]) (tl:=(AR++bs)) (hd':=[_,_,_]) [0,1,3] rfl rfl⟩
 have a22:Rq.ac l [102,111,114,97,108,108] q=false:=h22;rw [kT a22];refine .sm Z<|.cs (X:=Unit) dH Z (λW s=>eI K hq [101,120,105,115,116,115] (s.pickT (hd:=[_,_,_,_]) (tl:=(AR++bs)) (hd':=[_,_,_,_]) [0,1,2,3] Z Z)) Z λ_ _=>.aq Z<|.cd Z (λh27=>?_) (λh27=>?_)
 ·have a27:Rq.ac l [101,120,105,115,116,115] q=true:=h27;rw [kO a27];refine .rg<|.mv Z<|.cs (X:=Unit) EE Z (λW s=>RR K (dC K.gd.last hq a27) 17 (s.pickT (hd:=[_,_,_,_]) (tl:=(AR++bs)) (hd':=[_,_,_,_]) [0,1,2,3] Z Z)) Z λ_ _=>.sX kP Z Z cV Z<|.nl<|.bN<|.tN<|.sm Z<|.yw (.loadW Z bZ cP Z)<|.yw (.build Z (jG _ _ _ _ _ _ _ _ _))<|.cs (X:=Option Addr × Nat) fZ Z (λW s=>mK K (JT K.gd.last (dC K.gd.last hq a27)) (by simp [Value.oneCell',cH]) (bD hn1 (by decide)) (λ_=>S.ops.tm hne) (s.pickT (hd:=[_,_,_,_]) (tl:=(AR++bs)) (hd':=[_,_,_,_]) [0,2,1,3] Z Z)) Z λp9 _=>.ns<|.az Z<|?_
  refine y9 Z Z λW s=>?_;rw [zH (q:=⟨q,op,x,false,dn⟩) (op:=17) a27 (by decide)];exact ⟨(_,_,_,_,_,AR),⟨.refl,⟨.cons S.ops (by show ¬ (7:UInt8)=5;decide) (FmR.zero rfl rfl (bD (gN K (dC K.gd.last hq a27)) (by decide)) (aO _)),S.vls⟩⟩,Z,s.pickT (hd:=[_,_,_,_]) (tl:=(AR++bs)) (hd':=[_,_,_]) [0,1,3] rfl rfl⟩
 have a27:Rq.ac l [101,120,105,115,116,115] q=false:=h27;rw [kT a27];refine .sm Z<|.cs (X:=Unit) dH Z (λW s=>eI K hq [99,111,117,110,116] (s.pickT (hd:=[_,_,_,_]) (tl:=(AR++bs)) (hd':=[_,_,_,_]) [0,1,2,3] Z Z)) Z λ_ _=>.aq Z<|.cd Z (λh32=>?_) (λh32=>?_)
 ·have a32:Rq.ac l [99,111,117,110,116] q=true:=h32;rw [kO a32];refine .sm Z<|.cs (X:=Unit) EE Z (λW s=>RR K (dC K.gd.last hq a32) 18 (s.pickT (hd:=[_,_,_,_]) (tl:=(AR++bs)) (hd':=[_,_,_,_]) [0,1,2,3] Z Z)) Z λ_ _=>.sX kP Z Z cV Z<|.ns<|.mv Z<|.cs (X:=Unit) nD Z (λW s=>rU K (JT K.gd.last (dC K.gd.last hq a32)) [40] (s.pickT (hd:=[_,_,_,_]) (tl:=(AR++bs)) (hd':=[_,_,_,_]) [0,1,2,3] Z Z)) Z λ_ _=>.ns<|.mv Z<|.yw (.loadW Z bZ cP Z)<|.yw (.build Z (RZ _ _ _ _ _ _ _ _))<|.cs (X:=Option Addr × Nat) fZ Z (λW s=>mK K (kL K.gd.last (JT K.gd.last (dC K.gd.last hq a32))) (by simp [Value.oneCell',cH]) (bD hn1 (by decide)) (t':=false) (λh=>absurd h (Nat.lt_irrefl 0)) (s.pickT (hd:=[_,_,_,_]) (tl:=(AR++bs)) (hd':=[_,_,_,_]) [0,2,1,3] Z Z)) Z λp9 _=>.ns<|.az Z<|.bR<|.tR<|?_
  refine y9 Z Z λW s=>?_;rw [TH (q:=⟨q,op,x,false,dn⟩) a32];exact ⟨(_,_,_,_,_,AR),⟨.refl,⟨.cons S.ops (by show ¬ (3:UInt8)=5;decide) (FmR.zero rfl rfl (bD (gN K (dC K.gd.last hq a32)) (by decide)) (aO _)),S.vls⟩⟩,Z,s.pickT (hd:=[_,_,_,_]) (tl:=(AR++bs)) (hd':=[_,_,_]) [0,1,3] rfl rfl⟩
 have a32:Rq.ac l [99,111,117,110,116] q=false:=h32;rw [kT a32];refine .sr<|.az Z<|.bR<|.tR<|?_
 refine y9 Z Z λW s=>?_
 have e0:mJ l ⟨q,op,x,false,dn⟩=none:=ZG (λw op hp=>by
  simp only [IS,bM,iY,List.not_mem_nil,or_false] at hp;rcases hp with ⟨rfl,rfl⟩ | ⟨rfl,rfl⟩ | ⟨rfl,rfl⟩ | ⟨rfl,rfl⟩ | ⟨rfl,rfl⟩ | ⟨rfl,rfl⟩
  ·exact a4
  ·exact a8
  ·exact a12
  ·exact a17
  ·exact a22
  ·exact a27) a32
 rw [e0];exact ⟨(_,_,_,_,_,AR),⟨.refl,⟨S.ops,S.vls⟩⟩,Z,s.pickT (hd:=[_,_,_,_]) (tl:=(AR++bs)) (hd':=[_,_,_]) [0,2,3] rfl rfl⟩
theorem JW {b:Nat} {l:Tks} {op:List Ov} {x:Vb} {dn:Bool} (K:Tkf H l tp tc) (Wq:Fwf l ⟨q,op,x,false,dn⟩) (S:Sq H ⟨q,op,x,false,dn⟩ xo xv AR) (s:St H w0 (.box b [.slice tp l.length tc,iN q.i,ro,rv,.bool false,.bool dn,.bool x.2,iN q.off,iN q.er] 102::.row 97 11 (ro) (op.length) (xo)::.row 179 13 (rv) (x.1.length) (xv)::(AR++bs)) W) :
 Calls prg 111 #[.pointer (some ⟨b,0,none⟩)] W (Get w0 bs b l tp tc H (vQ l ⟨q,op,x,false,dn⟩)):=by
 have hq:q.i<l.length:=Wq.i;have hne:op≠[]:=Wq.ne;obtain ⟨hn1,hn2⟩:=oJ Wq K.few;dsimp only at hn1 hn2;have hcap:=K.rep.cap;refine kC func111 rfl ntmps111 rfl s ?_;refine .sm Z<|.cs (X:=Unit) sD Z (λW s=>DT K hq  (s.pickT (hd:=[_,_,_]) (tl:=(AR++bs)) (hd':=[_,_,_]) [0,1,2] Z Z)) Z λ_ _=>.aq Z<|.sq<|.sm Z<|.cs (X:=Unit) dH Z (λW s=>eI K (kE K.gd.last hq) [46] (s.pickT (hd:=[_,_,_]) (tl:=(AR++bs)) (hd':=[_,_,_]) [0,1,2] Z Z)) Z λ_ _=>.nt<|.cd Z (λh6=>?_) (λh6=>?_)
 ·have a6:Rq.ac l [46] (Rq.nmS l q)=true:=h6;rw [kO a6];refine .sm Z<|.mv Z<|.cs (X:=Unit) sD Z (λW s=>DT K (dC K.gd.last (kE K.gd.last hq) a6)  (s.pickT (hd:=[_,_,_]) (tl:=(AR++bs)) (hd':=[_,_,_]) [0,1,2] Z Z)) Z λ_ _=>.yw (.app Z Z (by have h1:=gN K hq;have h2:=gN K (dC K.gd.last (kE K.gd.last hq) a6);simp only [aF,aJ,aM];omega))<|.yw (.cast (.app Z Z (by have h1:=gN K hq;have h2:=gN K (dC K.gd.last (kE K.gd.last hq) a6);simp only [aF,aJ,aM];omega)) (congrArg cH (aZ _ _ _).symm))<|.a Z Z<|.ns<|.mv Z<|.cs (X:=Unit) dH Z (λW s=>eI K (kE K.gd.last (dC K.gd.last (kE K.gd.last hq) a6)) [91] (s.pickT (hd:=[_,_,_]) (tl:=(AR++bs)) (hd':=[_,_,_]) [0,1,2] Z Z)) Z λ_ _=>.nt<|.cd Z (λh13=>?_) (λh13=>?_)
  ·have a13:Rq.ac l [91] (Rq.nmS l (Rq.nmS l q).nx)=true:=h13;rw [kO a13];refine .sm Z<|.mv Z<|.yw (.build Z (YU _))<|.yw (.build Z (HV _ _ _ _ _ _ _ _ _ _))<|.cs (X:=Option Addr × Nat) fZ Z (λW s=>mK K (dC K.gd.last (kE K.gd.last (dC K.gd.last (kE K.gd.last hq) a6)) a13) (by simp [Value.oneCell',cH]) (bD hn1 (by decide)) (t':=false) (λh=>absurd h (Nat.lt_irrefl 0)) (s.pickT (hd:=[_,_,_]) (tl:=(AR++bs)) (hd':=[_,_,_]) [0,1,2] Z Z)) Z λp9 _=>.nt<|.rt<|.tR<|?_
   refine y7 Z .nil rfl λW s=>?_;have e0:vQ l ⟨q,op,x,false,dn⟩=fK ⟨4,0,true,6,.mk 0 (q.ful l) [] 0 0 [] []⟩ ((⟨q,op,x,false,dn⟩:Ps).at ((q.nmS l).nx.nmS l).nx):=by unfold vQ;exact (aL a6).trans (aL a13)
   rw [e0];exact ⟨(_,_,_,_,_,AR),⟨.refl,⟨.cons S.ops (by show ¬ (4:UInt8)=5;decide) (FmR.zero rfl rfl (by have h1:=gN K hq;have h2:=gN K (dC K.gd.last (kE K.gd.last hq) a6);show (Rq.ful l q).length<=1000000;unfold Rq.ful;simp only [aF,aJ,aM];omega) (aO _)),S.vls⟩⟩,Z,s.pickT (hd:=[_,_,_]) (tl:=(AR++bs)) (hd':=[_,_,_]) [0,1,2] rfl rfl⟩
  have a13:Rq.ac l [91] (Rq.nmS l (Rq.nmS l q).nx)=false:=h13;rw [kT a13];refine .sk<|.tN<|.rg<|.mv Z<|.mv Z<|.yw (.build Z (vS _ _))<|.yw (.build Z (jH _ _ _ _ _))<|.cs (X:=Option Addr × Nat) fR Z (λW s=>lS K (kE K.gd.last (dC K.gd.last (kE K.gd.last hq) a6)) (by simp [Value.oneCell',cH]) hn2 (s.pickT (hd:=[_,_,_]) (tl:=(AR++bs)) (hd':=[_,_,_]) [0,2,1] Z Z)) Z λp9 _=>.nl<|?_
  refine jA (.inr Z) rfl .nil rfl λW s=>?_;have e0:vQ l ⟨q,op,x,false,dn⟩=iF (tmv (.mk 5 (q.ful l) 0 [])) ((⟨q,op,x,false,dn⟩:Ps).at ((q.nmS l).nx.nmS l)):=by unfold vQ;exact (aL a6).trans (aG (by rw [a13];decide))
  rw [e0];exact ⟨(_,_,_,_,_,AR),⟨.refl,⟨S.ops,.cons S.vls ⟨ExR.zero rfl (by have h1:=gN K hq;have h2:=gN K (dC K.gd.last (kE K.gd.last hq) a6);show (Rq.ful l q).length<=1000000;unfold Rq.ful;simp only [aF,aJ,aM];omega),FmR.zero rfl rfl (aO _) (aO _)⟩⟩⟩,Z,s.pickT (hd:=[_,_,_]) (tl:=(AR++bs)) (hd':=[_,_,_]) [0,2,1] rfl rfl⟩
 have a6:Rq.ac l [46] (Rq.nmS l q)=false:=h6;rw [kT a6];refine .sk<|.tN<|.rg<|.mv Z<|.mv Z<|.yw (.build Z (vS _ _))<|.yw (.build Z (jH _ _ _ _ _))<|.cs (X:=Option Addr × Nat) fR Z (λW s=>lS K (kE K.gd.last hq) (by simp [Value.oneCell',cH]) hn2 (s.pickT (hd:=[_,_,_]) (tl:=(AR++bs)) (hd':=[_,_,_]) [0,2,1] Z Z)) Z λp9 _=>.nl<|?_
 refine jA (.inr Z) rfl .nil rfl λW s=>?_;have e0:vQ l ⟨q,op,x,false,dn⟩=iF (tmv (.mk 5 (q.nmV l) 0 [])) ((⟨q,op,x,false,dn⟩:Ps).at (q.nmS l)):=by unfold vQ;exact aG (by rw [a6];decide)
 rw [e0];exact ⟨(_,_,_,_,_,AR),⟨.refl,⟨S.ops,.cons S.vls ⟨ExR.zero rfl (bD (gN K hq) (by decide)),FmR.zero rfl rfl (aO _) (aO _)⟩⟩⟩,Z,s.pickT (hd:=[_,_,_]) (tl:=(AR++bs)) (hd':=[_,_,_]) [0,2,1] rfl rfl⟩
theorem OI {b:Nat} {l:Tks} {op:List Ov} {x:Vb} {dn:Bool} (K:Tkf H l tp tc) (Wq:Fwf l ⟨q,op,x,false,dn⟩) (S:Sq H ⟨q,op,x,false,dn⟩ xo xv AR) (s:St H w0 (.box b [.slice tp l.length tc,iN q.i,ro,rv,.bool false,.bool dn,.bool x.2,iN q.off,iN q.er] 102::.row 97 11 (ro) (op.length) (xo)::.row 179 13 (rv) (x.1.length) (xv)::(AR++bs)) W) :
 Calls prg 115 #[.pointer (some ⟨b,0,none⟩)] W (Get w0 bs b l tp tc H (yP l ⟨q,op,x,false,dn⟩)):=by
 have hq:q.i<l.length:=Wq.i;have hne:op≠[]:=Wq.ne;obtain ⟨hn1,hn2⟩:=oJ Wq K.few;dsimp only at hn1 hn2;have hcap:=K.rep.cap;refine kC func115 rfl ntmps115 rfl s ?_;refine .sm Z<|.cs (X:=Unit) wZ Z (λW s=>KN K hq 7 (s.pickT (hd:=[_,_,_]) (tl:=(AR++bs)) (hd':=[_,_,_]) [0,1,2] Z Z)) Z λ_ _=>.al dX Z λb2=>.sX .head Z Z cV Z<|.ns<|.mv Z<|.cs (X:=Unit) nD Z (λW s=>rU K (yF K.gd.last hq) [40] (s.pickT (hd:=[_,_,_,_]) (tl:=(AR++bs)) (hd':=[_,_,_,_]) [1,0,2,3] Z Z)) Z λ_ _=>.nt<|.sq<|.sm Z<|.cs (X:=Unit) dH Z (λW s=>eI K (kL K.gd.last (yF K.gd.last hq)) [41] (s.pickT (hd:=[_,_,_,_]) (tl:=(AR++bs)) (hd':=[_,_,_,_]) [0,1,2,3] Z Z)) Z λ_ _=>.nt<|.cd Z (λh8=>?_) (λh8=>?_)
 ·have a8:Rq.ac l [41] (Rq.exS l [40] (Rq.paS l q))=true:=h8;rw [kO a8];refine .sm Z<|.yw (.loadW Z bZ cP Z)<|.yw (.build Z (iS _ _ _ _ _ _ _))<|.cs (X:=Option Addr × Nat) fR Z (λW s=>lS K (dC K.gd.last (kL K.gd.last (yF K.gd.last hq)) a8) (by simp [Value.oneCell',cH]) hn2 (s.pickT (hd:=[_,_,_,_]) (tl:=(AR++bs)) (hd':=[_,_,_,_]) [0,3,1,2] Z Z)) Z λp9 _=>.nt<|.rt<|.tR<|?_
  refine y7 Z .nil rfl λW s=>?_;have e0:yP l ⟨q,op,x,false,dn⟩=iF (fmv (q.paV l 7)) ((⟨q,op,x,false,dn⟩:Ps).at ((q.paS l).exS l [40]).nx):=by unfold yP;exact aL a8
  rw [e0];exact ⟨(_,_,_,_,_,AR),⟨.refl,⟨S.ops,.cons S.vls ⟨ExR.zero rfl (aO _),FmR.zero rfl rfl (bD (gN K hq) (by decide)) (bD (gN K (kL K.gd.last (kE K.gd.last hq))) (by decide))⟩⟩⟩,Z,s.pickT (hd:=[_,_,_,_]) (tl:=(AR++bs)) (hd':=[_,_,_]) [0,3,1] rfl rfl⟩
 have a8:Rq.ac l [41] (Rq.exS l [40] (Rq.paS l q))=false:=h8;rw [kT a8];refine .sk<|.tN<|.rg<|.mv Z<|.yw (.loadW Z bZ cP Z)<|.yw (.build Z (xA _ _ _ _ _ _ _ _ _))<|.cs (X:=Option Addr × Nat) fZ Z (λW s=>mK K (kL K.gd.last (yF K.gd.last hq)) (by simp [Value.oneCell',cH]) (bD hn1 (by decide)) (t':=false) (λh=>absurd h (Nat.lt_irrefl 0)) (s.pickT (hd:=[_,_,_,_]) (tl:=(AR++bs)) (hd':=[_,_,_,_]) [0,2,1,3] Z Z)) Z λp9 _=>.nl<|?_
 refine Sx.row0 76 4 ?_;refine jA (.inr Z) rfl .nil rfl λW s=>?_;have e0:yP l ⟨q,op,x,false,dn⟩=fK ⟨5,0,true,0,q.paV l 7⟩ ((⟨q,op,x,false,dn⟩:Ps).at ((q.paS l).exS l [40])):=by unfold yP;exact aG (by show ¬ ((q.paS l).exS l [40]).ac l [41]=true;rw [a8];decide)
 rw [e0];exact ⟨(_,_,_,_,_,_),⟨.refl,⟨.arg S.ops rfl rfl (bD (gN K hq) (by decide)) (bD (gN K (kL K.gd.last (kE K.gd.last hq))) (by decide)) eD.nil rfl,S.vls⟩⟩,Z,s.pickT (hd:=[_,_,_,_,_]) (tl:=(AR++bs)) (hd':=[_,_,_,_]) [1,2,4,0] rfl rfl⟩
theorem YO:dI prg 106=true:=by kernel_rfl
theorem MC:dI prg 111=true:=by kernel_rfl
theorem MB:dI prg 115=true:=by kernel_rfl
theorem fX:dY prg 35 1=some 1:=by kernel_rfl
theorem DL (x0 x1:Bool):iJ prg 179 [(0,.bool x0),(1,.bool x1)]=some [.bool x0,.bool x1,.int .u8 0,.string ⟨#[]⟩,.int .i64 0,.slice none 0 0,.int .u8 0,.string ⟨#[]⟩,.string ⟨#[]⟩,.int .i64 0,.int .i64 0,.slice none 0 0,.slice none 0 0]:=by kernel_rfl
theorem ML (x0:Int):iJ prg 76 [(0,.int .u8 x0)]=some [.int .u8 x0,.string ⟨#[]⟩,.int .i64 0,.slice none 0 0]:=by kernel_rfl
theorem AG (x0 x2:Int):iJ prg 76 [(0,.int .u8 x0),(2,.int .i64 x2)]=some [.int .u8 x0,.string ⟨#[]⟩,.int .i64 x2,.slice none 0 0]:=by kernel_rfl
theorem EJ (x0:Int):iJ prg 97 [(0,.int .u8 x0)]=some [.int .u8 x0,.int .i64 0,.bool false,.int .u8 0,.int .u8 0,.string ⟨#[]⟩,.string ⟨#[]⟩,.int .i64 0,.int .i64 0,.slice none 0 0,.slice none 0 0]:=by kernel_rfl
theorem GK (x0 x1:Int):iJ prg 97 [(0,.int .u8 x0),(1,.int .i64 x1)]=some [.int .u8 x0,.int .i64 x1,.bool false,.int .u8 0,.int .u8 0,.string ⟨#[]⟩,.string ⟨#[]⟩,.int .i64 0,.int .i64 0,.slice none 0 0,.slice none 0 0]:=by kernel_rfl
end Go.Proofs.YtidclioghdbphaaGreatDoor
