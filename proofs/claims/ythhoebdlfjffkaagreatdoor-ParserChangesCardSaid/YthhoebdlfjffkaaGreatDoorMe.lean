/- Texts of the proof, one behind the other. -/
import Derived.Test.YthhoebdlfjffkaaGreatDoorMd
set_option linter.all false
set_option maxRecDepth 100000
namespace Go.Proofs.YthhoebdlfjffkaaGreatDoor
open Go.RowKit Go.Par Go.Sx Tryz
def sZ (ts:List Tk) (q:Sg):Nat:=ts.length - q.r.length
abbrev PA (b:Nat) (t:Str) (tp:Option Addr) (ts:List Tk) (tc:Nat) (q:Sg):Res:=.box b [cJ t,.slice tp ts.length tc,.int .i64 (sZ ts q:Nat),.int .i64 (q.o:Nat),.int .i64 (q.e:Nat)] 75
abbrev PB (b:Nat) (tp:Option Addr) (ts:List Tk) (tc n:Nat) (t0 t1 t2 t3:Value) (q:Sg):Res:=.box b [.slice tp ts.length tc,.int .i64 (sZ ts q:Nat),.int .i64 (n:Nat),t0,t1,t2,t3,.int .i64 (q.o:Nat),.int .i64 (q.e:Nat)] 99
variable {q:Sg} {ts:List Tk}
theorem bE7 (h:q.r<:+ts):q.r.length<=ts.length:=h.length_le
theorem SQ (h:q.r<:+ts) (hi:¬ sZ ts q<ts.length):q.r=[]:=by
 have:=bE7 h;unfold sZ at hi;exact cQ (by omega)
variable {n:Nat}
theorem aB8 (h:q.r<:+ts) (hi:sZ ts q<ts.length):ts[sZ ts q]=tkH n q.r/\q.r≠[]:=by
 obtain ⟨p,e⟩:=h;have hp:sZ ts q=p.length:=by unfold sZ;rw [<-e,aD];omega
 cases hr:q.r with
 | nil=>rw [hr,aX] at e;rw [hp,e] at hi;omega
 | cons t l =>
  refine ⟨?_,by simp⟩;have e2:ts[sZ ts q]? = some t:=by rw [hp,<-e,hr];simp
  rw [List.getElem?_eq_getElem hi] at e2;exact aW e2
theorem FR (h:q.r<:+ts) (hr:q.r≠[]):sZ ts q.tl=sZ ts q+1/\sZ ts q<ts.length:=by
 have h1:=bE7 h;cases hl:q.r with
 | nil=>exact absurd hl hr
 | cons t l =>
  rw [hl,aH] at h1;unfold sZ Sg.tl;simp only [hl,yW,aH];omega
structure Tkm (H:Hp) (ts:List Tk) (tp:Option Addr) (tc:Nat):Prop where
 rep:Rep H (.seq 3 (ts.map (dTk .u8))) [.slice tp ts.length tc]
 good:∀ t∈ts,Tkg t
 num:∀ t∈ts,t.k=3->pre kK t.t=t.t.length
 short:∀ t∈ts,t.t.length<=1000000
variable {H H':Hp} {tp:Option Addr} {tc:Nat}
theorem Tkm.up (h:Tkm H ts tp tc) (u:Up H H'):Tkm H' ts tp tc:=⟨h.rep.up u,h.good,h.num,h.short⟩
theorem RF (h:q.r<:+ts):q.r=[]\/tkH n q.r∈ts:=by
 cases hr:q.r with
 | nil=>exact .inl rfl
 | cons t l=>exact .inr (h.subset (by rw [hr];exact eE ..))
theorem Tkm.tk (K:Tkm H ts tp tc) (h:q.r<:+ts):(tkH n q.r).t.length<=1000000:=by
 rcases RF (n:=n) h with e | e
 ·rw [e];show (0:Nat)<=_;omega
 ·exact K.short _ e
theorem cP3 (a b c:Value):∀ W,(Instr.field 96 (.agg [a,b,c].toArray) 0).run prg W=.ok a W:=λ_=>by kernel_rfl
theorem cP2 (a b c:Value):∀ W,(Instr.field 96 (.agg [a,b,c].toArray) 1).run prg W=.ok b W:=λ_=>by kernel_rfl
theorem cP1 (a b c:Value):∀ W,(Instr.field 96 (.agg [a,b,c].toArray) 2).run prg W=.ok c W:=λ_=>by kernel_rfl
variable {w0 W:World} {bs:List Res} {b:Nat} {t0 t1 t2 t3:Value}
theorem GU (K:Tkm H ts tp tc) (hq:q.r<:+ts) (s:St H w0 (PB b tp ts tc n t0 t1 t2 t3 q::bs) W) :
 Calls prg 91 #[.pointer (some ⟨b,0,none⟩)] W λe W'=>∃ _:Unit,(True)/\e=.returned (.agg (cTk .u8 (tkH n q.r)).toArray)/\St H w0 (PB b tp ts tc n t0 t1 t2 t3 q::bs) W':=by
 have hcap:=K.rep.cap;refine fD func91 rfl ntmps91 rfl s ?_;refine .sr<|.al IY Z λb2=>.nt<|.sq<|.sq<|.fL 9 [(0,0),(1,0),(2,0),(3,0),(4,0),(5,0),(6,0),(7,0),(8,0)]<|.mv Z<|.nC Z<|.fA Z pO<|.lD Z dZ dN Z<|.mv Z<|.nC Z<|.fA Z yQ<|.lD Z NP dN Z<|.yw (.lenSl aF8 Z)<|.fn (tl:=[_]) Z<|.yw (.lss Z Z)<|.nt<|.ce Z (λh12=>?_) (λh12=>?_)
 ·have hi:sZ ts q<ts.length:=by omega
  obtain ⟨et,_⟩:=aB8 (n:=n) hq hi;obtain ⟨bE,oE,cE,hpE,rE,lE,mE⟩:=K.rep.elem (eL (f:=dTk .u8) hi);cases hpE;rw [et] at rE;obtain ⟨rfl,_⟩:=aB0 rE;refine .sq<|.fL 10 [(0,0),(1,0),(2,0),(3,0),(4,0),(5,0),(6,0),(7,0),(8,0),(9,0)]<|.mv Z<|.nC Z<|.fA Z yQ<|.lD Z NP dN Z<|.mv Z<|.nC Z<|.fA Z pO<|.lD Z dZ dN Z<|.yw (.indexSl aF8 Z Z Z (by omega) (q:=oE+sZ ts q * 3) Z)<|.yw (.loadMW Z NQ mE Z)<|.fn (tl:=[_]) Z<|.sW .head Z Z FG (by simp [cTk,Value.oneCell',cJ]) Z<|.nt<|.rt<|.tR<|?_
  refine y8 Z (.cell Z NQ Hm rfl) λW s=>?_
  first
   | (exact ⟨(),Jt,Z,s.p2_1 [1] rfl⟩)
   | (exact ⟨(),Jt,(by rw [hr];rfl),s.p2_1 [1] rfl⟩)
 have hr:=SQ hq (by omega);refine .sk<|.tN<|.sm Z<|.nC Z<|.fA Z aG0<|.lD Z dZ dN Z<|.yw (.build Z (bC7 _))<|.sW .head Z Z FG (by simp [cTk,Value.oneCell',cJ]) Z<|.nt<|.rt<|?_
 refine y8 Z (.cell Z NQ Hm rfl) λW s=>?_
 first
  | (exact ⟨(),Jt,Z,s.p2_1 [1] rfl⟩)
  | (exact ⟨(),Jt,(by rw [hr];rfl),s.p2_1 [1] rfl⟩)
theorem MZ (K:Tkm H ts tp tc) (hq:q.r<:+ts) (c:Nat) (s:St H w0 (PB b tp ts tc n t0 t1 t2 t3 q::bs) W) :
 Calls prg 50 #[.pointer (some ⟨b,0,none⟩),iN c] W λe W'=>∃ _:Unit,(True)/\e=.returned (.tuple #[])/\St H w0 (PB b tp ts tc n t0 t1 t2 t3 (q.fail n c)::bs) W':=by
 refine fD func50 rfl ntmps50 rfl s ?_;refine .sm Z<|.nC Z<|.fA Z lS<|.lD Z xG Hm Z<|.yw (.eql Z Z)<|.nt<|.ce Z (λh8=>?_) (λh8=>?_)
 ·have h0:q.e=0:=by omega
  have e1:q.fail n c=⟨q.r,c,(tkH n q.r).o⟩:=by unfold Sg.fail;rw [aE h0,cS9]
  rw [e1];refine .rg<|.mv Z<|.mv Z<|.mv Z<|.cs (X:=Unit) FI Z (λW s=>GU K hq  (s.p1_1 [0] Z)) Z λ_ _=>.yw (.fld Z (cP1 _ _ _))<|.mv Z<|.nC Z<|.fA Z GB<|.st .head Z Z jG Z (nb Z) Z<|.nC Z<|.fA Z lS<|.st .head Z Z ZA Z (nb Z) Z<|.nl<|?_
  refine pK (.inr Z) rfl .nil rfl λW s=>⟨(),Jt,Z,?_⟩;exact s.p1_1 [0] rfl
 have h0:¬ q.e=0:=by omega
 have e1:q.fail n c=q:=by unfold Sg.fail;rw [aA h0]
 rw [e1];refine .sk<|?_
 refine pK (.inr Z) rfl .nil rfl λW s=>⟨(),Jt,Z,?_⟩;exact s.p1_1 [0] rfl
theorem cT8 (K:Tkm H ts tp tc) (hq:q.r<:+ts) (w:Str) (s:St H w0 (PB b tp ts tc n t0 t1 t2 t3 q::bs) W) :
 Calls prg 118 #[.pointer (some ⟨b,0,none⟩),cJ w] W λe W'=>∃ _:Unit,(True)/\e=.returned (.bool (tcB n w q))/\St H w0 (PB b tp ts tc n t0 t1 t2 t3 q::bs) W':=by
 refine fD func118 rfl ntmps118 rfl s ?_;refine .sr<|.a Z Z<|.ns<|.mv Z<|.nC Z<|.fA Z lS<|.lD Z xG Hm Z<|.yw (.eql Z Z)<|.mv Z<|.b2 (λh10=>?_) (λh10=>?_)
 ·refine .gy (.move Z)<|.gd Z Z<|.cs (X:=Unit) FI Z (λW s=>GU K hq  (s.p1_1 [0] Z)) Z λ_ _=>.gy (.fld Z (cP2 _ _ _))<|.gy (.move Z)<|.gy (.eqS Z Z)<|.yw (.pickT Z Z)<|.az Z<|?_
  refine y9 Z Z λW s=>?_
  first
   | (exact ⟨(),Jt,(by unfold tcB;rw [dU (show q.e=0 by have:=dF h10;omega),gM]),s.p1_1 [0] rfl⟩)
   | (exact ⟨(),Jt,(by unfold tcB;rw [eJ (show ¬ q.e=0 by have:=cY h10;omega),yZ]),s.p1_1 [0] rfl⟩)
 refine .gG<|.gG<|.gG<|.gG<|.gG<|.yw (.pickF Z Z)<|.az Z<|?_
 refine y9 Z Z λW s=>?_
 first
  | (exact ⟨(),Jt,(by unfold tcB;rw [dU (show q.e=0 by have:=dF h10;omega),gM]),s.p1_1 [0] rfl⟩)
  | (exact ⟨(),Jt,(by unfold tcB;rw [eJ (show ¬ q.e=0 by have:=cY h10;omega),yZ]),s.p1_1 [0] rfl⟩)
def tcS (n:Nat) (w:Str) (q:Sg):Sg:=if tcB n w q then q.tl else q
variable {w:Str}
theorem cU9 (hw:w≠[]) (h:tcB n w q=true):q.r≠[]:=by
 intro e;unfold tcB at h;rw [aF,aB,aB,e] at h;exact hw h.2.symm
theorem YS (K:Tkm H ts tp tc) (hq:q.r<:+ts) (w:Str) (hw:w≠[]) (s:St H w0 (PB b tp ts tc n t0 t1 t2 t3 q::bs) W) :
 Calls prg 72 #[.pointer (some ⟨b,0,none⟩),cJ w] W λe W'=>∃ _:Unit,(True)/\e=.returned (.bool (tcB n w q))/\St H w0 (PB b tp ts tc n t0 t1 t2 t3 (tcS n w q)::bs) W':=by
 have hcap:=K.rep.cap;refine fD func72 rfl ntmps72 rfl s ?_;refine .sr<|.aq Z<|.sq<|.sm Z<|.mv Z<|.cs (X:=Unit) GI Z (λW s=>cT8 K hq w (s.p1_1 [0] Z)) Z λ_ _=>.yw (.not Z)<|.nt<|.cd Z (λh8=>?_) (λh8=>?_)
 ·have e1:tcS n w q=q:=by unfold tcS;rw [aA (by simpa using h8)]
  rw [e1];have hb:tcB n w q=false:=by simpa using h8
  refine .sr<|.az Z<|.tR<|?_
  refine y9 Z Z λW s=>?_;exact ⟨(),Jt,(by rw [hb]),s.p1_1 [0] rfl⟩
 have hb:tcB n w q=true:=by simpa using h8
 have e1:tcS n w q=q.tl:=by unfold tcS;rw [aE hb]
 rw [e1];obtain ⟨hp,hi⟩:=FR hq (cU9 hw hb);refine .sk<|.tN<|.sm Z<|.nC Z<|.fA Z pO<|.lD Z dZ Hm Z<|.yw (.add Z Z (c:=((sZ ts q.tl:Nat):Int)) ((w6 (by omega)).trans (by omega)))<|.nC Z<|.fA Z pO<|.st .head Z Z jG Z (nb Z) Z<|.ns<|.az Z<|?_
 refine y9 Z Z λW s=>?_;exact ⟨(),Jt,(by rw [hb]),s.p1_1 [0] rfl⟩
theorem bV8 (hw:w∈words\/w∈symbols):w≠[]:=cS1 w (gJ.2 hw)
theorem gZ (K:Tkm H ts tp tc) (hq:q.r<:+ts) (w:Str) (hw:w∈words\/w∈symbols) (s:St H w0 (PB b tp ts tc n t0 t1 t2 t3 q::bs) W) :
 Calls prg 72 #[.pointer (some ⟨b,0,none⟩),cJ w] W λe W'=>∃ _:Unit,(True)/\e=.returned (.bool (ac w q))/\St H w0 (PB b tp ts tc n t0 t1 t2 t3 (acS w q)::bs) W':=by
 have h:=YS K hq w (bV8 hw) s;unfold tcS at h;rw [aU3 K.good hq hw] at h;exact h
theorem cD1 (K:Tkm H ts tp tc) (hq:q.r<:+ts) (w:Str) (hw:w∈words\/w∈symbols) (s:St H w0 (PB b tp ts tc n t0 t1 t2 t3 q::bs) W) :
 Calls prg 118 #[.pointer (some ⟨b,0,none⟩),cJ w] W λe W'=>∃ _:Unit,(True)/\e=.returned (.bool (ac w q))/\St H w0 (PB b tp ts tc n t0 t1 t2 t3 q::bs) W':=by
 have h:=cT8 K hq w s;rw [aU3 K.good hq hw] at h;exact h
theorem YF (K:Tkm H ts tp tc) (hq:q.r<:+ts) (w:Str) (hw:w≠[]) (s:St H w0 (PB b tp ts tc n t0 t1 t2 t3 q::bs) W) :
 Calls prg 73 #[.pointer (some ⟨b,0,none⟩),cJ w] W λe W'=>∃ _:Unit,(True)/\e=.returned (.tuple #[])/\St H w0 (PB b tp ts tc n t0 t1 t2 t3 (if tcB n w q then q.tl else q.fail n 8)::bs) W':=by
 refine fD func73 rfl ntmps73 rfl s ?_;refine .sm Z<|.mv Z<|.cs (X:=Unit) gW Z (λW s=>YS K hq w hw (s.p1_1 [0] Z)) Z λ_ _=>.yw (.not Z)<|.nt<|.cd Z (λh7=>?_) (λh7=>?_)
 ·have e1:tcS n w q=q:=by unfold tcS;rw [aA (by simpa using h7)]
  rw [e1,aA (show ¬ tcB n w q=true by simpa using h7)];refine .rg<|.mv Z<|.cs (X:=Unit) FJ Z (λW s=>MZ K hq 8 (s.p1_1 [0] Z)) Z λ_ _=>.nl<|?_
  refine pK (.inr Z) rfl .nil rfl λW s=>⟨(),Jt,Z,?_⟩;exact s.p1_1 [0] rfl
 have e1:tcS n w q=q.tl:=by unfold tcS;rw [aE (by simpa using h7)]
 rw [e1,aE (show tcB n w q=true by simpa using h7)];refine .sk<|?_
 refine pK (.inr Z) rfl .nil rfl λW s=>⟨(),Jt,Z,?_⟩;exact s.p1_1 [0] rfl
theorem eN (K:Tkm H ts tp tc) (hq:q.r<:+ts) (w:Str) (hw:w∈words\/w∈symbols) (s:St H w0 (PB b tp ts tc n t0 t1 t2 t3 q::bs) W) :
 Calls prg 73 #[.pointer (some ⟨b,0,none⟩),cJ w] W λe W'=>∃ _:Unit,(True)/\e=.returned (.tuple #[])/\St H w0 (PB b tp ts tc n t0 t1 t2 t3 (up n (gNd w) q)::bs) W':=by
 have h:=YF K hq w (bV8 hw) s;rw [aU3 K.good hq hw,<-cB5] at h;exact h
theorem bN9 (K:Tkm H ts tp tc) (hq:q.r<:+ts) (w:Str) (hw:w=[50]\/w=[51]) (s:St H w0 (PB b tp ts tc n t0 t1 t2 t3 q::bs) W) :
 Calls prg 73 #[.pointer (some ⟨b,0,none⟩),cJ w] W λe W'=>∃ _:Unit,(True)/\e=.returned (.tuple #[])/\St H w0 (PB b tp ts tc n t0 t1 t2 t3 (up n (gNn w) q)::bs) W':=by
 have h:=YF K hq w (by rcases hw with rfl | rfl <;> simp) s;rw [<-aL7 K.good hq hw] at h;exact h
theorem SH {r:List Tk} (h:(tkH n r).k≠0):r≠[]:=λe=>by subst e;exact h rfl
theorem rX (K:Tkm H ts tp tc) (hq:q.r<:+ts) (s:St H w0 (PB b tp ts tc n t0 t1 t2 t3 q::bs) W) :
 Calls prg 74 #[.pointer (some ⟨b,0,none⟩)] W λe W'=>∃ x:Str,(vl gNm q x/\x.length<=1000000)/\e=.returned (cJ x)/\St H w0 (PB b tp ts tc n t0 t1 t2 t3 (up n gNm q)::bs) W':=by
 have hcap:=K.rep.cap;refine fD func74 rfl ntmps74 rfl s ?_;refine .sr<|.a Z Z<|.ns<|.mv Z<|.cs (X:=Unit) FI Z (λW s=>GU K hq  (s.p1_1 [0] Z)) Z λ_ _=>.al IY Z λb3=>.sW .head Z Z FG (by simp [cTk,Value.oneCell',cJ]) Z<|.nt<|.sq<|.sr<|.fA Z NE<|.lD Z aT0 Hm Z<|.yw (.neq Z Z)<|.nt<|.cd Z (λh8=>?_) (λh8=>?_)
 ·have hk:¬ (tkH n q.r).k=1:=λe=>dF h8 (by rw [e];rfl);have e1:up n gNm q=q.fail n 8:=by rw [aL8,aA (λh=>hk h.2)]
  have e2:(if q.e=0/\(tkH n q.r).k=1 then (tkH n q.r).t else [])=[]:=aA (λh=>hk h.2);rw [e1]
  have e3:(q.fail n 8).e≠0:=by
   unfold Sg.fail
   split
   ·exact Nat.succ_ne_zero 7
   ·assumption
  refine .rg<|.mv Z<|.cs (X:=Unit) FJ Z (λW s=>MZ K hq 8 (s.p2_2 [1,0] Z)) Z λ_ _=>.nt<|.sq<|.sm Z<|.nC Z<|.fA Z lS<|.lD Z xG Hm Z<|.yw (.neq Z Z)<|.nt<|.cd Z (λh15=>?_) (λh15=>?_)
  ·refine .sr<|.az Z<|.tR<|?_
   refine y9 Z Z λW s=>?_;exact ⟨[],⟨by have:=XP (n:=n) (s:=q);rw [e2] at this;exact this,cM _⟩,Z,s.p2_1 [0] rfl⟩
  exact absurd (show (q.fail n 8).e=0 by have:=kT.1 (cY h15);omega) e3
 have hk:(tkH n q.r).k=1:=bT.1 (by have:=kT.1 (cY h8);exact Int.ofNat.inj this);refine .sk<|.tN<|.sq<|.sm Z<|.nC Z<|.fA Z lS<|.lD Z xG dN Z<|.yw (.neq Z Z)<|.nt<|.cd Z (λh15=>?_) (λh15=>?_)
 ·try simp only [dt] at h15
  have h0:¬ q.e=0:=by omega
  have e1:up n gNm q=q:=yC h0;have e2:(if q.e=0/\(tkH n q.r).k=1 then (tkH n q.r).t else [])=[]:=aA (λh=>h0 h.1);rw [e1];refine .sr<|.az Z<|.tR<|?_
  refine y9 Z Z λW s=>?_;exact ⟨[],⟨by have:=XP (n:=n) (s:=q);rw [e2] at this;exact this,cM _⟩,Z,s.p2_1 [1] rfl⟩
 try simp only [df] at h15
 have h0:q.e=0:=by omega
 have e1:up n gNm q=q.tl:=by rw [aL8,aE ⟨h0,hk⟩]
 have e2:(if q.e=0/\(tkH n q.r).k=1 then (tkH n q.r).t else [])=(tkH n q.r).t:=aE ⟨h0,hk⟩;rw [e1];obtain ⟨hp,hi⟩:=FR hq (SH (n:=n) (by rw [hk];decide));refine .sk<|.tN<|.sm Z<|.nC Z<|.fA Z pO<|.lD Z dZ dN Z<|.yw (.add Z Z (c:=((sZ ts q.tl:Nat):Int)) ((w6 (by omega)).trans (by omega)))<|.nC Z<|.fA Z pO<|.st fG Z Z jG Z (nb Z) Z<|.ns<|.fA Z tF<|.lD Z bZ Hm Z<|.az Z<|?_
 refine y9 Z Z λW s=>?_;exact ⟨(tkH n q.r).t,⟨by have:=XP (n:=n) (s:=q);rw [e2] at this;exact this,K.tk hq⟩,Z,s.p2_1 [1] rfl⟩
theorem aH9 (K:Tkm H ts tp tc) (hq:q.r<:+ts) (s:St H w0 (PB b tp ts tc n t0 t1 t2 t3 q::bs) W) :
 Calls prg 119 #[.pointer (some ⟨b,0,none⟩)] W λe W'=>∃ x:Bool,(vl gTr q x)/\e=.returned (.bool x)/\St H w0 (PB b tp ts tc n t0 t1 t2 t3 (up n gTr q)::bs) W':=by
 refine fD func119 rfl ntmps119 rfl s ?_;refine .sr<|.aq Z<|.sq<|.sm Z<|.cs (X:=Unit) gW Z (λW s=>gZ K hq [116,114,117,101] (by decide +kernel) (s.p1_1 [0] Z)) Z λ_ _=>.nt<|.cd Z (λh4=>?_) (λh4=>?_)
 ·rw [iS h4];refine .sr<|.az Z<|.tR<|?_
  refine y9 Z Z λW s=>?_;rw [show up n gTr q=q.tl by unfold gTr;rw [eU h4,dE]];exact ⟨true,(by unfold gTr;exact eG h4 dB),Z,s.p1_1 [0] rfl⟩
 rw [iT h4];refine .sk<|.tN<|.sm Z<|.cs (X:=Unit) eK Z (λW s=>eN K hq [102,97,108,115,101] (by decide +kernel) (s.p1_1 [0] Z)) Z λ_ _=>.ns<|.az Z<|?_
 refine y9 Z Z λW s=>?_;rw [show up n gTr q=up n (gNd [102,97,108,115,101]) q by unfold gTr;rw [aZ h4,aO (x:=()) (Cz.nd _) aU,dE]];exact ⟨false,(by unfold gTr;exact aY h4 (aM (n:=n) aU dB)),Z,s.p1_1 [0] rfl⟩
theorem aP3 (K:Tkm H ts tp tc) (hq:q.r<:+ts) (s:St H w0 (PB b tp ts tc n t0 t1 t2 t3 q::bs) W) :
 Calls prg 24 #[.pointer (some ⟨b,0,none⟩)] W λe W'=>∃ _:Unit,(True)/\e=.returned (.tuple #[iN ((q.cl n).o),iN ((q.cl n).e)])/\St H w0 (PB b tp ts tc n t0 t1 t2 t3 (q.cl n)::bs) W':=by
 have hcap:=K.rep.cap;refine fD func24 rfl ntmps24 rfl s ?_;refine .sr<|.a Z Z<|.aq Z<|.sq<|.sq<|.fL 9 [(0,0),(1,0),(2,0),(3,0),(4,0),(5,0),(6,0),(7,0),(8,0)]<|.mv Z<|.nC Z<|.fA Z pO<|.lD Z dZ Hm Z<|.mv Z<|.nC Z<|.fA Z yQ<|.lD Z NP Hm Z<|.yw (.lenSl aF8 Z)<|.fn (tl:=[_]) Z<|.yw (.lss Z Z)<|.nt<|.ce Z (λh13=>?_) (λh13=>?_)
 ·have hi:sZ ts q<ts.length:=by omega
  obtain ⟨_,hr⟩:=aB8 (n:=n) hq hi;have e1:q.cl n=q.fail n 8:=by unfold Sg.cl;rw [aA hr]
  rw [e1];refine .rg<|.mv Z<|.cs (X:=Unit) FJ Z (λW s=>MZ K hq 8 (s.p1_1 [0] Z)) Z λ_ _=>.nt<|.sq<|.fL 9 [(0,0),(1,0),(2,0),(3,0),(4,0),(5,0),(6,0),(7,0),(8,0)]<|.mv Z<|.nC Z<|.fA Z GB<|.lD Z dZ Hm Z<|.mv Z<|.nC Z<|.fA Z lS<|.lD Z xG Hm Z<|.a Z Z<|.fn (tl:=[_]) Z<|.az Z<|?_
  refine y7 Z (.cons (.tmp Z) (.cons (.tmp Z) .nil)) rfl λW s=>⟨(),Jt,Z,?_⟩;exact s.p1_1 [0] rfl
 have hr:=SQ hq (by omega);have e1:q.cl n=q:=by unfold Sg.cl;rw [aE hr]
 rw [e1];refine .sk<|.tN<|.sq<|.fL 9 [(0,0),(1,0),(2,0),(3,0),(4,0),(5,0),(6,0),(7,0),(8,0)]<|.mv Z<|.nC Z<|.fA Z GB<|.lD Z dZ Hm Z<|.mv Z<|.nC Z<|.fA Z lS<|.lD Z xG Hm Z<|.a Z Z<|.fn (tl:=[_]) Z<|.az Z<|?_
 refine y7 Z (.cons (.tmp Z) (.cons (.tmp Z) .nil)) rfl λW s=>⟨(),Jt,Z,?_⟩;exact s.p1_1 [0] rfl
theorem aF4 {c:UInt8} (h:(c.toNat:Int)=32\/(c.toNat:Int)=9\/(c.toNat:Int)=10\/(c.toNat:Int)=13):oV c=true:=by
 simp only [oV,cO,aB,<-bT];rcases h with h | h | h | h
 ·exact .inl (.inl (.inl (by show c.toNat=32;omega)))
 ·exact .inl (.inl (.inr (by show c.toNat=9;omega)))
 ·exact .inl (.inr (by show c.toNat=10;omega))
 ·exact .inr (by show c.toNat=13;omega)
theorem xL {c:UInt8} (h:¬ ((c.toNat:Int)=32\/(c.toNat:Int)=9\/(c.toNat:Int)=10\/(c.toNat:Int)=13)):oV c=false:=by
 cases e:oV c with
 | false=>rfl
 | true =>
  refine absurd ?_ h;simp only [oV,cO,aB] at e;rcases e with ((e | e) | e) | e <;> subst e <;> simp
variable {k:Nat}
theorem MD {s R:Str} (hk:k<s.length) (hb:oV s[k]=true) (h:fZ false (s.drop k)=R):fZ false (s.drop (k+1))=R:=by
 rw [iB hk,NY hb] at h;exact h
theorem cK9 {s R:Str} (hk:k+1<s.length) (h1:(s[k].toNat:Int)=47) (h2:(s[k+1].toNat:Int)=47) (h:fZ false (s.drop k)=R):fZ true (s.drop k)=R:=by
 have e1:s[k]=47:=bT.1 (by show s[k].toNat=47;omega);have e2:s[k+1]=47:=bT.1 (by show s[k+1].toNat=47;omega);rw [iB (show k<s.length by omega),iB hk,e1,e2] at h|-;rw [<-XD];exact h
theorem bY1 {s R:Str} (hk:k<s.length) (hb:¬ (s[k].toNat:Int)=10) (h:fZ true (s.drop k)=R):fZ true (s.drop (k+1))=R:=by
 rw [iB hk,XF (λe=>hb (by rw [e];rfl))] at h;exact h
theorem XC {s R:Str} (hk:s.length<=k) (h:fZ true (s.drop k)=R):fZ false (s.drop k)=R:=by
 rw [iC hk,yE] at h|-;exact h
theorem XB {s R:Str} (hk:k<s.length) (hb:(s[k].toNat:Int)=10) (h:fZ true (s.drop k)=R):fZ false (s.drop k)=R:=by
 have e1:s[k]=10:=bT.1 (by show s[k].toNat=10;omega);rw [iB hk,e1] at h|-;rw [<-XE];exact h
theorem xK {s:Str} (hk:k<s.length) (hb:oV s[k]=false) (h:¬ (s[k].toNat:Int)=47\/¬ k+1<s.length\/∃ h:k+1<s.length,¬ (s[k+1].toNat:Int)=47):fZ false (s.drop k)=s.drop k:=by
 rw [iB hk];refine xS hb ?_;rintro ⟨e1,e2⟩;rcases h with h | h | ⟨h0,h⟩
 ·exact h (by rw [e1];rfl)
 ·rw [iC (by omega)] at e2;cases e2
 ·rw [iB h0] at e2;exact h (by rw [aW e2];rfl)
theorem MB {s:Str} (hk:s.length<=k):fZ false (s.drop k)=s.drop k:=by rw [iC hk,yE]
theorem oY {s R:Str} (hk:k<=s.length) (h:fZ false (s.drop k)=R) (h2:fZ false (s.drop k)=s.drop k):s.length - R.length=k:=by
 rw [<-h,h2,dK];omega
theorem aJ1 (s:Str) (hl:s.length<=1000000) (o:Nat) (ho:o<=s.length) (w:World) :
 Calls prg 92 #[cJ s,iN o] w λr w'=>r=.returned (.int .i64 ((s.length - (fZ false (s.drop o)).length:Nat):Int))/\Ext w w':=by
 refine y6 func92 Z ntmps92 Z ?_;refine .sr<|.aq Z<|.sq<|.bk<|.lp (X:=Nat) [(0,_)] ⟨Z,Jt⟩ [] (λk=>[(1,iN k)]) (λk=>(λ_=>none)) (λk=>[]) (λk=>k<=s.length/\fZ false (s.drop k)=fZ false (s.drop o)) (λk=>s.length - k) o (λ_ s=>s) ⟨Z,Jt⟩ ⟨ho,Z⟩ λk hC=>?_
 obtain ⟨hk0,hC2⟩:=hC;refine .sq<|.sm Z<|.mv Z<|.yw (.lenS eQ Z)<|.yw (.lss Z Z)<|.nt<|.ce Z (λh8=>?_) (λh8=>?_)
 ·have hk:k<s.length:=by omega
  refine .sk<|.tN<|.bk<|.sm Z<|.mv Z<|.yw (.idxS eQ Z Z Z (b:=s[k]) (j:=k) (List.getElem?_eq_getElem hk))<|.yw (.eql Z Z)<|.mv Z<|.e2 (λh13=>?_) (λh13=>?_)
  ·exact .gG<|.gG<|.gG<|.gG<|.yw (.pickT Z Z)<|.mv Z<|.gG<|.gG<|.gG<|.gG<|.yw (.pickT Z Z)<|.mv Z<|.gG<|.gG<|.gG<|.gG<|.yw (.pickT Z Z)<|.nt<|.cT Z<|.rg<|.mv Z<|.yw (.add Z Z w7)<|.a Z Z<|.nl<|.bN<|.tN<|.ag (k+1) ⟨Z,Jt⟩ ⟨Z,Jt⟩ (λ_ s=>s) ⟨by omega,MD (by omega) (aF4 (by omega)) hC2⟩ (by first | omega | (have:j≠k:=λe=>by subst e;omega);omega)
  refine .gy (.move Z)<|.gy (.move Z)<|.gy (.idxS eQ Z Z Z (b:=s[k]) (j:=k) (List.getElem?_eq_getElem hk))<|.gy (.eql Z Z)<|.yw (.pickF Z Z)<|.mv Z<|.e2 (λh19=>?_) (λh19=>?_)
  ·exact .gG<|.gG<|.gG<|.gG<|.yw (.pickT Z Z)<|.mv Z<|.gG<|.gG<|.gG<|.gG<|.yw (.pickT Z Z)<|.nt<|.cT Z<|.rg<|.mv Z<|.yw (.add Z Z w7)<|.a Z Z<|.nl<|.bN<|.tN<|.ag (k+1) ⟨Z,Jt⟩ ⟨Z,Jt⟩ (λ_ s=>s) ⟨by omega,MD (by omega) (aF4 (by omega)) hC2⟩ (by first | omega | (have:j≠k:=λe=>by subst e;omega);omega)
  refine .gy (.move Z)<|.gy (.move Z)<|.gy (.idxS eQ Z Z Z (b:=s[k]) (j:=k) (List.getElem?_eq_getElem hk))<|.gy (.eql Z Z)<|.yw (.pickF Z Z)<|.mv Z<|.e2 (λh25=>?_) (λh25=>?_)
  ·exact .gG<|.gG<|.gG<|.gG<|.yw (.pickT Z Z)<|.nt<|.cT Z<|.rg<|.mv Z<|.yw (.add Z Z w7)<|.a Z Z<|.nl<|.bN<|.tN<|.ag (k+1) ⟨Z,Jt⟩ ⟨Z,Jt⟩ (λ_ s=>s) ⟨by omega,MD (by omega) (aF4 (by omega)) hC2⟩ (by first | omega | (have:j≠k:=λe=>by subst e;omega);omega)
  refine .gy (.move Z)<|.gy (.move Z)<|.gy (.idxS eQ Z Z Z (b:=s[k]) (j:=k) (List.getElem?_eq_getElem hk))<|.gy (.eql Z Z)<|.yw (.pickF Z Z)<|.nt<|.ce Z (λh30=>?_) (λh30=>?_)
  ·exact .rg<|.mv Z<|.yw (.add Z Z w7)<|.a Z Z<|.nl<|.bN<|.tN<|.ag (k+1) ⟨Z,Jt⟩ ⟨Z,Jt⟩ (λ_ s=>s) ⟨by omega,MD (by omega) (aF4 (by omega)) hC2⟩ (by first | omega | (have:j≠k:=λe=>by subst e;omega);omega)
  refine .sm Z<|.yw (.add Z Z w7)<|.mv Z<|.yw (.lenS eQ Z)<|.yw (.lss Z Z)<|.mv Z<|.e2 (λh38=>?_) (λh38=>?_)
  ·have hk1:k+1<s.length:=by omega
   refine .gy (.move Z)<|.gy (.move Z)<|.gy (.idxS eQ Z Z Z (b:=s[k]) (j:=k) (List.getElem?_eq_getElem hk))<|.gy (.eql Z Z)<|.yw (.pickT Z Z)<|.mv Z<|.e2 (λh44=>?_) (λh44=>?_)
   ·refine .gy (.move Z)<|.gy (.move Z)<|.gy (.add Z Z w7)<|.gy (.idxS eQ Z Z (by omega) (b:=s[(k+1)]) (j:=(k+1)) (List.getElem?_eq_getElem hk1))<|.gy (.eql Z Z)<|.yw (.pickT Z Z)<|.nt<|.ce Z (λh50=>?_) (λh50=>?_)
    ·refine .bk<|.lp (X:=Nat) [(0,_)] ⟨Z,Jt⟩ [] (λj=>[(1,iN j)]) (λj=>(λ_=>none)) (λj=>[]) (λj=>k<=j/\j<=s.length/\fZ true (s.drop j)=fZ false (s.drop o)) (λj=>s.length - j) k (λ_ s=>s) ⟨Z,Jt⟩ ⟨by omega,by omega,cK9 (by omega) (by omega) (by omega) hC2⟩ λj hC=>?_
     obtain ⟨hj0,hj1,hC3⟩:=hC;refine .sq<|.sm Z<|.mv Z<|.yw (.lenS eQ Z)<|.yw (.lss Z Z)<|.mv Z<|.e2 (λh55=>?_) (λh55=>?_)
     ·have hj:j<s.length:=by omega
      refine .gy (.move Z)<|.gy (.move Z)<|.gy (.idxS eQ Z Z Z (b:=s[j]) (j:=j) (List.getElem?_eq_getElem hj))<|.gy (.neq Z Z)<|.yw (.pickT Z Z)<|.nt<|.ce Z (λh60=>?_) (λh60=>?_)
      ·exact .sk<|.tN<|.bk<|.rg<|.mv Z<|.yw (.add Z Z w7)<|.a Z Z<|.nl<|.bN<|.tN<|.ag (j+1) ⟨Z,Jt⟩ ⟨Z,Jt⟩ (λ_ s=>s) ⟨by omega,by omega,bY1 (by omega) (by omega) hC3⟩ (by omega)
      exact .ex<|.tE<|.tE<|.bE<|.bN<|.tN<|.ag j ⟨Z,Jt⟩ ⟨Z,Jt⟩ (λ_ s=>s) ⟨by omega,by first | exact XC (by omega) hC3 | exact XB (show j<s.length by omega) (by omega) hC3⟩ (by first | omega | (have:j≠k:=λe=>by subst e;omega);omega)
     exact .gG<|.gG<|.gG<|.gG<|.yw (.pickF Z Z)<|.nt<|.cF Z<|.ex<|.tE<|.tE<|.bE<|.bN<|.tN<|.ag j ⟨Z,Jt⟩ ⟨Z,Jt⟩ (λ_ s=>s) ⟨by omega,by first | exact XC (by omega) hC3 | exact XB (show j<s.length by omega) (by omega) hC3⟩ (by first | omega | (have:j≠k:=λe=>by subst e;omega);omega)
    refine .sm Z<|.az Z<|.bR<|.tR<|.bR<|.tR<|?_
    refine y9 Z Z λW s=>⟨?_,s.ext⟩
    first
     | (rw [oY hk0 hC2 (xK hk (xL (by omega)) (.inl (by omega)))])
     | (rw [oY hk0 hC2 (xK hk (xL (by omega)) (.inr (.inl (by omega))))])
     | (rw [oY hk0 hC2 (xK hk (xL (by omega)) (.inr (.inr ⟨hk1,by omega⟩)))])
     | (rw [oY hk0 hC2 (MB (by omega))])
   refine .gG<|.gG<|.gG<|.gG<|.gG<|.yw (.pickF Z Z)<|.nt<|.cF Z<|.sm Z<|.az Z<|.bR<|.tR<|.bR<|.tR<|?_
   refine y9 Z Z λW s=>⟨?_,s.ext⟩
   first
    | (rw [oY hk0 hC2 (xK hk (xL (by omega)) (.inl (by omega)))])
    | (rw [oY hk0 hC2 (xK hk (xL (by omega)) (.inr (.inl (by omega))))])
    | (rw [oY hk0 hC2 (xK hk (xL (by omega)) (.inr (.inr ⟨hk1,by omega⟩)))])
    | (rw [oY hk0 hC2 (MB (by omega))])
  refine .gG<|.gG<|.gG<|.gG<|.yw (.pickF Z Z)<|.mv Z<|.gG<|.gG<|.gG<|.gG<|.gG<|.yw (.pickF Z Z)<|.nt<|.cF Z<|.sm Z<|.az Z<|.bR<|.tR<|.bR<|.tR<|?_
  refine y9 Z Z λW s=>⟨?_,s.ext⟩
  first
   | (rw [oY hk0 hC2 (xK hk (xL (by omega)) (.inl (by omega)))])
   | (rw [oY hk0 hC2 (xK hk (xL (by omega)) (.inr (.inl (by omega))))])
   | (rw [oY hk0 hC2 (xK hk (xL (by omega)) (.inr (.inr ⟨hk1,by omega⟩)))])
   | (rw [oY hk0 hC2 (MB (by omega))])
 obtain rfl:k=s.length:=by omega
 refine .ex<|.eb<|.sm Z<|.az Z<|?_
 refine y9 Z Z λW s=>⟨?_,s.ext⟩
 first
  | (rw [oY hk0 hC2 (xK hk (xL (by omega)) (.inl (by omega)))])
  | (rw [oY hk0 hC2 (xK hk (xL (by omega)) (.inr (.inl (by omega))))])
  | (rw [oY hk0 hC2 (xK hk (xL (by omega)) (.inr (.inr ⟨hk1,by omega⟩)))])
  | (rw [oY hk0 hC2 (MB (by omega))])
theorem VT (H:Hp) (w:World) (hA:Agr H w):Calls prg 133 #[] w λr w'=>∃ (b:Nat) (H':Hp),lB H' b 0 (words.map cJ)/\r=.returned (.slice (some ⟨b,0,none⟩) 39 39)/\BX H w H' w':=by
 refine Sx.enter (H:=H) func133 rfl ntmps133 rfl hA ?_;refine .sr<|.a Z Z<|.ns<|.bl Z (aR1 _ _ _ _ _ _ _ _ _ _ _ _ _ _ _ _ _ _ _ _ _ _ _ _ _ _ _ _ _ _ _ _ _ _ _ _ _ _ _) Z λb1=>?_
 refine dD λH1 u1 m1=>?_;refine .az Z<|?_
 exact y9 Z Z λW s=>⟨b1,H1,m1,Z,u1.grow s⟩
theorem aB1 (H:Hp) (w:World) (hA:Agr H w):Calls prg 134 #[] w λr w'=>∃ (b:Nat) (H':Hp),lB H' b 0 (symbols.map cJ)/\r=.returned (.slice (some ⟨b,0,none⟩) 25 25)/\BX H w H' w':=by
 refine Sx.enter (H:=H) func134 rfl ntmps134 rfl hA ?_;refine .sr<|.a Z Z<|.ns<|.bl Z (aR2 _ _ _ _ _ _ _ _ _ _ _ _ _ _ _ _ _ _ _ _ _ _ _ _ _) Z λb1=>?_
 refine dD λH1 u1 m1=>?_;refine .az Z<|?_
 exact y9 Z Z λW s=>⟨b1,H1,m1,Z,u1.grow s⟩
theorem OI {c:UInt8} (h:rV c=true\/kK c=true\/(c.toNat:Int)=95):kY c=true:=by
 simp only [kY,cO,aB];rcases h with h | h | h
 ·exact .inl (.inl h)
 ·exact .inl (.inr h)
 ·exact .inr (by omega)
theorem RN {c:UInt8} (h1:rV c=false) (h2:kK c=false) (h3:¬ (c.toNat:Int)=95):kY c=false:=by
 simp only [kY,mO,bM];exact ⟨⟨h1,h2⟩,by omega⟩
theorem RH {q:UInt8->Bool} {l:Str} (h:k<=pre q l) (hk:¬ k<l.length):k=pre q l:=by
 have:=yM q l;omega
theorem ML (s:Str) (o n:Nat):(s.take (o+n)).drop o=(s.drop o).take n:=by
 rw [yY,vP]
theorem AQ {l x:Str} (h:symbols.find? (λx=>x.isPrefixOf l)=some x):l.take x.length=x:=by
 have h1:=List.find?_some (p:=λ(x:Str)=>x.isPrefixOf l) h;obtain ⟨t,ht⟩:=kC.1 h1;rw [<-ht,oQ]
theorem cJ2 {l:Str} (hk:k<39) (h:words.getD k []=l):words.contains l=true:=by
 rw [iL,<-h,oO (show k<words.length from hk)];exact cD _
theorem cJ1 {l:Str} (h:∀ j,j<39->words.getD j []≠l):words.contains l=false:=by
 rw [Bool.eq_false_iff,Ne,iL];intro hm;obtain ⟨j,hj,e⟩:=sO.1 hm;exact h j hj (by rw [oO hj];exact e)
theorem cB4 (H:Hp) (s:Str) (hl:s.length<=1000000) (o:Nat) (ho:o<s.length) (w:World) (hA:Agr H w) :
 Calls prg 93 #[cJ s,iN o] w λr w'=>r=.returned (.agg [iN ((bK (s.drop o)).1.toNat),cJ ((s.drop o).take (bK (s.drop o)).2),iN o].toArray)/\Ext w w':=by
 obtain ⟨l,hm⟩:∃ l,l=s.drop o:=⟨_,Z⟩;rw [<-hm];have hlen:o+l.length=s.length:=by rw [hm,dK];omega
 have hget:∀ k (h:k<l.length),s[o+k]? = some l[k]:=λk h=>by rw [<-List.getElem?_drop,<-hm,List.getElem?_eq_getElem h]
 cases l with
 | nil=>simp only [aS] at hlen;omega
 | cons c m =>
 have hlen2:(c::m).length=m.length+1:=rfl;refine Sx.enter (H:=H) func93 rfl ntmps93 rfl hA ?_;refine .sr<|.al xV Z λb4=>.ns<|.mv Z<|.aq Z<|.sq<|.sm Z<|.mv Z<|.yw (.idxS eQ Z Z Z (b:=c) (j:=o) (by rw [<-nH o];exact hget 0 (by simp)))<|.yw (.call UU Z (λW s=>PY _ W))<|.nt<|.cd Z (λh15=>?_) (λh15=>?_)
 ·refine .cu (X:=Unit) [(0,_),(1,_),(4,_)] ⟨Z,Z,Z,Jt⟩ (λz=>[(5,.int .i64 ((o+pre kY (c::m):Nat):Int))]) (λz=>H) (λz=>[.box b4 [.int .i64 0,.string ⟨#[]⟩,.int .i64 0] 133]) (λz=>True) ?_ λz hC=>?_
  ·
   refine .bk<|.lp (X:=Nat) [(0,_),(1,_),(4,_)] ⟨Z,Z,Z,Jt⟩ [_] (λk=>[(5,.int .i64 ((o+k:Nat):Int))]) (λk=>H) (λk=>[]) (λk=>k<=pre kY (c::m)) (λk=>pre kY (c::m) - k) 0 (λ_ s=>s) ⟨Z,Jt⟩ (by omega) λk hC=>?_
   refine .sq<|.sm Z<|.mv Z<|.yw (.lenS eQ Z)<|.yw (.lss Z Z)<|.mv Z<|.e2 (λh20=>?_) (λh20=>?_)
   ·have hk:k<(c::m).length:=by omega
    refine .gy (.move Z)<|.gy (.move Z)<|.gy (.idxS eQ Z Z Z (b:=(c::m)[k]) (j:=o+k) (hget k hk))<|.gy (.call UU Z (λW s=>PY _ W))<|.gy (.move Z)<|.b2 (λh25=>?_) (λh25=>?_)
    ·exact .gG<|.gG<|.gG<|.gG<|.gy (.pickT Z Z)<|.gy (.move Z)<|.gG<|.gG<|.gG<|.gG<|.gy (.pickT Z Z)<|.yw (.pickT Z Z)<|.nt<|.cT Z<|.sk<|.tN<|.bk<|.rg<|.mv Z<|.yw (.add Z Z (c:=((o+(k+1):Nat):Int)) ((w6 (by omega)).trans (by omega)))<|.a Z Z<|.nl<|.bN<|.tN<|.ag (k+1) ⟨Z,Jt⟩ ⟨Z,Z,Z,Jt⟩ (λ_ s=>s) (uY hk hC (OI (by first | exact .inl (by assumption) | exact .inr (.inl (by assumption)) | exact .inr (.inr (by omega))))) (by have:=uY hk hC (OI (by first | exact .inl (by assumption) | exact .inr (.inl (by assumption)) | exact .inr (.inr (by omega))));omega)
    refine .gy (.move Z)<|.gy (.move Z)<|.gy (.idxS eQ Z Z Z (b:=(c::m)[k]) (j:=o+k) (hget k hk))<|.gy (.call GH Z (λW s=>FQ _ W))<|.gy (.pickF Z Z)<|.gy (.move Z)<|.b2 (λh31=>?_) (λh31=>?_)
    ·exact .gG<|.gG<|.gG<|.gG<|.gy (.pickT Z Z)<|.yw (.pickT Z Z)<|.nt<|.cT Z<|.sk<|.tN<|.bk<|.rg<|.mv Z<|.yw (.add Z Z (c:=((o+(k+1):Nat):Int)) ((w6 (by omega)).trans (by omega)))<|.a Z Z<|.nl<|.bN<|.tN<|.ag (k+1) ⟨Z,Jt⟩ ⟨Z,Z,Z,Jt⟩ (λ_ s=>s) (uY hk hC (OI (by first | exact .inl (by assumption) | exact .inr (.inl (by assumption)) | exact .inr (.inr (by omega))))) (by have:=uY hk hC (OI (by first | exact .inl (by assumption) | exact .inr (.inl (by assumption)) | exact .inr (.inr (by omega))));omega)
    refine .gy (.move Z)<|.gy (.move Z)<|.gy (.idxS eQ Z Z Z (b:=(c::m)[k]) (j:=o+k) (hget k hk))<|.gy (.eql Z Z)<|.gy (.pickF Z Z)<|.yw (.pickT Z Z)<|.nt<|.ce Z (λh37=>?_) (λh37=>?_)
    ·exact .sk<|.tN<|.bk<|.rg<|.mv Z<|.yw (.add Z Z (c:=((o+(k+1):Nat):Int)) ((w6 (by omega)).trans (by omega)))<|.a Z Z<|.nl<|.bN<|.tN<|.ag (k+1) ⟨Z,Jt⟩ ⟨Z,Z,Z,Jt⟩ (λ_ s=>s) (uY hk hC (OI (by first | exact .inl (by assumption) | exact .inr (.inl (by assumption)) | exact .inr (.inr (by omega))))) (by have:=uY hk hC (OI (by first | exact .inl (by assumption) | exact .inr (.inl (by assumption)) | exact .inr (.inr (by omega))));omega)
    exact .ex<|.eb<|.me () ⟨(by first | (rw [<-RH hC (by omega)];rfl) | (rw [<-CK hk hC (by first | exact RN (by assumption) (by assumption) (by omega) | assumption)];rfl)),Jt⟩ ⟨Z,Z,Z,Jt⟩ (λ_ s=>s) trivial
   exact .gG<|.gG<|.gG<|.gG<|.gG<|.gV<|.gV<|.gV<|.gV<|.gG<|.gG<|.gV<|.gV<|.gV<|.gV<|.gG<|.yw (.pickF Z Z)<|.nt<|.cF Z<|.ex<|.eb<|.me () ⟨(by first | (rw [<-RH hC (by omega)];rfl) | (rw [<-CK hk hC (by first | exact RN (by assumption) (by assumption) (by omega) | assumption)];rfl)),Jt⟩ ⟨Z,Z,Z,Jt⟩ (λ_ s=>s) trivial
  refine .sm Z<|.mv Z<|.mv Z<|.yw (.cast (.midS eQ Z Z Z Z Z (by omega) (by have:=yM kY (c::m);omega)) (by rw [ML,<-hm]))<|.aq Z<|.sq<|.sr<|.ct (X:=Nat) bA5 Z (λW s=>VT H W s.agr) Z λb44 H1 m1 u1=>.yw (.lenSl dR Z)<|.mv Z<|.nt<|.bk<|.lp (X:=Nat) [(0,_),(1,_),(4,_),(5,_),(6,_),(44,_),(45,_)] ⟨Z,Z,Z,Z,Z,Z,Z,Jt⟩ [_] (λk=>[(46,iN k)]) (λk=>H1) (λk=>[]) (λk=>k<=39/\∀ j,j<k->words.getD j []≠((c::m).take (pre kY (c::m)))) (λk=>39 - k) 0 (λ_ s=>s) ⟨Z,Jt⟩ ⟨by omega,λj hj=>by omega⟩ λk hC=>?_
  obtain ⟨hk0,hne⟩:=hC;refine .sr<|.yw (.lss Z Z)<|.nt<|.sq<|.ce Z (λh47=>?_) (λh47=>?_)
  ·refine .sk<|.tN<|.sq<|.bk<|.sr<|.yw (.indexSl dR Z Z Z (by omega) (q:=k) (by omega))<|.yw (.loadM Z bZ m1 (k:=k) (by omega) (RR (by show k<39;omega) []))<|.a Z Z<|.ns<|.mv Z<|.mv Z<|.yw (.eqS Z Z)<|.nt<|.ce Z (λh52=>?_) (λh52=>?_)
   ·have hw:=cJ2 (by omega) h52;refine .sm Z<|.mv Z<|.yw (.build Z (nG _ _ _))<|.sX .head Z Z lW Z<|.zR<|.tR<|.bR<|.tR<|.tR<|?_
    refine y8 Z (.cell Z qC Hm rfl) λW s=>⟨?_,(u1.grow s).ext⟩
    first
     | (simp only [bK,aG,h15,hw,aN,aL,aC];rfl)
     | (simp only [bK,aG,h15,hw,aN,aL,aC,aI];rfl)
     | (simp only [bK,aG,h15,hw,hw9,aN,aL,aC];rfl)
     | (simp only [bK,aG,h15,hw,hw9,aN,aL,aC,aI];rfl)
     | (simp only [bK,aG,h15,h71,hor,aN,aL,aC];rfl)
     | (simp only [bK,aG,h15,h71,hor,aN,aL,aC,aI];rfl)
     | (simp only [bK,aG,h15,h71,hfind,aN,aL,aC];rfl)
     | (simp only [bK,aG,h15,h71,hfind,aN,aL,aC,aI];rfl)
     | (simp only [bK,aG,h15,h71,hfind,aN,aL,aC,AQ hfind];rfl)
     | (simp only [bK,aG,h15,h71,hfind,aN,aL,aC,aI];rfl)
   exact .sk<|.bN<|.tN<|.rg<|.yw (.add Z Z w7)<|.mv Z<|.nt<|.ag (k+1) ⟨Z,Jt⟩ ⟨Z,Z,Z,Z,Z,Z,Z,Jt⟩ (λ_ s=>s) ⟨by omega,λj hj=>by
   by_cases e:j=k
   ·subst e;exact h52
   ·exact hne j (by omega)⟩ (by omega)
  have hw:=cJ1 (λj hj=>hne j (by omega));refine .ex<|.eb<|.sq<|.sm Z<|.yw (.lenS eQ Z)<|.yw (.leq Z Z)<|.nt<|.ce Z (λh59=>?_) (λh59=>?_)
  ·have hw9:pre kY (c::m)<=12:=by have:=yM kY (c::m);rw [dJ] at h59;omega
   refine .sm Z<|.mv Z<|.yw (.build Z (nG _ _ _))<|.sX .head Z Z lW Z<|.nt<|.rt<|.tR<|.tR<|?_
   refine y8 Z (.cell Z qC Hm rfl) λW s=>⟨?_,(u1.grow s).ext⟩
   first
    | (simp only [bK,aG,h15,hw,aN,aL,aC];rfl)
    | (simp only [bK,aG,h15,hw,aN,aL,aC,aI];rfl)
    | (simp only [bK,aG,h15,hw,hw9,aN,aL,aC];rfl)
    | (simp only [bK,aG,h15,hw,hw9,aN,aL,aC,aI];rfl)
    | (simp only [bK,aG,h15,h71,hor,aN,aL,aC];rfl)
    | (simp only [bK,aG,h15,h71,hor,aN,aL,aC,aI];rfl)
    | (simp only [bK,aG,h15,h71,hfind,aN,aL,aC];rfl)
    | (simp only [bK,aG,h15,h71,hfind,aN,aL,aC,aI];rfl)
    | (simp only [bK,aG,h15,h71,hfind,aN,aL,aC,AQ hfind];rfl)
    | (simp only [bK,aG,h15,h71,hfind,aN,aL,aC,aI];rfl)
  have hw9:¬ pre kY (c::m)<=12:=by have:=yM kY (c::m);rw [dJ] at h59;omega
  refine .sk<|.tN<|.sm Z<|.mv Z<|.yw (.cast (.dropS eQ Z Z Z (by omega)) (by rw [<-hm]))<|.mv Z<|.yw (.build Z (nG _ _ _))<|.sX .head Z Z lW Z<|.nt<|.rt<|.tR<|?_
  refine y8 Z (.cell Z qC Hm rfl) λW s=>⟨?_,(u1.grow s).ext⟩
  first
   | (simp only [bK,aG,h15,hw,aN,aL,aC];rfl)
   | (simp only [bK,aG,h15,hw,aN,aL,aC,aI];rfl)
   | (simp only [bK,aG,h15,hw,hw9,aN,aL,aC];rfl)
   | (simp only [bK,aG,h15,hw,hw9,aN,aL,aC,aI];rfl)
   | (simp only [bK,aG,h15,h71,hor,aN,aL,aC];rfl)
   | (simp only [bK,aG,h15,h71,hor,aN,aL,aC,aI];rfl)
   | (simp only [bK,aG,h15,h71,hfind,aN,aL,aC];rfl)
   | (simp only [bK,aG,h15,h71,hfind,aN,aL,aC,aI];rfl)
   | (simp only [bK,aG,h15,h71,hfind,aN,aL,aC,AQ hfind];rfl)
   | (simp only [bK,aG,h15,h71,hfind,aN,aL,aC,aI];rfl)
 refine .sk<|.tN<|.sq<|.sm Z<|.mv Z<|.yw (.idxS eQ Z Z Z (b:=c) (j:=o) (by rw [<-nH o];exact hget 0 (by simp)))<|.yw (.call GH Z (λW s=>FQ _ W))<|.nt<|.cd Z (λh71=>?_) (λh71=>?_)
 ·refine .cu (X:=Unit) [(0,_),(1,_),(4,_)] ⟨Z,Z,Z,Jt⟩ (λz=>[(5,.int .i64 ((o+pre kK (c::m):Nat):Int))]) (λz=>H) (λz=>[.box b4 [.int .i64 0,.string ⟨#[]⟩,.int .i64 0] 133]) (λz=>True) ?_ λz hC=>?_
  ·
   refine .bk<|.lp (X:=Nat) [(0,_),(1,_),(4,_)] ⟨Z,Z,Z,Jt⟩ [_] (λk=>[(5,.int .i64 ((o+k:Nat):Int))]) (λk=>H) (λk=>[]) (λk=>k<=pre kK (c::m)) (λk=>pre kK (c::m) - k) 0 (λ_ s=>s) ⟨Z,Jt⟩ (by omega) λk hC=>?_
   refine .sq<|.sm Z<|.mv Z<|.yw (.lenS eQ Z)<|.yw (.lss Z Z)<|.mv Z<|.e2 (λh76=>?_) (λh76=>?_)
   ·have hk:k<(c::m).length:=by omega
    refine .gy (.move Z)<|.gy (.move Z)<|.gy (.idxS eQ Z Z Z (b:=(c::m)[k]) (j:=o+k) (hget k hk))<|.gy (.call GH Z (λW s=>FQ _ W))<|.yw (.pickT Z Z)<|.nt<|.cd Z (λh81=>?_) (λh81=>?_)
    ·exact .sk<|.tN<|.bk<|.rg<|.mv Z<|.yw (.add Z Z (c:=((o+(k+1):Nat):Int)) ((w6 (by omega)).trans (by omega)))<|.a Z Z<|.nl<|.bN<|.tN<|.ag (k+1) ⟨Z,Jt⟩ ⟨Z,Z,Z,Jt⟩ (λ_ s=>s) (uY hk hC (by assumption)) (by have:=uY hk hC (by assumption);omega)
    exact .ex<|.eb<|.me () ⟨(by first | (rw [<-RH hC (by omega)];rfl) | (rw [<-CK hk hC (by first | exact RN (by assumption) (by assumption) (by omega) | assumption)];rfl)),Jt⟩ ⟨Z,Z,Z,Jt⟩ (λ_ s=>s) trivial
   exact .gG<|.gG<|.gG<|.gG<|.yw (.pickF Z Z)<|.nt<|.cF Z<|.ex<|.eb<|.me () ⟨(by first | (rw [<-RH hC (by omega)];rfl) | (rw [<-CK hk hC (by first | exact RN (by assumption) (by assumption) (by omega) | assumption)];rfl)),Jt⟩ ⟨Z,Z,Z,Jt⟩ (λ_ s=>s) trivial
  refine .sq<|.sm Z<|.mv Z<|.yw (.idxS eQ Z Z Z (b:=c) (j:=o) (by rw [<-nH o];exact hget 0 (by simp)))<|.yw (.eql Z Z)<|.mv Z<|.e2 (λh88=>?_) (λh88=>?_)
  ·have h48:c=48:=bT.1 (by show c.toNat=48;omega);refine .gy (.move Z)<|.gy (.move Z)<|.gy (.add Z Z w7)<|.gy (.gtr Z Z)<|.yw (.pickT Z Z)<|.nt<|.ce Z (λh93=>?_) (λh93=>?_)
   ·have hor:¬ (pre kK (c::m)=1\/c≠48):=by
     rintro (h | h)
     ·omega
     ·exact h h48
    refine .sm Z<|.mv Z<|.yw (.cast (.dropS eQ Z Z Z (by omega)) (by rw [<-hm]))<|.mv Z<|.yw (.build Z (nG _ _ _))<|.sX .head Z Z lW Z<|.nt<|.rt<|.tR<|.tR<|?_
    refine y8 Z (.cell Z qC Hm rfl) λW s=>⟨?_,(s.ext)⟩
    first
     | (simp only [bK,aG,h15,hw,aN,aL,aC];rfl)
     | (simp only [bK,aG,h15,hw,aN,aL,aC,aI];rfl)
     | (simp only [bK,aG,h15,hw,hw9,aN,aL,aC];rfl)
     | (simp only [bK,aG,h15,hw,hw9,aN,aL,aC,aI];rfl)
     | (simp only [bK,aG,h15,h71,hor,aN,aL,aC];rfl)
     | (simp only [bK,aG,h15,h71,hor,aN,aL,aC,aI];rfl)
     | (simp only [bK,aG,h15,h71,hfind,aN,aL,aC];rfl)
     | (simp only [bK,aG,h15,h71,hfind,aN,aL,aC,aI];rfl)
     | (simp only [bK,aG,h15,h71,hfind,aN,aL,aC,AQ hfind];rfl)
     | (simp only [bK,aG,h15,h71,hfind,aN,aL,aC,aI];rfl)
   have hp1:=uY (l:=c::m) (k:=0) (by simp) (cM _) h71;have hor:(pre kK (c::m)=1\/c≠48):=.inl (by omega);refine .sk<|.tN<|.sm Z<|.mv Z<|.mv Z<|.yw (.cast (.midS eQ Z Z Z Z Z (by omega) (by have:=yM kK (c::m);omega)) (by rw [ML,<-hm]))<|.mv Z<|.yw (.build Z (nG _ _ _))<|.sX .head Z Z lW Z<|.nt<|.rt<|.tR<|?_
   refine y8 Z (.cell Z qC Hm rfl) λW s=>⟨?_,(s.ext)⟩
   first
    | (simp only [bK,aG,h15,hw,aN,aL,aC];rfl)
    | (simp only [bK,aG,h15,hw,aN,aL,aC,aI];rfl)
    | (simp only [bK,aG,h15,hw,hw9,aN,aL,aC];rfl)
    | (simp only [bK,aG,h15,hw,hw9,aN,aL,aC,aI];rfl)
    | (simp only [bK,aG,h15,h71,hor,aN,aL,aC];rfl)
    | (simp only [bK,aG,h15,h71,hor,aN,aL,aC,aI];rfl)
    | (simp only [bK,aG,h15,h71,hfind,aN,aL,aC];rfl)
    | (simp only [bK,aG,h15,h71,hfind,aN,aL,aC,aI];rfl)
    | (simp only [bK,aG,h15,h71,hfind,aN,aL,aC,AQ hfind];rfl)
    | (simp only [bK,aG,h15,h71,hfind,aN,aL,aC,aI];rfl)
  have hor:(pre kK (c::m)=1\/c≠48):=.inr (λe=>h88 (by rw [e];rfl));refine .gG<|.gG<|.gG<|.gG<|.yw (.pickF Z Z)<|.nt<|.cF Z<|.sk<|.tN<|.sm Z<|.mv Z<|.mv Z<|.yw (.cast (.midS eQ Z Z Z Z Z (by omega) (by have:=yM kK (c::m);omega)) (by rw [ML,<-hm]))<|.mv Z<|.yw (.build Z (nG _ _ _))<|.sX .head Z Z lW Z<|.nt<|.rt<|.tR<|?_
  refine y8 Z (.cell Z qC Hm rfl) λW s=>⟨?_,(s.ext)⟩
  first
   | (simp only [bK,aG,h15,hw,aN,aL,aC];rfl)
   | (simp only [bK,aG,h15,hw,aN,aL,aC,aI];rfl)
   | (simp only [bK,aG,h15,hw,hw9,aN,aL,aC];rfl)
   | (simp only [bK,aG,h15,hw,hw9,aN,aL,aC,aI];rfl)
   | (simp only [bK,aG,h15,h71,hor,aN,aL,aC];rfl)
   | (simp only [bK,aG,h15,h71,hor,aN,aL,aC,aI];rfl)
   | (simp only [bK,aG,h15,h71,hfind,aN,aL,aC];rfl)
   | (simp only [bK,aG,h15,h71,hfind,aN,aL,aC,aI];rfl)
   | (simp only [bK,aG,h15,h71,hfind,aN,aL,aC,AQ hfind];rfl)
   | (simp only [bK,aG,h15,h71,hfind,aN,aL,aC,aI];rfl)
 refine .sk<|.tN<|.sq<|.sr<|.ct (X:=Nat) bA4 Z (λW s=>aB1 H W s.agr) Z λb105 H1 m1 u1=>.yw (.lenSl dR Z)<|.mv Z<|.nt<|.bk<|.lp (X:=Nat) [(0,_),(1,_),(4,_),(105,_),(106,_)] ⟨Z,Z,Z,Z,Z,Jt⟩ [_] (λk=>[(107,iN k)]) (λk=>H1) (λk=>[]) (λk=>k<=25/\∀ j,j<k->DI (c::m) (symbols.getD j [])=false) (λk=>25 - k) 0 (λ_ s=>s) ⟨Z,Jt⟩ ⟨by omega,λj hj=>by omega⟩ λk hC=>?_
 obtain ⟨hk0,hne⟩:=hC;refine .sr<|.yw (.lss Z Z)<|.nt<|.sq<|.ce Z (λh108=>?_) (λh108=>?_)
 ·refine .sk<|.tN<|.sq<|.bk<|.sr<|.yw (.indexSl dR Z Z Z (by omega) (q:=k) (by omega))<|.yw (.loadM Z bZ m1 (k:=k) (by omega) (RR (by show k<25;omega) []))<|.a Z Z<|.ns<|.mv Z<|.yw (.lenS eQ Z)<|.mv Z<|.yw (.sub Z Z (w6 (by omega)))<|.mv Z<|.yw (.lenS eQ Z)<|.yw (.geq Z Z)<|.mv Z<|.e2 (λh118=>?_) (λh118=>?_)
  ·refine .gy (.move Z)<|.gy (.move Z)<|.gy (.move Z)<|.gy (.move Z)<|.gy (.lenS eQ Z)<|.gy (.add Z Z w7)<|.gy (.cast (.midS eQ Z Z Z Z (hi:=o+(symbols.getD k []).length) (by omega) (by omega) (by omega)) (by rw [ML,<-hm]))<|.gy (.move Z)<|.gy (.eqS Z Z)<|.yw (.pickT Z Z)<|.nt<|.ce Z (λh128=>?_) (λh128=>?_)
   ·have hfind:=aI5 (l:=c::m) (by omega) hne (by simp only [DI,aF,aB] at *;exact ⟨by omega,by assumption⟩);refine .sm Z<|.mv Z<|.yw (.build Z (nG _ _ _))<|.sX .head Z Z lW Z<|.zR<|.tR<|.bR<|.tR<|?_
    refine y8 Z (.cell Z qC Hm rfl) λW s=>⟨?_,(u1.grow s).ext⟩
    first
     | (simp only [bK,aG,h15,hw,aN,aL,aC];rfl)
     | (simp only [bK,aG,h15,hw,aN,aL,aC,aI];rfl)
     | (simp only [bK,aG,h15,hw,hw9,aN,aL,aC];rfl)
     | (simp only [bK,aG,h15,hw,hw9,aN,aL,aC,aI];rfl)
     | (simp only [bK,aG,h15,h71,hor,aN,aL,aC];rfl)
     | (simp only [bK,aG,h15,h71,hor,aN,aL,aC,aI];rfl)
     | (simp only [bK,aG,h15,h71,hfind,aN,aL,aC];rfl)
     | (simp only [bK,aG,h15,h71,hfind,aN,aL,aC,aI];rfl)
     | (simp only [bK,aG,h15,h71,hfind,aN,aL,aC,AQ hfind];rfl)
     | (simp only [bK,aG,h15,h71,hfind,aN,aL,aC,aI];rfl)
   exact .sk<|.bN<|.tN<|.rg<|.yw (.add Z Z w7)<|.mv Z<|.nt<|.ag (k+1) ⟨Z,Jt⟩ ⟨Z,Z,Z,Z,Z,Jt⟩ (λ_ s=>s) ⟨by omega,λj hj=>by
   by_cases e:j=k
   ·subst e;simp only [DI,dH,bM] at *;first | exact .inl (by omega) | exact .inr (by assumption)
   ·exact hne j (by omega)⟩ (by omega)
  exact .gG<|.gG<|.gG<|.gG<|.gG<|.gG<|.gG<|.gG<|.gG<|.yw (.pickF Z Z)<|.nt<|.cF Z<|.sk<|.bN<|.tN<|.rg<|.yw (.add Z Z w7)<|.mv Z<|.nt<|.ag (k+1) ⟨Z,Jt⟩ ⟨Z,Z,Z,Z,Z,Jt⟩ (λ_ s=>s) ⟨by omega,λj hj=>by
   by_cases e:j=k
   ·subst e;simp only [DI,dH,bM] at *;first | exact .inl (by omega) | exact .inr (by assumption)
   ·exact hne j (by omega)⟩ (by omega)
 have hfind:=aI4 (l:=c::m) (λj hj=>hne j (by omega));refine .ex<|.eb<|.sm Z<|.mv Z<|.yw (.cast (.dropS eQ Z Z Z (by omega)) (by rw [<-hm]))<|.mv Z<|.yw (.build Z (nG _ _ _))<|.sX .head Z Z lW Z<|.nt<|.rt<|?_
 refine y8 Z (.cell Z qC Hm rfl) λW s=>⟨?_,(u1.grow s).ext⟩
 first
  | (simp only [bK,aG,h15,hw,aN,aL,aC];rfl)
  | (simp only [bK,aG,h15,hw,aN,aL,aC,aI];rfl)
  | (simp only [bK,aG,h15,hw,hw9,aN,aL,aC];rfl)
  | (simp only [bK,aG,h15,hw,hw9,aN,aL,aC,aI];rfl)
  | (simp only [bK,aG,h15,h71,hor,aN,aL,aC];rfl)
  | (simp only [bK,aG,h15,h71,hor,aN,aL,aC,aI];rfl)
  | (simp only [bK,aG,h15,h71,hfind,aN,aL,aC];rfl)
  | (simp only [bK,aG,h15,h71,hfind,aN,aL,aC,aI];rfl)
  | (simp only [bK,aG,h15,h71,hfind,aN,aL,aC,AQ hfind];rfl)
  | (simp only [bK,aG,h15,h71,hfind,aN,aL,aC,aI];rfl)
theorem cC2 {s m:Str} {o:Nat} (hm:m=s.drop o) (h:o<s.length) (hsl:(fZ false (m.drop (bK m).2)).length<=m.length - (bK m).2) :
 fZ false (m.drop (bK m).2)=s.drop (o+(m.length - (fZ false (m.drop (bK m).2)).length)):=by
 have h1:=KS false (m.drop (bK m).2);rw [dK,gO] at h1
 by_cases h0:(bK m).2<=m.length
 ·rw [show (bK m).2+(m.length - (bK m).2 - (fZ false (m.drop (bK m).2)).length)=m.length - (fZ false (m.drop (bK m).2)).length by omega] at h1;rw [<-gO,<-hm];exact h1.symm
 ·have e:m.drop (bK m).2=[]:=iC (by omega);rw [e,yE,<-gO,<-hm];simp
theorem cX2 (H:Hp) (s:Str) (hl:s.length<=1000000) (o:Nat) (ho:o<s.length) (m:Str) (hm:m=s.drop o) (w:World) (hA:Agr H w) :
 Calls prg 93 #[cJ s,iN o] w λr w'=>r=.returned (.agg (cTk .i64 ⟨(bK m).1,m.take (bK m).2,o⟩).toArray)/\Ext w w':=by
 subst hm;exact cB4 H s hl o ho w hA
theorem cC3 (H:Hp) (s:Str) (hl:s.length<=1000000) (w:World) (hA:Agr H w) :
 Calls prg 51 #[cJ s] w λr w'=>∃ (v:Value) (H':Hp),Rep H' (.seq 3 ((sE s).map (dTk .i64))) [v]/\r=.returned v/\BX H w H' w':=by
 refine Sx.enter (H:=H) func51 rfl ntmps51 rfl hA ?_;refine .sr<|.a Z Z<|.ns<|.a Z Z<|?_
 refine Sx.row0 133 3 ?_;refine .ns<|.mv Z<|.yw (.call ZH Z (λW _=>aJ1 s hl 0 (by omega) W))<|.aq Z<|.sq<|.bk<|.lp (X:=Nat × Nat × Value × List Value) [(0,_)] ⟨Z,Jt⟩ [] (λz=>[(3,z.2.2.1),(4,iN z.1)]) (λz=>H) (λz=>[.row 133 3 z.2.2.1 z.2.1 z.2.2.2]) (λz=>z.1<=s.length/\z.2.1<=z.1/\∃ tk:List Tk,tk.length=z.2.1/\dA H 3 (tk.map (dTk .i64)) z.2.2.2/\tk++GP (s.length+1) z.1 (s.drop z.1)=sE s) (λz=>s.length - z.1) (s.length - (fZ false s).length,0,.slice none 0 0,[]) (λ_ s=>s) ⟨Z,Z,Jt⟩ ⟨by dsimp only;omega,by dsimp only;omega,[],Z,dA.nil,by rw [KS];rfl⟩ λz hC=>?_
 obtain ⟨o,n,r,xs⟩:=z;dsimp only at hC|-;obtain ⟨ho,hn,tk,hk,hz,htk⟩:=hC;refine .sq<|.sm Z<|.mv Z<|.yw (.lenS eQ Z)<|.yw (.lss Z Z)<|.nt<|.ce Z (λh11=>?_) (λh11=>?_)
 ·have hlt:o<s.length:=by omega
  obtain ⟨m,hm⟩:∃ m,m=s.drop o:=⟨_,Z⟩;have hml:m.length=s.length - o:=by rw [hm,dK]
  have hm0:m≠[]:=by intro e;rw [e] at hml;simp at hml;omega
  have hrk:=zE hm0;have htl:(m.take (bK m).2).length=(bK m).2:=by rw [dJ];omega
  rw [<-hm] at htk;have hsl:=qQ false (m.drop (bK m).2);rw [dK] at hsl;exact .sk<|.tN<|.bk<|.sm Z<|.mv Z<|.yw (.call bQ8 Z (λW t=>cX2 H s hl o hlt m hm W t.agr))<|.al xV Z λb5=>.sW .head Z Z lW (by simp [cTk,Value.oneCell',cJ]) Z<|.ns<|.mv Z<|.yw (.loadW Z qC Hm Z)<|.bl Z (bC1 _ _ _) Z λb17=>.ap (news:=cTk .i64 ⟨(bK m).1,m.take (bK m).2,o⟩) cI2 Z (λ_=>fU) Z (.box Hm z0) Z (by simp [cTk,Value.oneCell',cJ]) (by simp [maxLen];omega) (by omega) Z λr18 _=>.aq Z<|.rg<|.mv Z<|.mv Z<|.fA Z nW<|.lD Z bZ dN Z<|.yw (.lenS eQ Z)<|.yw (.add Z Z (c:=((o+(bK m).2:Nat):Int)) (by rw [htl];exact (w6 (by omega)).trans (by omega)))<|.yw (.cast (.call ZH Z (λW _=>aJ1 s hl (o+(bK m).2) (by omega) W)) (by rw [<-gO,<-hm,show s.length - (fZ false (m.drop (bK m).2)).length=o+(m.length - (fZ false (m.drop (bK m).2)).length) by omega]))<|.a Z Z<|.nl<|.bN<|.tN<|.ag (x:=(o,n,r,xs)) (o+(m.length - (fZ false (m.drop (bK m).2)).length),n+1,r18,xs++cTk .i64 ⟨(bK m).1,m.take (bK m).2,o⟩) ⟨Z,Z,Jt⟩ ⟨Z,Jt⟩ (λ_ s=>(s.pick [2] _ Z Z)) ⟨by dsimp only;omega,by dsimp only;omega,tk++[⟨(bK m).1,m.take (bK m).2,o⟩],by simp;omega,by dsimp only;rw [aV];exact hz.snoc (aA9 (by rw [htl];omega)) Z,by dsimp only;rw [<-htk,aQ,<-cC2 hm hlt hsl,tU hm0,aR,bU,IA (s.length+1) s.length _ _ (by omega) (by omega)]⟩ (by dsimp only;omega)
 obtain rfl:o=s.length:=by omega
 rw [List.drop_length,wQ,aX] at htk;refine .ex<|.eb<|.sm Z<|.az Z<|?_
 refine At.pm [0] [_] rfl rfl ?_;refine dC (ds:=(sE s).map (dTk .i64)) (by rw [<-htk];simp;omega) (by rw [<-htk];exact hz) λH3 p3 c3 u3 hr3 hs3=>?_;exact y9 Z Z λW t=>⟨r,H3,hs3,Z,u3.grow t⟩
theorem bV6:jP prg 125=some (some 2):=by kernel_rfl
theorem aZ8:cU prg 146=true:=by kernel_rfl
theorem WQ:dL prg 125 0=some 0:=by kernel_rfl
theorem WP:dL prg 125 1=some 1:=by kernel_rfl
theorem bI8:QW prg 2=some Go.IntKind.i64:=by kernel_rfl
theorem aY9:gH prg 125=some 2:=by kernel_rfl
theorem aP8:slN prg 195=some 2:=by kernel_rfl
theorem aY5:mD prg 125=some [Go.Value.string { data:={ toList:=[] } },Go.Value.int Go.IntKind.u8 (Int.ofNat 0)]:=by kernel_rfl
theorem PJ:cU prg 89=true:=by kernel_rfl
theorem GK (x0:Int) (x3p:Option Addr) (x3n x3c:Nat):gE prg 27 [(0,.int .u8 x0),(3,.slice x3p x3n x3c)]=some [.int .u8 x0,.string ⟨#[]⟩,.int .i64 0,.slice x3p x3n x3c]:=by kernel_rfl
theorem VH (x00 x01 x02 x03 x10 x11 x12 x13:Value):oK prg 25 2 [(0,.agg [x00,x01,x02,x03].toArray),(1,.agg [x10,x11,x12,x13].toArray)]=some (27,[x00,x01,x02,x03,x10,x11,x12,x13]):=by kernel_rfl
theorem JH:cU prg 48=true:=by kernel_rfl
theorem bS6:cU prg 49=true:=by kernel_rfl
theorem bQ9:cU prg 90=true:=by kernel_rfl
theorem UV:cU prg 130=true:=by kernel_rfl
theorem aZ6:cU prg 157=true:=by kernel_rfl
theorem UQ:cU prg 172=true:=by kernel_rfl
theorem aZ2:cU prg 182=true:=by kernel_rfl
theorem jK (x0:ByteArray) (x1:Int):gE prg 125 [(0,.string x0),(1,.int .u8 x1)]=some [.string x0,.int .u8 x1]:=by kernel_rfl
theorem QL (x00 x01:Value):oK prg 195 1 [(0,.agg [x00,x01].toArray)]=some (125,[x00,x01]):=by kernel_rfl
theorem QK (x00 x01 x10 x11:Value):oK prg 195 2 [(0,.agg [x00,x01].toArray),(1,.agg [x10,x11].toArray)]=some (125,[x00,x01,x10,x11]):=by kernel_rfl
theorem aR4 (x00 x01 x10 x11 x20 x21:Value):oK prg 195 3 [(0,.agg [x00,x01].toArray),(1,.agg [x10,x11].toArray),(2,.agg [x20,x21].toArray)]=some (125,[x00,x01,x10,x11,x20,x21]):=by kernel_rfl
theorem aR3 (x00 x01 x10 x11 x20 x21 x30 x31 x40 x41 x50 x51:Value):oK prg 195 6 [(0,.agg [x00,x01].toArray),(1,.agg [x10,x11].toArray),(2,.agg [x20,x21].toArray),(3,.agg [x30,x31].toArray),(4,.agg [x40,x41].toArray),(5,.agg [x50,x51].toArray)]=some (125,[x00,x01,x10,x11,x20,x21,x30,x31,x40,x41,x50,x51]):=by kernel_rfl
theorem nN:cU prg 23=true:=by kernel_rfl
theorem nE:cU prg 74=true:=by kernel_rfl
theorem LU:cU prg 120=true:=by kernel_rfl
theorem UN:cU prg 185=true:=by kernel_rfl
theorem LY (x0:Int):gE prg 27 [(0,.int .u8 x0)]=some [.int .u8 x0,.string ⟨#[]⟩,.int .i64 0,.slice none 0 0]:=by kernel_rfl
theorem NO (x0:Int) (x1:ByteArray):gE prg 27 [(0,.int .u8 x0),(1,.string x1)]=some [.int .u8 x0,.string x1,.int .i64 0,.slice none 0 0]:=by kernel_rfl
theorem VJ (x0:Int) (x1:ByteArray) (x3p:Option Addr) (x3n x3c:Nat):gE prg 27 [(0,.int .u8 x0),(1,.string x1),(3,.slice x3p x3n x3c)]=some [.int .u8 x0,.string x1,.int .i64 0,.slice x3p x3n x3c]:=by kernel_rfl
theorem aG5 (x0 x2:Int):gE prg 27 [(0,.int .u8 x0),(2,.int .i64 x2)]=some [.int .u8 x0,.string ⟨#[]⟩,.int .i64 x2,.slice none 0 0]:=by kernel_rfl
theorem ZM:cU prg 69=true:=by kernel_rfl
theorem bB1:cU prg 111=true:=by kernel_rfl
theorem bB0:cU prg 113=true:=by kernel_rfl
theorem VI (x0:Int) (x1:ByteArray) (x2:Int):gE prg 96 [(0,.int .u8 x0),(1,.string x1),(2,.int .i64 x2)]=some [.int .u8 x0,.string x1,.int .i64 x2]:=by kernel_rfl
theorem fE:jP prg 65=some none:=by kernel_rfl
theorem ZR:cU prg 37=true:=by kernel_rfl
theorem ZN:cU prg 68=true:=by kernel_rfl
theorem cI1:tM prg 97=some (96,3,32):=by kernel_rfl
theorem bP8:gH prg 65=some 1:=by kernel_rfl
theorem bP6:gH prg 97=some 1:=by kernel_rfl
theorem bP3:mD prg 65=some [Go.Value.pointer none]:=by kernel_rfl
theorem bC6 (x2:Int):gE prg 99 [(2,.int .i64 x2)]=some [.slice none 0 0,.int .i64 0,.int .i64 x2,.string ⟨#[]⟩,.slice none 0 0,.slice none 0 0,.slice none 0 0,.int .i64 0,.int .i64 0]:=by kernel_rfl
theorem bC0 (x00 x01 x02:Value):oK prg 97 1 [(0,.agg [x00,x01,x02].toArray)]=some (96,[x00,x01,x02]):=by kernel_rfl
theorem ZV:cU prg 22=true:=by kernel_rfl
theorem ZU:cU prg 24=true:=by kernel_rfl
theorem aS0  : gE prg 27 []=some [.int .u8 0,.string ⟨#[]⟩,.int .i64 0,.slice none 0 0]:=by kernel_rfl
theorem aT1:jP prg 73=some none:=by kernel_rfl
theorem gD:cU prg 54=true:=by kernel_rfl
theorem zT:cU prg 55=true:=by kernel_rfl
theorem uD:cU prg 56=true:=by kernel_rfl
theorem JE:cU prg 95=true:=by kernel_rfl
theorem aG1:dL prg 75 0=some 0:=by kernel_rfl
theorem GD:dL prg 75 1=some 1:=by kernel_rfl
theorem nT:dL prg 75 2=some 2:=by kernel_rfl
theorem GC:dL prg 75 3=some 3:=by kernel_rfl
theorem lT:dL prg 75 4=some 4:=by kernel_rfl
theorem uA:dL prg 133 0=some 0:=by kernel_rfl
theorem bI6:slN prg 73=some 3:=by kernel_rfl
theorem aS8 (x2:Int):gE prg 133 [(2,.int .i64 x2)]=some [.int .i64 0,.string ⟨#[]⟩,.int .i64 x2]:=by kernel_rfl
structure Tkr (H:Hp) (t:Str) (n:Nat) (ts:List Tk) (tp:Option Addr) (tc:Nat):Prop where
 rep:Rep H (.seq 3 (ts.map (dTk .i64))) [.slice tp ts.length tc]
 good:∀ x∈ts,Tkg x
 num:∀ x∈ts,x.k=3->pre kK x.t=x.t.length
 short:∀ x∈ts,x.t.length<=1000000
 kz:∀ x∈ts,x.k≠0
 len:t.length=n
variable {t:Str}
theorem Tkr.up (h:Tkr H t n ts tp tc) (u:Up H H'):Tkr H' t n ts tp tc:=⟨h.rep.up u,h.good,h.num,h.short,h.kz,h.len⟩
theorem Tkr.tk (K:Tkr H t n ts tp tc) (h:q.r<:+ts):(tkH n q.r).t.length<=1000000:=by
 rcases RF (n:=n) h with e | e
 ·rw [e];show (0:Nat)<=_;omega
 ·exact K.short _ e
theorem Tkr.numD (K:Tkr H t n ts tp tc) (h:q.r<:+ts):(tkH n q.r).k=3->pre kK (tkH n q.r).t=(tkH n q.r).t.length/\¬ (tkH n q.r).t=[]:=by
 intro hk;rcases RF (n:=n) h with e | e
 ·rw [e] at hk;cases hk
 ·exact ⟨K.num _ e hk,(K.good _ e).2.2⟩
theorem Tkr.last (K:Tkr H t n ts tp tc) (h:q.r<:+ts):(tkH n q.r).k=0↔q.r=[]:=by
 constructor
 ·intro hk;cases hr:q.r with
  | nil=>rfl
  | cons x l =>
   refine absurd ?_ (K.kz x (h.subset (by rw [hr];exact eE ..)));rw [hr] at hk;exact hk
 ·intro e;rw [e];rfl
theorem bH5 (a b c:Value):∀ W,(Instr.field 133 (.agg [a,b,c].toArray) 0).run prg W=.ok a W:=λ_=>by kernel_rfl
theorem cP0 (a b c:Value):∀ W,(Instr.field 133 (.agg [a,b,c].toArray) 2).run prg W=.ok c W:=λ_=>by kernel_rfl
theorem HO:ac w q=(decide (((q.e:Nat):Int)=0) && ((decide ((((tkH n q.r).k.toNat:Nat):Int)=2) || decide ((((tkH n q.r).k.toNat:Nat):Int)=4)) && decide ((tkH n q.r).t=w))):=by
 have he:decide (((q.e:Nat):Int)=0)=decide (q.e=0):=by
  rw [bD,aB,aB];omega
 unfold ac;rw [he];refine congrArg (decide (q.e=0) && ·) ?_;cases hr:q.r with
 | nil=>rfl
 | cons x l =>
  have hk:∀ m:Nat,m<256->(x.k == UInt8.ofNat m)=decide (((x.k.toNat:Nat):Int)=(m:Int)):=by
   intro m hm;rw [bD,fC,aB]
   constructor
   ·intro e;rw [e,uQ hm]
   ·intro e;exact bT.1 (by rw [uQ hm];omega)
  show ((x.k == UInt8.ofNat 2 || x.k == UInt8.ofNat 4) && decide (x.t=w))=_;rw [hk 2 (by decide),hk 4 (by decide)]
  rfl
theorem dE2 (h:ac w q=true):q.r≠[]:=by
 intro e;have:=(WF h).2;rw [e] at this;cases this
theorem SF (K:Tkr H t n ts tp tc) (hq:q.r<:+ts) (s:St H w0 (PA b t tp ts tc q::bs) W) :
 Calls prg 55 #[.pointer (some ⟨b,0,none⟩)] W λe W'=>∃ _:Unit,(True)/\e=.returned (.agg (cTk .i64 (tkH n q.r)).toArray)/\St H w0 (PA b t tp ts tc q::bs) W':=by
 have hcap:=K.rep.cap;refine fD func55 rfl ntmps55 rfl s ?_;refine .sr<|.al xV Z λb2=>.nt<|.sq<|.sq<|.fL 9 [(0,0),(1,0),(2,0),(3,0),(4,0),(5,0),(6,0),(7,0),(8,0)]<|.mv Z<|.nC Z<|.fA Z nT<|.lD Z dZ dN Z<|.mv Z<|.nC Z<|.fA Z GD<|.lD Z aT1 dN Z<|.yw (.lenSl bI6 Z)<|.fn (tl:=[_]) Z<|.yw (.lss Z Z)<|.nt<|.ce Z (λh12=>?_) (λh12=>?_)
 ·have hi:sZ ts q<ts.length:=by omega
  obtain ⟨et,_⟩:=aB8 (n:=n) hq hi;obtain ⟨bE,oE,cE,hpE,rE,lE,mE⟩:=K.rep.elem (eL (f:=dTk .i64) hi);cases hpE;rw [et] at rE;obtain ⟨rfl,_⟩:=aB0 rE;refine .sq<|.fL 10 [(0,0),(1,0),(2,0),(3,0),(4,0),(5,0),(6,0),(7,0),(8,0),(9,0)]<|.mv Z<|.nC Z<|.fA Z GD<|.lD Z aT1 dN Z<|.mv Z<|.nC Z<|.fA Z nT<|.lD Z dZ dN Z<|.yw (.indexSl bI6 Z Z Z (by omega) (q:=oE+sZ ts q * 3) Z)<|.yw (.loadMW Z qC mE Z)<|.fn (tl:=[_]) Z<|.sW .head Z Z lW (by simp [cTk,Value.oneCell',cJ]) Z<|.nt<|.rt<|.tR<|?_
  refine y8 Z (.cell Z qC Hm rfl) λW s=>?_
  first
   | (exact ⟨(),Jt,Z,s.p2_1 [1] rfl⟩)
   | (exact ⟨(),Jt,(by rw [hr];rfl),s.p2_1 [1] rfl⟩)
 have hr:=SQ hq (by omega);obtain rfl:=K.len;refine .sk<|.tN<|.sm Z<|.nC Z<|.fA Z aG1<|.lD Z bZ dN Z<|.yw (.lenS eQ Z)<|.yw (.build Z (aS8 _))<|.sW .head Z Z lW (by simp [cTk,Value.oneCell',cJ]) Z<|.nt<|.rt<|?_
 refine y8 Z (.cell Z qC Hm rfl) λW s=>?_
 first
  | (exact ⟨(),Jt,Z,s.p2_1 [1] rfl⟩)
  | (exact ⟨(),Jt,(by rw [hr];rfl),s.p2_1 [1] rfl⟩)
theorem EE (K:Tkr H t n ts tp tc) (hq:q.r<:+ts) (c:Nat) (s:St H w0 (PA b t tp ts tc q::bs) W) :
 Calls prg 56 #[.pointer (some ⟨b,0,none⟩),iN c] W λe W'=>∃ _:Unit,(True)/\e=.returned (.tuple #[])/\St H w0 (PA b t tp ts tc (q.fail n c)::bs) W':=by
 refine fD func56 rfl ntmps56 rfl s ?_;refine .sm Z<|.nC Z<|.fA Z lT<|.lD Z dZ Hm Z<|.yw (.eql Z Z)<|.nt<|.ce Z (λh8=>?_) (λh8=>?_)
 ·have h0:q.e=0:=by omega
  have e1:q.fail n c=⟨q.r,c,(tkH n q.r).o⟩:=by unfold Sg.fail;rw [aE h0,cS9]
  rw [e1];refine .sm Z<|.mv Z<|.nC Z<|.fA Z lT<|.st .head Z Z jG Z (nb Z) Z<|.nt<|.rg<|.mv Z<|.mv Z<|.cs (X:=Unit) zT Z (λW s=>SF (q:=⟨q.r,c,q.o⟩) K hq  (s.p1_1 [0] Z)) Z λ_ _=>.yw (.fld Z (cP0 _ _ _))<|.nC Z<|.fA Z GC<|.st .head Z Z jG Z (nb Z) Z<|.nl<|?_
  refine pK (.inr Z) rfl .nil rfl λW s=>⟨(),Jt,Z,?_⟩;exact s.p1_1 [0] rfl
 have h0:¬ q.e=0:=by omega
 have e1:q.fail n c=q:=by unfold Sg.fail;rw [aA h0]
 rw [e1];refine .sk<|?_
 refine pK (.inr Z) rfl .nil rfl λW s=>⟨(),Jt,Z,?_⟩;exact s.p1_1 [0] rfl
theorem cO1 (K:Tkr H t n ts tp tc) (hq:q.r<:+ts) (w:Str) (s:St H w0 (PA b t tp ts tc q::bs) W) :
 Calls prg 95 #[.pointer (some ⟨b,0,none⟩),cJ w] W λe W'=>∃ _:Unit,(True)/\e=.returned (.bool (ac w q))/\St H w0 (PA b t tp ts tc q::bs) W':=by
 refine fD func95 rfl ntmps95 rfl s ?_;refine .sr<|.a Z Z<|.ns<|.mv Z<|.cs (X:=Unit) zT Z (λW s=>SF K hq  (s.p1_1 [0] Z)) Z λ_ _=>.al xV Z λb5=>.sW .head Z Z lW (by simp [cTk,Value.oneCell',cJ]) Z<|.ns<|.mv Z<|.nC Z<|.fA Z lT<|.lD Z dZ dN Z<|.yw (.eql Z Z)<|.mv Z<|.b2 (λh13=>?_) (λh13=>?_)
 ·refine .gy (.fieldAddr Z uA)<|.gy (.load Z dZ Hm Z)<|.gy (.eql Z Z)<|.gy (.move Z)<|.b2 (λh17=>?_) (λh17=>?_)
  ·refine .gG<|.gG<|.gG<|.gy (.pickT Z Z)<|.yw (.pickT Z Z)<|.mv Z<|.gy (.fieldAddr Z nW)<|.gy (.load Z bZ Hm Z)<|.gy (.move Z)<|.gy (.eqS Z Z)<|.yw (.pickT Z Z)<|.az Z<|?_
   refine y9 Z Z λW s=>?_
   first
    | (exact ⟨(),Jt,(by rw [HO (n:=n),h13,h17];rfl),s.p2_1 [1] rfl⟩)
    | (exact ⟨(),Jt,(by rw [HO (n:=n),h13];rfl),s.p2_1 [1] rfl⟩)
    | (exact ⟨(),Jt,(by rw [HO (n:=n),h13,h17,h23];rfl),s.p2_1 [1] rfl⟩)
    | (exact ⟨(),Jt,(by rw [HO (n:=n),h13,h23];rfl),s.p2_1 [1] rfl⟩)
  refine .gy (.fieldAddr Z uA)<|.gy (.load Z dZ Hm Z)<|.gy (.eql Z Z)<|.gy (.pickF Z Z)<|.yw (.pickT Z Z)<|.mv Z<|.b2 (λh23=>?_) (λh23=>?_)
  ·refine .gy (.fieldAddr Z nW)<|.gy (.load Z bZ Hm Z)<|.gy (.move Z)<|.gy (.eqS Z Z)<|.yw (.pickT Z Z)<|.az Z<|?_
   refine y9 Z Z λW s=>?_
   first
    | (exact ⟨(),Jt,(by rw [HO (n:=n),h13,h17];rfl),s.p2_1 [1] rfl⟩)
    | (exact ⟨(),Jt,(by rw [HO (n:=n),h13];rfl),s.p2_1 [1] rfl⟩)
    | (exact ⟨(),Jt,(by rw [HO (n:=n),h13,h17,h23];rfl),s.p2_1 [1] rfl⟩)
    | (exact ⟨(),Jt,(by rw [HO (n:=n),h13,h23];rfl),s.p2_1 [1] rfl⟩)
  refine .gG<|.gG<|.gG<|.gG<|.yw (.pickF Z Z)<|.az Z<|?_
  refine y9 Z Z λW s=>?_
  first
   | (exact ⟨(),Jt,(by rw [HO (n:=n),h13,h17];rfl),s.p2_1 [1] rfl⟩)
   | (exact ⟨(),Jt,(by rw [HO (n:=n),h13];rfl),s.p2_1 [1] rfl⟩)
   | (exact ⟨(),Jt,(by rw [HO (n:=n),h13,h17,h23];rfl),s.p2_1 [1] rfl⟩)
   | (exact ⟨(),Jt,(by rw [HO (n:=n),h13,h23];rfl),s.p2_1 [1] rfl⟩)
 refine .gG<|.gG<|.gG<|.gG<|.gV<|.gV<|.gV<|.gG<|.yw (.pickF Z Z)<|.mv Z<|.gG<|.gG<|.gG<|.gG<|.yw (.pickF Z Z)<|.az Z<|?_
 refine y9 Z Z λW s=>?_
 first
  | (exact ⟨(),Jt,(by rw [HO (n:=n),h13,h17];rfl),s.p2_1 [1] rfl⟩)
  | (exact ⟨(),Jt,(by rw [HO (n:=n),h13];rfl),s.p2_1 [1] rfl⟩)
  | (exact ⟨(),Jt,(by rw [HO (n:=n),h13,h17,h23];rfl),s.p2_1 [1] rfl⟩)
  | (exact ⟨(),Jt,(by rw [HO (n:=n),h13,h23];rfl),s.p2_1 [1] rfl⟩)
theorem kX (K:Tkr H t n ts tp tc) (hq:q.r<:+ts) (w:Str) (s:St H w0 (PA b t tp ts tc q::bs) W) :
 Calls prg 54 #[.pointer (some ⟨b,0,none⟩),cJ w] W λe W'=>∃ _:Unit,(True)/\e=.returned (.bool (ac w q))/\St H w0 (PA b t tp ts tc (acS w q)::bs) W':=by
 have hcap:=K.rep.cap;refine fD func54 rfl ntmps54 rfl s ?_;refine .sr<|.aq Z<|.sq<|.sm Z<|.mv Z<|.cs (X:=Unit) JE Z (λW s=>cO1 K hq w (s.p1_1 [0] Z)) Z λ_ _=>.nt<|.cd Z (λh7=>?_) (λh7=>?_)
 ·rw [iS h7,h7];obtain ⟨hp,hi⟩:=FR hq (dE2 h7);refine .sm Z<|.nC Z<|.fA Z nT<|.lD Z dZ Hm Z<|.yw (.add Z Z (c:=((sZ ts q.tl:Nat):Int)) ((w6 (by omega)).trans (by omega)))<|.nC Z<|.fA Z nT<|.st .head Z Z jG Z (nb Z) Z<|.ns<|.az Z<|.tR<|?_
  refine y9 Z Z λW s=>?_;exact ⟨(),Jt,Z,s.p1_1 [0] rfl⟩
 rw [iT h7,h7];refine .sk<|.tN<|.sr<|.az Z<|?_
 refine y9 Z Z λW s=>?_;exact ⟨(),Jt,Z,s.p1_1 [0] rfl⟩
theorem gI (K:Tkr H t n ts tp tc) (hq:q.r<:+ts) (w:Str) (s:St H w0 (PA b t tp ts tc q::bs) W) :
 Calls prg 96 #[.pointer (some ⟨b,0,none⟩),cJ w] W λe W'=>∃ _:Unit,(True)/\e=.returned (.tuple #[])/\St H w0 (PA b t tp ts tc (up n (gNd w) q)::bs) W':=by
 refine fD func96 rfl ntmps96 rfl s ?_;refine .sm Z<|.mv Z<|.cs (X:=Unit) gD Z (λW s=>kX K hq w (s.p1_1 [0] Z)) Z λ_ _=>.yw (.not Z)<|.nt<|.cd Z (λh7=>?_) (λh7=>?_)
 ·have hb:ac w q=false:=by simpa using h7
  rw [iT hb,cB5,aA (by rw [hb];decide)];refine .rg<|.mv Z<|.cs (X:=Unit) uD Z (λW s=>EE K hq 8 (s.p1_1 [0] Z)) Z λ_ _=>.nl<|?_
  refine pK (.inr Z) rfl .nil rfl λW s=>⟨(),Jt,Z,?_⟩;exact s.p1_1 [0] rfl
 have hb:ac w q=true:=by simpa using h7
 rw [iS hb,cB5,aE hb];refine .sk<|?_
 refine pK (.inr Z) rfl .nil rfl λW s=>⟨(),Jt,Z,?_⟩;exact s.p1_1 [0] rfl
theorem uJ (K:Tkr H t n ts tp tc) (hq:q.r<:+ts) (s:St H w0 (PA b t tp ts tc q::bs) W) :
 Calls prg 97 #[.pointer (some ⟨b,0,none⟩)] W λe W'=>∃ x:Str,(vl gNm q x/\x.length<=1000000)/\e=.returned (cJ x)/\St H w0 (PA b t tp ts tc (up n gNm q)::bs) W':=by
 have hcap:=K.rep.cap;refine fD func97 rfl ntmps97 rfl s ?_;refine .sr<|.a Z Z<|.ns<|.mv Z<|.cs (X:=Unit) zT Z (λW s=>SF K hq  (s.p1_1 [0] Z)) Z λ_ _=>.al xV Z λb3=>.sW .head Z Z lW (by simp [cTk,Value.oneCell',cJ]) Z<|.nt<|.sq<|.sm Z<|.nC Z<|.fA Z lT<|.lD Z dZ dN Z<|.yw (.neq Z Z)<|.mv Z<|.e2 (λh11=>?_) (λh11=>?_)
 ·have hbad:¬ (q.e=0/\(tkH n q.r).k=1):=λh=>by have:=h.1;omega
  have e1:up n gNm q=q.fail n 8:=by rw [aL8,aA hbad]
  have e2:(if q.e=0/\(tkH n q.r).k=1 then (tkH n q.r).t else [])=[]:=aA hbad;rw [e1];refine .gG<|.gG<|.gG<|.yw (.pickT Z Z)<|.nt<|.cT Z<|.sm Z<|.cs (X:=Unit) uD Z (λW s=>EE K hq 8 (s.p2_2 [1,0] Z)) Z λ_ _=>.ns<|.az Z<|.tR<|?_
  refine y9 Z Z λW s=>?_;exact ⟨[],⟨by have:=XP (n:=n) (s:=q);rw [e2] at this;exact this,cM _⟩,Z,s.p2_1 [0] rfl⟩
 have h0:q.e=0:=by omega
 refine .gy (.fieldAddr Z uA)<|.gy (.load Z dZ Hm Z)<|.gy (.neq Z Z)<|.yw (.pickF Z Z)<|.nt<|.ce Z (λh15=>?_) (λh15=>?_)
 ·have hbad:¬ (q.e=0/\(tkH n q.r).k=1):=λh=>by have h2:=h.2;simp [h2] at h15
  have e1:up n gNm q=q.fail n 8:=by rw [aL8,aA hbad]
  have e2:(if q.e=0/\(tkH n q.r).k=1 then (tkH n q.r).t else [])=[]:=aA hbad;rw [e1];refine .sm Z<|.cs (X:=Unit) uD Z (λW s=>EE K hq 8 (s.p2_2 [1,0] Z)) Z λ_ _=>.ns<|.az Z<|.tR<|?_
  refine y9 Z Z λW s=>?_;exact ⟨[],⟨by have:=XP (n:=n) (s:=q);rw [e2] at this;exact this,cM _⟩,Z,s.p2_1 [0] rfl⟩
 have hk:(tkH n q.r).k=1:=bT.1 (by show (tkH n q.r).k.toNat=1;omega);have e1:up n gNm q=q.tl:=by rw [aL8,aE ⟨h0,hk⟩]
 have e2:(if q.e=0/\(tkH n q.r).k=1 then (tkH n q.r).t else [])=(tkH n q.r).t:=aE ⟨h0,hk⟩;rw [e1];obtain ⟨hp,hi⟩:=FR hq (SH (n:=n) (by rw [hk];decide));refine .sk<|.tN<|.sm Z<|.nC Z<|.fA Z nT<|.lD Z dZ dN Z<|.yw (.add Z Z (c:=((sZ ts q.tl:Nat):Int)) ((w6 (by omega)).trans (by omega)))<|.nC Z<|.fA Z nT<|.st fG Z Z jG Z (nb Z) Z<|.ns<|.fA Z nW<|.lD Z bZ Hm Z<|.az Z<|?_
 refine y9 Z Z λW s=>?_;exact ⟨(tkH n q.r).t,⟨by have:=XP (n:=n) (s:=q);rw [e2] at this;exact this,K.tk hq⟩,Z,s.p2_1 [1] rfl⟩
theorem dD9 (K:Tkr H t n ts tp tc) (hq:q.r<:+ts) (s:St H w0 (PA b t tp ts tc q::bs) W) :
 Calls prg 27 #[.pointer (some ⟨b,0,none⟩)] W λe W'=>∃ _:Unit,(True)/\e=.returned (.tuple #[])/\St H w0 (PA b t tp ts tc (q.cl n)::bs) W':=by
 refine fD func27 rfl ntmps27 rfl s ?_;refine .sm Z<|.cs (X:=Unit) zT Z (λW s=>SF K hq  (s.p1_1 [0] Z)) Z λ_ _=>.yw (.fld Z (bH5 _ _ _))<|.yw (.neq Z Z)<|.nt<|.ce Z (λh5=>?_) (λh5=>?_)
 ·have hr:¬ q.r=[]:=λe=>by have:=(K.last hq).2 e;simp [this] at h5
  have e1:q.cl n=q.fail n 8:=by unfold Sg.cl;rw [aA hr]
  rw [e1];refine .rg<|.mv Z<|.cs (X:=Unit) uD Z (λW s=>EE K hq 8 (s.p1_1 [0] Z)) Z λ_ _=>.nl<|?_
  refine pK (.inr Z) rfl .nil rfl λW s=>⟨(),Jt,Z,?_⟩;exact s.p1_1 [0] rfl
 have hr:=(K.last hq).1 (bT.1 (by show (tkH n q.r).k.toNat=0;omega));have e1:q.cl n=q:=by unfold Sg.cl;rw [aE hr]
 rw [e1];refine .sk<|?_
 refine pK (.inr Z) rfl .nil rfl λW s=>⟨(),Jt,Z,?_⟩;exact s.p1_1 [0] rfl
theorem u8w {c:UInt8} (h:48<=c.toNat):IntKind.u8.wrap ((c.toNat:Int) - 48)=((c.toNat - 48:Nat):Int):=by
 have key:∀ i∈List.range 256,IntKind.u8.wrap (i:Int)=(i:Int):=by decide +kernel
 rw [show (c.toNat:Int) - 48=((c.toNat - 48:Nat):Int) by omega];exact key _ (bQ.2 (by have:=c.toNat_lt;omega))
theorem bH7 {c:UInt8} (h:kK c=true):48<=c.toNat/\c.toNat<=57:=by
 have key:∀ i∈List.range 256,kK (UInt8.ofNat i)=true->48<=i/\i<=57:=by decide +kernel
 exact key c.toNat (bQ.2 c.toNat_lt) (by rw [oH];exact h)
def DY (t:Tk):Nat:=if t.k=3 then (if oJ t.t<=9223372036854775807 then 0 else 2) else 1
def aH6 (t:Tk):Nat:=if t.k=3/\oJ t.t<=9223372036854775807 then oJ t.t else 0
theorem SD {t:Tk} (h:t.k=3) (hn:oJ t.t<=9223372036854775807):DY t=0/\aH6 t=oJ t.t:=⟨by unfold DY;rw [aE h,aE hn],by unfold aH6;rw [aE ⟨h,hn⟩]⟩
theorem bD2 {t:Tk} (h:t.k=3) (hn:¬ oJ t.t<=9223372036854775807):DY t=2/\aH6 t=0:=⟨by unfold DY;rw [aE h,aA hn],by unfold aH6;rw [aA (λk=>hn k.2)]⟩
theorem bW1 {t:Tk} (h:¬ t.k=3):DY t=1/\aH6 t=0:=⟨by unfold DY;rw [aA h],by unfold aH6;rw [aA (λk=>h k.1)]⟩
theorem bJ3 (t:Tk) (hd:t.k=3->pre kK t.t=t.t.length/\¬ t.t=[]) (hl:t.t.length<=1000000) (w:World) :
 Calls prg 146 #[.agg (cTk .u8 t).toArray] w λr w'=>r=.returned (.tuple #[iN (aH6 t),iN (DY t)])/\Ext w w':=by
 refine y6 func146 Z ntmps146 Z ?_;refine .sr<|.bx Z Z Z λb1=>.a Z Z<|.aq Z<|.sq<|.sq<|.fL 16 [(0,0),(1,0),(2,0),(3,0),(4,0),(5,0),(6,0),(7,0),(8,0),(9,0),(10,0),(11,0),(12,0),(13,0),(14,0),(15,0)]<|.fA Z NE<|.lD Z aT0 Hm Z<|.yw (.neq Z Z)<|.mv Z<|.b2 (λh10=>?_) (λh10=>?_)
 ·have hk:¬ t.k=3:=λe=>dF h10 (by rw [e];rfl);obtain ⟨hv1,hv2⟩:=bW1 hk;refine .gG<|.gG<|.gG<|.yw (.pickT Z Z)<|.mv Z<|.gG<|.gG<|.gG<|.gG<|.gG<|.gG<|.gG<|.fn (tl:=[_]) Z<|.yw (.pickT Z Z)<|.nt<|.cT Z<|.sr<|.a Z Z<|.az Z<|.tR<|?_
  refine y7 Z (.cons (.tmp Z) (.cons (.tmp Z) .nil)) rfl λW s=>⟨?_,s.ext⟩
  first
   | (rw [hv1,hv2];rfl)
   | (rw [hv1,hv2,aI];rfl)
   | (rw [hv1,hv2,aI])
 have hk:t.k=3:=bT.1 (by have:=kT.1 (cY h10);exact Int.ofNat.inj this);obtain ⟨hd1,hd2⟩:=hd hk;have hall:=aP.1 (RI hd1);refine .yg Z Z (.fieldAddr Z tF) Z<|.yg Z Z (.load Z bZ Hm Z) Z<|.yg Z Z (.cast (.eqS Z Z) (congrArg Value.bool (eJ hd2))) Z<|.yw (.pickF Z Z)<|.mv Z<|.yg Z Z (.fieldAddr Z tF) Z<|.yg Z Z (.load Z bZ Hm Z) Z<|.yg Z Z (.call DB Z (λW s=>CJ 117 kK GJ IT t.t (by omega) W)) Z<|.yg Z Z (.fieldAddr Z tF) Z<|.yg Z Z (.load Z bZ Hm Z) Z<|.yg Z Z (.lenS eQ Z) Z<|.yg Z Z (.cast (.neq Z Z) (congrArg Value.bool (eJ (by rw [hd1];simp)))) Z<|.fn (tl:=[_]) Z<|.yw (.pickF Z Z)<|.nt<|.cF Z<|.sk<|.tN<|.sr<|.aq Z<|.sq<|.sr<|.fA Z tF<|.lD Z bZ Hm Z<|.yw (.lenS eQ Z)<|.mv Z<|.nt<|.bk<|.lp (X:=Nat) [(1,_),(26,_)] ⟨Z,Z,Jt⟩ [_] (λk=>[(27,iN k),(4,iN (oJ (t.t.take k)))]) (λk=>(λ_=>none)) (λk=>[]) (λk=>k<=t.t.length/\oJ (t.t.take k)<=9223372036854775807) (λk=>t.t.length - k) 0 (λ_ s=>s) ⟨Z,Z,Jt⟩ ⟨cM _,by simp [XM]⟩ λk hC=>?_
 obtain ⟨hk0,hv0⟩:=hC;refine .sr<|.yw (.lss Z Z)<|.nt<|.sq<|.ce Z (λh28=>?_) (λh28=>?_)
 ·have hlt:k<t.t.length:=by omega
  obtain ⟨c,hc⟩:∃ c,c=t.t[k]:=⟨_,Z⟩;obtain ⟨hc1,hc2⟩:=bH7 (hall c (by rw [hc];exact cD hlt));have hst:oJ (t.t.take (k+1))=10 * oJ (t.t.take k)+(c.toNat - 48):=XO (by rw [hc];exact List.getElem?_eq_getElem hlt);have hle:=XN t.t (k+1);rw [hst] at hle;refine .sk<|.tN<|.sq<|.bk<|.sm Z<|.a Z Z<|.ns<|.fA Z tF<|.lD Z bZ Hm Z<|.mv Z<|.yw (.idxS eQ Z Z Z (b:=c) (j:=k) (by rw [hc];exact List.getElem?_eq_getElem hlt))<|.yw (.sub Z Z (u8w hc1))<|.yw (.conv Z xN bI8 (c:=((c.toNat - 48:Nat):Int)) (w6 (by omega)))<|.aq Z<|.sq<|.sm Z<|.mv Z<|.yw (.sub Z Z (c:=((9223372036854775807 - (c.toNat - 48):Nat):Int)) ((w6 (by omega)).trans (by omega)))<|.yw (.quo Z Z (by decide) (c:=(((9223372036854775807 - (c.toNat - 48)) / 10:Nat):Int)) (by rw [lO (by omega)];exact (w6 (by omega)).trans (by omega)))<|.yw (.gtr Z Z)<|.nt<|.ce Z (λh40=>?_) (λh40=>?_)
  ·obtain ⟨hv1,hv2⟩:=bD2 hk (show ¬ oJ t.t<=9223372036854775807 by omega);refine .sr<|.a Z Z<|.az Z<|.tR<|.bR<|.tR<|.tR<|.bR<|.tR<|?_
   refine y7 Z (.cons (.tmp Z) (.cons (.tmp Z) .nil)) rfl λW s=>⟨?_,s.ext⟩
   first
    | (rw [hv1,hv2];rfl)
    | (rw [hv1,hv2,aI];rfl)
    | (rw [hv1,hv2,aI])
  have hb:10 * oJ (t.t.take k)+(c.toNat - 48)<=9223372036854775807:=by omega
  exact .sk<|.tN<|.rg<|.mv Z<|.yw (.mul Z Z (c:=((10 * oJ (t.t.take k):Nat):Int)) ((w6 (by omega)).trans (by omega)))<|.mv Z<|.yw (.add Z Z (c:=((10 * oJ (t.t.take k)+(c.toNat - 48):Nat):Int)) ((w6 (by omega)).trans (by omega)))<|.a Z Z<|.nl<|.bN<|.tN<|.rg<|.yw (.add Z Z w7)<|.mv Z<|.nt<|.ag (k+1) ⟨Z,by rw [hst];rfl,Jt⟩ ⟨Z,Z,Jt⟩ (λ_ s=>s) ⟨by omega,by rw [hst];omega⟩ (by omega)
 obtain rfl:k=t.t.length:=by omega
 rw [aI] at hv0;obtain ⟨hv1,hv2⟩:=SD hk hv0;refine .ex<|.eb<|.sm Z<|.a Z Z<|.az Z<|?_
 refine y7 Z (.cons (.tmp Z) (.cons (.tmp Z) .nil)) rfl λW s=>⟨?_,s.ext⟩
 first
  | (rw [hv1,hv2];rfl)
  | (rw [hv1,hv2,aI];rfl)
  | (rw [hv1,hv2,aI])
theorem cT2 (h0:q.e=0) (hk:(tkH n q.r).k=3) (hn:oJ (tkH n q.r).t<=9223372036854775807):up n gNu q=q.tl/\vl gNu q (Int64.ofNat (oJ (tkH n q.r).t)):=by
 cases hr:q.r with
 | nil=>rw [hr] at hk;cases hk
 | cons t l =>
  rw [hr] at hk hn
  have e:gNu q.r=.ok (Int64.ofNat (oJ t.t)) l:=by
   unfold gNu;rw [hr];simp only [show t.k=3 from hk,aN,show oJ t.t<=9223372036854775807 from hn]
  refine ⟨?_,λ_ a r e2=>?_⟩
  ·unfold up Sg.tl;rw [aE h0,e,hr]
   rfl
  ·rw [e] at e2;injection e2
theorem cA8 (hk:(tkH n q.r).k=3) (hn:¬ oJ (tkH n q.r).t<=9223372036854775807):up n gNu q=q.fail n 2/\∀ x,vl gNu q x:=by
 cases hr:q.r with
 | nil=>rw [hr] at hk;cases hk
 | cons t l =>
  rw [hr] at hk hn
  have e:gNu q.r=.er q.r 2:=by
   unfold gNu;rw [hr];simp only [show t.k=3 from hk,aN,show ¬ oJ t.t<=9223372036854775807 from hn,aL]
  refine ⟨?_,λx _ a r e2=>?_⟩
  ·unfold up Sg.fail
   split
   ·rw [e]
   ·rfl
  ·rw [e] at e2;cases e2
theorem cT3 (hk:¬ (tkH n q.r).k=3):up n gNu q=q.fail n 8/\∀ x,vl gNu q x:=by
 have e:gNu q.r=.er q.r 8:=by
  unfold gNu;cases hr:q.r with
  | nil=>rfl
  | cons t l =>
   rw [hr] at hk;simp only [show ¬ t.k=3 from hk,aL]
 refine ⟨?_,λx _ a r e2=>?_⟩
 ·unfold up Sg.fail
  split
  ·rw [e]
  ·rfl
 ·rw [e] at e2;cases e2
variable {c:Nat}
theorem cE9 (hc:c≠0):(q.fail n c).e≠0:=by
 unfold Sg.fail
 split
 ·exact hc
 ·assumption
theorem dC9 (h:n<=9223372036854775807):(Int64.ofNat n).toInt=(n:Int):=iX (by omega)
theorem bW2 {t:Tk} (h:DY t=0):t.k=3/\oJ t.t<=9223372036854775807:=by
 unfold DY at h
 split at h
 ·split at h
  ·exact ⟨by assumption,by assumption⟩
  ·cases h
 ·cases h
theorem cU1 {t:Tk} (h:DY t=2):t.k=3/\¬ oJ t.t<=9223372036854775807:=by
 unfold DY at h
 split at h
 ·split at h
  ·cases h
  ·exact ⟨by assumption,by assumption⟩
 ·cases h
theorem cU2 {t:Tk} (h:¬ DY t=0) (h2:¬ DY t=2):¬ t.k=3:=by
 intro k;unfold DY at h h2;rw [aE k] at h h2
 split at h
 ·exact h rfl
 ·rename_i e;rw [aA e] at h2;exact h2 rfl
theorem cU7 (K:Tkm H ts tp tc) (h:q.r<:+ts):(tkH n q.r).k=3->pre kK (tkH n q.r).t=(tkH n q.r).t.length/\¬ (tkH n q.r).t=[]:=by
 intro hk;rcases RF (n:=n) h with e | e
 ·rw [e] at hk;cases hk
 ·exact ⟨K.num _ e hk,(K.good _ e).2.2⟩
theorem OE (K:Tkm H ts tp tc) (hq:q.r<:+ts) (s:St H w0 (PB b tp ts tc n t0 t1 t2 t3 q::bs) W) :
 Calls prg 120 #[.pointer (some ⟨b,0,none⟩)] W λe W'=>∃ x:Int64,(vl gNu q x)/\e=.returned (.int .i64 x.toInt)/\St H w0 (PB b tp ts tc n t0 t1 t2 t3 (up n gNu q)::bs) W':=by
 have hcap:=K.rep.cap;refine fD func120 rfl ntmps120 rfl s ?_;refine .sr<|.a Z Z<|.ns<|.mv Z<|.cs (X:=Unit) FI Z (λW s=>GU K hq  (s.p1_1 [0] Z)) Z λ_ _=>.yw (.call aZ8 Z (λW s=>bJ3 (tkH n q.r) (cU7 K hq) (K.tk hq) W))<|.mv Z<|.yw (.extract Z Z)<|.yw (.extract Z Z)<|.a Z Z<|.aq Z<|.sq<|.sm Z<|.nt<|.bk<|.sr<|.yw (.eql Z Z)<|.aq Z<|.ce Z (λh14=>?_) (λh14=>?_)
 ·have he:DY (tkH n q.r)=0:=by omega
  obtain ⟨hk,hn⟩:=bW2 he;have hv2:=(SD hk hn).2;refine .sk<|.bN<|.tN<|.sq<|.sm Z<|.nC Z<|.fA Z lS<|.lD Z xG Hm Z<|.yw (.neq Z Z)<|.nt<|.cd Z (λh24=>?_) (λh24=>?_)
  ·try simp only [dt] at h24
   have h0:¬ q.e=0:=by omega
   rw [show up n gNu q=q from yC h0];refine .sr<|.az Z<|.tR<|?_
   refine y9 Z Z λW s=>?_;exact ⟨0,(aH4 h0),Z,s.p1_1 [0] rfl⟩
  try simp only [df] at h24
  have h0:q.e=0:=by omega
  obtain ⟨e1,hv⟩:=cT2 h0 hk hn;rw [e1];obtain ⟨hp,hi⟩:=FR hq (SH (n:=n) (by rw [hk];decide));refine .sk<|.tN<|.sm Z<|.nC Z<|.fA Z pO<|.lD Z dZ Hm Z<|.yw (.add Z Z (c:=((sZ ts q.tl:Nat):Int)) ((w6 (by omega)).trans (by omega)))<|.nC Z<|.fA Z pO<|.st .head Z Z jG Z (nb Z) Z<|.ns<|.mv Z<|.az Z<|?_
  refine y9 Z Z λW s=>?_;exact ⟨Int64.ofNat (oJ (tkH n q.r).t),hv,(by rw [hv2,dC9 hn]),s.p1_1 [0] rfl⟩
 have he:¬ DY (tkH n q.r)=0:=by omega
 refine .sr<|.yw (.eql Z Z)<|.aq Z<|.ce Z (λh16=>?_) (λh16=>?_)
 ·have he2:DY (tkH n q.r)=2:=by omega
  obtain ⟨hk,hn⟩:=cU1 he2;obtain ⟨e1,hv⟩:=cA8 (n:=n) hk hn;rw [e1];refine .rg<|.mv Z<|.cs (X:=Unit) FJ Z (λW s=>MZ K hq 2 (s.p1_1 [0] Z)) Z λ_ _=>.nl<|.bN<|.tN<|.sq<|.sm Z<|.nC Z<|.fA Z lS<|.lD Z xG Hm Z<|.yw (.neq Z Z)<|.nt<|.cd Z (λh24=>?_) (λh24=>?_)
  ·refine .sr<|.az Z<|.tR<|?_
   refine y9 Z Z λW s=>?_;exact ⟨0,(hv 0),Z,s.p1_1 [0] rfl⟩
  exact absurd (show (q.fail n 2).e=0 by have:=kT.1 (cY h24);omega) (cE9 (by decide))
 have he2:¬ DY (tkH n q.r)=2:=by omega
 have hk:=cU2 he he2;obtain ⟨e1,hv⟩:=cT3 (n:=n) hk;rw [e1];refine .rg<|.mv Z<|.cs (X:=Unit) FJ Z (λW s=>MZ K hq 8 (s.p1_1 [0] Z)) Z λ_ _=>.nl<|.bN<|.tN<|.sq<|.sm Z<|.nC Z<|.fA Z lS<|.lD Z xG Hm Z<|.yw (.neq Z Z)<|.nt<|.cd Z (λh24=>?_) (λh24=>?_)
 ·refine .sr<|.az Z<|.tR<|?_
  refine y9 Z Z λW s=>?_;exact ⟨0,(hv 0),Z,s.p1_1 [0] rfl⟩
 exact absurd (show (q.fail n 8).e=0 by have:=kT.1 (cY h24);omega) (cE9 (by decide))
def dSy (x:Str × UInt8):D:=.str [.val (cJ x.1),.val (.int .u8 x.2.toNat)]
theorem cK3 {x:Str × UInt8} {cs:List Value} (h:Rep H (dSy x) cs):cs=[cJ x.1,.int .u8 x.2.toNat]:=by
 rw [dSy,AS] at h;obtain ⟨_,rfl,_,_,h⟩:=eW.1 h;obtain ⟨_,rfl,_,_,h⟩:=eW.1 h;rw [kG] at h;subst h
 rfl
theorem sU {x:Str × UInt8} (h:x.1.length<=1000000):Rep H (dSy x) [cJ x.1,.int .u8 x.2.toNat]:=by
 rw [dSy,AS];exact eW.2 ⟨_,Z,Z,okS.2 h,eW.2 ⟨_,Z,Z,Jt,kG.2 rfl⟩⟩
def opF (L:List (Str × UInt8)) (q:Sg):Option UInt8:=(L.find? λx=>ac x.1 q).map (·.2)
def opZ (L:List (Str × UInt8)) (q:Sg):Sg:=if (opF L q).isSome then q.tl else q
theorem aL2 {L:List (Str × UInt8)} (h:∀ i,i<L.length->∀ x,L[i]? = some x->ac x.1 q=false):opF L q=none:=by
 unfold opF;rw [wI,List.find?_eq_none];intro x hx;obtain ⟨i,hi,rfl⟩:=List.getElem_of_mem hx;rw [h i hi _ (List.getElem?_eq_getElem hi)]
 decide
theorem aV8:∀ {L:List (Str × UInt8)} {q:Sg} {k:Nat} (hk:k<L.length),(∀ i,i<k->∀ x,L[i]? = some x->ac x.1 q=false)->ac L[k].1 q=true->opF L q=some L[k].2
 | [],q,k,hk,_,_=>by cases hk
 | x::L,q,0,hk,_,h=>by
  unfold opF;rw [List.find?_cons_of_pos (by exact h)]
  rfl
 | x::L,q,k+1,hk,hn,h=>by
  have h0:=hn 0 (by omega) x rfl;have:=aV8 (L:=L) (q:=q) (k:=k) (by simpa using hk) (λi hi y hy=>hn (i+1) (by omega) y (by simpa using hy)) (by simpa using h);unfold opF at this|-;rw [List.find?_cons_of_neg (by rw [h0];decide)];simpa using this
theorem MH (lv:Nat) (q:Sg):opF (qG lv) q=opS lv q:=by
 unfold opF opS opAt ac
 by_cases h0:q.e=0
 ·simp only [h0,decide_true,gM,aN]
 ·simp only [h0,xQ,yZ,aL];rw [List.find?_eq_none.2 (by simp)]
  rfl
theorem SS {L:List (Str × UInt8)} {op:UInt8} (h:opF L q=some op):q.tl.mu<q.mu:=by
 unfold opF at h;obtain ⟨x,hx,_⟩:=eC.1 h;exact qH (w:=x.1) (List.find?_some (p:=λx:Str × UInt8=>ac x.1 q) hx)
theorem GY (K:Tkm H ts tp tc) (hq:q.r<:+ts) (L:List (Str × UInt8)) (hL:∀ x∈L,x.1∈words\/x.1∈symbols) (lp:Option Addr) (lc:Nat) (hs:Rep H (.seq 2 (L.map dSy)) [.slice lp L.length lc]) (s:St H w0 (PB b tp ts tc n t0 t1 t2 t3 q::bs) W) :
 Calls prg 89 #[.pointer (some ⟨b,0,none⟩),.slice lp L.length lc] W λe W'=>∃ _:Unit,(True)/\e=.returned (.tuple #[.int .u8 ((opF L q).getD 0).toNat,.bool (opF L q).isSome])/\St H w0 (PB b tp ts tc n t0 t1 t2 t3 (opZ L q)::bs) W':=by
 have hcap:=hs.cap;refine fD func89 rfl ntmps89 rfl s ?_;refine .sr<|.a Z Z<|.aq Z<|.sq<|.sm Z<|.yw (.lenSl aP8 Z)<|.mv Z<|.nt<|.bk<|.lp (X:=Nat) [(0,_),(8,_),(9,_)] ⟨Z,Z,Z,Jt⟩ (_::bs) (λk=>[(10,iN k)]) (λk=>H) (λk=>[]) (λk=>k<=L.length/\∀ i,i<k->∀ x,L[i]? = some x->ac x.1 q=false) (λk=>L.length - k) 0 (λ_ s=>s) ⟨Z,Jt⟩ ⟨cM _,λi hi=>by omega⟩ λk hC=>?_
 obtain ⟨hk0,hno⟩:=hC;refine .sr<|.yw (.lss Z Z)<|.nt<|.sq<|.ce Z (λh11=>?_) (λh11=>?_)
 ·have hk:k<L.length:=by omega
  obtain ⟨bE,oE,cE,hpE,rE,lE,mE⟩:=hs.elem (eL (f:=dSy) hk);cases hpE;have hw:=hL L[k] (cD hk);obtain rfl:=cK3 rE;refine .sk<|.tN<|.sq<|.bk<|.sr<|.yw (.indexSl aP8 Z Z Z (by omega) (q:=oE+k * 2) Z)<|.yw (.loadMW Z bV6 mE Z)<|.al aY5 Z λb7=>.sX .head Z Z aY9 Z<|.ns<|.mv Z<|.fA Z WQ<|.lD Z bZ Hm Z<|.cs (X:=Unit) gW Z (λW s=>gZ K hq L[k].1 hw (s.p2_2 [1,0] Z)) Z λ_ _=>.nt<|.cd Z (λh17=>?_) (λh17=>?_)
  ·rw [iS h17];have hf:=aV8 hk hno h17;rw [show opZ L q=q.tl by unfold opZ;rw [hf];rfl];refine .sr<|.fA Z WP<|.lD Z rH dN Z<|.a Z Z<|.az Z<|.bR<|.tR<|.tR<|.bR<|.tR<|?_
   refine y7 Z (.cons (.tmp Z) (.cons (.tmp Z) .nil)) rfl λW s=>⟨(),Jt,(by rw [hf];rfl),?_⟩;exact s.p2_1 [0] rfl
  rw [iT h17]
  exact .sk<|.bN<|.tN<|.rg<|.yw (.add Z Z w7)<|.mv Z<|.nt<|.ag (k+1) ⟨Z,Jt⟩ ⟨Z,Z,Z,Jt⟩ (λ_ s=>(s.p2_1 [0] Z)) ⟨by omega,λi hi x hx=>by
   by_cases hik:i=k
   ·subst hik;rw [List.getElem?_eq_getElem hk] at hx;cases hx;exact h17
   ·exact hno i (by omega) x hx⟩ (by omega)
 obtain rfl:k=L.length:=by omega
 have hn:=aL2 hno;rw [show opZ L q=q by unfold opZ;rw [hn];rfl];refine .ex<|.eb<|.sr<|.a Z Z<|.az Z<|?_
 refine y7 Z (.cons (.tmp Z) (.cons (.tmp Z) .nil)) rfl λW s=>⟨(),Jt,(by rw [hn];rfl),?_⟩;exact s.p1_1 [0] rfl
theorem aC6 (v:Value) (W:World):(callFunc 150 [v].toArray).run prg W=.ok (.value v) W:=by
 rw [run_callFunc_extern func150 (by kernel_rfl) (by kernel_rfl) (by kernel_rfl) (e:=Extern.AbiNoEscape.same) (by kernel_rfl)];rw [show ([v].toArray:Array Value)=#[v] from rfl,Lib.run_noEscape]
 rfl
theorem NB {a:Option Addr} {r i:Value} (s:St H w0 (.box b [.pointer a,r,i] 117::bs) W) (ha:a=none\/a=some ⟨b,0,none⟩) :
 Calls prg 126 #[.pointer (some ⟨b,0,none⟩)] W λe W'=>∃ _:Unit,True/\e=.returned (.tuple #[])/\St H w0 (.box b [.pointer (some ⟨b,0,none⟩),r,i] 117::bs) W':=by
 rcases ha with rfl | rfl
 ·refine fD func126 rfl ntmps126 rfl s ?_;refine .sm Z<|.nC Z<|.fA Z AN<|.lD Z PT Hm Z<|.yw (.eqPn PG Z Z)<|.nt<|.cT Z<|.rg<|.mv Z<|.mv Z<|.yw (.toU (m:=1) ZF YU Hm (nb Z) Z)<|.yw (.ext Z (λW=>aC6 _ W))<|.yw (.fromU YU ZF Hm (by kernel_rfl) Z)<|.nC Z<|.fA Z AN<|.st .head Z Z aZ1 Z (nb Z) Z<|.nl<|?_
  exact pK (.inr Z) rfl .nil rfl λW s=>⟨(),Jt,Z,s⟩
 ·refine fD func126 rfl ntmps126 rfl s ?_;refine .sm Z<|.nC Z<|.fA Z AN<|.lD Z PT Hm Z<|.yw (.eqPn PG Z Z)<|.nt<|.cF Z<|.sm Z<|.nC Z<|.fA Z AN<|.lD Z PT Hm Z<|.mv Z<|.yw (.neqP PG Z Z)<|.nt<|.cF Z<|.sk<|?_
  exact pK (.inr Z) rfl .nil rfl λW s=>⟨(),Jt,Z,s⟩
theorem GR {a:Option Addr} {r i:Value} {l:Str} (t:Str) (s:St H w0 (.box b [.pointer a,r,i] 117::.row 5 1 r l.length (l.map kF)::bs) W) (ha:a=none\/a=some ⟨b,0,none⟩) (hl:l.length+t.length<=140737488355328) :
 Calls prg 83 #[.pointer (some ⟨b,0,none⟩),cJ t] W λe W'=>∃ r',True/\e=.returned (.tuple #[iN t.length,.nilIface])/\St H w0 (.box b [.pointer (some ⟨b,0,none⟩),r',i] 117::.row 5 1 r' (l++t).length ((l++t).map kF)::bs) W':=by
 refine fD func83 rfl ntmps83 rfl s ?_;refine .sr<|.a Z Z<|.a Z Z<|.ns<|.mv Z<|.cs (X:=Unit) UW Z (λW s=>NB s ha) Z λ_ _=>.ns<|.mv Z<|.mv Z<|.nC Z<|.fA Z uC<|.lD Z sK Hm Z<|.mv Z<|.as (s0:=t) cI6 eQ Z (λ_=>.tail .head) Z (by omega) Z λr2=>?_
 refine .ra (.tail _ Hm) λp2 c2 e2=>?_;subst e2;refine .nC Z<|.fA Z uC<|.st .head Z Z JB Z (nb Z) Z<|.ns<|.mv Z<|.yw (.lenS eQ Z)<|.a Z Z<|.az Z<|?_
 exact y7 Z (.cons (.tmp Z) (.cons (.tmp Z) .nil)) rfl λW s=>⟨_,Jt,Z,by simpa using s⟩
theorem aA5 {a:Option Addr} {r i:Value} {l:Str} (c:UInt8) (s:St H w0 (.box b [.pointer a,r,i] 117::.row 5 1 r l.length (l.map kF)::bs) W) (ha:a=none\/a=some ⟨b,0,none⟩) (hl:l.length+1<=140737488355328) :
 Calls prg 84 #[.pointer (some ⟨b,0,none⟩),kF c] W λe W'=>∃ r',True/\e=.returned .nilIface/\St H w0 (.box b [.pointer (some ⟨b,0,none⟩),r',i] 117::.row 5 1 r' (l++[c]).length ((l++[c]).map kF)::bs) W':=by
 refine fD func84 rfl ntmps84 rfl s ?_;refine .sr<|.a Z Z<|.ns<|.mv Z<|.cs (X:=Unit) UW Z (λW s=>NB s ha) Z λ_ _=>.ns<|.mv Z<|.mv Z<|.nC Z<|.fA Z uC<|.lD Z sK Hm Z<|.mv Z<|.bl Z (bC5 _) Z λb13=>.ap (news:=[kF c]) cI3 Z (λ_=>.tail (.tail .head)) Z (.box Hm z0) Z (by simp [kF,Value.oneCell']) (by simp [maxLen];omega) (by omega) Z λr2 _=>?_
 refine .ra (.tail _ (.tail _ Hm)) λp2 c2 e2=>?_;subst e2;refine .nC Z<|.fA Z uC<|.st fG Z Z JB Z (nb Z) Z<|.ns<|.az Z<|?_
 exact y9 Z Z λW s=>⟨_,Jt,Z,by simpa using s.drop⟩
theorem bK3 {g:Nat} {a:Option Addr} {i:Value} {l:Str} (s:St H w0 (.box b [.pointer a,.slice (some ⟨g,0,none⟩) l.length c,i] 117::.row 5 1 (.slice (some ⟨g,0,none⟩) l.length c) l.length (l.map kF)::bs) W) (h0:l≠[]) (hc:l.length<=c) (hl:l.length<=140737488355328) :
 Calls prg 47 #[.pointer (some ⟨b,0,none⟩)] W λe W'=>∃ _:Unit,True/\e=.returned (cJ l)/\St H w0 [] W':=by
 have hl0:0<l.length:=tI.2 h0;refine fD func47 rfl ntmps47 rfl s ?_;refine .sr<|.aq Z<|.sq<|.fL 10 [(0,0),(1,0),(2,0),(3,0),(4,0),(5,0),(6,0),(7,0),(8,0),(9,0)]<|.mv Z<|.nC Z<|.fA Z uC<|.lD Z sK Hm Z<|.yw (.sliceData (by omega) Z)<|.mv Z<|.nC Z<|.fA Z uC<|.lD Z sK Hm Z<|.yw (.lenSl AE Z)<|.fn (tl:=[_,_]) Z<|.us bQ1 (by kernel_rfl) (.tail _ Hm) h0 (by omega) Z Z Z Z<|.az Z<|?_
 exact y9 Z Z λW s=>⟨(),Jt,Z,s⟩
theorem cN9 {bp:Nat} {a:Option Addr} {r:Value} {ind:Nat} {l:Str} {parts:List Str} (s:St H w0 (.box b [.pointer a,r,iN ind] 117::.row 5 1 r l.length (l.map kF)::.box bp (parts.map cJ) 9::bs) W) (ha:a=none\/a=some ⟨b,0,none⟩) (hp:parts.length<=1000) (hl:l.length+2 * ind+parts.flatten.length+1<=100000000000000) :
 Calls prg 43 #[.pointer (some ⟨b,0,none⟩),.slice (some ⟨bp,0,none⟩) parts.length parts.length] W λe W'=>∃ r',True/\e=.returned (.tuple #[])/\St H w0 (.box b [.pointer (some ⟨b,0,none⟩),r',iN ind] 117::.row 5 1 r' (l++kB ind parts).length ((l++kB ind parts).map kF)::.box bp (parts.map cJ) 9::bs) W':=by
 refine fD func43 rfl ntmps43 rfl s ?_;refine .sq<|.sm Z<|.nC Z<|.fA Z iK<|.lD Z dZ Hm Z<|.mv Z<|.nt<|.bk<|.lp (X:=Nat × Option Addr × Value) [(0,_),(1,_),(9,_)] ⟨Z,Z,Z,Jt⟩ (.box bp (parts.map cJ) 9::bs) (λz=>[(10,iN z.1)]) (λz=>H) (λz=>[.box b [.pointer z.2.1,z.2.2,iN ind] 117,.row 5 1 z.2.2 (l++spT z.1).length ((l++spT z.1).map kF)]) (λz=>z.1<=ind/\(z.2.1=none\/z.2.1=some ⟨b,0,none⟩)) (λz=>ind - z.1) (0,a,r) (λ_ s=>by simpa [spT] using s) ⟨Z,Jt⟩ ⟨by simp,ha⟩ λz hC=>?_
 obtain ⟨k,a,r⟩:=z;dsimp only at hC|-;obtain ⟨hk,ha⟩:=hC;have hsk:=aB5 k;have hsi:=aB5 ind;refine .sr<|.yw (.lss Z Z)<|.nt<|.sq<|.ce Z (λh11=>?_) (λh11=>?_)
 ·exact .sk<|.tN<|.sq<|.bk<|.rg<|.mv Z<|.nC Z<|.fA Z AM<|.cs (X:=Value) ZK Z (λW s=>GR [32,32] s ha (by simp only [aD,aH,aS];omega)) Z λr2 _=>.nl<|.bN<|.tN<|.rg<|.yw (.add Z Z w7)<|.mv Z<|.nt<|.ag (x:=(k,a,r)) (k+1,some ⟨b,0,none⟩,r2) ⟨Z,Jt⟩ ⟨Z,Z,Z,Jt⟩ (λ_ s=>by simpa [spT] using s) ⟨by dsimp only;omega,.inr Z⟩ (by dsimp only;omega)
 obtain rfl:k=ind:=by omega
 refine .ex<|.eb<|.sq<|.sm Z<|.yw (.lenSl dR Z)<|.mv Z<|.nt<|.bk<|.lp (X:=Nat × Option Addr × Value) [(0,_),(17,_),(18,_)] ⟨Z,Z,Z,Jt⟩ (.box bp (parts.map cJ) 9::bs) (λz=>[(19,iN z.1)]) (λz=>H) (λz=>[.box b [.pointer z.2.1,z.2.2,iN k] 117,.row 5 1 z.2.2 (l++spT k++(parts.take z.1).flatten).length ((l++spT k++(parts.take z.1).flatten).map kF)]) (λz=>z.1<=parts.length/\(z.2.1=none\/z.2.1=some ⟨b,0,none⟩)) (λz=>parts.length - z.1) (0,a,r) (λ_ s=>by simpa using s) ⟨Z,Jt⟩ ⟨by simp,ha⟩ λz hC=>?_
 obtain ⟨j,a,r⟩:=z;dsimp only at hC|-;obtain ⟨hj,ha⟩:=hC;have hfl:=ED parts j;refine .sr<|.yw (.lss Z Z)<|.nt<|.sq<|.ce Z (λh20=>?_) (λh20=>?_)
 ·have hjl:j<parts.length:=by omega
  have hf2:=ED parts (j+1);rw [YD hjl,aD] at hf2;exact .sk<|.tN<|.sq<|.bk<|.sr<|.yw (.indexSl dR Z Z Z (by omega) (q:=j) (by omega))<|.yw (.load (v:=cJ parts[j]) Z bZ fN (by rw [List.getElem?_map,List.getElem?_eq_getElem hjl];rfl))<|.aq Z<|.rg<|.mv Z<|.nC Z<|.fA Z AM<|.mv Z<|.cs (X:=Value) ZK Z (λW s=>GR parts[j] s ha (by simp only [aD,aH,aS];omega)) Z λr3 _=>.nl<|.bN<|.tN<|.rg<|.yw (.add Z Z w7)<|.mv Z<|.nt<|.ag (x:=(j,a,r)) (j+1,some ⟨b,0,none⟩,r3) ⟨Z,Jt⟩ ⟨Z,Z,Z,Jt⟩ (λ_ s=>by dsimp only;rw [YD hjl];simpa using s) ⟨by dsimp only;omega,.inr Z⟩ (by dsimp only;omega)
 obtain rfl:j=parts.length:=by omega
 rw [aI];refine .ex<|.eb<|.rg<|.mv Z<|.nC Z<|.fA Z AM<|.cs (X:=Value) bR0 Z (λW s=>aA5 10 s ha (by simp only [aD,aH,aS];omega)) Z λr4 _=>.nl<|?_
 exact pK (.inr Z) rfl .nil rfl λW s=>⟨_,Jt,Z,by simpa [kB] using s⟩
theorem mJ (n:Nat) (l:List Str):(kB n l).length=2 * n+l.flatten.length+1:=by simp only [kB,aD,aB5,aH,aS]
theorem nI {a:Option Addr} {r:Value} {ind:Nat} {bp:Nat} {parts:List Str} (ha:(a=none\/a=some ⟨b,0,none⟩)) (hp:parts.length<=1000) (hl:t.length+(kB ind parts).length<=100000000000000) (s:St H w0 (.box b [.pointer a,r,iN ind] 117::.row 5 1 r (t).length ((t).map kF)::.box bp (parts.map cJ) 9::bs) W) :
 Calls prg 43 #[.pointer (some ⟨b,0,none⟩),.slice (some ⟨bp,0,none⟩) parts.length parts.length] W λe W'=>∃ r',True/\e=.returned (.tuple #[])/\St H w0 (.box b [.pointer (some ⟨b,0,none⟩),r',iN ind] 117::.row 5 1 r' (t++kB ind parts).length ((t++kB ind parts).map kF)::.box bp (parts.map cJ) 9::bs) W' :=
 cN9 s ha hp (by rw [mJ] at hl;omega)
theorem aW3 (W:World) (b o c:Nat) (xs:List Str) (h:∀ (j:Nat) x,xs[j]? = some x->W.cell? ⟨b,o+j,none⟩=some (cJ x)) (hb:b<W.heap.size) (hN:xs.length<=140737488355328) (hc:xs.length<=c) (hl:(wH xs).length<=140737488355328) :
 Calls prg 128 #[.slice (some ⟨b,o,none⟩) xs.length c,cJ [44,32]] W λe w'=>e=.returned (cJ (wH xs))/\Ext W w':=by
 have e1:((xs.map λl=>(⟨l.toArray⟩:ByteArray)).map (·.data.toList))=xs:=by simp [Function.comp_def]
 have h2:=Tryz.strings_Join b o c (xs.map λl=>(⟨l.toArray⟩:ByteArray)) ⟨#[44,32]⟩ W (λj x e=>by
  rw [List.getElem?_map] at e;cases e2:xs[j]? with
  | none=>rw [e2] at e;cases e
  | some y=>rw [e2] at e;cases e;exact h j y e2) hb (by simpa using hN) (by simpa using hc) (by rw [e1];exact hl)
 rw [e1,aJ] at h2;exact h2.mono λe w' ⟨a,k⟩=>⟨a,Ext.of_below k⟩
variable {T:TypeId}
theorem cC9 (xs:List Str) (hn:xs.length=n) (s:St H w0 bs W) (hm:Res.box b (xs.map cJ) T∈bs) (hN:xs.length<=1000) (hl:(wH xs).length<=140737488355328) :
 Calls prg 128 #[.slice (some ⟨b,0,none⟩) n n,cJ [44,32]] W λe w'=>e=.returned (cJ (wH xs))/\Ext W w':=by
 subst hn;exact aW3 W b 0 xs.length xs (λj x e=>(s.cell hm (by rw [fV,List.getElem?_map,e];rfl)).1) ((s.own _ hm).1.lt rfl).2 (by omega) (aK _) hl
theorem bN2 (xs:List Str) (hn:xs.length=n) (s:St H w0 bs W) (hm:Res.box b (xs.map cJ) T∈bs) (hN:xs.length<=1000) (hl:(wH (xs.drop 1)).length<=140737488355328) :
 Calls prg 128 #[.slice (some (if n=1 then ⟨b,0,none⟩ else ⟨b,0+1 * 1,none⟩)) (n - 1) (n - 1),cJ [44,32]] W λe w'=>e=.returned (cJ (wH (xs.drop 1)))/\Ext W w':=by
 subst hn;have e:(some (if xs.length=1 then (⟨b,0,none⟩:Addr) else ⟨b,0+1 * 1,none⟩))=some ⟨b,if xs.length=1 then 0 else 1,none⟩:=by split <;> rfl
 have h:=aW3 W b (if xs.length=1 then 0 else 1) (xs.length - 1) (xs.drop 1) (λj x e=>(s.cell hm (by
  rw [List.getElem?_drop] at e;have h1:1+j<xs.length:=(List.getElem?_eq_some_iff.1 e).1;rw [aA (by omega),List.getElem?_map,e];rfl)).1) ((s.own _ hm).1.lt rfl).2 (by simp;omega) (by simp) hl
 rw [dK] at h;rw [e];exact h
variable {i:Nat}
theorem AA {es:List Str} (h:i<es.length):(es.map cJ)[i]? = some (cJ (es.getD i [])):=by simp [h]
def aG7 (H:Hp) (x:List Sm):Prop:=∀ (p:Option Addr) (n c:Nat) (w0 W:World) (bs:List Res) (b:Nat) (a:Option Addr) (r:Value) (ind:Nat) (t:Str),Rep H (.seq 6 (x.map (dSm .u8))) [.slice p n c]->Sm.alls bJ5 x=true->(a=none\/a=some ⟨b,0,none⟩)->t.length+(Sm.texts (ind+1) x).length<=10000000000000->ind<=10000000000000->St H w0 (.box b [.pointer a,r,iN ind] 117::.row 5 1 r (t).length ((t).map kF)::bs) W ->
 Calls prg 129 #[.pointer (some ⟨b,0,none⟩),.slice p n c] W λe W'=>∃ z:Option Addr × Value,(z.1=none\/z.1=some ⟨b,0,none⟩)/\e=.returned (.tuple #[])/\St H w0 (.box b [.pointer z.1,z.2,iN ind] 117::.row 5 1 z.2 (t++Sm.texts (ind+1) x).length ((t++Sm.texts (ind+1) x).map kF)::bs) W'
def dE3 (H:Hp) (x:Sm):Prop:=∀ (cs:List Value) (w0 W:World) (bs:List Res) (b:Nat) (a:Option Addr) (r:Value) (ind:Nat) (t:Str),Rep H (dSm .u8 x) cs->Sm.all bJ5 x=true->(a=none\/a=some ⟨b,0,none⟩)->t.length+(Sm.text ind x).length<=10000000000000->ind<=10000000000001->St H w0 (.box b [.pointer a,r,iN ind] 117::.row 5 1 r (t).length ((t).map kF)::bs) W ->
 Calls prg 156 #[.pointer (some ⟨b,0,none⟩),.agg cs.toArray] W λe W'=>∃ z:Option Addr × Value,(z.1=none\/z.1=some ⟨b,0,none⟩)/\e=.returned (.tuple #[])/\St H w0 (.box b [.pointer z.1,z.2,iN ind] 117::.row 5 1 z.2 (t++Sm.text ind x).length ((t++Sm.text ind x).map kF)::bs) W'
theorem aO9 (H:Hp) (el:List Sm) (hel:aG7 H el) (first:Str) (p:Option Addr) (c:Nat) (w0 W:World) (bs:List Res) (b:Nat) (a:Option Addr) (r:Value) (ind:Nat) (t:Str) (hs:Rep H (.seq 6 (el.map (dSm .u8))) [.slice p el.length c]) (hf:Sm.alls bJ5 el=true) (ha:(a=none\/a=some ⟨b,0,none⟩)) (hl:t.length+(AW ind first (decide (el.length=0)) (Sm.texts (ind+1) el)).length<=10000000000000) (hi:ind<=10000000000000) (s:St H w0 (.box b [.pointer a,r,iN ind] 117::.row 5 1 r (t).length ((t).map kF)::bs) W) :
 Calls prg 171 #[.pointer (some ⟨b,0,none⟩),cJ first,.slice p el.length c] W λe W'=>∃ z:Option Addr × Value,(z.1=none\/z.1=some ⟨b,0,none⟩)/\e=.returned (.tuple #[])/\St H w0 (.box b [.pointer z.1,z.2,iN ind] 117::.row 5 1 z.2 (t++AW ind first (decide (el.length=0)) (Sm.texts (ind+1) el)).length ((t++AW ind first (decide (el.length=0)) (Sm.texts (ind+1) el)).map kF)::bs) W':=by
 have hcap:=hs.cap;refine fD func171 rfl ntmps171 rfl s ?_;refine .sq<|.sm Z<|.yw (.lenSl lH Z)<|.yw (.eql Z Z)<|.nt<|.ce Z (λh8=>?_) (λh8=>?_)
 ·have q:el.length=0:=by omega
  rw [AW,aE (by simpa using q)] at hl;refine .sm Z<|.mv Z<|.bl Z (zX _ _) Z λb11=>.cs (X:=Value) iI Z (λW s=>nI (parts:=[first,[59]]) ha (nb Z) (by (try simp only [aD]);omega) (s.p3_3 [1,2,0] Z)) Z λr12 _=>.nt<|.rt<|.tR<|?_
  exact y7 Z .nil rfl λW s=>⟨(_,_),(.inr Z),Z,by have s2:=(s.p3_2 [0,1] rfl);(first | rw [AW,aE (by simpa using q)] | rw [AW,aA (by simpa using q)]);(try simp only [aQ] at s2|-);(try simp only [aR] at s2|-);(try simp only [bU] at s2|-);(try simp only [aX] at s2|-);exact s2⟩
 have q:¬ el.length=0:=by omega
 rw [AW,aA (by simpa using q)] at hl;simp only [aD] at hl;have hq:=mJ ind [[125]];refine .sk<|.tN<|.sm Z<|.mv Z<|.bl Z (zX _ _) Z λb15=>.cs (X:=Value) iI Z (λW s=>nI (parts:=[first,[32,101,108,115,101,32,123]]) ha (nb Z) (by (try simp only [aD]);omega) (s.p3_3 [1,2,0] Z)) Z λr16 _=>.ns<|.mv Z<|.mv Z<|.cs (X:=Option Addr × Value) DA Z (λW s=>hel _ _ _ _ _ _ _ _ _ _ _ hs hf (.inr Z) (by (try simp only [aD]);omega) (by omega) (s.p3_2 [0,1] Z)) Z λz19 hz19=>.nt<|.rg<|.mv Z<|.bl Z (jY _) Z λb21=>.cs (X:=Value) iI Z (λW s=>nI (parts:=[[125]]) hz19 (nb Z) (by (try simp only [aD]);omega) (s.p3_3 [1,2,0] Z)) Z λr22 _=>.nl<|?_
 exact pK (.inr Z) rfl .nil rfl λW s=>⟨(_,_),(.inr Z),Z,by have s2:=(s.p3_2 [0,1] rfl);(first | rw [AW,aE (by simpa using q)] | rw [AW,aA (by simpa using q)]);(try simp only [aQ] at s2|-);(try simp only [aR] at s2|-);(try simp only [bU] at s2|-);(try simp only [aX] at s2|-);exact s2⟩
theorem bY8 {A:List Str} (hn:A.length=n) (hk:k<n) (v:Value) (hv:v=cJ A[k]):((A.take k).map cJ++List.replicate (n - k) (cJ [])).set k v=(A.take (k+1)).map cJ++List.replicate (n - (k+1)) (cJ []):=by
 have e1:((A.take k).map cJ).length=k:=by rw [aJ,dJ];omega
 rw [nZ _ _ (by rw [e1];exact aK _),e1,oW];obtain ⟨m,hm⟩:∃ m,n - k=m+1:=⟨n - k - 1,by omega⟩;rw [hm,List.replicate_succ,qO,gC (by omega),aV,show n - (k+1)=m by omega,hv];simp
theorem cE7 (A:List Str) (n:Nat) (hn:A.length=n):(A.take n).map cJ++List.replicate (n - n) (cJ [])=A.map cJ:=by
 rw [<-hn,aI,oW,List.replicate_zero,aX]
theorem YG (n:Nat) (first:Str) (q:Bool) (E:Str):first.length<=(AW n first q E).length/\2 * n<=(AW n first q E).length:=by
 unfold AW;have h1:=mJ n [first,[59]];have h2:=mJ n [first,[32,101,108,115,101,32,123]];simp only [eY,aD] at h1 h2
 split <;> (try simp only [aD]) <;> omega
theorem aE1 {kd:UInt8} {nm hd:Str} {ex:List Ex} {th el:List Sm} (h:BE (.mk kd nm hd ex th el)=true):uI kd=true/\(fM kd).lo<=ex.length/\ex.length<=(fM kd).hi/\Ex.alls lP ex=true:=by
 simp only [BE,aF,aB] at h;exact ⟨h.1.1.1.1.1.1.1,h.1.1.1.1.1.1.2,h.1.1.1.1.1.2,h.2⟩
theorem bH3 (kd:UInt8):(fM kd).hi<=5:=by
 unfold fM
 split
 ·rename_i h;simp only [uI,aF,aB] at h;have key:∀ i∈List.range 11,(forms.getD i ⟨false,false,0,0,false,false⟩).hi<=5:=by decide
  exact key _ (bQ.2 (by omega))
 ·simp
theorem VN (H:Hp) (G:Gl H) (g:Gt H) (x:Sm) (hth:aG7 H x.th) (hel:aG7 H x.el):dE3 H x:=by
 obtain ⟨kd,nm,hd,ex,th,el⟩:=x;intro cs w0 W bs b a r ind t h hf ha hl hi s;simp only [Sm.th,Sm.el] at hth hel;obtain ⟨p,c,p1,c1,p2,c2,rfl,hs,hs1,hs2,hn1,hn2⟩:=vR h;rw [oM,aF,aF] at hf;obtain ⟨⟨hf1,hf2⟩,hf3⟩:=hf;rw [bJ5,aF] at hf1;obtain ⟨hfr0,hok2⟩:=hf1;have hfr:=aE1 hfr0;have hhi:=bH3 kd;obtain ⟨hokd,_,_,hfx⟩:=id hfr;have hx5:ex.length<=5:=by omega
 have hcap:=hs.cap;have hcap1:=hs1.cap;have hcap2:=hs2.cap;rw [bW] at hl;refine fD func156 rfl ntmps156 rfl s ?_;refine .sr<|.bx Z Z Z λb3=>.ns<|.fA Z bX<|.lD Z fR Hm Z<|.yw (.lenSl dW Z)<|.mk qJ cI0 Z Z Z Z (by omega) (by omega) Z λb10=>.aq Z<|.sq<|.sr<|.fA Z bX<|.lD Z fR dN Z<|.yw (.lenSl dW Z)<|.mv Z<|.nt<|.bk<|.lp (X:=Nat) [(0,_),(3,_),(4,_),(12,_),(13,_)] ⟨Z,Z,Z,Z,Z,Jt⟩ (_::_::_::bs) (λk=>[(14,iN k)]) (λk=>H) (λk=>[.box b10 (((ex.map Ex.text).take k).map cJ++List.replicate (ex.length - k) (cJ [])) 9]) (λk=>k<=ex.length) (λk=>ex.length - k) 0 (λ_ s=>s) ⟨Z,Jt⟩ (by omega) λk hC=>?_
 refine .sr<|.yw (.lss Z Z)<|.nt<|.sq<|.ce Z (λh15=>?_) (λh15=>?_)
 ·have hk:k<ex.length:=by omega
  obtain ⟨bE,oE,cE,hpE,rE,lE,mE⟩:=hs.elem (eL hk);cases hpE;have hd1:=DP hk hok2;simp only [aB] at hd1;have hf1:=EY hk hfx;exact .sk<|.tN<|.sq<|.bk<|.sm Z<|.yw (.indexSl dW Z Z Z (by omega) (q:=oE+k * 4) Z)<|.yw (.loadMW Z fI mE lE)<|.al jX Z λb6=>.a Z Z<|.sV .head Z Z dO lE rE.one Z<|.nt<|.rg<|.mv Z<|.mv Z<|.yw (.loadW Z fI Hm lE)<|.yw (.call GG Z (λW s=>bX5 H G g _ cE W rE hf1 hd1 s.agr))<|.yw (.indexSl dR Z Z Z (by omega) (q:=k) (by omega))<|.st fG Z Z qY Z (by simp;omega) (bY8 (by simp) hk _ (by simp))<|.nl<|.bN<|.tN<|.rg<|.yw (.add Z Z w7)<|.mv Z<|.nt<|.ag (k+1) ⟨Z,Jt⟩ ⟨Z,Z,Z,Z,Z,Jt⟩ (λ_ s=>s.drop) (by omega) (by omega)
 obtain rfl:k=ex.length:=by omega
 rw [cE7 (ex.map Ex.text) ex.length (by simp)];refine .ex<|.eb<|.sr<|.fA Z jA<|.lD Z FK dN Z<|.nt<|.bk<|.sr<|.yw (.eql Z Z)<|.aq Z<|.ce Z (λh27=>?_) (λh27=>?_)
 ·have e1:kd=1:=bT.1 (by show kd.toNat=1;omega);have hlo:1<=ex.length:=by have h5:=hfr.2.1;rw [e1] at h5;exact cN (by decide) h5
  rw [stT,aE e1] at hl;try simp only [aD] at hl
  refine .fL 7 [(0,0),(1,0),(2,0),(3,0),(4,0),(5,0),(6,1)]<|.mv Z<|.fA Z kU<|.lD Z bZ dN Z<|.mv Z<|.yw (.indexSl dR Z Z (i:=0) Z (by omega) (q:=0) Z)<|.yw (.load (v:=cJ ((ex.map Ex.text).getD 0 [])) Z bZ Hm (AA (by rw [aJ];omega)))<|.bl Z (bC2 _ _ _ _) Z λb35=>.fn (tl:=[_]) Z<|.cs (X:=Value) iI Z (λW s=>nI (parts:=[nm,[32,61,32],(ex.map Ex.text).getD 0 [],[59]]) ha (nb Z) (by (try simp only [aD]);omega) (s.p5_5 [3,4,0,1,2] Z)) Z λr36 _=>.nl<|.bN<|?_
  exact pK (.inr Z) rfl .nil rfl λW s=>⟨(_,_),(.inr Z),Z,by have s2:=(s.p5_2 [0,1] rfl);(first | rw [bW,stT,aE e1] | rw [bW,stT,aA n1,aE e2] | rw [bW,stT,aA n1,aA n2,aE e3] | rw [bW,stT,aA n1,aA n2,aA n3,aE e4,aA (by simpa using q)] | rw [bW,stT,aA n1,aA n2,aA n3,aE e4,aE (by simpa using q)] | rw [bW,stT,aA n1,aA n2,aA n3,aA n4,aE e5] | rw [bW,stT,aA n1,aA n2,aA n3,aA n4,aA n5,aE e6] | rw [bW,stT,aA n1,aA n2,aA n3,aA n4,aA n5,aA n6,aE e7] | rw [bW,stT,aA n1,aA n2,aA n3,aA n4,aA n5,aA n6,aA n7,aE e8] | rw [bW,stT,aA n1,aA n2,aA n3,aA n4,aA n5,aA n6,aA n7,aA n8,aE e9] | rw [bW,stT,aA n1,aA n2,aA n3,aA n4,aA n5,aA n6,aA n7,aA n8,aA n9,aE e10]);(try simp only [aQ] at s2|-);(try simp only [aR] at s2|-);(try simp only [bU] at s2|-);(try simp only [aX] at s2|-);exact s2⟩
 have n1:¬ kd=1:=λe=>h27 (by rw [e];rfl);refine .sr<|.yw (.eql Z Z)<|.aq Z<|.ce Z (λh37=>?_) (λh37=>?_)
 ·have e2:kd=2:=bT.1 (by show kd.toNat=2;omega);have hlo:2<=ex.length:=by have h5:=hfr.2.1;rw [e2] at h5;exact cN (by decide) h5
  rw [stT,aA n1,aE e2] at hl;try simp only [aD] at hl
  refine .fL 10 [(0,0),(1,0),(2,0),(3,0),(4,0),(5,0),(6,0),(7,0),(8,0),(9,1)]<|.mv Z<|.fA Z kU<|.lD Z bZ dN Z<|.mv Z<|.yw (.indexSl dR Z Z (i:=0) Z (by omega) (q:=0) Z)<|.yw (.load (v:=cJ ((ex.map Ex.text).getD 0 [])) Z bZ Hm (AA (by rw [aJ];omega)))<|.mv Z<|.yw (.indexSl dR Z Z (i:=1) Z (by omega) (q:=1) Z)<|.yw (.load (v:=cJ ((ex.map Ex.text).getD 1 [])) Z bZ Hm (AA (by rw [aJ];omega)))<|.bl Z (VE _ _ _ _ _ _) Z λb48=>.fn (tl:=[_]) Z<|.cs (X:=Value) iI Z (λW s=>nI (parts:=[nm,[91],(ex.map Ex.text).getD 0 [],[93,32,61,32],(ex.map Ex.text).getD 1 [],[59]]) ha (nb Z) (by (try simp only [aD]);omega) (s.p5_5 [3,4,0,1,2] Z)) Z λr49 _=>.nl<|.bN<|?_
  exact pK (.inr Z) rfl .nil rfl λW s=>⟨(_,_),(.inr Z),Z,by have s2:=(s.p5_2 [0,1] rfl);(first | rw [bW,stT,aE e1] | rw [bW,stT,aA n1,aE e2] | rw [bW,stT,aA n1,aA n2,aE e3] | rw [bW,stT,aA n1,aA n2,aA n3,aE e4,aA (by simpa using q)] | rw [bW,stT,aA n1,aA n2,aA n3,aE e4,aE (by simpa using q)] | rw [bW,stT,aA n1,aA n2,aA n3,aA n4,aE e5] | rw [bW,stT,aA n1,aA n2,aA n3,aA n4,aA n5,aE e6] | rw [bW,stT,aA n1,aA n2,aA n3,aA n4,aA n5,aA n6,aE e7] | rw [bW,stT,aA n1,aA n2,aA n3,aA n4,aA n5,aA n6,aA n7,aE e8] | rw [bW,stT,aA n1,aA n2,aA n3,aA n4,aA n5,aA n6,aA n7,aA n8,aE e9] | rw [bW,stT,aA n1,aA n2,aA n3,aA n4,aA n5,aA n6,aA n7,aA n8,aA n9,aE e10]);(try simp only [aQ] at s2|-);(try simp only [aR] at s2|-);(try simp only [bU] at s2|-);(try simp only [aX] at s2|-);exact s2⟩
 have n2:¬ kd=2:=λe=>h37 (by rw [e];rfl);refine .sr<|.yw (.eql Z Z)<|.aq Z<|.ce Z (λh50=>?_) (λh50=>?_)
 ·have e3:kd=3:=bT.1 (by show kd.toNat=3;omega);have hlo:1<=ex.length:=by have h5:=hfr.2.1;rw [e3] at h5;exact cN (by decide) h5
  rw [stT,aA n1,aA n2,aE e3] at hl;try simp only [aD] at hl
  refine .fL 7 [(0,0),(1,0),(2,0),(3,0),(4,0),(5,0),(6,1)]<|.mv Z<|.fA Z kU<|.lD Z bZ dN Z<|.mv Z<|.yw (.indexSl dR Z Z (i:=0) Z (by omega) (q:=0) Z)<|.yw (.load (v:=cJ ((ex.map Ex.text).getD 0 [])) Z bZ Hm (AA (by rw [aJ];omega)))<|.bl Z (DD _ _ _ _ _) Z λb58=>.fn (tl:=[_]) Z<|.cs (X:=Value) iI Z (λW s=>nI (parts:=[[100,101,108,101,116,101,32],nm,[91],(ex.map Ex.text).getD 0 [],[93,59]]) ha (nb Z) (by (try simp only [aD]);omega) (s.p5_5 [3,4,0,1,2] Z)) Z λr59 _=>.nl<|.bN<|?_
  exact pK (.inr Z) rfl .nil rfl λW s=>⟨(_,_),(.inr Z),Z,by have s2:=(s.p5_2 [0,1] rfl);(first | rw [bW,stT,aE e1] | rw [bW,stT,aA n1,aE e2] | rw [bW,stT,aA n1,aA n2,aE e3] | rw [bW,stT,aA n1,aA n2,aA n3,aE e4,aA (by simpa using q)] | rw [bW,stT,aA n1,aA n2,aA n3,aE e4,aE (by simpa using q)] | rw [bW,stT,aA n1,aA n2,aA n3,aA n4,aE e5] | rw [bW,stT,aA n1,aA n2,aA n3,aA n4,aA n5,aE e6] | rw [bW,stT,aA n1,aA n2,aA n3,aA n4,aA n5,aA n6,aE e7] | rw [bW,stT,aA n1,aA n2,aA n3,aA n4,aA n5,aA n6,aA n7,aE e8] | rw [bW,stT,aA n1,aA n2,aA n3,aA n4,aA n5,aA n6,aA n7,aA n8,aE e9] | rw [bW,stT,aA n1,aA n2,aA n3,aA n4,aA n5,aA n6,aA n7,aA n8,aA n9,aE e10]);(try simp only [aQ] at s2|-);(try simp only [aR] at s2|-);(try simp only [bU] at s2|-);(try simp only [aX] at s2|-);exact s2⟩
 have n3:¬ kd=3:=λe=>h50 (by rw [e];rfl);refine .sr<|.yw (.eql Z Z)<|.aq Z<|.ce Z (λh60=>?_) (λh60=>?_)
 ·have e4:kd=4:=bT.1 (by show kd.toNat=4;omega);have hlo:1<=ex.length:=by have h5:=hfr.2.1;rw [e4] at h5;exact cN (by decide) h5
  rw [stT,aA n1,aA n2,aA n3,aE e4] at hl;try simp only [aD] at hl
  have hq:=mJ ind [[125]];refine .sm Z<|.mv Z<|.yw (.indexSl dR Z Z (i:=0) Z (by omega) (q:=0) Z)<|.yw (.load (v:=cJ ((ex.map Ex.text).getD 0 [])) Z bZ Hm (AA (by rw [aJ];omega)))<|.bl Z (qK _ _ _) Z λb66=>.cs (X:=Value) iI Z (λW s=>nI (parts:=[[105,102,32],(ex.map Ex.text).getD 0 [],[32,123]]) ha (nb Z) (by (try simp only [aD]);omega) (s.p5_5 [3,4,0,1,2] Z)) Z λr67 _=>.ns<|.mv Z<|.fA Z mS<|.lD Z iP QV Z<|.cs (X:=Option Addr × Value) DA Z (λW s=>hth _ _ _ _ _ _ _ _ _ _ _ hs1 hf2 (.inr Z) (by (try simp only [aD]);omega) (by omega) (s.p5_4 [0,1,3,4] Z)) Z λz71 hz71=>.nt<|.sq<|.sr<|.fA Z jZ<|.lD Z iP oU Z<|.yw (.lenSl lH Z)<|.yw (.gtr Z Z)<|.nt<|.ce Z (λh75=>?_) (λh75=>?_)
  ·have q:¬ el.length=0:=by omega
   rw [aA (by simpa using q)] at hl;simp only [aD] at hl;refine .sm Z<|.bl Z (jY _) Z λb77=>.cs (X:=Value) iI Z (λW s=>nI (parts:=[[125,32,101,108,115,101,32,123]]) hz71 (nb Z) (by (try simp only [aD]);omega) (s.p5_5 [1,2,0,3,4] Z)) Z λr78 _=>.nt<|.rg<|.mv Z<|.fA Z jZ<|.lD Z iP QV Z<|.cs (X:=Option Addr × Value) DA Z (λW s=>hel _ _ _ _ _ _ _ _ _ _ _ hs2 hf3 (.inr Z) (by (try simp only [aD]);omega) (by omega) (s.p5_4 [0,1,3,4] Z)) Z λz82 hz82=>.nt<|.rg<|.mv Z<|.bl Z (jY _) Z λb84=>.cs (X:=Value) iI Z (λW s=>nI (parts:=[[125]]) hz82 (nb Z) (by (try simp only [aD]);omega) (s.p5_5 [1,2,0,3,4] Z)) Z λr85 _=>.nl<|.bN<|?_
   exact pK (.inr Z) rfl .nil rfl λW s=>⟨(_,_),(.inr Z),Z,by have s2:=(s.p5_2 [0,1] rfl);(first | rw [bW,stT,aE e1] | rw [bW,stT,aA n1,aE e2] | rw [bW,stT,aA n1,aA n2,aE e3] | rw [bW,stT,aA n1,aA n2,aA n3,aE e4,aA (by simpa using q)] | rw [bW,stT,aA n1,aA n2,aA n3,aE e4,aE (by simpa using q)] | rw [bW,stT,aA n1,aA n2,aA n3,aA n4,aE e5] | rw [bW,stT,aA n1,aA n2,aA n3,aA n4,aA n5,aE e6] | rw [bW,stT,aA n1,aA n2,aA n3,aA n4,aA n5,aA n6,aE e7] | rw [bW,stT,aA n1,aA n2,aA n3,aA n4,aA n5,aA n6,aA n7,aE e8] | rw [bW,stT,aA n1,aA n2,aA n3,aA n4,aA n5,aA n6,aA n7,aA n8,aE e9] | rw [bW,stT,aA n1,aA n2,aA n3,aA n4,aA n5,aA n6,aA n7,aA n8,aA n9,aE e10]);(try simp only [aQ] at s2|-);(try simp only [aR] at s2|-);(try simp only [bU] at s2|-);(try simp only [aX] at s2|-);exact s2⟩
  have q:el.length=0:=by omega
  rw [aE (by simpa using q)] at hl;refine .sk<|.tN<|.rg<|.mv Z<|.bl Z (jY _) Z λb84=>.cs (X:=Value) iI Z (λW s=>nI (parts:=[[125]]) hz71 (nb Z) (by (try simp only [aD]);omega) (s.p5_5 [1,2,0,3,4] Z)) Z λr85 _=>.nl<|.bN<|?_
  exact pK (.inr Z) rfl .nil rfl λW s=>⟨(_,_),(.inr Z),Z,by have s2:=(s.p5_2 [0,1] rfl);(first | rw [bW,stT,aE e1] | rw [bW,stT,aA n1,aE e2] | rw [bW,stT,aA n1,aA n2,aE e3] | rw [bW,stT,aA n1,aA n2,aA n3,aE e4,aA (by simpa using q)] | rw [bW,stT,aA n1,aA n2,aA n3,aE e4,aE (by simpa using q)] | rw [bW,stT,aA n1,aA n2,aA n3,aA n4,aE e5] | rw [bW,stT,aA n1,aA n2,aA n3,aA n4,aA n5,aE e6] | rw [bW,stT,aA n1,aA n2,aA n3,aA n4,aA n5,aA n6,aE e7] | rw [bW,stT,aA n1,aA n2,aA n3,aA n4,aA n5,aA n6,aA n7,aE e8] | rw [bW,stT,aA n1,aA n2,aA n3,aA n4,aA n5,aA n6,aA n7,aA n8,aE e9] | rw [bW,stT,aA n1,aA n2,aA n3,aA n4,aA n5,aA n6,aA n7,aA n8,aA n9,aE e10]);(try simp only [aQ] at s2|-);(try simp only [aR] at s2|-);(try simp only [bU] at s2|-);(try simp only [aX] at s2|-);exact s2⟩
 have n4:¬ kd=4:=λe=>h60 (by rw [e];rfl);refine .sr<|.yw (.eql Z Z)<|.aq Z<|.ce Z (λh86=>?_) (λh86=>?_)
 ·have e5:kd=5:=bT.1 (by show kd.toNat=5;omega);have hlo:1<=ex.length:=by have h5:=hfr.2.1;rw [e5] at h5;exact cN (by decide) h5
  rw [stT,aA n1,aA n2,aA n3,aA n4,aE e5] at hl;try simp only [aD] at hl
  have hq:=mJ ind [[125]];refine .sm Z<|.mv Z<|.yw (.indexSl dR Z Z (i:=0) Z (by omega) (q:=0) Z)<|.yw (.load (v:=cJ ((ex.map Ex.text).getD 0 [])) Z bZ Hm (AA (by rw [aJ];omega)))<|.bl Z (qK _ _ _) Z λb92=>.cs (X:=Value) iI Z (λW s=>nI (parts:=[[119,104,105,108,101,32],(ex.map Ex.text).getD 0 [],[32,123]]) ha (nb Z) (by (try simp only [aD]);omega) (s.p5_5 [3,4,0,1,2] Z)) Z λr93 _=>.ns<|.mv Z<|.fA Z mS<|.lD Z iP QV Z<|.cs (X:=Option Addr × Value) DA Z (λW s=>hth _ _ _ _ _ _ _ _ _ _ _ hs1 hf2 (.inr Z) (by (try simp only [aD]);omega) (by omega) (s.p5_4 [0,1,3,4] Z)) Z λz97 hz97=>.nt<|.rg<|.mv Z<|.bl Z (jY _) Z λb99=>.cs (X:=Value) iI Z (λW s=>nI (parts:=[[125]]) hz97 (nb Z) (by (try simp only [aD]);omega) (s.p5_5 [1,2,0,3,4] Z)) Z λr100 _=>.nl<|.bN<|?_
  exact pK (.inr Z) rfl .nil rfl λW s=>⟨(_,_),(.inr Z),Z,by have s2:=(s.p5_2 [0,1] rfl);(first | rw [bW,stT,aE e1] | rw [bW,stT,aA n1,aE e2] | rw [bW,stT,aA n1,aA n2,aE e3] | rw [bW,stT,aA n1,aA n2,aA n3,aE e4,aA (by simpa using q)] | rw [bW,stT,aA n1,aA n2,aA n3,aE e4,aE (by simpa using q)] | rw [bW,stT,aA n1,aA n2,aA n3,aA n4,aE e5] | rw [bW,stT,aA n1,aA n2,aA n3,aA n4,aA n5,aE e6] | rw [bW,stT,aA n1,aA n2,aA n3,aA n4,aA n5,aA n6,aE e7] | rw [bW,stT,aA n1,aA n2,aA n3,aA n4,aA n5,aA n6,aA n7,aE e8] | rw [bW,stT,aA n1,aA n2,aA n3,aA n4,aA n5,aA n6,aA n7,aA n8,aE e9] | rw [bW,stT,aA n1,aA n2,aA n3,aA n4,aA n5,aA n6,aA n7,aA n8,aA n9,aE e10]);(try simp only [aQ] at s2|-);(try simp only [aR] at s2|-);(try simp only [bU] at s2|-);(try simp only [aX] at s2|-);exact s2⟩
 have n5:¬ kd=5:=λe=>h86 (by rw [e];rfl);refine .sr<|.yw (.eql Z Z)<|.aq Z<|.ce Z (λh101=>?_) (λh101=>?_)
 ·have e6:kd=6:=bT.1 (by show kd.toNat=6;omega);have hlo:0<=ex.length:=by have h5:=hfr.2.1;rw [e6] at h5;exact cN (by decide) h5
  rw [stT,aA n1,aA n2,aA n3,aA n4,aA n5,aE e6] at hl;try simp only [aD] at hl
  have hq:=mJ ind [[115,101,110,100,32],nm,[46],hd,[40],wH (ex.map Ex.text),[41,59]];simp only [eY,aD] at hq;refine .fL 8 [(0,0),(1,0),(2,0),(3,0),(4,0),(5,0),(6,0),(7,1)]<|.mv Z<|.fA Z kU<|.lD Z bZ dN Z<|.fA Z mT<|.lD Z bZ dN Z<|.mv Z<|.yw (.call LR Z (λW s=>cC9 (ex.map Ex.text) (by simp) s Hm (by simp;omega) (by omega)))<|.bl Z (LW _ _ _ _ _ _ _) Z λb110=>.fn (tl:=[_]) Z<|.cs (X:=Value) iI Z (λW s=>nI (parts:=[[115,101,110,100,32],nm,[46],hd,[40],wH (ex.map Ex.text),[41,59]]) ha (nb Z) (by (try simp only [aD]);omega) (s.p5_5 [3,4,0,1,2] Z)) Z λr111 _=>.nl<|.bN<|?_
  exact pK (.inr Z) rfl .nil rfl λW s=>⟨(_,_),(.inr Z),Z,by have s2:=(s.p5_2 [0,1] rfl);(first | rw [bW,stT,aE e1] | rw [bW,stT,aA n1,aE e2] | rw [bW,stT,aA n1,aA n2,aE e3] | rw [bW,stT,aA n1,aA n2,aA n3,aE e4,aA (by simpa using q)] | rw [bW,stT,aA n1,aA n2,aA n3,aE e4,aE (by simpa using q)] | rw [bW,stT,aA n1,aA n2,aA n3,aA n4,aE e5] | rw [bW,stT,aA n1,aA n2,aA n3,aA n4,aA n5,aE e6] | rw [bW,stT,aA n1,aA n2,aA n3,aA n4,aA n5,aA n6,aE e7] | rw [bW,stT,aA n1,aA n2,aA n3,aA n4,aA n5,aA n6,aA n7,aE e8] | rw [bW,stT,aA n1,aA n2,aA n3,aA n4,aA n5,aA n6,aA n7,aA n8,aE e9] | rw [bW,stT,aA n1,aA n2,aA n3,aA n4,aA n5,aA n6,aA n7,aA n8,aA n9,aE e10]);(try simp only [aQ] at s2|-);(try simp only [aR] at s2|-);(try simp only [bU] at s2|-);(try simp only [aX] at s2|-);exact s2⟩
 have n6:¬ kd=6:=λe=>h101 (by rw [e];rfl);refine .sr<|.yw (.eql Z Z)<|.aq Z<|.ce Z (λh112=>?_) (λh112=>?_)
 ·have e7:kd=7:=bT.1 (by show kd.toNat=7;omega);have hlo:1<=ex.length:=by have h5:=hfr.2.1;rw [e7] at h5;exact cN (by decide) h5
  rw [stT,aA n1,aA n2,aA n3,aA n4,aA n5,aA n6,aE e7] at hl;try simp only [aD] at hl
  have hq:=mJ ind [[97,102,116,101,114,32],(ex.map Ex.text).getD 0 [],[32,100,111,32],hd,[40],wH ((ex.map Ex.text).drop 1),[41,59]];simp only [eY,aD] at hq;refine .fL 10 [(0,0),(1,0),(2,0),(3,0),(4,0),(5,0),(6,0),(7,0),(8,0),(9,1)]<|.mv Z<|.mv Z<|.yw (.indexSl dR Z Z (i:=0) Z (by omega) (q:=0) Z)<|.yw (.load (v:=cJ ((ex.map Ex.text).getD 0 [])) Z bZ Hm (AA (by rw [aJ];omega)))<|.fA Z mT<|.lD Z bZ dN Z<|.mv Z<|.yw (.cutLo dR Z Z (lo:=1) Z (by omega) (aK _))<|.yw (.call LR Z (λW s=>bN2 (ex.map Ex.text) (by simp) s Hm (by simp;omega) (by omega)))<|.bl Z (LW _ _ _ _ _ _ _) Z λb123=>.fn (tl:=[_]) Z<|.cs (X:=Value) iI Z (λW s=>nI (parts:=[[97,102,116,101,114,32],(ex.map Ex.text).getD 0 [],[32,100,111,32],hd,[40],wH ((ex.map Ex.text).drop 1),[41,59]]) ha (nb Z) (by (try simp only [aD]);omega) (s.p5_5 [3,4,0,1,2] Z)) Z λr124 _=>.nl<|.bN<|?_
  exact pK (.inr Z) rfl .nil rfl λW s=>⟨(_,_),(.inr Z),Z,by have s2:=(s.p5_2 [0,1] rfl);(first | rw [bW,stT,aE e1] | rw [bW,stT,aA n1,aE e2] | rw [bW,stT,aA n1,aA n2,aE e3] | rw [bW,stT,aA n1,aA n2,aA n3,aE e4,aA (by simpa using q)] | rw [bW,stT,aA n1,aA n2,aA n3,aE e4,aE (by simpa using q)] | rw [bW,stT,aA n1,aA n2,aA n3,aA n4,aE e5] | rw [bW,stT,aA n1,aA n2,aA n3,aA n4,aA n5,aE e6] | rw [bW,stT,aA n1,aA n2,aA n3,aA n4,aA n5,aA n6,aE e7] | rw [bW,stT,aA n1,aA n2,aA n3,aA n4,aA n5,aA n6,aA n7,aE e8] | rw [bW,stT,aA n1,aA n2,aA n3,aA n4,aA n5,aA n6,aA n7,aA n8,aE e9] | rw [bW,stT,aA n1,aA n2,aA n3,aA n4,aA n5,aA n6,aA n7,aA n8,aA n9,aE e10]);(try simp only [aQ] at s2|-);(try simp only [aR] at s2|-);(try simp only [bU] at s2|-);(try simp only [aX] at s2|-);exact s2⟩
 have n7:¬ kd=7:=λe=>h112 (by rw [e];rfl);refine .sr<|.yw (.eql Z Z)<|.aq Z<|.ce Z (λh125=>?_) (λh125=>?_)
 ·have e8:kd=8:=bT.1 (by show kd.toNat=8;omega);have hlo:2<=ex.length:=by have h5:=hfr.2.1;rw [e8] at h5;exact cN (by decide) h5
  rw [stT,aA n1,aA n2,aA n3,aA n4,aA n5,aA n6,aA n7,aE e8] at hl;try simp only [aD] at hl
  have hq:=YG ind ([115,116,111,114,101,32]++(ex.map Ex.text).getD 0 []++[32,61,32]++(ex.map Ex.text).getD 1 []) (decide (el.length=0)) (Sm.texts (ind+1) el);simp only [aD] at hq;refine .fL 12 [(0,0),(1,0),(2,0),(3,0),(4,0),(5,0),(6,0),(7,0),(8,0),(9,0),(10,0),(11,0)]<|.mv Z<|.mv Z<|.yw (.indexSl dR Z Z (i:=0) Z (by omega) (q:=0) Z)<|.yw (.load (v:=cJ ((ex.map Ex.text).getD 0 [])) Z bZ Hm (AA (by rw [aJ];omega)))<|.yw (.app Z Z (by (try simp only [aD]);(try simp only [aH,aS]);(try simp only [aH,aS] at hq);omega))<|.yw (.app Z Z (by (try simp only [aD]);(try simp only [aH,aS]);(try simp only [aH,aS] at hq);omega))<|.mv Z<|.yw (.indexSl dR Z Z (i:=1) Z (by omega) (q:=1) Z)<|.yw (.load (v:=cJ ((ex.map Ex.text).getD 1 [])) Z bZ Hm (AA (by rw [aJ];omega)))<|.yw (.app Z Z (by (try simp only [aD]);(try simp only [aH,aS]);(try simp only [aH,aS] at hq);omega))<|.fA Z jZ<|.lD Z iP dN Z<|.fn (tl:=[_]) Z<|.cs (X:=Option Addr × Value) UR Z (λW s=>aO9 H el hel _ _ _ _ _ _ _ _ _ _ _ hs2 hf3 ha (by (try simp only [aD]);omega) (by omega) (s.p4_4 [2,3,0,1] Z)) Z λz139 hz139=>.nl<|.bN<|?_
  exact pK (.inr Z) rfl .nil rfl λW s=>⟨(_,_),hz139,Z,by have s2:=(s.p4_2 [0,1] rfl);(first | rw [bW,stT,aE e1] | rw [bW,stT,aA n1,aE e2] | rw [bW,stT,aA n1,aA n2,aE e3] | rw [bW,stT,aA n1,aA n2,aA n3,aE e4,aA (by simpa using q)] | rw [bW,stT,aA n1,aA n2,aA n3,aE e4,aE (by simpa using q)] | rw [bW,stT,aA n1,aA n2,aA n3,aA n4,aE e5] | rw [bW,stT,aA n1,aA n2,aA n3,aA n4,aA n5,aE e6] | rw [bW,stT,aA n1,aA n2,aA n3,aA n4,aA n5,aA n6,aE e7] | rw [bW,stT,aA n1,aA n2,aA n3,aA n4,aA n5,aA n6,aA n7,aE e8] | rw [bW,stT,aA n1,aA n2,aA n3,aA n4,aA n5,aA n6,aA n7,aA n8,aE e9] | rw [bW,stT,aA n1,aA n2,aA n3,aA n4,aA n5,aA n6,aA n7,aA n8,aA n9,aE e10]);(try simp only [aQ] at s2|-);(try simp only [aR] at s2|-);(try simp only [bU] at s2|-);(try simp only [aX] at s2|-);exact s2⟩
 have n8:¬ kd=8:=λe=>h125 (by rw [e];rfl);refine .sr<|.yw (.eql Z Z)<|.aq Z<|.ce Z (λh140=>?_) (λh140=>?_)
 ·have e9:kd=9:=bT.1 (by show kd.toNat=9;omega);have hlo:1<=ex.length:=by have h5:=hfr.2.1;rw [e9] at h5;exact cN (by decide) h5
  rw [stT,aA n1,aA n2,aA n3,aA n4,aA n5,aA n6,aA n7,aA n8,aE e9] at hl;try simp only [aD] at hl
  have hq:=YG ind ([102,101,116,99,104,32]++nm++[32,61,32]++(ex.map Ex.text).getD 0 []) (decide (el.length=0)) (Sm.texts (ind+1) el);simp only [aD] at hq;refine .fL 11 [(0,0),(1,0),(2,0),(3,0),(4,0),(5,0),(6,0),(7,0),(8,0),(9,0),(10,0)]<|.mv Z<|.fA Z kU<|.lD Z bZ dN Z<|.yw (.app Z Z (by (try simp only [aD]);(try simp only [aH,aS]);(try simp only [aH,aS] at hq);omega))<|.yw (.app Z Z (by (try simp only [aD]);(try simp only [aH,aS]);(try simp only [aH,aS] at hq);omega))<|.mv Z<|.yw (.indexSl dR Z Z (i:=0) Z (by omega) (q:=0) Z)<|.yw (.load (v:=cJ ((ex.map Ex.text).getD 0 [])) Z bZ Hm (AA (by rw [aJ];omega)))<|.yw (.app Z Z (by (try simp only [aD]);(try simp only [aH,aS]);(try simp only [aH,aS] at hq);omega))<|.fA Z jZ<|.lD Z iP dN Z<|.fn (tl:=[_]) Z<|.cs (X:=Option Addr × Value) UR Z (λW s=>aO9 H el hel _ _ _ _ _ _ _ _ _ _ _ hs2 hf3 ha (by (try simp only [aD]);omega) (by omega) (s.p4_4 [2,3,0,1] Z)) Z λz153 hz153=>.nl<|.bN<|?_
  exact pK (.inr Z) rfl .nil rfl λW s=>⟨(_,_),hz153,Z,by have s2:=(s.p4_2 [0,1] rfl);(first | rw [bW,stT,aE e1] | rw [bW,stT,aA n1,aE e2] | rw [bW,stT,aA n1,aA n2,aE e3] | rw [bW,stT,aA n1,aA n2,aA n3,aE e4,aA (by simpa using q)] | rw [bW,stT,aA n1,aA n2,aA n3,aE e4,aE (by simpa using q)] | rw [bW,stT,aA n1,aA n2,aA n3,aA n4,aE e5] | rw [bW,stT,aA n1,aA n2,aA n3,aA n4,aA n5,aE e6] | rw [bW,stT,aA n1,aA n2,aA n3,aA n4,aA n5,aA n6,aE e7] | rw [bW,stT,aA n1,aA n2,aA n3,aA n4,aA n5,aA n6,aA n7,aE e8] | rw [bW,stT,aA n1,aA n2,aA n3,aA n4,aA n5,aA n6,aA n7,aA n8,aE e9] | rw [bW,stT,aA n1,aA n2,aA n3,aA n4,aA n5,aA n6,aA n7,aA n8,aA n9,aE e10]);(try simp only [aQ] at s2|-);(try simp only [aR] at s2|-);(try simp only [bU] at s2|-);(try simp only [aX] at s2|-);exact s2⟩
 have n9:¬ kd=9:=λe=>h140 (by rw [e];rfl);refine .sr<|.yw (.eql Z Z)<|.aq Z<|.ce Z (λh154=>?_) (λh154=>?_)
 ·have e10:kd=10:=bT.1 (by show kd.toNat=10;omega);have hlo:0<=ex.length:=by have h5:=hfr.2.1;rw [e10] at h5;exact cN (by decide) h5
  rw [stT,aA n1,aA n2,aA n3,aA n4,aA n5,aA n6,aA n7,aA n8,aA n9,aE e10] at hl;try simp only [aD] at hl
  refine .rg<|.mv Z<|.bl Z (jY _) Z λb157=>.cs (X:=Value) iI Z (λW s=>nI (parts:=[[115,116,111,112,59]]) ha (nb Z) (by (try simp only [aD]);omega) (s.p5_5 [3,4,0,1,2] Z)) Z λr158 _=>.nl<|.bN<|?_
  exact pK (.inr Z) rfl .nil rfl λW s=>⟨(_,_),(.inr Z),Z,by have s2:=(s.p5_2 [0,1] rfl);(first | rw [bW,stT,aE e1] | rw [bW,stT,aA n1,aE e2] | rw [bW,stT,aA n1,aA n2,aE e3] | rw [bW,stT,aA n1,aA n2,aA n3,aE e4,aA (by simpa using q)] | rw [bW,stT,aA n1,aA n2,aA n3,aE e4,aE (by simpa using q)] | rw [bW,stT,aA n1,aA n2,aA n3,aA n4,aE e5] | rw [bW,stT,aA n1,aA n2,aA n3,aA n4,aA n5,aE e6] | rw [bW,stT,aA n1,aA n2,aA n3,aA n4,aA n5,aA n6,aE e7] | rw [bW,stT,aA n1,aA n2,aA n3,aA n4,aA n5,aA n6,aA n7,aE e8] | rw [bW,stT,aA n1,aA n2,aA n3,aA n4,aA n5,aA n6,aA n7,aA n8,aE e9] | rw [bW,stT,aA n1,aA n2,aA n3,aA n4,aA n5,aA n6,aA n7,aA n8,aA n9,aE e10]);(try simp only [aQ] at s2|-);(try simp only [aR] at s2|-);(try simp only [bU] at s2|-);(try simp only [aX] at s2|-);exact s2⟩
 simp only [uI,aF,aB] at hokd;exact absurd (by omega:False) id
theorem cG8 (H:Hp) (G:Gl H) (g:Gt H):∀ x:List Sm,aG7 H x:=by
 refine Sm.lists λl ih=>?_;intro p n c w0 W bs b a r ind t hs hf ha hl hi s;obtain rfl:n=l.length:=by have:=hs.len.1;simpa using this
 have hcap:=hs.cap;refine fD func129 rfl ntmps129 rfl s ?_;refine .sm Z<|.nC Z<|.fA Z iK<|.lD Z dZ Hm Z<|.yw (.add Z Z (c:=((ind+1:Nat):Int)) ((w6 (by omega)).trans (by omega)))<|.nC Z<|.fA Z iK<|.st .head Z Z jG Z (nb Z) Z<|.nt<|.sq<|.sm Z<|.yw (.lenSl lH Z)<|.mv Z<|.nt<|.bk<|.lp (X:=Nat × Option Addr × Value) [(0,_),(13,_),(14,_)] ⟨Z,Z,Z,Jt⟩ (bs) (λz=>[(15,.int .i64 (z.1:Nat))]) (λz=>H) (λz=>[.box b [.pointer z.2.1,z.2.2,.int .i64 (ind+1:Nat)] 117,.row 5 1 z.2.2 (t++Sm.texts (ind+1) (l.take z.1)).length ((t++Sm.texts (ind+1) (l.take z.1)).map kF)]) (λz=>z.1<=l.length/\(z.2.1=none\/z.2.1=some ⟨b,0,none⟩)) (λz=>l.length - z.1) (0,a,r) (λ_ s=>by simpa [Sm.texts] using s) ⟨Z,Jt⟩ ⟨by simp,ha⟩ λz hC=>?_
 obtain ⟨k,a,r⟩:=z;dsimp only at hC|-;obtain ⟨hk0,ha⟩:=hC;refine .sr<|.yw (.lss Z Z)<|.nt<|.sq<|.ce Z (λh16=>?_) (λh16=>?_)
 ·have hk:k<l.length:=by omega
  obtain ⟨bE,oE,cE,hpE,rE,lE,mE⟩:=hs.elem (eL hk);cases hpE;have hf1:=aJ6 hk hf;have hle:=aI7 (ind+1) l (k+1);rw [PV hk,aD] at hle;have hi2:=ih _ (cD hk);exact .sk<|.tN<|.sq<|.bk<|.sr<|.yw (.indexSl lH Z Z Z (by omega) (q:=oE+k * 6) Z)<|.yw (.loadMW Z iO mE lE)<|.al vF Z λb5=>.sV .head Z Z lV lE rE.one Z<|.nt<|.rg<|.mv Z<|.yw (.loadW Z iO Hm lE)<|.cs (X:=Option Addr × Value) aZ7 Z (λW s=>VN H G g _ hi2.1 hi2.2 _ _ _ _ _ _ _ _ _ rE hf1 ha (by (try simp only [aD]);omega) (by omega) (s.p3_2 [1,2] Z)) Z λz21 hz21=>.nl<|.bN<|.tN<|.rg<|.yw (.add Z Z w7)<|.mv Z<|.nt<|.ag (x:=(k,a,r)) (k+1,z21.1,z21.2) ⟨Z,Jt⟩ ⟨Z,Z,Z,Jt⟩ (λ_ s=>by have s2:=s;dsimp only;rw [PV hk];(try simp only [aQ] at s2|-);(try simp only [aR] at s2|-);(try simp only [bU] at s2|-);(try simp only [aX] at s2|-);exact s2) ⟨by dsimp only;omega,hz21⟩ (by dsimp only;omega)
 obtain rfl:k=l.length:=by omega
 rw [aI];refine .ex<|.eb<|.rg<|.mv Z<|.nC Z<|.fA Z iK<|.lD Z dZ Hm Z<|.yw (.sub Z Z (c:=((ind:Nat):Int)) ((w6 (by omega)).trans (by omega)))<|.nC Z<|.fA Z iK<|.st .head Z Z jG Z (nb Z) Z<|.nl<|?_
 exact pK (.inr Z) rfl .nil rfl λW s=>⟨(_,_),ha,Z,by have s2:=(s.p2_2 [0,1] rfl);(skip);(try simp only [aQ] at s2|-);(try simp only [aR] at s2|-);(try simp only [bU] at s2|-);(try simp only [aX] at s2|-);exact s2⟩
theorem cR4 {q r:Sm->Bool} (h:∀ s,q s=true->r s=true):∀ l,Sm.alls q l=true->Sm.alls r l=true:=by
 refine Sm.lists λl ih=>?_;induction l with
 | nil=>intro _;rfl
 | cons s t iht =>
  intro hl;obtain ⟨kd,nm,hd,ex,th,el⟩:=s;have h0:=ih _ Hm;simp only [Sm.th,Sm.el] at h0;simp only [Sm.alls,oM,aF] at hl|-;exact ⟨⟨⟨h _ hl.1.1.1,h0.1 hl.1.1.2⟩,h0.2 hl.1.2⟩,iht (λx hx=>ih x (.tail _ hx)) hl.2⟩
theorem II {q r:Sm->Bool} :∀ l,Sm.alls q l=true->Sm.alls r l=true->Sm.alls (λs=>q s && r s) l=true:=by
 refine Sm.lists λl ih=>?_;induction l with
 | nil=>intro _ _;rfl
 | cons s t iht =>
  intro hl hr;obtain ⟨kd,nm,hd,ex,th,el⟩:=s;have h0:=ih _ Hm;simp only [Sm.th,Sm.el] at h0;simp only [Sm.alls,oM,aF] at hl hr|-;exact ⟨⟨⟨⟨hl.1.1.1,hr.1.1.1⟩,h0.1 hl.1.1.2 hr.1.1.2⟩,h0.2 hl.1.2 hr.1.2⟩,iht (λx hx=>ih x (.tail _ hx)) hl.2 hr.2⟩
def bJ6 (h:Hd):Bool:=decide (h.ps.length<=1000) && Sm.alls bJ5 h.body
variable {h:Hd}
theorem bX3 (h1:DH h=true) (h2:BU h=true) (h3:HG h=true):bJ6 h=true:=by
 simp only [DH,aF,dY,mO,bM] at h1;simp only [BU,aF] at h2;simp only [bJ6,aF,aB];refine ⟨by omega,cR4 (q:=λs=>(GQ s && vB s) && BE s) ?_ _ (II _ (II _ h1.2 h2.2) h3)⟩;rintro ⟨kd,nm,hd,ex,th,el⟩ hs;simp only [aF] at hs;obtain ⟨⟨k1,k2⟩,k3⟩:=hs;rw [bJ5,k3,gM,aP];intro x hx;have k4:=(aE1 k3).2.2.2;simp only [GQ,aP,aB] at k1;simp only [vB,aF] at k2;have:=bJ9 (k1 x hx) (iV hx k2.2) (iV hx k4);simp only [aB];omega
theorem cG7 (b:Bool):Lib.formatBool b=QJ b:=by cases b <;> decide
theorem HJ (b:Bool) (w:World):Calls prg 44 #[.bool b] w λr w'=>r=.returned (cJ (QJ b))/\Ext w w' :=
 (Tryz.strconv_FormatBool b w).mono λ_ _ ⟨he,hw⟩=>⟨by rw [he,cG7];rfl,hw ▸ Ext.refl w⟩
theorem aN2 (H:Hp) (g:Gt H) (n:Int) (h0:-9223372036854775808<=n) (h1:n<=9223372036854775807) (w:World) (hA:Agr H w):Calls prg 45 #[.int .i64 n] w λr w'=>r=.returned (cJ (Lib.itoa n))/\Ext w w' :=
 (Tryz.strconv_Itoa n h0 h1 w (g w hA)).mono λ_ _ ⟨he,k,os,hw⟩=>⟨he,hw ▸ ((Ext.refl w).drewN k).trans (aO7 os)⟩
theorem cD0 (hA:Agr H W) (ps:List Str) {p:Option Addr} (h:Rep H (.seq 1 (ps.map lU)) [.slice p ps.length c]) (hN:ps.length<=1000) (hl:(wH ps).length<=140737488355328) :
 Calls prg 128 #[.slice p ps.length c,cJ [44,32]] W λe w'=>e=.returned (cJ (wH ps))/\Ext W w':=by
 by_cases h0:ps.length=0
 ·obtain rfl:=cQ h0;exact (Tryz.strings_Join_none p c ⟨#[44,32]⟩ W).mono λe w' ⟨he,hw⟩=>⟨he,hw ▸ Ext.refl W⟩
 ·obtain ⟨b,o,cs,rfl,r0,l0,⟨arr,T,m,m1,m2⟩⟩:=h.elem (eL (f:=lU) (show 0<ps.length by omega));refine aW3 W b o c ps (λj x e=>?_) (sI (hA _ _ m1)) (by omega) h.len.2.1 hl;obtain ⟨b',o',cs',e1,r1,l1,m1'⟩:=h.elem (i:=j) (d:=lU x) (by rw [List.getElem?_map,e];rfl);cases e1;obtain ⟨rfl,_⟩:=tL r1;have:=m1'.cell (j:=0) hA rfl;simpa using this
theorem XW {l:List Hd} (h:k<l.length):KZ n (l.take (k+1))=KZ n (l.take k)++hdT n l[k]:=oT h
theorem bN3 (n:Nat) (l:List Hd) (k:Nat):(KZ n (l.take k)).length<=(KZ n l).length:=CL l k
theorem MT (H:Hp) (G:Gl H) (g:Gt H) (l:List Hd) (cs:List Value) (w0 W:World) (bs:List Res) (b:Nat) (a:Option Addr) (r:Value) (ind:Nat) (t:Str) (h:Rep H (dVs .u8 l) cs) (hf:l.all bJ6=true) (ha:(a=none\/a=some ⟨b,0,none⟩)) (hl:t.length+(KZ ind l).length<=10000000000000) (hi:ind<=10000000000000) (s:St H w0 (.box b [.pointer a,r,iN ind] 117::.row 5 1 r (t).length ((t).map kF)::bs) W) :
 Calls prg 88 #[.pointer (some ⟨b,0,none⟩),.agg cs.toArray] W λe W'=>∃ z:Option Addr × Value,(z.1=none\/z.1=some ⟨b,0,none⟩)/\e=.returned (.tuple #[])/\St H w0 (.box b [.pointer z.1,z.2,iN ind] 117::.row 5 1 z.2 (t++KZ ind l).length ((t++KZ ind l).map kF)::bs) W':=by
 obtain ⟨p,c,rfl,hs⟩:=HW h;have hcap:=hs.cap;refine fD func88 rfl ntmps88 rfl s ?_;refine .sr<|.bx Z Z Z λb3=>.ns<|.fA Z mU<|.lD Z yI Hm Z<|.yw (.lenSl vH Z)<|.mv Z<|.nt<|.bk<|.lp (X:=Nat × Option Addr × Value) [(0,_),(7,_),(8,_)] ⟨Z,Z,Z,Jt⟩ (_::bs) (λz=>[(9,iN z.1)]) (λz=>H) (λz=>[.box b [.pointer z.2.1,z.2.2,iN ind] 117,.row 5 1 z.2.2 (t++KZ ind (l.take z.1)).length ((t++KZ ind (l.take z.1)).map kF)]) (λz=>z.1<=l.length/\(z.2.1=none\/z.2.1=some ⟨b,0,none⟩)) (λz=>l.length - z.1) (0,a,r) (λ_ s=>by have s2:=(s.p3_3 [1,2,0] Z);simpa [KZ] using s2) ⟨Z,Jt⟩ ⟨by simp,ha⟩ λz hC=>?_
 obtain ⟨k,a,r⟩:=z;dsimp only at hC|-;obtain ⟨hk0,ha⟩:=hC;refine .sr<|.yw (.lss Z Z)<|.nt<|.sq<|.ce Z (λh10=>?_) (λh10=>?_)
 ·have hk:k<l.length:=by omega
  obtain ⟨bE,oE,cE,hpE,rE,lE,mE⟩:=hs.elem (eL hk);cases hpE;have hf1:=DP hk hf;have hle:=bN3 ind l (k+1);rw [XW hk,aD] at hle;generalize hx:l[k]=x at rE hf1 hle;obtain ⟨p1,c1,p2,c2,rfl,hn1,hs1,hs2⟩:=DR rE;simp only [bJ6,aF,aB] at hf1;obtain ⟨hf1,hf2⟩:=hf1;have hq:=mJ ind [[125]];have hq2:=mJ ind [[111,110,32],x.nm,[40],wH x.ps,[41,32,123]];simp only [eY,aD] at hq2;simp only [hdT,aD] at hle;exact .sk<|.tN<|.sq<|.bk<|.sr<|.yw (.indexSl vH Z Z Z (by omega) (q:=oE+k * 3) Z)<|.yw (.loadMW Z wB mE Z)<|.al zL Z λb5=>.sX .head Z Z zN Z<|.nt<|.sq<|.fL 7 [(0,0),(1,0),(2,0),(3,0),(4,0),(5,0),(6,1)]<|.mv Z<|.fA Z wX<|.lD Z bZ Hm Z<|.fA Z pW<|.lD Z rD Hm Z<|.yw (.call LR Z (λW s=>cD0 s.agr x.ps hs1 hf1 (by omega)))<|.bl Z (DD _ _ _ _ _) Z λb19=>.fn (tl:=[_]) Z<|.cs (X:=Value) iI Z (λW s=>nI (parts:=[[111,110,32],x.nm,[40],wH x.ps,[41,32,123]]) ha (nb Z) (by (try simp only [aD]);omega) (s.p5_5 [2,3,0,1,4] Z)) Z λr20 _=>.ns<|.mv Z<|.fA Z nV<|.lD Z iP oU Z<|.cs (X:=Option Addr × Value) DA Z (λW s=>cG8 H G g _ _ _ _ _ _ _ _ _ _ _ _ hs2 hf2 (.inr Z) (by (try simp only [aD]);omega) (by omega) (s.p5_4 [0,1,3,4] Z)) Z λz24 hz24=>.nt<|.rg<|.mv Z<|.bl Z (jY _) Z λb26=>.cs (X:=Value) iI Z (λW s=>nI (parts:=[[125]]) hz24 (nb Z) (by (try simp only [aD]);omega) (s.p5_5 [1,2,0,3,4] Z)) Z λr27 _=>.nl<|.bN<|.tN<|.rg<|.yw (.add Z Z w7)<|.mv Z<|.nt<|.ag (x:=(k,a,r)) (k+1,some ⟨b,0,none⟩,r27) ⟨Z,Jt⟩ ⟨Z,Z,Z,Jt⟩ (λ_ s=>by have s2:=(s.p5_3 [0,1,4] Z);dsimp only;rw [XW hk,hx,hdT];(try simp only [aQ] at s2|-);(try simp only [aR] at s2|-);(try simp only [bU] at s2|-);(try simp only [aX] at s2|-);exact s2) ⟨by dsimp only;omega,(.inr Z)⟩ (by dsimp only;omega)
 obtain rfl:k=l.length:=by omega
 rw [aI];refine .ex<|.tE<|.tE<|.bE<|?_
 exact pK (.inr Z) rfl .nil rfl λW s=>⟨(_,_),ha,Z,by have s2:=(s.p3_2 [0,1] rfl);(skip);(try simp only [aQ] at s2|-);(try simp only [aR] at s2|-);(try simp only [bU] at s2|-);(try simp only [aX] at s2|-);exact s2⟩
theorem VZ (H:Hp) (G:Gl H) (g:Gt H) (x:Cp) (cs:List Value) (w0 W:World) (bs:List Res) (b:Nat) (a:Option Addr) (r:Value) (t:Str) (h:Rep H (dCp .u8 x) cs) (hf:FC bJ6 x=true) (ha:(a=none\/a=some ⟨b,0,none⟩)) (hl:t.length+(cpT x).length<=10000000000000) (s:St H w0 (.box b [.pointer a,r,.int .i64 (1:Nat)] 117::.row 5 1 r (t).length ((t).map kF)::bs) W) :
 Calls prg 46 #[.pointer (some ⟨b,0,none⟩),.agg cs.toArray] W λe W'=>∃ z:Option Addr × Value,(z.1=none\/z.1=some ⟨b,0,none⟩)/\e=.returned (.tuple #[])/\St H w0 (.box b [.pointer z.1,z.2,.int .i64 (1:Nat)] 117::.row 5 1 z.2 (t++cpT x).length ((t++cpT x).map kF)::bs) W':=by
 obtain ⟨p1,c1,p2,c2,rfl,hn1,hs1,hs2⟩:=BW h;have hcap1:=hs1.cap;have hcap2:=hs2.cap;simp only [FC] at hf;rw [cpT] at hl;simp only [aD] at hl;refine fD func46 rfl ntmps46 rfl s ?_;refine .sr<|.bx Z Z Z λb3=>.ns<|.mv Z<|.fA Z xC<|.lD Z bZ Hm Z<|.bl Z (qK _ _ _) Z λb11=>.cs (X:=Value) iI Z (λW s=>nI (parts:=[[99,111,109,112,111,110,101,110,116,32],x.nm,[32,123]]) ha (nb Z) (by (try simp only [aD]);omega) (s.p4_4 [2,3,0,1] Z)) Z λr12 _=>.ns<|.mv Z<|.nC Z<|.fA Z iK<|.lD Z dZ Hm Z<|.yw (.add Z Z (c:=((2:Nat):Int)) (by decide))<|.nC Z<|.fA Z iK<|.st .head Z Z jG Z (nb Z) Z<|.nt<|.sq<|.sr<|.fA Z kW<|.lD Z uG oU Z<|.yw (.lenSl qX Z)<|.mv Z<|.nt<|.bk<|.lp (X:=Nat × Option Addr × Value) [(0,_),(3,_),(21,_),(22,_)] ⟨Z,Z,Z,Z,Jt⟩ (_::bs) (λz=>[(23,.int .i64 (z.1:Nat))]) (λz=>H) (λz=>[.box b [.pointer z.2.1,z.2.2,.int .i64 (2:Nat)] 117,.row 5 1 z.2.2 (t++kB 1 [[99,111,109,112,111,110,101,110,116,32],x.nm,[32,123]]++((x.vars.take z.1).map (vrT 2)).flatten).length ((t++kB 1 [[99,111,109,112,111,110,101,110,116,32],x.nm,[32,123]]++((x.vars.take z.1).map (vrT 2)).flatten).map kF)]) (λz=>z.1<=x.vars.length/\(z.2.1=none\/z.2.1=some ⟨b,0,none⟩)) (λz=>x.vars.length - z.1) (0,some ⟨b,0,none⟩,r12) (λ_ s=>by have s2:=(s.p4_3 [0,1,3] Z);simpa using s2) ⟨Z,Jt⟩ ⟨by simp,.inr Z⟩ λz hC=>?_
 obtain ⟨k,a,r⟩:=z;dsimp only at hC|-;obtain ⟨hk0,ha⟩:=hC;refine .sr<|.yw (.lss Z Z)<|.nt<|.sq<|.ce Z (λh24=>?_) (λh24=>?_)
 ·have hk:k<x.vars.length:=by omega
  obtain ⟨bE,oE,cE,hpE,rE,lE,mE⟩:=hs1.elem (eL hk);cases hpE;have hle:=CL (g:=vrT 2) x.vars (k+1);rw [oT hk,aD] at hle;generalize hx:x.vars[k]=v at rE hle;obtain ⟨rfl,hn2⟩:=FN rE;refine .sk<|.tN<|.sq<|.bk<|.sr<|.yw (.indexSl qX Z Z Z (by omega) (q:=oE+k * 3) Z)<|.yw (.loadMW Z mM mE Z)<|.al zM Z λb5=>.sX .head Z Z rP Z<|.ns<|.fA Z wY<|.lD Z aA1 Hm Z<|.nt<|.bk<|.sr<|.yw (.eql Z Z)<|.aq Z<|.ce Z (λh29=>?_) (λh29=>?_)
  ·have e1:v.ty=1:=bT.1 (by show v.ty.toNat=1;omega);rw [vrT,aE e1] at hle;exact .fL 7 [(0,0),(1,0),(2,0),(3,0),(4,0),(5,0),(6,1)]<|.mv Z<|.fA Z wZ<|.lD Z bZ Hm Z<|.fA Z mV<|.lD Z nX Hm Z<|.yw (.call ZJ Z (λW s=>JV H g v.init W s.agr))<|.bl Z (DD _ _ _ _ _) Z λb37=>.fn (tl:=[_]) Z<|.cs (X:=Value) iI Z (λW s=>nI (parts:=[[118,97,114,32],v.nm,[58,32,105,110,116,32,61,32],Lib.itoa v.init.toInt,[59]]) ha (nb Z) (by (try simp only [aD]);omega) (s.p5_5 [2,3,0,1,4] Z)) Z λr38 _=>.nl<|.bN<|.bN<|.tN<|.rg<|.yw (.add Z Z w7)<|.mv Z<|.nt<|.ag (x:=(k,a,r)) (k+1,some ⟨b,0,none⟩,r38) ⟨Z,Jt⟩ ⟨Z,Z,Z,Z,Jt⟩ (λ_ s=>by have s2:=(s.p5_3 [0,1,4] Z);dsimp only;rw [oT hk,hx];(first | rw [vrT,aE e1] | rw [vrT,aA n1,aE e2] | rw [vrT,aA n1,aA n2,aE e3] | rw [vrT,aA n1,aA n2,aA n3]);(try simp only [aQ] at s2|-);(try simp only [aR] at s2|-);(try simp only [bU] at s2|-);(try simp only [aX] at s2|-);exact s2) ⟨by dsimp only;omega,(.inr Z)⟩ (by dsimp only;omega)
  have n1:¬ v.ty=1:=λe=>h29 (by rw [e];rfl);refine .sr<|.yw (.eql Z Z)<|.aq Z<|.ce Z (λh39=>?_) (λh39=>?_)
  ·have e2:v.ty=2:=bT.1 (by show v.ty.toNat=2;omega);rw [vrT,aA n1,aE e2] at hle;exact .fL 8 [(0,0),(1,0),(2,0),(3,0),(4,0),(5,0),(6,0),(7,1)]<|.mv Z<|.fA Z wZ<|.lD Z bZ Hm Z<|.fA Z mV<|.lD Z nX Hm Z<|.yw (.eql Z Z)<|.yw (.call ZQ Z (λW s=>HJ _ W))<|.bl Z (DD _ _ _ _ _) Z λb48=>.fn (tl:=[_]) Z<|.cs (X:=Value) iI Z (λW s=>nI (parts:=[[118,97,114,32],v.nm,[58,32,98,111,111,108,32,61,32],QJ (decide (v.init.toInt=1)),[59]]) ha (nb Z) (by (try simp only [aD]);omega) (s.p5_5 [2,3,0,1,4] Z)) Z λr49 _=>.nl<|.bN<|.bN<|.tN<|.rg<|.yw (.add Z Z w7)<|.mv Z<|.nt<|.ag (x:=(k,a,r)) (k+1,some ⟨b,0,none⟩,r49) ⟨Z,Jt⟩ ⟨Z,Z,Z,Z,Jt⟩ (λ_ s=>by have s2:=(s.p5_3 [0,1,4] Z);dsimp only;rw [oT hk,hx];(first | rw [vrT,aE e1] | rw [vrT,aA n1,aE e2] | rw [vrT,aA n1,aA n2,aE e3] | rw [vrT,aA n1,aA n2,aA n3]);(try simp only [aQ] at s2|-);(try simp only [aR] at s2|-);(try simp only [bU] at s2|-);(try simp only [aX] at s2|-);exact s2) ⟨by dsimp only;omega,(.inr Z)⟩ (by dsimp only;omega)
  have n2:¬ v.ty=2:=λe=>h39 (by rw [e];rfl);refine .sr<|.yw (.eql Z Z)<|.aq Z<|.ce Z (λh50=>?_) (λh50=>?_)
  ·have e3:v.ty=3:=bT.1 (by show v.ty.toNat=3;omega);rw [vrT,aA n1,aA n2,aE e3] at hle;exact .rg<|.mv Z<|.fA Z wZ<|.lD Z bZ Hm Z<|.bl Z (qK _ _ _) Z λb55=>.cs (X:=Value) iI Z (λW s=>nI (parts:=[[118,97,114,32],v.nm,[58,32,116,97,98,108,101,59]]) ha (nb Z) (by (try simp only [aD]);omega) (s.p5_5 [2,3,0,1,4] Z)) Z λr56 _=>.nl<|.bN<|.bN<|.tN<|.rg<|.yw (.add Z Z w7)<|.mv Z<|.nt<|.ag (x:=(k,a,r)) (k+1,some ⟨b,0,none⟩,r56) ⟨Z,Jt⟩ ⟨Z,Z,Z,Z,Jt⟩ (λ_ s=>by have s2:=(s.p5_3 [0,1,4] Z);dsimp only;rw [oT hk,hx];(first | rw [vrT,aE e1] | rw [vrT,aA n1,aE e2] | rw [vrT,aA n1,aA n2,aE e3] | rw [vrT,aA n1,aA n2,aA n3]);(try simp only [aQ] at s2|-);(try simp only [aR] at s2|-);(try simp only [bU] at s2|-);(try simp only [aX] at s2|-);exact s2) ⟨by dsimp only;omega,(.inr Z)⟩ (by dsimp only;omega)
  have n3:¬ v.ty=3:=λe=>h50 (by rw [e];rfl);exact .sk<|.bN<|.bN<|.tN<|.rg<|.yw (.add Z Z w7)<|.mv Z<|.nt<|.ag (x:=(k,a,r)) (k+1,a,r) ⟨Z,Jt⟩ ⟨Z,Z,Z,Z,Jt⟩ (λ_ s=>by have s2:=s.drop;dsimp only;rw [oT hk,hx];(first | rw [vrT,aE e1] | rw [vrT,aA n1,aE e2] | rw [vrT,aA n1,aA n2,aE e3] | rw [vrT,aA n1,aA n2,aA n3]);(try simp only [aQ] at s2|-);(try simp only [aR] at s2|-);(try simp only [bU] at s2|-);(try simp only [aX] at s2|-);exact s2) ⟨by dsimp only;omega,ha⟩ (by dsimp only;omega)
 obtain rfl:k=x.vars.length:=by omega
 rw [aI];refine .ex<|.eb<|.sq<|.sr<|.fA Z kV<|.lD Z wC fN Z<|.yw (.lenSl tS Z)<|.mv Z<|.nt<|.bk<|.lp (X:=Nat × Option Addr × Value) [(0,_),(59,_),(60,_)] ⟨Z,Z,Z,Jt⟩ (_::bs) (λz=>[(61,.int .i64 (z.1:Nat))]) (λz=>H) (λz=>[.box b [.pointer z.2.1,z.2.2,.int .i64 (2:Nat)] 117,.row 5 1 z.2.2 (t++kB 1 [[99,111,109,112,111,110,101,110,116,32],x.nm,[32,123]]++(x.vars.map (vrT 2)).flatten++DG 2 0 (x.vers.take z.1)).length ((t++kB 1 [[99,111,109,112,111,110,101,110,116,32],x.nm,[32,123]]++(x.vars.map (vrT 2)).flatten++DG 2 0 (x.vers.take z.1)).map kF)]) (λz=>z.1<=x.vers.length/\(z.2.1=none\/z.2.1=some ⟨b,0,none⟩)) (λz=>x.vers.length - z.1) (0,a,r) (λ_ s=>by have s2:=s;simpa [DG] using s2) ⟨Z,Jt⟩ ⟨by simp,ha⟩ λz hC=>?_
 obtain ⟨k,a,r⟩:=z;dsimp only at hC|-;obtain ⟨hk0,ha⟩:=hC;refine .sr<|.yw (.lss Z Z)<|.nt<|.sq<|.ce Z (λh62=>?_) (λh62=>?_)
 ·have hk:k<x.vers.length:=by omega
  obtain ⟨bE,oE,cE,hpE,rE,lE,mE⟩:=hs2.elem (eL hk);cases hpE;have hf1:=DP hk hf;have hle:=bJ0 2 x.vers (k+1);rw [NT hk,aD] at hle;generalize hx:x.vers[k]=v at rE hf1 hle;refine .sk<|.tN<|.sq<|.bk<|.sm Z<|.yw (.indexSl tS Z Z Z (by omega) (q:=oE+k * 1) Z)<|.yw (.loadMW Z qU mE lE)<|.al vG Z λb7=>.a Z Z<|.sV .head Z Z zQ lE rE.one Z<|.nt<|.sq<|.sm Z<|.yw (.eql Z Z)<|.nt<|.ce Z (λh67=>?_) (λh67=>?_)
  ·have q:k=0:=by omega
   rw [vsT,aE q] at hle;exact .sm Z<|.yw (.loadW Z qU Hm lE)<|.cs (X:=Option Addr × Value) ZI Z (λW s=>MT H G g _ _ _ _ _ _ _ _ _ _ rE hf1 ha (by (try simp only [aD]);omega) (by omega) (s.p4_4 [1,2,0,3] Z)) Z λz70 hz70=>.nt<|.ex<|.tE<|.bE<|.tN<|.rg<|.yw (.add Z Z w7)<|.mv Z<|.nt<|.ag (x:=(k,a,r)) (k+1,z70.1,z70.2) ⟨Z,Jt⟩ ⟨Z,Z,Z,Jt⟩ (λ_ s=>by have s2:=(s.p4_3 [0,1,3] Z);dsimp only;rw [NT hk,hx];(first | rw [vsT,aE q] | rw [vsT,aA q]);(try simp only [aQ] at s2|-);(try simp only [aR] at s2|-);(try simp only [bU] at s2|-);(try simp only [aX] at s2|-);exact s2) ⟨by dsimp only;omega,hz70⟩ (by dsimp only;omega)
  have q:¬ k=0:=by omega
  rw [vsT,aA q,show (2:Nat)+1=3 from rfl] at hle;simp only [aD] at hle;exact .sk<|.tN<|.sm Z<|.mv Z<|.yw (.add Z Z (c:=((k+1:Nat):Int)) ((w6 (by omega)).trans (by omega)))<|.yw (.call ZP Z (λW s=>aN2 H g _ (by omega) (by omega) W s.agr))<|.bl Z (qK _ _ _) Z λb75=>.cs (X:=Value) iI Z (λW s=>nI (parts:=[[118,101,114,115,105,111,110,32],Lib.itoa ((k+1:Nat):Int),[32,123]]) ha (nb Z) (by (try simp only [aD]);omega) (s.p5_5 [2,3,0,1,4] Z)) Z λr76 _=>.ns<|.mv Z<|.nC Z<|.fA Z iK<|.lD Z dZ Hm Z<|.yw (.add Z Z (c:=((3:Nat):Int)) (by decide))<|.nC Z<|.fA Z iK<|.st .head Z Z jG Z (nb Z) Z<|.ns<|.mv Z<|.yw (.loadW Z qU oU lE)<|.cs (X:=Option Addr × Value) ZI Z (λW s=>MT H G g _ _ _ _ _ _ _ _ _ _ rE hf1 (.inr Z) (by (try simp only [aD]);omega) (by omega) (s.p5_4 [0,1,3,4] Z)) Z λz86 hz86=>.ns<|.mv Z<|.nC Z<|.fA Z iK<|.lD Z dZ Hm Z<|.yw (.sub Z Z (c:=((2:Nat):Int)) (by decide))<|.nC Z<|.fA Z iK<|.st .head Z Z jG Z (nb Z) Z<|.nt<|.rg<|.mv Z<|.bl Z (jY _) Z λb95=>.cs (X:=Value) iI Z (λW s=>nI (parts:=[[125]]) hz86 (nb Z) (by (try simp only [aD]);omega) (s.p5_5 [1,2,0,3,4] Z)) Z λr96 _=>.nl<|.bN<|.tN<|.rg<|.yw (.add Z Z w7)<|.mv Z<|.nt<|.ag (x:=(k,a,r)) (k+1,some ⟨b,0,none⟩,r96) ⟨Z,Jt⟩ ⟨Z,Z,Z,Jt⟩ (λ_ s=>by have s2:=(s.p5_3 [0,1,4] Z);dsimp only;rw [NT hk,hx];(first | rw [vsT,aE q] | rw [vsT,aA q]);(try simp only [aQ] at s2|-);(try simp only [aR] at s2|-);(try simp only [bU] at s2|-);(try simp only [aX] at s2|-);exact s2) ⟨by dsimp only;omega,(.inr Z)⟩ (by dsimp only;omega)
 obtain rfl:k=x.vers.length:=by omega
 rw [aI];refine .ex<|.eb<|.sm Z<|.nC Z<|.fA Z iK<|.lD Z dZ Hm Z<|.yw (.sub Z Z (c:=((1:Nat):Int)) (by decide))<|.nC Z<|.fA Z iK<|.st .head Z Z jG Z (nb Z) Z<|.nt<|.rg<|.mv Z<|.bl Z (jY _) Z λb106=>.cs (X:=Value) iI Z (λW s=>nI (parts:=[[125]]) ha (nb Z) (by (try simp only [aD]);omega) (s.p4_4 [1,2,0,3] Z)) Z λr107 _=>.nl<|?_
 exact pK (.inr Z) rfl .nil rfl λW s=>⟨(_,_),(.inr Z),Z,by have s2:=(s.p4_2 [0,1] rfl);(rw [cpT]);(try simp only [aQ] at s2|-);(try simp only [aR] at s2|-);(try simp only [bU] at s2|-);(try simp only [aX] at s2|-);exact s2⟩
theorem bX7 {a:Option Addr} {r i:Value} {l:Str} (s:St H w0 (.box b [.pointer a,r,i] 117::.row 5 1 r l.length (l.map kF)::bs) W) (h0:l≠[]) (hl:l.length<=140737488355328) :
 Calls prg 47 #[.pointer (some ⟨b,0,none⟩)] W λe W'=>∃ _:Unit,True/\e=.returned (cJ l)/\St H w0 [] W':=by
 have ho:=(s.own _ (.tail _ Hm)).1;rcases ho.2 with ⟨_,h⟩ | ⟨g,cap,cur,rfl,_,_,h1,_⟩
 ·exact absurd (cQ h) h0
 ·exact bK3 s h0 h1 hl
theorem bJ7 {x:Ft} (h:kA x=0):x.comps.all (FC bJ6)=true:=by
 unfold kA at h
 split at h
 ·cases h
 split at h
 ·cases h
 split at h
 ·cases h
 rename_i h1 h2 h3;simp only [Bool.not_eq_false,uW,QU,FA,aF] at h1 h2 h3;have k1:=h1.2.2;have k2:=h2.2;have k3:=h3.2;rw [HM] at k1 k2 k3;simp only [FC,aP] at k1 k2 k3|-;exact λc hc v hv d hd=>bX3 (k1 c hc v hv d hd) (k2 c hc v hv d hd) (k3 c hc v hv d hd)
theorem bL4 (H:Hp) (G:Gl H) (g:Gt H) (x:Ft) (cs:List Value) (h:Rep H (dFt .u8 x) cs) (hok:evH okH x=true) (hl0:kA x=0->(ftT x).length<=10000000000000) (w:World) (hA:Agr H w) :
 Calls prg 21 #[.agg cs.toArray] w λr w'=>r=.returned (cJ (if kA x=0 then ftT x else []))/\Ext w w':=by
 obtain ⟨p1,c1,p2,c2,p3,c3,rfl,hn1,hs1,hs2,hs3⟩:=AC h;have hcap1:=hs1.cap;have hcap2:=hs2.cap;have hcap3:=hs3.cap;refine Sx.enter (H:=H) func21 rfl ntmps21 rfl hA ?_;refine .sr<|.bx Z Z Z λb1=>.aq Z<|.sq<|.sr<|.yw (.loadW Z lJ Hm Z)<|.yw (.call PM Z (λW s=>OT H G x _ h hok W s.agr))<|.yw (.neq Z Z)<|.nt<|.ce Z (λh12=>?_) (λh12=>?_)
 ·refine .sr<|.az Z<|.tR<|?_
  exact y9 Z Z λW s=>⟨by rw [aA (by omega)];rfl,s.ext⟩
 have hck:kA x=0:=by simp at h12;omega
 have hl:=hl0 hck;rw [ftT] at hl;simp only [aD] at hl;have h00:([]:Str).length=0:=rfl;have hf:=bJ7 hck;refine .sk<|.tN<|.sr<|.yw (.build Z bU5)<|.bx Z Z Z λb=>?_
 refine Sx.row0 5 1 ?_;refine .a Z Z<|.ns<|.mv Z<|.fA Z yS<|.lD Z bZ fN Z<|.bl Z (qK _ _ _) Z λb18=>.cs (X:=Value) iI Z (λW s=>nI (t:=[]) (parts:=[[102,108,101,101,116,32],x.nm,[32,123]]) (.inl Z) (nb Z) (by (try simp only [aD]);omega) (s.p4_4 [2,1,0,3] Z)) Z λr19 _=>.ns<|.mv Z<|.nC Z<|.fA Z iK<|.lD Z dZ Hm Z<|.yw (.add Z Z (c:=((1:Nat):Int)) (by decide))<|.nC Z<|.fA Z iK<|.st .head Z Z jG Z (nb Z) Z<|.nt<|.sq<|.sr<|.fA Z pQ<|.lD Z DF oU Z<|.yw (.lenSl AD Z)<|.mv Z<|.nt<|.bk<|.lp (X:=Nat × Option Addr × Value) [(1,_),(3,_),(28,_),(29,_)] ⟨Z,Z,Z,Z,Jt⟩ (_::[]) (λz=>[(30,.int .i64 (z.1:Nat))]) (λz=>H) (λz=>[.box b [.pointer z.2.1,z.2.2,.int .i64 (1:Nat)] 117,.row 5 1 z.2.2 ([]++kB 0 [[102,108,101,101,116,32],x.nm,[32,123]]++((x.flags.take z.1).map fgT).flatten).length (([]++kB 0 [[102,108,101,101,116,32],x.nm,[32,123]]++((x.flags.take z.1).map fgT).flatten).map kF)]) (λz=>z.1<=x.flags.length/\(z.2.1=none\/z.2.1=some ⟨b,0,none⟩)) (λz=>x.flags.length - z.1) (0,some ⟨b,0,none⟩,r19) (λ_ s=>by have s2:=(s.p4_3 [0,1,3] Z);simpa using s2) ⟨Z,Jt⟩ ⟨by simp,.inr Z⟩ λz hC=>?_
 obtain ⟨k,a,r⟩:=z;dsimp only at hC|-;obtain ⟨hk0,ha⟩:=hC;refine .sr<|.yw (.lss Z Z)<|.nt<|.sq<|.ce Z (λh31=>?_) (λh31=>?_)
 ·have hk:k<x.flags.length:=by omega
  obtain ⟨bE,oE,cE,hpE,rE,lE,mE⟩:=hs1.elem (eL hk);cases hpE;have hle:=CL (g:=fgT) x.flags (k+1);rw [oT hk,aD] at hle;generalize hx:x.flags[k]=v at rE hle;obtain ⟨rfl,hn2⟩:=MY rE;rw [fgT] at hle;exact .sk<|.tN<|.sq<|.bk<|.sr<|.yw (.indexSl AD Z Z Z (by omega) (q:=oE+k * 2) Z)<|.yw (.loadMW Z FM mE Z)<|.al LF Z λb5=>.sX .head Z Z UL Z<|.nt<|.fL 7 [(0,0),(1,0),(2,0),(3,0),(4,0),(5,0),(6,1)]<|.mv Z<|.fA Z EM<|.lD Z bZ Hm Z<|.fA Z KP<|.lD Z vZ Hm Z<|.yw (.call ZQ Z (λW s=>HJ _ W))<|.bl Z (DD _ _ _ _ _) Z λb40=>.fn (tl:=[_]) Z<|.cs (X:=Value) iI Z (λW s=>nI (parts:=[[102,108,97,103,32],v.nm,[32,61,32],QJ v.init,[59]]) ha (nb Z) (by (try simp only [aD]);omega) (s.p5_5 [2,3,0,1,4] Z)) Z λr41 _=>.nl<|.bN<|.tN<|.rg<|.yw (.add Z Z w7)<|.mv Z<|.nt<|.ag (x:=(k,a,r)) (k+1,some ⟨b,0,none⟩,r41) ⟨Z,Jt⟩ ⟨Z,Z,Z,Z,Jt⟩ (λ_ s=>by have s2:=(s.p5_3 [0,1,4] Z);dsimp only;rw [oT hk,hx,fgT];(try simp only [aQ] at s2|-);(try simp only [aR] at s2|-);(try simp only [bU] at s2|-);(try simp only [aX] at s2|-);exact s2) ⟨by dsimp only;omega,(.inr Z)⟩ (by dsimp only;omega)
 obtain rfl:k=x.flags.length:=by omega
 rw [aI];refine .ex<|.eb<|.sq<|.sr<|.fA Z nU<|.lD Z AZ fN Z<|.yw (.lenSl xM Z)<|.mv Z<|.nt<|.bk<|.lp (X:=Nat × Option Addr × Value) [(1,_),(3,_),(44,_),(45,_)] ⟨Z,Z,Z,Z,Jt⟩ (_::[]) (λz=>[(46,.int .i64 (z.1:Nat))]) (λz=>H) (λz=>[.box b [.pointer z.2.1,z.2.2,.int .i64 (1:Nat)] 117,.row 5 1 z.2.2 ([]++kB 0 [[102,108,101,101,116,32],x.nm,[32,123]]++(x.flags.map fgT).flatten++((x.links.take z.1).map lkT).flatten).length (([]++kB 0 [[102,108,101,101,116,32],x.nm,[32,123]]++(x.flags.map fgT).flatten++((x.links.take z.1).map lkT).flatten).map kF)]) (λz=>z.1<=x.links.length/\(z.2.1=none\/z.2.1=some ⟨b,0,none⟩)) (λz=>x.links.length - z.1) (0,a,r) (λ_ s=>by have s2:=s;simpa using s2) ⟨Z,Jt⟩ ⟨by simp,ha⟩ λz hC=>?_
 obtain ⟨k,a,r⟩:=z;dsimp only at hC|-;obtain ⟨hk0,ha⟩:=hC;refine .sr<|.yw (.lss Z Z)<|.nt<|.sq<|.ce Z (λh47=>?_) (λh47=>?_)
 ·have hk:k<x.links.length:=by omega
  obtain ⟨bE,oE,cE,hpE,rE,lE,mE⟩:=hs2.elem (eL hk);cases hpE;have hle:=CL (g:=lkT) x.links (k+1);rw [oT hk,aD] at hle;generalize hx:x.links[k]=v at rE hle;obtain ⟨rfl,hn2,hn3⟩:=IQ rE;rw [lkT] at hle;exact .sk<|.tN<|.sq<|.bk<|.sr<|.yw (.indexSl xM Z Z Z (by omega) (q:=oE+k * 3) Z)<|.yw (.loadMW Z CG mE Z)<|.al FZ Z λb7=>.sX .head Z Z LI Z<|.nt<|.fL 9 [(0,0),(1,0),(2,0),(3,0),(4,0),(5,0),(6,0),(7,0),(8,1)]<|.mv Z<|.fA Z EL<|.lD Z bZ Hm Z<|.fA Z EJ<|.lD Z bZ Hm Z<|.fA Z AO<|.lD Z dZ Hm Z<|.yw (.call ZP Z (λW s=>aN2 H g _ (by have:=v.lat.le_toInt;omega) (by have:=v.lat.toInt_lt;omega) W s.agr))<|.bl Z (LW _ _ _ _ _ _ _) Z λb58=>.fn (tl:=[_]) Z<|.cs (X:=Value) iI Z (λW s=>nI (parts:=[[108,105,110,107,32],v.fr,[32,45,62,32],v.to,[32,108,97,116,101,110,99,121,32],Lib.itoa v.lat.toInt,[59]]) ha (nb Z) (by (try simp only [aD]);omega) (s.p5_5 [2,3,0,1,4] Z)) Z λr59 _=>.nl<|.bN<|.tN<|.rg<|.yw (.add Z Z w7)<|.mv Z<|.nt<|.ag (x:=(k,a,r)) (k+1,some ⟨b,0,none⟩,r59) ⟨Z,Jt⟩ ⟨Z,Z,Z,Z,Jt⟩ (λ_ s=>by have s2:=(s.p5_3 [0,1,4] Z);dsimp only;rw [oT hk,hx,lkT];(try simp only [aQ] at s2|-);(try simp only [aR] at s2|-);(try simp only [bU] at s2|-);(try simp only [aX] at s2|-);exact s2) ⟨by dsimp only;omega,(.inr Z)⟩ (by dsimp only;omega)
 obtain rfl:k=x.links.length:=by omega
 rw [aI];refine .ex<|.eb<|.sq<|.sr<|.fA Z kM<|.lD Z vL fN Z<|.yw (.lenSl rZ Z)<|.mv Z<|.nt<|.bk<|.lp (X:=Nat × Option Addr × Value) [(3,_),(62,_),(63,_)] ⟨Z,Z,Z,Jt⟩ (_::[]) (λz=>[(64,.int .i64 (z.1:Nat))]) (λz=>H) (λz=>[.box b [.pointer z.2.1,z.2.2,.int .i64 (1:Nat)] 117,.row 5 1 z.2.2 ([]++kB 0 [[102,108,101,101,116,32],x.nm,[32,123]]++(x.flags.map fgT).flatten++(x.links.map lkT).flatten++((x.comps.take z.1).map cpT).flatten).length (([]++kB 0 [[102,108,101,101,116,32],x.nm,[32,123]]++(x.flags.map fgT).flatten++(x.links.map lkT).flatten++((x.comps.take z.1).map cpT).flatten).map kF)]) (λz=>z.1<=x.comps.length/\(z.2.1=none\/z.2.1=some ⟨b,0,none⟩)) (λz=>x.comps.length - z.1) (0,a,r) (λ_ s=>by have s2:=s;simpa using s2) ⟨Z,Jt⟩ ⟨by simp,ha⟩ λz hC=>?_
 obtain ⟨k,a,r⟩:=z;dsimp only at hC|-;obtain ⟨hk0,ha⟩:=hC;refine .sr<|.yw (.lss Z Z)<|.nt<|.sq<|.ce Z (λh65=>?_) (λh65=>?_)
 ·have hk:k<x.comps.length:=by omega
  obtain ⟨bE,oE,cE,hpE,rE,lE,mE⟩:=hs3.elem (eL hk);cases hpE;have hle:=CL (g:=cpT) x.comps (k+1);rw [oT hk,aD] at hle;have hf1:=DP hk hf;generalize hx:x.comps[k]=v at rE hle hf1;exact .sk<|.tN<|.sq<|.bk<|.sr<|.yw (.indexSl rZ Z Z Z (by omega) (q:=oE+k * 3) Z)<|.yw (.loadMW Z qD mE lE)<|.al tC Z λb9=>.sV .head Z Z vI lE rE.one Z<|.nt<|.rg<|.mv Z<|.yw (.loadW Z qD Hm lE)<|.cs (X:=Option Addr × Value) bS8 Z (λW s=>VZ H G g _ _ _ _ _ _ _ _ _ rE hf1 ha (by (try simp only [aD]);omega) (s.p4_4 [1,2,0,3] Z)) Z λz70 hz70=>.nl<|.bN<|.tN<|.rg<|.yw (.add Z Z w7)<|.mv Z<|.nt<|.ag (x:=(k,a,r)) (k+1,z70.1,z70.2) ⟨Z,Jt⟩ ⟨Z,Z,Z,Jt⟩ (λ_ s=>by have s2:=(s.p4_3 [0,1,3] Z);dsimp only;rw [oT hk,hx];(try simp only [aQ] at s2|-);(try simp only [aR] at s2|-);(try simp only [bU] at s2|-);(try simp only [aX] at s2|-);exact s2) ⟨by dsimp only;omega,hz70⟩ (by dsimp only;omega)
 obtain rfl:k=x.comps.length:=by omega
 rw [aI];refine .ex<|.eb<|.sm Z<|.nC Z<|.fA Z iK<|.lD Z dZ Hm Z<|.yw (.sub Z Z (c:=((0:Nat):Int)) (by decide))<|.nC Z<|.fA Z iK<|.st .head Z Z jG Z (nb Z) Z<|.ns<|.mv Z<|.bl Z (jY _) Z λb80=>.cs (X:=Value) iI Z (λW s=>nI (parts:=[[125]]) ha (nb Z) (by (try simp only [aD]);omega) (s.p4_4 [1,2,0,3] Z)) Z λr81 _=>.ns<|.mv Z<|.nC Z<|.fA Z AM<|.cs (X:=Unit) bS7 Z (λW s=>bX7 (s.p4_2 [0,1] Z) (by simp [kB]) (by (try simp only [aD]);omega)) Z λ_ _=>.az Z<|?_
 exact y9 Z Z λW s=>⟨by rw [aE hck,ftT];simp,s.ext⟩
theorem iM {k:IntKind} {e:Ex} {cs:List Value} (h:Rep H (dEx k e) cs):cs.length=4:=by
 obtain ⟨op,nm,n,args⟩:=e;obtain ⟨p,c,rfl,_⟩:=iR h
 rfl
def ExC (f:FuncId) (g:Pz Ex) (M:Nat):Prop:=∀ {H:Hp} {w0 W:World} {bs:List Res} {b n:Nat} {ts:List Tk} {tp:Option Addr} {tc:Nat} {t0 t1 t2 t3:Value} {q:Sg},(_ :  Tkm H ts tp tc)->(_:q.r<:+ts)->q.mu<M->St H w0 (PB b tp ts tc n t0 t1 t2 t3 q::bs) W ->
 Calls prg f #[.pointer (some ⟨b,0,none⟩)] W λe W'=>∃ z:Ex × List Value × Hp,(vl g q z.1/\HUp w0 H z.2.2/\Rep z.2.2 (dEx .u8 z.1) z.2.1)/\e=.returned (.agg z.2.1.toArray)/\St z.2.2 w0 (PB b tp ts tc n t0 t1 t2 t3 (up n g q)::bs) W'
variable {f:FuncId}
theorem ExC.le {g:Pz Ex} {M M':Nat} (h:ExC f g M) (hm:M'<=M):ExC f g M':=λK hq hmu s=>h K hq (by omega) s
theorem ExC.zero (f:FuncId) (g:Pz Ex):ExC f g 0:=λ_ _ h _=>absurd h (lY _)
variable {l:List Value}
theorem qA (h:l.length=4):∃ a b c d,l=[a,b,c,d]:=by match l,h with | [a,b,c,d],_=>exact ⟨a,b,c,d,Z⟩
structure LfI (n lv:Nat) (q:Sg) (a:Ex) (q1:Sg):Prop where
 eq:up n (gL lv a) q1=up n (gX lv) q
 val:∀ y,vl (gL lv a) q1 y->vl (gX lv) q y
 mu:q1.mu<=q.mu
variable {a:Ex}
theorem LfI.start {lv:Nat} (hl:lv<5) (hv:vl (gX (lv+1)) q a):LfI n lv q a (up n (gX (lv+1)) q):=by
 refine ⟨?_,λy hy=>?_,jE (Shs.gx _).le (Cz.ex _)⟩
 ·rw [OL hl,aO (Cz.ex _) hv]
 ·rw [OL hl];exact aM hv hy
variable {q1:Sg}
theorem LfI.step {lv:Nat} {b:Ex} {op:UInt8} (hl:lv<=4) (hne:lv≠2) (h:LfI n lv q a q1) (hop:opF (qG lv) q1=some op) (hb:vl (gX (lv+1)) q1.tl b) :
 LfI n lv q (opE op [a,b]) (up n (gX (lv+1)) q1.tl)/\(up n (gX (lv+1)) q1.tl).mu<q1.mu:=by
 have h1:=jE (n:=n) (s:=q1.tl) (Shs.gx (lv+1)).le (Cz.ex (lv+1));have h2:=SS hop;rw [MH] at hop;have e:gK lv op a b=gL lv (opE op [a,b]):=by unfold gK;rw [aA hne]
 refine ⟨⟨?_,λy hy=>h.val y (aT9 hl hop (aM (n:=n) hb (by rw [e];exact hy))),by have:=h.mu;omega⟩,by omega⟩;rw [<-h.eq,aU1 hl hop,aO (Cz.ex _) hb,e]
theorem LfI.stop {lv:Nat} (h:LfI n lv q a q1) (hop:opF (qG lv) q1=none):up n (gX lv) q=q1/\vl (gX lv) q a:=by
 rw [MH] at hop;obtain ⟨e1,e2⟩:=bW3 (n:=n) (a:=a) hop;exact ⟨by rw [<-h.eq,e1],h.val a e2⟩
theorem cA2 {L:List (Str × UInt8)} {op:UInt8} (h:opF L q=some op):opZ L q=q.tl:=by unfold opZ;rw [h];rfl
theorem cA3 {L:List (Str × UInt8)} (h:opF L q=none):opZ L q=q:=by unfold opZ;rw [h];rfl
theorem RT (K:Tkm H ts tp tc) (hq:q.r<:+ts) (lv:Nat) (hl:lv<=4) (hne:lv≠2) (M:Nat) (f:FuncId) (hcall:cU prg f=true) (hop:ExC f (gX (lv+1)) M) (hmu:q.mu<M) (hL:∀ x∈qG lv,x.1∈words\/x.1∈symbols) (lp:Option Addr) (lc:Nat) (hs:Rep H (.seq 2 ((qG lv).map dSy)) [.slice lp (qG lv).length lc]) (s:St H w0 (PB b tp ts tc n t0 t1 t2 t3 q::bs) W) :
 Calls prg 48 #[.pointer (some ⟨b,0,none⟩),.func (.func f) #[.pointer (some ⟨b,0,none⟩)] #[],.slice lp (qG lv).length lc] W λe W'=>∃ z:Ex × List Value × Hp,(vl (gX lv) q z.1/\HUp w0 H z.2.2/\Rep z.2.2 (dEx .u8 z.1) z.2.1)/\e=.returned (.agg z.2.1.toArray)/\St z.2.2 w0 (PB b tp ts tc n t0 t1 t2 t3 (up n (gX lv) q)::bs) W':=by
 refine fD func48 rfl ntmps48 rfl s ?_;refine .sr<|.al jX Z λb6=>.ns<|.mv Z<|.sv (X:=Ex × List Value × Hp) (fi:=[.pointer (some ⟨b,0,none⟩)]) (ca:=[]) Z hcall Z (λW s=>hop K hq hmu (s.p2_2 [1,0] Z)) Z λz1 hz1=>?_
 obtain ⟨a1,c1,H1⟩:=z1;obtain ⟨hv1,u1,r1⟩:=hz1;dsimp only at hv1 u1 r1|-;obtain ⟨x1,x2,x3,x4,rfl⟩:=qA (iM r1);have K1:=K.up u1.up;refine .al jX Z λb7=>.sW .head Z Z dO (Rep.one r1) Z<|.nt<|.bk<|.lp (X:=(Ex × Value × Value × Value × Value) × Hp × Sg) [(0,_),(1,_),(2,_),(6,_),(7,_)] ⟨Z,Z,Z,Z,Z,Jt⟩ (_::bs) (λz=>[]) (λz=>z.2.1) (λz=>[.box b7 [z.1.2.1,z.1.2.2.1,z.1.2.2.2.1,z.1.2.2.2.2] 27,PB b tp ts tc n t0 t1 t2 t3 z.2.2]) (λz=>LfI n lv q z.1.1 z.2.2/\HUp w0 H z.2.1/\Rep z.2.1 (dEx .u8 z.1.1) [z.1.2.1,z.1.2.2.1,z.1.2.2.2.1,z.1.2.2.2.2]/\z.2.2.r<:+ts) (λz=>z.2.2.mu) ((a1,x1,x2,x3,x4),H1,up n (gX (lv+1)) q) (λ_ s=>s) trivial ⟨LfI.start (by omega) hv1,u1,r1,(Suf.ex _).up hq⟩ λz hC=>?_
 obtain ⟨⟨a,y1,y2,y3,y4⟩,H1,q1⟩:=z;obtain ⟨hI,u1,r1,hq1⟩:=hC;dsimp only at hI u1 r1 hq1|-;have K1:=K.up u1.up;refine .bk<|.sm Z<|.mv Z<|.cs (X:=Unit) PJ Z (λW s=>GY K1 hq1 (qG lv) hL lp lc (hs.up u1.up) (s.p3_3 [1,0,2] Z)) Z λ_ _=>.mv Z<|.yw (.extract Z Z)<|.yw (.extract Z Z)<|.a Z Z<|.aq Z<|.sq<|.sm Z<|.yw (.not Z)<|.nt<|.cd Z (λh19=>?_) (λh19=>?_)
 ·have hN:opF (qG lv) q1=none:=by simpa using h19
  rw [cA3 hN];obtain ⟨e1,hv⟩:=hI.stop hN;rw [e1];refine .sr<|.yw (.loadW Z fI dN Z)<|.sW fU Z Z dO (Rep.one r1) Z<|.nt<|.rt<|.tR<|.bR<|.tR<|.bR<|?_
  refine y8 Z (.cell Z fI fN rfl) λW s=>?_;exact ⟨(a,[y1,y2,y3,y4],H1),⟨hv,u1,r1⟩,Z,s.p3_1 [0] rfl⟩
 obtain ⟨op,hS⟩:∃ op,opF (qG lv) q1=some op:=kN.1 (by simpa using h19);rw [cA2 hS,hS];have hmu1:q1.tl.mu<M:=by have:=SS hS;have:=hI.mu;omega
 refine .sk<|.tN<|.fL 6 [(0,0),(1,0),(2,0),(3,3),(4,1),(5,0)]<|.mv Z<|.yw (.loadW Z fI dN Z)<|.mv Z<|.v3 (X:=Ex × List Value × Hp) (fi:=[.pointer (some ⟨b,0,none⟩)]) (ca:=[]) Z hcall Z (λW s=>hop K1 (Suf.tl hq1) hmu1 (s.p3_3 [0,1,2] Z)) Z (λ_ _=>(.dn<|.yv (.loadW Z fI dN Z)<|.yv (.move Z)<|.nl)) λz2 hz2=>?_
 obtain ⟨a2,c2,H2⟩:=z2;obtain ⟨hv2,u2,r2⟩:=hz2;dsimp only at hv2 u2 r2|-;obtain ⟨w1,w2,w3,w4,rfl⟩:=qA (iM r2);exact .blF Z (VH _ _ _ _ _ _ _ _) Z λb25 H3 u3 m3=>.yw (.build Z (GK _ _ _ _))<|.fn (tl:=[_]) Z<|.sW fG Z Z dO (by simp [Value.oneCell']) Z<|.nl<|.bN<|.tN<|.ag (x:=((a,y1,y2,y3,y4),H1,q1)) ((opE op [a,a2],.int .u8 op.toNat,.string ⟨#[]⟩,.int .i64 0,.slice (some ⟨b25,0,none⟩) 2 2),H3,up n (gX (lv+1)) q1.tl) trivial ⟨Z,Z,Z,Z,Z,Jt⟩ (λ_ s=>(s.p3_3 [1,0,2] Z)) ⟨(hI.step hl hne hS hv2).1,u1.trans (u2.trans u3),iE (op:=op) (nm:=[]) (n:=0) (args:=[a,a2]) (by decide) (Rep.mk (n:=2) (c:=2) m3 (dA.app (dA.single (r1.up (u2.trans u3).up) Z) (dA.single (r2.up u3.up) Z)) Z (aK _) (by decide)),(Suf.ex _).up (Suf.tl hq1)⟩ (hI.step hl hne hS hv2).2
end Go.Proofs.YthhoebdlfjffkaaGreatDoor
