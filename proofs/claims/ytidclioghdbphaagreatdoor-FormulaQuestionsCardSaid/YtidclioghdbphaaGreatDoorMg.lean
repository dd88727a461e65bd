/- Texts of the proof, one behind the other. -/
import Derived.Test.YtidclioghdbphaaGreatDoorMf
set_option linter.all false
set_option maxRecDepth 100000
namespace Go.Proofs.YtidclioghdbphaaGreatDoor
open Go.RowKit Go.Par Go.Sx Tryz
variable {H:Hp} {xo:List Value} {AR:List Res}
theorem Ops.inv {o:Ov} {r:List Ov} (h:Ops H (o::r) xo AR) (hk:o.kd≠5):∃ xr s1 s2,xo=xr++oC o s1 s2/\Ops H r xr AR/\FmR H o.f s1 s2:=by
 cases h with
 | cons h k f=>exact ⟨_,_,_,Z,h,f⟩
 | arg h k a b c z s=>exact absurd k hk
variable {xv:List Value}
theorem VR.inv {v:Vl} {vs:List Vl} (h:VR H (v::vs) xv):∃ xr s0 s1 s2,xv=xr++vC v s0 s1 s2/\VR H vs xr/\VlR H v s0 s1 s2:=by
 cases h with
 | cons h k=>exact ⟨_,_,_,_,Z,h,k⟩
theorem cL1 (r:List Ov):FA r<=r.length:=List.length_filter_le ..
theorem HH {l:Tks} {c:Rq} {o:Ov} {r:List Ov} {x:Vb} {dn:Bool} (h:Fwf l ⟨c,o::r,x,true,dn⟩) (h0:0<o.lv):Fwf l ⟨c,r,wT o x,true,dn⟩:=by
 obtain ⟨r1,e,hr⟩:=h.op;cases r1 with
 | nil =>
  injection e with e1 e2
  subst e1;exact absurd h0 aS
 | cons o1 r1 =>
  injection e with e1 e2
  subst e1;have ho:=hr _ (bH ..);have hv:=h.vs
  have hv':x.1.length=(if cnO o then 1 else 0)+FA r+1:=by
   have:x.1.length=FA (o::r)+1:=hv;rw [sU] at this;exact this
  have hl:=YX ho h0 (x:=x) (by rw [hv'];split <;> omega);refine ⟨h.i,⟨r1,e2,λz hz=>hr z (cD _ hz)⟩,?_,?_⟩
  ·show (wT o x).1.length=FA r+1;rw [hl,hv'];split <;> omega
  ·have:=h.so;show r.length<=c.i+1;have e3:(o::r).length<=c.i+1:=this;rw [aF] at e3;omega
theorem pW {l:Tks} {q:Ps} (h:Fwf l q) (hn:l.length<=600000):q.op.length<=600000/\q.x.1.length<=600001:=by
 have h1:=h.so;have h2:=h.i;have h3:=h.vs;have h4:=cL1 q.op;refine ⟨aD,?_⟩;rw [h3]
 split <;> omega
theorem aM6 {o:Ov} {v:Vl} {V:List Vl} {b:Bool} (h:o.kd=10):wT o (v::V,b)=(tmv (.mk 9 [] 0 [v.e])::V,b || !v.tm):=by unfold wT;rw [aK h];rfl
theorem bL7 {o:Ov} {v u:Vl} {V:List Vl} {b:Bool} (h:o.kd=9):wT o (v::u::V,b)=(tmv (.mk o.op [] 0 [u.e,v.e])::V,b || !v.tm || !u.tm):=by
 unfold wT;rw [aA (by rw [h];decide),aK h];rfl
theorem bL8 {o:Ov} {v u:Vl} {V:List Vl} {b:Bool} (h:o.kd=8):wT o (v::u::V,b)=(fmv (.mk 3 [] [] 0 0 [.mk o.op [] 0 [u.e,v.e]] [])::V,b || !v.tm || !u.tm):=by
 unfold wT;rw [aA (by rw [h];decide),aA (by rw [h];decide),aK h];rfl
theorem bL9 {o:Ov} {v:Vl} {V:List Vl} {b:Bool} (h:o.kd=7):wT o (v::V,b)=(fmv (o.f.wAr [v.fm])::V,b || v.noF):=by
 unfold wT;rw [aA (by rw [h];decide),aA (by rw [h];decide),aA (by rw [h];decide),aK h];rfl
theorem bM0 {o:Ov} {v u:Vl} {V:List Vl} {b:Bool} (h:o.kd=6):wT o (v::u::V,b)=(fmv (o.f.wAr [u.fm,v.fm])::V,b || v.noF || u.noF):=by
 unfold wT;rw [aA (by rw [h];decide),aA (by rw [h];decide),aA (by rw [h];decide),aA (by rw [h];decide),aK h];rfl
theorem CZ {α:Type} {l:List α} (h:1<=l.length):∃ a r,l=a::r:=by cases l with | nil=>cases h | cons a r=>exact ⟨a,r,rfl⟩
theorem bG5 {α:Type} {l:List α} (h:2<=l.length):∃ a b r,l=a::b::r:=by
 match l,h with
 | a::b::r,_=>exact ⟨a,b,r,Z⟩
variable {s1 s2:Value}
theorem JS {v:Vl} {s0:Value} (h:VlR H v s0 s1 s2):∃ t1 t2,fmC v.tm v.e.nm (cFm .u8 v.f.op v.f.nm v.f.fd v.f.a v.f.b s1 s2)=cFm .u8 v.fm.op v.fm.nm v.fm.fd v.fm.a v.fm.b t1 t2/\FmR H v.fm t1 t2:=by
 unfold fmC Vl.fm;cases v.tm with
 | true =>
  refine ⟨.slice none 0 0,cL,Z,FmR.zero rfl rfl ?_ ?_⟩
  ·show (spA v.e.nm).length<=1000000;have:=h.e.nm;unfold spA;rcases xZ v.e.nm with ⟨i,_,hi,e⟩ | ⟨_,e⟩
   ·rw [e];show (v.e.nm.take i).length<=_;rw [dG];omega
   ·rw [e];exact aN _
  ·show (spB v.e.nm).length<=1000000;have:=h.e.nm;unfold spB;rcases xZ v.e.nm with ⟨i,_,hi,e⟩ | ⟨_,e⟩
   ·rw [e];show (v.e.nm.drop (i+1)).length<=_;rw [dA];omega
   ·rw [e];exact aN _
 | false=>exact ⟨s1,s2,Z,h.f⟩
variable {xr:List Value}
theorem Ops.inv2 {o:Ov} {r:List Ov} (h:Ops H (o::r) (xr++oC o s1 s2) AR) (hk:o.kd≠5):Ops H r xr AR/\FmR H o.f s1 s2:=by
 obtain ⟨xr',t1,t2,e,h1,h2⟩:=h.inv hk;obtain ⟨e1,e2⟩:=List.append_inj' e rfl;subst e1;simp only [bV,dL,true_and] at e2;obtain ⟨rfl,rfl⟩:=e2;exact ⟨h1,h2⟩
variable {w0 W:World} {bs:List Res} {b:Nat} {ro rv:Value} {q:Rq}
theorem uK {l:Tks} {tp:Option Addr} {tc:Nat} {op:List Ov} {x:Vb} {dn:Bool} (K:Tkf H l tp tc) (Wq:Fwf l ⟨q,op,x,true,dn⟩) (S:Sq H ⟨q,op,x,true,dn⟩ xo xv AR) (lv:Nat) (hlv:1<=lv/\lv<=9) (s:St H w0 (.box b [.slice tp l.length tc,iN q.i,ro,rv,.bool true,.bool dn,.bool x.2,iN q.off,iN q.er] 102::.row 97 11 (ro) (op.length) (xo)::.row 179 13 (rv) (x.1.length) (xv)::(AR++bs)) W) :
 Calls prg 102 #[.pointer (dI b),iN lv] W (Get w0 bs b l tp tc H (kD lv ⟨q,op,x,true,dn⟩)):=by
 have hq:q.i<l.length:=Wq.i;have hcap:=K.rep.cap;refine iB func102 rfl ntmps102 rfl s ?_;refine .bk<|.lp (X:=(Hp × Value × Value × List Value × List Value) × List Ov × Vb) [(0,_),(1,_)] ⟨Z,Z,Jt⟩ ((AR++bs)) (λz=>[]) (λz=>z.1.1) (λz=>[.box b [.slice tp l.length tc,iN q.i,z.1.2.1,z.1.2.2.1,.bool true,.bool dn,.bool z.2.2.2,iN q.off,iN q.er] 102,.row 97 11 (z.1.2.1) (z.2.1.length) (z.1.2.2.2.1),.row 179 13 (z.1.2.2.1) (z.2.2.1.length) (z.1.2.2.2.2)]) (λz=>HUp w0 H z.1.1/\Sq z.1.1 ⟨q,z.2.1,z.2.2,true,dn⟩ z.1.2.2.2.1 z.1.2.2.2.2 AR/\Fwf l ⟨q,z.2.1,z.2.2,true,dn⟩/\yB lv z.2.1 z.2.2=yB lv op x) (λz=>z.2.1.length) ((H,ro,rv,xo,xv),op,x) (λ_ s=>s) trivial ⟨.refl,S,Wq,Z⟩ λz hC=>?_
 obtain ⟨⟨H1,ro1,rv1,xo1,xv1⟩,op1,x1⟩:=z;obtain ⟨u1,S1,W1,e1⟩:=hC;dsimp only at u1 S1 W1 e1|-;have K1:=K.up u1.up;obtain ⟨o,r,rfl⟩:=CZ (l:=op1) (by have:=W1.ne;cases op1 with | nil=>exact absurd rfl this | cons a t=>exact Nat.succ_pos _);obtain ⟨hn1,hn2⟩:=pW W1 K.few;try dsimp only [List.length_cons] at hn1 hn2
 obtain ⟨xr,s1,s2,e2,hlo,ho1,ho2⟩:=Ops.top S1.ops;try dsimp only at e2
 subst e2;refine Sx.rowCase (size:=11) (r:=ro1) (e:=97) cU (Nat.succ_pos _) λg c e hkc=>?_;try dsimp only [List.length_cons] at hkc
 subst e;refine .sq<|.sm Z<|.xs (X:=Unit) Z (λW s=>CP K1 hq (g:=g) (k:=r.length) (c:=c) aD (s.p3_3 [0,1,2] Z)) λ_ _=>.nC Z<|.fA Z qE<|.yw (.loadR1 Z bQ cU (lC hlo Z))<|.mv Z<|.yw (.geq Z Z)<|.nt<|.ce Z (λh17=>?_) (λh17=>?_)
 ·have hle:lv<=o.lv:=aD
  have h0:0<o.lv:=aD
  refine .sk<|.tN<|.bk<|.sm Z<|.xs (X:=Unit) Z (λW s=>CP K1 hq (g:=g) (k:=r.length) (c:=c) aD (s.p3_3 [0,1,2] Z)) λ_ _=>.nC Z<|.yw (.loadR (vs:=oC o s1 s2) Z AY cU Z (λj u h=>lC hlo h))<|.al TI Z λb4=>.sW .head Z Z TM (cH0 ho1 ho2) Z<|.nt<|.sq<|.fL 12 [(0,0),(1,0),(2,0),(3,0),(4,0),(5,0),(6,0),(7,0),(8,0),(9,0),(10,0),(11,0)]<|.mv Z<|.mv Z<|.nC Z<|.fA Z jF<|.lD Z wN cU Z<|.mv Z<|.nC Z<|.fA Z jF<|.lD Z wN cU Z<|.yw (.lenSl ET Z)<|.yw (.sub Z Z (c:=((r.length:Nat):Int)) ((w6 aD).trans aD))<|.yw (.cutHi ET Z Z Z aD (λq e=>by cases e;rfl))<|.fn (tl:=[_,_,_]) Z<|.nC Z<|.fA Z jF<|.st iJ Z Z EV Z (nb Z) Z<|?_
  refine Sx.At.rcut (size:=11) (m:=r.length) (ys:=xr) iE (Nat.le_succ _) (by rw [<-hlo,iY]) ?_;refine .ns<|.fA Z gZ<|.lD Z nH Hm Z<|.nt<|.bk<|.sr<|.yw (.eql Z Z)<|.aq Z<|.ce Z (λh38=>?_) (λh38=>?_)
  ·have hk:o.kd=10:=aR.1 (by show o.kd.toNat=10;omega);have hk5:o.kd≠5:=by rw [hk];decide
   have hv1:1<=x1.1.length:=by have:=W1.vs;dsimp only at this;rw [this];exact Nat.le_add_left _ _
   obtain ⟨vs,bd⟩:=x1;try dsimp only at hv1 hn2
   obtain ⟨v,V,rfl⟩:=CZ hv1;obtain ⟨yr,t0,t1,t2,e4,VS1,V1⟩:=VR.inv S1.vls;try dsimp only at e4
   subst e4;have l1:=VS1.len;try dsimp only [List.length_cons] at hn2
   refine .sm Z<|.xs (X:=Nat × Nat) Z (λW s=>zQ K1 hq V1.one aD l1 (s.p4_4 [1,3,0,2] Z)) λp1 _=>.al kQ Z λb5=>.sW .head Z Z gR (by intro u hu;exact Rep.one V1.e.rep u hu) Z<|.nt<|.rg<|.mv Z<|.yw (.loadW Z eM Hm Z)<|.bl Z (oZ _ _ _ _) Z λb44=>?_
   refine Sx.freezeBoxN λH2 u2 m2=>?_;refine .yw (.build Z (CC _ _ _ _))<|.yw (.build Z (jV _ _ _ _ _))<|?_
   have VN:VlR H2 (tmv (.mk 9 [] 0 [v.e])) (.slice (dI b44) 1 1) (cL) (cL):=⟨⟨(Rep.mk m2 (.single (V1.e.up u2.up).rep rfl) rfl (aY _) aS),aN _⟩,FmR.zero rfl rfl (aN _) (aN _)⟩;exact .xs (X:=Option Addr × Nat) Z (λW s=>nD (K1.up u2.up) hq VN.one aD (s.p5_5 [1,2,0,3,4] Z)) λp9 _=>.nl<|.bN<|.bN<|.tN<|.ag (x:=((H1,Value.slice (dI g) (o::r).length c,rv1,xr++oC o s1 s2,yr++vC v t0 t1 t2),o::r,(v::V,bd))) (((H2,Value.slice (dI g) r.length c,Value.slice p9.1 (V.length+1) p9.2,xr,yr++vC (tmv (.mk 9 [] 0 [v.e])) (.slice (dI b44) 1 1) (cL) (cL)),r,(tmv (.mk 9 [] 0 [v.e])::V,bd || !v.tm))) trivial ⟨rfl,rfl,trivial⟩ (λ_ s=>(s.p5_3 [0,4,1] Z)) ⟨u1.trans u2,⟨(Ops.inv2 S1.ops hk5).1.up u2.up,.cons (VS1.up u2.up) VN⟩,(by rw [<-aM6 hk];exact HH W1 h0),(by rw [<-aM6 hk,<-e1,yB,aK hle])⟩ (dF _)
  have hk10:¬ o.kd=10:=λe=>by rw [e] at h38;exact h38 rfl
  refine .sq<|.sr<|.yw (.eql Z Z)<|.aq Z<|.cr Z (λh48=>?_) (λh48=>?_)
  ·try simp only [dt] at h48
   have hk:o.kd=9:=aR.1 (by show o.kd.toNat=9;omega);have hk5:o.kd≠5:=by rw [hk];decide
   have hv1:2<=x1.1.length:=by have:=W1.vs;dsimp only at this;rw [this,sU,show cnO o=true by unfold cnO;rw [hk];decide];simp only [dC];omega
   obtain ⟨vs,bd⟩:=x1;try dsimp only at hv1 hn2
   obtain ⟨v,u,V,rfl⟩:=bG5 hv1;obtain ⟨yr,t0,t1,t2,e4,VS1,V1⟩:=VR.inv S1.vls;try dsimp only at e4
   subst e4;have l1:=VS1.len;obtain ⟨yr2,w0_,w1,w2,e5,VS2,V2⟩:=VR.inv VS1;subst e5;have l2:=VS2.len;try dsimp only [List.length_cons] at hn2 l1
   refine .sk<|.tN<|.cT Z<|.sm Z<|.xs (X:=Nat × Nat) Z (λW s=>zQ K1 hq V1.one aD l1 (s.p4_4 [1,3,0,2] Z)) λp1 _=>.mv Z<|.xs (X:=Nat × Nat) Z (λW s=>zQ K1 hq V2.one aD l2 (s.p4_4 [0,1,2,3] Z)) λp2 _=>.al kQ Z λb6=>.al kQ Z λb7=>.sW iJ Z Z gR (by intro a ha;exact Rep.one V1.e.rep a ha) Z<|.sW .head Z Z gR (by intro a ha;exact Rep.one V2.e.rep a ha) Z<|.ns<|.fA Z BW<|.lD Z kO wI Z<|.yw (.loadW Z eM Hm Z)<|.yw (.loadW Z eM cU Z)<|.bl Z (PU _ _ _ _ _ _ _ _) Z λb59=>?_
   refine Sx.freezeBoxN λH2 u2 m2=>?_;refine .yw (.build Z (CC _ _ _ _))<|.al kQ Z λb8=>.sX .head Z Z gR Z<|.ns<|.fA Z gZ<|.lD Z nH aR3 Z<|.yw (.eql Z Z)<|.nt<|.cd Z (λh63=>?_) (λh63=>?_)
   ·try simp only [dt] at h63
    refine .rg<|.mv Z<|.yw (.loadW Z eM Hm Z)<|.yw (.build Z (jV _ _ _ _ _))<|?_
    have VN:VlR H2 (tmv (.mk o.op [] 0 [u.e,v.e])) (.slice (dI b59) 2 2) (cL) (cL):=⟨⟨(Rep.mk m2 (.app (.single (V2.e.up u2.up).rep rfl) (.single (V1.e.up u2.up).rep rfl)) rfl (aY _) aS),aN _⟩,FmR.zero rfl rfl (aN _) (aN _)⟩;exact .xs (X:=Option Addr × Nat) Z (λW s=>nD (K1.up u2.up) hq VN.one aD (s.p7_7 [3,4,0,1,2,5,6] Z)) λp9 _=>.nl<|.bN<|.bN<|.tN<|.ag (x:=((H1,Value.slice (dI g) (o::r).length c,rv1,xr++oC o s1 s2,(yr2++vC u w0_ w1 w2)++vC v t0 t1 t2),o::r,(v::u::V,bd))) (((H2,Value.slice (dI g) r.length c,Value.slice p9.1 (V.length+1) p9.2,xr,yr2++vC (tmv (.mk o.op [] 0 [u.e,v.e])) (.slice (dI b59) 2 2) (cL) (cL)),r,(tmv (.mk o.op [] 0 [u.e,v.e])::V,bd || !v.tm || !u.tm))) trivial ⟨rfl,rfl,trivial⟩ (λ_ s=>(s.p7_3 [0,6,1] Z)) ⟨u1.trans u2,⟨(Ops.inv2 S1.ops hk5).1.up u2.up,.cons (VS2.up u2.up) VN⟩,(by rw [<-bL7 hk];exact HH W1 h0),(by rw [<-bL7 hk,<-e1,yB,aK hle])⟩ (dF _)
   exact absurd (by rw [hk];rfl) (aJ h63)
  try simp only [df] at h48
  have hk9:¬ o.kd=9:=λe=>by rw [e] at h48;exact h48 rfl
  refine .rg<|.yw (.eql Z Z)<|.aq Z<|.cr Z (λh48=>?_) (λh48=>?_)
  ·try simp only [dt] at h48
   have hk:o.kd=8:=aR.1 (by show o.kd.toNat=8;omega);have hk5:o.kd≠5:=by rw [hk];decide
   have hv1:2<=x1.1.length:=by have:=W1.vs;dsimp only at this;rw [this,sU,show cnO o=true by unfold cnO;rw [hk];decide];simp only [dC];omega
   obtain ⟨vs,bd⟩:=x1;try dsimp only at hv1 hn2
   obtain ⟨v,u,V,rfl⟩:=bG5 hv1;obtain ⟨yr,t0,t1,t2,e4,VS1,V1⟩:=VR.inv S1.vls;try dsimp only at e4
   subst e4;have l1:=VS1.len;obtain ⟨yr2,w0_,w1,w2,e5,VS2,V2⟩:=VR.inv VS1;subst e5;have l2:=VS2.len;try dsimp only [List.length_cons] at hn2 l1
   refine .sm Z<|.xs (X:=Nat × Nat) Z (λW s=>zQ K1 hq V1.one aD l1 (s.p4_4 [1,3,0,2] Z)) λp1 _=>.mv Z<|.xs (X:=Nat × Nat) Z (λW s=>zQ K1 hq V2.one aD l2 (s.p4_4 [0,1,2,3] Z)) λp2 _=>.al kQ Z λb6=>.al kQ Z λb7=>.sW iJ Z Z gR (by intro a ha;exact Rep.one V1.e.rep a ha) Z<|.sW .head Z Z gR (by intro a ha;exact Rep.one V2.e.rep a ha) Z<|.ns<|.fA Z BW<|.lD Z kO wI Z<|.yw (.loadW Z eM Hm Z)<|.yw (.loadW Z eM cU Z)<|.bl Z (PU _ _ _ _ _ _ _ _) Z λb59=>?_
   refine Sx.freezeBoxN λH2 u2 m2=>?_;refine .yw (.build Z (CC _ _ _ _))<|.al kQ Z λb8=>.sX .head Z Z gR Z<|.ns<|.fA Z gZ<|.lD Z nH aR3 Z<|.yw (.eql Z Z)<|.nt<|.cd Z (λh63=>?_) (λh63=>?_)
   ·exact absurd (aI h63) (by rw [hk];decide)
   try simp only [df] at h63
   refine .rg<|.mv Z<|.yw (.loadW Z eM Hm Z)<|.bl Z (oZ _ _ _ _) Z λb70=>?_
   refine Sx.freezeBoxN λH3 u3 m3=>?_;refine .yw (.build Z (WA _ _ _ _))<|.yw (.build Z (jA _ _ _ _ _ _ _))<|?_
   have RX:ExR H2 (.mk o.op [] 0 [u.e,v.e]) (.slice (dI b59) 2 2):=⟨(Rep.mk m2 (.app (.single (V2.e.up u2.up).rep rfl) (.single (V1.e.up u2.up).rep rfl)) rfl (aY _) aS),aN _⟩;have VN:VlR H3 (fmv (.mk 3 [] [] 0 0 [.mk o.op [] 0 [u.e,v.e]] [])) (cL) (.slice (dI b70) 1 1) (cL):=⟨ExR.zero rfl (aN _),⟨(Rep.mk m3 (.single (RX.up u3.up).rep rfl) rfl (aY _) aS),Rep.nil4,aN _,aN _⟩⟩;exact .xs (X:=Option Addr × Nat) Z (λW s=>nD ((K1.up u2.up).up u3.up) hq VN.one aD (s.p7_7 [3,4,0,1,2,5,6] Z)) λp9 _=>.nl<|.bN<|.bN<|.tN<|.ag (x:=((H1,Value.slice (dI g) (o::r).length c,rv1,xr++oC o s1 s2,(yr2++vC u w0_ w1 w2)++vC v t0 t1 t2),o::r,(v::u::V,bd))) (((H3,Value.slice (dI g) r.length c,Value.slice p9.1 (V.length+1) p9.2,xr,yr2++vC (fmv (.mk 3 [] [] 0 0 [.mk o.op [] 0 [u.e,v.e]] [])) (cL) (.slice (dI b70) 1 1) (cL)),r,(fmv (.mk 3 [] [] 0 0 [.mk o.op [] 0 [u.e,v.e]] [])::V,bd || !v.tm || !u.tm))) trivial ⟨rfl,rfl,trivial⟩ (λ_ s=>(s.p7_3 [0,6,1] Z)) ⟨u1.trans (u2.trans u3),⟨(Ops.inv2 S1.ops hk5).1.up (u2.trans u3).up,.cons (VS2.up (u2.trans u3).up) VN⟩,(by rw [<-bL8 hk];exact HH W1 h0),(by rw [<-bL8 hk,<-e1,yB,aK hle])⟩ (dF _)
  try simp only [df] at h48
  have hk8:¬ o.kd=8:=λe=>by rw [e] at h48;exact h48 rfl
  refine .sr<|.yw (.eql Z Z)<|.aq Z<|.ce Z (λh74=>?_) (λh74=>?_)
  ·have hk:o.kd=7:=aR.1 (by show o.kd.toNat=7;omega);have hk5:o.kd≠5:=by rw [hk];decide
   have hv1:1<=x1.1.length:=by have:=W1.vs;dsimp only at this;rw [this];exact Nat.le_add_left _ _
   obtain ⟨vs,bd⟩:=x1;try dsimp only at hv1 hn2
   obtain ⟨v,V,rfl⟩:=CZ hv1;obtain ⟨yr,t0,t1,t2,e4,VS1,V1⟩:=VR.inv S1.vls;try dsimp only at e4
   subst e4;have l1:=VS1.len;try dsimp only [List.length_cons] at hn2
   refine .sm Z<|.xs (X:=Nat × Nat) Z (λW s=>xQ K1 hq V1.one V1.e.nm aD l1 (s.p4_4 [1,3,0,2] Z)) λp1 _=>?_
   obtain ⟨q1,q2,ef,FR⟩:=JS V1;rw [ef];refine .bl Z (rV _ _ _ _ _ _ _) Z λb78=>?_;refine Sx.freezeBoxN λH2 u2 m2=>?_;refine .fA Z dZ<|.fA Z dQ<|.st iE Z Z EW Z (nb Z) Z<|.nt<|.rg<|.mv Z<|.fA Z dZ<|.yw (.loadS (vs:=[_,_,_,_,_,_,_]) Z cQ iG Z (bA1 Z))<|.yw (.build Z (jA _ _ _ _ _ _ _))<|?_
   have FO:=(Ops.inv2 S1.ops hk5).2;have VN:VlR H2 (fmv (o.f.wAr [v.fm])) (cL) s1 (.slice (dI b78) 1 1):=⟨ExR.zero rfl (aN _),⟨FO.ex.up u2.up,(Rep.mk m2 (.single (FR.up u2.up).rep rfl) rfl (aY _) aS),FO.nm,FO.fd⟩⟩;exact .xs (X:=Option Addr × Nat) Z (λW s=>nD (K1.up u2.up) hq VN.one aD (s.p4_4 [0,1,2,3] Z)) λp9 _=>.nl<|.bN<|.bN<|.tN<|.ag (x:=((H1,Value.slice (dI g) (o::r).length c,rv1,xr++oC o s1 s2,yr++vC v t0 t1 t2),o::r,(v::V,bd))) (((H2,Value.slice (dI g) r.length c,Value.slice p9.1 (V.length+1) p9.2,xr,yr++vC (fmv (o.f.wAr [v.fm])) (cL) s1 (.slice (dI b78) 1 1)),r,(fmv (o.f.wAr [v.fm])::V,bd || v.noF))) trivial ⟨rfl,rfl,trivial⟩ (λ_ s=>(s.p4_3 [0,3,1] Z)) ⟨u1.trans u2,⟨(Ops.inv2 S1.ops hk5).1.up u2.up,.cons (VS1.up u2.up) VN⟩,(by rw [<-bL9 hk];exact HH W1 h0),(by rw [<-bL9 hk,<-e1,yB,aK hle])⟩ (dF _)
  have hk7:¬ o.kd=7:=λe=>by rw [e] at h74;exact h74 rfl
  refine .sr<|.yw (.eql Z Z)<|.aq Z<|.cd Z (λh86=>?_) (λh86=>?_)
  ·try simp only [dt] at h86
   have hk:o.kd=6:=aR.1 (by show o.kd.toNat=6;omega);have hk5:o.kd≠5:=by rw [hk];decide
   have hv1:2<=x1.1.length:=by have:=W1.vs;dsimp only at this;rw [this,sU,show cnO o=true by unfold cnO;rw [hk];decide];simp only [dC];omega
   obtain ⟨vs,bd⟩:=x1;try dsimp only at hv1 hn2
   obtain ⟨v,u,V,rfl⟩:=bG5 hv1;obtain ⟨yr,t0,t1,t2,e4,VS1,V1⟩:=VR.inv S1.vls;try dsimp only at e4
   subst e4;have l1:=VS1.len;obtain ⟨yr2,w0_,w1,w2,e5,VS2,V2⟩:=VR.inv VS1;subst e5;have l2:=VS2.len;try dsimp only [List.length_cons] at hn2 l1
   refine .sm Z<|.xs (X:=Nat × Nat) Z (λW s=>xQ K1 hq V1.one V1.e.nm aD l1 (s.p4_4 [1,3,0,2] Z)) λp1 _=>?_
   obtain ⟨q1,q2,ef,FR⟩:=JS V1;rw [ef];refine .mv Z<|.xs (X:=Nat × Nat) Z (λW s=>xQ K1 hq V2.one V2.e.nm aD l2 (s.p4_4 [0,1,2,3] Z)) λp2 _=>?_
   obtain ⟨q3,q4,ef2,FR2⟩:=JS V2;rw [ef2];refine .al fB Z λb9=>.al fB Z λb10=>.sW iJ Z Z dK (by intro a ha;exact Rep.one FR.rep a ha) Z<|.sW .head Z Z dK (by intro a ha;exact Rep.one FR2.rep a ha) Z<|.ns<|.yw (.loadW Z cQ Hm Z)<|.yw (.loadW Z cQ cU Z)<|.bl Z (aI7 _ _ _ _ _ _ _ _ _ _ _ _ _ _) Z λb94=>?_
   refine Sx.freezeBoxN λH2 u2 m2=>?_;refine .fA Z dZ<|.fA Z dQ<|.st QD Z Z EW Z (nb Z) Z<|.nt<|.rg<|.mv Z<|.fA Z dZ<|.yw (.loadS (vs:=[_,_,_,_,_,_,_]) Z cQ wI Z (bA1 Z))<|.yw (.build Z (jA _ _ _ _ _ _ _))<|?_
   have FO:=(Ops.inv2 S1.ops hk5).2;have VN:VlR H2 (fmv (o.f.wAr [u.fm,v.fm])) (cL) s1 (.slice (dI b94) 2 2):=⟨ExR.zero rfl (aN _),⟨FO.ex.up u2.up,(Rep.mk m2 (.app (.single (FR2.up u2.up).rep rfl) (.single (FR.up u2.up).rep rfl)) rfl (aY _) aS),FO.nm,FO.fd⟩⟩;exact .xs (X:=Option Addr × Nat) Z (λW s=>nD (K1.up u2.up) hq VN.one aD (s.p6_6 [2,3,0,1,4,5] Z)) λp9 _=>.nl<|.bN<|.bN<|.tN<|.ag (x:=((H1,Value.slice (dI g) (o::r).length c,rv1,xr++oC o s1 s2,(yr2++vC u w0_ w1 w2)++vC v t0 t1 t2),o::r,(v::u::V,bd))) (((H2,Value.slice (dI g) r.length c,Value.slice p9.1 (V.length+1) p9.2,xr,yr2++vC (fmv (o.f.wAr [u.fm,v.fm])) (cL) s1 (.slice (dI b94) 2 2)),r,(fmv (o.f.wAr [u.fm,v.fm])::V,bd || v.noF || u.noF))) trivial ⟨rfl,rfl,trivial⟩ (λ_ s=>(s.p6_3 [0,5,1] Z)) ⟨u1.trans u2,⟨(Ops.inv2 S1.ops hk5).1.up u2.up,.cons (VS2.up u2.up) VN⟩,(by rw [<-bM0 hk];exact HH W1 h0),(by rw [<-bM0 hk,<-e1,yB,aK hle])⟩ (dF _)
  exact absurd ((bE2 (by obtain ⟨r1,e7,hr1⟩:=W1.op;cases r1 with | nil=>(injection e7 with e7 _;subst e7;exact absurd h0 aS) | cons a r1=>(injection e7 with e7 _;subst e7;exact hr1 _ (bH ..)))).2 h0) (by rintro (e | e | e | e | e) <;> first | exact hk10 e | exact hk9 e | exact hk8 e | exact hk7 e | exact (aJ h86) (by rw [e];rfl))
 have e6:kD lv ⟨q,op,x,true,dn⟩=⟨q,o::r,x1,true,dn⟩:=by unfold kD;dsimp only;rw [<-e1,yB,aA (show ¬ lv<=o.lv by omega)]
 refine .ex<|.tE<|.tE<|.bE<|?_
 refine jM (.inr Z) rfl .nil rfl λW s=>?_;rw [e6];exact ⟨(H1,_,rv1,_,xv1,AR),⟨u1,S1⟩,Z,s.p3_3 [0,1,2] rfl⟩
def cU3 (w0:World) (bs:List Res) (b:Nat) (l:Tks) (tp:Option Addr) (tc:Nat) (H:Hp) (v:Value) (q:Ps) (e:Ending) (W:World):Prop :=
 ∃ z:Hp × Value × Value × List Value × List Value × List Res,(HUp w0 H z.1/\Sq z.1 q z.2.2.2.1 z.2.2.2.2.1 z.2.2.2.2.2)/\e=.returned v/\StP z.1 w0 bs W b l tp tc q z.2.1 z.2.2.1 z.2.2.2.1 z.2.2.2.2.1 z.2.2.2.2.2
theorem Ops.tm {op:List Ov} (h:Ops H op xo AR) (hn:op≠[]):∃ k1,op.length=k1+1/\xo[k1 * 11+2]? = some (.bool (op.headD bO).tm):=by
 cases op with
 | nil=>exact absurd rfl hn
 | cons o r =>
  obtain ⟨xr,s1,s2,e,hl,_⟩:=h.top;subst e;exact ⟨r.length,Z,lC hl rfl⟩
set_option maxHeartbeats 1000000 in
theorem bD1 {l:Tks} {tp:Option Addr} {tc:Nat} {op:List Ov} {x:Vb} {dn:Bool} (K:Tkf H l tp tc) (Wq:Fwf l ⟨q,op,x,false,dn⟩) (S:Sq H ⟨q,op,x,false,dn⟩ xo xv AR) (s:St H w0 (.box b [.slice tp l.length tc,iN q.i,ro,rv,.bool false,.bool dn,.bool x.2,iN q.off,iN q.er] 102::.row 97 11 (ro) (op.length) (xo)::.row 179 13 (rv) (x.1.length) (xv)::(AR++bs)) W) :
 Calls prg 106 #[.pointer (dI b)] W (cU3 w0 bs b l tp tc H (.bool (nN l ⟨q,op,x,false,dn⟩).isSome) ((nN l ⟨q,op,x,false,dn⟩).getD ⟨q,op,x,false,dn⟩)):=by
 have hq:q.i<l.length:=Wq.i;have hne:op≠[]:=Wq.ne;obtain ⟨hn1,hn2⟩:=pW Wq K.few;dsimp only at hn1 hn2;have hcap:=K.rep.cap;refine iB func106 rfl ntmps106 rfl s ?_;refine .sr<|.a Z Z<|.ns<|.al fB Z λb3=>.nt<|.sq<|.bk<|.sm Z<|.xs (X:=Unit) Z (λW s=>fC K hq [110,111,116] (s.p4_4 [1,0,2,3] Z)) λ_ _=>.aq Z<|.cd Z (λh4=>?_) (λh4=>?_)
 ·have a4:Rq.ac l [110,111,116] q=true:=h4;rw [lV a4];refine .rg<|.yw (.build Z (qG _))<|.sX iJ Z Z dK Z<|.nl<|.bN<|.tN<|.sm Z<|.yw (.loadW Z cQ cU Z)<|.yw (.build Z (jU _ _ _ _ _ _ _ _ _))<|.xs (X:=Option Addr × Nat) Z (λW s=>nO K (dN K.gd.last hq a4) (by simp [Value.oneCell',bJ]) (aZ hn1 aS) (λ_=>S.ops.tm hne) (s.p4_4 [0,2,1,3] Z)) λp9 _=>.ns<|.az Z<|?_
  refine y9 Z Z λW s=>?_;rw [BJ (q:=⟨q,op,x,false,dn⟩) (op:=8) a4 aS];exact ⟨(_,_,_,_,_,AR),⟨.refl,⟨.cons S.ops (by show ¬ (7:UInt8)=5;decide) (FmR.zero rfl rfl (aN _) (aN _)),S.vls⟩⟩,Z,s.p4_3 [0,1,3] rfl⟩
 have a4:Rq.ac l [110,111,116] q=false:=h4;rw [mC a4];refine .sm Z<|.xs (X:=Unit) Z (λW s=>fC K hq [112,114,101,118,105,111,117,115] (s.p4_4 [0,1,2,3] Z)) λ_ _=>.aq Z<|.cd Z (λh8=>?_) (λh8=>?_)
 ·have a8:Rq.ac l [112,114,101,118,105,111,117,115] q=true:=h8;rw [lV a8];refine .rg<|.yw (.build Z (qG _))<|.sX iJ Z Z dK Z<|.nl<|.bN<|.tN<|.sm Z<|.yw (.loadW Z cQ cU Z)<|.yw (.build Z (jU _ _ _ _ _ _ _ _ _))<|.xs (X:=Option Addr × Nat) Z (λW s=>nO K (dN K.gd.last hq a8) (by simp [Value.oneCell',bJ]) (aZ hn1 aS) (λ_=>S.ops.tm hne) (s.p4_4 [0,2,1,3] Z)) λp9 _=>.ns<|.az Z<|?_
  refine y9 Z Z λW s=>?_;rw [BJ (q:=⟨q,op,x,false,dn⟩) (op:=12) a8 aS];exact ⟨(_,_,_,_,_,AR),⟨.refl,⟨.cons S.ops (by show ¬ (7:UInt8)=5;decide) (FmR.zero rfl rfl (aN _) (aN _)),S.vls⟩⟩,Z,s.p4_3 [0,1,3] rfl⟩
 have a8:Rq.ac l [112,114,101,118,105,111,117,115] q=false:=h8;rw [mC a8];refine .sm Z<|.xs (X:=Unit) Z (λW s=>fC K hq [111,110,99,101] (s.p4_4 [0,1,2,3] Z)) λ_ _=>.aq Z<|.cd Z (λh12=>?_) (λh12=>?_)
 ·have a12:Rq.ac l [111,110,99,101] q=true:=h12;rw [lV a12];refine .rg<|.mv Z<|.xs (X:=Unit) Z (λW s=>NB K (dN K.gd.last hq a12) 13 (s.p4_4 [0,1,2,3] Z)) λ_ _=>.sX iJ Z Z dK Z<|.nl<|.bN<|.tN<|.sm Z<|.yw (.loadW Z cQ cU Z)<|.yw (.build Z (jU _ _ _ _ _ _ _ _ _))<|.xs (X:=Option Addr × Nat) Z (λW s=>nO K (ND K.gd.last (dN K.gd.last hq a12)) (by simp [Value.oneCell',bJ]) (aZ hn1 aS) (λ_=>S.ops.tm hne) (s.p4_4 [0,2,1,3] Z)) λp9 _=>.ns<|.az Z<|?_
  refine y9 Z Z λW s=>?_;rw [BJ (q:=⟨q,op,x,false,dn⟩) (op:=13) a12 aS];exact ⟨(_,_,_,_,_,AR),⟨.refl,⟨.cons S.ops (by show ¬ (7:UInt8)=5;decide) (FmR.zero rfl rfl (aN _) (aN _)),S.vls⟩⟩,Z,s.p4_3 [0,1,3] rfl⟩
 have a12:Rq.ac l [111,110,99,101] q=false:=h12;rw [mC a12];refine .sm Z<|.xs (X:=Unit) Z (λW s=>fC K hq [97,108,119,97,121,115] (s.p4_4 [0,1,2,3] Z)) λ_ _=>.aq Z<|.cd Z (λh17=>?_) (λh17=>?_)
 ·have a17:Rq.ac l [97,108,119,97,121,115] q=true:=h17;rw [lV a17];refine .rg<|.mv Z<|.xs (X:=Unit) Z (λW s=>NB K (dN K.gd.last hq a17) 14 (s.p4_4 [0,1,2,3] Z)) λ_ _=>.sX iJ Z Z dK Z<|.nl<|.bN<|.tN<|.sm Z<|.yw (.loadW Z cQ cU Z)<|.yw (.build Z (jU _ _ _ _ _ _ _ _ _))<|.xs (X:=Option Addr × Nat) Z (λW s=>nO K (ND K.gd.last (dN K.gd.last hq a17)) (by simp [Value.oneCell',bJ]) (aZ hn1 aS) (λ_=>S.ops.tm hne) (s.p4_4 [0,2,1,3] Z)) λp9 _=>.ns<|.az Z<|?_
  refine y9 Z Z λW s=>?_;rw [BJ (q:=⟨q,op,x,false,dn⟩) (op:=14) a17 aS];exact ⟨(_,_,_,_,_,AR),⟨.refl,⟨.cons S.ops (by show ¬ (7:UInt8)=5;decide) (FmR.zero rfl rfl (aN _) (aN _)),S.vls⟩⟩,Z,s.p4_3 [0,1,3] rfl⟩
 have a17:Rq.ac l [97,108,119,97,121,115] q=false:=h17;rw [mC a17];refine .sm Z<|.xs (X:=Unit) Z (λW s=>fC K hq [102,111,114,97,108,108] (s.p4_4 [0,1,2,3] Z)) λ_ _=>.aq Z<|.cd Z (λh22=>?_) (λh22=>?_)
 ·have a22:Rq.ac l [102,111,114,97,108,108] q=true:=h22;rw [lV a22];refine .rg<|.mv Z<|.xs (X:=Unit) Z (λW s=>VV K (dN K.gd.last hq a22) 16 (s.p4_4 [0,1,2,3] Z)) λ_ _=>.sX iJ Z Z dK Z<|.nl<|.bN<|.tN<|.sm Z<|.yw (.loadW Z cQ cU Z)<|.yw (.build Z (jU _ _ _ _ _ _ _ _ _))<|.xs (X:=Option Addr × Nat) Z (λW s=>nO K (NE K.gd.last (dN K.gd.last hq a22)) (by simp [Value.oneCell',bJ]) (aZ hn1 aS) (λ_=>S.ops.tm hne) (s.p4_4 [0,2,1,3] Z)) λp9 _=>.ns<|.az Z<|?_
  refine y9 Z Z λW s=>?_;rw [BJ (q:=⟨q,op,x,false,dn⟩) (op:=16) a22 aS];exact ⟨(_,_,_,_,_,AR),⟨.refl,⟨.cons S.ops (by show ¬ (7:UInt8)=5;decide) (FmR.zero rfl rfl (aZ (gW K (dN K.gd.last hq a22)) aS) (aN _)),S.vls⟩⟩,Z,s.p4_3 [0,1,3] rfl⟩
 have a22:Rq.ac l [102,111,114,97,108,108] q=false:=h22;rw [mC a22];refine .sm Z<|.xs (X:=Unit) Z (λW s=>fC K hq [101,120,105,115,116,115] (s.p4_4 [0,1,2,3] Z)) λ_ _=>.aq Z<|.cd Z (λh27=>?_) (λh27=>?_)
 ·have a27:Rq.ac l [101,120,105,115,116,115] q=true:=h27;rw [lV a27];refine .rg<|.mv Z<|.xs (X:=Unit) Z (λW s=>VV K (dN K.gd.last hq a27) 17 (s.p4_4 [0,1,2,3] Z)) λ_ _=>.sX iJ Z Z dK Z<|.nl<|.bN<|.tN<|.sm Z<|.yw (.loadW Z cQ cU Z)<|.yw (.build Z (jU _ _ _ _ _ _ _ _ _))<|.xs (X:=Option Addr × Nat) Z (λW s=>nO K (NE K.gd.last (dN K.gd.last hq a27)) (by simp [Value.oneCell',bJ]) (aZ hn1 aS) (λ_=>S.ops.tm hne) (s.p4_4 [0,2,1,3] Z)) λp9 _=>.ns<|.az Z<|?_
  refine y9 Z Z λW s=>?_;rw [BJ (q:=⟨q,op,x,false,dn⟩) (op:=17) a27 aS];exact ⟨(_,_,_,_,_,AR),⟨.refl,⟨.cons S.ops (by show ¬ (7:UInt8)=5;decide) (FmR.zero rfl rfl (aZ (gW K (dN K.gd.last hq a27)) aS) (aN _)),S.vls⟩⟩,Z,s.p4_3 [0,1,3] rfl⟩
 have a27:Rq.ac l [101,120,105,115,116,115] q=false:=h27;rw [mC a27];refine .sm Z<|.xs (X:=Unit) Z (λW s=>fC K hq [99,111,117,110,116] (s.p4_4 [0,1,2,3] Z)) λ_ _=>.aq Z<|.cd Z (λh32=>?_) (λh32=>?_)
 ·have a32:Rq.ac l [99,111,117,110,116] q=true:=h32;rw [lV a32];refine .sm Z<|.xs (X:=Unit) Z (λW s=>VV K (dN K.gd.last hq a32) 18 (s.p4_4 [0,1,2,3] Z)) λ_ _=>.sX iJ Z Z dK Z<|.ns<|.mv Z<|.xs (X:=Unit) Z (λW s=>sS K (NE K.gd.last (dN K.gd.last hq a32)) [40] (s.p4_4 [0,1,2,3] Z)) λ_ _=>.ns<|.mv Z<|.yw (.loadW Z cQ cU Z)<|.yw (.build Z (VZ _ _ _ _ _ _ _ _))<|.xs (X:=Option Addr × Nat) Z (λW s=>nO K (lR K.gd.last (NE K.gd.last (dN K.gd.last hq a32))) (by simp [Value.oneCell',bJ]) (aZ hn1 aS) (t':=false) (λh=>absurd h (Nat.lt_irrefl 0)) (s.p4_4 [0,2,1,3] Z)) λp9 _=>.ns<|.az Z<|.bR<|.tR<|?_
  refine y9 Z Z λW s=>?_;rw [XK (q:=⟨q,op,x,false,dn⟩) a32];exact ⟨(_,_,_,_,_,AR),⟨.refl,⟨.cons S.ops (by show ¬ (3:UInt8)=5;decide) (FmR.zero rfl rfl (aZ (gW K (dN K.gd.last hq a32)) aS) (aN _)),S.vls⟩⟩,Z,s.p4_3 [0,1,3] rfl⟩
 have a32:Rq.ac l [99,111,117,110,116] q=false:=h32;rw [mC a32];refine .sr<|.az Z<|.bR<|.tR<|?_
 refine y9 Z Z λW s=>?_
 have e0:nN l ⟨q,op,x,false,dn⟩=none:=aK2 (λw op hp=>by
  simp only [LN,bM,BB,List.not_mem_nil,or_false] at hp;rcases hp with ⟨rfl,rfl⟩ | ⟨rfl,rfl⟩ | ⟨rfl,rfl⟩ | ⟨rfl,rfl⟩ | ⟨rfl,rfl⟩ | ⟨rfl,rfl⟩
  ·exact a4
  ·exact a8
  ·exact a12
  ·exact a17
  ·exact a22
  ·exact a27) a32
 rw [e0];exact ⟨(_,_,_,_,_,AR),⟨.refl,⟨S.ops,S.vls⟩⟩,Z,s.p4_3 [0,2,3] rfl⟩
theorem NH {l:Tks} {tp:Option Addr} {tc:Nat} {op:List Ov} {x:Vb} {dn:Bool} (K:Tkf H l tp tc) (Wq:Fwf l ⟨q,op,x,false,dn⟩) (S:Sq H ⟨q,op,x,false,dn⟩ xo xv AR) (s:St H w0 (.box b [.slice tp l.length tc,iN q.i,ro,rv,.bool false,.bool dn,.bool x.2,iN q.off,iN q.er] 102::.row 97 11 (ro) (op.length) (xo)::.row 179 13 (rv) (x.1.length) (xv)::(AR++bs)) W) :
 Calls prg 111 #[.pointer (dI b)] W (Get w0 bs b l tp tc H (xD l ⟨q,op,x,false,dn⟩)):=by
 have hq:q.i<l.length:=Wq.i;have hne:op≠[]:=Wq.ne;obtain ⟨hn1,hn2⟩:=pW Wq K.few;dsimp only at hn1 hn2;have hcap:=K.rep.cap;refine iB func111 rfl ntmps111 rfl s ?_;refine .sm Z<|.xs (X:=Unit) Z (λW s=>GK K hq  (s.p3_3 [0,1,2] Z)) λ_ _=>.aq Z<|.sq<|.sm Z<|.xs (X:=Unit) Z (λW s=>fC K (lI K.gd.last hq) [46] (s.p3_3 [0,1,2] Z)) λ_ _=>.nt<|.cd Z (λh6=>?_) (λh6=>?_)
 ·have a6:Rq.ac l [46] (Rq.nmS l q)=true:=h6;rw [lV a6];refine .sm Z<|.mv Z<|.xs (X:=Unit) Z (λW s=>GK K (dN K.gd.last (lI K.gd.last hq) a6)  (s.p3_3 [0,1,2] Z)) λ_ _=>.yw (.app Z Z (by have h1:=gW K hq;have h2:=gW K (dN K.gd.last (lI K.gd.last hq) a6);simp only [aC,aF,aH];omega))<|.yw (.cast (.app Z Z (by have h1:=gW K hq;have h2:=gW K (dN K.gd.last (lI K.gd.last hq) a6);simp only [aC,aF,aH];omega)) (congrArg bJ (aV _ _ _).symm))<|.a Z Z<|.ns<|.mv Z<|.xs (X:=Unit) Z (λW s=>fC K (lI K.gd.last (dN K.gd.last (lI K.gd.last hq) a6)) [91] (s.p3_3 [0,1,2] Z)) λ_ _=>.nt<|.cd Z (λh13=>?_) (λh13=>?_)
  ·have a13:Rq.ac l [91] (Rq.nmS l (Rq.nmS l q).nx)=true:=h13;rw [lV a13];refine .sm Z<|.mv Z<|.yw (.build Z (aI9 _))<|.yw (.build Z (KJ _ _ _ _ _ _ _ _ _ _))<|.xs (X:=Option Addr × Nat) Z (λW s=>nO K (dN K.gd.last (lI K.gd.last (dN K.gd.last (lI K.gd.last hq) a6)) a13) (by simp [Value.oneCell',bJ]) (aZ hn1 aS) (t':=false) (λh=>absurd h (Nat.lt_irrefl 0)) (s.p3_3 [0,1,2] Z)) λp9 _=>.nt<|.rt<|.tR<|?_
   refine y7 Z .nil rfl λW s=>?_;have e0:xD l ⟨q,op,x,false,dn⟩=gD ⟨4,0,true,6,.mk 0 (q.ful l) [] 0 0 [] []⟩ ((⟨q,op,x,false,dn⟩:Ps).at ((q.nmS l).nx.nmS l).nx):=by unfold xD;exact (aK a6).trans (aK a13)
   rw [e0];exact ⟨(_,_,_,_,_,AR),⟨.refl,⟨.cons S.ops (by show ¬ (4:UInt8)=5;decide) (FmR.zero rfl rfl (by have h1:=gW K hq;have h2:=gW K (dN K.gd.last (lI K.gd.last hq) a6);show (Rq.ful l q).length<=1000000;unfold Rq.ful;simp only [aC,aF,aH];omega) (aN _)),S.vls⟩⟩,Z,s.p3_3 [0,1,2] rfl⟩
  have a13:Rq.ac l [91] (Rq.nmS l (Rq.nmS l q).nx)=false:=h13;rw [mC a13];refine .sk<|.tN<|.rg<|.mv Z<|.mv Z<|.yw (.build Z (xK _ _))<|.yw (.build Z (jV _ _ _ _ _))<|.xs (X:=Option Addr × Nat) Z (λW s=>nD K (lI K.gd.last (dN K.gd.last (lI K.gd.last hq) a6)) (by simp [Value.oneCell',bJ]) hn2 (s.p3_3 [0,2,1] Z)) λp9 _=>.nl<|?_
  refine jM (.inr Z) rfl .nil rfl λW s=>?_;have e0:xD l ⟨q,op,x,false,dn⟩=iU (tmv (.mk 5 (q.ful l) 0 [])) ((⟨q,op,x,false,dn⟩:Ps).at ((q.nmS l).nx.nmS l)):=by unfold xD;exact (aK a6).trans (aA (by rw [a13];decide))
  rw [e0];exact ⟨(_,_,_,_,_,AR),⟨.refl,⟨S.ops,.cons S.vls ⟨ExR.zero rfl (by have h1:=gW K hq;have h2:=gW K (dN K.gd.last (lI K.gd.last hq) a6);show (Rq.ful l q).length<=1000000;unfold Rq.ful;simp only [aC,aF,aH];omega),FmR.zero rfl rfl (aN _) (aN _)⟩⟩⟩,Z,s.p3_3 [0,2,1] rfl⟩
 have a6:Rq.ac l [46] (Rq.nmS l q)=false:=h6;rw [mC a6];refine .sk<|.tN<|.rg<|.mv Z<|.mv Z<|.yw (.build Z (xK _ _))<|.yw (.build Z (jV _ _ _ _ _))<|.xs (X:=Option Addr × Nat) Z (λW s=>nD K (lI K.gd.last hq) (by simp [Value.oneCell',bJ]) hn2 (s.p3_3 [0,2,1] Z)) λp9 _=>.nl<|?_
 refine jM (.inr Z) rfl .nil rfl λW s=>?_;have e0:xD l ⟨q,op,x,false,dn⟩=iU (tmv (.mk 5 (q.nmV l) 0 [])) ((⟨q,op,x,false,dn⟩:Ps).at (q.nmS l)):=by unfold xD;exact aA (by rw [a6];decide)
 rw [e0];exact ⟨(_,_,_,_,_,AR),⟨.refl,⟨S.ops,.cons S.vls ⟨ExR.zero rfl (aZ (gW K hq) aS),FmR.zero rfl rfl (aN _) (aN _)⟩⟩⟩,Z,s.p3_3 [0,2,1] rfl⟩
theorem TG {l:Tks} {tp:Option Addr} {tc:Nat} {op:List Ov} {x:Vb} {dn:Bool} (K:Tkf H l tp tc) (Wq:Fwf l ⟨q,op,x,false,dn⟩) (S:Sq H ⟨q,op,x,false,dn⟩ xo xv AR) (s:St H w0 (.box b [.slice tp l.length tc,iN q.i,ro,rv,.bool false,.bool dn,.bool x.2,iN q.off,iN q.er] 102::.row 97 11 (ro) (op.length) (xo)::.row 179 13 (rv) (x.1.length) (xv)::(AR++bs)) W) :
 Calls prg 115 #[.pointer (dI b)] W (Get w0 bs b l tp tc H (AP l ⟨q,op,x,false,dn⟩)):=by
 have hq:q.i<l.length:=Wq.i;have hne:op≠[]:=Wq.ne;obtain ⟨hn1,hn2⟩:=pW Wq K.few;dsimp only at hn1 hn2;have hcap:=K.rep.cap;refine iB func115 rfl ntmps115 rfl s ?_;refine .sm Z<|.xs (X:=Unit) Z (λW s=>NZ K hq 7 (s.p3_3 [0,1,2] Z)) λ_ _=>.al fB Z λb2=>.sX .head Z Z dK Z<|.ns<|.mv Z<|.xs (X:=Unit) Z (λW s=>sS K (AA K.gd.last hq) [40] (s.p4_4 [1,0,2,3] Z)) λ_ _=>.nt<|.sq<|.sm Z<|.xs (X:=Unit) Z (λW s=>fC K (lR K.gd.last (AA K.gd.last hq)) [41] (s.p4_4 [0,1,2,3] Z)) λ_ _=>.nt<|.cd Z (λh8=>?_) (λh8=>?_)
 ·have a8:Rq.ac l [41] (Rq.exS l [40] (Rq.paS l q))=true:=h8;rw [lV a8];refine .sm Z<|.yw (.loadW Z cQ cU Z)<|.yw (.build Z (jA _ _ _ _ _ _ _))<|.xs (X:=Option Addr × Nat) Z (λW s=>nD K (dN K.gd.last (lR K.gd.last (AA K.gd.last hq)) a8) (by simp [Value.oneCell',bJ]) hn2 (s.p4_4 [0,3,1,2] Z)) λp9 _=>.nt<|.rt<|.tR<|?_
  refine y7 Z .nil rfl λW s=>?_;have e0:AP l ⟨q,op,x,false,dn⟩=iU (fmv (q.paV l 7)) ((⟨q,op,x,false,dn⟩:Ps).at ((q.paS l).exS l [40]).nx):=by unfold AP;exact aK a8
  rw [e0];exact ⟨(_,_,_,_,_,AR),⟨.refl,⟨S.ops,.cons S.vls ⟨ExR.zero rfl (aN _),FmR.zero rfl rfl (aZ (gW K hq) aS) (aZ (gW K (lR K.gd.last (lI K.gd.last hq))) aS)⟩⟩⟩,Z,s.p4_3 [0,3,1] rfl⟩
 have a8:Rq.ac l [41] (Rq.exS l [40] (Rq.paS l q))=false:=h8;rw [mC a8];refine .sk<|.tN<|.rg<|.mv Z<|.yw (.loadW Z cQ cU Z)<|.yw (.build Z (yU _ _ _ _ _ _ _ _ _))<|.xs (X:=Option Addr × Nat) Z (λW s=>nO K (lR K.gd.last (AA K.gd.last hq)) (by simp [Value.oneCell',bJ]) (aZ hn1 aS) (t':=false) (λh=>absurd h (Nat.lt_irrefl 0)) (s.p4_4 [0,2,1,3] Z)) λp9 _=>.nl<|?_
 refine Sx.row0 76 4 ?_;refine jM (.inr Z) rfl .nil rfl λW s=>?_;have e0:AP l ⟨q,op,x,false,dn⟩=gD ⟨5,0,true,0,q.paV l 7⟩ ((⟨q,op,x,false,dn⟩:Ps).at ((q.paS l).exS l [40])):=by unfold AP;exact aA (by show ¬ ((q.paS l).exS l [40]).ac l [41]=true;rw [a8];decide)
 rw [e0];exact ⟨(_,_,_,_,_,_),⟨.refl,⟨.arg S.ops rfl rfl (aZ (gW K hq) aS) (aZ (gW K (lR K.gd.last (lI K.gd.last hq))) aS) dT.nil rfl,S.vls⟩⟩,Z,s.p5_4 [1,2,4,0] rfl⟩
theorem aK3 {l:Tks} {q:Ps} (hf:zT q=false\/nN l q=none) (hk:(eC q).kd=5) (ha:q.c.ac l [95]=true):eQ l q=iU ⟨true,true,zE,zF⟩ (q.at q.c.nx):=by
 have e:(if zT q then nN l q else none)=none:=by
  rcases hf with e | e
  ·rw [e];rfl
  ·rw [e];split <;> rfl
 unfold eQ;rw [e];show yA l q=_;unfold yA;rw [aK ⟨hk,ha⟩]
set_option maxHeartbeats 4000000 in
theorem aQ4 {l:Tks} {tp:Option Addr} {tc:Nat} {op:List Ov} {x:Vb} {dn:Bool} (K:Tkf H l tp tc) (Wq:Fwf l ⟨q,op,x,false,dn⟩) (S:Sq H ⟨q,op,x,false,dn⟩ xo xv AR) (s:St H w0 (.box b [.slice tp l.length tc,iN q.i,ro,rv,.bool false,.bool dn,.bool x.2,iN q.off,iN q.er] 102::.row 97 11 (ro) (op.length) (xo)::.row 179 13 (rv) (x.1.length) (xv)::(AR++bs)) W) :
 Calls prg 56 #[.pointer (dI b)] W (Get w0 bs b l tp tc H (eQ l ⟨q,op,x,false,dn⟩)):=by
 have hq:q.i<l.length:=Wq.i;have hne:op≠[]:=Wq.ne;obtain ⟨hn1,hn2⟩:=pW Wq K.few;dsimp only at hn1 hn2;have hcap:=K.rep.cap;refine iB func56 rfl ntmps56 rfl s ?_;obtain ⟨o,r,rfl⟩:=CZ (l:=op) (by cases op with | nil=>exact absurd rfl hne | cons a t=>exact Nat.succ_pos _);dsimp only [List.length_cons] at hn1;obtain ⟨xr,s1,s2,e2,hlo,ho1,ho2⟩:=Ops.top S.ops;try dsimp only at e2
 subst e2;refine Sx.rowCase (size:=11) (r:=ro) (e:=97) cU (Nat.succ_pos _) λg c e hkc=>?_;subst e;refine .sm Z<|.xs (X:=Unit) Z (λW s=>zD K hq  (s.p3_3 [0,1,2] Z)) λ_ _=>.al yQ Z λb2=>.sW .head Z Z yT (by simp [cTk,Value.oneCell',bJ]) Z<|.nt<|.cu (X:=Bool) [(0,_),(2,_)] ⟨Z,Z,Jt⟩ (λz=>[(3,.bool z)]) (λz=>H) (λz=>(.box b2 (cTk .u8 (tkf l q.i)) 108::.box b [.slice tp l.length tc,iN q.i,(.slice (dI g) (o::r).length c),rv,.bool false,.bool dn,.bool x.2,iN q.off,iN q.er] 102::.row 97 11 ((.slice (dI g) (o::r).length c)) ((o::r).length) ((xr++oC o s1 s2))::.row 179 13 (rv) (x.1.length) (xv)::(AR++bs))) (λz=>z=zT ⟨q,o::r,x,false,dn⟩) ?_ λz hC=>?_
 ·
  refine .rg<|.mv Z<|.xs (X:=Unit) Z (λW s=>CP K hq (g:=g) (k:=r.length) (c:=c) aD (s.p4_4 [1,0,2,3] Z)) λ_ _=>.nC Z<|.fA Z uU<|.yw (.loadR1 Z kW iG (lC hlo Z))<|.yw (.not Z)<|.mv Z<|.b2 (λh14=>?_) (λh14=>?_)
  ·exact .gy (.move Z)<|.gd Z Z<|.xs (X:=Unit) Z (λW s=>CP K hq (g:=g) (k:=r.length) (c:=c) aD (s.p4_4 [0,1,2,3] Z)) λ_ _=>.gy (.nilCheck Z)<|.gy (.fieldAddr Z qE)<|.gy (.loadR1 Z bQ iG (lC hlo Z))<|.gy (.leq Z Z)<|.pT Z<|.aq Z<|.me _ ⟨Z,Jt⟩ ⟨Z,Z,Jt⟩ (λ_ s=>(s.p4_4 [1,0,2,3] Z)) (by first | (show _=(!o.tm && decide (o.lv<=5));rw [h14,aO,aQ,aB,aB];omega) | (show _=(!o.tm && decide (o.lv<=5));rw [h14,aU]))
  exact .g4<|.g2<|.pF Z<|.aq Z<|.me _ ⟨Z,Jt⟩ ⟨Z,Z,Jt⟩ (λ_ s=>(s.p4_4 [1,0,2,3] Z)) (by first | (show _=(!o.tm && decide (o.lv<=5));rw [h14,aO,aQ,aB,aB];omega) | (show _=(!o.tm && decide (o.lv<=5));rw [h14,aU]))
 have ef:=hC;refine .bk<|.sm Z<|.mv Z<|.b2 (λh26=>?_) (λh26=>?_)
 ·have hff:zT ⟨q,o::r,x,false,dn⟩=true:=by rw [<-ef];exact h26
  refine .gy (.move Z)<|.gd Z Z<|.xs (X:=Hp × Value × Value × List Value × List Value × List Res) Z (λW s=>bD1 K Wq S (St.mid (a:=[_,_,_]) (d:=[_]) (s.p4_4 [1,2,3,0] Z))) λz9 hz9=>?_
  obtain ⟨H1,ro,rv,xo,xv,AR⟩:=z9;obtain ⟨u1,S⟩:=hz9;dsimp only at u1 S|-;refine Sx.reSt (λW s=>St.mid (a:=[_,_,_]) (d:=AR) (c:=[_]) s) ?_;refine .pT Z<|.aq Z<|.cd Z (λh24=>?_) (λh24=>?_)
  ·obtain ⟨q9,hp⟩:=xN.1 h24;rw [hp] at S|-;dsimp only [Option.getD] at S|-;refine .sk<|.bN<|?_
   refine jM (.inr Z) rfl .nil rfl λW s=>?_;have e0:eQ l ⟨q,o::r,x,false,dn⟩=q9:=by unfold eQ;rw [hff,aK rfl,hp]
   rw [e0];exact ⟨(_,_,_,_,_,AR),⟨u1,⟨S.ops,S.vls⟩⟩,Z,s.p4_3 [0,1,2] rfl⟩
  have hp:nN l ⟨q,o::r,x,false,dn⟩=none:=by
   cases e:nN l ⟨q,o::r,x,false,dn⟩ with
   | none=>rfl
   | some x=>rw [e] at h24;cases h24
  rw [hp] at S|-;dsimp only [Option.getD] at S|-;have hff:zT ⟨q,o::r,x,false,dn⟩=false\/nN l ⟨q,o::r,x,false,dn⟩=none:=.inr hp;obtain ⟨xr,s1,s2,e2,hlo,ho1,ho2⟩:=Ops.top S.ops;try dsimp only at e2
  subst e2;refine Sx.rowCase (size:=11) (r:=ro) (e:=97) cU (Nat.succ_pos _) λg c e hkc=>?_;subst e;refine .cu (X:=Bool) [(0,_),(2,_)] ⟨Z,Z,Jt⟩ (λz=>[(30,.bool z)]) (λz=>H1) (λz=>(.box b2 (cTk .u8 (tkf l q.i)) 108::.box b [.slice tp l.length tc,iN ((if z then Rq.nx q else q).i),(.slice (dI g) (o::r).length c),rv,.bool false,.bool dn,.bool x.2,iN ((if z then Rq.nx q else q).off),iN ((if z then Rq.nx q else q).er)] 102::.row 97 11 ((.slice (dI g) (o::r).length c)) ((o::r).length) ((xr++oC o s1 s2))::.row 179 13 (rv) (x.1.length) (xv)::(AR++bs))) (λz=>z=(decide (o.kd=5) && Rq.ac l [95] q)) ?_ λz hC=>?_
  ·
   refine .rg<|.mv Z<|.xs (X:=Unit) Z (λW s=>CP (K.up u1.up) hq (g:=g) (k:=r.length) (c:=c) aD (s.p4_4 [0,1,2,3] Z)) λ_ _=>.nC Z<|.fA Z gZ<|.yw (.loadR1 Z nH cU (lC hlo Z))<|.yw (.eql Z Z)<|.mv Z<|.b2 (λh37=>?_) (λh37=>?_)
   ·have hk5:o.kd=5:=aR.1 (by have:=aI h37;show o.kd.toNat=5;omega);exact .gy (.move Z)<|.gd Z Z<|.xs (X:=Unit) Z (λW s=>fC (K.up u1.up) hq [95] (s.p4_4 [0,1,2,3] Z)) λ_ _=>.pT Z<|.aq Z<|.me _ ⟨Z,Jt⟩ ⟨Z,Z,Jt⟩ (λ_ s=>(s.p4_4 [3,0,1,2] Z)) (by first | rw [aG hk5,aO] | (rw [aL hk5];rfl))
   have hk5:¬ o.kd=5:=λe=>aJ h37 (by rw [e];rfl);exact .g2<|.pF Z<|.aq Z<|.me _ ⟨Z,Jt⟩ ⟨Z,Z,Jt⟩ (λ_ s=>(s.p4_4 [3,0,1,2] Z)) (by first | rw [aG hk5,aO] | (rw [aL hk5];rfl))
  have ez:=hC;refine .cd Z (λh30=>?_) (λh30=>?_)
  ·rw [h30] at ez;have ez2:=aE _ _ |>.mp ez.symm
   rw [aK h30];refine .rg<|.mv Z<|.yw (.build Z (GB _ _))<|.xs (X:=Option Addr × Nat) Z (λW s=>nD (K.up u1.up) (dN K.gd.last hq ez2.2) (by simp [Value.oneCell',bJ]) hn2 (s.p4_4 [1,3,0,2] Z)) λp9 _=>.nl<|.bN<|?_
   refine jM (.inr Z) rfl .nil rfl λW s=>?_;have e0:eQ l ⟨q,o::r,x,false,dn⟩=iU ⟨true,true,zE,zF⟩ (((⟨q,o::r,x,false,dn⟩:Ps)).at q.nx):=aK3 hff (aI ez2.1) ez2.2;rw [e0];exact ⟨(_,_,_,_,_,AR),⟨u1,⟨S.ops,.cons S.vls ⟨ExR.zero rfl (aN _),FmR.zero rfl rfl (aN _) (aN _)⟩⟩⟩,Z,s.p4_3 [0,3,1] rfl⟩
  rw [h30] at ez
  have hno:(eC (⟨q,o::r,x,false,dn⟩:Ps)).kd=5->Rq.ac l [95] q=false:=λe=>by
   have e3:(false:Bool)=(decide (o.kd=5) && Rq.ac l [95] q):=ez;rw [aG (show o.kd=5 from e),aO] at e3;exact e3.symm
  rw [aA (by rw [h30];decide)];refine .sm Z<|.xs (X:=Unit) Z (λW s=>fC (K.up u1.up) hq [45] (s.p4_4 [1,0,2,3] Z)) λ_ _=>.aq Z<|.cd Z (λh44=>?_) (λh44=>?_)
  ·have a44:Rq.ac l [45] q=true:=h44;rw [lV a44];refine .rg<|.mv Z<|.yw (.build Z (IU _ _))<|.xs (X:=Option Addr × Nat) Z (λW s=>nO (K.up u1.up) (dN K.gd.last hq a44) (by simp [Value.oneCell',bJ]) (aZ hn1 aS) (λ_=>S.ops.tm hne) (s.p4_4 [0,2,1,3] Z)) λp9 _=>.nl<|.bN<|?_
   refine jM (.inr Z) rfl .nil rfl λW s=>?_;have e0:eQ l ⟨q,o::r,x,false,dn⟩=gD ⟨10,9,false,0,zF⟩ (((⟨q,o::r,x,false,dn⟩:Ps)).at q.nx):=(kY hff hno).trans (UM a44);rw [e0];exact ⟨(_,_,_,_,_,AR),⟨u1,⟨.cons S.ops (by show ¬ (10:UInt8)=5;decide) (FmR.zero rfl rfl (aN _) (aN _)),S.vls⟩⟩,Z,s.p4_3 [0,1,3] rfl⟩
  have a44:Rq.ac l [45] q=false:=h44;rw [mC a44];refine .sm Z<|.xs (X:=Unit) Z (λW s=>fC (K.up u1.up) hq [40] (s.p4_4 [0,1,2,3] Z)) λ_ _=>.aq Z<|.cd Z (λh50=>?_) (λh50=>?_)
  ·have a50:Rq.ac l [40] q=true:=h50;rw [lV a50];refine .rg<|.mv Z<|.yw (.build Z (HC _))<|.xs (X:=Option Addr × Nat) Z (λW s=>nO (K.up u1.up) (dN K.gd.last hq a50) (by simp [Value.oneCell',bJ]) (aZ hn1 aS) (t':=false) (λh=>absurd h (Nat.lt_irrefl 0)) (s.p4_4 [0,2,1,3] Z)) λp9 _=>.nl<|.bN<|?_
   refine jM (.inr Z) rfl .nil rfl λW s=>?_;have e0:eQ l ⟨q,o::r,x,false,dn⟩=gD ⟨2,0,false,0,zF⟩ (((⟨q,o::r,x,false,dn⟩:Ps)).at q.nx):=(kY hff hno).trans (UI a50);rw [e0];exact ⟨(_,_,_,_,_,AR),⟨u1,⟨.cons S.ops (by show ¬ (2:UInt8)=5;decide) (FmR.zero rfl rfl (aN _) (aN _)),S.vls⟩⟩,Z,s.p4_3 [0,1,3] rfl⟩
  have a50:Rq.ac l [40] q=false:=h50;rw [mC a50];refine .sr<|.fA Z jT<|.lD Z pP cU Z<|.yw (.eql Z Z)<|.aq Z<|.cd Z (λh56=>?_) (λh56=>?_)
  ·have hk3:(tkf l q.i).k=3:=aR.1 (by have:=aI h56;show (tkf l q.i).k.toNat=3;omega);refine .rg<|.mv Z<|.mv Z<|.xs (X:=Unit) Z (λW s=>yF (K.up u1.up) hq  (s.p4_4 [0,1,2,3] Z)) λ_ _=>.yw (.build Z (CD _ _))<|.yw (.build Z (jV _ _ _ _ _))<|.xs (X:=Option Addr × Nat) Z (λW s=>nD (K.up u1.up) (zC K.gd.last hq) (by simp [Value.oneCell',bJ]) hn2 (s.p4_4 [0,3,1,2] Z)) λp9 _=>.nl<|.bN<|?_
   refine jM (.inr Z) rfl .nil rfl λW s=>?_;have e0:eQ l ⟨q,o::r,x,false,dn⟩=iU (tmv (.mk 1 [] (q.nbV l) [])) (((⟨q,o::r,x,false,dn⟩:Ps)).at (q.nbS l)):=(kY hff hno).trans (UJ hk3);rw [e0];exact ⟨(_,_,_,_,_,AR),⟨u1,⟨S.ops,.cons S.vls ⟨ExR.zero rfl (aN _),FmR.zero rfl rfl (aN _) (aN _)⟩⟩⟩,Z,s.p4_3 [0,3,1] rfl⟩
  have hk3:¬ (tkf l q.i).k=3:=λe=>aJ h56 (by rw [e];rfl);refine .sr<|.fA Z jT<|.lD Z pP cU Z<|.yw (.eql Z Z)<|.aq Z<|.cd Z (λh66=>?_) (λh66=>?_)
  ·have hk1:(tkf l q.i).k=1:=aR.1 (by have:=aI h66;show (tkf l q.i).k.toNat=1;omega);refine .rg<|.mv Z<|.xs (X:=Hp × Value × Value × List Value × List Value × List Res) Z (λW s=>NH (K.up u1.up) Wq S (St.mid (a:=[_,_,_]) (d:=[_]) (s.p4_4 [0,2,3,1] Z))) λz9 hz9=>?_
   obtain ⟨H2,ro,rv,xo,xv,AR⟩:=z9;obtain ⟨u2,S⟩:=hz9;dsimp only at u2 S|-;refine Sx.reSt (λW s=>St.mid (a:=[_,_,_]) (d:=AR) (c:=[_]) s) ?_;refine .nl<|.bN<|?_
   refine jM (.inr Z) rfl .nil rfl λW s=>?_;have e0:eQ l ⟨q,o::r,x,false,dn⟩=xD l ⟨q,o::r,x,false,dn⟩:=(kY hff hno).trans (HT hk1);rw [e0];exact ⟨(_,_,_,_,_,AR),⟨(u1.trans u2),⟨S.ops,S.vls⟩⟩,Z,s.p4_3 [0,1,2] rfl⟩
  have hk1:¬ (tkf l q.i).k=1:=λe=>aJ h66 (by rw [e];rfl);refine .sm Z<|.xs (X:=Unit) Z (λW s=>fC (K.up u1.up) hq [110,111,119] (s.p4_4 [0,1,2,3] Z)) λ_ _=>.aq Z<|.cd Z (λh72=>?_) (λh72=>?_)
  ·have a72:Rq.ac l [110,111,119] q=true:=h72;rw [lV a72];refine .rg<|.mv Z<|.yw (.build Z (PZ _))<|.yw (.build Z (jV _ _ _ _ _))<|.xs (X:=Option Addr × Nat) Z (λW s=>nD (K.up u1.up) (dN K.gd.last hq a72) (by simp [Value.oneCell',bJ]) hn2 (s.p4_4 [0,3,1,2] Z)) λp9 _=>.nl<|.bN<|?_
   refine jM (.inr Z) rfl .nil rfl λW s=>?_;have e0:eQ l ⟨q,o::r,x,false,dn⟩=iU (tmv (.mk 4 [] 0 [])) (((⟨q,o::r,x,false,dn⟩:Ps)).at q.nx):=(kY hff hno).trans (UK a72);rw [e0];exact ⟨(_,_,_,_,_,AR),⟨u1,⟨S.ops,.cons S.vls ⟨ExR.zero rfl (aN _),FmR.zero rfl rfl (aN _) (aN _)⟩⟩⟩,Z,s.p4_3 [0,3,1] rfl⟩
  have a72:Rq.ac l [110,111,119] q=false:=h72;rw [mC a72];refine .sm Z<|.xs (X:=Unit) Z (λW s=>fC (K.up u1.up) hq [115,105,122,101] (s.p4_4 [0,1,2,3] Z)) λ_ _=>.aq Z<|.cd Z (λh79=>?_) (λh79=>?_)
  ·have a79:Rq.ac l [115,105,122,101] q=true:=h79;rw [lV a79];refine .sm Z<|.xs (X:=Unit) Z (λW s=>NZ (K.up u1.up) (dN K.gd.last hq a79) 0 (s.p4_4 [0,1,2,3] Z)) λ_ _=>.al fB Z λb4=>.sX .head Z Z dK Z<|.nt<|.rg<|.mv Z<|.fA Z gP<|.lD Z bT Hm Z<|.yw (.app Z Z (by have h1:=gW K (dN K.gd.last hq a79);have h2:=gW K (lR K.gd.last (lI K.gd.last (dN K.gd.last hq a79)) (w:=[46]));show (Rq.nmV l q.nx).length+1<=_;omega))<|.fA Z gO<|.lD Z bT Hm Z<|.yw (.app Z Z (by have h1:=gW K (dN K.gd.last hq a79);have h2:=gW K (lR K.gd.last (lI K.gd.last (dN K.gd.last hq a79)) (w:=[46]));simp only [aC,aF,aH];unfold Rq.paN Rq.paF;omega))<|.yw (.build Z (xK _ _))<|.yw (.build Z (jV _ _ _ _ _))<|.xs (X:=Option Addr × Nat) Z (λW s=>nD (K.up u1.up) (AA K.gd.last (dN K.gd.last hq a79)) (by simp [Value.oneCell',bJ]) hn2 (s.p5_5 [1,4,0,2,3] Z)) λp9 _=>.nl<|.bN<|?_
   refine jM (.inr Z) rfl .nil rfl λW s=>?_;have e0:eQ l ⟨q,o::r,x,false,dn⟩=iU (tmv (.mk 8 (q.nx.paN l++[46]++q.nx.paF l) 0 [])) (((⟨q,o::r,x,false,dn⟩:Ps)).at (q.nx.paS l)):=(kY hff hno).trans (UH a79);rw [e0];exact ⟨(_,_,_,_,_,AR),⟨u1,⟨S.ops,.cons S.vls ⟨ExR.zero rfl (by have h1:=gW K (dN K.gd.last hq a79);have h2:=gW K (lR K.gd.last (lI K.gd.last (dN K.gd.last hq a79)) (w:=[46]));show (Rq.paN l q.nx++[46]++Rq.paF l q.nx).length<=1000000;unfold Rq.paN Rq.paF;simp only [aC,aF,aH];omega),FmR.zero rfl rfl (aN _) (aN _)⟩⟩⟩,Z,s.p5_3 [0,4,1] rfl⟩
  have a79:Rq.ac l [115,105,122,101] q=false:=h79;rw [mC a79];refine .sm Z<|.xs (X:=Unit) Z (λW s=>fC (K.up u1.up) hq [116,114,117,101] (s.p4_4 [0,1,2,3] Z)) λ_ _=>.aq Z<|.cd Z (λh94=>?_) (λh94=>?_)
  ·have a94:Rq.ac l [116,114,117,101] q=true:=h94;rw [lV a94];refine .rg<|.mv Z<|.yw (.build Z (qG _))<|.yw (.build Z (jA _ _ _ _ _ _ _))<|.xs (X:=Option Addr × Nat) Z (λW s=>nD (K.up u1.up) (dN K.gd.last hq a94) (by simp [Value.oneCell',bJ]) hn2 (s.p4_4 [0,3,1,2] Z)) λp9 _=>.nl<|.bN<|?_
   refine jM (.inr Z) rfl .nil rfl λW s=>?_;have e0:eQ l ⟨q,o::r,x,false,dn⟩=iU (fmv (.mk 1 [] [] 0 0 [] [])) (((⟨q,o::r,x,false,dn⟩:Ps)).at q.nx):=(kY hff hno).trans (UG a94);rw [e0];exact ⟨(_,_,_,_,_,AR),⟨u1,⟨S.ops,.cons S.vls ⟨ExR.zero rfl (aN _),FmR.zero rfl rfl (aN _) (aN _)⟩⟩⟩,Z,s.p4_3 [0,3,1] rfl⟩
  have a94:Rq.ac l [116,114,117,101] q=false:=h94;rw [mC a94];refine .sm Z<|.xs (X:=Unit) Z (λW s=>fC (K.up u1.up) hq [102,97,108,115,101] (s.p4_4 [0,1,2,3] Z)) λ_ _=>.aq Z<|.cd Z (λh101=>?_) (λh101=>?_)
  ·have a101:Rq.ac l [102,97,108,115,101] q=true:=h101;rw [lV a101];refine .rg<|.mv Z<|.yw (.build Z (qG _))<|.yw (.build Z (jA _ _ _ _ _ _ _))<|.xs (X:=Option Addr × Nat) Z (λW s=>nD (K.up u1.up) (dN K.gd.last hq a101) (by simp [Value.oneCell',bJ]) hn2 (s.p4_4 [0,3,1,2] Z)) λp9 _=>.nl<|.bN<|?_
   refine jM (.inr Z) rfl .nil rfl λW s=>?_;have e0:eQ l ⟨q,o::r,x,false,dn⟩=iU (fmv (.mk 2 [] [] 0 0 [] [])) (((⟨q,o::r,x,false,dn⟩:Ps)).at q.nx):=(kY hff hno).trans (UP a101);rw [e0];exact ⟨(_,_,_,_,_,AR),⟨u1,⟨S.ops,.cons S.vls ⟨ExR.zero rfl (aN _),FmR.zero rfl rfl (aN _) (aN _)⟩⟩⟩,Z,s.p4_3 [0,3,1] rfl⟩
  have a101:Rq.ac l [102,97,108,115,101] q=false:=h101;rw [mC a101];refine .sm Z<|.xs (X:=Unit) Z (λW s=>fC (K.up u1.up) hq [102,108,97,103] (s.p4_4 [0,1,2,3] Z)) λ_ _=>.aq Z<|.cd Z (λh108=>?_) (λh108=>?_)
  ·have a108:Rq.ac l [102,108,97,103] q=true:=h108;rw [lV a108];refine .rg<|.mv Z<|.mv Z<|.xs (X:=Unit) Z (λW s=>GK (K.up u1.up) (dN K.gd.last hq a108)  (s.p4_4 [0,1,2,3] Z)) λ_ _=>.yw (.build Z (xL _ _))<|.yw (.build Z (jA _ _ _ _ _ _ _))<|.xs (X:=Option Addr × Nat) Z (λW s=>nD (K.up u1.up) (lI K.gd.last (dN K.gd.last hq a108)) (by simp [Value.oneCell',bJ]) hn2 (s.p4_4 [0,3,1,2] Z)) λp9 _=>.nl<|.bN<|?_
   refine jM (.inr Z) rfl .nil rfl λW s=>?_;have e0:eQ l ⟨q,o::r,x,false,dn⟩=iU (fmv (.mk 6 (q.nx.nmV l) [] 0 0 [] [])) (((⟨q,o::r,x,false,dn⟩:Ps)).at (q.nx.nmS l)):=(kY hff hno).trans (UO a108);rw [e0];exact ⟨(_,_,_,_,_,AR),⟨u1,⟨S.ops,.cons S.vls ⟨ExR.zero rfl (aN _),FmR.zero rfl rfl (aZ (gW K (dN K.gd.last hq a108)) aS) (aN _)⟩⟩⟩,Z,s.p4_3 [0,3,1] rfl⟩
  have a108:Rq.ac l [102,108,97,103] q=false:=h108;rw [mC a108];refine .sm Z<|.xs (X:=Unit) Z (λW s=>fC (K.up u1.up) hq [104,97,115] (s.p4_4 [0,1,2,3] Z)) λ_ _=>.aq Z<|.cd Z (λh117=>?_) (λh117=>?_)
  ·have a117:Rq.ac l [104,97,115] q=true:=h117;rw [lV a117];refine .sm Z<|.xs (X:=Unit) Z (λW s=>NZ (K.up u1.up) (dN K.gd.last hq a117) 5 (s.p4_4 [0,1,2,3] Z)) λ_ _=>.al fB Z λb5=>.sX .head Z Z dK Z<|.ns<|.mv Z<|.xs (X:=Unit) Z (λW s=>sS (K.up u1.up) (AA K.gd.last (dN K.gd.last hq a117)) [91] (s.p5_5 [1,0,2,3,4] Z)) λ_ _=>.nt<|.rg<|.mv Z<|.yw (.loadW Z cQ cU Z)<|.yw (.build Z (yU _ _ _ _ _ _ _ _ _))<|.xs (X:=Option Addr × Nat) Z (λW s=>nO (K.up u1.up) (lR K.gd.last (AA K.gd.last (dN K.gd.last hq a117))) (by simp [Value.oneCell',bJ]) (aZ hn1 aS) (t':=false) (λh=>absurd h (Nat.lt_irrefl 0)) (s.p5_5 [0,3,1,2,4] Z)) λp9 _=>.nl<|.bN<|?_
   refine jM (.inr Z) rfl .nil rfl λW s=>?_;have e0:eQ l ⟨q,o::r,x,false,dn⟩=gD ⟨4,0,true,0,q.nx.paV l 5⟩ (((⟨q,o::r,x,false,dn⟩:Ps)).at ((q.nx.paS l).exS l [91])):=(kY hff hno).trans (UN a117);rw [e0];exact ⟨(_,_,_,_,_,AR),⟨u1,⟨.cons S.ops (by show ¬ (4:UInt8)=5;decide) (FmR.zero rfl rfl (aZ (gW K (dN K.gd.last hq a117)) aS) (aZ (gW K (lR K.gd.last (lI K.gd.last (dN K.gd.last hq a117)))) aS)),S.vls⟩⟩,Z,s.p5_3 [0,1,4] rfl⟩
  have a117:Rq.ac l [104,97,115] q=false:=h117;rw [mC a117];refine .sm Z<|.xs (X:=Unit) Z (λW s=>fC (K.up u1.up) hq [97,114,114,105,118,101,115] (s.p4_4 [0,1,2,3] Z)) λ_ _=>.aq Z<|.cd Z (λh128=>?_) (λh128=>?_)
  ·have a128:Rq.ac l [97,114,114,105,118,101,115] q=true:=h128;rw [lV a128];refine .rg<|.mv Z<|.xs (X:=Hp × Value × Value × List Value × List Value × List Res) Z (λW s=>TG (K.up u1.up) (NF (q:=⟨q,o::r,x,false,dn⟩) (c:=q.nx) Wq (dN K.gd.last hq a128) (Nat.le_succ _)) S.at (St.mid (a:=[_,_,_]) (d:=[_]) (s.p4_4 [0,2,3,1] Z))) λz9 hz9=>?_
   obtain ⟨H2,ro,rv,xo,xv,AR⟩:=z9;obtain ⟨u2,S⟩:=hz9;dsimp only at u2 S|-;refine Sx.reSt (λW s=>St.mid (a:=[_,_,_]) (d:=AR) (c:=[_]) s) ?_;refine .nl<|.bN<|?_
   refine jM (.inr Z) rfl .nil rfl λW s=>?_;have e0:eQ l ⟨q,o::r,x,false,dn⟩=AP l (((⟨q,o::r,x,false,dn⟩:Ps)).at q.nx):=(kY hff hno).trans (MG a128);rw [e0];exact ⟨(_,_,_,_,_,AR),⟨(u1.trans u2),⟨S.ops,S.vls⟩⟩,Z,s.p4_3 [0,1,2] rfl⟩
  have a128:Rq.ac l [97,114,114,105,118,101,115] q=false:=h128;rw [mC a128];refine .rg<|.mv Z<|.xs (X:=Unit) Z (λW s=>rU (K.up u1.up) hq 8 (s.p4_4 [0,1,2,3] Z)) λ_ _=>.nl<|.bN<|?_
  refine jM (.inr Z) rfl .nil rfl λW s=>?_
  have e0:eQ l ⟨q,o::r,x,false,dn⟩=(((⟨q,o::r,x,false,dn⟩:Ps)).at (q.fail l 8)):=(kY hff hno).trans (UL a44 hk3 hk1 (λw hw=>by
   simp only [bD0,bM,List.not_mem_nil,or_false] at hw;rcases hw with rfl | rfl | rfl | rfl | rfl | rfl | rfl | rfl
   ·exact a72
   ·exact a94
   ·exact a101
   ·exact a108
   ·exact a117
   ·exact a128
   ·exact a79
   ·exact a50))
  rw [e0];exact ⟨(_,_,_,_,_,AR),⟨u1,⟨S.ops,S.vls⟩⟩,Z,s.p4_3 [0,2,3] rfl⟩
 have hff:zT ⟨q,o::r,x,false,dn⟩=false\/nN l ⟨q,o::r,x,false,dn⟩=none:=.inl (by rw [<-ef];exact h26);refine .g2<|.pF Z<|.aq Z<|.cF Z<|.cu (X:=Bool) [(0,_),(2,_)] ⟨Z,Z,Jt⟩ (λz=>[(30,.bool z)]) (λz=>H) (λz=>(.box b2 (cTk .u8 (tkf l q.i)) 108::.box b [.slice tp l.length tc,iN ((if z then Rq.nx q else q).i),(.slice (dI g) (o::r).length c),rv,.bool false,.bool dn,.bool x.2,iN ((if z then Rq.nx q else q).off),iN ((if z then Rq.nx q else q).er)] 102::.row 97 11 ((.slice (dI g) (o::r).length c)) ((o::r).length) ((xr++oC o s1 s2))::.row 179 13 (rv) (x.1.length) (xv)::(AR++bs))) (λz=>z=(decide (o.kd=5) && Rq.ac l [95] q)) ?_ λz hC=>?_
 ·
  refine .rg<|.mv Z<|.xs (X:=Unit) Z (λW s=>CP K hq (g:=g) (k:=r.length) (c:=c) aD (s.p4_4 [1,0,2,3] Z)) λ_ _=>.nC Z<|.fA Z gZ<|.yw (.loadR1 Z nH iG (lC hlo Z))<|.yw (.eql Z Z)<|.mv Z<|.b2 (λh37=>?_) (λh37=>?_)
  ·have hk5:o.kd=5:=aR.1 (by have:=aI h37;show o.kd.toNat=5;omega);exact .gy (.move Z)<|.gd Z Z<|.xs (X:=Unit) Z (λW s=>fC K hq [95] (s.p4_4 [0,1,2,3] Z)) λ_ _=>.pT Z<|.aq Z<|.me _ ⟨Z,Jt⟩ ⟨Z,Z,Jt⟩ (λ_ s=>(s.p4_4 [1,0,2,3] Z)) (by first | rw [aG hk5,aO] | (rw [aL hk5];rfl))
  have hk5:¬ o.kd=5:=λe=>aJ h37 (by rw [e];rfl);exact .g2<|.pF Z<|.aq Z<|.me _ ⟨Z,Jt⟩ ⟨Z,Z,Jt⟩ (λ_ s=>(s.p4_4 [1,0,2,3] Z)) (by first | rw [aG hk5,aO] | (rw [aL hk5];rfl))
 have ez:=hC;refine .cd Z (λh30=>?_) (λh30=>?_)
 ·rw [h30] at ez;have ez2:=aE _ _ |>.mp ez.symm
  rw [aK h30];refine .rg<|.mv Z<|.yw (.build Z (GB _ _))<|.xs (X:=Option Addr × Nat) Z (λW s=>nD K (dN K.gd.last hq ez2.2) (by simp [Value.oneCell',bJ]) hn2 (s.p4_4 [1,3,0,2] Z)) λp9 _=>.nl<|.bN<|?_
  refine jM (.inr Z) rfl .nil rfl λW s=>?_;have e0:eQ l ⟨q,o::r,x,false,dn⟩=iU ⟨true,true,zE,zF⟩ (((⟨q,o::r,x,false,dn⟩:Ps)).at q.nx):=aK3 hff (aI ez2.1) ez2.2;rw [e0];exact ⟨(_,_,_,_,_,AR),⟨.refl,⟨S.ops,.cons S.vls ⟨ExR.zero rfl (aN _),FmR.zero rfl rfl (aN _) (aN _)⟩⟩⟩,Z,s.p4_3 [0,3,1] rfl⟩
 rw [h30] at ez
 have hno:(eC (⟨q,o::r,x,false,dn⟩:Ps)).kd=5->Rq.ac l [95] q=false:=λe=>by
  have e3:(false:Bool)=(decide (o.kd=5) && Rq.ac l [95] q):=ez;rw [aG (show o.kd=5 from e),aO] at e3;exact e3.symm
 rw [aA (by rw [h30];decide)];refine .sm Z<|.xs (X:=Unit) Z (λW s=>fC K hq [45] (s.p4_4 [1,0,2,3] Z)) λ_ _=>.aq Z<|.cd Z (λh44=>?_) (λh44=>?_)
 ·have a44:Rq.ac l [45] q=true:=h44;rw [lV a44];refine .rg<|.mv Z<|.yw (.build Z (IU _ _))<|.xs (X:=Option Addr × Nat) Z (λW s=>nO K (dN K.gd.last hq a44) (by simp [Value.oneCell',bJ]) (aZ hn1 aS) (λ_=>S.ops.tm hne) (s.p4_4 [0,2,1,3] Z)) λp9 _=>.nl<|.bN<|?_
  refine jM (.inr Z) rfl .nil rfl λW s=>?_;have e0:eQ l ⟨q,o::r,x,false,dn⟩=gD ⟨10,9,false,0,zF⟩ (((⟨q,o::r,x,false,dn⟩:Ps)).at q.nx):=(kY hff hno).trans (UM a44);rw [e0];exact ⟨(_,_,_,_,_,AR),⟨.refl,⟨.cons S.ops (by show ¬ (10:UInt8)=5;decide) (FmR.zero rfl rfl (aN _) (aN _)),S.vls⟩⟩,Z,s.p4_3 [0,1,3] rfl⟩
 have a44:Rq.ac l [45] q=false:=h44;rw [mC a44];refine .sm Z<|.xs (X:=Unit) Z (λW s=>fC K hq [40] (s.p4_4 [0,1,2,3] Z)) λ_ _=>.aq Z<|.cd Z (λh50=>?_) (λh50=>?_)
 ·have a50:Rq.ac l [40] q=true:=h50;rw [lV a50];refine .rg<|.mv Z<|.yw (.build Z (HC _))<|.xs (X:=Option Addr × Nat) Z (λW s=>nO K (dN K.gd.last hq a50) (by simp [Value.oneCell',bJ]) (aZ hn1 aS) (t':=false) (λh=>absurd h (Nat.lt_irrefl 0)) (s.p4_4 [0,2,1,3] Z)) λp9 _=>.nl<|.bN<|?_
  refine jM (.inr Z) rfl .nil rfl λW s=>?_;have e0:eQ l ⟨q,o::r,x,false,dn⟩=gD ⟨2,0,false,0,zF⟩ (((⟨q,o::r,x,false,dn⟩:Ps)).at q.nx):=(kY hff hno).trans (UI a50);rw [e0];exact ⟨(_,_,_,_,_,AR),⟨.refl,⟨.cons S.ops (by show ¬ (2:UInt8)=5;decide) (FmR.zero rfl rfl (aN _) (aN _)),S.vls⟩⟩,Z,s.p4_3 [0,1,3] rfl⟩
 have a50:Rq.ac l [40] q=false:=h50;rw [mC a50];refine .sr<|.fA Z jT<|.lD Z pP cU Z<|.yw (.eql Z Z)<|.aq Z<|.cd Z (λh56=>?_) (λh56=>?_)
 ·have hk3:(tkf l q.i).k=3:=aR.1 (by have:=aI h56;show (tkf l q.i).k.toNat=3;omega);refine .rg<|.mv Z<|.mv Z<|.xs (X:=Unit) Z (λW s=>yF K hq  (s.p4_4 [0,1,2,3] Z)) λ_ _=>.yw (.build Z (CD _ _))<|.yw (.build Z (jV _ _ _ _ _))<|.xs (X:=Option Addr × Nat) Z (λW s=>nD K (zC K.gd.last hq) (by simp [Value.oneCell',bJ]) hn2 (s.p4_4 [0,3,1,2] Z)) λp9 _=>.nl<|.bN<|?_
  refine jM (.inr Z) rfl .nil rfl λW s=>?_;have e0:eQ l ⟨q,o::r,x,false,dn⟩=iU (tmv (.mk 1 [] (q.nbV l) [])) (((⟨q,o::r,x,false,dn⟩:Ps)).at (q.nbS l)):=(kY hff hno).trans (UJ hk3);rw [e0];exact ⟨(_,_,_,_,_,AR),⟨.refl,⟨S.ops,.cons S.vls ⟨ExR.zero rfl (aN _),FmR.zero rfl rfl (aN _) (aN _)⟩⟩⟩,Z,s.p4_3 [0,3,1] rfl⟩
 have hk3:¬ (tkf l q.i).k=3:=λe=>aJ h56 (by rw [e];rfl);refine .sr<|.fA Z jT<|.lD Z pP cU Z<|.yw (.eql Z Z)<|.aq Z<|.cd Z (λh66=>?_) (λh66=>?_)
 ·have hk1:(tkf l q.i).k=1:=aR.1 (by have:=aI h66;show (tkf l q.i).k.toNat=1;omega);refine .rg<|.mv Z<|.xs (X:=Hp × Value × Value × List Value × List Value × List Res) Z (λW s=>NH K Wq S (St.mid (a:=[_,_,_]) (d:=[_]) (s.p4_4 [0,2,3,1] Z))) λz9 hz9=>?_
  obtain ⟨H1,ro,rv,xo,xv,AR⟩:=z9;obtain ⟨u1,S⟩:=hz9;dsimp only at u1 S|-;refine Sx.reSt (λW s=>St.mid (a:=[_,_,_]) (d:=AR) (c:=[_]) s) ?_;refine .nl<|.bN<|?_
  refine jM (.inr Z) rfl .nil rfl λW s=>?_;have e0:eQ l ⟨q,o::r,x,false,dn⟩=xD l ⟨q,o::r,x,false,dn⟩:=(kY hff hno).trans (HT hk1);rw [e0];exact ⟨(_,_,_,_,_,AR),⟨u1,⟨S.ops,S.vls⟩⟩,Z,s.p4_3 [0,1,2] rfl⟩
 have hk1:¬ (tkf l q.i).k=1:=λe=>aJ h66 (by rw [e];rfl);refine .sm Z<|.xs (X:=Unit) Z (λW s=>fC K hq [110,111,119] (s.p4_4 [0,1,2,3] Z)) λ_ _=>.aq Z<|.cd Z (λh72=>?_) (λh72=>?_)
 ·have a72:Rq.ac l [110,111,119] q=true:=h72;rw [lV a72];refine .rg<|.mv Z<|.yw (.build Z (PZ _))<|.yw (.build Z (jV _ _ _ _ _))<|.xs (X:=Option Addr × Nat) Z (λW s=>nD K (dN K.gd.last hq a72) (by simp [Value.oneCell',bJ]) hn2 (s.p4_4 [0,3,1,2] Z)) λp9 _=>.nl<|.bN<|?_
  refine jM (.inr Z) rfl .nil rfl λW s=>?_;have e0:eQ l ⟨q,o::r,x,false,dn⟩=iU (tmv (.mk 4 [] 0 [])) (((⟨q,o::r,x,false,dn⟩:Ps)).at q.nx):=(kY hff hno).trans (UK a72);rw [e0];exact ⟨(_,_,_,_,_,AR),⟨.refl,⟨S.ops,.cons S.vls ⟨ExR.zero rfl (aN _),FmR.zero rfl rfl (aN _) (aN _)⟩⟩⟩,Z,s.p4_3 [0,3,1] rfl⟩
 have a72:Rq.ac l [110,111,119] q=false:=h72;rw [mC a72];refine .sm Z<|.xs (X:=Unit) Z (λW s=>fC K hq [115,105,122,101] (s.p4_4 [0,1,2,3] Z)) λ_ _=>.aq Z<|.cd Z (λh79=>?_) (λh79=>?_)
 ·have a79:Rq.ac l [115,105,122,101] q=true:=h79;rw [lV a79];refine .sm Z<|.xs (X:=Unit) Z (λW s=>NZ K (dN K.gd.last hq a79) 0 (s.p4_4 [0,1,2,3] Z)) λ_ _=>.al fB Z λb4=>.sX .head Z Z dK Z<|.nt<|.rg<|.mv Z<|.fA Z gP<|.lD Z bT Hm Z<|.yw (.app Z Z (by have h1:=gW K (dN K.gd.last hq a79);have h2:=gW K (lR K.gd.last (lI K.gd.last (dN K.gd.last hq a79)) (w:=[46]));show (Rq.nmV l q.nx).length+1<=_;omega))<|.fA Z gO<|.lD Z bT Hm Z<|.yw (.app Z Z (by have h1:=gW K (dN K.gd.last hq a79);have h2:=gW K (lR K.gd.last (lI K.gd.last (dN K.gd.last hq a79)) (w:=[46]));simp only [aC,aF,aH];unfold Rq.paN Rq.paF;omega))<|.yw (.build Z (xK _ _))<|.yw (.build Z (jV _ _ _ _ _))<|.xs (X:=Option Addr × Nat) Z (λW s=>nD K (AA K.gd.last (dN K.gd.last hq a79)) (by simp [Value.oneCell',bJ]) hn2 (s.p5_5 [1,4,0,2,3] Z)) λp9 _=>.nl<|.bN<|?_
  refine jM (.inr Z) rfl .nil rfl λW s=>?_;have e0:eQ l ⟨q,o::r,x,false,dn⟩=iU (tmv (.mk 8 (q.nx.paN l++[46]++q.nx.paF l) 0 [])) (((⟨q,o::r,x,false,dn⟩:Ps)).at (q.nx.paS l)):=(kY hff hno).trans (UH a79);rw [e0];exact ⟨(_,_,_,_,_,AR),⟨.refl,⟨S.ops,.cons S.vls ⟨ExR.zero rfl (by have h1:=gW K (dN K.gd.last hq a79);have h2:=gW K (lR K.gd.last (lI K.gd.last (dN K.gd.last hq a79)) (w:=[46]));show (Rq.paN l q.nx++[46]++Rq.paF l q.nx).length<=1000000;unfold Rq.paN Rq.paF;simp only [aC,aF,aH];omega),FmR.zero rfl rfl (aN _) (aN _)⟩⟩⟩,Z,s.p5_3 [0,4,1] rfl⟩
 have a79:Rq.ac l [115,105,122,101] q=false:=h79;rw [mC a79];refine .sm Z<|.xs (X:=Unit) Z (λW s=>fC K hq [116,114,117,101] (s.p4_4 [0,1,2,3] Z)) λ_ _=>.aq Z<|.cd Z (λh94=>?_) (λh94=>?_)
 ·have a94:Rq.ac l [116,114,117,101] q=true:=h94;rw [lV a94];refine .rg<|.mv Z<|.yw (.build Z (qG _))<|.yw (.build Z (jA _ _ _ _ _ _ _))<|.xs (X:=Option Addr × Nat) Z (λW s=>nD K (dN K.gd.last hq a94) (by simp [Value.oneCell',bJ]) hn2 (s.p4_4 [0,3,1,2] Z)) λp9 _=>.nl<|.bN<|?_
  refine jM (.inr Z) rfl .nil rfl λW s=>?_;have e0:eQ l ⟨q,o::r,x,false,dn⟩=iU (fmv (.mk 1 [] [] 0 0 [] [])) (((⟨q,o::r,x,false,dn⟩:Ps)).at q.nx):=(kY hff hno).trans (UG a94);rw [e0];exact ⟨(_,_,_,_,_,AR),⟨.refl,⟨S.ops,.cons S.vls ⟨ExR.zero rfl (aN _),FmR.zero rfl rfl (aN _) (aN _)⟩⟩⟩,Z,s.p4_3 [0,3,1] rfl⟩
 have a94:Rq.ac l [116,114,117,101] q=false:=h94;rw [mC a94];refine .sm Z<|.xs (X:=Unit) Z (λW s=>fC K hq [102,97,108,115,101] (s.p4_4 [0,1,2,3] Z)) λ_ _=>.aq Z<|.cd Z (λh101=>?_) (λh101=>?_)
 ·have a101:Rq.ac l [102,97,108,115,101] q=true:=h101;rw [lV a101];refine .rg<|.mv Z<|.yw (.build Z (qG _))<|.yw (.build Z (jA _ _ _ _ _ _ _))<|.xs (X:=Option Addr × Nat) Z (λW s=>nD K (dN K.gd.last hq a101) (by simp [Value.oneCell',bJ]) hn2 (s.p4_4 [0,3,1,2] Z)) λp9 _=>.nl<|.bN<|?_
  refine jM (.inr Z) rfl .nil rfl λW s=>?_;have e0:eQ l ⟨q,o::r,x,false,dn⟩=iU (fmv (.mk 2 [] [] 0 0 [] [])) (((⟨q,o::r,x,false,dn⟩:Ps)).at q.nx):=(kY hff hno).trans (UP a101);rw [e0];exact ⟨(_,_,_,_,_,AR),⟨.refl,⟨S.ops,.cons S.vls ⟨ExR.zero rfl (aN _),FmR.zero rfl rfl (aN _) (aN _)⟩⟩⟩,Z,s.p4_3 [0,3,1] rfl⟩
 have a101:Rq.ac l [102,97,108,115,101] q=false:=h101;rw [mC a101];refine .sm Z<|.xs (X:=Unit) Z (λW s=>fC K hq [102,108,97,103] (s.p4_4 [0,1,2,3] Z)) λ_ _=>.aq Z<|.cd Z (λh108=>?_) (λh108=>?_)
 ·have a108:Rq.ac l [102,108,97,103] q=true:=h108;rw [lV a108];refine .rg<|.mv Z<|.mv Z<|.xs (X:=Unit) Z (λW s=>GK K (dN K.gd.last hq a108)  (s.p4_4 [0,1,2,3] Z)) λ_ _=>.yw (.build Z (xL _ _))<|.yw (.build Z (jA _ _ _ _ _ _ _))<|.xs (X:=Option Addr × Nat) Z (λW s=>nD K (lI K.gd.last (dN K.gd.last hq a108)) (by simp [Value.oneCell',bJ]) hn2 (s.p4_4 [0,3,1,2] Z)) λp9 _=>.nl<|.bN<|?_
  refine jM (.inr Z) rfl .nil rfl λW s=>?_;have e0:eQ l ⟨q,o::r,x,false,dn⟩=iU (fmv (.mk 6 (q.nx.nmV l) [] 0 0 [] [])) (((⟨q,o::r,x,false,dn⟩:Ps)).at (q.nx.nmS l)):=(kY hff hno).trans (UO a108);rw [e0];exact ⟨(_,_,_,_,_,AR),⟨.refl,⟨S.ops,.cons S.vls ⟨ExR.zero rfl (aN _),FmR.zero rfl rfl (aZ (gW K (dN K.gd.last hq a108)) aS) (aN _)⟩⟩⟩,Z,s.p4_3 [0,3,1] rfl⟩
 have a108:Rq.ac l [102,108,97,103] q=false:=h108;rw [mC a108];refine .sm Z<|.xs (X:=Unit) Z (λW s=>fC K hq [104,97,115] (s.p4_4 [0,1,2,3] Z)) λ_ _=>.aq Z<|.cd Z (λh117=>?_) (λh117=>?_)
 ·have a117:Rq.ac l [104,97,115] q=true:=h117;rw [lV a117];refine .sm Z<|.xs (X:=Unit) Z (λW s=>NZ K (dN K.gd.last hq a117) 5 (s.p4_4 [0,1,2,3] Z)) λ_ _=>.al fB Z λb5=>.sX .head Z Z dK Z<|.ns<|.mv Z<|.xs (X:=Unit) Z (λW s=>sS K (AA K.gd.last (dN K.gd.last hq a117)) [91] (s.p5_5 [1,0,2,3,4] Z)) λ_ _=>.nt<|.rg<|.mv Z<|.yw (.loadW Z cQ cU Z)<|.yw (.build Z (yU _ _ _ _ _ _ _ _ _))<|.xs (X:=Option Addr × Nat) Z (λW s=>nO K (lR K.gd.last (AA K.gd.last (dN K.gd.last hq a117))) (by simp [Value.oneCell',bJ]) (aZ hn1 aS) (t':=false) (λh=>absurd h (Nat.lt_irrefl 0)) (s.p5_5 [0,3,1,2,4] Z)) λp9 _=>.nl<|.bN<|?_
  refine jM (.inr Z) rfl .nil rfl λW s=>?_;have e0:eQ l ⟨q,o::r,x,false,dn⟩=gD ⟨4,0,true,0,q.nx.paV l 5⟩ (((⟨q,o::r,x,false,dn⟩:Ps)).at ((q.nx.paS l).exS l [91])):=(kY hff hno).trans (UN a117);rw [e0];exact ⟨(_,_,_,_,_,AR),⟨.refl,⟨.cons S.ops (by show ¬ (4:UInt8)=5;decide) (FmR.zero rfl rfl (aZ (gW K (dN K.gd.last hq a117)) aS) (aZ (gW K (lR K.gd.last (lI K.gd.last (dN K.gd.last hq a117)))) aS)),S.vls⟩⟩,Z,s.p5_3 [0,1,4] rfl⟩
 have a117:Rq.ac l [104,97,115] q=false:=h117;rw [mC a117];refine .sm Z<|.xs (X:=Unit) Z (λW s=>fC K hq [97,114,114,105,118,101,115] (s.p4_4 [0,1,2,3] Z)) λ_ _=>.aq Z<|.cd Z (λh128=>?_) (λh128=>?_)
 ·have a128:Rq.ac l [97,114,114,105,118,101,115] q=true:=h128;rw [lV a128];refine .rg<|.mv Z<|.xs (X:=Hp × Value × Value × List Value × List Value × List Res) Z (λW s=>TG K (NF (q:=⟨q,o::r,x,false,dn⟩) (c:=q.nx) Wq (dN K.gd.last hq a128) (Nat.le_succ _)) S.at (St.mid (a:=[_,_,_]) (d:=[_]) (s.p4_4 [0,2,3,1] Z))) λz9 hz9=>?_
  obtain ⟨H1,ro,rv,xo,xv,AR⟩:=z9;obtain ⟨u1,S⟩:=hz9;dsimp only at u1 S|-;refine Sx.reSt (λW s=>St.mid (a:=[_,_,_]) (d:=AR) (c:=[_]) s) ?_;refine .nl<|.bN<|?_
  refine jM (.inr Z) rfl .nil rfl λW s=>?_;have e0:eQ l ⟨q,o::r,x,false,dn⟩=AP l (((⟨q,o::r,x,false,dn⟩:Ps)).at q.nx):=(kY hff hno).trans (MG a128);rw [e0];exact ⟨(_,_,_,_,_,AR),⟨u1,⟨S.ops,S.vls⟩⟩,Z,s.p4_3 [0,1,2] rfl⟩
 have a128:Rq.ac l [97,114,114,105,118,101,115] q=false:=h128;rw [mC a128];refine .rg<|.mv Z<|.xs (X:=Unit) Z (λW s=>rU K hq 8 (s.p4_4 [0,1,2,3] Z)) λ_ _=>.nl<|.bN<|?_
 refine jM (.inr Z) rfl .nil rfl λW s=>?_
 have e0:eQ l ⟨q,o::r,x,false,dn⟩=(((⟨q,o::r,x,false,dn⟩:Ps)).at (q.fail l 8)):=(kY hff hno).trans (UL a44 hk3 hk1 (λw hw=>by
  simp only [bD0,bM,List.not_mem_nil,or_false] at hw;rcases hw with rfl | rfl | rfl | rfl | rfl | rfl | rfl | rfl
  ·exact a72
  ·exact a94
  ·exact a101
  ·exact a108
  ·exact a117
  ·exact a128
  ·exact a79
  ·exact a50))
 rw [e0];exact ⟨(_,_,_,_,_,AR),⟨.refl,⟨S.ops,S.vls⟩⟩,Z,s.p4_3 [0,2,3] rfl⟩
def fsC (s:Fs):List Value:=[.int .u8 (s.lv:Nat),.bool s.nm,.bool s.fd,.bool s.wn,.bool s.am,.int .u8 (s.ex:Nat),.int .u8 (s.ar:Nat)]
structure Gf (H:Hp):Prop where
 words:lW H 0 0 (VC.map bJ)
 syms:lW H 1 0 (nE.map bJ)
 shapes:lW H 2 0 (MP.flatMap fsC)
variable {H':Hp}
theorem Gf.up (g:Gf H) (u:Up H H'):Gf H':=⟨g.words.up u,g.syms.up u,g.shapes.up u⟩
theorem qC (H:Hp) (G:Gf H) (op:UInt8) (w:World) (hA:Agr H w):Calls prg 74 #[.int .u8 op.toNat] w λr w'=>r=.returned (.agg (fsC (cK op)).toArray)/\Ext w w':=by
 refine Sx.enter (H:=H) func74 rfl ntmps74 rfl hA ?_;refine .sr<|.al GY Z λb2=>.nt<|.sq<|.sm Z<|.yw (.conv Z kN kG (c:=((op.toNat:Nat):Int)) (w64 (by have:=op.toNat_lt;omega) (by have:=op.toNat_lt;omega)))<|.yw (.geq Z Z)<|.nt<|.ce Z (λh5=>?_) (λh5=>?_)
 ·refine .sr<|.yw (.build Z aW2)<|.sX .head Z Z BU Z<|.nt<|.rt<|.tR<|?_
  refine y8 Z (.cell Z KM Hm rfl) λW s=>⟨?_,s.ext⟩
  first
   | (rw [show cK op=zFs from (by unfold cK;rw [List.getD_eq_getElem?_getD,List.getElem?_eq_none (by show 19<=op.toNat;omega)];rfl)];rfl)
   | rfl
 refine .sk<|.tN<|.sm Z<|.yw (.indexArr aW6 Z Z Z aD (q:=op.toNat * 7) aD)<|.yw (.loadMS (k:=op.toNat * 7) (vs:=fsC (MP.getD op.toNat zFs)) Z KM G.shapes aD Z (aL8 (f:=fsC) (z:=7) (l:=MP) (i:=op.toNat) (λ_=>rfl) _ (by show op.toNat<19;omega)))<|.sV .head Z Z BU Z (by simp [fsC,Value.oneCell',bJ]) Z<|.nt<|.rt<|?_
 refine y8 Z (.cell Z KM Hm rfl) λW s=>⟨?_,s.ext⟩
 first
  | (rw [show cK op=zFs from (by unfold cK;rw [List.getD_eq_getElem?_getD,List.getElem?_eq_none (by show 19<=op.toNat;omega)];rfl)];rfl)
  | rfl
set_option maxHeartbeats 2000000 in
theorem aT5 {l:Tks} {tp:Option Addr} {tc:Nat} {op:List Ov} {x:Vb} {dn:Bool} (K:Tkf H l tp tc) (Wq:Fwf l ⟨q,op,x,true,dn⟩) (S:Sq H ⟨q,op,x,true,dn⟩ xo xv AR) (op8:UInt8) (hnx:q.nx.i<l.length) (s:St H w0 (.box b [.slice tp l.length tc,iN q.i,ro,rv,.bool true,.bool dn,.bool x.2,iN q.off,iN q.er] 102::.row 97 11 (ro) (op.length) (xo)::.row 179 13 (rv) (x.1.length) (xv)::(AR++bs)) W) :
 Calls prg 99 #[.pointer (dI b),.int .u8 op8.toNat] W (Get w0 bs b l tp tc H (sL l op8 ⟨q,op,x,true,dn⟩)):=by
 have hq:q.i<l.length:=Wq.i;have hnx2:q.i+1<l.length:=hnx;have hcap:=K.rep.cap;obtain ⟨hn1,hn2⟩:=pW Wq K.few;dsimp only at hn1 hn2;have hv1:1<=x.1.length:=by have:=Wq.vs;dsimp only at this;rw [this];exact Nat.le_add_left _ _
 obtain ⟨vs,bd⟩:=x;dsimp only at hv1 hn2;obtain ⟨v,V,rfl⟩:=CZ hv1;dsimp only [List.length_cons] at hn2;obtain ⟨yr,t0,t1,t2,e4,VS1,V1⟩:=VR.inv S.vls;try dsimp only at e4
 subst e4;have hlv:=VS1.len;refine iB func99 rfl ntmps99 rfl s ?_;refine Sx.rowCase (size:=13) (r:=rv) (e:=179) iG (Nat.succ_pos _) λg2 c2 e hkc2=>?_;subst e;try dsimp only [List.length_cons] at hkc2
 dsimp only [List.length_cons];refine .sm Z<|.yw (.build Z (PW _ _ _))<|.al TI Z λb4=>.sX .head Z Z TM Z<|.nt<|.sq<|.bk<|.sm Z<|.yw (.leq Z Z)<|.aq Z<|.cd Z (λh8=>?_) (λh8=>?_)
 ·have h13:op8<=13:=by rw [UInt8.le_iff_toNat_le];have:=aI h8;show op8.toNat<=13;omega
  have h16:¬ (16:UInt8)<=op8:=λe=>by rw [UInt8.le_iff_toNat_le] at e h13;have e1:(16:UInt8).toNat=16:=rfl;have e2:(13:UInt8).toNat=13:=rfl;omega
  refine .rg<|.fA Z qE<|.st .head Z Z iM Z (nb Z) Z<|.nl<|.bN<|.tN<|.sq<|.fL 13 [(0,0),(1,0),(2,0),(3,0),(4,0),(5,0),(6,0),(7,0),(8,0),(9,0),(10,0),(11,0),(12,0)]<|.mv Z<|.nC Z<|.fA Z jE<|.lD Z qZ cU Z<|.mv Z<|.nC Z<|.fA Z jE<|.lD Z qZ cU Z<|.yw (.lenSl uT Z)<|.yw (.sub Z Z (c:=((V.length:Nat):Int)) ((w6 aD).trans aD))<|.yw (.indexSl uT Z Z (i:=V.length) Z aD (q:=V.length * 13) aD)<|.fA Z vY<|.yw (.loadR1 Z kW qL (lC hlv Z))<|.fn (tl:=[_]) Z<|.aq Z<|.sq<|.sr<|.fA Z gZ<|.lD Z nH Hm Z<|.yw (.cast (.eql Z Z) (congrArg Value.bool (aL aS)))<|.nt<|.cF Z<|.rg<|.mv Z<|.fA Z qE<|.lD Z bQ Hm Z<|.xs (X:=Hp × Value × Value × List Value × List Value × List Res) Z (λW s=>uK K Wq S 8 aD (St.mid (a:=[_,_,_]) (d:=[_]) (s.p4_4 [1,2,3,0] Z))) λz9 hz9=>?_
  obtain ⟨H1,ro,rv,xo,xv,AR⟩:=z9;obtain ⟨u1,S⟩:=hz9;dsimp only at u1 S|-;refine Sx.reSt (λW s=>St.mid (a:=[_,_,_]) (d:=AR) (c:=[_]) s) ?_;obtain ⟨op7,x7,e7⟩:∃ op7 x7,kD 8 (⟨q,op,(v::V,bd),true,dn⟩:Ps)=⟨q,op7,x7,true,dn⟩:=⟨_,_,Z⟩;rw [e7] at S|-;dsimp only at S|-;have W7:Fwf l ⟨q,op7,x7,true,dn⟩:=by rw [<-e7];exact vJ aD Wq rfl
  obtain ⟨hm1,hm2⟩:=pW W7 K.few;dsimp only at hm1 hm2;have hne7:op7≠[]:=W7.ne;refine .nt<|.sq<|.sm Z<|.nt<|.cd Z (λh55=>?_) (λh55=>?_)
  ·have hwh:v.wh=true:=h55;refine .sm Z<|.xs (X:=Unit) Z (λW s=>rU (K.up u1.up) hq 8 (s.p4_4 [0,1,2,3] Z)) λ_ _=>.nt<|.rt<|.tR<|?_
   refine y7 Z .nil rfl λW s=>?_
   have e0:sL l op8 ⟨q,op,(v::V,bd),true,dn⟩=(⟨q,op7,x7,true,dn⟩:Ps).at (q.fail l 8):=by
    unfold sL;rw [aA h16,aK h13,e7,aK];exact hwh
   rw [e0];exact ⟨(_,_,_,_,_,AR),⟨u1,⟨S.ops,S.vls⟩⟩,Z,s.p4_3 [0,1,2] rfl⟩
  have hwh:v.wh=false:=h55;refine .sk<|.tN<|.sm Z<|.nC Z<|.fA Z iD<|.lD Z bQ Hm Z<|.yw (.add Z Z (c:=((q.nx.i:Nat):Int)) ((w6 aD).trans (by show _=((q.i+1:Nat):Int);omega)))<|.nC Z<|.fA Z iD<|.st .head Z Z iM Z (nb Z) Z<|.nt<|.rg<|.mv Z<|.yw (.loadW Z AY qL Z)<|.xs (X:=Option Addr × Nat) Z (λW s=>nO (K.up u1.up) hnx (by simp [Value.oneCell',bJ]) (aZ hm1 aS) (λ_=>S.ops.tm hne7) (s.p4_4 [0,1,2,3] Z)) λp9 _=>.nl<|?_
  refine jM (.inr Z) rfl .nil rfl λW s=>?_
  have e0:sL l op8 ⟨q,op,(v::V,bd),true,dn⟩=gD ⟨9,8,false,op8,zF⟩ ((⟨q,op7,x7,true,dn⟩:Ps).at q.nx):=by
   unfold sL;rw [aA h16,aK h13,e7,aA];show ¬ (sH (v::V,bd)).wh=true;rw [show (sH (v::V,bd)).wh=false from hwh];decide
  rw [e0];exact ⟨(_,_,_,_,_,AR),⟨u1,⟨.cons S.ops (by show ¬ (9:UInt8)=5;decide) (FmR.zero rfl rfl (aN _) (aN _)),S.vls⟩⟩,Z,s.p4_3 [0,1,2] rfl⟩
 have h13:¬ op8<=13:=λe=>aJ h8 (by rw [UInt8.le_iff_toNat_le] at e;have e2:(13:UInt8).toNat=13:=rfl;omega);refine .sm Z<|.yw (.geq Z Z)<|.aq Z<|.cd Z (λh12=>?_) (λh12=>?_)
 ·have h16:(16:UInt8)<=op8:=by rw [UInt8.le_iff_toNat_le];have:=aI h12;show 16<=op8.toNat;omega
  refine .rg<|.fA Z gZ<|.st .head Z Z aU3 Z (nb Z) Z<|.fA Z qE<|.st .head Z Z iM Z (nb Z) Z<|.nl<|.bN<|.tN<|.sq<|.fL 13 [(0,0),(1,0),(2,0),(3,0),(4,0),(5,0),(6,0),(7,0),(8,0),(9,0),(10,0),(11,0),(12,0)]<|.mv Z<|.nC Z<|.fA Z jE<|.lD Z qZ cU Z<|.mv Z<|.nC Z<|.fA Z jE<|.lD Z qZ cU Z<|.yw (.lenSl uT Z)<|.yw (.sub Z Z (c:=((V.length:Nat):Int)) ((w6 aD).trans aD))<|.yw (.indexSl uT Z Z (i:=V.length) Z aD (q:=V.length * 13) aD)<|.fA Z vY<|.yw (.loadR1 Z kW qL (lC hlv Z))<|.fn (tl:=[_]) Z<|.aq Z<|.sq<|.sr<|.fA Z gZ<|.lD Z nH Hm Z<|.yw (.cast (.eql Z Z) (congrArg Value.bool (aG aS)))<|.nt<|.cT Z<|.sm Z<|.xs (X:=Hp × Value × Value × List Value × List Value × List Res) Z (λW s=>uK K Wq S 7 aD (St.mid (a:=[_,_,_]) (d:=[_]) (s.p4_4 [1,2,3,0] Z))) λz9 hz9=>?_
  obtain ⟨H1,ro,rv,xo,xv,AR⟩:=z9;obtain ⟨u1,S⟩:=hz9;dsimp only at u1 S|-;refine Sx.reSt (λW s=>St.mid (a:=[_,_,_]) (d:=AR) (c:=[_]) s) ?_;obtain ⟨op7,x7,e7⟩:∃ op7 x7,kD 7 (⟨q,op,(v::V,bd),true,dn⟩:Ps)=⟨q,op7,x7,true,dn⟩:=⟨_,_,Z⟩;rw [e7] at S|-;dsimp only at S|-;have W7:Fwf l ⟨q,op7,x7,true,dn⟩:=by rw [<-e7];exact vJ aD Wq rfl
  obtain ⟨hm1,hm2⟩:=pW W7 K.few;dsimp only at hm1 hm2;have hne7:op7≠[]:=W7.ne;refine .nt<|.rg<|.mv Z<|.mv Z<|.b2 (λh36=>?_) (λh36=>?_)
  ·have hwh:v.wh=true:=h36;refine .g4<|.gG<|.pT Z<|.mv Z<|.g4<|.g2<|.pT Z<|.aq Z<|.sq<|.sm Z<|.nt<|.cT Z<|.sm Z<|.xs (X:=Unit) Z (λW s=>rU (K.up u1.up) hq 8 (s.p4_4 [0,1,2,3] Z)) λ_ _=>.nt<|.rt<|.tR<|?_
   refine y7 Z .nil rfl λW s=>?_
   have e0:sL l op8 ⟨q,op,(v::V,bd),true,dn⟩=(⟨q,op7,x7,true,dn⟩:Ps).at (q.fail l 8):=by
    unfold sL;rw [aK h16,e7,aK];show ((sH (v::V,bd)).wh || _ || _)=true;rw [show (sH (v::V,bd)).wh=true from hwh];rfl
   rw [e0];exact ⟨(_,_,_,_,_,AR),⟨u1,⟨S.ops,S.vls⟩⟩,Z,s.p4_3 [0,1,2] rfl⟩
  have hwh:v.wh=false:=h36;obtain ⟨o7,r7,rfl⟩:=CZ (l:=op7) (by cases op7 with | nil=>exact (hne7 rfl).elim | cons a t=>exact Nat.succ_pos _);dsimp only [List.length_cons] at hm1;obtain ⟨xr,s1,s2,e2,hlo,ho1,ho2⟩:=Ops.top S.ops;try dsimp only at e2
  subst e2;refine Sx.rowCase (size:=11) (r:=ro) (e:=97) cU (Nat.succ_pos _) λg c e hkc=>?_;subst e;refine .gy (.move Z)<|.gd Z Z<|.xs (X:=Unit) Z (λW s=>CP (K.up u1.up) hq (g:=g) (k:=r7.length) (c:=c) aD (s.p4_4 [0,1,2,3] Z)) λ_ _=>.gy (.nilCheck Z)<|.gy (.fieldAddr Z uU)<|.gy (.loadR1 Z kW cU (lC hlo Z))<|.pF Z<|.mv Z<|.b2 (λh43=>?_) (λh43=>?_)
  ·have htm:o7.tm=true:=h43;refine .g4<|.g2<|.pT Z<|.aq Z<|.sq<|.sm Z<|.nt<|.cT Z<|.sm Z<|.xs (X:=Unit) Z (λW s=>rU (K.up u1.up) hq 8 (s.p4_4 [0,1,2,3] Z)) λ_ _=>.nt<|.rt<|.tR<|?_
   refine y7 Z .nil rfl λW s=>?_
   have e0:sL l op8 ⟨q,op,(v::V,bd),true,dn⟩=(⟨q,o7::r7,x7,true,dn⟩:Ps).at (q.fail l 8):=by
    unfold sL;rw [aK h16,e7,aK];show (_ || (eC (⟨q,o7::r7,x7,true,dn⟩:Ps)).tm || _)=true;rw [show (eC (⟨q,o7::r7,x7,true,dn⟩:Ps)).tm=true from htm,Bool.or_true];rfl
   rw [e0];exact ⟨(_,_,_,_,_,AR),⟨u1,⟨S.ops,S.vls⟩⟩,Z,s.p4_3 [0,1,2] rfl⟩
  have htm:o7.tm=false:=h43;refine .gy (.move Z)<|.gd Z Z<|.xs (X:=Unit) Z (λW s=>CP (K.up u1.up) hq (g:=g) (k:=r7.length) (c:=c) aD (s.p4_4 [0,1,2,3] Z)) λ_ _=>.gy (.nilCheck Z)<|.gy (.fieldAddr Z gZ)<|.gy (.loadR1 Z nH cU (lC hlo Z))<|.gy (.eql Z Z)<|.pF Z<|.aq Z<|.sq<|.sm Z<|.nt<|.cd Z (λh55=>?_) (λh55=>?_)
  ·have hk8:o7.kd=8:=aR.1 (by have:=aI h55;show o7.kd.toNat=8;omega);refine .sm Z<|.xs (X:=Unit) Z (λW s=>rU (K.up u1.up) hq 8 (s.p4_4 [0,1,2,3] Z)) λ_ _=>.nt<|.rt<|.tR<|?_
   refine y7 Z .nil rfl λW s=>?_
   have e0:sL l op8 ⟨q,op,(v::V,bd),true,dn⟩=(⟨q,o7::r7,x7,true,dn⟩:Ps).at (q.fail l 8):=by
    unfold sL;rw [aK h16,e7,aK];show (_ || _ || decide ((eC (⟨q,o7::r7,x7,true,dn⟩:Ps)).kd=8))=true;rw [aG (show (eC (⟨q,o7::r7,x7,true,dn⟩:Ps)).kd=8 from hk8),Bool.or_true]
   rw [e0];exact ⟨(_,_,_,_,_,AR),⟨u1,⟨S.ops,S.vls⟩⟩,Z,s.p4_3 [0,1,2] rfl⟩
  have hk8:¬ o7.kd=8:=λe=>aJ h55 (by rw [e];rfl);refine .sk<|.tN<|.sm Z<|.nC Z<|.fA Z iD<|.lD Z bQ Hm Z<|.yw (.add Z Z (c:=((q.nx.i:Nat):Int)) ((w6 aD).trans (by show _=((q.i+1:Nat):Int);omega)))<|.nC Z<|.fA Z iD<|.st .head Z Z iM Z (nb Z) Z<|.nt<|.rg<|.mv Z<|.yw (.loadW Z AY qL Z)<|.xs (X:=Option Addr × Nat) Z (λW s=>nO (K.up u1.up) hnx (by simp [Value.oneCell',bJ]) (by show r7.length+1<=600001;omega) (λ_=>S.ops.tm hne7) (s.p4_4 [0,1,2,3] Z)) λp9 _=>.nl<|?_
  refine jM (.inr Z) rfl .nil rfl λW s=>?_
  have e0:sL l op8 ⟨q,op,(v::V,bd),true,dn⟩=gD ⟨8,6,false,op8,zF⟩ ((⟨q,o7::r7,x7,true,dn⟩:Ps).at q.nx):=by
   unfold sL;rw [aK h16,e7,aA];show ¬ ((sH (v::V,bd)).wh || (eC (⟨q,o7::r7,x7,true,dn⟩:Ps)).tm || decide ((eC (⟨q,o7::r7,x7,true,dn⟩:Ps)).kd=8))=true;rw [show (sH (v::V,bd)).wh=false from hwh,show (eC (⟨q,o7::r7,x7,true,dn⟩:Ps)).tm=false from htm,aL (show ¬ (eC (⟨q,o7::r7,x7,true,dn⟩:Ps)).kd=8 from hk8)]
   decide
  rw [e0];exact ⟨(_,_,_,_,_,AR),⟨u1,⟨.cons S.ops (by show ¬ (8:UInt8)=5;decide) (FmR.zero rfl rfl (aN _) (aN _)),S.vls⟩⟩,Z,s.p4_3 [0,1,2] rfl⟩
 have h16:¬ (16:UInt8)<=op8:=λe=>aJ h12 (by rw [UInt8.le_iff_toNat_le] at e;have e2:(16:UInt8).toNat=16:=rfl;omega);refine .sk<|.bN<|.tN<|.sq<|.fL 13 [(0,0),(1,0),(2,0),(3,0),(4,0),(5,0),(6,0),(7,0),(8,0),(9,0),(10,0),(11,0),(12,0)]<|.mv Z<|.nC Z<|.fA Z jE<|.lD Z qZ cU Z<|.mv Z<|.nC Z<|.fA Z jE<|.lD Z qZ cU Z<|.yw (.lenSl uT Z)<|.yw (.sub Z Z (c:=((V.length:Nat):Int)) ((w6 aD).trans aD))<|.yw (.indexSl uT Z Z (i:=V.length) Z aD (q:=V.length * 13) aD)<|.fA Z vY<|.yw (.loadR1 Z kW qL (lC hlv Z))<|.fn (tl:=[_]) Z<|.aq Z<|.sq<|.sr<|.fA Z gZ<|.lD Z nH Hm Z<|.yw (.cast (.eql Z Z) (congrArg Value.bool (aL aS)))<|.nt<|.cF Z<|.rg<|.mv Z<|.fA Z qE<|.lD Z bQ Hm Z<|.xs (X:=Hp × Value × Value × List Value × List Value × List Res) Z (λW s=>uK K Wq S 7 aD (St.mid (a:=[_,_,_]) (d:=[_]) (s.p4_4 [1,2,3,0] Z))) λz9 hz9=>?_
 obtain ⟨H1,ro,rv,xo,xv,AR⟩:=z9;obtain ⟨u1,S⟩:=hz9;dsimp only at u1 S|-;refine Sx.reSt (λW s=>St.mid (a:=[_,_,_]) (d:=AR) (c:=[_]) s) ?_;obtain ⟨op7,x7,e7⟩:∃ op7 x7,kD 7 (⟨q,op,(v::V,bd),true,dn⟩:Ps)=⟨q,op7,x7,true,dn⟩:=⟨_,_,Z⟩;rw [e7] at S|-;dsimp only at S|-;have W7:Fwf l ⟨q,op7,x7,true,dn⟩:=by rw [<-e7];exact vJ aD Wq rfl
 obtain ⟨hm1,hm2⟩:=pW W7 K.few;dsimp only at hm1 hm2;have hne7:op7≠[]:=W7.ne;refine .nt<|.sq<|.sm Z<|.nt<|.cd Z (λh55=>?_) (λh55=>?_)
 ·have hwh:v.wh=true:=h55;refine .sm Z<|.xs (X:=Unit) Z (λW s=>rU (K.up u1.up) hq 8 (s.p4_4 [0,1,2,3] Z)) λ_ _=>.nt<|.rt<|.tR<|?_
  refine y7 Z .nil rfl λW s=>?_
  have e0:sL l op8 ⟨q,op,(v::V,bd),true,dn⟩=(⟨q,op7,x7,true,dn⟩:Ps).at (q.fail l 8):=by
   unfold sL;rw [aA h16,aA h13,e7,aK];exact hwh
  rw [e0];exact ⟨(_,_,_,_,_,AR),⟨u1,⟨S.ops,S.vls⟩⟩,Z,s.p4_3 [0,1,2] rfl⟩
 have hwh:v.wh=false:=h55;refine .sk<|.tN<|.sm Z<|.nC Z<|.fA Z iD<|.lD Z bQ Hm Z<|.yw (.add Z Z (c:=((q.nx.i:Nat):Int)) ((w6 aD).trans (by show _=((q.i+1:Nat):Int);omega)))<|.nC Z<|.fA Z iD<|.st .head Z Z iM Z (nb Z) Z<|.nt<|.rg<|.mv Z<|.yw (.loadW Z AY qL Z)<|.xs (X:=Option Addr × Nat) Z (λW s=>nO (K.up u1.up) hnx (by simp [Value.oneCell',bJ]) (aZ hm1 aS) (λ_=>S.ops.tm hne7) (s.p4_4 [0,1,2,3] Z)) λp9 _=>.nl<|?_
 refine jM (.inr Z) rfl .nil rfl λW s=>?_
 have e0:sL l op8 ⟨q,op,(v::V,bd),true,dn⟩=gD ⟨9,7,false,op8,zF⟩ ((⟨q,op7,x7,true,dn⟩:Ps).at q.nx):=by
  unfold sL;rw [aA h16,aA h13,e7,aA];show ¬ (sH (v::V,bd)).wh=true;rw [show (sH (v::V,bd)).wh=false from hwh];decide
 rw [e0];exact ⟨(_,_,_,_,_,AR),⟨u1,⟨.cons S.ops (by show ¬ (9:UInt8)=5;decide) (FmR.zero rfl rfl (aN _) (aN _)),S.vls⟩⟩,Z,s.p4_3 [0,1,2] rfl⟩
theorem i0 {n:Int64}:decide (n.toInt=0)=decide (n=0):=by
 rw [aQ,aB,aB];exact ⟨λh=>nK.1 h,λh=>by rw [h];rfl⟩
variable {n k:Nat}
theorem n0:decide (((n:Nat):Int)=((k:Nat):Int))=decide (n=k):=by rw [aQ,aB,aB];omega
theorem DW {l:List Ex} {p:Ex->Bool} (hk:k<l.length) (h:(l.take k).any p=false) (hp:p l[k]=false):(l.take (k+1)).any p=false:=by
 rw [List.take_succ,List.any_append,h,List.getElem?_eq_getElem hk];simp [hp]
theorem aG5 {l:List Ex} {p:Ex->Bool} (hk:k<l.length) (hp:p l[k]=true):l.any p=true:=gA.2 ⟨_,aX hk,hp⟩
def ixV (l:List Ex) (p:Ex->Bool):Int:=match l.findIdx? p with | some i=>(i:Int) | none=>-1
theorem cO3 {l:List Ex} {p:Ex->Bool} (hk:k<l.length) (h:(l.take k).any p=false) (hp:p l[k]=true):ixV l p=(k:Int):=by
 unfold ixV
 rw [List.findIdx?_eq_some_iff_getElem.2 ⟨hk,hp,λj hj=>by
  have hm:l[j]∈l.take k:=List.mem_take_iff_getElem.2 ⟨j,aD,Z⟩;have:=List.any_eq_false.1 h _ hm;exact this⟩]
theorem cO2 {l:List Ex} {p:Ex->Bool} (h:l.any p=false):ixV l p=-1:=by
 unfold ixV;rw [List.findIdx?_eq_none_iff.2 λx hx=>by have:=List.any_eq_false.1 h x hx;simpa using this]
theorem cI0 {l:List Ex} {p:Ex->Bool} :decide (0<=ixV l p)=l.any p:=by
 unfold ixV;cases h:l.findIdx? p with
 | some i =>
  obtain ⟨hi,hp,_⟩:=List.findIdx?_eq_some_iff_getElem.1 h;rw [gA.2 ⟨_,aX hi,hp⟩];exact aG (by show (0:Int)<=(i:Int);omega)
 | none =>
  rw [List.any_eq_false.2 λx hx=>by have:=List.findIdx?_eq_none_iff.1 h x hx;rw [this];decide];rfl
theorem VU {op:UInt8} {nm:Str} {n:Int64} {args:List Ex} :CM (.mk op nm n args)=(decide (op=0) && decide (nm=[]) && decide (n=0) && decide (args.length=0)):=rfl
def EFn (H:Hp) (gf:FuncId) (ca:List Value) (p:Ex->Bool) (e:Ex):Prop:=∀ (cs:List Value) (W:World),Rep H (dEx .u8 e) cs->Agr H W->Calls prg gf (.agg cs.toArray::ca).toArray W λr W'=>r=.returned (.bool (p e))/\Ext W W'
variable {c:Nat}
theorem aR8 (H:Hp) (gf:FuncId) (ca:List Value) (p:Ex->Bool) (l:List Ex) {pp:Option Addr} (hs:Rep H (.seq 4 (l.map (dEx .u8))) [.slice pp l.length c]) (hf:kM prg gf=true) (hg:∀ e∈l,EFn H gf ca p e) (w:World) (hA:Agr H w) :
 Calls prg 131 #[.slice pp l.length c,.func (.func gf) #[] ca.toArray] w λr w'=>r=.returned (.int .i64 (ixV l p))/\Ext w w':=by
 have hcap:=hs.cap;refine Sx.enter (H:=H) func131 rfl ntmps131 rfl hA ?_;refine .sr<|.aq Z<|.sq<|.sm Z<|.yw (.lenSl eG Z)<|.mv Z<|.nt<|.bk<|.lp (X:=Nat) [(0,_),(1,_),(7,_)] ⟨Z,Z,Z,Jt⟩ [] (λk=>[(8,iN k)]) (λk=>H) (λk=>[]) (λk=>k<=l.length/\(l.take k).any p=false) (λk=>l.length - k) 0 (λ_ s=>s) ⟨Z,Jt⟩ ⟨aN _,Z⟩ λk hC=>?_
 obtain ⟨hk0,hal⟩:=hC;refine .sr<|.yw (.lss Z Z)<|.nt<|.sq<|.ce Z (λh9=>?_) (λh9=>?_)
 ·have hk:k<l.length:=aD
  obtain ⟨bE,oE,cE,hpE,rE,lE,mE⟩:=hs.elem (eR (f:=dEx .u8) hk);cases hpE;refine .sk<|.tN<|.sq<|.bk<|.sm Z<|.a Z Z<|.ns<|.mv Z<|.mv Z<|.mv Z<|.yw (.indexSl eG Z Z Z aD (q:=oE+k * 4) Z)<|.yw (.loadMW Z eM mE lE)<|.yw (.callV (fi:=[]) Z hf Z (λW s=>hg _ (aX hk) cE W rE s.agr))<|.nt<|.cd Z (λh16=>?_) (λh16=>?_)
  ·refine .sm Z<|.az Z<|.bR<|.tR<|.tR<|.bR<|.tR<|?_
   refine yE Z Z ?_
   (rw [cO3 hk hal h16])
  exact .sk<|.bN<|.tN<|.rg<|.yw (.add Z Z w7)<|.mv Z<|.nt<|.ag (k+1) ⟨Z,Jt⟩ ⟨Z,Z,Z,Jt⟩ (λ_ s=>s) ⟨aD,DW hk hal h16⟩ aD
 obtain rfl:k=l.length:=aD
 rw [bW] at hal;refine .ex<|.eb<|.sr<|.az Z<|?_
 refine yE Z Z ?_
 (rw [cO2 hal])
theorem mT (H:Hp) (gf:FuncId) (ca:List Value) (p:Ex->Bool) (l:List Ex) {pp:Option Addr} (hs:Rep H (.seq 4 (l.map (dEx .u8))) [.slice pp l.length c]) (hf:kM prg gf=true) (hg:∀ e∈l,EFn H gf ca p e) (w:World) (hA:Agr H w) :
 Calls prg 71 #[.slice pp l.length c,.func (.func gf) #[] ca.toArray] w λr w'=>r=.returned (.bool (l.any p))/\Ext w w':=by
 refine Sx.enter (H:=H) func71 rfl ntmps71 rfl hA ?_;refine .sr<|.a Z Z<|.ns<|.mv Z<|.mv Z<|.yw (.xl (v:=.int .i64 (ixV l p)) Z (λW s=>aR8 H gf ca p l hs hf hg W s.agr))<|.yw (.cast (.geq Z Z) (congrArg Value.bool cI0))<|.az Z<|?_
 exact yE Z Z Z
theorem aR7 (H:Hp) (e:Ex) (cs:List Value) (w:World) (h:Rep H (dEx .u8 e) cs) (hA:Agr H w):Calls prg 78 #[.agg cs.toArray] w λr w'=>r=.returned (.bool (CM e))/\Ext w w':=by
 obtain ⟨op,nm,nn,args⟩:=e;obtain ⟨pp,c,rfl,hs,hnm⟩:=eV h;refine Sx.enter (H:=H) func78 rfl ntmps78 rfl hA ?_;refine .sr<|.bx Z Z Z λb1=>.a Z Z<|.ns<|.fA Z hP<|.lD Z kO Hm Z<|.yw (.cast (.eql Z Z) (congrArg Value.bool k80))<|.mv Z<|.b2 (λh6=>?_) (λh6=>?_)
 ·refine .gy (.fieldAddr Z gN)<|.gy (.load Z bT Hm Z)<|.gy (.eqS Z Z)<|.pT Z<|.mv Z<|.b2 (λh11=>?_) (λh11=>?_)
  ·refine .gy (.fieldAddr Z gS)<|.gy (.load Z jN Hm Z)<|.gy (.cast (.eql Z Z) (congrArg Value.bool i0))<|.pT Z<|.mv Z<|.b2 (λh16=>?_) (λh16=>?_)
   ·refine .gy (.fieldAddr Z eS)<|.gy (.load Z dR Hm Z)<|.gy (.lenSl eG Z)<|.gy (.cast (.eql Z Z) (congrArg Value.bool er0))<|.pT Z<|.az Z<|?_
    refine yE Z Z ?_
    (rw [VU,h6,h11,h16,aO,aO,aO])
   refine .g4<|.pF Z<|.az Z<|?_
   refine yE Z Z ?_
   (rw [VU,h6,h11,h16];rfl)
  refine .g3<|.pF Z<|.mv Z<|.g4<|.pF Z<|.az Z<|?_
  refine yE Z Z ?_
  (rw [VU,h6,h11];rfl)
 refine .g3<|.pF Z<|.mv Z<|.g3<|.pF Z<|.mv Z<|.g4<|.pF Z<|.az Z<|?_
 refine yE Z Z ?_
 (rw [VU,h6];rfl)
theorem IL {l:List Ex} {p:Ex->Bool} (hk:k<l.length) (h:(l.take k).all p=true) (hp:p l[k]=true):(l.take (k+1)).all p=true:=by
 rw [List.take_succ,List.all_append,h,List.getElem?_eq_getElem hk];simp [hp]
theorem bO0 {l:List Ex} {p:Ex->Bool} (hk:k<l.length) (hp:p l[k]=false):l.all p=false:=List.all_eq_false.2 ⟨_,aX hk,by rw [hp];decide⟩
theorem wH:∀ l,BE l=l.all eI
 | []=>rfl
 | e::r=>by rw [BE,gJ,wH r]
theorem nW (H:Hp) (op:UInt8) (nm:Str) (nn:Int64) (args:List Ex) (n:Nat) (cs:List Value) (w:World) (h:Rep H (dEx .u8 (.mk op nm nn args)) cs) (ht:∀ a∈args,(∀ (cs:List Value) (W:World),Rep H (dEx .u8 a) cs->Agr H W->Calls prg 79 #[.agg cs.toArray] W λr W'=>r=.returned (.bool (eI a))/\Ext W W')) (hA:Agr H w) :
 Calls prg 132 #[.agg cs.toArray,iN n] w λr w'=>r=.returned (.bool (args.all eI && decide (args.length=n)))/\Ext w w':=by
 obtain ⟨pp,c,rfl,hs,hnm⟩:=eV h;have hcap:=hs.cap;refine Sx.enter (H:=H) func132 rfl ntmps132 rfl hA ?_;refine .sr<|.bx Z Z Z λb2=>.aq Z<|.sq<|.sr<|.fA Z eS<|.lD Z dR Hm Z<|.yw (.lenSl eG Z)<|.mv Z<|.nt<|.bk<|.lp (X:=Nat) [(1,_),(2,_),(8,_),(9,_)] ⟨Z,Z,Z,Z,Jt⟩ [_] (λk=>[(10,iN k)]) (λk=>H) (λk=>[]) (λk=>k<=args.length/\(args.take k).all eI=true) (λk=>args.length - k) 0 (λ_ s=>s) ⟨Z,Jt⟩ ⟨aN _,Z⟩ λk hC=>?_
 obtain ⟨hk0,hal⟩:=hC;refine .sr<|.yw (.lss Z Z)<|.nt<|.sq<|.ce Z (λh11=>?_) (λh11=>?_)
 ·have hk:k<args.length:=aD
  obtain ⟨bE,oE,cE,hpE,rE,lE,mE⟩:=hs.elem (eR (f:=dEx .u8) hk);cases hpE;refine .sk<|.tN<|.sq<|.bk<|.sr<|.yw (.indexSl eG Z Z Z aD (q:=oE+k * 4) Z)<|.yw (.loadMW Z eM mE lE)<|.al kQ Z λb6=>.sV .head Z Z gR lE rE.one Z<|.ns<|.yw (.loadW Z eM Hm lE)<|.yw (.xl Z (λW s=>ht _ (aX hk) cE W rE s.agr))<|.yw (.not Z)<|.nt<|.cd Z (λh16=>?_) (λh16=>?_)
  ·refine .sr<|.az Z<|.bR<|.tR<|.tR<|.bR<|.tR<|?_
   refine yE Z Z ?_
   (rw [bO0 hk (by simpa using h16)];rfl)
  exact .sk<|.bN<|.tN<|.rg<|.yw (.add Z Z w7)<|.mv Z<|.nt<|.ag (k+1) ⟨Z,Jt⟩ ⟨Z,Z,Z,Z,Jt⟩ (λ_ s=>s.pick [1] [_] Z Z) ⟨aD,IL hk hal (by simpa using h16)⟩ aD
 obtain rfl:k=args.length:=aD
 rw [bW] at hal;refine .ex<|.eb<|.sr<|.fA Z eS<|.lD Z dR Hm Z<|.yw (.lenSl eG Z)<|.mv Z<|.yw (.cast (.eql Z Z) (congrArg Value.bool n0))<|.az Z<|?_
 refine yE Z Z ?_
 (rw [hal,aO])
theorem tb1 {op:UInt8} {nm:Str} {n:Int64} {args:List Ex} (h:op=1):eI (.mk op nm n args)=(decide (nm=[]) && decide (0<=n.toInt) && decide (args.length=0)):=by rw [eI,aK h]
theorem tb4 {op:UInt8} {nm:Str} {n:Int64} {args:List Ex} (h:op=4):eI (.mk op nm n args)=(decide (nm=[]) && decide (n=0) && decide (args.length=0)):=by subst h;rw [eI,aA aS,aK rfl]
theorem tb5 {op:UInt8} {nm:Str} {n:Int64} {args:List Ex} (h:op=5\/op=8):eI (.mk op nm n args)=(decide (n=0) && decide (args.length=0)):=by
 rw [eI,aA (by rcases h with rfl | rfl <;> decide),aA (by rcases h with rfl | rfl <;> decide),aK h]
theorem tb6 {op:UInt8} {nm:Str} {n:Int64} {args:List Ex} (h:op=6):eI (.mk op nm n args)=(decide (n=0) && (args.all eI && decide (args.length=1))):=by
 subst h;rw [eI,aA aS,aA aS,aA aS,aK rfl,wH]
theorem tb9 {op:UInt8} {nm:Str} {n:Int64} {args:List Ex} (h:op=9):eI (.mk op nm n args)=(decide (nm=[]) && decide (n=0) && (args.all eI && decide (args.length=1))):=by
 subst h;rw [eI,aA aS,aA aS,aA aS,aA aS,aK rfl,wH]
theorem tbb {op:UInt8} {nm:Str} {n:Int64} {args:List Ex} (h:op=11\/op=12\/op=13\/op=14\/op=15):eI (.mk op nm n args)=(decide (nm=[]) && decide (n=0) && (args.all eI && decide (args.length=2))):=by
 have e:∀ k:UInt8,k<11->¬ op=k:=by
  intro k hk e;subst e;rcases h with rfl | rfl | rfl | rfl | rfl <;> exact absurd hk aS
 rw [eI,aA (e 1 aS),aA (e 4 aS),aA (by rintro (h | h);exact e 5 aS h;exact e 8 aS h),aA (e 6 aS),aA (e 9 aS),aK h,wH]
theorem tbn {op:UInt8} {nm:Str} {n:Int64} {args:List Ex} (h1:¬ op=1) (h4:¬ op=4) (h5:¬ op=5) (h8:¬ op=8) (h6:¬ op=6) (h9:¬ op=9) (a:¬ op=11) (b:¬ op=12) (c:¬ op=13) (d:¬ op=14) (e:¬ op=15):eI (.mk op nm n args)=false:=by
 rw [eI,aA h1,aA h4,aA (vR.2 ⟨h5,h8⟩),aA h6,aA h9,aA (by rintro (h | h | h | h | h);exact a h;exact b h;exact c h;exact d h;exact e h)]
set_option maxHeartbeats 1000000 in
theorem BN (H:Hp) (e:Ex):(∀ (cs:List Value) (W:World),Rep H (dEx .u8 e) cs->Agr H W->Calls prg 79 #[.agg cs.toArray] W λr W'=>r=.returned (.bool (eI e))/\Ext W W'):=by
 induction e using Ex.ind with | _ op nm nn args ih
 intro cs w h hA;obtain ⟨pp,c,rfl,hs,hnm⟩:=eV h;refine Sx.enter (H:=H) func79 rfl ntmps79 rfl hA ?_;refine .sr<|.bx Z Z Z λb1=>.aq Z<|.sq<|.sr<|.fA Z hP<|.lD Z kO Hm Z<|.nt<|.bk<|.sr<|.yw (.eql Z Z)<|.aq Z<|.cd Z (λh5=>?_) (λh5=>?_)
 ·have q1:op=1:=aR.1 (by have:=aI h5;show op.toNat=1;omega);refine .sr<|.fA Z gN<|.lD Z bT Hm Z<|.yw (.eqS Z Z)<|.mv Z<|.b2 (λh10=>?_) (λh10=>?_)
  ·refine .gy (.fieldAddr Z gS)<|.gy (.load Z jN Hm Z)<|.gy (.geq Z Z)<|.pT Z<|.mv Z<|.b2 (λh15=>?_) (λh15=>?_)
   ·refine .gy (.fieldAddr Z eS)<|.gy (.load Z dR Hm Z)<|.gy (.lenSl eG Z)<|.gy (.cast (.eql Z Z) (congrArg Value.bool er0))<|.pT Z<|.az Z<|.bR<|.tR<|?_
    refine yE Z Z ?_
    (rw [tb1 q1,h10,h15];simp only [aO,aU,cW,Bool.and_false])
   refine .g4<|.pF Z<|.az Z<|.bR<|.tR<|?_
   refine yE Z Z ?_
   (rw [tb1 q1,h10,h15];simp only [aO,aU,cW,Bool.and_false])
  refine .g3<|.pF Z<|.mv Z<|.g4<|.pF Z<|.az Z<|.bR<|.tR<|?_
  refine yE Z Z ?_
  (rw [tb1 q1,h10];simp only [aO,aU,cW,Bool.and_false])
 have q1:¬ op=1:=λe=>aJ h5 (by rw [e];rfl);refine .sr<|.yw (.eql Z Z)<|.aq Z<|.cd Z (λh21=>?_) (λh21=>?_)
 ·have q4:op=4:=aR.1 (by have:=aI h21;show op.toNat=4;omega);refine .sr<|.fA Z gN<|.lD Z bT Hm Z<|.yw (.eqS Z Z)<|.mv Z<|.b2 (λh26=>?_) (λh26=>?_)
  ·refine .gy (.fieldAddr Z gS)<|.gy (.load Z jN Hm Z)<|.gy (.cast (.eql Z Z) (congrArg Value.bool i0))<|.pT Z<|.mv Z<|.b2 (λh31=>?_) (λh31=>?_)
   ·refine .gy (.fieldAddr Z eS)<|.gy (.load Z dR Hm Z)<|.gy (.lenSl eG Z)<|.gy (.cast (.eql Z Z) (congrArg Value.bool er0))<|.pT Z<|.az Z<|.bR<|.tR<|?_
    refine yE Z Z ?_
    (rw [tb4 q4,h26,h31];simp only [aO,aU,cW,Bool.and_false])
   refine .g4<|.pF Z<|.az Z<|.bR<|.tR<|?_
   refine yE Z Z ?_
   (rw [tb4 q4,h26,h31];simp only [aO,aU,cW,Bool.and_false])
  refine .g3<|.pF Z<|.mv Z<|.g4<|.pF Z<|.az Z<|.bR<|.tR<|?_
  refine yE Z Z ?_
  (rw [tb4 q4,h26];simp only [aO,aU,cW,Bool.and_false])
 have q4:¬ op=4:=λe=>aJ h21 (by rw [e];rfl);refine .sq<|.sr<|.yw (.eql Z Z)<|.aq Z<|.cr Z (λh37=>?_) (λh37=>?_)
 ·have q58:op=5:=aR.1 (by have:=aI h37;show op.toNat=5;omega);refine .sk<|.tN<|.cT Z<|.sr<|.fA Z gS<|.lD Z jN Hm Z<|.yw (.cast (.eql Z Z) (congrArg Value.bool i0))<|.mv Z<|.b2 (λh43=>?_) (λh43=>?_)
  ·refine .gy (.fieldAddr Z eS)<|.gy (.load Z dR Hm Z)<|.gy (.lenSl eG Z)<|.gy (.cast (.eql Z Z) (congrArg Value.bool er0))<|.pT Z<|.az Z<|.bR<|.tR<|?_
   refine yE Z Z ?_
   (rw [tb5 (.inl q58),h43];simp only [aO,aU,cW,Bool.and_false])
  refine .g4<|.pF Z<|.az Z<|.bR<|.tR<|?_
  refine yE Z Z ?_
  (rw [tb5 (.inl q58),h43];simp only [aO,aU,cW,Bool.and_false])
 have q585:¬ op=5:=λe=>aJ h37 (by rw [e];rfl);refine .rg<|.yw (.eql Z Z)<|.aq Z<|.cr Z (λh37=>?_) (λh37=>?_)
 ·have q58:op=8:=aR.1 (by have:=aI h37;show op.toNat=8;omega);refine .sr<|.fA Z gS<|.lD Z jN Hm Z<|.yw (.cast (.eql Z Z) (congrArg Value.bool i0))<|.mv Z<|.b2 (λh43=>?_) (λh43=>?_)
  ·refine .gy (.fieldAddr Z eS)<|.gy (.load Z dR Hm Z)<|.gy (.lenSl eG Z)<|.gy (.cast (.eql Z Z) (congrArg Value.bool er0))<|.pT Z<|.az Z<|.bR<|.tR<|?_
   refine yE Z Z ?_
   (rw [tb5 (.inr q58),h43];simp only [aO,aU,cW,Bool.and_false])
  refine .g4<|.pF Z<|.az Z<|.bR<|.tR<|?_
  refine yE Z Z ?_
  (rw [tb5 (.inr q58),h43];simp only [aO,aU,cW,Bool.and_false])
 have q588:¬ op=8:=λe=>aJ h37 (by rw [e];rfl);refine .sr<|.yw (.eql Z Z)<|.aq Z<|.cd Z (λh49=>?_) (λh49=>?_)
 ·have q6:op=6:=aR.1 (by have:=aI h49;show op.toNat=6;omega);refine .sr<|.fA Z gS<|.lD Z jN Hm Z<|.yw (.cast (.eql Z Z) (congrArg Value.bool i0))<|.mv Z<|.b2 (λh54=>?_) (λh54=>?_)
  ·refine .gy (.loadW Z eM Hm Z)<|.gy (.xl Z (λW s=>nW H op nm nn args 1 _ W h (λa ha=>ih a ha) s.agr))<|.pT Z<|.az Z<|.bR<|.tR<|?_
   refine yE Z Z ?_
   (rw [tb6 q6,h54];simp only [aO,aU,cW,Bool.and_false])
  refine .g2<|.pF Z<|.az Z<|.bR<|.tR<|?_
  refine yE Z Z ?_
  (rw [tb6 q6,h54];simp only [aO,aU,cW,Bool.and_false])
 have q6:¬ op=6:=λe=>aJ h49 (by rw [e];rfl);refine .sr<|.yw (.eql Z Z)<|.aq Z<|.cd Z (λh58=>?_) (λh58=>?_)
 ·have q9:op=9:=aR.1 (by have:=aI h58;show op.toNat=9;omega);refine .sr<|.fA Z gN<|.lD Z bT Hm Z<|.yw (.eqS Z Z)<|.mv Z<|.b2 (λh63=>?_) (λh63=>?_)
  ·refine .gy (.fieldAddr Z gS)<|.gy (.load Z jN Hm Z)<|.gy (.cast (.eql Z Z) (congrArg Value.bool i0))<|.pT Z<|.mv Z<|.b2 (λh68=>?_) (λh68=>?_)
   ·refine .gy (.loadW Z eM Hm Z)<|.gy (.xl Z (λW s=>nW H op nm nn args 1 _ W h (λa ha=>ih a ha) s.agr))<|.pT Z<|.az Z<|.bR<|.tR<|?_
    refine yE Z Z ?_
    (rw [tb9 q9,h63,h68];simp only [aO,aU,cW,Bool.and_false])
   refine .g2<|.pF Z<|.az Z<|.bR<|.tR<|?_
   refine yE Z Z ?_
   (rw [tb9 q9,h63,h68];simp only [aO,aU,cW,Bool.and_false])
  refine .g3<|.pF Z<|.mv Z<|.g2<|.pF Z<|.az Z<|.bR<|.tR<|?_
  refine yE Z Z ?_
  (rw [tb9 q9,h63];simp only [aO,aU,cW,Bool.and_false])
 have q9:¬ op=9:=λe=>aJ h58 (by rw [e];rfl);refine .sq<|.sr<|.yw (.eql Z Z)<|.aq Z<|.cr Z (λh72=>?_) (λh72=>?_)
 ·have qb:op=11:=aR.1 (by have:=aI h72;show op.toNat=11;omega);refine .sk<|.tN<|.cT Z<|.sr<|.fA Z gN<|.lD Z bT Hm Z<|.yw (.eqS Z Z)<|.mv Z<|.b2 (λh81=>?_) (λh81=>?_)
  ·refine .gy (.fieldAddr Z gS)<|.gy (.load Z jN Hm Z)<|.gy (.cast (.eql Z Z) (congrArg Value.bool i0))<|.pT Z<|.mv Z<|.b2 (λh86=>?_) (λh86=>?_)
   ·refine .gy (.loadW Z eM Hm Z)<|.gy (.xl Z (λW s=>nW H op nm nn args 2 _ W h (λa ha=>ih a ha) s.agr))<|.pT Z<|.az Z<|.bR<|.tR<|?_
    refine yE Z Z ?_
    (rw [tbb (.inl qb),h81,h86];simp only [aO,aU,cW,Bool.and_false])
   refine .g2<|.pF Z<|.az Z<|.bR<|.tR<|?_
   refine yE Z Z ?_
   (rw [tbb (.inl qb),h81,h86];simp only [aO,aU,cW,Bool.and_false])
  refine .g3<|.pF Z<|.mv Z<|.g2<|.pF Z<|.az Z<|.bR<|.tR<|?_
  refine yE Z Z ?_
  (rw [tbb (.inl qb),h81];simp only [aO,aU,cW,Bool.and_false])
 have qb11:¬ op=11:=λe=>aJ h72 (by rw [e];rfl);refine .sr<|.yw (.eql Z Z)<|.aq Z<|.cr Z (λh72=>?_) (λh72=>?_)
 ·have qb:op=12:=aR.1 (by have:=aI h72;show op.toNat=12;omega);refine .sk<|.tN<|.cT Z<|.sr<|.fA Z gN<|.lD Z bT Hm Z<|.yw (.eqS Z Z)<|.mv Z<|.b2 (λh81=>?_) (λh81=>?_)
  ·refine .gy (.fieldAddr Z gS)<|.gy (.load Z jN Hm Z)<|.gy (.cast (.eql Z Z) (congrArg Value.bool i0))<|.pT Z<|.mv Z<|.b2 (λh86=>?_) (λh86=>?_)
   ·refine .gy (.loadW Z eM Hm Z)<|.gy (.xl Z (λW s=>nW H op nm nn args 2 _ W h (λa ha=>ih a ha) s.agr))<|.pT Z<|.az Z<|.bR<|.tR<|?_
    refine yE Z Z ?_
    (rw [tbb (.inr (.inl qb)),h81,h86];simp only [aO,aU,cW,Bool.and_false])
   refine .g2<|.pF Z<|.az Z<|.bR<|.tR<|?_
   refine yE Z Z ?_
   (rw [tbb (.inr (.inl qb)),h81,h86];simp only [aO,aU,cW,Bool.and_false])
  refine .g3<|.pF Z<|.mv Z<|.g2<|.pF Z<|.az Z<|.bR<|.tR<|?_
  refine yE Z Z ?_
  (rw [tbb (.inr (.inl qb)),h81];simp only [aO,aU,cW,Bool.and_false])
 have qb12:¬ op=12:=λe=>aJ h72 (by rw [e];rfl);refine .sr<|.yw (.eql Z Z)<|.aq Z<|.cr Z (λh72=>?_) (λh72=>?_)
 ·have qb:op=13:=aR.1 (by have:=aI h72;show op.toNat=13;omega);refine .sk<|.tN<|.cT Z<|.sr<|.fA Z gN<|.lD Z bT Hm Z<|.yw (.eqS Z Z)<|.mv Z<|.b2 (λh81=>?_) (λh81=>?_)
  ·refine .gy (.fieldAddr Z gS)<|.gy (.load Z jN Hm Z)<|.gy (.cast (.eql Z Z) (congrArg Value.bool i0))<|.pT Z<|.mv Z<|.b2 (λh86=>?_) (λh86=>?_)
   ·refine .gy (.loadW Z eM Hm Z)<|.gy (.xl Z (λW s=>nW H op nm nn args 2 _ W h (λa ha=>ih a ha) s.agr))<|.pT Z<|.az Z<|.bR<|.tR<|?_
    refine yE Z Z ?_
    (rw [tbb (.inr (.inr (.inl qb))),h81,h86];simp only [aO,aU,cW,Bool.and_false])
   refine .g2<|.pF Z<|.az Z<|.bR<|.tR<|?_
   refine yE Z Z ?_
   (rw [tbb (.inr (.inr (.inl qb))),h81,h86];simp only [aO,aU,cW,Bool.and_false])
  refine .g3<|.pF Z<|.mv Z<|.g2<|.pF Z<|.az Z<|.bR<|.tR<|?_
  refine yE Z Z ?_
  (rw [tbb (.inr (.inr (.inl qb))),h81];simp only [aO,aU,cW,Bool.and_false])
 have qb13:¬ op=13:=λe=>aJ h72 (by rw [e];rfl);refine .sr<|.yw (.eql Z Z)<|.aq Z<|.cr Z (λh72=>?_) (λh72=>?_)
 ·have qb:op=14:=aR.1 (by have:=aI h72;show op.toNat=14;omega);refine .sk<|.tN<|.cT Z<|.sr<|.fA Z gN<|.lD Z bT Hm Z<|.yw (.eqS Z Z)<|.mv Z<|.b2 (λh81=>?_) (λh81=>?_)
  ·refine .gy (.fieldAddr Z gS)<|.gy (.load Z jN Hm Z)<|.gy (.cast (.eql Z Z) (congrArg Value.bool i0))<|.pT Z<|.mv Z<|.b2 (λh86=>?_) (λh86=>?_)
   ·refine .gy (.loadW Z eM Hm Z)<|.gy (.xl Z (λW s=>nW H op nm nn args 2 _ W h (λa ha=>ih a ha) s.agr))<|.pT Z<|.az Z<|.bR<|.tR<|?_
    refine yE Z Z ?_
    (rw [tbb (.inr (.inr (.inr (.inl qb)))),h81,h86];simp only [aO,aU,cW,Bool.and_false])
   refine .g2<|.pF Z<|.az Z<|.bR<|.tR<|?_
   refine yE Z Z ?_
   (rw [tbb (.inr (.inr (.inr (.inl qb)))),h81,h86];simp only [aO,aU,cW,Bool.and_false])
  refine .g3<|.pF Z<|.mv Z<|.g2<|.pF Z<|.az Z<|.bR<|.tR<|?_
  refine yE Z Z ?_
  (rw [tbb (.inr (.inr (.inr (.inl qb)))),h81];simp only [aO,aU,cW,Bool.and_false])
 have qb14:¬ op=14:=λe=>aJ h72 (by rw [e];rfl);refine .rg<|.yw (.eql Z Z)<|.aq Z<|.cr Z (λh72=>?_) (λh72=>?_)
 ·have qb:op=15:=aR.1 (by have:=aI h72;show op.toNat=15;omega);refine .sr<|.fA Z gN<|.lD Z bT Hm Z<|.yw (.eqS Z Z)<|.mv Z<|.b2 (λh81=>?_) (λh81=>?_)
  ·refine .gy (.fieldAddr Z gS)<|.gy (.load Z jN Hm Z)<|.gy (.cast (.eql Z Z) (congrArg Value.bool i0))<|.pT Z<|.mv Z<|.b2 (λh86=>?_) (λh86=>?_)
   ·refine .gy (.loadW Z eM Hm Z)<|.gy (.xl Z (λW s=>nW H op nm nn args 2 _ W h (λa ha=>ih a ha) s.agr))<|.pT Z<|.az Z<|.bR<|.tR<|?_
    refine yE Z Z ?_
    (rw [tbb (.inr (.inr (.inr (.inr qb)))),h81,h86];simp only [aO,aU,cW,Bool.and_false])
   refine .g2<|.pF Z<|.az Z<|.bR<|.tR<|?_
   refine yE Z Z ?_
   (rw [tbb (.inr (.inr (.inr (.inr qb)))),h81,h86];simp only [aO,aU,cW,Bool.and_false])
  refine .g3<|.pF Z<|.mv Z<|.g2<|.pF Z<|.az Z<|.bR<|.tR<|?_
  refine yE Z Z ?_
  (rw [tbb (.inr (.inr (.inr (.inr qb)))),h81];simp only [aO,aU,cW,Bool.and_false])
 have qb15:¬ op=15:=λe=>aJ h72 (by rw [e];rfl);refine .sk<|.bN<|.tN<|.sr<|.az Z<|?_
 refine yE Z Z ?_
 (rw [tbn q1 q4 q585 q588 q6 q9 qb11 qb12 qb13 qb14 qb15])
theorem cT2 {op:UInt8} :decide ((16:Int)<=((op.toNat:Nat):Int))=decide (16<=op.toNat):=by rw [aQ,aB,aB];omega
theorem cT0 {op:UInt8} :decide (((op.toNat:Nat):Int)<=21)=decide (op.toNat<=21):=by rw [aQ,aB,aB];omega
theorem JZ {op:UInt8} {nm:Str} {n:Int64} {args:List Ex} :KA (.mk op nm n args)=(decide (16<=op.toNat) && decide (op.toNat<=21) && decide (nm=[]) && decide (n=0) && (args.all eI && decide (args.length=2))):=by rw [<-wH];rfl
theorem aR6 (H:Hp) (e:Ex) (cs:List Value) (w:World) (h:Rep H (dEx .u8 e) cs) (hA:Agr H w):Calls prg 80 #[.agg cs.toArray] w λr w'=>r=.returned (.bool (KA e))/\Ext w w':=by
 obtain ⟨op,nm,nn,args⟩:=e;obtain ⟨pp,c,rfl,hs,hnm⟩:=eV h;refine Sx.enter (H:=H) func80 rfl ntmps80 rfl hA ?_;refine .sr<|.bx Z Z Z λb1=>.a Z Z<|.ns<|.fA Z hP<|.lD Z kO Hm Z<|.yw (.cast (.geq Z Z) (congrArg Value.bool (cT2)))<|.mv Z<|.b2 (λh6=>?_) (λh6=>?_)
 ·refine .gy (.fieldAddr Z hP)<|.gy (.load Z kO Hm Z)<|.gy (.cast (.leq Z Z) (congrArg Value.bool (cT0)))<|.pT Z<|.mv Z<|.b2 (λh11=>?_) (λh11=>?_)
  ·refine .gy (.fieldAddr Z gN)<|.gy (.load Z bT Hm Z)<|.gy (.eqS Z Z)<|.pT Z<|.mv Z<|.b2 (λh16=>?_) (λh16=>?_)
   ·refine .gy (.fieldAddr Z gS)<|.gy (.load Z jN Hm Z)<|.gy (.cast (.eql Z Z) (congrArg Value.bool i0))<|.pT Z<|.mv Z<|.b2 (λh21=>?_) (λh21=>?_)
    ·refine .gy (.loadW Z eM Hm Z)<|.gy (.xl Z (λW s=>nW H op nm nn args 2 _ W h (λa _=>BN H a) s.agr))<|.pT Z<|.az Z<|?_
     refine yE Z Z ?_
     (rw [JZ,h6,h11,h16,h21];simp only [aO,aU,cW,Bool.and_false])
    refine .g2<|.pF Z<|.az Z<|?_
    refine yE Z Z ?_
    (rw [JZ,h6,h11,h16,h21];simp only [aO,aU,cW,Bool.and_false])
   refine .g3<|.pF Z<|.mv Z<|.g2<|.pF Z<|.az Z<|?_
   refine yE Z Z ?_
   (rw [JZ,h6,h11,h16];simp only [aO,aU,cW,Bool.and_false])
  refine .g3<|.pF Z<|.mv Z<|.g3<|.pF Z<|.mv Z<|.g2<|.pF Z<|.az Z<|?_
  refine yE Z Z ?_
  (rw [JZ,h6,h11];simp only [aO,aU,cW,Bool.and_false])
 refine .g3<|.pF Z<|.mv Z<|.g3<|.pF Z<|.mv Z<|.g3<|.pF Z<|.mv Z<|.g2<|.pF Z<|.az Z<|?_
 refine yE Z Z ?_
 (rw [JZ,h6];simp only [aO,aU,cW,Bool.and_false])
def aL2 (e:Ex):Bool:=!CM e && !eI e
theorem cJ2 {e:Ex} :aL2 e=(!CM e && !eI e):=rfl
theorem YG (H:Hp) (e:Ex):EFn H 77 [] aL2 e:=by
 intro cs w h hA;obtain ⟨op,nm,nn,args⟩:=e;obtain ⟨pp,c,rfl,hs,hnm⟩:=eV h;refine Sx.enter (H:=H) func77 rfl ntmps77 rfl hA ?_;refine .sr<|.bx Z Z Z λb1=>.a Z Z<|.ns<|.yw (.loadW Z eM Hm Z)<|.yw (.xl Z (λW s=>aR7 H _ _ W h s.agr))<|.yw (.not Z)<|.mv Z<|.b2 (λh6=>?_) (λh6=>?_)
 ·refine .gy (.loadW Z eM Hm Z)<|.gy (.xl Z (λW s=>BN H _ _ W h s.agr))<|.gy (.not Z)<|.pT Z<|.az Z<|?_
  refine yE Z Z ?_
  (rw [cJ2,h6,aO])
 refine .g3<|.pF Z<|.az Z<|?_
 refine yE Z Z ?_
 (rw [cJ2,h6];rfl)
theorem gtn:decide (((k:Nat):Int)<((n:Nat):Int))=decide (k<n):=by rw [aQ,aB,aB];omega
theorem HQ (H:Hp) (e:Ex) (n b:Nat) (hd:e.depth<=1000000) (hm:lW H b 0 [iN n]):EFn H 72 [.pointer (dI b)] (λe=>decide (n<e.depth)) e:=by
 intro cs w h hA;obtain ⟨op,nm,nn,args⟩:=e;obtain ⟨pp,c,rfl,hs,hnm⟩:=eV h;refine Sx.enter (H:=H) func72 rfl ntmps72 rfl hA ?_;refine .sr<|.bx Z Z Z λb2=>.aq Z<|.sq<|.fL 4 [(0,0),(1,0),(2,0),(3,0)]<|.yw (.loadW Z eM Hm Z)<|.yw (.xl Z (λW s=>QO _ H _ W h hd s.agr))<|.yw (.loadM Z bQ hm (k:=0) Z Z)<|.yw (.cast (.gtr Z Z) (congrArg Value.bool gtn))<|.fn (tl:=[_]) Z<|.az Z<|?_
 exact yE Z Z Z
theorem KC {n:Str} (h:(eN n).isSome=true):zJ n=(gL (spA n) && gL (spB n)):=by
 unfold zJ spA spB;cases hs:eN n with
 | some x=>rfl
 | none=>rw [hs] at h;cases h
theorem aG0 {n:Str} (h:(eN n).isSome=false):zJ n=false:=by
 unfold zJ;cases hs:eN n with
 | none=>rfl
 | some x=>rw [hs] at h;cases h
theorem MD (n:Str):(spA n).length<=n.length:=by
 unfold spA;rcases xZ n with ⟨i,_,hi,e⟩ | ⟨_,e⟩
 ·rw [e];show (n.take i).length<=_;rw [dG];omega
 ·rw [e];exact aN _
theorem MC (n:Str):(spB n).length<=n.length:=by
 unfold spB;rcases xZ n with ⟨i,_,hi,e⟩ | ⟨_,e⟩
 ·rw [e];show (n.drop (i+1)).length<=_;rw [dA];omega
 ·rw [e];exact aN _
theorem yG:∀ l,LB l=l.any oT
 | []=>rfl
 | e::r=>by rw [LB,List.any_cons,yG r]
theorem cH5 {op:UInt8} {nm:Str} {n:Int64} {args:List Ex} (h:op=5):oT (.mk op nm n args)=((!zJ nm && !gL nm) || args.any oT):=by subst h;rw [oT,yG];simp
theorem bV7 {op:UInt8} {nm:Str} {n:Int64} {args:List Ex} (h:op=6\/op=8):oT (.mk op nm n args)=(!zJ nm || args.any oT):=by rcases h with rfl | rfl <;> (rw [oT,yG];simp)
theorem cS9 {op:UInt8} {nm:Str} {n:Int64} {args:List Ex} (h:¬ op=5) (h6:¬ op=6) (h8:¬ op=8):oT (.mk op nm n args)=args.any oT:=by rw [oT,yG,aL h,aL h6,aL h8];rfl
theorem UY (H:Hp) (G:Gl H) (e:Ex):EFn H 76 [] oT e:=by
 induction e using Ex.ind with | _ op nm nn args ih
 intro cs w h hA;obtain ⟨pp,c,rfl,hs,hnm⟩:=eV h;have hA':Agr H w:=hA;refine Sx.enter (H:=H) func76 rfl ntmps76 rfl hA ?_;refine .sr<|.bx Z Z Z λb1=>.a Z Z<|.ns<|.fA Z gN<|.lD Z bT Hm Z<|.yw (.xl Z (λW s=>RL nm aD W))<|.mv Z<|.yw (.extract Z Z)<|.yw (.extract Z Z)<|.yw (.extract Z Z)<|.a Z Z<|.a Z Z<|.aq Z<|.cu (X:=Bool) [(1,_)] ⟨Z,Jt⟩ (λz=>[(6,.bool z)]) (λz=>H) (λz=>[.box b1 [.int .u8 op.toNat,bJ nm,.int .i64 nn.toInt,.slice pp args.length c] 76]) (λz=>z=zJ nm) ?_ λz hC=>?_
 ·
  refine .rg<|.mv Z<|.mv Z<|.b2 (λh15=>?_) (λh15=>?_)
  ·refine .gy (.move Z)<|.gy (.xl Z (λW s=>vM H G (spA nm) (by have:=MD nm;have:=MC nm;omega) W s.agr))<|.pT Z<|.mv Z<|.b2 (λh19=>?_) (λh19=>?_)
   ·exact .gy (.move Z)<|.gy (.xl Z (λW s=>vM H G (spB nm) (by have:=MD nm;have:=MC nm;omega) W s.agr))<|.pT Z<|.aq Z<|.me _ ⟨Z,Jt⟩ ⟨Z,Jt⟩ (λ_ s=>s) (by first | (rw [KC h15,h19,aO]) | (rw [KC h15,h19];rfl) | (rw [aG0 h15]))
   exact .g2<|.pF Z<|.aq Z<|.me _ ⟨Z,Jt⟩ ⟨Z,Jt⟩ (λ_ s=>s) (by first | (rw [KC h15,h19,aO]) | (rw [KC h15,h19];rfl) | (rw [aG0 h15]))
  exact .g2<|.pF Z<|.mv Z<|.g2<|.pF Z<|.aq Z<|.me _ ⟨Z,Jt⟩ ⟨Z,Jt⟩ (λ_ s=>s) (by first | (rw [KC h15,h19,aO]) | (rw [KC h15,h19];rfl) | (rw [aG0 h15]))
 have eb:=hC;refine .sq<|.sr<|.fA Z hP<|.lD Z kO Hm Z<|.nt<|.bk<|.sr<|.yw (.eql Z Z)<|.aq Z<|.cd Z (λh25=>?_) (λh25=>?_)
 ·have q5:op=5:=aR.1 (by have:=aI h25;show op.toNat=5;omega);refine .sm Z<|.yw (.not Z)<|.mv Z<|.b2 (λh29=>?_) (λh29=>?_)
  ·refine .gy (.fieldAddr Z gN)<|.gy (.load Z bT Hm Z)<|.gy (.xl Z (λW s=>vM H G nm (by have:=MD nm;have:=MC nm;omega) W s.agr))<|.gy (.not Z)<|.pT Z<|.nt<|.cd Z (λh34=>?_) (λh34=>?_)
   ·refine .sr<|.az Z<|.bR<|.tR<|?_
    refine yE Z Z ?_
    (rw [cH5 q5,<-eb,h29,h34];rfl)
   refine .sk<|.bN<|.tN<|.sr<|.fA Z eS<|.lD Z dR Hm Z<|.yw (.xl Z (λW s=>mT H 76 [] oT args hs xR (λa ha=>ih a ha) W s.agr))<|.az Z<|?_
   refine yE Z Z ?_
   (rw [cH5 q5,<-eb,h29,h34];rfl)
  refine .g4<|.pF Z<|.nt<|.cF Z<|.sk<|.bN<|.tN<|.sr<|.fA Z eS<|.lD Z dR Hm Z<|.yw (.xl Z (λW s=>mT H 76 [] oT args hs xR (λa ha=>ih a ha) W s.agr))<|.az Z<|?_
  refine yE Z Z ?_
  (rw [cH5 q5,<-eb,h29];rfl)
 have q5:¬ op=5:=λe=>aJ h25 (by rw [e];rfl);refine .sq<|.sr<|.yw (.eql Z Z)<|.aq Z<|.cr Z (λh35=>?_) (λh35=>?_)
 ·have q68:op=6:=aR.1 (by have:=aI h35;show op.toNat=6;omega);refine .sk<|.tN<|.cT Z<|.sm Z<|.yw (.not Z)<|.nt<|.cd Z (λh39=>?_) (λh39=>?_)
  ·refine .sr<|.az Z<|.bR<|.tR<|?_
   refine yE Z Z ?_
   (rw [bV7 (.inl q68),<-eb,h39];rfl)
  refine .sk<|.bN<|.tN<|.sr<|.fA Z eS<|.lD Z dR Hm Z<|.yw (.xl Z (λW s=>mT H 76 [] oT args hs xR (λa ha=>ih a ha) W s.agr))<|.az Z<|?_
  refine yE Z Z ?_
  (rw [bV7 (.inl q68),<-eb,h39];rfl)
 have q686:¬ op=6:=λe=>aJ h35 (by rw [e];rfl);refine .rg<|.yw (.eql Z Z)<|.aq Z<|.cr Z (λh35=>?_) (λh35=>?_)
 ·have q68:op=8:=aR.1 (by have:=aI h35;show op.toNat=8;omega);refine .sm Z<|.yw (.not Z)<|.nt<|.cd Z (λh39=>?_) (λh39=>?_)
  ·refine .sr<|.az Z<|.bR<|.tR<|?_
   refine yE Z Z ?_
   (rw [bV7 (.inr q68),<-eb,h39];rfl)
  refine .sk<|.bN<|.tN<|.sr<|.fA Z eS<|.lD Z dR Hm Z<|.yw (.xl Z (λW s=>mT H 76 [] oT args hs xR (λa ha=>ih a ha) W s.agr))<|.az Z<|?_
  refine yE Z Z ?_
  (rw [bV7 (.inr q68),<-eb,h39];rfl)
 have q688:¬ op=8:=λe=>aJ h35 (by rw [e];rfl);refine .sk<|.bN<|.tN<|.sr<|.fA Z eS<|.lD Z dR Hm Z<|.yw (.xl Z (λW s=>mT H 76 [] oT args hs xR (λa ha=>ih a ha) W s.agr))<|.az Z<|?_
 refine yE Z Z ?_
 (rw [cS9 q5 q686 q688])
def FFn (H:Hp) (gf:FuncId) (q:Fm->Bool) (f:Fm):Prop:=∀ (cs:List Value) (W:World),Rep H (dFm .u8 f) cs->Agr H W->Calls prg gf #[.agg cs.toArray] W λr W'=>r=.returned (.bool (q f))/\Ext W W'
theorem aL4 (q:Fm->Bool):∀ l,Fm.alls q l=l.all (Fm.all q)
 | []=>rfl
 | f::r=>by rw [Fm.alls,gJ,aL4 q r]
theorem VG (q:Fm->Bool) (op:UInt8) (nm fd:Str) (a b:Int64) (ex:List Ex) (args:List Fm):Fm.all q (.mk op nm fd a b ex args)=(q (.mk op nm fd a b ex args) && args.all (Fm.all q)):=by rw [Fm.all,aL4]
theorem ES {l:List Fm} {p:Fm->Bool} (hk:k<l.length) (h:(l.take k).all p=true) (hp:p l[k]=true):(l.take (k+1)).all p=true:=by
 rw [List.take_succ,List.all_append,h,List.getElem?_eq_getElem hk];simp [hp]
theorem MZ {l:List Fm} {p:Fm->Bool} (hk:k<l.length) (hp:p l[k]=false):l.all p=false:=List.all_eq_false.2 ⟨_,aX hk,by rw [hp];decide⟩
theorem JX (H:Hp) (gf:FuncId) (q p:Fm->Bool) (hf:kM prg gf=true) (hg:∀ f,p f=true->FFn H gf q f) (f:Fm):f.all p=true->∀ (cs:List Value) (w:World),Rep H (dFm .u8 f) cs->Agr H w ->
 Calls prg 35 #[.agg cs.toArray,.func (.func gf) #[] #[]] w λr w'=>r=.returned (.bool (f.all q))/\Ext w w':=by
 induction f using Fm.ind with | _ op nm fd a b ex args ih
 intro hp cs w h hA;rw [VG,aE] at hp;obtain ⟨p1,c1,p2,c2,rfl,hs1,hs2,hnm,hfd⟩:=gK h;have hcap:=hs2.cap;refine Sx.enter (H:=H) func35 rfl ntmps35 rfl hA ?_;refine .sr<|.bx Z Z Z λb2=>.aq Z<|.sq<|.sm Z<|.yw (.loadW Z cQ Hm Z)<|.yw (.callV (fi:=[]) (ca:=[]) Z hf Z (λW s=>hg _ hp.1 _ W h s.agr))<|.yw (.not Z)<|.nt<|.cd Z (λh10=>?_) (λh10=>?_)
 ·refine .sr<|.az Z<|.tR<|?_
  refine yE Z Z ?_
  (rw [VG,show q (.mk op nm fd a b ex args)=false by simpa using h10];rfl)
 refine .sk<|.tN<|.sq<|.sr<|.fA Z dQ<|.lD Z gM Hm Z<|.yw (.lenSl fJ Z)<|.mv Z<|.nt<|.bk<|.lp (X:=Nat) [(1,_),(12,_),(13,_)] ⟨Z,Z,Z,Jt⟩ [_] (λk=>[(14,iN k)]) (λk=>H) (λk=>[]) (λk=>k<=args.length/\(args.take k).all (Fm.all q)=true) (λk=>args.length - k) 0 (λ_ s=>s) ⟨Z,Jt⟩ ⟨aN _,Z⟩ λk hC=>?_
 obtain ⟨hk0,hal⟩:=hC;refine .sr<|.yw (.lss Z Z)<|.nt<|.sq<|.ce Z (λh15=>?_) (λh15=>?_)
 ·have hk:k<args.length:=aD
  obtain ⟨bE,oE,cE,hpE,rE,lE,mE⟩:=hs2.elem (eR (f:=dFm .u8) hk);cases hpE;have hpk:=bD.1 hp.2 _ (aX hk);refine .sk<|.tN<|.sq<|.bk<|.sr<|.yw (.indexSl fJ Z Z Z aD (q:=oE+k * 7) Z)<|.yw (.loadMW Z cQ mE lE)<|.al fB Z λb6=>.sV .head Z Z dK lE rE.one Z<|.ns<|.yw (.loadW Z cQ Hm lE)<|.mv Z<|.yw (.xl Z (λW s=>ih _ (aX hk) hpk cE W rE s.agr))<|.yw (.not Z)<|.nt<|.cd Z (λh21=>?_) (λh21=>?_)
  ·refine .sr<|.az Z<|.bR<|.tR<|.tR<|.bR<|.tR<|?_
   refine yE Z Z ?_
   (rw [VG,MZ hk (by simpa using h21)];simp)
  exact .sk<|.bN<|.tN<|.rg<|.yw (.add Z Z w7)<|.mv Z<|.nt<|.ag (k+1) ⟨Z,Jt⟩ ⟨Z,Z,Z,Jt⟩ (λ_ s=>s.pick [1] [_] Z Z) ⟨aD,ES hk hal (by simpa using h21)⟩ aD
 obtain rfl:k=args.length:=aD
 rw [bW] at hal;refine .ex<|.eb<|.sr<|.az Z<|?_
 refine yE Z Z ?_
 (rw [VG,hal,show q (.mk op nm fd a b ex args)=true by simpa using h10];rfl)
theorem XE (H:Hp) (f:Fm) (hd:(λf:Fm=>f.ex.all λe=>decide (e.depth<=1000000)) f=true):FFn H 36 rM f:=by
 intro cs w h hA;obtain ⟨op,nm,fd,a,b,ex,args⟩:=f;obtain ⟨p1,c1,p2,c2,rfl,hs1,hs2,hnm,hfd⟩:=gK h;refine Sx.enter (H:=H) func36 rfl ntmps36 rfl hA ?_;refine .sr<|.bx Z Z Z λb1=>.a Z Z<|.ns<|.al bO8 Z λb3=>.st .head Z Z iM Z (nb Z) Z<|.nt<|.sq<|.sr<|.fA Z eY<|.lD Z iP cU Z<|.yw (.eql Z Z)<|.nt<|.cd Z (λh6=>?_) (λh6=>?_)
 ·have q3:op=3:=aR.1 (by have:=aI h6;show op.toNat=3;omega);refine .rg<|.lD Z bQ Hm Z<|.yw (.add Z Z (c:=((9:Nat):Int)) aS)<|.st .head Z Z iM Z (nb Z) Z<|.nt<|.sq<|?_
  refine xP λH1 u1 m1=>?_;refine .rg<|.fA Z dB<|.lD Z dR Hm Z<|.yw (.mkF Z Z)<|.yw (.xl Z (λW s=>mT H1 72 [.pointer (dI b3)] (λe=>decide (9<e.depth)) ex (hs1.up u1.up) TP (λa ha=>HQ H1 a 9 b3 (by have:=bD.1 hd a ha;exact aI this) m1) W s.agr))<|.yw (.not Z)<|.az Z<|?_
  refine yE Z Z ?_
  (unfold rM;rw [show (Fm.mk op nm fd a b ex args).op=3 from q3];rfl)
 have q3:¬ op=3:=λe=>aJ h6 (by rw [e];rfl);refine .sk<|.tN<|.sq<|?_
 refine xP λH1 u1 m1=>?_;refine .rg<|.fA Z dB<|.lD Z dR Hm Z<|.yw (.mkF Z Z)<|.yw (.xl Z (λW s=>mT H1 72 [.pointer (dI b3)] (λe=>decide (8<e.depth)) ex (hs1.up u1.up) TP (λa ha=>HQ H1 a 8 b3 (by have:=bD.1 hd a ha;exact aI this) m1) W s.agr))<|.yw (.not Z)<|.az Z<|?_
 refine yE Z Z ?_
 (unfold rM;simp only [show ¬ (Fm.mk op nm fd a b ex args).op=3 from q3,cZ];rfl)
variable {a:Int64}
theorem aD3 {op:UInt8} {nm fd:Str} {b:Int64} {ex:List Ex} {args:List Fm} :rN (.mk op nm fd a b ex args)=(!((cK op).nm && !gL nm || (cK op).fd && !gL fd) && !ex.any oT):=by rw [<-yG];rfl
theorem aR1 (H:Hp) (G:Gl H) (Gt:Gf H) (f:Fm):FFn H 37 rN f:=by
 intro cs w h hA;obtain ⟨op,nm,fd,a,b,ex,args⟩:=f;obtain ⟨p1,c1,p2,c2,rfl,hs1,hs2,hnm,hfd⟩:=gK h;refine Sx.enter (H:=H) func37 rfl ntmps37 rfl hA ?_;refine .sr<|.bx Z Z Z λb1=>.a Z Z<|.ns<|.fA Z eY<|.lD Z iP Hm Z<|.yw (.xl (v:=.agg (fsC (cK op)).toArray) Z (λW s=>qC H Gt op W s.agr))<|.al GY Z λb3=>.sW .head Z Z BU (by simp [fsC,Value.oneCell',bJ]) Z<|.nt<|.sq<|.cu (X:=Bool) [(1,_)] ⟨Z,Jt⟩ (λz=>[(24,.bool z)]) (λz=>H) (λz=>[.box b3 (fsC (cK op)) 157,.box b1 [.int .u8 op.toNat,bJ nm,bJ fd,.int .i64 a.toInt,.int .i64 b.toInt,.slice p1 ex.length c1,.slice p2 args.length c2] 35]) (λz=>z=((cK op).nm && !gL nm || (cK op).fd && !gL fd)) ?_ λz hC=>?_
 ·
  refine .rg<|.fA Z FP<|.lD Z kW Hm Z<|.mv Z<|.b2 (λh9=>?_) (λh9=>?_)
  ·refine .gy (.fieldAddr Z gP)<|.gy (.load Z bT cU Z)<|.gy (.xl Z (λW s=>vM H G nm aD W s.agr))<|.gy (.not Z)<|.pT Z<|.mv Z<|.b2 (λh15=>?_) (λh15=>?_)
   ·exact .g3<|.gV<|.gV<|.gV<|.gV<|.gG<|.pT Z<|.nt<|.me _ ⟨Z,Jt⟩ ⟨Z,Jt⟩ (λ_ s=>s) (by first | simp only [h9,h15,h18,aO,aU,Bool.true_or,aT] | simp only [h9,h15,aO,aU,Bool.true_or,aT] | simp only [h9,h18,aO,aU,Bool.true_or,aT])
   refine .gy (.fieldAddr Z wA)<|.gy (.load Z kW Hm Z)<|.gy (.move Z)<|.b2 (λh18=>?_) (λh18=>?_)
   ·exact .gy (.fieldAddr Z gO)<|.gy (.load Z bT cU Z)<|.gy (.xl Z (λW s=>vM H G fd aD W s.agr))<|.gy (.not Z)<|.gy (.pickT Z Z)<|.pF Z<|.nt<|.me _ ⟨Z,Jt⟩ ⟨Z,Jt⟩ (λ_ s=>s) (by first | simp only [h9,h15,h18,aO,aU,Bool.true_or,aT] | simp only [h9,h15,aO,aU,Bool.true_or,aT] | simp only [h9,h18,aO,aU,Bool.true_or,aT])
   exact .g4<|.gy (.pickF Z Z)<|.pF Z<|.nt<|.me _ ⟨Z,Jt⟩ ⟨Z,Jt⟩ (λ_ s=>s) (by first | simp only [h9,h15,h18,aO,aU,Bool.true_or,aT] | simp only [h9,h15,aO,aU,Bool.true_or,aT] | simp only [h9,h18,aO,aU,Bool.true_or,aT])
  refine .g4<|.pF Z<|.mv Z<|.gy (.fieldAddr Z wA)<|.gy (.load Z kW Hm Z)<|.gy (.move Z)<|.b2 (λh18=>?_) (λh18=>?_)
  ·exact .gy (.fieldAddr Z gO)<|.gy (.load Z bT cU Z)<|.gy (.xl Z (λW s=>vM H G fd aD W s.agr))<|.gy (.not Z)<|.gy (.pickT Z Z)<|.pF Z<|.nt<|.me _ ⟨Z,Jt⟩ ⟨Z,Jt⟩ (λ_ s=>s) (by first | simp only [h9,h15,h18,aO,aU,Bool.true_or,aT] | simp only [h9,h15,aO,aU,Bool.true_or,aT] | simp only [h9,h18,aO,aU,Bool.true_or,aT])
  exact .g4<|.gy (.pickF Z Z)<|.pF Z<|.nt<|.me _ ⟨Z,Jt⟩ ⟨Z,Jt⟩ (λ_ s=>s) (by first | simp only [h9,h15,h18,aO,aU,Bool.true_or,aT] | simp only [h9,h15,aO,aU,Bool.true_or,aT] | simp only [h9,h18,aO,aU,Bool.true_or,aT])
 have en:=hC;refine .cd Z (λh24=>?_) (λh24=>?_)
 ·refine .sr<|.az Z<|.tR<|?_
  refine yE Z Z ?_
  (rw [aD3,<-en,h24];rfl)
 refine .sk<|.tN<|.sr<|.fA Z dB<|.lD Z dR cU Z<|.yw (.xl Z (λW s=>mT H 76 [] oT ex hs1 xR (λa _=>UY H G a) W s.agr))<|.yw (.not Z)<|.az Z<|?_
 refine yE Z Z ?_
 (rw [aD3,<-en,h24];rfl)
theorem DH (op:UInt8):(cK op).ar<=2/\(cK op).ex<=1:=pK (q:=λop=>(cK op).ar<=2/\(cK op).ex<=1) qS op
theorem nn0:decide (¬ ((n:Nat):Int)=((k:Nat):Int))=!decide (n=k):=by rw [<-n0,decide_not]
theorem le4:decide (((n:Nat):Int)<=4)=decide (n<=4):=by rw [aQ,aB,aB];omega
theorem MR {op:UInt8} {nm fd:Str} {b:Int64} {ex:List Ex} {args:List Fm} :jJ (.mk op nm fd a b ex args)=(decide (¬ (cK op).lv=0) && ((cK op).nm || decide (nm=[])) && ((cK op).fd || decide (fd=[])) && decide (args.length=(cK op).ar) && DU (.mk op nm fd a b ex args) && vN (.mk op nm fd a b ex args)):=rfl
theorem bI5 {op:UInt8} {nm fd:Str} {b:Int64} {ex:List Ex} {args:List Fm} (h:(decide ((cK op).lv=0) || (!(cK op).nm && !decide (nm=[])) || (!(cK op).fd && !decide (fd=[])) || !decide (args.length=(cK op).ar))=true):jJ (.mk op nm fd a b ex args)=false:=by
 rw [MR,decide_not];generalize decide ((cK op).lv=0)=x1 at *;generalize (cK op).nm=x2 at *;generalize decide (nm=[])=x3 at *;generalize (cK op).fd=x4 at *;generalize decide (fd=[])=x5 at *;generalize decide (args.length=(cK op).ar)=x6 at *;generalize DU (.mk op nm fd a b ex args)=x7;generalize vN (.mk op nm fd a b ex args)=x8
 revert h
 cases x1 <;> cases x2 <;> cases x3 <;> cases x4 <;> cases x5 <;> cases x6 <;> simp
theorem OZ {op:UInt8} {nm fd:Str} {b:Int64} {ex:List Ex} {args:List Fm} (h:DU (.mk op nm fd a b ex args)=false):jJ (.mk op nm fd a b ex args)=false:=by rw [MR,h,Bool.and_false,aU]
theorem xG {op:UInt8} {nm fd:Str} {b:Int64} {ex:List Ex} {args:List Fm} (h:(decide ((cK op).lv=0) || (!(cK op).nm && !decide (nm=[])) || (!(cK op).fd && !decide (fd=[])) || !decide (args.length=(cK op).ar))=false) (hb:DU (.mk op nm fd a b ex args)=true):jJ (.mk op nm fd a b ex args)=vN (.mk op nm fd a b ex args):=by
 rw [MR,decide_not,hb];generalize decide ((cK op).lv=0)=x1 at *;generalize (cK op).nm=x2 at *;generalize decide (nm=[])=x3 at *;generalize (cK op).fd=x4 at *;generalize decide (fd=[])=x5 at *;generalize decide (args.length=(cK op).ar)=x6 at *
 revert h
 cases x1 <;> cases x2 <;> cases x3 <;> cases x4 <;> cases x5 <;> cases x6 <;> simp
theorem cK9 {n:Int64} :(n=0)=(n.toInt=0):=by have:=@i0 n;rw [aQ,aB,aB] at this;exact propext this.symm
theorem DT {op:UInt8} {nm fd:Str} {b:Int64} {ex:List Ex} {args:List Fm} (h:(cK op).wn=true):DU (.mk op nm fd a b ex args)=decide ((a.toInt=0/\b.toInt=-1)\/(0<=a.toInt/\a.toInt<=b.toInt/\b.toInt<=200)):=by
 unfold DU;rw [aK (show (cK (Fm.mk op nm fd a b ex args).op).wn=true from h),aQ];show ((decide (a=0) && decide (b.toInt=-1)) || (decide (0<=a.toInt) && decide (a.toInt<=b.toInt) && decide (b.toInt<=200)))=true↔_;rw [aW,aE,aE,aE,aB,aB,aB,aB,aB,aB,cK9];omega
theorem LJ {op:UInt8} {nm fd:Str} {b:Int64} {ex:List Ex} {args:List Fm} (h:(cK op).wn=false) (h2:(cK op).am=true):DU (.mk op nm fd a b ex args)=decide (-1000000<=a.toInt/\a.toInt<=b.toInt/\b.toInt<=1000000/\b.toInt - a.toInt<32):=by
 unfold DU;rw [aA (show ¬ (cK (Fm.mk op nm fd a b ex args).op).wn=true by show ¬ (cK op).wn=true;rw [h];decide),aK (show (cK (Fm.mk op nm fd a b ex args).op).am=true from h2),aQ];show (decide (-1000000<=a.toInt) && decide (a.toInt<=b.toInt) && decide (b.toInt<=1000000) && decide (b.toInt - a.toInt<32))=true↔_;rw [aE,aE,aE,aB,aB,aB,aB,aB];omega
theorem TE {op:UInt8} {nm fd:Str} {b:Int64} {ex:List Ex} {args:List Fm} (h:(cK op).wn=false) (h2:(cK op).am=false):DU (.mk op nm fd a b ex args)=decide (a.toInt=0/\b.toInt=0):=by
 unfold DU;rw [aA (show ¬ (cK (Fm.mk op nm fd a b ex args).op).wn=true by show ¬ (cK op).wn=true;rw [h];decide),aA (show ¬ (cK (Fm.mk op nm fd a b ex args).op).am=true by show ¬ (cK op).am=true;rw [h2];decide),aQ];show (decide (a=0) && decide (b=0))=true↔_;rw [aE,aB,aB,aB,cK9,cK9]
theorem cB0 {l:List Ex} :(!l.any aL2)=l.all λe=>CM e || eI e:=by
 induction l with
 | nil=>rfl
 | cons e r ih=>rw [List.any_cons,gJ,<-ih,cJ2];cases CM e <;> cases eI e <;> simp
theorem bZ3 {op:UInt8} {nm fd:Str} {b:Int64} {ex:List Ex} {args:List Fm} (h:op=7):vN (.mk op nm fd a b ex args)=(decide (ex.length<=4) && ex.all λe=>CM e || eI e):=by unfold vN;rw [aK (show (Fm.mk op nm fd a b ex args).op=7 from h)];rfl
theorem aS7 {op:UInt8} {nm fd:Str} {b:Int64} {ex:List Ex} {args:List Fm} (h:¬ op=7):vN (.mk op nm fd a b ex args)=(decide (ex.length=(cK op).ex) && (if op=3 then KA (ex.headD (.mk 0 [] 0 [])) else if op=5 then eI (ex.headD (.mk 0 [] 0 [])) else if op=18 then decide ((ex.headD (.mk 0 [] 0 [])).op=1) && eI (ex.headD (.mk 0 [] 0 [])) && decide ((ex.headD (.mk 0 [] 0 [])).n.toInt<=32) else true)):=by unfold vN;rw [aA (show ¬ (Fm.mk op nm fd a b ex args).op=7 from h)];rfl
theorem bZ2 {op:UInt8} {nm fd:Str} {b:Int64} {ex:List Ex} {args:List Fm} (h:¬ op=7) (h2:¬ ex.length=(cK op).ex):vN (.mk op nm fd a b ex args)=false:=by rw [aS7 h,aL h2];rfl
theorem cT4 {op:UInt8} {nm fd:Str} {b:Int64} {ex:List Ex} {args:List Fm} (h:¬ op=7) (h2:ex.length=(cK op).ex) (h3:¬ op=3) (h5:¬ op=5) (h18:¬ op=18):vN (.mk op nm fd a b ex args)=true:=by rw [aS7 h,aG h2,aA h3,aA h5,aA h18];rfl
theorem YR {op:UInt8} {nm fd:Str} {b:Int64} {args:List Fm} {e0:Ex} (h:op=3):vN (.mk op nm fd a b [e0] args)=KA e0:=by subst h;rw [aS7 aS,aK rfl];rfl
theorem cP8 {op:UInt8} {nm fd:Str} {b:Int64} {args:List Fm} {e0:Ex} (h:op=5):vN (.mk op nm fd a b [e0] args)=eI e0:=by subst h;rw [aS7 aS,aA aS,aK rfl];rfl
theorem SN {op:UInt8} {nm fd:Str} {b:Int64} {args:List Fm} {op0:UInt8} {nm0:Str} {m0:Int64} {args0:List Ex} (h:op=18):vN (.mk op nm fd a b [.mk op0 nm0 m0 args0] args)=(decide (((op0.toNat:Nat):Int)=1) && eI (.mk op0 nm0 m0 args0) && decide (m0.toInt<=32)):=by subst h;rw [aS7 aS,aA aS,aA aS,aK rfl,k81];rfl
set_option maxHeartbeats 2000000 in
theorem aE1 (H:Hp) (Gt:Gf H) (f:Fm):FFn H 38 jJ f:=by
 intro cs w h hA;obtain ⟨op,nm,fd,a,b,ex,args⟩:=f;obtain ⟨p1,c1,p2,c2,rfl,hs1,hs2,hnm,hfd⟩:=gK h;have hcap:=hs1.cap;have hcap2:=hs2.cap;refine Sx.enter (H:=H) func38 rfl ntmps38 rfl hA ?_;refine .sr<|.bx Z Z Z λb1=>.a Z Z<|.ns<|.fA Z eY<|.lD Z iP Hm Z<|.yw (.xl (v:=.agg (fsC (cK op)).toArray) Z (λW s=>qC H Gt op W s.agr))<|.al GY Z λb3=>.sW .head Z Z BU (by simp [fsC,Value.oneCell',bJ]) Z<|.nt<|.sq<|.cu (X:=Bool) [(1,_),(3,_)] ⟨Z,Z,Jt⟩ (λz=>[(38,.bool z)]) (λz=>H) (λz=>[.box b3 (fsC (cK op)) 157,.box b1 [.int .u8 op.toNat,bJ nm,bJ fd,.int .i64 a.toInt,.int .i64 b.toInt,.slice p1 ex.length c1,.slice p2 args.length c2] 35]) (λz=>z=(decide ((cK op).lv=0) || (!(cK op).nm && !decide (nm=[])) || (!(cK op).fd && !decide (fd=[])) || !decide (args.length=(cK op).ar))) ?_ λz hC=>?_
 ·
  refine .rg<|.fA Z QX<|.lD Z nM Hm Z<|.yw (.cast (.eql Z Z) (congrArg Value.bool er0))<|.mv Z<|.b2 (λh10=>?_) (λh10=>?_)
  ·exact .g4<|.gV<|.gV<|.gV<|.gG<|.pT Z<|.mv Z<|.g4<|.gV<|.gV<|.gV<|.gG<|.pT Z<|.mv Z<|.g4<|.g3<|.pT Z<|.nt<|.me _ ⟨Z,Jt⟩ ⟨Z,Z,Jt⟩ (λ_ s=>s) (by first | (simp only [h10,h14,h20,h24,h30,aO,aU,Bool.true_or,aT,Bool.or_false,Bool.or_true];done) | (simp only [h10,h14,h20,h24,aO,aU,Bool.true_or,aT,Bool.or_false,Bool.or_true];done) | (simp only [h10,h14,h24,h30,aO,aU,Bool.true_or,aT,Bool.or_false,Bool.or_true];done) | (simp only [h10,h14,h24,aO,aU,Bool.true_or,aT,Bool.or_false,Bool.or_true];done) | (simp only [h10,h14,h20,aO,aU,Bool.true_or,aT,Bool.or_false,Bool.or_true];done) | (simp only [h10,aO,aU,Bool.true_or,aT,Bool.or_false,Bool.or_true];done) )
  refine .gy (.fieldAddr Z FP)<|.gy (.load Z kW Hm Z)<|.gy (.not Z)<|.gy (.move Z)<|.b2 (λh14=>?_) (λh14=>?_)
  ·refine .gy (.fieldAddr Z gP)<|.gy (.load Z bT cU Z)<|.gy (.cast (.neS Z Z) (congrArg Value.bool decide_not))<|.gy (.pickT Z Z)<|.pF Z<|.mv Z<|.b2 (λh20=>?_) (λh20=>?_)
   ·exact .g4<|.gV<|.gV<|.gV<|.gG<|.pT Z<|.mv Z<|.g4<|.g3<|.pT Z<|.nt<|.me _ ⟨Z,Jt⟩ ⟨Z,Z,Jt⟩ (λ_ s=>s) (by first | (simp only [h10,h14,h20,h24,h30,aO,aU,Bool.true_or,aT,Bool.or_false,Bool.or_true];done) | (simp only [h10,h14,h20,h24,aO,aU,Bool.true_or,aT,Bool.or_false,Bool.or_true];done) | (simp only [h10,h14,h24,h30,aO,aU,Bool.true_or,aT,Bool.or_false,Bool.or_true];done) | (simp only [h10,h14,h24,aO,aU,Bool.true_or,aT,Bool.or_false,Bool.or_true];done) | (simp only [h10,h14,h20,aO,aU,Bool.true_or,aT,Bool.or_false,Bool.or_true];done) | (simp only [h10,aO,aU,Bool.true_or,aT,Bool.or_false,Bool.or_true];done) )
   refine .gy (.fieldAddr Z wA)<|.gy (.load Z kW Hm Z)<|.gy (.not Z)<|.gy (.move Z)<|.b2 (λh24=>?_) (λh24=>?_)
   ·refine .gy (.fieldAddr Z gO)<|.gy (.load Z bT cU Z)<|.gy (.cast (.neS Z Z) (congrArg Value.bool decide_not))<|.gy (.pickT Z Z)<|.pF Z<|.mv Z<|.b2 (λh30=>?_) (λh30=>?_)
    ·exact .g4<|.g3<|.pT Z<|.nt<|.me _ ⟨Z,Jt⟩ ⟨Z,Z,Jt⟩ (λ_ s=>s) (by first | (simp only [h10,h14,h20,h24,h30,aO,aU,Bool.true_or,aT,Bool.or_false,Bool.or_true];done) | (simp only [h10,h14,h20,h24,aO,aU,Bool.true_or,aT,Bool.or_false,Bool.or_true];done) | (simp only [h10,h14,h24,h30,aO,aU,Bool.true_or,aT,Bool.or_false,Bool.or_true];done) | (simp only [h10,h14,h24,aO,aU,Bool.true_or,aT,Bool.or_false,Bool.or_true];done) | (simp only [h10,h14,h20,aO,aU,Bool.true_or,aT,Bool.or_false,Bool.or_true];done) | (simp only [h10,aO,aU,Bool.true_or,aT,Bool.or_false,Bool.or_true];done) )
    exact .gy (.fieldAddr Z dQ)<|.gy (.load Z gM cU Z)<|.gy (.lenSl fJ Z)<|.gy (.fieldAddr Z vZ)<|.gy (.load Z nM Hm Z)<|.gy (.conv Z kN kG (c:=(((cK op).ar:Nat):Int)) (w64 aD (by have:=DH op;omega)))<|.gy (.cast (.neq Z Z) (congrArg Value.bool nn0))<|.pF Z<|.nt<|.me _ ⟨Z,Jt⟩ ⟨Z,Z,Jt⟩ (λ_ s=>s) (by first | (simp only [h10,h14,h20,h24,h30,aO,aU,Bool.true_or,aT,Bool.or_false,Bool.or_true];done) | (simp only [h10,h14,h20,h24,aO,aU,Bool.true_or,aT,Bool.or_false,Bool.or_true];done) | (simp only [h10,h14,h24,h30,aO,aU,Bool.true_or,aT,Bool.or_false,Bool.or_true];done) | (simp only [h10,h14,h24,aO,aU,Bool.true_or,aT,Bool.or_false,Bool.or_true];done) | (simp only [h10,h14,h20,aO,aU,Bool.true_or,aT,Bool.or_false,Bool.or_true];done) | (simp only [h10,aO,aU,Bool.true_or,aT,Bool.or_false,Bool.or_true];done) )
   exact .g3<|.gy (.pickF Z Z)<|.pF Z<|.mv Z<|.gy (.fieldAddr Z dQ)<|.gy (.load Z gM cU Z)<|.gy (.lenSl fJ Z)<|.gy (.fieldAddr Z vZ)<|.gy (.load Z nM Hm Z)<|.gy (.conv Z kN kG (c:=(((cK op).ar:Nat):Int)) (w64 aD (by have:=DH op;omega)))<|.gy (.cast (.neq Z Z) (congrArg Value.bool nn0))<|.pF Z<|.nt<|.me _ ⟨Z,Jt⟩ ⟨Z,Z,Jt⟩ (λ_ s=>s) (by first | (simp only [h10,h14,h20,h24,h30,aO,aU,Bool.true_or,aT,Bool.or_false,Bool.or_true];done) | (simp only [h10,h14,h20,h24,aO,aU,Bool.true_or,aT,Bool.or_false,Bool.or_true];done) | (simp only [h10,h14,h24,h30,aO,aU,Bool.true_or,aT,Bool.or_false,Bool.or_true];done) | (simp only [h10,h14,h24,aO,aU,Bool.true_or,aT,Bool.or_false,Bool.or_true];done) | (simp only [h10,h14,h20,aO,aU,Bool.true_or,aT,Bool.or_false,Bool.or_true];done) | (simp only [h10,aO,aU,Bool.true_or,aT,Bool.or_false,Bool.or_true];done) )
  refine .g3<|.gy (.pickF Z Z)<|.pF Z<|.mv Z<|.gy (.fieldAddr Z wA)<|.gy (.load Z kW Hm Z)<|.gy (.not Z)<|.gy (.move Z)<|.b2 (λh24=>?_) (λh24=>?_)
  ·refine .gy (.fieldAddr Z gO)<|.gy (.load Z bT cU Z)<|.gy (.cast (.neS Z Z) (congrArg Value.bool decide_not))<|.gy (.pickT Z Z)<|.pF Z<|.mv Z<|.b2 (λh30=>?_) (λh30=>?_)
   ·exact .g4<|.g3<|.pT Z<|.nt<|.me _ ⟨Z,Jt⟩ ⟨Z,Z,Jt⟩ (λ_ s=>s) (by first | (simp only [h10,h14,h20,h24,h30,aO,aU,Bool.true_or,aT,Bool.or_false,Bool.or_true];done) | (simp only [h10,h14,h20,h24,aO,aU,Bool.true_or,aT,Bool.or_false,Bool.or_true];done) | (simp only [h10,h14,h24,h30,aO,aU,Bool.true_or,aT,Bool.or_false,Bool.or_true];done) | (simp only [h10,h14,h24,aO,aU,Bool.true_or,aT,Bool.or_false,Bool.or_true];done) | (simp only [h10,h14,h20,aO,aU,Bool.true_or,aT,Bool.or_false,Bool.or_true];done) | (simp only [h10,aO,aU,Bool.true_or,aT,Bool.or_false,Bool.or_true];done) )
   exact .gy (.fieldAddr Z dQ)<|.gy (.load Z gM cU Z)<|.gy (.lenSl fJ Z)<|.gy (.fieldAddr Z vZ)<|.gy (.load Z nM Hm Z)<|.gy (.conv Z kN kG (c:=(((cK op).ar:Nat):Int)) (w64 aD (by have:=DH op;omega)))<|.gy (.cast (.neq Z Z) (congrArg Value.bool nn0))<|.pF Z<|.nt<|.me _ ⟨Z,Jt⟩ ⟨Z,Z,Jt⟩ (λ_ s=>s) (by first | (simp only [h10,h14,h20,h24,h30,aO,aU,Bool.true_or,aT,Bool.or_false,Bool.or_true];done) | (simp only [h10,h14,h20,h24,aO,aU,Bool.true_or,aT,Bool.or_false,Bool.or_true];done) | (simp only [h10,h14,h24,h30,aO,aU,Bool.true_or,aT,Bool.or_false,Bool.or_true];done) | (simp only [h10,h14,h24,aO,aU,Bool.true_or,aT,Bool.or_false,Bool.or_true];done) | (simp only [h10,h14,h20,aO,aU,Bool.true_or,aT,Bool.or_false,Bool.or_true];done) | (simp only [h10,aO,aU,Bool.true_or,aT,Bool.or_false,Bool.or_true];done) )
  exact .g3<|.gy (.pickF Z Z)<|.pF Z<|.mv Z<|.gy (.fieldAddr Z dQ)<|.gy (.load Z gM cU Z)<|.gy (.lenSl fJ Z)<|.gy (.fieldAddr Z vZ)<|.gy (.load Z nM Hm Z)<|.gy (.conv Z kN kG (c:=(((cK op).ar:Nat):Int)) (w64 aD (by have:=DH op;omega)))<|.gy (.cast (.neq Z Z) (congrArg Value.bool nn0))<|.pF Z<|.nt<|.me _ ⟨Z,Jt⟩ ⟨Z,Z,Jt⟩ (λ_ s=>s) (by first | (simp only [h10,h14,h20,h24,h30,aO,aU,Bool.true_or,aT,Bool.or_false,Bool.or_true];done) | (simp only [h10,h14,h20,h24,aO,aU,Bool.true_or,aT,Bool.or_false,Bool.or_true];done) | (simp only [h10,h14,h24,h30,aO,aU,Bool.true_or,aT,Bool.or_false,Bool.or_true];done) | (simp only [h10,h14,h24,aO,aU,Bool.true_or,aT,Bool.or_false,Bool.or_true];done) | (simp only [h10,h14,h20,aO,aU,Bool.true_or,aT,Bool.or_false,Bool.or_true];done) | (simp only [h10,aO,aU,Bool.true_or,aT,Bool.or_false,Bool.or_true];done) )
 have ez:=hC;refine .cd Z (λh38=>?_) (λh38=>?_)
 ·refine .sr<|.az Z<|.tR<|?_
  refine yE Z Z ?_
  (rw [bI5 (ez.symm.trans h38)])
 refine .sk<|.tN<|.cu (X:=Unit) [(1,_),(3,_)] ⟨Z,Z,Jt⟩ (λz=>[]) (λz=>H) (λz=>[.box b3 (fsC (cK op)) 157,.box b1 [.int .u8 op.toNat,bJ nm,bJ fd,.int .i64 a.toInt,.int .i64 b.toInt,.slice p1 ex.length c1,.slice p2 args.length c2] 35]) (λz=>DU (.mk op nm fd a b ex args)=true) ?_ λz hC=>?_
 ·
  refine .bk<|.sr<|.fA Z QW<|.lD Z kW Hm Z<|.aq Z<|.cd Z (λh39=>?_) (λh39=>?_)
  ·refine .cu (X:=Bool) [(1,_),(3,_)] ⟨Z,Z,Jt⟩ (λz=>[(66,.bool z)]) (λz=>H) (λz=>[.box b3 (fsC (cK op)) 157,.box b1 [.int .u8 op.toNat,bJ nm,bJ fd,.int .i64 a.toInt,.int .i64 b.toInt,.slice p1 ex.length c1,.slice p2 args.length c2] 35]) (λz=>z=decide (¬ ((a.toInt=0/\b.toInt=-1)\/(0<=a.toInt/\a.toInt<=b.toInt/\b.toInt<=200)))) ?_ λz hC=>?_
   ·
    refine .rg<|.fA Z fR<|.lD Z bQ cU Z<|.yw (.neq Z Z)<|.mv Z<|.e2 (λh45=>?_) (λh45=>?_)
    ·refine .g3<|.pT Z<|.mv Z<|.gy (.fieldAddr Z fR)<|.gy (.load Z bQ cU Z)<|.gy (.lss Z Z)<|.gy (.move Z)<|.b2 (λh54=>?_) (λh54=>?_)
     ·try simp only [dt] at h54
      exact .g4<|.gG<|.gy (.pickT Z Z)<|.gy (.move Z)<|.g3<|.gy (.pickT Z Z)<|.pT Z<|.nt<|.me _ ⟨Z,Jt⟩ ⟨Z,Z,Jt⟩ (λ_ s=>s) (by rw [aQ,aB];first | (rw [aB];omega) | exact ⟨λ_=>by omega,λ_=>rfl⟩ | exact ⟨λh=>(by cases h),λh=>by omega⟩)
     try simp only [df] at h54
     refine .gy (.fieldAddr Z fR)<|.gy (.load Z bQ cU Z)<|.gy (.fieldAddr Z fH)<|.gy (.load Z bQ cU Z)<|.gy (.gtr Z Z)<|.gy (.pickF Z Z)<|.gy (.move Z)<|.b2 (λh61=>?_) (λh61=>?_)
     ·try simp only [dt] at h61
      exact .g3<|.gy (.pickT Z Z)<|.pT Z<|.nt<|.me _ ⟨Z,Jt⟩ ⟨Z,Z,Jt⟩ (λ_ s=>s) (by rw [aQ,aB];first | (rw [aB];omega) | exact ⟨λ_=>by omega,λ_=>rfl⟩ | exact ⟨λh=>(by cases h),λh=>by omega⟩)
     try simp only [df] at h61
     exact .gy (.fieldAddr Z fH)<|.gy (.load Z bQ cU Z)<|.gy (.gtr Z Z)<|.gy (.pickF Z Z)<|.pT Z<|.nt<|.me _ ⟨Z,Jt⟩ ⟨Z,Z,Jt⟩ (λ_ s=>s) (by rw [aQ,aB];first | (rw [aB];omega) | exact ⟨λ_=>by omega,λ_=>rfl⟩ | exact ⟨λh=>(by cases h),λh=>by omega⟩)
    refine .gy (.fieldAddr Z fH)<|.gy (.load Z bQ cU Z)<|.gy (.neq Z Z)<|.pF Z<|.mv Z<|.e2 (λh50=>?_) (λh50=>?_)
    ·refine .gy (.fieldAddr Z fR)<|.gy (.load Z bQ cU Z)<|.gy (.lss Z Z)<|.gy (.move Z)<|.b2 (λh54=>?_) (λh54=>?_)
     ·try simp only [dt] at h54
      exact .g4<|.gG<|.gy (.pickT Z Z)<|.gy (.move Z)<|.g3<|.gy (.pickT Z Z)<|.pT Z<|.nt<|.me _ ⟨Z,Jt⟩ ⟨Z,Z,Jt⟩ (λ_ s=>s) (by rw [aQ,aB];first | (rw [aB];omega) | exact ⟨λ_=>by omega,λ_=>rfl⟩ | exact ⟨λh=>(by cases h),λh=>by omega⟩)
     try simp only [df] at h54
     refine .gy (.fieldAddr Z fR)<|.gy (.load Z bQ cU Z)<|.gy (.fieldAddr Z fH)<|.gy (.load Z bQ cU Z)<|.gy (.gtr Z Z)<|.gy (.pickF Z Z)<|.gy (.move Z)<|.b2 (λh61=>?_) (λh61=>?_)
     ·try simp only [dt] at h61
      exact .g3<|.gy (.pickT Z Z)<|.pT Z<|.nt<|.me _ ⟨Z,Jt⟩ ⟨Z,Z,Jt⟩ (λ_ s=>s) (by rw [aQ,aB];first | (rw [aB];omega) | exact ⟨λ_=>by omega,λ_=>rfl⟩ | exact ⟨λh=>(by cases h),λh=>by omega⟩)
     try simp only [df] at h61
     exact .gy (.fieldAddr Z fH)<|.gy (.load Z bQ cU Z)<|.gy (.gtr Z Z)<|.gy (.pickF Z Z)<|.pT Z<|.nt<|.me _ ⟨Z,Jt⟩ ⟨Z,Z,Jt⟩ (λ_ s=>s) (by rw [aQ,aB];first | (rw [aB];omega) | exact ⟨λ_=>by omega,λ_=>rfl⟩ | exact ⟨λh=>(by cases h),λh=>by omega⟩)
    exact .g4<|.gV<|.gV<|.gV<|.gV<|.gV<|.g2<|.gV<|.gV<|.gV<|.gG<|.pF Z<|.nt<|.me _ ⟨Z,Jt⟩ ⟨Z,Z,Jt⟩ (λ_ s=>s) (by rw [aQ,aB];first | (rw [aB];omega) | exact ⟨λ_=>by omega,λ_=>rfl⟩ | exact ⟨λh=>(by cases h),λh=>by omega⟩)
   have ew:=hC;refine .cd Z (λh66=>?_) (λh66=>?_)
   ·refine .sr<|.az Z<|.bR<|.tR<|?_
    refine yE Z Z ?_
    (rw [OZ (by rw [DT h39,aL (aI (by rw [h66] at ew;exact ew.symm))])])
   exact .sk<|.bN<|.tN<|.me () trivial ⟨Z,Z,Jt⟩ (λ_ s=>s) (by first | (rw [DT h39,aG (Classical.byContradiction λe=>by rw [h66] at ew;rw [aG e] at ew;cases ew)]) | (rw [LJ h39 h67,aG (Classical.byContradiction λe=>by rw [h92] at ea;rw [aG e] at ea;cases ea)]) | (rw [TE h39 h67,aG (Classical.byContradiction λe=>by rw [h93] at en;rw [aG e] at en;cases en)]))
  refine .sr<|.fA Z QV<|.lD Z kW Hm Z<|.aq Z<|.cd Z (λh67=>?_) (λh67=>?_)
  ·refine .cu (X:=Bool) [(1,_),(3,_)] ⟨Z,Z,Jt⟩ (λz=>[(92,.bool z)]) (λz=>H) (λz=>[.box b3 (fsC (cK op)) 157,.box b1 [.int .u8 op.toNat,bJ nm,bJ fd,.int .i64 a.toInt,.int .i64 b.toInt,.slice p1 ex.length c1,.slice p2 args.length c2] 35]) (λz=>z=decide (¬ (-1000000<=a.toInt/\a.toInt<=b.toInt/\b.toInt<=1000000/\b.toInt - a.toInt<32))) ?_ λz hC=>?_
   ·
    refine .rg<|.fA Z fR<|.lD Z bQ cU Z<|.yw (.lss Z Z)<|.mv Z<|.e2 (λh73=>?_) (λh73=>?_)
    ·exact .g4<|.gG<|.pT Z<|.mv Z<|.g3<|.pT Z<|.mv Z<|.g4<|.g2<|.pT Z<|.nt<|.me _ ⟨Z,Jt⟩ ⟨Z,Z,Jt⟩ (λ_ s=>s) (by rw [aQ,aB];first | (rw [aB];omega) | exact ⟨λ_=>by omega,λ_=>rfl⟩ | exact ⟨λh=>(by cases h),λh=>by omega⟩)
    refine .gy (.fieldAddr Z fR)<|.gy (.load Z bQ cU Z)<|.gy (.fieldAddr Z fH)<|.gy (.load Z bQ cU Z)<|.gy (.gtr Z Z)<|.pF Z<|.mv Z<|.e2 (λh80=>?_) (λh80=>?_)
    ·exact .g3<|.pT Z<|.mv Z<|.g4<|.g2<|.pT Z<|.nt<|.me _ ⟨Z,Jt⟩ ⟨Z,Z,Jt⟩ (λ_ s=>s) (by rw [aQ,aB];first | (rw [aB];omega) | exact ⟨λ_=>by omega,λ_=>rfl⟩ | exact ⟨λh=>(by cases h),λh=>by omega⟩)
    refine .gy (.fieldAddr Z fH)<|.gy (.load Z bQ cU Z)<|.gy (.gtr Z Z)<|.pF Z<|.mv Z<|.e2 (λh85=>?_) (λh85=>?_)
    ·exact .g4<|.g2<|.pT Z<|.nt<|.me _ ⟨Z,Jt⟩ ⟨Z,Z,Jt⟩ (λ_ s=>s) (by rw [aQ,aB];first | (rw [aB];omega) | exact ⟨λ_=>by omega,λ_=>rfl⟩ | exact ⟨λh=>(by cases h),λh=>by omega⟩)
    exact .gy (.fieldAddr Z fH)<|.gy (.load Z bQ cU Z)<|.gy (.fieldAddr Z fR)<|.gy (.load Z bQ cU Z)<|.gy (.sub Z Z (w6 aD))<|.gy (.geq Z Z)<|.pF Z<|.nt<|.me _ ⟨Z,Jt⟩ ⟨Z,Z,Jt⟩ (λ_ s=>s) (by rw [aQ,aB];first | (rw [aB];omega) | exact ⟨λ_=>by omega,λ_=>rfl⟩ | exact ⟨λh=>(by cases h),λh=>by omega⟩)
   have ea:=hC;refine .cd Z (λh92=>?_) (λh92=>?_)
   ·refine .sr<|.az Z<|.bR<|.tR<|?_
    refine yE Z Z ?_
    (rw [OZ (by rw [LJ h39 h67,aL (aI (by rw [h92] at ea;exact ea.symm))])])
   exact .sk<|.bN<|.tN<|.me () trivial ⟨Z,Z,Jt⟩ (λ_ s=>s) (by first | (rw [DT h39,aG (Classical.byContradiction λe=>by rw [h66] at ew;rw [aG e] at ew;cases ew)]) | (rw [LJ h39 h67,aG (Classical.byContradiction λe=>by rw [h92] at ea;rw [aG e] at ea;cases ea)]) | (rw [TE h39 h67,aG (Classical.byContradiction λe=>by rw [h93] at en;rw [aG e] at en;cases en)]))
  refine .cu (X:=Bool) [(1,_),(3,_)] ⟨Z,Z,Jt⟩ (λz=>[(93,.bool z)]) (λz=>H) (λz=>[.box b3 (fsC (cK op)) 157,.box b1 [.int .u8 op.toNat,bJ nm,bJ fd,.int .i64 a.toInt,.int .i64 b.toInt,.slice p1 ex.length c1,.slice p2 args.length c2] 35]) (λz=>z=decide (¬ (a.toInt=0/\b.toInt=0))) ?_ λz hC=>?_
  ·
   refine .rg<|.fA Z fR<|.lD Z bQ cU Z<|.yw (.neq Z Z)<|.mv Z<|.e2 (λh97=>?_) (λh97=>?_)
   ·exact .g3<|.pT Z<|.aq Z<|.me _ ⟨Z,Jt⟩ ⟨Z,Z,Jt⟩ (λ_ s=>s) (by rw [aQ,aB];first | (rw [aB];omega) | exact ⟨λ_=>by omega,λ_=>rfl⟩ | exact ⟨λh=>(by cases h),λh=>by omega⟩)
   exact .gy (.fieldAddr Z fH)<|.gy (.load Z bQ cU Z)<|.gy (.neq Z Z)<|.pF Z<|.aq Z<|.me _ ⟨Z,Jt⟩ ⟨Z,Z,Jt⟩ (λ_ s=>s) (by rw [aQ,aB];first | (rw [aB];omega) | exact ⟨λ_=>by omega,λ_=>rfl⟩ | exact ⟨λh=>(by cases h),λh=>by omega⟩)
  have en:=hC;refine .cd Z (λh93=>?_) (λh93=>?_)
  ·refine .sr<|.az Z<|.bR<|.tR<|?_
   refine yE Z Z ?_
   (rw [OZ (by rw [TE h39 h67,aL (aI (by rw [h93] at en;exact en.symm))])])
  exact .sk<|.bN<|.tN<|.me () trivial ⟨Z,Z,Jt⟩ (λ_ s=>s) (by first | (rw [DT h39,aG (Classical.byContradiction λe=>by rw [h66] at ew;rw [aG e] at ew;cases ew)]) | (rw [LJ h39 h67,aG (Classical.byContradiction λe=>by rw [h92] at ea;rw [aG e] at ea;cases ea)]) | (rw [TE h39 h67,aG (Classical.byContradiction λe=>by rw [h93] at en;rw [aG e] at en;cases en)]))
 have hb:=hC;refine .sq<|.sr<|.fA Z eY<|.lD Z iP cU Z<|.yw (.eql Z Z)<|.nt<|.cd Z (λh104=>?_) (λh104=>?_)
 ·have q7:op=7:=aR.1 (by have:=aI h104;show op.toNat=7;omega);refine .sr<|.fA Z dB<|.lD Z dR cU Z<|.yw (.lenSl eG Z)<|.yw (.cast (.leq Z Z) (congrArg Value.bool le4))<|.mv Z<|.b2 (λh109=>?_) (λh109=>?_)
  ·refine .gy (.fieldAddr Z dB)<|.gy (.load Z dR cU Z)<|.gy (.xl Z (λW s=>mT H 77 [] aL2 ex hs1 aV6 (λa _=>YG H a) W s.agr))<|.gy (.not Z)<|.pT Z<|.az Z<|.tR<|?_
   refine yE Z Z ?_
   (rw [xG (ez.symm.trans h38) hb,bZ3 q7,h109,aO,cB0])
  refine .g4<|.pF Z<|.az Z<|.tR<|?_
  refine yE Z Z ?_
  (rw [xG (ez.symm.trans h38) hb,bZ3 q7,h109];rfl)
 have q7:¬ op=7:=λe=>aJ h104 (by rw [e];rfl);refine .sk<|.tN<|.sq<|.sr<|.fA Z dB<|.lD Z dR cU Z<|.yw (.lenSl eG Z)<|.fA Z QU<|.lD Z nM Hm Z<|.yw (.conv Z kN kG (c:=(((cK op).ex:Nat):Int)) (w64 aD (by have:=DH op;omega)))<|.yw (.cast (.neq Z Z) (congrArg Value.bool nn0))<|.nt<|.cd Z (λh121=>?_) (λh121=>?_)
 ·have hlx:¬ ex.length=(cK op).ex:=λe=>by rw [aG e] at h121;cases h121
  refine .sr<|.az Z<|.tR<|?_
  refine yE Z Z ?_
  (rw [xG (ez.symm.trans h38) hb,bZ2 q7 hlx])
 have hlx:ex.length=(cK op).ex:=Classical.byContradiction λe=>by rw [aL e] at h121;cases h121
 refine .sk<|.tN<|.sq<|.sr<|.fA Z eY<|.lD Z iP cU Z<|.nt<|.bk<|.sr<|.yw (.eql Z Z)<|.aq Z<|.cd Z (λh124=>?_) (λh124=>?_)
 ·have q3:op=3:=aR.1 (by have:=aI h124;show op.toNat=3;omega);obtain ⟨e0,rfl⟩:∃ e0,ex=[e0]:=List.length_eq_one_iff.1 (by rw [hlx,q3];rfl);obtain ⟨bE,oE,cE,hpE,rE,lE,mE⟩:=hs1.elem (i:=0) (d:=dEx .u8 e0) rfl;cases hpE;refine .sr<|.fA Z dB<|.lD Z dR cU Z<|.yw (.indexSl eG Z Z (i:=0) Z (Nat.succ_pos _) (q:=oE+0 * 4) Z)<|.yw (.loadMW Z eM mE lE)<|.yw (.xl Z (λW s=>aR6 H e0 cE W rE s.agr))<|.az Z<|.bR<|.tR<|?_
  refine yE Z Z ?_
  (rw [xG (ez.symm.trans h38) hb,YR q3])
 have q3:¬ op=3:=λe=>aJ h124 (by rw [e];rfl);refine .sr<|.yw (.eql Z Z)<|.aq Z<|.cd Z (λh131=>?_) (λh131=>?_)
 ·have q5:op=5:=aR.1 (by have:=aI h131;show op.toNat=5;omega);obtain ⟨e0,rfl⟩:∃ e0,ex=[e0]:=List.length_eq_one_iff.1 (by rw [hlx,q5];rfl);obtain ⟨bE,oE,cE,hpE,rE,lE,mE⟩:=hs1.elem (i:=0) (d:=dEx .u8 e0) rfl;cases hpE;refine .sr<|.fA Z dB<|.lD Z dR cU Z<|.yw (.indexSl eG Z Z (i:=0) Z (Nat.succ_pos _) (q:=oE+0 * 4) Z)<|.yw (.loadMW Z eM mE lE)<|.yw (.xl Z (λW s=>BN H e0 cE W rE s.agr))<|.az Z<|.bR<|.tR<|?_
  refine yE Z Z ?_
  (rw [xG (ez.symm.trans h38) hb,cP8 q5])
 have q5:¬ op=5:=λe=>aJ h131 (by rw [e];rfl);refine .sr<|.yw (.eql Z Z)<|.aq Z<|.cd Z (λh138=>?_) (λh138=>?_)
 ·have q18:op=18:=aR.1 (by have:=aI h138;show op.toNat=18;omega);obtain ⟨e0,rfl⟩:∃ e0,ex=[e0]:=List.length_eq_one_iff.1 (by rw [hlx,q18];rfl);obtain ⟨bE,oE,cE,hpE,rE,lE,mE⟩:=hs1.elem (i:=0) (d:=dEx .u8 e0) rfl;cases hpE;obtain ⟨op0,nm0,m0,args0⟩:=e0;obtain ⟨p9,c9,rfl,hs9,hn9⟩:=eV rE;refine .sr<|.fA Z dB<|.lD Z dR cU Z<|.yw (.indexSl eG Z Z (i:=0) Z (Nat.succ_pos _) (q:=oE+0 * 4) Z)<|.fA Z hP<|.yw (.loadM Z kO mE (k:=0) Z Z)<|.yw (.eql Z Z)<|.mv Z<|.b2 (λh146=>?_) (λh146=>?_)
  ·refine .gy (.fieldAddr Z dB)<|.gy (.load Z dR cU Z)<|.gy (.indexSl eG Z Z (i:=0) Z (Nat.succ_pos _) (q:=oE+0 * 4) Z)<|.gy (.loadMW Z eM mE lE)<|.gy (.xl Z (λW s=>BN H _ _ W rE s.agr))<|.pT Z<|.mv Z<|.b2 (λh153=>?_) (λh153=>?_)
   ·refine .gy (.fieldAddr Z dB)<|.gy (.load Z dR cU Z)<|.gy (.indexSl eG Z Z (i:=0) Z (Nat.succ_pos _) (q:=oE+0 * 4) Z)<|.gy (.fieldAddr Z gS)<|.gy (.loadM Z jN mE (k:=2) Z Z)<|.gy (.leq Z Z)<|.pT Z<|.az Z<|.bR<|.tR<|?_
    refine yE Z Z ?_
    (rw [xG (ez.symm.trans h38) hb,SN q18,h146,h153,aO,aO])
   refine .g4<|.g2<|.pF Z<|.az Z<|.bR<|.tR<|?_
   refine yE Z Z ?_
   (rw [xG (ez.symm.trans h38) hb,SN q18,h146,h153];rfl)
  refine .g4<|.gG<|.pF Z<|.mv Z<|.g4<|.g2<|.pF Z<|.az Z<|.bR<|.tR<|?_
  refine yE Z Z ?_
  (rw [xG (ez.symm.trans h38) hb,SN q18,h146];rfl)
 have q18:¬ op=18:=λe=>aJ h138 (by rw [e];rfl);refine .sk<|.bN<|.tN<|.sr<|.az Z<|?_
 refine yE Z Z ?_
 (rw [xG (ez.symm.trans h38) hb,cT4 q7 hlx q3 q5 q18])
set_option maxHeartbeats 2000000 in
theorem aT1 (H:Hp) (f:Fm) (most N:Nat) (hm:most<=9223372036854775807) (hb:blF N f=true) (hc:f.count<=9000000000000000000\/most<=1000000000000) (hN:N * (most+1)<=100000000000\/N * f.count<=100000000000) (hN1:N<=100000000000) (cs:List Value) (w:World) (h:Rep H (dFm .u8 f) cs) (hA:Agr H w):Calls prg 34 #[.agg cs.toArray,iN most] w λr w'=>r=.returned (iN (min f.count (most+1)))/\Ext w w':=by
 obtain ⟨op,nm,fd,a,b,ex,args⟩:=f;obtain ⟨p1,c1,p2,c2,rfl,hs1,hs2,hnm,hfd⟩:=gK h;refine Sx.enter (H:=H) func34 rfl ntmps34 rfl hA ?_;refine .sr<|.bx Z Z Z λb2=>.a Z Z<|.ns<|.a Z Z<|.ns<|.yw (.loadW Z cQ Hm Z)<|.blR (z:=7) Z (rV _ _ _ _ _ _ _) Z Z (by simp [maxLen]) λb13=>.aq Z<|.sq<|?_
 refine Sx.row0 76 4 ?_;refine .rg<|.aq Z<|.sq<|.bk<|.pm [1,0,2] [_,_,_] Z Z<|.lp (X:=Nat × List Fm × List Ex × Value × Value × List Value × List Value) [(1,_)] ⟨Z,Jt⟩ [] (λz=>[(5,iN z.1),(6,z.2.2.2.1),(7,z.2.2.2.2.1)]) (λz=>H) (λz=>[.row 35 7 z.2.2.2.1 z.2.1.length z.2.2.2.2.2.1,.row 76 4 z.2.2.2.2.1 z.2.2.1.length z.2.2.2.2.2.2,.box b2 [.int .u8 op.toNat,bJ nm,bJ fd,.int .i64 a.toInt,.int .i64 b.toInt,.slice p1 ex.length c1,.slice p2 args.length c2] 35]) (λz=>dT H 7 (z.2.1.map (dFm .u8)) z.2.2.2.2.2.1/\dT H 4 (z.2.2.1.map (dEx .u8)) z.2.2.2.2.2.2/\z.1+(Fm.counts z.2.1+Ex.counts z.2.2.1)=Fm.count (.mk op nm fd a b ex args)/\z.1<=most+1/\(∀ g∈z.2.1,blF N g=true)/\(∀ e∈z.2.2.1,blE N e=true)/\(z.2.1.length+z.2.2.1.length<=1+2 * (N * z.1))) (λz=>Fm.count (.mk op nm fd a b ex args) - z.1) (0,[Fm.mk op nm fd a b ex args],[],.slice (some ⟨b13,0,none⟩) 1 1,.slice none 0 0,[.int .u8 op.toNat,bJ nm,bJ fd,.int .i64 a.toInt,.int .i64 b.toInt,.slice p1 ex.length c1,.slice p2 args.length c2],[]) (λ_ s=>s) ⟨Z,Z,Z,Jt⟩ ⟨.single h Z,.nil,by rw [Fm.counts,Fm.counts,Ex.counts];omega,aN _,λg hg=>by rw [bS.1 hg];exact hb,λe he=>(by cases he),by simp⟩ λz hC=>?_
 obtain ⟨n,fs,ts,rf,rt,xf,xt⟩:=z;obtain ⟨zf,zt,hcnt,hn,hbf,hbt,hlen⟩:=hC;dsimp only at zf zt hcnt hn hbf hbt hlen|-;have hNn:N * n<=N * (most+1):=mV N hn;have hNc:N * n<=N * Fm.count (.mk op nm fd a b ex args):=mV N aD
 have hNm:N * n<=100000000000:=by
  rcases hN with h | h <;> omega
 refine At.ra (size:=7) (r:=rf) (e:=35) Hm λpf cf e=>?_;subst e;refine At.ra (size:=4) (r:=rt) (e:=76) cU λpt ct e=>?_;subst e;refine .sq<|.sm Z<|.mv Z<|.yw (.leq Z Z)<|.mv Z<|.b2 (λh17=>?_) (λh17=>?_)
 ·have hle:n<=most:=by have:=aI h17;omega
  refine .gy (.move Z)<|.gy (.lenSl fJ Z)<|.gy (.move Z)<|.gy (.lenSl eG Z)<|.gy (.add Z Z (c:=((fs.length+ts.length:Nat):Int)) ((w6 aD).trans aD))<|.gy (.gtr Z Z)<|.pT Z<|.nt<|.cd Z (λh24=>?_) (λh24=>?_)
  ·have hpos:0<fs.length+ts.length:=by have:=aI h24;omega
   replace h24:=hpos;refine .sk<|.tN<|.bk<|.sm Z<|.yw (.add Z Z (c:=((n+1:Nat):Int)) ((w6 aD).trans aD))<|.aq Z<|.sq<|.sm Z<|.yw (.lenSl eG Z)<|.yw (.sub Z Z (c:=(ts.length:Int) - 1) (w6 aD))<|.a Z Z<|.ns<|.mv Z<|.yw (.geq Z Z)<|.nt<|.ce Z (λh31=>?_) (λh31=>?_)
   ·obtain ⟨ts0,e0,rfl⟩:∃ ts0 e0,ts=ts0++[e0]:=by
     rcases List.eq_nil_or_concat ts with h | ⟨t,x,h⟩
     ·subst h;exact (by simp at h31)
     ·exact ⟨t,x,by rw [h,List.concat_eq_append]⟩
    have hl0:(ts0++[e0]).length=ts0.length+1:=by rw [aC];rfl
    refine Sx.rowCase (size:=4) (r:=.slice pt (ts0++[e0]).length ct) (e:=76) cU (by rw [hl0];exact Nat.succ_pos _) λg c e hgc=>?_;injection e with e3 _ e4
    subst e3 e4;obtain ⟨cs0,r0,hc0,hx0⟩:=dT.at zt (i:=ts0.length) (d:=dEx .u8 e0) (by rw [bI,List.getElem?_append_right (by rw [aP];exact aY _),aP,hZ];rfl);obtain ⟨op0,nm0,m0,args0⟩:=e0;obtain ⟨p0,c0,rfl,hs0,_⟩:=eV r0;have hb0:=(GV.1 (hbt _ (cJ.2 (.inr (bS.2 rfl)))))
    have hz0:dT H 4 (ts0.map (dEx .u8)) (xt.take (ts0.length * 4)):=by
     have h:=dT.take ts0.length zt;rw [bI,List.take_left' (by rw [aP])] at h;exact h
    rw [oU,Ex.counts,Ex.counts,nF] at hcnt;rw [hl0] at hlen;have hNs:N * (n+1)=N * n+N:=Nat.mul_succ N n;refine .sm Z<|.mv Z<|.yw (.indexSl eG Z Z (i:=ts0.length) (by rw [hl0];omega) (by rw [hl0];omega) (q:=ts0.length * 4) aD)<|.yw (.loadR (vs:=[.int .u8 op0.toNat,bJ nm0,.int .i64 m0.toInt,.slice p0 args0.length c0]) Z eM cU Z hx0)<|.al kQ Z λb9=>.sX .head Z Z gR Z<|?_
    refine Sx.At.rcut (size:=4) (m:=ts0.length) (ys:=xt.take (ts0.length * 4)) iE (by rw [hl0];exact Nat.le_succ _) rfl ?_;exact .nt<|.sq<|.fL 6 [(0,0),(1,0),(2,0),(3,0),(4,0),(5,3)]<|.mv Z<|.mv Z<|.yw (.cutHi eG Z Z (h:=ts0.length) (by rw [hl0];omega) (by rw [hl0] at hgc;omega) (λq e=>by cases e;rfl))<|.fA Z eS<|.lD Z dR Hm Z<|.apD wM Z (λ_ _=>iE) Z hs0 (by simp only [maxLen];omega) aD Z (λ_ _=>(.d3<|.d2<|.nl)) λnews pN cN hzn=>.fn (tl:=[_]) Z<|.aq Z<|.ex<|.tE<|.bE<|.tN<|.ag (x:=(n,fs,ts0++[Ex.mk op0 nm0 m0 args0],Value.slice pf fs.length cf,Value.slice (some ⟨g,0,none⟩) (ts0++[Ex.mk op0 nm0 m0 args0]).length ct,xf,xt)) (n+1,fs,ts0++args0,Value.slice pf fs.length cf,Value.slice pN (ts0.length+args0.length) cN,xf,xt.take (ts0.length * 4)++news) ⟨Z,Z,Z,Jt⟩ ⟨Z,Jt⟩ (λ_ s=>by dsimp only;rw [aC];exact (s.pick [1,2,3] _ Z Z)) ⟨zf,by rw [bI];exact hz0.app hzn,by dsimp only;rw [oU];omega,by dsimp only;omega,hbf,λe he=>by rcases cJ.1 he with h | h;exact hbt e (cJ.2 (.inl h));exact hb0.2 e h,by dsimp only;rw [aC,hNs];omega⟩ (by dsimp only;omega)
   have hts:ts=[]:=by
    cases ts with
    | nil=>rfl
    | cons t r=>simp at h31 <;> omega
   subst hts;obtain rfl:xt=[]:=zt
   obtain ⟨fs0,f0,rfl⟩:∃ fs0 f0,fs=fs0++[f0]:=by
    rcases List.eq_nil_or_concat fs with h | ⟨t,x,h⟩
    ·subst h;simp at h24
    ·exact ⟨t,x,by rw [h,List.concat_eq_append]⟩
   have hl0:(fs0++[f0]).length=fs0.length+1:=by rw [aC];rfl
   refine Sx.rowCase (size:=7) (r:=.slice pf (fs0++[f0]).length cf) (e:=35) Hm (by rw [hl0];exact Nat.succ_pos _) λg c e hgc=>?_;injection e with e3 _ e4
   subst e3 e4;obtain ⟨cs0,r0,hc0,hx0⟩:=dT.at zf (i:=fs0.length) (d:=dFm .u8 f0) (by rw [bI,List.getElem?_append_right (by rw [aP];exact aY _),aP,hZ];rfl);obtain ⟨op0,nm0,fd0,a0,b0,ex0,args0⟩:=f0;obtain ⟨q1,d1,q2,d2,rfl,hs0,hs3,_,_⟩:=gK r0;have hb0:=(yN.1 (hbf _ (cJ.2 (.inr (bS.2 rfl)))))
   have hz0:dT H 7 (fs0.map (dFm .u8)) (xf.take (fs0.length * 7)):=by
    have h:=dT.take fs0.length zf;rw [bI,List.take_left' (by rw [aP])] at h;exact h
   rw [fQ,Fm.counts,Fm.counts,iA] at hcnt;rw [hl0] at hlen;have hNs:N * (n+1)=N * n+N:=Nat.mul_succ N n;refine .sk<|.tN<|.sm Z<|.yw (.lenSl fJ Z)<|.yw (.sub Z Z (c:=((fs0.length:Nat):Int)) (by rw [hl0];exact (w6 aD).trans aD))<|.a Z Z<|.ns<|.mv Z<|.mv Z<|.yw (.indexSl fJ Z Z (i:=fs0.length) Z (by rw [hl0];omega) (q:=fs0.length * 7) aD)<|.yw (.loadR (vs:=cFm .u8 op0 nm0 fd0 a0 b0 (.slice q1 ex0.length d1) (.slice q2 args0.length d2)) Z cQ Hm Z hx0)<|.al fB Z λb11=>.sX .head Z Z dK Z<|?_
   refine Sx.At.rcut (size:=7) (m:=fs0.length) (ys:=xf.take (fs0.length * 7)) iJ (by rw [hl0];exact Nat.le_succ _) rfl ?_;refine .nt<|.sq<|.fL 6 [(0,0),(1,0),(2,0),(3,0),(4,0),(5,3)]<|.mv Z<|.mv Z<|.yw (.cutHi fJ Z Z (h:=fs0.length) Z (by rw [hl0] at hgc;omega) (λq e=>by cases e;rfl))<|.fA Z dQ<|.lD Z gM Hm Z<|.apD tA Z (λ_ _=>iJ) Z hs3 (by simp only [maxLen];omega) aD Z (λ_ _=>(.d3<|.d2<|.nl)) λnews pN cN hzn=>.fn (tl:=[_]) Z<|.aq Z<|.rg<|.mv Z<|.fA Z dB<|.lD Z dR Hm Z<|.apD wM Z (λ_ _=>iE) Z hs0 (by simp only [maxLen];omega) (by simp only [aH];omega) Z λnews2 r2 hzn2=>?_
   rw [show ([]:List Ex).length+ex0.length=ex0.length from dO _];exact .a Z Z<|.nl<|.bN<|.tN<|.ag (x:=(n,fs0++[Fm.mk op0 nm0 fd0 a0 b0 ex0 args0],([]:List Ex),Value.slice (some ⟨g,0,none⟩) (fs0++[Fm.mk op0 nm0 fd0 a0 b0 ex0 args0]).length cf,Value.slice pt 0 ct,xf,([]:List Value))) (n+1,fs0++args0,ex0,Value.slice pN (fs0.length+args0.length) cN,r2,xf.take (fs0.length * 7)++news,news2) ⟨Z,Z,Z,Jt⟩ ⟨Z,Jt⟩ (λ_ s=>by dsimp only;rw [aC];exact (s.pick [1,2,3] _ Z Z)) ⟨by rw [bI];exact hz0.app hzn,hzn2,by dsimp only;rw [fQ];rw [Ex.counts] at hcnt;omega,by dsimp only;omega,λe he=>by rcases cJ.1 he with h | h;exact hbf e (cJ.2 (.inl h));exact hb0.2 e h,λe he=>hb0.1.2.2 e he,by dsimp only;rw [aC,hNs];simp only [aH] at hlen;omega⟩ (by dsimp only;omega)
  have hz24:¬ 0<fs.length+ts.length:=λe=>aJ h24 aD;refine .ex<|.eb<|.sm Z<|.az Z<|?_
  refine yE Z Z ?_
  first
   | (rw [show n=min (Fm.count (.mk op nm fd a b ex args)) (most+1) by omega])
   | (rw [show n=min (Fm.count (.mk op nm fd a b ex args)) (most+1) from by (have h1:fs=[]:=bK aD);(have h2:ts=[]:=bK aD);subst h1;subst h2;rw [Fm.counts,Ex.counts] at hcnt;omega])
 have hgt:¬ n<=most:=λe=>aJ h17 aD;refine .g4<|.g2<|.pF Z<|.nt<|.cF Z<|.ex<|.eb<|.sm Z<|.az Z<|?_
 refine yE Z Z ?_
 first
  | (rw [show n=min (Fm.count (.mk op nm fd a b ex args)) (most+1) by omega])
  | (rw [show n=min (Fm.count (.mk op nm fd a b ex args)) (most+1) from by (have h1:fs=[]:=bK aD);(have h2:ts=[]:=bK aD);subst h1;subst h2;rw [Fm.counts,Ex.counts] at hcnt;omega])
variable {f:Fm}
theorem bJ9 (h:60<f.count):gT f=3:=by unfold gT;rw [aK (.inl h)]
theorem bJ8 (h:Fm.all rM f=false):gT f=3:=by unfold gT;rw [aK (.inr h)]
theorem cK4 (h:¬ 60<f.count) (h2:Fm.all rM f=true):¬ (60<f.count\/Fm.all rM f=false):=λe=>by
 rcases e with e | e
 ·exact h e
 ·rw [h2] at e;cases e
theorem bJ7 (h:¬ 60<f.count) (h2:Fm.all rM f=true) (h3:Fm.all rN f=false):gT f=9:=by unfold gT;rw [aA (cK4 h h2),aK h3]
theorem bJ6 (h:¬ 60<f.count) (h2:Fm.all rM f=true) (h3:Fm.all rN f=true) (h4:Fm.all jJ f=false):gT f=6:=by unfold gT;rw [aA (cK4 h h2),aA (by rw [h3];decide),aK h4]
theorem bJ5 (h:¬ 60<f.count) (h2:Fm.all rM f=true) (h3:Fm.all rN f=true) (h4:Fm.all jJ f=true):gT f=0:=by unfold gT;rw [aA (cK4 h h2),aA (by rw [h3];decide),aA (by rw [h4];decide)]
theorem yM (H:Hp) (G:Gl H) (Gt:Gf H) (f:Fm) (hb:blF 600000 f=true) (cs:List Value) (w:World) (h:Rep H (dFm .u8 f) cs) (hA:Agr H w):Calls prg 15 #[.agg cs.toArray] w λr w'=>r=.returned (iN (gT f))/\Ext w w':=by
 obtain ⟨op,nm,fd,a,b,ex,args⟩:=f;obtain ⟨p1,c1,p2,c2,rfl,hs1,hs2,hnm,hfd⟩:=gK h;refine Sx.enter (H:=H) func15 rfl ntmps15 rfl hA ?_;refine .sr<|.bx Z Z Z λb1=>.aq Z<|.sq<|.bk<|.sq<|.sr<|.yw (.loadW Z cQ Hm Z)<|.yw (.xl Z (λW s=>aT1 H (.mk op nm fd a b ex args) 60 600000 aS hb (.inr aS) (.inl aS) aS _ W h s.agr))<|.yw (.gtr Z Z)<|.aq Z<|.cr Z (λh3=>?_) (λh3=>?_)
 ·have hc:60<Fm.count (.mk op nm fd a b ex args):=by have:=aI h3;omega
  refine .sk<|.tN<|.cT Z<|.sr<|.az Z<|.bR<|.tR<|?_
  refine yE Z Z ?_
  first
   | (rw [bJ9 hc];rfl)
   | (rw [bJ8 hs];rfl)
   | (rw [bJ7 hc hs hn];rfl)
   | (rw [bJ6 hc hs hn hf];rfl)
   | (rw [bJ5 hc hs hn hf];rfl)
 have hc:¬ 60<Fm.count (.mk op nm fd a b ex args):=λe=>aJ h3 aD;refine .rg<|.yw (.loadW Z cQ Hm Z)<|.yw (.xl Z (λW s=>JX H 36 rM cQ0 aW0 (λf hp=>XE H f hp) _ (aE4 _ aD) _ W h s.agr))<|.yw (.not Z)<|.aq Z<|.cr Z (λh3=>?_) (λh3=>?_)
 ·have hs:Fm.all rM (.mk op nm fd a b ex args)=false:=by simpa using h3
  refine .sr<|.az Z<|.bR<|.tR<|?_
  refine yE Z Z ?_
  first
   | (rw [bJ9 hc];rfl)
   | (rw [bJ8 hs];rfl)
   | (rw [bJ7 hc hs hn];rfl)
   | (rw [bJ6 hc hs hn hf];rfl)
   | (rw [bJ5 hc hs hn hf];rfl)
 have hs:Fm.all rM (.mk op nm fd a b ex args)=true:=by simpa using h3
 refine .sr<|.yw (.loadW Z cQ Hm Z)<|.yw (.xl Z (λW s=>JX H 37 rN (λ_=>true) aV9 (λf _=>aR1 H G Gt f) _ (LF _) _ W h s.agr))<|.yw (.not Z)<|.aq Z<|.cd Z (λh10=>?_) (λh10=>?_)
 ·have hn:Fm.all rN (.mk op nm fd a b ex args)=false:=by simpa using h10
  refine .sr<|.az Z<|.bR<|.tR<|?_
  refine yE Z Z ?_
  first
   | (rw [bJ9 hc];rfl)
   | (rw [bJ8 hs];rfl)
   | (rw [bJ7 hc hs hn];rfl)
   | (rw [bJ6 hc hs hn hf];rfl)
   | (rw [bJ5 hc hs hn hf];rfl)
 have hn:Fm.all rN (.mk op nm fd a b ex args)=true:=by simpa using h10
 refine .sr<|.yw (.loadW Z cQ Hm Z)<|.yw (.xl Z (λW s=>JX H 38 jJ (λ_=>true) aV8 (λf _=>aE1 H Gt f) _ (LF _) _ W h s.agr))<|.yw (.not Z)<|.aq Z<|.cd Z (λh14=>?_) (λh14=>?_)
 ·have hf:Fm.all jJ (.mk op nm fd a b ex args)=false:=by simpa using h14
  refine .sr<|.az Z<|.bR<|.tR<|?_
  refine yE Z Z ?_
  first
   | (rw [bJ9 hc];rfl)
   | (rw [bJ8 hs];rfl)
   | (rw [bJ7 hc hs hn];rfl)
   | (rw [bJ6 hc hs hn hf];rfl)
   | (rw [bJ5 hc hs hn hf];rfl)
 have hf:Fm.all jJ (.mk op nm fd a b ex args)=true:=by simpa using h14
 refine .sk<|.bN<|.tN<|.sr<|.az Z<|?_
 refine yE Z Z ?_
 first
  | (rw [bJ9 hc];rfl)
  | (rw [bJ8 hs];rfl)
  | (rw [bJ7 hc hs hn];rfl)
  | (rw [bJ6 hc hs hn hf];rfl)
  | (rw [bJ5 hc hs hn hf];rfl)
end Go.Proofs.YtidclioghdbphaaGreatDoor
