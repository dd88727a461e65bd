/- Texts of the proof, one behind the other. -/
import Derived.Test.YtidclioghdbphaaGreatDoorMe
import Derived.Lib.ItoaNum
set_option linter.all false
set_option maxRecDepth 100000
namespace Go.Proofs.YtidclioghdbphaaGreatDoor
open Go.RowKit Go.Par Go.Sx Tryz
variable {H:Hp} {xo:List Value} {AR:List Res}
theorem Ops.inv {o:Ov} {r:List Ov} (h:Ops H (o::r) xo AR) (hk:o.kd≠5):∃ xr s1 s2,xo=xr++oC o s1 s2/\Ops H r xr AR/\FmR H o.f s1 s2:=by
 cases h with
 | cons h k f=>exact ⟨_,_,_,Z,h,f⟩
 | arg h k a b c z s=>exact absurd k hk
variable {xv:List Value}
theorem VR.inv {v:Vl} {vs:List Vl} (h:VR H (v::vs) xv):∃ xr s0 s1 s2,xv=xr++vC v s0 s1 s2/\VR H vs xr/\VlR H v s0 s1 s2:=by
 cases h with
 | cons h k=>exact ⟨_,_,_,_,Z,h,k⟩
theorem cE1 (r:List Ov):EH r<=r.length:=List.length_filter_le ..
variable {l:Tks}
theorem GM {c:Rq} {o:Ov} {r:List Ov} {x:Vb} {dn:Bool} (h:Fwf l ⟨c,o::r,x,true,dn⟩) (h0:0<o.lv):Fwf l ⟨c,r,wF o x,true,dn⟩:=by
 obtain ⟨r1,e,hr⟩:=h.op;cases r1 with
 | nil =>
  injection e with e1 e2
  subst e1;exact absurd h0 (by decide)
 | cons o1 r1 =>
  injection e with e1 e2
  subst e1;have ho:=hr _ (bQ ..);have hv:=h.vs
  have hv':x.1.length=(if cnO o then 1 else 0)+EH r+1:=by
   have:x.1.length=EH (o::r)+1:=hv;rw [sM] at this;exact this
  have hl:=YG ho h0 (x:=x) (by rw [hv'];split <;> omega);refine ⟨h.i,⟨r1,e2,λz hz=>hr z (cI _ hz)⟩,?_,?_⟩
  ·show (wF o x).1.length=EH r+1;rw [hl,hv'];split <;> omega
  ·have:=h.so;show r.length<=c.i+1;have e3:(o::r).length<=c.i+1:=this;rw [aK] at e3;omega
theorem pD {q:Ps} (h:Fwf l q) (hn:l.length<=600000):q.op.length<=600000/\q.x.1.length<=600001:=by
 have h1:=h.so;have h2:=h.i;have h3:=h.vs;have h4:=cE1 q.op;refine ⟨by omega,?_⟩;rw [h3]
 split <;> omega
theorem aK3 {o:Ov} {v:Vl} {V:List Vl} {b:Bool} (h:o.kd=10):wF o (v::V,b)=(tmv (.mk 9 [] 0 [v.e])::V,b || !v.tm):=by unfold wF;rw [aM h];rfl
theorem bI9 {o:Ov} {v u:Vl} {V:List Vl} {b:Bool} (h:o.kd=9):wF o (v::u::V,b)=(tmv (.mk o.op [] 0 [u.e,v.e])::V,b || !v.tm || !u.tm):=by
 unfold wF;rw [aD (by rw [h];decide),aM h];rfl
theorem bJ0 {o:Ov} {v u:Vl} {V:List Vl} {b:Bool} (h:o.kd=8):wF o (v::u::V,b)=(fmv (.mk 3 [] [] 0 0 [.mk o.op [] 0 [u.e,v.e]] [])::V,b || !v.tm || !u.tm):=by
 unfold wF;rw [aD (by rw [h];decide),aD (by rw [h];decide),aM h];rfl
theorem bJ1 {o:Ov} {v:Vl} {V:List Vl} {b:Bool} (h:o.kd=7):wF o (v::V,b)=(fmv (o.f.wAr [v.fm])::V,b || v.noF):=by
 unfold wF;rw [aD (by rw [h];decide),aD (by rw [h];decide),aD (by rw [h];decide),aM h];rfl
theorem bJ2 {o:Ov} {v u:Vl} {V:List Vl} {b:Bool} (h:o.kd=6):wF o (v::u::V,b)=(fmv (o.f.wAr [u.fm,v.fm])::V,b || v.noF || u.noF):=by
 unfold wF;rw [aD (by rw [h];decide),aD (by rw [h];decide),aD (by rw [h];decide),aD (by rw [h];decide),aM h];rfl
theorem CK {α:Type} {l:List α} (h:1<=l.length):∃ a r,l=a::r:=by cases l with | nil=>cases h | cons a r=>exact ⟨a,r,rfl⟩
theorem bD6 {α:Type} {l:List α} (h:2<=l.length):∃ a b r,l=a::b::r:=by
 match l,h with
 | a::b::r,_=>exact ⟨a,b,r,Z⟩
variable {s1 s2:Value}
theorem JC {v:Vl} {s0:Value} (h:VlR H v s0 s1 s2):∃ t1 t2,fmC v.tm v.e.nm (cFm .u8 v.f.op v.f.nm v.f.fd v.f.a v.f.b s1 s2)=cFm .u8 v.fm.op v.fm.nm v.fm.fd v.fm.a v.fm.b t1 t2/\FmR H v.fm t1 t2:=by
 unfold fmC Vl.fm;cases v.tm with
 | true =>
  refine ⟨.slice none 0 0,.slice none 0 0,Z,FmR.zero rfl rfl ?_ ?_⟩
  ·show (spA v.e.nm).length<=1000000;have:=h.e.nm;unfold spA;rcases xJ v.e.nm with ⟨i,_,hi,e⟩ | ⟨_,e⟩
   ·rw [e];show (v.e.nm.take i).length<=_;rw [dV];omega
   ·rw [e];exact aP _
  ·show (spB v.e.nm).length<=1000000;have:=h.e.nm;unfold spB;rcases xJ v.e.nm with ⟨i,_,hi,e⟩ | ⟨_,e⟩
   ·rw [e];show (v.e.nm.drop (i+1)).length<=_;rw [cS];omega
   ·rw [e];exact aP _
 | false=>exact ⟨s1,s2,Z,h.f⟩
variable {xr:List Value}
theorem Ops.inv2 {o:Ov} {r:List Ov} (h:Ops H (o::r) (xr++oC o s1 s2) AR) (hk:o.kd≠5):Ops H r xr AR/\FmR H o.f s1 s2:=by
 obtain ⟨xr',t1,t2,e,h1,h2⟩:=h.inv hk;obtain ⟨e1,e2⟩:=List.append_inj' e rfl;subst e1;simp only [jK,wA,true_and] at e2;obtain ⟨rfl,rfl⟩:=e2;exact ⟨h1,h2⟩
variable {w0 W:World} {bs:List Res} {b tc:Nat} {tp:Option Addr} {ro rv:Value} {q:Rq}
theorem uB {op:List Ov} {x:Vb} {dn:Bool} (K:Tkf H l tp tc) (Wq:Fwf l ⟨q,op,x,true,dn⟩) (S:Sq H ⟨q,op,x,true,dn⟩ xo xv AR) (lv:Nat) (hlv:1<=lv/\lv<=9) (s:St H w0 (.box b [.slice tp l.length tc,iN q.i,ro,rv,.bool true,.bool dn,.bool x.2,iN q.off,iN q.er] 102::.row 97 11 (ro) (op.length) (xo)::.row 179 13 (rv) (x.1.length) (xv)::(AR++bs)) W) :
 Calls prg 102 #[.pointer (some ⟨b,0,none⟩),iN lv] W (Get w0 bs b l tp tc H (kK lv ⟨q,op,x,true,dn⟩)):=by
 have hq:q.i<l.length:=Wq.i;have hcap:=K.rep.cap;refine fN func102 rfl ntmps102 rfl s ?_;refine .bk<|.lp (X:=(Hp × Value × Value × List Value × List Value) × List Ov × Vb) [(0,_),(1,_)] ⟨Z,Z,Jt⟩ ((AR++bs)) (λz=>[]) (λz=>z.1.1) (λz=>[.box b [.slice tp l.length tc,iN q.i,z.1.2.1,z.1.2.2.1,.bool true,.bool dn,.bool z.2.2.2,iN q.off,iN q.er] 102,.row 97 11 (z.1.2.1) (z.2.1.length) (z.1.2.2.2.1),.row 179 13 (z.1.2.2.1) (z.2.2.1.length) (z.1.2.2.2.2)]) (λz=>HUp w0 H z.1.1/\Sq z.1.1 ⟨q,z.2.1,z.2.2,true,dn⟩ z.1.2.2.2.1 z.1.2.2.2.2 AR/\Fwf l ⟨q,z.2.1,z.2.2,true,dn⟩/\xM lv z.2.1 z.2.2=xM lv op x) (λz=>z.2.1.length) ((H,ro,rv,xo,xv),op,x) (λ_ s=>s) trivial ⟨.refl,S,Wq,Z⟩ λz hC=>?_
 obtain ⟨⟨H1,ro1,rv1,xo1,xv1⟩,op1,x1⟩:=z;obtain ⟨u1,S1,W1,e1⟩:=hC;dsimp only at u1 S1 W1 e1|-;have K1:=K.up u1.up;obtain ⟨o,r,rfl⟩:=CK (l:=op1) (by have:=W1.ne;cases op1 with | nil=>exact absurd rfl this | cons a t=>exact Nat.succ_pos _);obtain ⟨hn1,hn2⟩:=pD W1 K.few;try dsimp only [List.length_cons] at hn1 hn2
 obtain ⟨xr,s1,s2,e2,hlo,ho1,ho2⟩:=Ops.top S1.ops;try dsimp only at e2
 subst e2;refine Sx.rowCase (size:=11) (r:=ro1) (e:=97) cR (Nat.succ_pos _) λg c e hkc=>?_;try dsimp only [List.length_cons] at hkc
 subst e;refine .sq<|.sm Z<|.cs (X:=Unit) mS Z (λW s=>CB K1 hq (g:=g) (k:=r.length) (c:=c) (by omega) (s.pickT (hd:=[_,_,_]) (tl:=(AR++bs)) (hd':=[_,_,_]) [0,1,2] Z Z)) Z λ_ _=>.nC Z<|.fA Z pJ<|.yw (.loadR1 Z bS cR (kY hlo Z))<|.mv Z<|.yw (.geq Z Z)<|.nt<|.ce Z (λh17=>?_) (λh17=>?_)
 ·have hle:lv<=o.lv:=by omega
  have h0:0<o.lv:=by omega
  refine .sk<|.tN<|.bk<|.sm Z<|.cs (X:=Unit) mS Z (λW s=>CB K1 hq (g:=g) (k:=r.length) (c:=c) (by omega) (s.pickT (hd:=[_,_,_]) (tl:=(AR++bs)) (hd':=[_,_,_]) [0,1,2] Z Z)) Z λ_ _=>.nC Z<|.yw (.loadR (vs:=oC o s1 s2) Z AA cR Z (λj u h=>kY hlo h))<|.al RN Z λb4=>.sW .head Z Z RP (cA3 ho1 ho2) Z<|.nt<|.sq<|.fL 12 [(0,0),(1,0),(2,0),(3,0),(4,0),(5,0),(6,0),(7,0),(8,0),(9,0),(10,0),(11,0)]<|.mv Z<|.mv Z<|.nC Z<|.fA Z jO<|.lD Z vZ cR Z<|.mv Z<|.nC Z<|.fA Z jO<|.lD Z vZ cR Z<|.yw (.lenSl DT Z)<|.yw (.sub Z Z (c:=((r.length:Nat):Int)) ((w6 (by omega)).trans (by omega)))<|.yw (.cutHi DT Z Z Z (by omega) (λq e=>by cases e;rfl))<|.fn (tl:=[_,_,_]) Z<|.nC Z<|.fA Z jO<|.st jS Z Z DU Z (nb Z) Z<|?_
  refine Sx.At.rcut (size:=11) (m:=r.length) (ys:=xr) jW (Nat.le_succ _) (by rw [<-hlo,jV]) ?_;refine .ns<|.fA Z hO<|.lD Z mT Hm Z<|.nt<|.bk<|.sr<|.yw (.eql Z Z)<|.aq Z<|.ce Z (λh38=>?_) (λh38=>?_)
  ·have hk:o.kd=10:=aR.1 (by show o.kd.toNat=10;omega);have hk5:o.kd≠5:=by rw [hk];decide
   have hv1:1<=x1.1.length:=by have:=W1.vs;dsimp only at this;rw [this];exact Nat.le_add_left _ _
   obtain ⟨vs,bd⟩:=x1;try dsimp only at hv1 hn2
   obtain ⟨v,V,rfl⟩:=CK hv1;obtain ⟨yr,t0,t1,t2,e4,VS1,V1⟩:=VR.inv S1.vls;try dsimp only at e4
   subst e4;have l1:=VS1.len;try dsimp only [List.length_cons] at hn2
   refine .sm Z<|.cs (X:=Nat × Nat) nW Z (λW s=>zA K1 hq V1.one (by omega) l1 (s.pickT (hd:=[_,_,_,_]) (tl:=(AR++bs)) (hd':=[_,_,_,_]) [1,3,0,2] Z Z)) Z λp1 _=>.al kS Z λb5=>.sW .head Z Z gM (by intro u hu;exact Rep.one V1.e.rep u hu) Z<|.nt<|.rg<|.mv Z<|.yw (.loadW Z dS Hm Z)<|.bl Z (nY _ _ _ _) Z λb44=>?_
   refine Sx.freezeBoxN λH2 u2 m2=>?_;refine .yw (.build Z (BM _ _ _ _))<|.yw (.build Z (kA _ _ _ _ _))<|?_
   have VN:VlR H2 (tmv (.mk 9 [] 0 [v.e])) (.slice (some ⟨b44,0,none⟩) 1 1) (.slice none 0 0) (.slice none 0 0):=⟨⟨(Rep.mk m2 (.single (V1.e.up u2.up).rep rfl) rfl (aW _) (by decide)),aP _⟩,FmR.zero rfl rfl (aP _) (aP _)⟩;exact .cs (X:=Option Addr × Nat) fX Z (λW s=>mP (K1.up u2.up) hq VN.one (by omega) (s.pickT (hd:=[_,_,_,_,_]) (tl:=(AR++bs)) (hd':=[_,_,_,_,_]) [1,2,0,3,4] Z Z)) Z λp9 _=>.nl<|.bN<|.bN<|.tN<|.ag (x:=((H1,Value.slice (some ⟨g,0,none⟩) (o::r).length c,rv1,xr++oC o s1 s2,yr++vC v t0 t1 t2),o::r,(v::V,bd))) (((H2,Value.slice (some ⟨g,0,none⟩) r.length c,Value.slice p9.1 (V.length+1) p9.2,xr,yr++vC (tmv (.mk 9 [] 0 [v.e])) (.slice (some ⟨b44,0,none⟩) 1 1) (.slice none 0 0) (.slice none 0 0)),r,(tmv (.mk 9 [] 0 [v.e])::V,bd || !v.tm))) trivial ⟨rfl,rfl,trivial⟩ (λ_ s=>(s.pickT (hd:=[_,_,_,_,_]) (tl:=(AR++bs)) (hd':=[_,_,_]) [0,4,1] Z Z)) ⟨u1.trans u2,⟨(Ops.inv2 S1.ops hk5).1.up u2.up,.cons (VS1.up u2.up) VN⟩,(by rw [<-aK3 hk];exact GM W1 h0),(by rw [<-aK3 hk,<-e1,xM,aM hle])⟩ (cY _)
  have hk10:¬ o.kd=10:=λe=>by rw [e] at h38;exact h38 rfl
  refine .sq<|.sr<|.yw (.eql Z Z)<|.aq Z<|.cr Z (λh48=>?_) (λh48=>?_)
  ·try simp only [dt] at h48
   have hk:o.kd=9:=aR.1 (by show o.kd.toNat=9;omega);have hk5:o.kd≠5:=by rw [hk];decide
   have hv1:2<=x1.1.length:=by have:=W1.vs;dsimp only at this;rw [this,sM,show cnO o=true by unfold cnO;rw [hk];decide];simp only [aU];omega
   obtain ⟨vs,bd⟩:=x1;try dsimp only at hv1 hn2
   obtain ⟨v,u,V,rfl⟩:=bD6 hv1;obtain ⟨yr,t0,t1,t2,e4,VS1,V1⟩:=VR.inv S1.vls;try dsimp only at e4
   subst e4;have l1:=VS1.len;obtain ⟨yr2,w0_,w1,w2,e5,VS2,V2⟩:=VR.inv VS1;subst e5;have l2:=VS2.len;try dsimp only [List.length_cons] at hn2 l1
   refine .sk<|.tN<|.cT Z<|.sm Z<|.cs (X:=Nat × Nat) nW Z (λW s=>zA K1 hq V1.one (by omega) l1 (s.pickT (hd:=[_,_,_,_]) (tl:=(AR++bs)) (hd':=[_,_,_,_]) [1,3,0,2] Z Z)) Z λp1 _=>.mv Z<|.cs (X:=Nat × Nat) nW Z (λW s=>zA K1 hq V2.one (by omega) l2 (s.pickT (hd:=[_,_,_,_]) (tl:=(AR++bs)) (hd':=[_,_,_,_]) [0,1,2,3] Z Z)) Z λp2 _=>.al kS Z λb6=>.al kS Z λb7=>.sW jS Z Z gM (by intro a ha;exact Rep.one V1.e.rep a ha) Z<|.sW .head Z Z gM (by intro a ha;exact Rep.one V2.e.rep a ha) Z<|.ns<|.fA Z BG<|.lD Z kR zC Z<|.yw (.loadW Z dS Hm Z)<|.yw (.loadW Z dS cR Z)<|.bl Z (OP _ _ _ _ _ _ _ _) Z λb59=>?_
   refine Sx.freezeBoxN λH2 u2 m2=>?_;refine .yw (.build Z (BM _ _ _ _))<|.al kS Z λb8=>.sX .head Z Z gM Z<|.ns<|.fA Z hO<|.lD Z mT aO6 Z<|.yw (.eql Z Z)<|.nt<|.cd Z (λh63=>?_) (λh63=>?_)
   ·try simp only [dt] at h63
    refine .rg<|.mv Z<|.yw (.loadW Z dS Hm Z)<|.yw (.build Z (kA _ _ _ _ _))<|?_
    have VN:VlR H2 (tmv (.mk o.op [] 0 [u.e,v.e])) (.slice (some ⟨b59,0,none⟩) 2 2) (.slice none 0 0) (.slice none 0 0):=⟨⟨(Rep.mk m2 (.app (.single (V2.e.up u2.up).rep rfl) (.single (V1.e.up u2.up).rep rfl)) rfl (aW _) (by decide)),aP _⟩,FmR.zero rfl rfl (aP _) (aP _)⟩;exact .cs (X:=Option Addr × Nat) fX Z (λW s=>mP (K1.up u2.up) hq VN.one (by omega) (s.pickT (hd:=[_,_,_,_,_,_,_]) (tl:=(AR++bs)) (hd':=[_,_,_,_,_,_,_]) [3,4,0,1,2,5,6] Z Z)) Z λp9 _=>.nl<|.bN<|.bN<|.tN<|.ag (x:=((H1,Value.slice (some ⟨g,0,none⟩) (o::r).length c,rv1,xr++oC o s1 s2,(yr2++vC u w0_ w1 w2)++vC v t0 t1 t2),o::r,(v::u::V,bd))) (((H2,Value.slice (some ⟨g,0,none⟩) r.length c,Value.slice p9.1 (V.length+1) p9.2,xr,yr2++vC (tmv (.mk o.op [] 0 [u.e,v.e])) (.slice (some ⟨b59,0,none⟩) 2 2) (.slice none 0 0) (.slice none 0 0)),r,(tmv (.mk o.op [] 0 [u.e,v.e])::V,bd || !v.tm || !u.tm))) trivial ⟨rfl,rfl,trivial⟩ (λ_ s=>(s.pickT (hd:=[_,_,_,_,_,_,_]) (tl:=(AR++bs)) (hd':=[_,_,_]) [0,6,1] Z Z)) ⟨u1.trans u2,⟨(Ops.inv2 S1.ops hk5).1.up u2.up,.cons (VS2.up u2.up) VN⟩,(by rw [<-bI9 hk];exact GM W1 h0),(by rw [<-bI9 hk,<-e1,xM,aM hle])⟩ (cY _)
   exact absurd (by rw [hk];rfl) (aO h63)
  try simp only [df] at h48
  have hk9:¬ o.kd=9:=λe=>by rw [e] at h48;exact h48 rfl
  refine .rg<|.yw (.eql Z Z)<|.aq Z<|.cr Z (λh48=>?_) (λh48=>?_)
  ·try simp only [dt] at h48
   have hk:o.kd=8:=aR.1 (by show o.kd.toNat=8;omega);have hk5:o.kd≠5:=by rw [hk];decide
   have hv1:2<=x1.1.length:=by have:=W1.vs;dsimp only at this;rw [this,sM,show cnO o=true by unfold cnO;rw [hk];decide];simp only [aU];omega
   obtain ⟨vs,bd⟩:=x1;try dsimp only at hv1 hn2
   obtain ⟨v,u,V,rfl⟩:=bD6 hv1;obtain ⟨yr,t0,t1,t2,e4,VS1,V1⟩:=VR.inv S1.vls;try dsimp only at e4
   subst e4;have l1:=VS1.len;obtain ⟨yr2,w0_,w1,w2,e5,VS2,V2⟩:=VR.inv VS1;subst e5;have l2:=VS2.len;try dsimp only [List.length_cons] at hn2 l1
   refine .sm Z<|.cs (X:=Nat × Nat) nW Z (λW s=>zA K1 hq V1.one (by omega) l1 (s.pickT (hd:=[_,_,_,_]) (tl:=(AR++bs)) (hd':=[_,_,_,_]) [1,3,0,2] Z Z)) Z λp1 _=>.mv Z<|.cs (X:=Nat × Nat) nW Z (λW s=>zA K1 hq V2.one (by omega) l2 (s.pickT (hd:=[_,_,_,_]) (tl:=(AR++bs)) (hd':=[_,_,_,_]) [0,1,2,3] Z Z)) Z λp2 _=>.al kS Z λb6=>.al kS Z λb7=>.sW jS Z Z gM (by intro a ha;exact Rep.one V1.e.rep a ha) Z<|.sW .head Z Z gM (by intro a ha;exact Rep.one V2.e.rep a ha) Z<|.ns<|.fA Z BG<|.lD Z kR zC Z<|.yw (.loadW Z dS Hm Z)<|.yw (.loadW Z dS cR Z)<|.bl Z (OP _ _ _ _ _ _ _ _) Z λb59=>?_
   refine Sx.freezeBoxN λH2 u2 m2=>?_;refine .yw (.build Z (BM _ _ _ _))<|.al kS Z λb8=>.sX .head Z Z gM Z<|.ns<|.fA Z hO<|.lD Z mT aO6 Z<|.yw (.eql Z Z)<|.nt<|.cd Z (λh63=>?_) (λh63=>?_)
   ·exact absurd (aJ h63) (by rw [hk];decide)
   try simp only [df] at h63
   refine .rg<|.mv Z<|.yw (.loadW Z dS Hm Z)<|.bl Z (nY _ _ _ _) Z λb70=>?_
   refine Sx.freezeBoxN λH3 u3 m3=>?_;refine .yw (.build Z (VC _ _ _ _))<|.yw (.build Z (jH _ _ _ _ _ _ _))<|?_
   have RX:ExR H2 (.mk o.op [] 0 [u.e,v.e]) (.slice (some ⟨b59,0,none⟩) 2 2):=⟨(Rep.mk m2 (.app (.single (V2.e.up u2.up).rep rfl) (.single (V1.e.up u2.up).rep rfl)) rfl (aW _) (by decide)),aP _⟩;have VN:VlR H3 (fmv (.mk 3 [] [] 0 0 [.mk o.op [] 0 [u.e,v.e]] [])) (.slice none 0 0) (.slice (some ⟨b70,0,none⟩) 1 1) (.slice none 0 0):=⟨ExR.zero rfl (aP _),⟨(Rep.mk m3 (.single (RX.up u3.up).rep rfl) rfl (aW _) (by decide)),Rep.nil4,aP _,aP _⟩⟩;exact .cs (X:=Option Addr × Nat) fX Z (λW s=>mP ((K1.up u2.up).up u3.up) hq VN.one (by omega) (s.pickT (hd:=[_,_,_,_,_,_,_]) (tl:=(AR++bs)) (hd':=[_,_,_,_,_,_,_]) [3,4,0,1,2,5,6] Z Z)) Z λp9 _=>.nl<|.bN<|.bN<|.tN<|.ag (x:=((H1,Value.slice (some ⟨g,0,none⟩) (o::r).length c,rv1,xr++oC o s1 s2,(yr2++vC u w0_ w1 w2)++vC v t0 t1 t2),o::r,(v::u::V,bd))) (((H3,Value.slice (some ⟨g,0,none⟩) r.length c,Value.slice p9.1 (V.length+1) p9.2,xr,yr2++vC (fmv (.mk 3 [] [] 0 0 [.mk o.op [] 0 [u.e,v.e]] [])) (.slice none 0 0) (.slice (some ⟨b70,0,none⟩) 1 1) (.slice none 0 0)),r,(fmv (.mk 3 [] [] 0 0 [.mk o.op [] 0 [u.e,v.e]] [])::V,bd || !v.tm || !u.tm))) trivial ⟨rfl,rfl,trivial⟩ (λ_ s=>(s.pickT (hd:=[_,_,_,_,_,_,_]) (tl:=(AR++bs)) (hd':=[_,_,_]) [0,6,1] Z Z)) ⟨u1.trans (u2.trans u3),⟨(Ops.inv2 S1.ops hk5).1.up (u2.trans u3).up,.cons (VS2.up (u2.trans u3).up) VN⟩,(by rw [<-bJ0 hk];exact GM W1 h0),(by rw [<-bJ0 hk,<-e1,xM,aM hle])⟩ (cY _)
  try simp only [df] at h48
  have hk8:¬ o.kd=8:=λe=>by rw [e] at h48;exact h48 rfl
  refine .sr<|.yw (.eql Z Z)<|.aq Z<|.ce Z (λh74=>?_) (λh74=>?_)
  ·have hk:o.kd=7:=aR.1 (by show o.kd.toNat=7;omega);have hk5:o.kd≠5:=by rw [hk];decide
   have hv1:1<=x1.1.length:=by have:=W1.vs;dsimp only at this;rw [this];exact Nat.le_add_left _ _
   obtain ⟨vs,bd⟩:=x1;try dsimp only at hv1 hn2
   obtain ⟨v,V,rfl⟩:=CK hv1;obtain ⟨yr,t0,t1,t2,e4,VS1,V1⟩:=VR.inv S1.vls;try dsimp only at e4
   subst e4;have l1:=VS1.len;try dsimp only [List.length_cons] at hn2
   refine .sm Z<|.cs (X:=Nat × Nat) xF Z (λW s=>xB K1 hq V1.one V1.e.nm (by omega) l1 (s.pickT (hd:=[_,_,_,_]) (tl:=(AR++bs)) (hd':=[_,_,_,_]) [1,3,0,2] Z Z)) Z λp1 _=>?_
   obtain ⟨q1,q2,ef,FR⟩:=JC V1;rw [ef];refine .bl Z (rK _ _ _ _ _ _ _) Z λb78=>?_;refine Sx.freezeBoxN λH2 u2 m2=>?_;refine .fA Z dL<|.fA Z dF<|.st jW Z Z DV Z (nb Z) Z<|.nt<|.rg<|.mv Z<|.fA Z dL<|.yw (.loadS (vs:=[_,_,_,_,_,_,_]) Z cL kP Z (SX Z))<|.yw (.build Z (jH _ _ _ _ _ _ _))<|?_
   have FO:=(Ops.inv2 S1.ops hk5).2;have VN:VlR H2 (fmv (o.f.wAr [v.fm])) (.slice none 0 0) s1 (.slice (some ⟨b78,0,none⟩) 1 1):=⟨ExR.zero rfl (aP _),⟨FO.ex.up u2.up,(Rep.mk m2 (.single (FR.up u2.up).rep rfl) rfl (aW _) (by decide)),FO.nm,FO.fd⟩⟩;exact .cs (X:=Option Addr × Nat) fX Z (λW s=>mP (K1.up u2.up) hq VN.one (by omega) (s.pickT (hd:=[_,_,_,_]) (tl:=(AR++bs)) (hd':=[_,_,_,_]) [0,1,2,3] Z Z)) Z λp9 _=>.nl<|.bN<|.bN<|.tN<|.ag (x:=((H1,Value.slice (some ⟨g,0,none⟩) (o::r).length c,rv1,xr++oC o s1 s2,yr++vC v t0 t1 t2),o::r,(v::V,bd))) (((H2,Value.slice (some ⟨g,0,none⟩) r.length c,Value.slice p9.1 (V.length+1) p9.2,xr,yr++vC (fmv (o.f.wAr [v.fm])) (.slice none 0 0) s1 (.slice (some ⟨b78,0,none⟩) 1 1)),r,(fmv (o.f.wAr [v.fm])::V,bd || v.noF))) trivial ⟨rfl,rfl,trivial⟩ (λ_ s=>(s.pickT (hd:=[_,_,_,_]) (tl:=(AR++bs)) (hd':=[_,_,_]) [0,3,1] Z Z)) ⟨u1.trans u2,⟨(Ops.inv2 S1.ops hk5).1.up u2.up,.cons (VS1.up u2.up) VN⟩,(by rw [<-bJ1 hk];exact GM W1 h0),(by rw [<-bJ1 hk,<-e1,xM,aM hle])⟩ (cY _)
  have hk7:¬ o.kd=7:=λe=>by rw [e] at h74;exact h74 rfl
  refine .sr<|.yw (.eql Z Z)<|.aq Z<|.cd Z (λh86=>?_) (λh86=>?_)
  ·try simp only [dt] at h86
   have hk:o.kd=6:=aR.1 (by show o.kd.toNat=6;omega);have hk5:o.kd≠5:=by rw [hk];decide
   have hv1:2<=x1.1.length:=by have:=W1.vs;dsimp only at this;rw [this,sM,show cnO o=true by unfold cnO;rw [hk];decide];simp only [aU];omega
   obtain ⟨vs,bd⟩:=x1;try dsimp only at hv1 hn2
   obtain ⟨v,u,V,rfl⟩:=bD6 hv1;obtain ⟨yr,t0,t1,t2,e4,VS1,V1⟩:=VR.inv S1.vls;try dsimp only at e4
   subst e4;have l1:=VS1.len;obtain ⟨yr2,w0_,w1,w2,e5,VS2,V2⟩:=VR.inv VS1;subst e5;have l2:=VS2.len;try dsimp only [List.length_cons] at hn2 l1
   refine .sm Z<|.cs (X:=Nat × Nat) xF Z (λW s=>xB K1 hq V1.one V1.e.nm (by omega) l1 (s.pickT (hd:=[_,_,_,_]) (tl:=(AR++bs)) (hd':=[_,_,_,_]) [1,3,0,2] Z Z)) Z λp1 _=>?_
   obtain ⟨q1,q2,ef,FR⟩:=JC V1;rw [ef];refine .mv Z<|.cs (X:=Nat × Nat) xF Z (λW s=>xB K1 hq V2.one V2.e.nm (by omega) l2 (s.pickT (hd:=[_,_,_,_]) (tl:=(AR++bs)) (hd':=[_,_,_,_]) [0,1,2,3] Z Z)) Z λp2 _=>?_
   obtain ⟨q3,q4,ef2,FR2⟩:=JC V2;rw [ef2];refine .al eS Z λb9=>.al eS Z λb10=>.sW jS Z Z dC (by intro a ha;exact Rep.one FR.rep a ha) Z<|.sW .head Z Z dC (by intro a ha;exact Rep.one FR2.rep a ha) Z<|.ns<|.yw (.loadW Z cL Hm Z)<|.yw (.loadW Z cL cR Z)<|.bl Z (aF0 _ _ _ _ _ _ _ _ _ _ _ _ _ _) Z λb94=>?_
   refine Sx.freezeBoxN λH2 u2 m2=>?_;refine .fA Z dL<|.fA Z dF<|.st SN Z Z DV Z (nb Z) Z<|.nt<|.rg<|.mv Z<|.fA Z dL<|.yw (.loadS (vs:=[_,_,_,_,_,_,_]) Z cL zC Z (SX Z))<|.yw (.build Z (jH _ _ _ _ _ _ _))<|?_
   have FO:=(Ops.inv2 S1.ops hk5).2;have VN:VlR H2 (fmv (o.f.wAr [u.fm,v.fm])) (.slice none 0 0) s1 (.slice (some ⟨b94,0,none⟩) 2 2):=⟨ExR.zero rfl (aP _),⟨FO.ex.up u2.up,(Rep.mk m2 (.app (.single (FR2.up u2.up).rep rfl) (.single (FR.up u2.up).rep rfl)) rfl (aW _) (by decide)),FO.nm,FO.fd⟩⟩;exact .cs (X:=Option Addr × Nat) fX Z (λW s=>mP (K1.up u2.up) hq VN.one (by omega) (s.pickT (hd:=[_,_,_,_,_,_]) (tl:=(AR++bs)) (hd':=[_,_,_,_,_,_]) [2,3,0,1,4,5] Z Z)) Z λp9 _=>.nl<|.bN<|.bN<|.tN<|.ag (x:=((H1,Value.slice (some ⟨g,0,none⟩) (o::r).length c,rv1,xr++oC o s1 s2,(yr2++vC u w0_ w1 w2)++vC v t0 t1 t2),o::r,(v::u::V,bd))) (((H2,Value.slice (some ⟨g,0,none⟩) r.length c,Value.slice p9.1 (V.length+1) p9.2,xr,yr2++vC (fmv (o.f.wAr [u.fm,v.fm])) (.slice none 0 0) s1 (.slice (some ⟨b94,0,none⟩) 2 2)),r,(fmv (o.f.wAr [u.fm,v.fm])::V,bd || v.noF || u.noF))) trivial ⟨rfl,rfl,trivial⟩ (λ_ s=>(s.pickT (hd:=[_,_,_,_,_,_]) (tl:=(AR++bs)) (hd':=[_,_,_]) [0,5,1] Z Z)) ⟨u1.trans u2,⟨(Ops.inv2 S1.ops hk5).1.up u2.up,.cons (VS2.up u2.up) VN⟩,(by rw [<-bJ2 hk];exact GM W1 h0),(by rw [<-bJ2 hk,<-e1,xM,aM hle])⟩ (cY _)
  exact absurd ((bC2 (by obtain ⟨r1,e7,hr1⟩:=W1.op;cases r1 with | nil=>(injection e7 with e7 _;subst e7;exact absurd h0 (by decide)) | cons a r1=>(injection e7 with e7 _;subst e7;exact hr1 _ (bQ ..)))).2 h0) (by rintro (e | e | e | e | e) <;> first | exact hk10 e | exact hk9 e | exact hk8 e | exact hk7 e | exact (aO h86) (by rw [e];rfl))
 have e6:kK lv ⟨q,op,x,true,dn⟩=⟨q,o::r,x1,true,dn⟩:=by unfold kK;dsimp only;rw [<-e1,xM,aD (show ¬ lv<=o.lv by omega)]
 refine .ex<|.tE<|.tE<|.bE<|?_
 refine jE (.inr Z) rfl .nil rfl λW s=>?_;rw [e6];exact ⟨(H1,_,rv1,_,xv1,AR),⟨u1,S1⟩,Z,s.pickT (hd:=[_,_,_]) (tl:=(AR++bs)) (hd':=[_,_,_]) [0,1,2] rfl rfl⟩
def cO0 (w0:World) (bs:List Res) (b:Nat) (l:Tks) (tp:Option Addr) (tc:Nat) (H:Hp) (v:Value) (q:Ps) (e:Ending) (W:World):Prop :=
 ∃ z:Hp × Value × Value × List Value × List Value × List Res,(HUp w0 H z.1/\Sq z.1 q z.2.2.2.1 z.2.2.2.2.1 z.2.2.2.2.2)/\e=.returned v/\StP z.1 w0 bs W b l tp tc q z.2.1 z.2.2.1 z.2.2.2.1 z.2.2.2.2.1 z.2.2.2.2.2
theorem Ops.tm {op:List Ov} (h:Ops H op xo AR) (hn:op≠[]):∃ k1,op.length=k1+1/\xo[k1 * 11+2]? = some (.bool (op.headD bO).tm):=by
 cases op with
 | nil=>exact absurd rfl hn
 | cons o r =>
  obtain ⟨xr,s1,s2,e,hl,_⟩:=h.top;subst e;exact ⟨r.length,Z,kY hl rfl⟩
set_option maxHeartbeats 1000000 in
theorem bB4 {op:List Ov} {x:Vb} {dn:Bool} (K:Tkf H l tp tc) (Wq:Fwf l ⟨q,op,x,false,dn⟩) (S:Sq H ⟨q,op,x,false,dn⟩ xo xv AR) (s:St H w0 (.box b [.slice tp l.length tc,iN q.i,ro,rv,.bool false,.bool dn,.bool x.2,iN q.off,iN q.er] 102::.row 97 11 (ro) (op.length) (xo)::.row 179 13 (rv) (x.1.length) (xv)::(AR++bs)) W) :
 Calls prg 106 #[.pointer (some ⟨b,0,none⟩)] W (cO0 w0 bs b l tp tc H (.bool (mV l ⟨q,op,x,false,dn⟩).isSome) ((mV l ⟨q,op,x,false,dn⟩).getD ⟨q,op,x,false,dn⟩)):=by
 have hq:q.i<l.length:=Wq.i;have hne:op≠[]:=Wq.ne;obtain ⟨hn1,hn2⟩:=pD Wq K.few;dsimp only at hn1 hn2;have hcap:=K.rep.cap;refine fN func106 rfl ntmps106 rfl s ?_;refine .sr<|.a Z Z<|.ns<|.al eS Z λb3=>.nt<|.sq<|.bk<|.sm Z<|.cs (X:=Unit) dI Z (λW s=>eQ K hq [110,111,116] (s.pickT (hd:=[_,_,_,_]) (tl:=(AR++bs)) (hd':=[_,_,_,_]) [1,0,2,3] Z Z)) Z λ_ _=>.aq Z<|.cd Z (λh4=>?_) (λh4=>?_)
 ·have a4:Rq.ac l [110,111,116] q=true:=h4;rw [lN a4];refine .rg<|.yw (.build Z (pP _))<|.sX jS Z Z dC Z<|.nl<|.bN<|.tN<|.sm Z<|.yw (.loadW Z cL cR Z)<|.yw (.build Z (jZ _ _ _ _ _ _ _ _ _))<|.cs (X:=Option Addr × Nat) gI Z (λW s=>mW K (cC K.gd.last hq a4) (by simp [Value.oneCell',bV]) (aV hn1 (by decide)) (λ_=>S.ops.tm hne) (s.pickT (hd:=[_,_,_,_]) (tl:=(AR++bs)) (hd':=[_,_,_,_]) [0,2,1,3] Z Z)) Z λp9 _=>.ns<|.az Z<|?_
  refine y9 Z Z λW s=>?_;rw [AK (q:=⟨q,op,x,false,dn⟩) (op:=8) a4 (by decide)];exact ⟨(_,_,_,_,_,AR),⟨.refl,⟨.cons S.ops (by show ¬ (7:UInt8)=5;decide) (FmR.zero rfl rfl (aP _) (aP _)),S.vls⟩⟩,Z,s.pickT (hd:=[_,_,_,_]) (tl:=(AR++bs)) (hd':=[_,_,_]) [0,1,3] rfl rfl⟩
 have a4:Rq.ac l [110,111,116] q=false:=h4;rw [lS a4];refine .sm Z<|.cs (X:=Unit) dI Z (λW s=>eQ K hq [112,114,101,118,105,111,117,115] (s.pickT (hd:=[_,_,_,_]) (tl:=(AR++bs)) (hd':=[_,_,_,_]) [0,1,2,3] Z Z)) Z λ_ _=>.aq Z<|.cd Z (λh8=>?_) (λh8=>?_)
 ·have a8:Rq.ac l [112,114,101,118,105,111,117,115] q=true:=h8;rw [lN a8];refine .rg<|.yw (.build Z (pP _))<|.sX jS Z Z dC Z<|.nl<|.bN<|.tN<|.sm Z<|.yw (.loadW Z cL cR Z)<|.yw (.build Z (jZ _ _ _ _ _ _ _ _ _))<|.cs (X:=Option Addr × Nat) gI Z (λW s=>mW K (cC K.gd.last hq a8) (by simp [Value.oneCell',bV]) (aV hn1 (by decide)) (λ_=>S.ops.tm hne) (s.pickT (hd:=[_,_,_,_]) (tl:=(AR++bs)) (hd':=[_,_,_,_]) [0,2,1,3] Z Z)) Z λp9 _=>.ns<|.az Z<|?_
  refine y9 Z Z λW s=>?_;rw [AK (q:=⟨q,op,x,false,dn⟩) (op:=12) a8 (by decide)];exact ⟨(_,_,_,_,_,AR),⟨.refl,⟨.cons S.ops (by show ¬ (7:UInt8)=5;decide) (FmR.zero rfl rfl (aP _) (aP _)),S.vls⟩⟩,Z,s.pickT (hd:=[_,_,_,_]) (tl:=(AR++bs)) (hd':=[_,_,_]) [0,1,3] rfl rfl⟩
 have a8:Rq.ac l [112,114,101,118,105,111,117,115] q=false:=h8;rw [lS a8];refine .sm Z<|.cs (X:=Unit) dI Z (λW s=>eQ K hq [111,110,99,101] (s.pickT (hd:=[_,_,_,_]) (tl:=(AR++bs)) (hd':=[_,_,_,_]) [0,1,2,3] Z Z)) Z λ_ _=>.aq Z<|.cd Z (λh12=>?_) (λh12=>?_)
 ·have a12:Rq.ac l [111,110,99,101] q=true:=h12;rw [lN a12];refine .rg<|.mv Z<|.cs (X:=Unit) GB Z (λW s=>LQ K (cC K.gd.last hq a12) 13 (s.pickT (hd:=[_,_,_,_]) (tl:=(AR++bs)) (hd':=[_,_,_,_]) [0,1,2,3] Z Z)) Z λ_ _=>.sX jS Z Z dC Z<|.nl<|.bN<|.tN<|.sm Z<|.yw (.loadW Z cL cR Z)<|.yw (.build Z (jZ _ _ _ _ _ _ _ _ _))<|.cs (X:=Option Addr × Nat) gI Z (λW s=>mW K (EL K.gd.last (cC K.gd.last hq a12)) (by simp [Value.oneCell',bV]) (aV hn1 (by decide)) (λ_=>S.ops.tm hne) (s.pickT (hd:=[_,_,_,_]) (tl:=(AR++bs)) (hd':=[_,_,_,_]) [0,2,1,3] Z Z)) Z λp9 _=>.ns<|.az Z<|?_
  refine y9 Z Z λW s=>?_;rw [AK (q:=⟨q,op,x,false,dn⟩) (op:=13) a12 (by decide)];exact ⟨(_,_,_,_,_,AR),⟨.refl,⟨.cons S.ops (by show ¬ (7:UInt8)=5;decide) (FmR.zero rfl rfl (aP _) (aP _)),S.vls⟩⟩,Z,s.pickT (hd:=[_,_,_,_]) (tl:=(AR++bs)) (hd':=[_,_,_]) [0,1,3] rfl rfl⟩
 have a12:Rq.ac l [111,110,99,101] q=false:=h12;rw [lS a12];refine .sm Z<|.cs (X:=Unit) dI Z (λW s=>eQ K hq [97,108,119,97,121,115] (s.pickT (hd:=[_,_,_,_]) (tl:=(AR++bs)) (hd':=[_,_,_,_]) [0,1,2,3] Z Z)) Z λ_ _=>.aq Z<|.cd Z (λh17=>?_) (λh17=>?_)
 ·have a17:Rq.ac l [97,108,119,97,121,115] q=true:=h17;rw [lN a17];refine .rg<|.mv Z<|.cs (X:=Unit) GB Z (λW s=>LQ K (cC K.gd.last hq a17) 14 (s.pickT (hd:=[_,_,_,_]) (tl:=(AR++bs)) (hd':=[_,_,_,_]) [0,1,2,3] Z Z)) Z λ_ _=>.sX jS Z Z dC Z<|.nl<|.bN<|.tN<|.sm Z<|.yw (.loadW Z cL cR Z)<|.yw (.build Z (jZ _ _ _ _ _ _ _ _ _))<|.cs (X:=Option Addr × Nat) gI Z (λW s=>mW K (EL K.gd.last (cC K.gd.last hq a17)) (by simp [Value.oneCell',bV]) (aV hn1 (by decide)) (λ_=>S.ops.tm hne) (s.pickT (hd:=[_,_,_,_]) (tl:=(AR++bs)) (hd':=[_,_,_,_]) [0,2,1,3] Z Z)) Z λp9 _=>.ns<|.az Z<|?_
  refine y9 Z Z λW s=>?_;rw [AK (q:=⟨q,op,x,false,dn⟩) (op:=14) a17 (by decide)];exact ⟨(_,_,_,_,_,AR),⟨.refl,⟨.cons S.ops (by show ¬ (7:UInt8)=5;decide) (FmR.zero rfl rfl (aP _) (aP _)),S.vls⟩⟩,Z,s.pickT (hd:=[_,_,_,_]) (tl:=(AR++bs)) (hd':=[_,_,_]) [0,1,3] rfl rfl⟩
 have a17:Rq.ac l [97,108,119,97,121,115] q=false:=h17;rw [lS a17];refine .sm Z<|.cs (X:=Unit) dI Z (λW s=>eQ K hq [102,111,114,97,108,108] (s.pickT (hd:=[_,_,_,_]) (tl:=(AR++bs)) (hd':=[_,_,_,_]) [0,1,2,3] Z Z)) Z λ_ _=>.aq Z<|.cd Z (λh22=>?_) (λh22=>?_)
 ·have a22:Rq.ac l [102,111,114,97,108,108] q=true:=h22;rw [lN a22];refine .rg<|.mv Z<|.cs (X:=Unit) GA Z (λW s=>UX K (cC K.gd.last hq a22) 16 (s.pickT (hd:=[_,_,_,_]) (tl:=(AR++bs)) (hd':=[_,_,_,_]) [0,1,2,3] Z Z)) Z λ_ _=>.sX jS Z Z dC Z<|.nl<|.bN<|.tN<|.sm Z<|.yw (.loadW Z cL cR Z)<|.yw (.build Z (jZ _ _ _ _ _ _ _ _ _))<|.cs (X:=Option Addr × Nat) gI Z (λW s=>mW K (LT K.gd.last (cC K.gd.last hq a22)) (by simp [Value.oneCell',bV]) (aV hn1 (by decide)) (λ_=>S.ops.tm hne) (s.pickT (hd:=[_,_,_,_]) (tl:=(AR++bs)) (hd':=[_,_,_,_]) [0,2,1,3] Z Z)) Z λp9 _=>.ns<|.az Z<|?_
  refine y9 Z Z λW s=>?_;rw [AK (q:=⟨q,op,x,false,dn⟩) (op:=16) a22 (by decide)];exact ⟨(_,_,_,_,_,AR),⟨.refl,⟨.cons S.ops (by show ¬ (7:UInt8)=5;decide) (FmR.zero rfl rfl (aV (gT K (cC K.gd.last hq a22)) (by decide)) (aP _)),S.vls⟩⟩,Z,s.pickT (hd:=[_,_,_,_]) (tl:=(AR++bs)) (hd':=[_,_,_]) [0,1,3] rfl rfl⟩
 have a22:Rq.ac l [102,111,114,97,108,108] q=false:=h22;rw [lS a22];refine .sm Z<|.cs (X:=Unit) dI Z (λW s=>eQ K hq [101,120,105,115,116,115] (s.pickT (hd:=[_,_,_,_]) (tl:=(AR++bs)) (hd':=[_,_,_,_]) [0,1,2,3] Z Z)) Z λ_ _=>.aq Z<|.cd Z (λh27=>?_) (λh27=>?_)
 ·have a27:Rq.ac l [101,120,105,115,116,115] q=true:=h27;rw [lN a27];refine .rg<|.mv Z<|.cs (X:=Unit) GA Z (λW s=>UX K (cC K.gd.last hq a27) 17 (s.pickT (hd:=[_,_,_,_]) (tl:=(AR++bs)) (hd':=[_,_,_,_]) [0,1,2,3] Z Z)) Z λ_ _=>.sX jS Z Z dC Z<|.nl<|.bN<|.tN<|.sm Z<|.yw (.loadW Z cL cR Z)<|.yw (.build Z (jZ _ _ _ _ _ _ _ _ _))<|.cs (X:=Option Addr × Nat) gI Z (λW s=>mW K (LT K.gd.last (cC K.gd.last hq a27)) (by simp [Value.oneCell',bV]) (aV hn1 (by decide)) (λ_=>S.ops.tm hne) (s.pickT (hd:=[_,_,_,_]) (tl:=(AR++bs)) (hd':=[_,_,_,_]) [0,2,1,3] Z Z)) Z λp9 _=>.ns<|.az Z<|?_
  refine y9 Z Z λW s=>?_;rw [AK (q:=⟨q,op,x,false,dn⟩) (op:=17) a27 (by decide)];exact ⟨(_,_,_,_,_,AR),⟨.refl,⟨.cons S.ops (by show ¬ (7:UInt8)=5;decide) (FmR.zero rfl rfl (aV (gT K (cC K.gd.last hq a27)) (by decide)) (aP _)),S.vls⟩⟩,Z,s.pickT (hd:=[_,_,_,_]) (tl:=(AR++bs)) (hd':=[_,_,_]) [0,1,3] rfl rfl⟩
 have a27:Rq.ac l [101,120,105,115,116,115] q=false:=h27;rw [lS a27];refine .sm Z<|.cs (X:=Unit) dI Z (λW s=>eQ K hq [99,111,117,110,116] (s.pickT (hd:=[_,_,_,_]) (tl:=(AR++bs)) (hd':=[_,_,_,_]) [0,1,2,3] Z Z)) Z λ_ _=>.aq Z<|.cd Z (λh32=>?_) (λh32=>?_)
 ·have a32:Rq.ac l [99,111,117,110,116] q=true:=h32;rw [lN a32];refine .sm Z<|.cs (X:=Unit) GA Z (λW s=>UX K (cC K.gd.last hq a32) 18 (s.pickT (hd:=[_,_,_,_]) (tl:=(AR++bs)) (hd':=[_,_,_,_]) [0,1,2,3] Z Z)) Z λ_ _=>.sX jS Z Z dC Z<|.ns<|.mv Z<|.cs (X:=Unit) nX Z (λW s=>sL K (LT K.gd.last (cC K.gd.last hq a32)) [40] (s.pickT (hd:=[_,_,_,_]) (tl:=(AR++bs)) (hd':=[_,_,_,_]) [0,1,2,3] Z Z)) Z λ_ _=>.ns<|.mv Z<|.yw (.loadW Z cL cR Z)<|.yw (.build Z (VB _ _ _ _ _ _ _ _))<|.cs (X:=Option Addr × Nat) gI Z (λW s=>mW K (fM K.gd.last (LT K.gd.last (cC K.gd.last hq a32))) (by simp [Value.oneCell',bV]) (aV hn1 (by decide)) (t':=false) (λh=>absurd h (Nat.lt_irrefl 0)) (s.pickT (hd:=[_,_,_,_]) (tl:=(AR++bs)) (hd':=[_,_,_,_]) [0,2,1,3] Z Z)) Z λp9 _=>.ns<|.az Z<|.bR<|.tR<|?_
  refine y9 Z Z λW s=>?_;rw [WM (q:=⟨q,op,x,false,dn⟩) a32];exact ⟨(_,_,_,_,_,AR),⟨.refl,⟨.cons S.ops (by show ¬ (3:UInt8)=5;decide) (FmR.zero rfl rfl (aV (gT K (cC K.gd.last hq a32)) (by decide)) (aP _)),S.vls⟩⟩,Z,s.pickT (hd:=[_,_,_,_]) (tl:=(AR++bs)) (hd':=[_,_,_]) [0,1,3] rfl rfl⟩
 have a32:Rq.ac l [99,111,117,110,116] q=false:=h32;rw [lS a32];refine .sr<|.az Z<|.bR<|.tR<|?_
 refine y9 Z Z λW s=>?_
 have e0:mV l ⟨q,op,x,false,dn⟩=none:=aH2 (λw op hp=>by
  simp only [IV,bP,iV,List.not_mem_nil,or_false] at hp;rcases hp with ⟨rfl,rfl⟩ | ⟨rfl,rfl⟩ | ⟨rfl,rfl⟩ | ⟨rfl,rfl⟩ | ⟨rfl,rfl⟩ | ⟨rfl,rfl⟩
  ·exact a4
  ·exact a8
  ·exact a12
  ·exact a17
  ·exact a22
  ·exact a27) a32
 rw [e0];exact ⟨(_,_,_,_,_,AR),⟨.refl,⟨S.ops,S.vls⟩⟩,Z,s.pickT (hd:=[_,_,_,_]) (tl:=(AR++bs)) (hd':=[_,_,_]) [0,2,3] rfl rfl⟩
theorem LW {op:List Ov} {x:Vb} {dn:Bool} (K:Tkf H l tp tc) (Wq:Fwf l ⟨q,op,x,false,dn⟩) (S:Sq H ⟨q,op,x,false,dn⟩ xo xv AR) (s:St H w0 (.box b [.slice tp l.length tc,iN q.i,ro,rv,.bool false,.bool dn,.bool x.2,iN q.off,iN q.er] 102::.row 97 11 (ro) (op.length) (xo)::.row 179 13 (rv) (x.1.length) (xv)::(AR++bs)) W) :
 Calls prg 111 #[.pointer (some ⟨b,0,none⟩)] W (Get w0 bs b l tp tc H (wP l ⟨q,op,x,false,dn⟩)):=by
 have hq:q.i<l.length:=Wq.i;have hne:op≠[]:=Wq.ne;obtain ⟨hn1,hn2⟩:=pD Wq K.few;dsimp only at hn1 hn2;have hcap:=K.rep.cap;refine fN func111 rfl ntmps111 rfl s ?_;refine .sm Z<|.cs (X:=Unit) tC Z (λW s=>FJ K hq  (s.pickT (hd:=[_,_,_]) (tl:=(AR++bs)) (hd':=[_,_,_]) [0,1,2] Z Z)) Z λ_ _=>.aq Z<|.sq<|.sm Z<|.cs (X:=Unit) dI Z (λW s=>eQ K (iB K.gd.last hq) [46] (s.pickT (hd:=[_,_,_]) (tl:=(AR++bs)) (hd':=[_,_,_]) [0,1,2] Z Z)) Z λ_ _=>.nt<|.cd Z (λh6=>?_) (λh6=>?_)
 ·have a6:Rq.ac l [46] (Rq.nmS l q)=true:=h6;rw [lN a6];refine .sm Z<|.mv Z<|.cs (X:=Unit) tC Z (λW s=>FJ K (cC K.gd.last (iB K.gd.last hq) a6)  (s.pickT (hd:=[_,_,_]) (tl:=(AR++bs)) (hd':=[_,_,_]) [0,1,2] Z Z)) Z λ_ _=>.yw (.app Z Z (by have h1:=gT K hq;have h2:=gT K (cC K.gd.last (iB K.gd.last hq) a6);simp only [aE,aK,aQ];omega))<|.yw (.cast (.app Z Z (by have h1:=gT K hq;have h2:=gT K (cC K.gd.last (iB K.gd.last hq) a6);simp only [aE,aK,aQ];omega)) (congrArg bV (bW _ _ _).symm))<|.a Z Z<|.ns<|.mv Z<|.cs (X:=Unit) dI Z (λW s=>eQ K (iB K.gd.last (cC K.gd.last (iB K.gd.last hq) a6)) [91] (s.pickT (hd:=[_,_,_]) (tl:=(AR++bs)) (hd':=[_,_,_]) [0,1,2] Z Z)) Z λ_ _=>.nt<|.cd Z (λh13=>?_) (λh13=>?_)
  ·have a13:Rq.ac l [91] (Rq.nmS l (Rq.nmS l q).nx)=true:=h13;rw [lN a13];refine .sm Z<|.mv Z<|.yw (.build Z (aF3 _))<|.yw (.build Z (JR _ _ _ _ _ _ _ _ _ _))<|.cs (X:=Option Addr × Nat) gI Z (λW s=>mW K (cC K.gd.last (iB K.gd.last (cC K.gd.last (iB K.gd.last hq) a6)) a13) (by simp [Value.oneCell',bV]) (aV hn1 (by decide)) (t':=false) (λh=>absurd h (Nat.lt_irrefl 0)) (s.pickT (hd:=[_,_,_]) (tl:=(AR++bs)) (hd':=[_,_,_]) [0,1,2] Z Z)) Z λp9 _=>.nt<|.rt<|.tR<|?_
   refine y7 Z .nil rfl λW s=>?_;have e0:wP l ⟨q,op,x,false,dn⟩=fR ⟨4,0,true,6,.mk 0 (q.ful l) [] 0 0 [] []⟩ ((⟨q,op,x,false,dn⟩:Ps).at ((q.nmS l).nx.nmS l).nx):=by unfold wP;exact (aM a6).trans (aM a13)
   rw [e0];exact ⟨(_,_,_,_,_,AR),⟨.refl,⟨.cons S.ops (by show ¬ (4:UInt8)=5;decide) (FmR.zero rfl rfl (by have h1:=gT K hq;have h2:=gT K (cC K.gd.last (iB K.gd.last hq) a6);show (Rq.ful l q).length<=1000000;unfold Rq.ful;simp only [aE,aK,aQ];omega) (aP _)),S.vls⟩⟩,Z,s.pickT (hd:=[_,_,_]) (tl:=(AR++bs)) (hd':=[_,_,_]) [0,1,2] rfl rfl⟩
  have a13:Rq.ac l [91] (Rq.nmS l (Rq.nmS l q).nx)=false:=h13;rw [lS a13];refine .sk<|.tN<|.rg<|.mv Z<|.mv Z<|.yw (.build Z (wX _ _))<|.yw (.build Z (kA _ _ _ _ _))<|.cs (X:=Option Addr × Nat) fX Z (λW s=>mP K (iB K.gd.last (cC K.gd.last (iB K.gd.last hq) a6)) (by simp [Value.oneCell',bV]) hn2 (s.pickT (hd:=[_,_,_]) (tl:=(AR++bs)) (hd':=[_,_,_]) [0,2,1] Z Z)) Z λp9 _=>.nl<|?_
  refine jE (.inr Z) rfl .nil rfl λW s=>?_;have e0:wP l ⟨q,op,x,false,dn⟩=jA (tmv (.mk 5 (q.ful l) 0 [])) ((⟨q,op,x,false,dn⟩:Ps).at ((q.nmS l).nx.nmS l)):=by unfold wP;exact (aM a6).trans (aD (by rw [a13];decide))
  rw [e0];exact ⟨(_,_,_,_,_,AR),⟨.refl,⟨S.ops,.cons S.vls ⟨ExR.zero rfl (by have h1:=gT K hq;have h2:=gT K (cC K.gd.last (iB K.gd.last hq) a6);show (Rq.ful l q).length<=1000000;unfold Rq.ful;simp only [aE,aK,aQ];omega),FmR.zero rfl rfl (aP _) (aP _)⟩⟩⟩,Z,s.pickT (hd:=[_,_,_]) (tl:=(AR++bs)) (hd':=[_,_,_]) [0,2,1] rfl rfl⟩
 have a6:Rq.ac l [46] (Rq.nmS l q)=false:=h6;rw [lS a6];refine .sk<|.tN<|.rg<|.mv Z<|.mv Z<|.yw (.build Z (wX _ _))<|.yw (.build Z (kA _ _ _ _ _))<|.cs (X:=Option Addr × Nat) fX Z (λW s=>mP K (iB K.gd.last hq) (by simp [Value.oneCell',bV]) hn2 (s.pickT (hd:=[_,_,_]) (tl:=(AR++bs)) (hd':=[_,_,_]) [0,2,1] Z Z)) Z λp9 _=>.nl<|?_
 refine jE (.inr Z) rfl .nil rfl λW s=>?_;have e0:wP l ⟨q,op,x,false,dn⟩=jA (tmv (.mk 5 (q.nmV l) 0 [])) ((⟨q,op,x,false,dn⟩:Ps).at (q.nmS l)):=by unfold wP;exact aD (by rw [a6];decide)
 rw [e0];exact ⟨(_,_,_,_,_,AR),⟨.refl,⟨S.ops,.cons S.vls ⟨ExR.zero rfl (aV (gT K hq) (by decide)),FmR.zero rfl rfl (aP _) (aP _)⟩⟩⟩,Z,s.pickT (hd:=[_,_,_]) (tl:=(AR++bs)) (hd':=[_,_,_]) [0,2,1] rfl rfl⟩
theorem RL {op:List Ov} {x:Vb} {dn:Bool} (K:Tkf H l tp tc) (Wq:Fwf l ⟨q,op,x,false,dn⟩) (S:Sq H ⟨q,op,x,false,dn⟩ xo xv AR) (s:St H w0 (.box b [.slice tp l.length tc,iN q.i,ro,rv,.bool false,.bool dn,.bool x.2,iN q.off,iN q.er] 102::.row 97 11 (ro) (op.length) (xo)::.row 179 13 (rv) (x.1.length) (xv)::(AR++bs)) W) :
 Calls prg 115 #[.pointer (some ⟨b,0,none⟩)] W (Get w0 bs b l tp tc H (zQ l ⟨q,op,x,false,dn⟩)):=by
 have hq:q.i<l.length:=Wq.i;have hne:op≠[]:=Wq.ne;obtain ⟨hn1,hn2⟩:=pD Wq K.few;dsimp only at hn1 hn2;have hcap:=K.rep.cap;refine fN func115 rfl ntmps115 rfl s ?_;refine .sm Z<|.cs (X:=Unit) yE Z (λW s=>MN K hq 7 (s.pickT (hd:=[_,_,_]) (tl:=(AR++bs)) (hd':=[_,_,_]) [0,1,2] Z Z)) Z λ_ _=>.al eS Z λb2=>.sX .head Z Z dC Z<|.ns<|.mv Z<|.cs (X:=Unit) nX Z (λW s=>sL K (tU K.gd.last hq) [40] (s.pickT (hd:=[_,_,_,_]) (tl:=(AR++bs)) (hd':=[_,_,_,_]) [1,0,2,3] Z Z)) Z λ_ _=>.nt<|.sq<|.sm Z<|.cs (X:=Unit) dI Z (λW s=>eQ K (fM K.gd.last (tU K.gd.last hq)) [41] (s.pickT (hd:=[_,_,_,_]) (tl:=(AR++bs)) (hd':=[_,_,_,_]) [0,1,2,3] Z Z)) Z λ_ _=>.nt<|.cd Z (λh8=>?_) (λh8=>?_)
 ·have a8:Rq.ac l [41] (Rq.exS l [40] (Rq.paS l q))=true:=h8;rw [lN a8];refine .sm Z<|.yw (.loadW Z cL cR Z)<|.yw (.build Z (jH _ _ _ _ _ _ _))<|.cs (X:=Option Addr × Nat) fX Z (λW s=>mP K (cC K.gd.last (fM K.gd.last (tU K.gd.last hq)) a8) (by simp [Value.oneCell',bV]) hn2 (s.pickT (hd:=[_,_,_,_]) (tl:=(AR++bs)) (hd':=[_,_,_,_]) [0,3,1,2] Z Z)) Z λp9 _=>.nt<|.rt<|.tR<|?_
  refine y7 Z .nil rfl λW s=>?_;have e0:zQ l ⟨q,op,x,false,dn⟩=jA (fmv (q.paV l 7)) ((⟨q,op,x,false,dn⟩:Ps).at ((q.paS l).exS l [40]).nx):=by unfold zQ;exact aM a8
  rw [e0];exact ⟨(_,_,_,_,_,AR),⟨.refl,⟨S.ops,.cons S.vls ⟨ExR.zero rfl (aP _),FmR.zero rfl rfl (aV (gT K hq) (by decide)) (aV (gT K (fM K.gd.last (iB K.gd.last hq))) (by decide))⟩⟩⟩,Z,s.pickT (hd:=[_,_,_,_]) (tl:=(AR++bs)) (hd':=[_,_,_]) [0,3,1] rfl rfl⟩
 have a8:Rq.ac l [41] (Rq.exS l [40] (Rq.paS l q))=false:=h8;rw [lS a8];refine .sk<|.tN<|.rg<|.mv Z<|.yw (.loadW Z cL cR Z)<|.yw (.build Z (yG _ _ _ _ _ _ _ _ _))<|.cs (X:=Option Addr × Nat) gI Z (λW s=>mW K (fM K.gd.last (tU K.gd.last hq)) (by simp [Value.oneCell',bV]) (aV hn1 (by decide)) (t':=false) (λh=>absurd h (Nat.lt_irrefl 0)) (s.pickT (hd:=[_,_,_,_]) (tl:=(AR++bs)) (hd':=[_,_,_,_]) [0,2,1,3] Z Z)) Z λp9 _=>.nl<|?_
 refine Sx.row0 76 4 ?_;refine jE (.inr Z) rfl .nil rfl λW s=>?_;have e0:zQ l ⟨q,op,x,false,dn⟩=fR ⟨5,0,true,0,q.paV l 7⟩ ((⟨q,op,x,false,dn⟩:Ps).at ((q.paS l).exS l [40])):=by unfold zQ;exact aD (by show ¬ ((q.paS l).exS l [40]).ac l [41]=true;rw [a8];decide)
 rw [e0];exact ⟨(_,_,_,_,_,_),⟨.refl,⟨.arg S.ops rfl rfl (aV (gT K hq) (by decide)) (aV (gT K (fM K.gd.last (iB K.gd.last hq))) (by decide)) eJ.nil rfl,S.vls⟩⟩,Z,s.pickT (hd:=[_,_,_,_,_]) (tl:=(AR++bs)) (hd':=[_,_,_,_]) [1,2,4,0] rfl rfl⟩
theorem aH8 {q:Ps} (hf:zD q=false\/mV l q=none) (hk:(dN q).kd=5) (ha:q.c.ac l [95]=true):eC l q=jA ⟨true,true,zE,zF⟩ (q.at q.c.nx):=by
 have e:(if zD q then mV l q else none)=none:=by
  rcases hf with e | e
  ·rw [e];rfl
  ·rw [e];split <;> rfl
 unfold eC;rw [e];show xL l q=_;unfold xL;rw [aM ⟨hk,ha⟩]
set_option maxHeartbeats 4000000 in
theorem aN8 {op:List Ov} {x:Vb} {dn:Bool} (K:Tkf H l tp tc) (Wq:Fwf l ⟨q,op,x,false,dn⟩) (S:Sq H ⟨q,op,x,false,dn⟩ xo xv AR) (s:St H w0 (.box b [.slice tp l.length tc,iN q.i,ro,rv,.bool false,.bool dn,.bool x.2,iN q.off,iN q.er] 102::.row 97 11 (ro) (op.length) (xo)::.row 179 13 (rv) (x.1.length) (xv)::(AR++bs)) W) :
 Calls prg 56 #[.pointer (some ⟨b,0,none⟩)] W (Get w0 bs b l tp tc H (eC l ⟨q,op,x,false,dn⟩)):=by
 have hq:q.i<l.length:=Wq.i;have hne:op≠[]:=Wq.ne;obtain ⟨hn1,hn2⟩:=pD Wq K.few;dsimp only at hn1 hn2;have hcap:=K.rep.cap;refine fN func56 rfl ntmps56 rfl s ?_;obtain ⟨o,r,rfl⟩:=CK (l:=op) (by cases op with | nil=>exact absurd rfl hne | cons a t=>exact Nat.succ_pos _);dsimp only [List.length_cons] at hn1;obtain ⟨xr,s1,s2,e2,hlo,ho1,ho2⟩:=Ops.top S.ops;try dsimp only at e2
 subst e2;refine Sx.rowCase (size:=11) (r:=ro) (e:=97) cR (Nat.succ_pos _) λg c e hkc=>?_;subst e;refine .sm Z<|.cs (X:=Unit) tP Z (λW s=>yL K hq  (s.pickT (hd:=[_,_,_]) (tl:=(AR++bs)) (hd':=[_,_,_]) [0,1,2] Z Z)) Z λ_ _=>.al xZ Z λb2=>.sW .head Z Z yB (by simp [cTk,Value.oneCell',bV]) Z<|.nt<|.cu (X:=Bool) [(0,_),(2,_)] ⟨Z,Z,Jt⟩ (λz=>[(3,.bool z)]) (λz=>H) (λz=>(.box b2 (cTk .u8 (tkf l q.i)) 108::.box b [.slice tp l.length tc,iN q.i,(.slice (some ⟨g,0,none⟩) (o::r).length c),rv,.bool false,.bool dn,.bool x.2,iN q.off,iN q.er] 102::.row 97 11 ((.slice (some ⟨g,0,none⟩) (o::r).length c)) ((o::r).length) ((xr++oC o s1 s2))::.row 179 13 (rv) (x.1.length) (xv)::(AR++bs))) (λz=>z=zD ⟨q,o::r,x,false,dn⟩) ?_ λz hC=>?_
 ·
  refine .rg<|.mv Z<|.cs (X:=Unit) mS Z (λW s=>CB K hq (g:=g) (k:=r.length) (c:=c) (by omega) (s.pickT (hd:=[_,_,_,_]) (tl:=(AR++bs)) (hd':=[_,_,_,_]) [1,0,2,3] Z Z)) Z λ_ _=>.nC Z<|.fA Z uJ<|.yw (.loadR1 Z kB kP (kY hlo Z))<|.yw (.not Z)<|.mv Z<|.b2 (λh14=>?_) (λh14=>?_)
  ·exact .gy (.move Z)<|.gd Z Z<|.cs (X:=Unit) mS Z (λW s=>CB K hq (g:=g) (k:=r.length) (c:=c) (by omega) (s.pickT (hd:=[_,_,_,_]) (tl:=(AR++bs)) (hd':=[_,_,_,_]) [0,1,2,3] Z Z)) Z λ_ _=>.gy (.nilCheck Z)<|.gy (.fieldAddr Z pJ)<|.gy (.loadR1 Z bS kP (kY hlo Z))<|.gy (.leq Z Z)<|.yw (.pickT Z Z)<|.aq Z<|.me _ ⟨Z,Jt⟩ ⟨Z,Z,Jt⟩ (λ_ s=>(s.pickT (hd:=[_,_,_,_]) (tl:=(AR++bs)) (hd':=[_,_,_,_]) [1,0,2,3] Z Z)) (by first | (show _=(!o.tm && decide (o.lv<=5));rw [h14,aG,aX,aA,aA];omega) | (show _=(!o.tm && decide (o.lv<=5));rw [h14,aN]))
  exact .gG<|.gG<|.gG<|.gG<|.gG<|.gG<|.yw (.pickF Z Z)<|.aq Z<|.me _ ⟨Z,Jt⟩ ⟨Z,Z,Jt⟩ (λ_ s=>(s.pickT (hd:=[_,_,_,_]) (tl:=(AR++bs)) (hd':=[_,_,_,_]) [1,0,2,3] Z Z)) (by first | (show _=(!o.tm && decide (o.lv<=5));rw [h14,aG,aX,aA,aA];omega) | (show _=(!o.tm && decide (o.lv<=5));rw [h14,aN]))
 have ef:=hC;refine .bk<|.sm Z<|.mv Z<|.b2 (λh26=>?_) (λh26=>?_)
 ·have hff:zD ⟨q,o::r,x,false,dn⟩=true:=by rw [<-ef];exact h26
  refine .gy (.move Z)<|.gd Z Z<|.cs (X:=Hp × Value × Value × List Value × List Value × List Res) aE6 Z (λW s=>bB4 K Wq S (St.mid (a:=[_,_,_]) (d:=[_]) (s.pickT (hd:=[_,_,_,_]) (tl:=(AR++bs)) (hd':=[_,_,_,_]) [1,2,3,0] Z Z))) Z λz9 hz9=>?_
  obtain ⟨H1,ro,rv,xo,xv,AR⟩:=z9;obtain ⟨u1,S⟩:=hz9;dsimp only at u1 S|-;refine Sx.reSt (λW s=>St.mid (a:=[_,_,_]) (d:=AR) (c:=[_]) s) ?_;refine .yw (.pickT Z Z)<|.aq Z<|.cd Z (λh24=>?_) (λh24=>?_)
  ·obtain ⟨q9,hp⟩:=qN.1 h24;rw [hp] at S|-;dsimp only [Option.getD] at S|-;refine .sk<|.bN<|?_
   refine jE (.inr Z) rfl .nil rfl λW s=>?_;have e0:eC l ⟨q,o::r,x,false,dn⟩=q9:=by unfold eC;rw [hff,aM rfl,hp]
   rw [e0];exact ⟨(_,_,_,_,_,AR),⟨u1,⟨S.ops,S.vls⟩⟩,Z,s.pickT (hd:=[_,_,_,_]) (tl:=(AR++bs)) (hd':=[_,_,_]) [0,1,2] rfl rfl⟩
  have hp:mV l ⟨q,o::r,x,false,dn⟩=none:=by
   cases e:mV l ⟨q,o::r,x,false,dn⟩ with
   | none=>rfl
   | some x=>rw [e] at h24;cases h24
  rw [hp] at S|-;dsimp only [Option.getD] at S|-;have hff:zD ⟨q,o::r,x,false,dn⟩=false\/mV l ⟨q,o::r,x,false,dn⟩=none:=.inr hp;obtain ⟨xr,s1,s2,e2,hlo,ho1,ho2⟩:=Ops.top S.ops;try dsimp only at e2
  subst e2;refine Sx.rowCase (size:=11) (r:=ro) (e:=97) cR (Nat.succ_pos _) λg c e hkc=>?_;subst e;refine .cu (X:=Bool) [(0,_),(2,_)] ⟨Z,Z,Jt⟩ (λz=>[(30,.bool z)]) (λz=>H1) (λz=>(.box b2 (cTk .u8 (tkf l q.i)) 108::.box b [.slice tp l.length tc,iN ((if z then Rq.nx q else q).i),(.slice (some ⟨g,0,none⟩) (o::r).length c),rv,.bool false,.bool dn,.bool x.2,iN ((if z then Rq.nx q else q).off),iN ((if z then Rq.nx q else q).er)] 102::.row 97 11 ((.slice (some ⟨g,0,none⟩) (o::r).length c)) ((o::r).length) ((xr++oC o s1 s2))::.row 179 13 (rv) (x.1.length) (xv)::(AR++bs))) (λz=>z=(decide (o.kd=5) && Rq.ac l [95] q)) ?_ λz hC=>?_
  ·
   refine .rg<|.mv Z<|.cs (X:=Unit) mS Z (λW s=>CB (K.up u1.up) hq (g:=g) (k:=r.length) (c:=c) (by omega) (s.pickT (hd:=[_,_,_,_]) (tl:=(AR++bs)) (hd':=[_,_,_,_]) [0,1,2,3] Z Z)) Z λ_ _=>.nC Z<|.fA Z hO<|.yw (.loadR1 Z mT cR (kY hlo Z))<|.yw (.eql Z Z)<|.mv Z<|.b2 (λh37=>?_) (λh37=>?_)
   ·have hk5:o.kd=5:=aR.1 (by have:=aJ h37;show o.kd.toNat=5;omega);exact .gy (.move Z)<|.gd Z Z<|.cs (X:=Unit) dI Z (λW s=>eQ (K.up u1.up) hq [95] (s.pickT (hd:=[_,_,_,_]) (tl:=(AR++bs)) (hd':=[_,_,_,_]) [0,1,2,3] Z Z)) Z λ_ _=>.yw (.pickT Z Z)<|.aq Z<|.me _ ⟨Z,Jt⟩ ⟨Z,Z,Jt⟩ (λ_ s=>(s.pickT (hd:=[_,_,_,_]) (tl:=(AR++bs)) (hd':=[_,_,_,_]) [3,0,1,2] Z Z)) (by first | rw [aF hk5,aG] | (rw [aI hk5];rfl))
   have hk5:¬ o.kd=5:=λe=>aO h37 (by rw [e];rfl);exact .gG<|.gG<|.yw (.pickF Z Z)<|.aq Z<|.me _ ⟨Z,Jt⟩ ⟨Z,Z,Jt⟩ (λ_ s=>(s.pickT (hd:=[_,_,_,_]) (tl:=(AR++bs)) (hd':=[_,_,_,_]) [3,0,1,2] Z Z)) (by first | rw [aF hk5,aG] | (rw [aI hk5];rfl))
  have ez:=hC;refine .cd Z (λh30=>?_) (λh30=>?_)
  ·rw [h30] at ez;have ez2:=aC _ _ |>.mp ez.symm
   rw [aM h30];refine .rg<|.mv Z<|.yw (.build Z (FC _ _))<|.cs (X:=Option Addr × Nat) fX Z (λW s=>mP (K.up u1.up) (cC K.gd.last hq ez2.2) (by simp [Value.oneCell',bV]) hn2 (s.pickT (hd:=[_,_,_,_]) (tl:=(AR++bs)) (hd':=[_,_,_,_]) [1,3,0,2] Z Z)) Z λp9 _=>.nl<|.bN<|?_
   refine jE (.inr Z) rfl .nil rfl λW s=>?_;have e0:eC l ⟨q,o::r,x,false,dn⟩=jA ⟨true,true,zE,zF⟩ (((⟨q,o::r,x,false,dn⟩:Ps)).at q.nx):=aH8 hff (aJ ez2.1) ez2.2;rw [e0];exact ⟨(_,_,_,_,_,AR),⟨u1,⟨S.ops,.cons S.vls ⟨ExR.zero rfl (aP _),FmR.zero rfl rfl (aP _) (aP _)⟩⟩⟩,Z,s.pickT (hd:=[_,_,_,_]) (tl:=(AR++bs)) (hd':=[_,_,_]) [0,3,1] rfl rfl⟩
  rw [h30] at ez
  have hno:(dN (⟨q,o::r,x,false,dn⟩:Ps)).kd=5->Rq.ac l [95] q=false:=λe=>by
   have e3:(false:Bool)=(decide (o.kd=5) && Rq.ac l [95] q):=ez;rw [aF (show o.kd=5 from e),aG] at e3;exact e3.symm
  rw [aD (by rw [h30];decide)];refine .sm Z<|.cs (X:=Unit) dI Z (λW s=>eQ (K.up u1.up) hq [45] (s.pickT (hd:=[_,_,_,_]) (tl:=(AR++bs)) (hd':=[_,_,_,_]) [1,0,2,3] Z Z)) Z λ_ _=>.aq Z<|.cd Z (λh44=>?_) (λh44=>?_)
  ·have a44:Rq.ac l [45] q=true:=h44;rw [lN a44];refine .rg<|.mv Z<|.yw (.build Z (IH _ _))<|.cs (X:=Option Addr × Nat) gI Z (λW s=>mW (K.up u1.up) (cC K.gd.last hq a44) (by simp [Value.oneCell',bV]) (aV hn1 (by decide)) (λ_=>S.ops.tm hne) (s.pickT (hd:=[_,_,_,_]) (tl:=(AR++bs)) (hd':=[_,_,_,_]) [0,2,1,3] Z Z)) Z λp9 _=>.nl<|.bN<|?_
   refine jE (.inr Z) rfl .nil rfl λW s=>?_;have e0:eC l ⟨q,o::r,x,false,dn⟩=fR ⟨10,9,false,0,zF⟩ (((⟨q,o::r,x,false,dn⟩:Ps)).at q.nx):=(kX hff hno).trans (TJ a44);rw [e0];exact ⟨(_,_,_,_,_,AR),⟨u1,⟨.cons S.ops (by show ¬ (10:UInt8)=5;decide) (FmR.zero rfl rfl (aP _) (aP _)),S.vls⟩⟩,Z,s.pickT (hd:=[_,_,_,_]) (tl:=(AR++bs)) (hd':=[_,_,_]) [0,1,3] rfl rfl⟩
  have a44:Rq.ac l [45] q=false:=h44;rw [lS a44];refine .sm Z<|.cs (X:=Unit) dI Z (λW s=>eQ (K.up u1.up) hq [40] (s.pickT (hd:=[_,_,_,_]) (tl:=(AR++bs)) (hd':=[_,_,_,_]) [0,1,2,3] Z Z)) Z λ_ _=>.aq Z<|.cd Z (λh50=>?_) (λh50=>?_)
  ·have a50:Rq.ac l [40] q=true:=h50;rw [lN a50];refine .rg<|.mv Z<|.yw (.build Z (GH _))<|.cs (X:=Option Addr × Nat) gI Z (λW s=>mW (K.up u1.up) (cC K.gd.last hq a50) (by simp [Value.oneCell',bV]) (aV hn1 (by decide)) (t':=false) (λh=>absurd h (Nat.lt_irrefl 0)) (s.pickT (hd:=[_,_,_,_]) (tl:=(AR++bs)) (hd':=[_,_,_,_]) [0,2,1,3] Z Z)) Z λp9 _=>.nl<|.bN<|?_
   refine jE (.inr Z) rfl .nil rfl λW s=>?_;have e0:eC l ⟨q,o::r,x,false,dn⟩=fR ⟨2,0,false,0,zF⟩ (((⟨q,o::r,x,false,dn⟩:Ps)).at q.nx):=(kX hff hno).trans (TF a50);rw [e0];exact ⟨(_,_,_,_,_,AR),⟨u1,⟨.cons S.ops (by show ¬ (2:UInt8)=5;decide) (FmR.zero rfl rfl (aP _) (aP _)),S.vls⟩⟩,Z,s.pickT (hd:=[_,_,_,_]) (tl:=(AR++bs)) (hd':=[_,_,_]) [0,1,3] rfl rfl⟩
  have a50:Rq.ac l [40] q=false:=h50;rw [lS a50];refine .sr<|.fA Z jY<|.lD Z oS cR Z<|.yw (.eql Z Z)<|.aq Z<|.cd Z (λh56=>?_) (λh56=>?_)
  ·have hk3:(tkf l q.i).k=3:=aR.1 (by have:=aJ h56;show (tkf l q.i).k.toNat=3;omega);refine .rg<|.mv Z<|.mv Z<|.cs (X:=Unit) tD Z (λW s=>xP (K.up u1.up) hq  (s.pickT (hd:=[_,_,_,_]) (tl:=(AR++bs)) (hd':=[_,_,_,_]) [0,1,2,3] Z Z)) Z λ_ _=>.yw (.build Z (BN _ _))<|.yw (.build Z (kA _ _ _ _ _))<|.cs (X:=Option Addr × Nat) fX Z (λW s=>mP (K.up u1.up) (tK K.gd.last hq) (by simp [Value.oneCell',bV]) hn2 (s.pickT (hd:=[_,_,_,_]) (tl:=(AR++bs)) (hd':=[_,_,_,_]) [0,3,1,2] Z Z)) Z λp9 _=>.nl<|.bN<|?_
   refine jE (.inr Z) rfl .nil rfl λW s=>?_;have e0:eC l ⟨q,o::r,x,false,dn⟩=jA (tmv (.mk 1 [] (q.nbV l) [])) (((⟨q,o::r,x,false,dn⟩:Ps)).at (q.nbS l)):=(kX hff hno).trans (TG hk3);rw [e0];exact ⟨(_,_,_,_,_,AR),⟨u1,⟨S.ops,.cons S.vls ⟨ExR.zero rfl (aP _),FmR.zero rfl rfl (aP _) (aP _)⟩⟩⟩,Z,s.pickT (hd:=[_,_,_,_]) (tl:=(AR++bs)) (hd':=[_,_,_]) [0,3,1] rfl rfl⟩
  have hk3:¬ (tkf l q.i).k=3:=λe=>aO h56 (by rw [e];rfl);refine .sr<|.fA Z jY<|.lD Z oS cR Z<|.yw (.eql Z Z)<|.aq Z<|.cd Z (λh66=>?_) (λh66=>?_)
  ·have hk1:(tkf l q.i).k=1:=aR.1 (by have:=aJ h66;show (tkf l q.i).k.toNat=1;omega);refine .rg<|.mv Z<|.cs (X:=Hp × Value × Value × List Value × List Value × List Res) OI Z (λW s=>LW (K.up u1.up) Wq S (St.mid (a:=[_,_,_]) (d:=[_]) (s.pickT (hd:=[_,_,_,_]) (tl:=(AR++bs)) (hd':=[_,_,_,_]) [0,2,3,1] Z Z))) Z λz9 hz9=>?_
   obtain ⟨H2,ro,rv,xo,xv,AR⟩:=z9;obtain ⟨u2,S⟩:=hz9;dsimp only at u2 S|-;refine Sx.reSt (λW s=>St.mid (a:=[_,_,_]) (d:=AR) (c:=[_]) s) ?_;refine .nl<|.bN<|?_
   refine jE (.inr Z) rfl .nil rfl λW s=>?_;have e0:eC l ⟨q,o::r,x,false,dn⟩=wP l ⟨q,o::r,x,false,dn⟩:=(kX hff hno).trans (HG hk1);rw [e0];exact ⟨(_,_,_,_,_,AR),⟨(u1.trans u2),⟨S.ops,S.vls⟩⟩,Z,s.pickT (hd:=[_,_,_,_]) (tl:=(AR++bs)) (hd':=[_,_,_]) [0,1,2] rfl rfl⟩
  have hk1:¬ (tkf l q.i).k=1:=λe=>aO h66 (by rw [e];rfl);refine .sm Z<|.cs (X:=Unit) dI Z (λW s=>eQ (K.up u1.up) hq [110,111,119] (s.pickT (hd:=[_,_,_,_]) (tl:=(AR++bs)) (hd':=[_,_,_,_]) [0,1,2,3] Z Z)) Z λ_ _=>.aq Z<|.cd Z (λh72=>?_) (λh72=>?_)
  ·have a72:Rq.ac l [110,111,119] q=true:=h72;rw [lN a72];refine .rg<|.mv Z<|.yw (.build Z (OW _))<|.yw (.build Z (kA _ _ _ _ _))<|.cs (X:=Option Addr × Nat) fX Z (λW s=>mP (K.up u1.up) (cC K.gd.last hq a72) (by simp [Value.oneCell',bV]) hn2 (s.pickT (hd:=[_,_,_,_]) (tl:=(AR++bs)) (hd':=[_,_,_,_]) [0,3,1,2] Z Z)) Z λp9 _=>.nl<|.bN<|?_
   refine jE (.inr Z) rfl .nil rfl λW s=>?_;have e0:eC l ⟨q,o::r,x,false,dn⟩=jA (tmv (.mk 4 [] 0 [])) (((⟨q,o::r,x,false,dn⟩:Ps)).at q.nx):=(kX hff hno).trans (TH a72);rw [e0];exact ⟨(_,_,_,_,_,AR),⟨u1,⟨S.ops,.cons S.vls ⟨ExR.zero rfl (aP _),FmR.zero rfl rfl (aP _) (aP _)⟩⟩⟩,Z,s.pickT (hd:=[_,_,_,_]) (tl:=(AR++bs)) (hd':=[_,_,_]) [0,3,1] rfl rfl⟩
  have a72:Rq.ac l [110,111,119] q=false:=h72;rw [lS a72];refine .sm Z<|.cs (X:=Unit) dI Z (λW s=>eQ (K.up u1.up) hq [115,105,122,101] (s.pickT (hd:=[_,_,_,_]) (tl:=(AR++bs)) (hd':=[_,_,_,_]) [0,1,2,3] Z Z)) Z λ_ _=>.aq Z<|.cd Z (λh79=>?_) (λh79=>?_)
  ·have a79:Rq.ac l [115,105,122,101] q=true:=h79;rw [lN a79];refine .sm Z<|.cs (X:=Unit) yE Z (λW s=>MN (K.up u1.up) (cC K.gd.last hq a79) 0 (s.pickT (hd:=[_,_,_,_]) (tl:=(AR++bs)) (hd':=[_,_,_,_]) [0,1,2,3] Z Z)) Z λ_ _=>.al eS Z λb4=>.sX .head Z Z dC Z<|.nt<|.rg<|.mv Z<|.fA Z gC<|.lD Z cP Hm Z<|.yw (.app Z Z (by have h1:=gT K (cC K.gd.last hq a79);have h2:=gT K (fM K.gd.last (iB K.gd.last (cC K.gd.last hq a79)) (w:=[46]));show (Rq.nmV l q.nx).length+1<=_;omega))<|.fA Z gA<|.lD Z cP Hm Z<|.yw (.app Z Z (by have h1:=gT K (cC K.gd.last hq a79);have h2:=gT K (fM K.gd.last (iB K.gd.last (cC K.gd.last hq a79)) (w:=[46]));simp only [aE,aK,aQ];unfold Rq.paN Rq.paF;omega))<|.yw (.build Z (wX _ _))<|.yw (.build Z (kA _ _ _ _ _))<|.cs (X:=Option Addr × Nat) fX Z (λW s=>mP (K.up u1.up) (tU K.gd.last (cC K.gd.last hq a79)) (by simp [Value.oneCell',bV]) hn2 (s.pickT (hd:=[_,_,_,_,_]) (tl:=(AR++bs)) (hd':=[_,_,_,_,_]) [1,4,0,2,3] Z Z)) Z λp9 _=>.nl<|.bN<|?_
   refine jE (.inr Z) rfl .nil rfl λW s=>?_;have e0:eC l ⟨q,o::r,x,false,dn⟩=jA (tmv (.mk 8 (q.nx.paN l++[46]++q.nx.paF l) 0 [])) (((⟨q,o::r,x,false,dn⟩:Ps)).at (q.nx.paS l)):=(kX hff hno).trans (TE a79);rw [e0];exact ⟨(_,_,_,_,_,AR),⟨u1,⟨S.ops,.cons S.vls ⟨ExR.zero rfl (by have h1:=gT K (cC K.gd.last hq a79);have h2:=gT K (fM K.gd.last (iB K.gd.last (cC K.gd.last hq a79)) (w:=[46]));show (Rq.paN l q.nx++[46]++Rq.paF l q.nx).length<=1000000;unfold Rq.paN Rq.paF;simp only [aE,aK,aQ];omega),FmR.zero rfl rfl (aP _) (aP _)⟩⟩⟩,Z,s.pickT (hd:=[_,_,_,_,_]) (tl:=(AR++bs)) (hd':=[_,_,_]) [0,4,1] rfl rfl⟩
  have a79:Rq.ac l [115,105,122,101] q=false:=h79;rw [lS a79];refine .sm Z<|.cs (X:=Unit) dI Z (λW s=>eQ (K.up u1.up) hq [116,114,117,101] (s.pickT (hd:=[_,_,_,_]) (tl:=(AR++bs)) (hd':=[_,_,_,_]) [0,1,2,3] Z Z)) Z λ_ _=>.aq Z<|.cd Z (λh94=>?_) (λh94=>?_)
  ·have a94:Rq.ac l [116,114,117,101] q=true:=h94;rw [lN a94];refine .rg<|.mv Z<|.yw (.build Z (pP _))<|.yw (.build Z (jH _ _ _ _ _ _ _))<|.cs (X:=Option Addr × Nat) fX Z (λW s=>mP (K.up u1.up) (cC K.gd.last hq a94) (by simp [Value.oneCell',bV]) hn2 (s.pickT (hd:=[_,_,_,_]) (tl:=(AR++bs)) (hd':=[_,_,_,_]) [0,3,1,2] Z Z)) Z λp9 _=>.nl<|.bN<|?_
   refine jE (.inr Z) rfl .nil rfl λW s=>?_;have e0:eC l ⟨q,o::r,x,false,dn⟩=jA (fmv (.mk 1 [] [] 0 0 [] [])) (((⟨q,o::r,x,false,dn⟩:Ps)).at q.nx):=(kX hff hno).trans (TD a94);rw [e0];exact ⟨(_,_,_,_,_,AR),⟨u1,⟨S.ops,.cons S.vls ⟨ExR.zero rfl (aP _),FmR.zero rfl rfl (aP _) (aP _)⟩⟩⟩,Z,s.pickT (hd:=[_,_,_,_]) (tl:=(AR++bs)) (hd':=[_,_,_]) [0,3,1] rfl rfl⟩
  have a94:Rq.ac l [116,114,117,101] q=false:=h94;rw [lS a94];refine .sm Z<|.cs (X:=Unit) dI Z (λW s=>eQ (K.up u1.up) hq [102,97,108,115,101] (s.pickT (hd:=[_,_,_,_]) (tl:=(AR++bs)) (hd':=[_,_,_,_]) [0,1,2,3] Z Z)) Z λ_ _=>.aq Z<|.cd Z (λh101=>?_) (λh101=>?_)
  ·have a101:Rq.ac l [102,97,108,115,101] q=true:=h101;rw [lN a101];refine .rg<|.mv Z<|.yw (.build Z (pP _))<|.yw (.build Z (jH _ _ _ _ _ _ _))<|.cs (X:=Option Addr × Nat) fX Z (λW s=>mP (K.up u1.up) (cC K.gd.last hq a101) (by simp [Value.oneCell',bV]) hn2 (s.pickT (hd:=[_,_,_,_]) (tl:=(AR++bs)) (hd':=[_,_,_,_]) [0,3,1,2] Z Z)) Z λp9 _=>.nl<|.bN<|?_
   refine jE (.inr Z) rfl .nil rfl λW s=>?_;have e0:eC l ⟨q,o::r,x,false,dn⟩=jA (fmv (.mk 2 [] [] 0 0 [] [])) (((⟨q,o::r,x,false,dn⟩:Ps)).at q.nx):=(kX hff hno).trans (TM a101);rw [e0];exact ⟨(_,_,_,_,_,AR),⟨u1,⟨S.ops,.cons S.vls ⟨ExR.zero rfl (aP _),FmR.zero rfl rfl (aP _) (aP _)⟩⟩⟩,Z,s.pickT (hd:=[_,_,_,_]) (tl:=(AR++bs)) (hd':=[_,_,_]) [0,3,1] rfl rfl⟩
  have a101:Rq.ac l [102,97,108,115,101] q=false:=h101;rw [lS a101];refine .sm Z<|.cs (X:=Unit) dI Z (λW s=>eQ (K.up u1.up) hq [102,108,97,103] (s.pickT (hd:=[_,_,_,_]) (tl:=(AR++bs)) (hd':=[_,_,_,_]) [0,1,2,3] Z Z)) Z λ_ _=>.aq Z<|.cd Z (λh108=>?_) (λh108=>?_)
  ·have a108:Rq.ac l [102,108,97,103] q=true:=h108;rw [lN a108];refine .rg<|.mv Z<|.mv Z<|.cs (X:=Unit) tC Z (λW s=>FJ (K.up u1.up) (cC K.gd.last hq a108)  (s.pickT (hd:=[_,_,_,_]) (tl:=(AR++bs)) (hd':=[_,_,_,_]) [0,1,2,3] Z Z)) Z λ_ _=>.yw (.build Z (wY _ _))<|.yw (.build Z (jH _ _ _ _ _ _ _))<|.cs (X:=Option Addr × Nat) fX Z (λW s=>mP (K.up u1.up) (iB K.gd.last (cC K.gd.last hq a108)) (by simp [Value.oneCell',bV]) hn2 (s.pickT (hd:=[_,_,_,_]) (tl:=(AR++bs)) (hd':=[_,_,_,_]) [0,3,1,2] Z Z)) Z λp9 _=>.nl<|.bN<|?_
   refine jE (.inr Z) rfl .nil rfl λW s=>?_;have e0:eC l ⟨q,o::r,x,false,dn⟩=jA (fmv (.mk 6 (q.nx.nmV l) [] 0 0 [] [])) (((⟨q,o::r,x,false,dn⟩:Ps)).at (q.nx.nmS l)):=(kX hff hno).trans (TL a108);rw [e0];exact ⟨(_,_,_,_,_,AR),⟨u1,⟨S.ops,.cons S.vls ⟨ExR.zero rfl (aP _),FmR.zero rfl rfl (aV (gT K (cC K.gd.last hq a108)) (by decide)) (aP _)⟩⟩⟩,Z,s.pickT (hd:=[_,_,_,_]) (tl:=(AR++bs)) (hd':=[_,_,_]) [0,3,1] rfl rfl⟩
  have a108:Rq.ac l [102,108,97,103] q=false:=h108;rw [lS a108];refine .sm Z<|.cs (X:=Unit) dI Z (λW s=>eQ (K.up u1.up) hq [104,97,115] (s.pickT (hd:=[_,_,_,_]) (tl:=(AR++bs)) (hd':=[_,_,_,_]) [0,1,2,3] Z Z)) Z λ_ _=>.aq Z<|.cd Z (λh117=>?_) (λh117=>?_)
  ·have a117:Rq.ac l [104,97,115] q=true:=h117;rw [lN a117];refine .sm Z<|.cs (X:=Unit) yE Z (λW s=>MN (K.up u1.up) (cC K.gd.last hq a117) 5 (s.pickT (hd:=[_,_,_,_]) (tl:=(AR++bs)) (hd':=[_,_,_,_]) [0,1,2,3] Z Z)) Z λ_ _=>.al eS Z λb5=>.sX .head Z Z dC Z<|.ns<|.mv Z<|.cs (X:=Unit) nX Z (λW s=>sL (K.up u1.up) (tU K.gd.last (cC K.gd.last hq a117)) [91] (s.pickT (hd:=[_,_,_,_,_]) (tl:=(AR++bs)) (hd':=[_,_,_,_,_]) [1,0,2,3,4] Z Z)) Z λ_ _=>.nt<|.rg<|.mv Z<|.yw (.loadW Z cL cR Z)<|.yw (.build Z (yG _ _ _ _ _ _ _ _ _))<|.cs (X:=Option Addr × Nat) gI Z (λW s=>mW (K.up u1.up) (fM K.gd.last (tU K.gd.last (cC K.gd.last hq a117))) (by simp [Value.oneCell',bV]) (aV hn1 (by decide)) (t':=false) (λh=>absurd h (Nat.lt_irrefl 0)) (s.pickT (hd:=[_,_,_,_,_]) (tl:=(AR++bs)) (hd':=[_,_,_,_,_]) [0,3,1,2,4] Z Z)) Z λp9 _=>.nl<|.bN<|?_
   refine jE (.inr Z) rfl .nil rfl λW s=>?_;have e0:eC l ⟨q,o::r,x,false,dn⟩=fR ⟨4,0,true,0,q.nx.paV l 5⟩ (((⟨q,o::r,x,false,dn⟩:Ps)).at ((q.nx.paS l).exS l [91])):=(kX hff hno).trans (TK a117);rw [e0];exact ⟨(_,_,_,_,_,AR),⟨u1,⟨.cons S.ops (by show ¬ (4:UInt8)=5;decide) (FmR.zero rfl rfl (aV (gT K (cC K.gd.last hq a117)) (by decide)) (aV (gT K (fM K.gd.last (iB K.gd.last (cC K.gd.last hq a117)))) (by decide))),S.vls⟩⟩,Z,s.pickT (hd:=[_,_,_,_,_]) (tl:=(AR++bs)) (hd':=[_,_,_]) [0,1,4] rfl rfl⟩
  have a117:Rq.ac l [104,97,115] q=false:=h117;rw [lS a117];refine .sm Z<|.cs (X:=Unit) dI Z (λW s=>eQ (K.up u1.up) hq [97,114,114,105,118,101,115] (s.pickT (hd:=[_,_,_,_]) (tl:=(AR++bs)) (hd':=[_,_,_,_]) [0,1,2,3] Z Z)) Z λ_ _=>.aq Z<|.cd Z (λh128=>?_) (λh128=>?_)
  ·have a128:Rq.ac l [97,114,114,105,118,101,115] q=true:=h128;rw [lN a128];refine .rg<|.mv Z<|.cs (X:=Hp × Value × Value × List Value × List Value × List Res) OH Z (λW s=>RL (K.up u1.up) (LU (q:=⟨q,o::r,x,false,dn⟩) (c:=q.nx) Wq (cC K.gd.last hq a128) (Nat.le_succ _)) S.at (St.mid (a:=[_,_,_]) (d:=[_]) (s.pickT (hd:=[_,_,_,_]) (tl:=(AR++bs)) (hd':=[_,_,_,_]) [0,2,3,1] Z Z))) Z λz9 hz9=>?_
   obtain ⟨H2,ro,rv,xo,xv,AR⟩:=z9;obtain ⟨u2,S⟩:=hz9;dsimp only at u2 S|-;refine Sx.reSt (λW s=>St.mid (a:=[_,_,_]) (d:=AR) (c:=[_]) s) ?_;refine .nl<|.bN<|?_
   refine jE (.inr Z) rfl .nil rfl λW s=>?_;have e0:eC l ⟨q,o::r,x,false,dn⟩=zQ l (((⟨q,o::r,x,false,dn⟩:Ps)).at q.nx):=(kX hff hno).trans (KZ a128);rw [e0];exact ⟨(_,_,_,_,_,AR),⟨(u1.trans u2),⟨S.ops,S.vls⟩⟩,Z,s.pickT (hd:=[_,_,_,_]) (tl:=(AR++bs)) (hd':=[_,_,_]) [0,1,2] rfl rfl⟩
  have a128:Rq.ac l [97,114,114,105,118,101,115] q=false:=h128;rw [lS a128];refine .rg<|.mv Z<|.cs (X:=Unit) jG Z (λW s=>qZ (K.up u1.up) hq 8 (s.pickT (hd:=[_,_,_,_]) (tl:=(AR++bs)) (hd':=[_,_,_,_]) [0,1,2,3] Z Z)) Z λ_ _=>.nl<|.bN<|?_
  refine jE (.inr Z) rfl .nil rfl λW s=>?_
  have e0:eC l ⟨q,o::r,x,false,dn⟩=(((⟨q,o::r,x,false,dn⟩:Ps)).at (q.fail l 8)):=(kX hff hno).trans (TI a44 hk3 hk1 (λw hw=>by
   simp only [aN6,bP,List.not_mem_nil,or_false] at hw;rcases hw with rfl | rfl | rfl | rfl | rfl | rfl | rfl | rfl
   ·exact a72
   ·exact a94
   ·exact a101
   ·exact a108
   ·exact a117
   ·exact a128
   ·exact a79
   ·exact a50))
  rw [e0];exact ⟨(_,_,_,_,_,AR),⟨u1,⟨S.ops,S.vls⟩⟩,Z,s.pickT (hd:=[_,_,_,_]) (tl:=(AR++bs)) (hd':=[_,_,_]) [0,2,3] rfl rfl⟩
 have hff:zD ⟨q,o::r,x,false,dn⟩=false\/mV l ⟨q,o::r,x,false,dn⟩=none:=.inl (by rw [<-ef];exact h26);refine .gG<|.gG<|.yw (.pickF Z Z)<|.aq Z<|.cF Z<|.cu (X:=Bool) [(0,_),(2,_)] ⟨Z,Z,Jt⟩ (λz=>[(30,.bool z)]) (λz=>H) (λz=>(.box b2 (cTk .u8 (tkf l q.i)) 108::.box b [.slice tp l.length tc,iN ((if z then Rq.nx q else q).i),(.slice (some ⟨g,0,none⟩) (o::r).length c),rv,.bool false,.bool dn,.bool x.2,iN ((if z then Rq.nx q else q).off),iN ((if z then Rq.nx q else q).er)] 102::.row 97 11 ((.slice (some ⟨g,0,none⟩) (o::r).length c)) ((o::r).length) ((xr++oC o s1 s2))::.row 179 13 (rv) (x.1.length) (xv)::(AR++bs))) (λz=>z=(decide (o.kd=5) && Rq.ac l [95] q)) ?_ λz hC=>?_
 ·
  refine .rg<|.mv Z<|.cs (X:=Unit) mS Z (λW s=>CB K hq (g:=g) (k:=r.length) (c:=c) (by omega) (s.pickT (hd:=[_,_,_,_]) (tl:=(AR++bs)) (hd':=[_,_,_,_]) [1,0,2,3] Z Z)) Z λ_ _=>.nC Z<|.fA Z hO<|.yw (.loadR1 Z mT kP (kY hlo Z))<|.yw (.eql Z Z)<|.mv Z<|.b2 (λh37=>?_) (λh37=>?_)
  ·have hk5:o.kd=5:=aR.1 (by have:=aJ h37;show o.kd.toNat=5;omega);exact .gy (.move Z)<|.gd Z Z<|.cs (X:=Unit) dI Z (λW s=>eQ K hq [95] (s.pickT (hd:=[_,_,_,_]) (tl:=(AR++bs)) (hd':=[_,_,_,_]) [0,1,2,3] Z Z)) Z λ_ _=>.yw (.pickT Z Z)<|.aq Z<|.me _ ⟨Z,Jt⟩ ⟨Z,Z,Jt⟩ (λ_ s=>(s.pickT (hd:=[_,_,_,_]) (tl:=(AR++bs)) (hd':=[_,_,_,_]) [1,0,2,3] Z Z)) (by first | rw [aF hk5,aG] | (rw [aI hk5];rfl))
  have hk5:¬ o.kd=5:=λe=>aO h37 (by rw [e];rfl);exact .gG<|.gG<|.yw (.pickF Z Z)<|.aq Z<|.me _ ⟨Z,Jt⟩ ⟨Z,Z,Jt⟩ (λ_ s=>(s.pickT (hd:=[_,_,_,_]) (tl:=(AR++bs)) (hd':=[_,_,_,_]) [1,0,2,3] Z Z)) (by first | rw [aF hk5,aG] | (rw [aI hk5];rfl))
 have ez:=hC;refine .cd Z (λh30=>?_) (λh30=>?_)
 ·rw [h30] at ez;have ez2:=aC _ _ |>.mp ez.symm
  rw [aM h30];refine .rg<|.mv Z<|.yw (.build Z (FC _ _))<|.cs (X:=Option Addr × Nat) fX Z (λW s=>mP K (cC K.gd.last hq ez2.2) (by simp [Value.oneCell',bV]) hn2 (s.pickT (hd:=[_,_,_,_]) (tl:=(AR++bs)) (hd':=[_,_,_,_]) [1,3,0,2] Z Z)) Z λp9 _=>.nl<|.bN<|?_
  refine jE (.inr Z) rfl .nil rfl λW s=>?_;have e0:eC l ⟨q,o::r,x,false,dn⟩=jA ⟨true,true,zE,zF⟩ (((⟨q,o::r,x,false,dn⟩:Ps)).at q.nx):=aH8 hff (aJ ez2.1) ez2.2;rw [e0];exact ⟨(_,_,_,_,_,AR),⟨.refl,⟨S.ops,.cons S.vls ⟨ExR.zero rfl (aP _),FmR.zero rfl rfl (aP _) (aP _)⟩⟩⟩,Z,s.pickT (hd:=[_,_,_,_]) (tl:=(AR++bs)) (hd':=[_,_,_]) [0,3,1] rfl rfl⟩
 rw [h30] at ez
 have hno:(dN (⟨q,o::r,x,false,dn⟩:Ps)).kd=5->Rq.ac l [95] q=false:=λe=>by
  have e3:(false:Bool)=(decide (o.kd=5) && Rq.ac l [95] q):=ez;rw [aF (show o.kd=5 from e),aG] at e3;exact e3.symm
 rw [aD (by rw [h30];decide)];refine .sm Z<|.cs (X:=Unit) dI Z (λW s=>eQ K hq [45] (s.pickT (hd:=[_,_,_,_]) (tl:=(AR++bs)) (hd':=[_,_,_,_]) [1,0,2,3] Z Z)) Z λ_ _=>.aq Z<|.cd Z (λh44=>?_) (λh44=>?_)
 ·have a44:Rq.ac l [45] q=true:=h44;rw [lN a44];refine .rg<|.mv Z<|.yw (.build Z (IH _ _))<|.cs (X:=Option Addr × Nat) gI Z (λW s=>mW K (cC K.gd.last hq a44) (by simp [Value.oneCell',bV]) (aV hn1 (by decide)) (λ_=>S.ops.tm hne) (s.pickT (hd:=[_,_,_,_]) (tl:=(AR++bs)) (hd':=[_,_,_,_]) [0,2,1,3] Z Z)) Z λp9 _=>.nl<|.bN<|?_
  refine jE (.inr Z) rfl .nil rfl λW s=>?_;have e0:eC l ⟨q,o::r,x,false,dn⟩=fR ⟨10,9,false,0,zF⟩ (((⟨q,o::r,x,false,dn⟩:Ps)).at q.nx):=(kX hff hno).trans (TJ a44);rw [e0];exact ⟨(_,_,_,_,_,AR),⟨.refl,⟨.cons S.ops (by show ¬ (10:UInt8)=5;decide) (FmR.zero rfl rfl (aP _) (aP _)),S.vls⟩⟩,Z,s.pickT (hd:=[_,_,_,_]) (tl:=(AR++bs)) (hd':=[_,_,_]) [0,1,3] rfl rfl⟩
 have a44:Rq.ac l [45] q=false:=h44;rw [lS a44];refine .sm Z<|.cs (X:=Unit) dI Z (λW s=>eQ K hq [40] (s.pickT (hd:=[_,_,_,_]) (tl:=(AR++bs)) (hd':=[_,_,_,_]) [0,1,2,3] Z Z)) Z λ_ _=>.aq Z<|.cd Z (λh50=>?_) (λh50=>?_)
 ·have a50:Rq.ac l [40] q=true:=h50;rw [lN a50];refine .rg<|.mv Z<|.yw (.build Z (GH _))<|.cs (X:=Option Addr × Nat) gI Z (λW s=>mW K (cC K.gd.last hq a50) (by simp [Value.oneCell',bV]) (aV hn1 (by decide)) (t':=false) (λh=>absurd h (Nat.lt_irrefl 0)) (s.pickT (hd:=[_,_,_,_]) (tl:=(AR++bs)) (hd':=[_,_,_,_]) [0,2,1,3] Z Z)) Z λp9 _=>.nl<|.bN<|?_
  refine jE (.inr Z) rfl .nil rfl λW s=>?_;have e0:eC l ⟨q,o::r,x,false,dn⟩=fR ⟨2,0,false,0,zF⟩ (((⟨q,o::r,x,false,dn⟩:Ps)).at q.nx):=(kX hff hno).trans (TF a50);rw [e0];exact ⟨(_,_,_,_,_,AR),⟨.refl,⟨.cons S.ops (by show ¬ (2:UInt8)=5;decide) (FmR.zero rfl rfl (aP _) (aP _)),S.vls⟩⟩,Z,s.pickT (hd:=[_,_,_,_]) (tl:=(AR++bs)) (hd':=[_,_,_]) [0,1,3] rfl rfl⟩
 have a50:Rq.ac l [40] q=false:=h50;rw [lS a50];refine .sr<|.fA Z jY<|.lD Z oS cR Z<|.yw (.eql Z Z)<|.aq Z<|.cd Z (λh56=>?_) (λh56=>?_)
 ·have hk3:(tkf l q.i).k=3:=aR.1 (by have:=aJ h56;show (tkf l q.i).k.toNat=3;omega);refine .rg<|.mv Z<|.mv Z<|.cs (X:=Unit) tD Z (λW s=>xP K hq  (s.pickT (hd:=[_,_,_,_]) (tl:=(AR++bs)) (hd':=[_,_,_,_]) [0,1,2,3] Z Z)) Z λ_ _=>.yw (.build Z (BN _ _))<|.yw (.build Z (kA _ _ _ _ _))<|.cs (X:=Option Addr × Nat) fX Z (λW s=>mP K (tK K.gd.last hq) (by simp [Value.oneCell',bV]) hn2 (s.pickT (hd:=[_,_,_,_]) (tl:=(AR++bs)) (hd':=[_,_,_,_]) [0,3,1,2] Z Z)) Z λp9 _=>.nl<|.bN<|?_
  refine jE (.inr Z) rfl .nil rfl λW s=>?_;have e0:eC l ⟨q,o::r,x,false,dn⟩=jA (tmv (.mk 1 [] (q.nbV l) [])) (((⟨q,o::r,x,false,dn⟩:Ps)).at (q.nbS l)):=(kX hff hno).trans (TG hk3);rw [e0];exact ⟨(_,_,_,_,_,AR),⟨.refl,⟨S.ops,.cons S.vls ⟨ExR.zero rfl (aP _),FmR.zero rfl rfl (aP _) (aP _)⟩⟩⟩,Z,s.pickT (hd:=[_,_,_,_]) (tl:=(AR++bs)) (hd':=[_,_,_]) [0,3,1] rfl rfl⟩
 have hk3:¬ (tkf l q.i).k=3:=λe=>aO h56 (by rw [e];rfl);refine .sr<|.fA Z jY<|.lD Z oS cR Z<|.yw (.eql Z Z)<|.aq Z<|.cd Z (λh66=>?_) (λh66=>?_)
 ·have hk1:(tkf l q.i).k=1:=aR.1 (by have:=aJ h66;show (tkf l q.i).k.toNat=1;omega);refine .rg<|.mv Z<|.cs (X:=Hp × Value × Value × List Value × List Value × List Res) OI Z (λW s=>LW K Wq S (St.mid (a:=[_,_,_]) (d:=[_]) (s.pickT (hd:=[_,_,_,_]) (tl:=(AR++bs)) (hd':=[_,_,_,_]) [0,2,3,1] Z Z))) Z λz9 hz9=>?_
  obtain ⟨H1,ro,rv,xo,xv,AR⟩:=z9;obtain ⟨u1,S⟩:=hz9;dsimp only at u1 S|-;refine Sx.reSt (λW s=>St.mid (a:=[_,_,_]) (d:=AR) (c:=[_]) s) ?_;refine .nl<|.bN<|?_
  refine jE (.inr Z) rfl .nil rfl λW s=>?_;have e0:eC l ⟨q,o::r,x,false,dn⟩=wP l ⟨q,o::r,x,false,dn⟩:=(kX hff hno).trans (HG hk1);rw [e0];exact ⟨(_,_,_,_,_,AR),⟨u1,⟨S.ops,S.vls⟩⟩,Z,s.pickT (hd:=[_,_,_,_]) (tl:=(AR++bs)) (hd':=[_,_,_]) [0,1,2] rfl rfl⟩
 have hk1:¬ (tkf l q.i).k=1:=λe=>aO h66 (by rw [e];rfl);refine .sm Z<|.cs (X:=Unit) dI Z (λW s=>eQ K hq [110,111,119] (s.pickT (hd:=[_,_,_,_]) (tl:=(AR++bs)) (hd':=[_,_,_,_]) [0,1,2,3] Z Z)) Z λ_ _=>.aq Z<|.cd Z (λh72=>?_) (λh72=>?_)
 ·have a72:Rq.ac l [110,111,119] q=true:=h72;rw [lN a72];refine .rg<|.mv Z<|.yw (.build Z (OW _))<|.yw (.build Z (kA _ _ _ _ _))<|.cs (X:=Option Addr × Nat) fX Z (λW s=>mP K (cC K.gd.last hq a72) (by simp [Value.oneCell',bV]) hn2 (s.pickT (hd:=[_,_,_,_]) (tl:=(AR++bs)) (hd':=[_,_,_,_]) [0,3,1,2] Z Z)) Z λp9 _=>.nl<|.bN<|?_
  refine jE (.inr Z) rfl .nil rfl λW s=>?_;have e0:eC l ⟨q,o::r,x,false,dn⟩=jA (tmv (.mk 4 [] 0 [])) (((⟨q,o::r,x,false,dn⟩:Ps)).at q.nx):=(kX hff hno).trans (TH a72);rw [e0];exact ⟨(_,_,_,_,_,AR),⟨.refl,⟨S.ops,.cons S.vls ⟨ExR.zero rfl (aP _),FmR.zero rfl rfl (aP _) (aP _)⟩⟩⟩,Z,s.pickT (hd:=[_,_,_,_]) (tl:=(AR++bs)) (hd':=[_,_,_]) [0,3,1] rfl rfl⟩
 have a72:Rq.ac l [110,111,119] q=false:=h72;rw [lS a72];refine .sm Z<|.cs (X:=Unit) dI Z (λW s=>eQ K hq [115,105,122,101] (s.pickT (hd:=[_,_,_,_]) (tl:=(AR++bs)) (hd':=[_,_,_,_]) [0,1,2,3] Z Z)) Z λ_ _=>.aq Z<|.cd Z (λh79=>?_) (λh79=>?_)
 ·have a79:Rq.ac l [115,105,122,101] q=true:=h79;rw [lN a79];refine .sm Z<|.cs (X:=Unit) yE Z (λW s=>MN K (cC K.gd.last hq a79) 0 (s.pickT (hd:=[_,_,_,_]) (tl:=(AR++bs)) (hd':=[_,_,_,_]) [0,1,2,3] Z Z)) Z λ_ _=>.al eS Z λb4=>.sX .head Z Z dC Z<|.nt<|.rg<|.mv Z<|.fA Z gC<|.lD Z cP Hm Z<|.yw (.app Z Z (by have h1:=gT K (cC K.gd.last hq a79);have h2:=gT K (fM K.gd.last (iB K.gd.last (cC K.gd.last hq a79)) (w:=[46]));show (Rq.nmV l q.nx).length+1<=_;omega))<|.fA Z gA<|.lD Z cP Hm Z<|.yw (.app Z Z (by have h1:=gT K (cC K.gd.last hq a79);have h2:=gT K (fM K.gd.last (iB K.gd.last (cC K.gd.last hq a79)) (w:=[46]));simp only [aE,aK,aQ];unfold Rq.paN Rq.paF;omega))<|.yw (.build Z (wX _ _))<|.yw (.build Z (kA _ _ _ _ _))<|.cs (X:=Option Addr × Nat) fX Z (λW s=>mP K (tU K.gd.last (cC K.gd.last hq a79)) (by simp [Value.oneCell',bV]) hn2 (s.pickT (hd:=[_,_,_,_,_]) (tl:=(AR++bs)) (hd':=[_,_,_,_,_]) [1,4,0,2,3] Z Z)) Z λp9 _=>.nl<|.bN<|?_
  refine jE (.inr Z) rfl .nil rfl λW s=>?_;have e0:eC l ⟨q,o::r,x,false,dn⟩=jA (tmv (.mk 8 (q.nx.paN l++[46]++q.nx.paF l) 0 [])) (((⟨q,o::r,x,false,dn⟩:Ps)).at (q.nx.paS l)):=(kX hff hno).trans (TE a79);rw [e0];exact ⟨(_,_,_,_,_,AR),⟨.refl,⟨S.ops,.cons S.vls ⟨ExR.zero rfl (by have h1:=gT K (cC K.gd.last hq a79);have h2:=gT K (fM K.gd.last (iB K.gd.last (cC K.gd.last hq a79)) (w:=[46]));show (Rq.paN l q.nx++[46]++Rq.paF l q.nx).length<=1000000;unfold Rq.paN Rq.paF;simp only [aE,aK,aQ];omega),FmR.zero rfl rfl (aP _) (aP _)⟩⟩⟩,Z,s.pickT (hd:=[_,_,_,_,_]) (tl:=(AR++bs)) (hd':=[_,_,_]) [0,4,1] rfl rfl⟩
 have a79:Rq.ac l [115,105,122,101] q=false:=h79;rw [lS a79];refine .sm Z<|.cs (X:=Unit) dI Z (λW s=>eQ K hq [116,114,117,101] (s.pickT (hd:=[_,_,_,_]) (tl:=(AR++bs)) (hd':=[_,_,_,_]) [0,1,2,3] Z Z)) Z λ_ _=>.aq Z<|.cd Z (λh94=>?_) (λh94=>?_)
 ·have a94:Rq.ac l [116,114,117,101] q=true:=h94;rw [lN a94];refine .rg<|.mv Z<|.yw (.build Z (pP _))<|.yw (.build Z (jH _ _ _ _ _ _ _))<|.cs (X:=Option Addr × Nat) fX Z (λW s=>mP K (cC K.gd.last hq a94) (by simp [Value.oneCell',bV]) hn2 (s.pickT (hd:=[_,_,_,_]) (tl:=(AR++bs)) (hd':=[_,_,_,_]) [0,3,1,2] Z Z)) Z λp9 _=>.nl<|.bN<|?_
  refine jE (.inr Z) rfl .nil rfl λW s=>?_;have e0:eC l ⟨q,o::r,x,false,dn⟩=jA (fmv (.mk 1 [] [] 0 0 [] [])) (((⟨q,o::r,x,false,dn⟩:Ps)).at q.nx):=(kX hff hno).trans (TD a94);rw [e0];exact ⟨(_,_,_,_,_,AR),⟨.refl,⟨S.ops,.cons S.vls ⟨ExR.zero rfl (aP _),FmR.zero rfl rfl (aP _) (aP _)⟩⟩⟩,Z,s.pickT (hd:=[_,_,_,_]) (tl:=(AR++bs)) (hd':=[_,_,_]) [0,3,1] rfl rfl⟩
 have a94:Rq.ac l [116,114,117,101] q=false:=h94;rw [lS a94];refine .sm Z<|.cs (X:=Unit) dI Z (λW s=>eQ K hq [102,97,108,115,101] (s.pickT (hd:=[_,_,_,_]) (tl:=(AR++bs)) (hd':=[_,_,_,_]) [0,1,2,3] Z Z)) Z λ_ _=>.aq Z<|.cd Z (λh101=>?_) (λh101=>?_)
 ·have a101:Rq.ac l [102,97,108,115,101] q=true:=h101;rw [lN a101];refine .rg<|.mv Z<|.yw (.build Z (pP _))<|.yw (.build Z (jH _ _ _ _ _ _ _))<|.cs (X:=Option Addr × Nat) fX Z (λW s=>mP K (cC K.gd.last hq a101) (by simp [Value.oneCell',bV]) hn2 (s.pickT (hd:=[_,_,_,_]) (tl:=(AR++bs)) (hd':=[_,_,_,_]) [0,3,1,2] Z Z)) Z λp9 _=>.nl<|.bN<|?_
  refine jE (.inr Z) rfl .nil rfl λW s=>?_;have e0:eC l ⟨q,o::r,x,false,dn⟩=jA (fmv (.mk 2 [] [] 0 0 [] [])) (((⟨q,o::r,x,false,dn⟩:Ps)).at q.nx):=(kX hff hno).trans (TM a101);rw [e0];exact ⟨(_,_,_,_,_,AR),⟨.refl,⟨S.ops,.cons S.vls ⟨ExR.zero rfl (aP _),FmR.zero rfl rfl (aP _) (aP _)⟩⟩⟩,Z,s.pickT (hd:=[_,_,_,_]) (tl:=(AR++bs)) (hd':=[_,_,_]) [0,3,1] rfl rfl⟩
 have a101:Rq.ac l [102,97,108,115,101] q=false:=h101;rw [lS a101];refine .sm Z<|.cs (X:=Unit) dI Z (λW s=>eQ K hq [102,108,97,103] (s.pickT (hd:=[_,_,_,_]) (tl:=(AR++bs)) (hd':=[_,_,_,_]) [0,1,2,3] Z Z)) Z λ_ _=>.aq Z<|.cd Z (λh108=>?_) (λh108=>?_)
 ·have a108:Rq.ac l [102,108,97,103] q=true:=h108;rw [lN a108];refine .rg<|.mv Z<|.mv Z<|.cs (X:=Unit) tC Z (λW s=>FJ K (cC K.gd.last hq a108)  (s.pickT (hd:=[_,_,_,_]) (tl:=(AR++bs)) (hd':=[_,_,_,_]) [0,1,2,3] Z Z)) Z λ_ _=>.yw (.build Z (wY _ _))<|.yw (.build Z (jH _ _ _ _ _ _ _))<|.cs (X:=Option Addr × Nat) fX Z (λW s=>mP K (iB K.gd.last (cC K.gd.last hq a108)) (by simp [Value.oneCell',bV]) hn2 (s.pickT (hd:=[_,_,_,_]) (tl:=(AR++bs)) (hd':=[_,_,_,_]) [0,3,1,2] Z Z)) Z λp9 _=>.nl<|.bN<|?_
  refine jE (.inr Z) rfl .nil rfl λW s=>?_;have e0:eC l ⟨q,o::r,x,false,dn⟩=jA (fmv (.mk 6 (q.nx.nmV l) [] 0 0 [] [])) (((⟨q,o::r,x,false,dn⟩:Ps)).at (q.nx.nmS l)):=(kX hff hno).trans (TL a108);rw [e0];exact ⟨(_,_,_,_,_,AR),⟨.refl,⟨S.ops,.cons S.vls ⟨ExR.zero rfl (aP _),FmR.zero rfl rfl (aV (gT K (cC K.gd.last hq a108)) (by decide)) (aP _)⟩⟩⟩,Z,s.pickT (hd:=[_,_,_,_]) (tl:=(AR++bs)) (hd':=[_,_,_]) [0,3,1] rfl rfl⟩
 have a108:Rq.ac l [102,108,97,103] q=false:=h108;rw [lS a108];refine .sm Z<|.cs (X:=Unit) dI Z (λW s=>eQ K hq [104,97,115] (s.pickT (hd:=[_,_,_,_]) (tl:=(AR++bs)) (hd':=[_,_,_,_]) [0,1,2,3] Z Z)) Z λ_ _=>.aq Z<|.cd Z (λh117=>?_) (λh117=>?_)
 ·have a117:Rq.ac l [104,97,115] q=true:=h117;rw [lN a117];refine .sm Z<|.cs (X:=Unit) yE Z (λW s=>MN K (cC K.gd.last hq a117) 5 (s.pickT (hd:=[_,_,_,_]) (tl:=(AR++bs)) (hd':=[_,_,_,_]) [0,1,2,3] Z Z)) Z λ_ _=>.al eS Z λb5=>.sX .head Z Z dC Z<|.ns<|.mv Z<|.cs (X:=Unit) nX Z (λW s=>sL K (tU K.gd.last (cC K.gd.last hq a117)) [91] (s.pickT (hd:=[_,_,_,_,_]) (tl:=(AR++bs)) (hd':=[_,_,_,_,_]) [1,0,2,3,4] Z Z)) Z λ_ _=>.nt<|.rg<|.mv Z<|.yw (.loadW Z cL cR Z)<|.yw (.build Z (yG _ _ _ _ _ _ _ _ _))<|.cs (X:=Option Addr × Nat) gI Z (λW s=>mW K (fM K.gd.last (tU K.gd.last (cC K.gd.last hq a117))) (by simp [Value.oneCell',bV]) (aV hn1 (by decide)) (t':=false) (λh=>absurd h (Nat.lt_irrefl 0)) (s.pickT (hd:=[_,_,_,_,_]) (tl:=(AR++bs)) (hd':=[_,_,_,_,_]) [0,3,1,2,4] Z Z)) Z λp9 _=>.nl<|.bN<|?_
  refine jE (.inr Z) rfl .nil rfl λW s=>?_;have e0:eC l ⟨q,o::r,x,false,dn⟩=fR ⟨4,0,true,0,q.nx.paV l 5⟩ (((⟨q,o::r,x,false,dn⟩:Ps)).at ((q.nx.paS l).exS l [91])):=(kX hff hno).trans (TK a117);rw [e0];exact ⟨(_,_,_,_,_,AR),⟨.refl,⟨.cons S.ops (by show ¬ (4:UInt8)=5;decide) (FmR.zero rfl rfl (aV (gT K (cC K.gd.last hq a117)) (by decide)) (aV (gT K (fM K.gd.last (iB K.gd.last (cC K.gd.last hq a117)))) (by decide))),S.vls⟩⟩,Z,s.pickT (hd:=[_,_,_,_,_]) (tl:=(AR++bs)) (hd':=[_,_,_]) [0,1,4] rfl rfl⟩
 have a117:Rq.ac l [104,97,115] q=false:=h117;rw [lS a117];refine .sm Z<|.cs (X:=Unit) dI Z (λW s=>eQ K hq [97,114,114,105,118,101,115] (s.pickT (hd:=[_,_,_,_]) (tl:=(AR++bs)) (hd':=[_,_,_,_]) [0,1,2,3] Z Z)) Z λ_ _=>.aq Z<|.cd Z (λh128=>?_) (λh128=>?_)
 ·have a128:Rq.ac l [97,114,114,105,118,101,115] q=true:=h128;rw [lN a128];refine .rg<|.mv Z<|.cs (X:=Hp × Value × Value × List Value × List Value × List Res) OH Z (λW s=>RL K (LU (q:=⟨q,o::r,x,false,dn⟩) (c:=q.nx) Wq (cC K.gd.last hq a128) (Nat.le_succ _)) S.at (St.mid (a:=[_,_,_]) (d:=[_]) (s.pickT (hd:=[_,_,_,_]) (tl:=(AR++bs)) (hd':=[_,_,_,_]) [0,2,3,1] Z Z))) Z λz9 hz9=>?_
  obtain ⟨H1,ro,rv,xo,xv,AR⟩:=z9;obtain ⟨u1,S⟩:=hz9;dsimp only at u1 S|-;refine Sx.reSt (λW s=>St.mid (a:=[_,_,_]) (d:=AR) (c:=[_]) s) ?_;refine .nl<|.bN<|?_
  refine jE (.inr Z) rfl .nil rfl λW s=>?_;have e0:eC l ⟨q,o::r,x,false,dn⟩=zQ l (((⟨q,o::r,x,false,dn⟩:Ps)).at q.nx):=(kX hff hno).trans (KZ a128);rw [e0];exact ⟨(_,_,_,_,_,AR),⟨u1,⟨S.ops,S.vls⟩⟩,Z,s.pickT (hd:=[_,_,_,_]) (tl:=(AR++bs)) (hd':=[_,_,_]) [0,1,2] rfl rfl⟩
 have a128:Rq.ac l [97,114,114,105,118,101,115] q=false:=h128;rw [lS a128];refine .rg<|.mv Z<|.cs (X:=Unit) jG Z (λW s=>qZ K hq 8 (s.pickT (hd:=[_,_,_,_]) (tl:=(AR++bs)) (hd':=[_,_,_,_]) [0,1,2,3] Z Z)) Z λ_ _=>.nl<|.bN<|?_
 refine jE (.inr Z) rfl .nil rfl λW s=>?_
 have e0:eC l ⟨q,o::r,x,false,dn⟩=(((⟨q,o::r,x,false,dn⟩:Ps)).at (q.fail l 8)):=(kX hff hno).trans (TI a44 hk3 hk1 (λw hw=>by
  simp only [aN6,bP,List.not_mem_nil,or_false] at hw;rcases hw with rfl | rfl | rfl | rfl | rfl | rfl | rfl | rfl
  ·exact a72
  ·exact a94
  ·exact a101
  ·exact a108
  ·exact a117
  ·exact a128
  ·exact a79
  ·exact a50))
 rw [e0];exact ⟨(_,_,_,_,_,AR),⟨.refl,⟨S.ops,S.vls⟩⟩,Z,s.pickT (hd:=[_,_,_,_]) (tl:=(AR++bs)) (hd':=[_,_,_]) [0,2,3] rfl rfl⟩
def UI:List Str:=[[],[116,114,117,101],[102,97,108,115,101],[],[],[104,97,115],[102,108,97,103],[97,114,114,105,118,101,115],[110,111,116],[97,110,100],[111,114],[105,109,112,108,105,101,115],[112,114,101,118,105,111,117,115],[111,110,99,101],[97,108,119,97,121,115],[115,105,110,99,101],[102,111,114,97,108,108],[101,120,105,115,116,115],[99,111,117,110,116]]
def uQ (op:UInt8):Str:=UI.getD op.toNat []
def SW (op:UInt8):Str:=kO.getD op.toNat []
def tlv (op:UInt8):Nat:=if op=14\/op=15 then 4 else if op=11\/op=12\/op=13 then 5 else if op=9 then 6 else 7
def EE (b:Bool) (s:Str):Str:=if b then [40]++s++[41] else s
def aX6 (op:UInt8) (nm:Str) (n:Int64) (l:List (UInt8 × Str)):Str :=
 if op=1 then Lib.itoa n.toInt
 else if op=4 then [110,111,119]
 else if op=5 then nm
 else if op=6 then nm++[91]++(l.headD (0,[])).2++[93]
 else if op=8 then [115,105,122,101,32]++nm
 else if op=9 then [45]++EE (decide (tlv (l.headD (0,[])).1<6)) (l.headD (0,[])).2
 else if op=11\/op=12\/op=13\/op=14\/op=15 then
  EE (decide (tlv (l.headD (0,[])).1<tlv op)) (l.headD (0,[])).2++[32]++SW op++[32]++EE (decide (tlv ((l.drop 1).headD (0,[])).1<tlv op+1)) ((l.drop 1).headD (0,[])).2
 else [95]
mutual
def tmT:Ex->Str
 | .mk op nm n args=>aX6 op nm n (aX5 args)
def aX5:List Ex->List (UInt8 × Str)
 | []=>[]
 | e::r=>(e.op,tmT e)::aX5 r
end
def GK (f:Fm):Str:=if !(dD f.op).wn || decide (f.b.toInt<0) then [] else [91]++Lib.itoa f.a.toInt++[44,32]++Lib.itoa f.b.toInt++[93]
def aC6 (f:Fm):Str:=[32]++f.nm++[32,105,110,32]++Lib.itoa f.a.toInt++[46,46]++Lib.itoa f.b.toInt
def HR (sep:Str):List Str->Str
 | []=>[]
 | [x]=>x
 | x::r=>x++sep++HR sep r
def exH (f:Fm):Ex:=f.ex.headD zE
def ex0 (e:Ex):Ex:=e.args.headD zE
def ex1 (e:Ex):Ex:=(e.args.drop 1).headD zE
def UO (f:Fm) (l:List (UInt8 × Str)):Str :=
 if f.op=3 then tmT (ex0 (exH f))++[32]++SW (exH f).op++[32]++tmT (ex1 (exH f))
 else if f.op=4 then f.nm++[46]++f.fd
 else if f.op=5 then uQ f.op++[32]++f.nm++[46]++f.fd++[91]++tmT (exH f)++[93]
 else if f.op=6 then uQ f.op++[32]++f.nm
 else if f.op=7 then uQ f.op++[32]++f.nm++[46]++f.fd++[40]++HR [44,32] (f.ex.map tmT)++[41]
 else if f.op=8\/f.op=12\/f.op=13\/f.op=14 then uQ f.op++GK f++[32]++EE (decide ((dD (l.headD (0,[])).1).lv<5)) (l.headD (0,[])).2
 else if f.op=16\/f.op=17 then uQ f.op++aC6 f++[32]++EE (decide ((dD (l.headD (0,[])).1).lv<5)) (l.headD (0,[])).2
 else if f.op=18 then uQ f.op++aC6 f++[32,40]++(l.headD (0,[])).2++[41,32,62,61,32]++tmT (exH f)
 else if f.op=15\/f.op=9\/f.op=10\/f.op=11 then
  EE (decide ((dD (l.headD (0,[])).1).lv<(dD f.op).lv)) (l.headD (0,[])).2++[32]++uQ f.op++GK f++[32]++EE (decide ((dD ((l.drop 1).headD (0,[])).1).lv<(dD f.op).lv+1)) ((l.drop 1).headD (0,[])).2
 else uQ f.op
mutual
def fmT:Fm->Str
 | .mk op nm fd a b ex args=>UO (.mk op nm fd a b ex args) (bG2 args)
def bG2:List Fm->List (UInt8 × Str)
 | []=>[]
 | f::r=>(f.op,fmT f)::bG2 r
end
def PX (f:Fm):Str:=if fH f=0 then fmT f else []
def fsC (s:Fs):List Value:=[.int .u8 (s.lv:Nat),.bool s.nm,.bool s.fd,.bool s.wn,.bool s.am,.int .u8 (s.ex:Nat),.int .u8 (s.ar:Nat)]
structure Gf (H:Hp):Prop where
 words:kU H 0 0 (UI.map bV)
 syms:kU H 1 0 (kO.map bV)
 shapes:kU H 2 0 (LH.flatMap fsC)
variable {H':Hp}
theorem Gf.up (g:Gf H) (u:Up H H'):Gf H':=⟨g.words.up u,g.syms.up u,g.shapes.up u⟩
theorem pI (H:Hp) (G:Gf H) (op:UInt8) (w:World) (hA:Agr H w):Calls prg 74 #[.int .u8 op.toNat] w λr w'=>r=.returned (.agg (fsC (dD op)).toArray)/\Ext w w':=by
 refine Sx.enter (H:=H) func74 rfl ntmps74 rfl hA ?_;refine .sr<|.al FV Z λb2=>.nt<|.sq<|.sm Z<|.yw (.conv Z rT rU (c:=((op.toNat:Nat):Int)) (w64 (by have:=op.toNat_lt;omega) (by have:=op.toNat_lt;omega)))<|.yw (.geq Z Z)<|.nt<|.ce Z (λh5=>?_) (λh5=>?_)
 ·refine .sr<|.yw (.build Z aV0)<|.sX .head Z Z BF Z<|.nt<|.rt<|.tR<|?_
  refine y8 Z (.cell Z JV Hm rfl) λW s=>⟨?_,s.ext⟩
  first
   | (rw [show dD op=zFs from (by unfold dD;rw [List.getD_eq_getElem?_getD,List.getElem?_eq_none (by show 19<=op.toNat;omega)];rfl)];rfl)
   | rfl
 refine .sk<|.tN<|.sm Z<|.yw (.indexArr aV3 Z Z Z (by omega) (q:=op.toNat * 7) (by omega))<|.yw (.loadMS (k:=op.toNat * 7) (vs:=fsC (LH.getD op.toNat zFs)) Z JV G.shapes (by omega) Z (aJ6 (f:=fsC) (z:=7) (l:=LH) (i:=op.toNat) (λ_=>rfl) _ (by show op.toNat<19;omega)))<|.sV .head Z Z BF Z (by simp [fsC,Value.oneCell',bV]) Z<|.nt<|.rt<|?_
 refine y8 Z (.cell Z JV Hm rfl) λW s=>⟨?_,s.ext⟩
 first
  | (rw [show dD op=zFs from (by unfold dD;rw [List.getD_eq_getElem?_getD,List.getElem?_eq_none (by show 19<=op.toNat;omega)];rfl)];rfl)
  | rfl
set_option maxHeartbeats 2000000 in
theorem aR2 {op:List Ov} {x:Vb} {dn:Bool} (K:Tkf H l tp tc) (Wq:Fwf l ⟨q,op,x,true,dn⟩) (S:Sq H ⟨q,op,x,true,dn⟩ xo xv AR) (op8:UInt8) (hnx:q.nx.i<l.length) (s:St H w0 (.box b [.slice tp l.length tc,iN q.i,ro,rv,.bool true,.bool dn,.bool x.2,iN q.off,iN q.er] 102::.row 97 11 (ro) (op.length) (xo)::.row 179 13 (rv) (x.1.length) (xv)::(AR++bs)) W) :
 Calls prg 99 #[.pointer (some ⟨b,0,none⟩),.int .u8 op8.toNat] W (Get w0 bs b l tp tc H (sD l op8 ⟨q,op,x,true,dn⟩)):=by
 have hq:q.i<l.length:=Wq.i;have hnx2:q.i+1<l.length:=hnx;have hcap:=K.rep.cap;obtain ⟨hn1,hn2⟩:=pD Wq K.few;dsimp only at hn1 hn2;have hv1:1<=x.1.length:=by have:=Wq.vs;dsimp only at this;rw [this];exact Nat.le_add_left _ _
 obtain ⟨vs,bd⟩:=x;dsimp only at hv1 hn2;obtain ⟨v,V,rfl⟩:=CK hv1;dsimp only [List.length_cons] at hn2;obtain ⟨yr,t0,t1,t2,e4,VS1,V1⟩:=VR.inv S.vls;try dsimp only at e4
 subst e4;have hlv:=VS1.len;refine fN func99 rfl ntmps99 rfl s ?_;refine Sx.rowCase (size:=13) (r:=rv) (e:=179) kP (Nat.succ_pos _) λg2 c2 e hkc2=>?_;subst e;try dsimp only [List.length_cons] at hkc2
 dsimp only [List.length_cons];refine .sm Z<|.yw (.build Z (OS _ _ _))<|.al RN Z λb4=>.sX .head Z Z RP Z<|.nt<|.sq<|.bk<|.sm Z<|.yw (.leq Z Z)<|.aq Z<|.cd Z (λh8=>?_) (λh8=>?_)
 ·have h13:op8<=13:=by rw [UInt8.le_iff_toNat_le];have:=aJ h8;show op8.toNat<=13;omega
  have h16:¬ (16:UInt8)<=op8:=λe=>by rw [UInt8.le_iff_toNat_le] at e h13;have e1:(16:UInt8).toNat=16:=rfl;have e2:(13:UInt8).toNat=13:=rfl;omega
  refine .rg<|.fA Z pJ<|.st .head Z Z iG Z (nb Z) Z<|.nl<|.bN<|.tN<|.sq<|.fL 13 [(0,0),(1,0),(2,0),(3,0),(4,0),(5,0),(6,0),(7,0),(8,0),(9,0),(10,0),(11,0),(12,0)]<|.mv Z<|.nC Z<|.fA Z jN<|.lD Z qF cR Z<|.mv Z<|.nC Z<|.fA Z jN<|.lD Z qF cR Z<|.yw (.lenSl uI Z)<|.yw (.sub Z Z (c:=((V.length:Nat):Int)) ((w6 (by omega)).trans (by omega)))<|.yw (.indexSl uI Z Z (i:=V.length) Z (by omega) (q:=V.length * 13) (by omega))<|.fA Z vP<|.yw (.loadR1 Z kB qP (kY hlv Z))<|.fn (tl:=[_]) Z<|.aq Z<|.sq<|.sr<|.fA Z hO<|.lD Z mT Hm Z<|.yw (.cast (.eql Z Z) (congrArg Value.bool (aI (by decide))))<|.nt<|.cF Z<|.rg<|.mv Z<|.fA Z pJ<|.lD Z bS Hm Z<|.cs (X:=Hp × Value × Value × List Value × List Value × List Res) pO Z (λW s=>uB K Wq S 8 (by omega) (St.mid (a:=[_,_,_]) (d:=[_]) (s.pickT (hd:=[_,_,_,_]) (tl:=(AR++bs)) (hd':=[_,_,_,_]) [1,2,3,0] Z Z))) Z λz9 hz9=>?_
  obtain ⟨H1,ro,rv,xo,xv,AR⟩:=z9;obtain ⟨u1,S⟩:=hz9;dsimp only at u1 S|-;refine Sx.reSt (λW s=>St.mid (a:=[_,_,_]) (d:=AR) (c:=[_]) s) ?_;obtain ⟨op7,x7,e7⟩:∃ op7 x7,kK 8 (⟨q,op,(v::V,bd),true,dn⟩:Ps)=⟨q,op7,x7,true,dn⟩:=⟨_,_,Z⟩;rw [e7] at S|-;dsimp only at S|-;have W7:Fwf l ⟨q,op7,x7,true,dn⟩:=by rw [<-e7];exact uS (by omega) Wq rfl
  obtain ⟨hm1,hm2⟩:=pD W7 K.few;dsimp only at hm1 hm2;have hne7:op7≠[]:=W7.ne;refine .nt<|.sq<|.sm Z<|.nt<|.cd Z (λh55=>?_) (λh55=>?_)
  ·have hwh:v.wh=true:=h55;refine .sm Z<|.cs (X:=Unit) jG Z (λW s=>qZ (K.up u1.up) hq 8 (s.pickT (hd:=[_,_,_,_]) (tl:=(AR++bs)) (hd':=[_,_,_,_]) [0,1,2,3] Z Z)) Z λ_ _=>.nt<|.rt<|.tR<|?_
   refine y7 Z .nil rfl λW s=>?_
   have e0:sD l op8 ⟨q,op,(v::V,bd),true,dn⟩=(⟨q,op7,x7,true,dn⟩:Ps).at (q.fail l 8):=by
    unfold sD;rw [aD h16,aM h13,e7,aM];exact hwh
   rw [e0];exact ⟨(_,_,_,_,_,AR),⟨u1,⟨S.ops,S.vls⟩⟩,Z,s.pickT (hd:=[_,_,_,_]) (tl:=(AR++bs)) (hd':=[_,_,_]) [0,1,2] rfl rfl⟩
  have hwh:v.wh=false:=h55;refine .sk<|.tN<|.sm Z<|.nC Z<|.fA Z iE<|.lD Z bS Hm Z<|.yw (.add Z Z (c:=((q.nx.i:Nat):Int)) ((w6 (by omega)).trans (by show _=((q.i+1:Nat):Int);omega)))<|.nC Z<|.fA Z iE<|.st .head Z Z iG Z (nb Z) Z<|.nt<|.rg<|.mv Z<|.yw (.loadW Z AA qP Z)<|.cs (X:=Option Addr × Nat) gI Z (λW s=>mW (K.up u1.up) hnx (by simp [Value.oneCell',bV]) (aV hm1 (by decide)) (λ_=>S.ops.tm hne7) (s.pickT (hd:=[_,_,_,_]) (tl:=(AR++bs)) (hd':=[_,_,_,_]) [0,1,2,3] Z Z)) Z λp9 _=>.nl<|?_
  refine jE (.inr Z) rfl .nil rfl λW s=>?_
  have e0:sD l op8 ⟨q,op,(v::V,bd),true,dn⟩=fR ⟨9,8,false,op8,zF⟩ ((⟨q,op7,x7,true,dn⟩:Ps).at q.nx):=by
   unfold sD;rw [aD h16,aM h13,e7,aD];show ¬ (sB (v::V,bd)).wh=true;rw [show (sB (v::V,bd)).wh=false from hwh];decide
  rw [e0];exact ⟨(_,_,_,_,_,AR),⟨u1,⟨.cons S.ops (by show ¬ (9:UInt8)=5;decide) (FmR.zero rfl rfl (aP _) (aP _)),S.vls⟩⟩,Z,s.pickT (hd:=[_,_,_,_]) (tl:=(AR++bs)) (hd':=[_,_,_]) [0,1,2] rfl rfl⟩
 have h13:¬ op8<=13:=λe=>aO h8 (by rw [UInt8.le_iff_toNat_le] at e;have e2:(13:UInt8).toNat=13:=rfl;omega);refine .sm Z<|.yw (.geq Z Z)<|.aq Z<|.cd Z (λh12=>?_) (λh12=>?_)
 ·have h16:(16:UInt8)<=op8:=by rw [UInt8.le_iff_toNat_le];have:=aJ h12;show 16<=op8.toNat;omega
  refine .rg<|.fA Z hO<|.st .head Z Z aS1 Z (nb Z) Z<|.fA Z pJ<|.st .head Z Z iG Z (nb Z) Z<|.nl<|.bN<|.tN<|.sq<|.fL 13 [(0,0),(1,0),(2,0),(3,0),(4,0),(5,0),(6,0),(7,0),(8,0),(9,0),(10,0),(11,0),(12,0)]<|.mv Z<|.nC Z<|.fA Z jN<|.lD Z qF cR Z<|.mv Z<|.nC Z<|.fA Z jN<|.lD Z qF cR Z<|.yw (.lenSl uI Z)<|.yw (.sub Z Z (c:=((V.length:Nat):Int)) ((w6 (by omega)).trans (by omega)))<|.yw (.indexSl uI Z Z (i:=V.length) Z (by omega) (q:=V.length * 13) (by omega))<|.fA Z vP<|.yw (.loadR1 Z kB qP (kY hlv Z))<|.fn (tl:=[_]) Z<|.aq Z<|.sq<|.sr<|.fA Z hO<|.lD Z mT Hm Z<|.yw (.cast (.eql Z Z) (congrArg Value.bool (aF (by decide))))<|.nt<|.cT Z<|.sm Z<|.cs (X:=Hp × Value × Value × List Value × List Value × List Res) pO Z (λW s=>uB K Wq S 7 (by omega) (St.mid (a:=[_,_,_]) (d:=[_]) (s.pickT (hd:=[_,_,_,_]) (tl:=(AR++bs)) (hd':=[_,_,_,_]) [1,2,3,0] Z Z))) Z λz9 hz9=>?_
  obtain ⟨H1,ro,rv,xo,xv,AR⟩:=z9;obtain ⟨u1,S⟩:=hz9;dsimp only at u1 S|-;refine Sx.reSt (λW s=>St.mid (a:=[_,_,_]) (d:=AR) (c:=[_]) s) ?_;obtain ⟨op7,x7,e7⟩:∃ op7 x7,kK 7 (⟨q,op,(v::V,bd),true,dn⟩:Ps)=⟨q,op7,x7,true,dn⟩:=⟨_,_,Z⟩;rw [e7] at S|-;dsimp only at S|-;have W7:Fwf l ⟨q,op7,x7,true,dn⟩:=by rw [<-e7];exact uS (by omega) Wq rfl
  obtain ⟨hm1,hm2⟩:=pD W7 K.few;dsimp only at hm1 hm2;have hne7:op7≠[]:=W7.ne;refine .nt<|.rg<|.mv Z<|.mv Z<|.b2 (λh36=>?_) (λh36=>?_)
  ·have hwh:v.wh=true:=h36;refine .gG<|.gG<|.gG<|.gG<|.gG<|.yw (.pickT Z Z)<|.mv Z<|.gG<|.gG<|.gG<|.gG<|.gG<|.gG<|.yw (.pickT Z Z)<|.aq Z<|.sq<|.sm Z<|.nt<|.cT Z<|.sm Z<|.cs (X:=Unit) jG Z (λW s=>qZ (K.up u1.up) hq 8 (s.pickT (hd:=[_,_,_,_]) (tl:=(AR++bs)) (hd':=[_,_,_,_]) [0,1,2,3] Z Z)) Z λ_ _=>.nt<|.rt<|.tR<|?_
   refine y7 Z .nil rfl λW s=>?_
   have e0:sD l op8 ⟨q,op,(v::V,bd),true,dn⟩=(⟨q,op7,x7,true,dn⟩:Ps).at (q.fail l 8):=by
    unfold sD;rw [aM h16,e7,aM];show ((sB (v::V,bd)).wh || _ || _)=true;rw [show (sB (v::V,bd)).wh=true from hwh];rfl
   rw [e0];exact ⟨(_,_,_,_,_,AR),⟨u1,⟨S.ops,S.vls⟩⟩,Z,s.pickT (hd:=[_,_,_,_]) (tl:=(AR++bs)) (hd':=[_,_,_]) [0,1,2] rfl rfl⟩
  have hwh:v.wh=false:=h36;obtain ⟨o7,r7,rfl⟩:=CK (l:=op7) (by cases op7 with | nil=>exact (hne7 rfl).elim | cons a t=>exact Nat.succ_pos _);dsimp only [List.length_cons] at hm1;obtain ⟨xr,s1,s2,e2,hlo,ho1,ho2⟩:=Ops.top S.ops;try dsimp only at e2
  subst e2;refine Sx.rowCase (size:=11) (r:=ro) (e:=97) cR (Nat.succ_pos _) λg c e hkc=>?_;subst e;refine .gy (.move Z)<|.gd Z Z<|.cs (X:=Unit) mS Z (λW s=>CB (K.up u1.up) hq (g:=g) (k:=r7.length) (c:=c) (by omega) (s.pickT (hd:=[_,_,_,_]) (tl:=(AR++bs)) (hd':=[_,_,_,_]) [0,1,2,3] Z Z)) Z λ_ _=>.gy (.nilCheck Z)<|.gy (.fieldAddr Z uJ)<|.gy (.loadR1 Z kB cR (kY hlo Z))<|.yw (.pickF Z Z)<|.mv Z<|.b2 (λh43=>?_) (λh43=>?_)
  ·have htm:o7.tm=true:=h43;refine .gG<|.gG<|.gG<|.gG<|.gG<|.gG<|.yw (.pickT Z Z)<|.aq Z<|.sq<|.sm Z<|.nt<|.cT Z<|.sm Z<|.cs (X:=Unit) jG Z (λW s=>qZ (K.up u1.up) hq 8 (s.pickT (hd:=[_,_,_,_]) (tl:=(AR++bs)) (hd':=[_,_,_,_]) [0,1,2,3] Z Z)) Z λ_ _=>.nt<|.rt<|.tR<|?_
   refine y7 Z .nil rfl λW s=>?_
   have e0:sD l op8 ⟨q,op,(v::V,bd),true,dn⟩=(⟨q,o7::r7,x7,true,dn⟩:Ps).at (q.fail l 8):=by
    unfold sD;rw [aM h16,e7,aM];show (_ || (dN (⟨q,o7::r7,x7,true,dn⟩:Ps)).tm || _)=true;rw [show (dN (⟨q,o7::r7,x7,true,dn⟩:Ps)).tm=true from htm,Bool.or_true];rfl
   rw [e0];exact ⟨(_,_,_,_,_,AR),⟨u1,⟨S.ops,S.vls⟩⟩,Z,s.pickT (hd:=[_,_,_,_]) (tl:=(AR++bs)) (hd':=[_,_,_]) [0,1,2] rfl rfl⟩
  have htm:o7.tm=false:=h43;refine .gy (.move Z)<|.gd Z Z<|.cs (X:=Unit) mS Z (λW s=>CB (K.up u1.up) hq (g:=g) (k:=r7.length) (c:=c) (by omega) (s.pickT (hd:=[_,_,_,_]) (tl:=(AR++bs)) (hd':=[_,_,_,_]) [0,1,2,3] Z Z)) Z λ_ _=>.gy (.nilCheck Z)<|.gy (.fieldAddr Z hO)<|.gy (.loadR1 Z mT cR (kY hlo Z))<|.gy (.eql Z Z)<|.yw (.pickF Z Z)<|.aq Z<|.sq<|.sm Z<|.nt<|.cd Z (λh55=>?_) (λh55=>?_)
  ·have hk8:o7.kd=8:=aR.1 (by have:=aJ h55;show o7.kd.toNat=8;omega);refine .sm Z<|.cs (X:=Unit) jG Z (λW s=>qZ (K.up u1.up) hq 8 (s.pickT (hd:=[_,_,_,_]) (tl:=(AR++bs)) (hd':=[_,_,_,_]) [0,1,2,3] Z Z)) Z λ_ _=>.nt<|.rt<|.tR<|?_
   refine y7 Z .nil rfl λW s=>?_
   have e0:sD l op8 ⟨q,op,(v::V,bd),true,dn⟩=(⟨q,o7::r7,x7,true,dn⟩:Ps).at (q.fail l 8):=by
    unfold sD;rw [aM h16,e7,aM];show (_ || _ || decide ((dN (⟨q,o7::r7,x7,true,dn⟩:Ps)).kd=8))=true;rw [aF (show (dN (⟨q,o7::r7,x7,true,dn⟩:Ps)).kd=8 from hk8),Bool.or_true]
   rw [e0];exact ⟨(_,_,_,_,_,AR),⟨u1,⟨S.ops,S.vls⟩⟩,Z,s.pickT (hd:=[_,_,_,_]) (tl:=(AR++bs)) (hd':=[_,_,_]) [0,1,2] rfl rfl⟩
  have hk8:¬ o7.kd=8:=λe=>aO h55 (by rw [e];rfl);refine .sk<|.tN<|.sm Z<|.nC Z<|.fA Z iE<|.lD Z bS Hm Z<|.yw (.add Z Z (c:=((q.nx.i:Nat):Int)) ((w6 (by omega)).trans (by show _=((q.i+1:Nat):Int);omega)))<|.nC Z<|.fA Z iE<|.st .head Z Z iG Z (nb Z) Z<|.nt<|.rg<|.mv Z<|.yw (.loadW Z AA qP Z)<|.cs (X:=Option Addr × Nat) gI Z (λW s=>mW (K.up u1.up) hnx (by simp [Value.oneCell',bV]) (by show r7.length+1<=600001;omega) (λ_=>S.ops.tm hne7) (s.pickT (hd:=[_,_,_,_]) (tl:=(AR++bs)) (hd':=[_,_,_,_]) [0,1,2,3] Z Z)) Z λp9 _=>.nl<|?_
  refine jE (.inr Z) rfl .nil rfl λW s=>?_
  have e0:sD l op8 ⟨q,op,(v::V,bd),true,dn⟩=fR ⟨8,6,false,op8,zF⟩ ((⟨q,o7::r7,x7,true,dn⟩:Ps).at q.nx):=by
   unfold sD;rw [aM h16,e7,aD];show ¬ ((sB (v::V,bd)).wh || (dN (⟨q,o7::r7,x7,true,dn⟩:Ps)).tm || decide ((dN (⟨q,o7::r7,x7,true,dn⟩:Ps)).kd=8))=true;rw [show (sB (v::V,bd)).wh=false from hwh,show (dN (⟨q,o7::r7,x7,true,dn⟩:Ps)).tm=false from htm,aI (show ¬ (dN (⟨q,o7::r7,x7,true,dn⟩:Ps)).kd=8 from hk8)]
   decide
  rw [e0];exact ⟨(_,_,_,_,_,AR),⟨u1,⟨.cons S.ops (by show ¬ (8:UInt8)=5;decide) (FmR.zero rfl rfl (aP _) (aP _)),S.vls⟩⟩,Z,s.pickT (hd:=[_,_,_,_]) (tl:=(AR++bs)) (hd':=[_,_,_]) [0,1,2] rfl rfl⟩
 have h16:¬ (16:UInt8)<=op8:=λe=>aO h12 (by rw [UInt8.le_iff_toNat_le] at e;have e2:(16:UInt8).toNat=16:=rfl;omega);refine .sk<|.bN<|.tN<|.sq<|.fL 13 [(0,0),(1,0),(2,0),(3,0),(4,0),(5,0),(6,0),(7,0),(8,0),(9,0),(10,0),(11,0),(12,0)]<|.mv Z<|.nC Z<|.fA Z jN<|.lD Z qF cR Z<|.mv Z<|.nC Z<|.fA Z jN<|.lD Z qF cR Z<|.yw (.lenSl uI Z)<|.yw (.sub Z Z (c:=((V.length:Nat):Int)) ((w6 (by omega)).trans (by omega)))<|.yw (.indexSl uI Z Z (i:=V.length) Z (by omega) (q:=V.length * 13) (by omega))<|.fA Z vP<|.yw (.loadR1 Z kB qP (kY hlv Z))<|.fn (tl:=[_]) Z<|.aq Z<|.sq<|.sr<|.fA Z hO<|.lD Z mT Hm Z<|.yw (.cast (.eql Z Z) (congrArg Value.bool (aI (by decide))))<|.nt<|.cF Z<|.rg<|.mv Z<|.fA Z pJ<|.lD Z bS Hm Z<|.cs (X:=Hp × Value × Value × List Value × List Value × List Res) pO Z (λW s=>uB K Wq S 7 (by omega) (St.mid (a:=[_,_,_]) (d:=[_]) (s.pickT (hd:=[_,_,_,_]) (tl:=(AR++bs)) (hd':=[_,_,_,_]) [1,2,3,0] Z Z))) Z λz9 hz9=>?_
 obtain ⟨H1,ro,rv,xo,xv,AR⟩:=z9;obtain ⟨u1,S⟩:=hz9;dsimp only at u1 S|-;refine Sx.reSt (λW s=>St.mid (a:=[_,_,_]) (d:=AR) (c:=[_]) s) ?_;obtain ⟨op7,x7,e7⟩:∃ op7 x7,kK 7 (⟨q,op,(v::V,bd),true,dn⟩:Ps)=⟨q,op7,x7,true,dn⟩:=⟨_,_,Z⟩;rw [e7] at S|-;dsimp only at S|-;have W7:Fwf l ⟨q,op7,x7,true,dn⟩:=by rw [<-e7];exact uS (by omega) Wq rfl
 obtain ⟨hm1,hm2⟩:=pD W7 K.few;dsimp only at hm1 hm2;have hne7:op7≠[]:=W7.ne;refine .nt<|.sq<|.sm Z<|.nt<|.cd Z (λh55=>?_) (λh55=>?_)
 ·have hwh:v.wh=true:=h55;refine .sm Z<|.cs (X:=Unit) jG Z (λW s=>qZ (K.up u1.up) hq 8 (s.pickT (hd:=[_,_,_,_]) (tl:=(AR++bs)) (hd':=[_,_,_,_]) [0,1,2,3] Z Z)) Z λ_ _=>.nt<|.rt<|.tR<|?_
  refine y7 Z .nil rfl λW s=>?_
  have e0:sD l op8 ⟨q,op,(v::V,bd),true,dn⟩=(⟨q,op7,x7,true,dn⟩:Ps).at (q.fail l 8):=by
   unfold sD;rw [aD h16,aD h13,e7,aM];exact hwh
  rw [e0];exact ⟨(_,_,_,_,_,AR),⟨u1,⟨S.ops,S.vls⟩⟩,Z,s.pickT (hd:=[_,_,_,_]) (tl:=(AR++bs)) (hd':=[_,_,_]) [0,1,2] rfl rfl⟩
 have hwh:v.wh=false:=h55;refine .sk<|.tN<|.sm Z<|.nC Z<|.fA Z iE<|.lD Z bS Hm Z<|.yw (.add Z Z (c:=((q.nx.i:Nat):Int)) ((w6 (by omega)).trans (by show _=((q.i+1:Nat):Int);omega)))<|.nC Z<|.fA Z iE<|.st .head Z Z iG Z (nb Z) Z<|.nt<|.rg<|.mv Z<|.yw (.loadW Z AA qP Z)<|.cs (X:=Option Addr × Nat) gI Z (λW s=>mW (K.up u1.up) hnx (by simp [Value.oneCell',bV]) (aV hm1 (by decide)) (λ_=>S.ops.tm hne7) (s.pickT (hd:=[_,_,_,_]) (tl:=(AR++bs)) (hd':=[_,_,_,_]) [0,1,2,3] Z Z)) Z λp9 _=>.nl<|?_
 refine jE (.inr Z) rfl .nil rfl λW s=>?_
 have e0:sD l op8 ⟨q,op,(v::V,bd),true,dn⟩=fR ⟨9,7,false,op8,zF⟩ ((⟨q,op7,x7,true,dn⟩:Ps).at q.nx):=by
  unfold sD;rw [aD h16,aD h13,e7,aD];show ¬ (sB (v::V,bd)).wh=true;rw [show (sB (v::V,bd)).wh=false from hwh];decide
 rw [e0];exact ⟨(_,_,_,_,_,AR),⟨u1,⟨.cons S.ops (by show ¬ (9:UInt8)=5;decide) (FmR.zero rfl rfl (aP _) (aP _)),S.vls⟩⟩,Z,s.pickT (hd:=[_,_,_,_]) (tl:=(AR++bs)) (hd':=[_,_,_]) [0,1,2] rfl rfl⟩
theorem i0 {n:Int64}:decide (n.toInt=0)=decide (n=0):=by
 rw [aX,aA,aA];exact ⟨λh=>dW.1 h,λh=>by rw [h];rfl⟩
variable {n k:Nat}
theorem n0:decide (((n:Nat):Int)=((k:Nat):Int))=decide (n=k):=by rw [aX,aA,aA];omega
theorem DB {l:List Ex} {p:Ex->Bool} (hk:k<l.length) (h:(l.take k).any p=false) (hp:p l[k]=false):(l.take (k+1)).any p=false:=by
 rw [List.take_succ,List.any_append,h,List.getElem?_eq_getElem hk];simp [hp]
theorem JM {l:List Ex} {p:Ex->Bool} (hk:k<l.length) (hp:p l[k]=true):l.any p=true:=iZ.2 ⟨_,bI hk,hp⟩
def ixV (l:List Ex) (p:Ex->Bool):Int:=match l.findIdx? p with | some i=>(i:Int) | none=>-1
theorem bW7 {l:List Ex} {p:Ex->Bool} (hk:k<l.length) (h:(l.take k).any p=false) (hp:p l[k]=true):ixV l p=(k:Int):=by
 unfold ixV
 rw [List.findIdx?_eq_some_iff_getElem.2 ⟨hk,hp,λj hj=>by
  have hm:l[j]∈l.take k:=List.mem_take_iff_getElem.2 ⟨j,by omega,Z⟩;have:=List.any_eq_false.1 h _ hm;exact this⟩]
theorem bW6 {l:List Ex} {p:Ex->Bool} (h:l.any p=false):ixV l p=-1:=by
 unfold ixV;rw [List.findIdx?_eq_none_iff.2 λx hx=>by have:=List.any_eq_false.1 h x hx;simpa using this]
theorem cB6 {l:List Ex} {p:Ex->Bool} :decide (0<=ixV l p)=l.any p:=by
 unfold ixV;cases h:l.findIdx? p with
 | some i =>
  obtain ⟨hi,hp,_⟩:=List.findIdx?_eq_some_iff_getElem.1 h;rw [iZ.2 ⟨_,bI hi,hp⟩];exact aF (by show (0:Int)<=(i:Int);omega)
 | none =>
  rw [List.any_eq_false.2 λx hx=>by have:=List.findIdx?_eq_none_iff.1 h x hx;rw [this];decide];rfl
theorem sE {op:UInt8} {nm:Str} {n:Int64} {args:List Ex} :BX (.mk op nm n args)=(decide (op=0) && decide (nm=[]) && decide (n=0) && decide (args.length=0)):=rfl
def EFn (H:Hp) (gf:FuncId) (ca:List Value) (p:Ex->Bool) (e:Ex):Prop:=∀ (cs:List Value) (W:World),Rep H (dEx .u8 e) cs->Agr H W->Calls prg gf (.agg cs.toArray::ca).toArray W λr W'=>r=.returned (.bool (p e))/\Ext W W'
variable {c:Nat}
theorem aP1 (H:Hp) (gf:FuncId) (ca:List Value) (p:Ex->Bool) (l:List Ex) {pp:Option Addr} (hs:Rep H (.seq 4 (l.map (dEx .u8))) [.slice pp l.length c]) (hf:cV prg gf=true) (hg:∀ e∈l,EFn H gf ca p e) (w:World) (hA:Agr H w) :
 Calls prg 131 #[.slice pp l.length c,.func (.func gf) #[] ca.toArray] w λr w'=>r=.returned (.int .i64 (ixV l p))/\Ext w w':=by
 have hcap:=hs.cap;refine Sx.enter (H:=H) func131 rfl ntmps131 rfl hA ?_;refine .sr<|.aq Z<|.sq<|.sm Z<|.yw (.lenSl dP Z)<|.mv Z<|.nt<|.bk<|.lp (X:=Nat) [(0,_),(1,_),(7,_)] ⟨Z,Z,Z,Jt⟩ [] (λk=>[(8,iN k)]) (λk=>H) (λk=>[]) (λk=>k<=l.length/\(l.take k).any p=false) (λk=>l.length - k) 0 (λ_ s=>s) ⟨Z,Jt⟩ ⟨aP _,Z⟩ λk hC=>?_
 obtain ⟨hk0,hal⟩:=hC;refine .sr<|.yw (.lss Z Z)<|.nt<|.sq<|.ce Z (λh9=>?_) (λh9=>?_)
 ·have hk:k<l.length:=by omega
  obtain ⟨bE,oE,cE,hpE,rE,lE,mE⟩:=hs.elem (iL (f:=dEx .u8) hk);cases hpE;refine .sk<|.tN<|.sq<|.bk<|.sm Z<|.a Z Z<|.ns<|.mv Z<|.mv Z<|.mv Z<|.yw (.indexSl dP Z Z Z (by omega) (q:=oE+k * 4) Z)<|.yw (.loadMW Z dS mE lE)<|.yw (.callV (fi:=[]) Z hf Z (λW s=>hg _ (bI hk) cE W rE s.agr))<|.nt<|.cd Z (λh16=>?_) (λh16=>?_)
  ·refine .sm Z<|.az Z<|.bR<|.tR<|.tR<|.bR<|.tR<|?_
   refine y9 Z Z λW s=>⟨?_,s.ext⟩
   first
    | (rw [bW7 hk hal h16])
    | (rw [bW6 hal])
  exact .sk<|.bN<|.tN<|.rg<|.yw (.add Z Z w7)<|.mv Z<|.nt<|.ag (k+1) ⟨Z,Jt⟩ ⟨Z,Z,Z,Jt⟩ (λ_ s=>s) ⟨by omega,DB hk hal h16⟩ (by omega)
 obtain rfl:k=l.length:=by omega
 rw [aY] at hal;refine .ex<|.eb<|.sr<|.az Z<|?_
 refine y9 Z Z λW s=>⟨?_,s.ext⟩
 first
  | (rw [bW7 hk hal h16])
  | (rw [bW6 hal])
theorem mC (H:Hp) (gf:FuncId) (ca:List Value) (p:Ex->Bool) (l:List Ex) {pp:Option Addr} (hs:Rep H (.seq 4 (l.map (dEx .u8))) [.slice pp l.length c]) (hf:cV prg gf=true) (hg:∀ e∈l,EFn H gf ca p e) (w:World) (hA:Agr H w) :
 Calls prg 71 #[.slice pp l.length c,.func (.func gf) #[] ca.toArray] w λr w'=>r=.returned (.bool (l.any p))/\Ext w w':=by
 refine Sx.enter (H:=H) func71 rfl ntmps71 rfl hA ?_;refine .sr<|.a Z Z<|.ns<|.mv Z<|.mv Z<|.yw (.call (v:=.int .i64 (ixV l p)) aE2 Z (λW s=>aP1 H gf ca p l hs hf hg W s.agr))<|.yw (.cast (.geq Z Z) (congrArg Value.bool cB6))<|.az Z<|?_
 exact y9 Z Z λW s=>⟨Z,s.ext⟩
theorem aP0 (H:Hp) (e:Ex) (cs:List Value) (w:World) (h:Rep H (dEx .u8 e) cs) (hA:Agr H w):Calls prg 78 #[.agg cs.toArray] w λr w'=>r=.returned (.bool (BX e))/\Ext w w':=by
 obtain ⟨op,nm,nn,args⟩:=e;obtain ⟨pp,c,rfl,hs,hnm⟩:=jB h;refine Sx.enter (H:=H) func78 rfl ntmps78 rfl hA ?_;refine .sr<|.bx Z Z Z λb1=>.a Z Z<|.ns<|.fA Z hU<|.lD Z kR Hm Z<|.yw (.cast (.eql Z Z) (congrArg Value.bool k80))<|.mv Z<|.b2 (λh6=>?_) (λh6=>?_)
 ·refine .gy (.fieldAddr Z fZ)<|.gy (.load Z cP Hm Z)<|.gy (.eqS Z Z)<|.yw (.pickT Z Z)<|.mv Z<|.b2 (λh11=>?_) (λh11=>?_)
  ·refine .gy (.fieldAddr Z gQ)<|.gy (.load Z kM Hm Z)<|.gy (.cast (.eql Z Z) (congrArg Value.bool i0))<|.yw (.pickT Z Z)<|.mv Z<|.b2 (λh16=>?_) (λh16=>?_)
   ·refine .gy (.fieldAddr Z eI)<|.gy (.load Z dG Hm Z)<|.gy (.lenSl dP Z)<|.gy (.cast (.eql Z Z) (congrArg Value.bool er0))<|.yw (.pickT Z Z)<|.az Z<|?_
    refine y9 Z Z λW s=>⟨?_,s.ext⟩
    first
     | (rw [sE,h6,h11,h16,aG,aG,aG])
     | (rw [sE,h6,h11,h16];rfl)
     | (rw [sE,h6,h11];rfl)
     | (rw [sE,h6];rfl)
   refine .gG<|.gG<|.gG<|.gG<|.yw (.pickF Z Z)<|.az Z<|?_
   refine y9 Z Z λW s=>⟨?_,s.ext⟩
   first
    | (rw [sE,h6,h11,h16,aG,aG,aG])
    | (rw [sE,h6,h11,h16];rfl)
    | (rw [sE,h6,h11];rfl)
    | (rw [sE,h6];rfl)
  refine .gG<|.gG<|.gG<|.yw (.pickF Z Z)<|.mv Z<|.gG<|.gG<|.gG<|.gG<|.yw (.pickF Z Z)<|.az Z<|?_
  refine y9 Z Z λW s=>⟨?_,s.ext⟩
  first
   | (rw [sE,h6,h11,h16,aG,aG,aG])
   | (rw [sE,h6,h11,h16];rfl)
   | (rw [sE,h6,h11];rfl)
   | (rw [sE,h6];rfl)
 refine .gG<|.gG<|.gG<|.yw (.pickF Z Z)<|.mv Z<|.gG<|.gG<|.gG<|.yw (.pickF Z Z)<|.mv Z<|.gG<|.gG<|.gG<|.gG<|.yw (.pickF Z Z)<|.az Z<|?_
 refine y9 Z Z λW s=>⟨?_,s.ext⟩
 first
  | (rw [sE,h6,h11,h16,aG,aG,aG])
  | (rw [sE,h6,h11,h16];rfl)
  | (rw [sE,h6,h11];rfl)
  | (rw [sE,h6];rfl)
theorem IG {l:List Ex} {p:Ex->Bool} (hk:k<l.length) (h:(l.take k).all p=true) (hp:p l[k]=true):(l.take (k+1)).all p=true:=by
 rw [List.take_succ,List.all_append,h,List.getElem?_eq_getElem hk];simp [hp]
theorem bK5 {l:List Ex} {p:Ex->Bool} (hk:k<l.length) (hp:p l[k]=false):l.all p=false:=List.all_eq_false.2 ⟨_,bI hk,by rw [hp];decide⟩
theorem vT:∀ l,AE l=l.all eL
 | []=>rfl
 | e::r=>by rw [AE,fE,vT r]
theorem nF (H:Hp) (op:UInt8) (nm:Str) (nn:Int64) (args:List Ex) (n:Nat) (cs:List Value) (w:World) (h:Rep H (dEx .u8 (.mk op nm nn args)) cs) (ht:∀ a∈args,(∀ (cs:List Value) (W:World),Rep H (dEx .u8 a) cs->Agr H W->Calls prg 79 #[.agg cs.toArray] W λr W'=>r=.returned (.bool (eL a))/\Ext W W')) (hA:Agr H w) :
 Calls prg 132 #[.agg cs.toArray,iN n] w λr w'=>r=.returned (.bool (args.all eL && decide (args.length=n)))/\Ext w w':=by
 obtain ⟨pp,c,rfl,hs,hnm⟩:=jB h;have hcap:=hs.cap;refine Sx.enter (H:=H) func132 rfl ntmps132 rfl hA ?_;refine .sr<|.bx Z Z Z λb2=>.aq Z<|.sq<|.sr<|.fA Z eI<|.lD Z dG Hm Z<|.yw (.lenSl dP Z)<|.mv Z<|.nt<|.bk<|.lp (X:=Nat) [(1,_),(2,_),(8,_),(9,_)] ⟨Z,Z,Z,Z,Jt⟩ [_] (λk=>[(10,iN k)]) (λk=>H) (λk=>[]) (λk=>k<=args.length/\(args.take k).all eL=true) (λk=>args.length - k) 0 (λ_ s=>s) ⟨Z,Jt⟩ ⟨aP _,Z⟩ λk hC=>?_
 obtain ⟨hk0,hal⟩:=hC;refine .sr<|.yw (.lss Z Z)<|.nt<|.sq<|.ce Z (λh11=>?_) (λh11=>?_)
 ·have hk:k<args.length:=by omega
  obtain ⟨bE,oE,cE,hpE,rE,lE,mE⟩:=hs.elem (iL (f:=dEx .u8) hk);cases hpE;refine .sk<|.tN<|.sq<|.bk<|.sr<|.yw (.indexSl dP Z Z Z (by omega) (q:=oE+k * 4) Z)<|.yw (.loadMW Z dS mE lE)<|.al kS Z λb6=>.sV .head Z Z gM lE rE.one Z<|.ns<|.yw (.loadW Z dS Hm lE)<|.yw (.call DZ Z (λW s=>ht _ (bI hk) cE W rE s.agr))<|.yw (.not Z)<|.nt<|.cd Z (λh16=>?_) (λh16=>?_)
  ·refine .sr<|.az Z<|.bR<|.tR<|.tR<|.bR<|.tR<|?_
   refine y9 Z Z λW s=>⟨?_,s.ext⟩
   (rw [bK5 hk (by simpa using h16)];rfl)
  exact .sk<|.bN<|.tN<|.rg<|.yw (.add Z Z w7)<|.mv Z<|.nt<|.ag (k+1) ⟨Z,Jt⟩ ⟨Z,Z,Z,Z,Jt⟩ (λ_ s=>s.pick [1] [_] Z Z) ⟨by omega,IG hk hal (by simpa using h16)⟩ (by omega)
 obtain rfl:k=args.length:=by omega
 rw [aY] at hal;refine .ex<|.eb<|.sr<|.fA Z eI<|.lD Z dG Hm Z<|.yw (.lenSl dP Z)<|.mv Z<|.yw (.cast (.eql Z Z) (congrArg Value.bool n0))<|.az Z<|?_
 refine y9 Z Z λW s=>⟨?_,s.ext⟩
 (rw [hal,aG])
theorem tb1 {op:UInt8} {nm:Str} {n:Int64} {args:List Ex} (h:op=1):eL (.mk op nm n args)=(decide (nm=[]) && decide (0<=n.toInt) && decide (args.length=0)):=by rw [eL,aM h]
theorem tb4 {op:UInt8} {nm:Str} {n:Int64} {args:List Ex} (h:op=4):eL (.mk op nm n args)=(decide (nm=[]) && decide (n=0) && decide (args.length=0)):=by subst h;rw [eL,aD (by decide),aM rfl]
theorem tb5 {op:UInt8} {nm:Str} {n:Int64} {args:List Ex} (h:op=5\/op=8):eL (.mk op nm n args)=(decide (n=0) && decide (args.length=0)):=by
 rw [eL,aD (by rcases h with rfl | rfl <;> decide),aD (by rcases h with rfl | rfl <;> decide),aM h]
theorem tb6 {op:UInt8} {nm:Str} {n:Int64} {args:List Ex} (h:op=6):eL (.mk op nm n args)=(decide (n=0) && (args.all eL && decide (args.length=1))):=by
 subst h;rw [eL,aD (by decide),aD (by decide),aD (by decide),aM rfl,vT]
theorem tb9 {op:UInt8} {nm:Str} {n:Int64} {args:List Ex} (h:op=9):eL (.mk op nm n args)=(decide (nm=[]) && decide (n=0) && (args.all eL && decide (args.length=1))):=by
 subst h;rw [eL,aD (by decide),aD (by decide),aD (by decide),aD (by decide),aM rfl,vT]
theorem tbb {op:UInt8} {nm:Str} {n:Int64} {args:List Ex} (h:op=11\/op=12\/op=13\/op=14\/op=15):eL (.mk op nm n args)=(decide (nm=[]) && decide (n=0) && (args.all eL && decide (args.length=2))):=by
 have e:∀ k:UInt8,k<11->¬ op=k:=by
  intro k hk e;subst e;rcases h with rfl | rfl | rfl | rfl | rfl <;> exact absurd hk (by decide)
 rw [eL,aD (e 1 (by decide)),aD (e 4 (by decide)),aD (by rintro (h | h);exact e 5 (by decide) h;exact e 8 (by decide) h),aD (e 6 (by decide)),aD (e 9 (by decide)),aM h,vT]
theorem tbn {op:UInt8} {nm:Str} {n:Int64} {args:List Ex} (h1:¬ op=1) (h4:¬ op=4) (h5:¬ op=5) (h8:¬ op=8) (h6:¬ op=6) (h9:¬ op=9) (a:¬ op=11) (b:¬ op=12) (c:¬ op=13) (d:¬ op=14) (e:¬ op=15):eL (.mk op nm n args)=false:=by
 rw [eL,aD h1,aD h4,aD (JX.2 ⟨h5,h8⟩),aD h6,aD h9,aD (by rintro (h | h | h | h | h);exact a h;exact b h;exact c h;exact d h;exact e h)]
set_option maxHeartbeats 1000000 in
theorem AM (H:Hp) (e:Ex):(∀ (cs:List Value) (W:World),Rep H (dEx .u8 e) cs->Agr H W->Calls prg 79 #[.agg cs.toArray] W λr W'=>r=.returned (.bool (eL e))/\Ext W W'):=by
 induction e using Ex.ind with | _ op nm nn args ih
 intro cs w h hA;obtain ⟨pp,c,rfl,hs,hnm⟩:=jB h;refine Sx.enter (H:=H) func79 rfl ntmps79 rfl hA ?_;refine .sr<|.bx Z Z Z λb1=>.aq Z<|.sq<|.sr<|.fA Z hU<|.lD Z kR Hm Z<|.nt<|.bk<|.sr<|.yw (.eql Z Z)<|.aq Z<|.cd Z (λh5=>?_) (λh5=>?_)
 ·have q1:op=1:=aR.1 (by have:=aJ h5;show op.toNat=1;omega);refine .sr<|.fA Z fZ<|.lD Z cP Hm Z<|.yw (.eqS Z Z)<|.mv Z<|.b2 (λh10=>?_) (λh10=>?_)
  ·refine .gy (.fieldAddr Z gQ)<|.gy (.load Z kM Hm Z)<|.gy (.geq Z Z)<|.yw (.pickT Z Z)<|.mv Z<|.b2 (λh15=>?_) (λh15=>?_)
   ·refine .gy (.fieldAddr Z eI)<|.gy (.load Z dG Hm Z)<|.gy (.lenSl dP Z)<|.gy (.cast (.eql Z Z) (congrArg Value.bool er0))<|.yw (.pickT Z Z)<|.az Z<|.bR<|.tR<|?_
    refine y9 Z Z λW s=>⟨?_,s.ext⟩
    (rw [tb1 q1,h10,h15];simp only [aG,aN,cJ,Bool.and_false])
   refine .gG<|.gG<|.gG<|.gG<|.yw (.pickF Z Z)<|.az Z<|.bR<|.tR<|?_
   refine y9 Z Z λW s=>⟨?_,s.ext⟩
   (rw [tb1 q1,h10,h15];simp only [aG,aN,cJ,Bool.and_false])
  refine .gG<|.gG<|.gG<|.yw (.pickF Z Z)<|.mv Z<|.gG<|.gG<|.gG<|.gG<|.yw (.pickF Z Z)<|.az Z<|.bR<|.tR<|?_
  refine y9 Z Z λW s=>⟨?_,s.ext⟩
  (rw [tb1 q1,h10];simp only [aG,aN,cJ,Bool.and_false])
 have q1:¬ op=1:=λe=>aO h5 (by rw [e];rfl);refine .sr<|.yw (.eql Z Z)<|.aq Z<|.cd Z (λh21=>?_) (λh21=>?_)
 ·have q4:op=4:=aR.1 (by have:=aJ h21;show op.toNat=4;omega);refine .sr<|.fA Z fZ<|.lD Z cP Hm Z<|.yw (.eqS Z Z)<|.mv Z<|.b2 (λh26=>?_) (λh26=>?_)
  ·refine .gy (.fieldAddr Z gQ)<|.gy (.load Z kM Hm Z)<|.gy (.cast (.eql Z Z) (congrArg Value.bool i0))<|.yw (.pickT Z Z)<|.mv Z<|.b2 (λh31=>?_) (λh31=>?_)
   ·refine .gy (.fieldAddr Z eI)<|.gy (.load Z dG Hm Z)<|.gy (.lenSl dP Z)<|.gy (.cast (.eql Z Z) (congrArg Value.bool er0))<|.yw (.pickT Z Z)<|.az Z<|.bR<|.tR<|?_
    refine y9 Z Z λW s=>⟨?_,s.ext⟩
    (rw [tb4 q4,h26,h31];simp only [aG,aN,cJ,Bool.and_false])
   refine .gG<|.gG<|.gG<|.gG<|.yw (.pickF Z Z)<|.az Z<|.bR<|.tR<|?_
   refine y9 Z Z λW s=>⟨?_,s.ext⟩
   (rw [tb4 q4,h26,h31];simp only [aG,aN,cJ,Bool.and_false])
  refine .gG<|.gG<|.gG<|.yw (.pickF Z Z)<|.mv Z<|.gG<|.gG<|.gG<|.gG<|.yw (.pickF Z Z)<|.az Z<|.bR<|.tR<|?_
  refine y9 Z Z λW s=>⟨?_,s.ext⟩
  (rw [tb4 q4,h26];simp only [aG,aN,cJ,Bool.and_false])
 have q4:¬ op=4:=λe=>aO h21 (by rw [e];rfl);refine .sq<|.sr<|.yw (.eql Z Z)<|.aq Z<|.cr Z (λh37=>?_) (λh37=>?_)
 ·have q58:op=5:=aR.1 (by have:=aJ h37;show op.toNat=5;omega);refine .sk<|.tN<|.cT Z<|.sr<|.fA Z gQ<|.lD Z kM Hm Z<|.yw (.cast (.eql Z Z) (congrArg Value.bool i0))<|.mv Z<|.b2 (λh43=>?_) (λh43=>?_)
  ·refine .gy (.fieldAddr Z eI)<|.gy (.load Z dG Hm Z)<|.gy (.lenSl dP Z)<|.gy (.cast (.eql Z Z) (congrArg Value.bool er0))<|.yw (.pickT Z Z)<|.az Z<|.bR<|.tR<|?_
   refine y9 Z Z λW s=>⟨?_,s.ext⟩
   (rw [tb5 (.inl q58),h43];simp only [aG,aN,cJ,Bool.and_false])
  refine .gG<|.gG<|.gG<|.gG<|.yw (.pickF Z Z)<|.az Z<|.bR<|.tR<|?_
  refine y9 Z Z λW s=>⟨?_,s.ext⟩
  (rw [tb5 (.inl q58),h43];simp only [aG,aN,cJ,Bool.and_false])
 have q585:¬ op=5:=λe=>aO h37 (by rw [e];rfl);refine .rg<|.yw (.eql Z Z)<|.aq Z<|.cr Z (λh37=>?_) (λh37=>?_)
 ·have q58:op=8:=aR.1 (by have:=aJ h37;show op.toNat=8;omega);refine .sr<|.fA Z gQ<|.lD Z kM Hm Z<|.yw (.cast (.eql Z Z) (congrArg Value.bool i0))<|.mv Z<|.b2 (λh43=>?_) (λh43=>?_)
  ·refine .gy (.fieldAddr Z eI)<|.gy (.load Z dG Hm Z)<|.gy (.lenSl dP Z)<|.gy (.cast (.eql Z Z) (congrArg Value.bool er0))<|.yw (.pickT Z Z)<|.az Z<|.bR<|.tR<|?_
   refine y9 Z Z λW s=>⟨?_,s.ext⟩
   (rw [tb5 (.inr q58),h43];simp only [aG,aN,cJ,Bool.and_false])
  refine .gG<|.gG<|.gG<|.gG<|.yw (.pickF Z Z)<|.az Z<|.bR<|.tR<|?_
  refine y9 Z Z λW s=>⟨?_,s.ext⟩
  (rw [tb5 (.inr q58),h43];simp only [aG,aN,cJ,Bool.and_false])
 have q588:¬ op=8:=λe=>aO h37 (by rw [e];rfl);refine .sr<|.yw (.eql Z Z)<|.aq Z<|.cd Z (λh49=>?_) (λh49=>?_)
 ·have q6:op=6:=aR.1 (by have:=aJ h49;show op.toNat=6;omega);refine .sr<|.fA Z gQ<|.lD Z kM Hm Z<|.yw (.cast (.eql Z Z) (congrArg Value.bool i0))<|.mv Z<|.b2 (λh54=>?_) (λh54=>?_)
  ·refine .gy (.loadW Z dS Hm Z)<|.gy (.call rJ Z (λW s=>nF H op nm nn args 1 _ W h (λa ha=>ih a ha) s.agr))<|.yw (.pickT Z Z)<|.az Z<|.bR<|.tR<|?_
   refine y9 Z Z λW s=>⟨?_,s.ext⟩
   (rw [tb6 q6,h54];simp only [aG,aN,cJ,Bool.and_false])
  refine .gG<|.gG<|.yw (.pickF Z Z)<|.az Z<|.bR<|.tR<|?_
  refine y9 Z Z λW s=>⟨?_,s.ext⟩
  (rw [tb6 q6,h54];simp only [aG,aN,cJ,Bool.and_false])
 have q6:¬ op=6:=λe=>aO h49 (by rw [e];rfl);refine .sr<|.yw (.eql Z Z)<|.aq Z<|.cd Z (λh58=>?_) (λh58=>?_)
 ·have q9:op=9:=aR.1 (by have:=aJ h58;show op.toNat=9;omega);refine .sr<|.fA Z fZ<|.lD Z cP Hm Z<|.yw (.eqS Z Z)<|.mv Z<|.b2 (λh63=>?_) (λh63=>?_)
  ·refine .gy (.fieldAddr Z gQ)<|.gy (.load Z kM Hm Z)<|.gy (.cast (.eql Z Z) (congrArg Value.bool i0))<|.yw (.pickT Z Z)<|.mv Z<|.b2 (λh68=>?_) (λh68=>?_)
   ·refine .gy (.loadW Z dS Hm Z)<|.gy (.call rJ Z (λW s=>nF H op nm nn args 1 _ W h (λa ha=>ih a ha) s.agr))<|.yw (.pickT Z Z)<|.az Z<|.bR<|.tR<|?_
    refine y9 Z Z λW s=>⟨?_,s.ext⟩
    (rw [tb9 q9,h63,h68];simp only [aG,aN,cJ,Bool.and_false])
   refine .gG<|.gG<|.yw (.pickF Z Z)<|.az Z<|.bR<|.tR<|?_
   refine y9 Z Z λW s=>⟨?_,s.ext⟩
   (rw [tb9 q9,h63,h68];simp only [aG,aN,cJ,Bool.and_false])
  refine .gG<|.gG<|.gG<|.yw (.pickF Z Z)<|.mv Z<|.gG<|.gG<|.yw (.pickF Z Z)<|.az Z<|.bR<|.tR<|?_
  refine y9 Z Z λW s=>⟨?_,s.ext⟩
  (rw [tb9 q9,h63];simp only [aG,aN,cJ,Bool.and_false])
 have q9:¬ op=9:=λe=>aO h58 (by rw [e];rfl);refine .sq<|.sr<|.yw (.eql Z Z)<|.aq Z<|.cr Z (λh72=>?_) (λh72=>?_)
 ·have qb:op=11:=aR.1 (by have:=aJ h72;show op.toNat=11;omega);refine .sk<|.tN<|.cT Z<|.sr<|.fA Z fZ<|.lD Z cP Hm Z<|.yw (.eqS Z Z)<|.mv Z<|.b2 (λh81=>?_) (λh81=>?_)
  ·refine .gy (.fieldAddr Z gQ)<|.gy (.load Z kM Hm Z)<|.gy (.cast (.eql Z Z) (congrArg Value.bool i0))<|.yw (.pickT Z Z)<|.mv Z<|.b2 (λh86=>?_) (λh86=>?_)
   ·refine .gy (.loadW Z dS Hm Z)<|.gy (.call rJ Z (λW s=>nF H op nm nn args 2 _ W h (λa ha=>ih a ha) s.agr))<|.yw (.pickT Z Z)<|.az Z<|.bR<|.tR<|?_
    refine y9 Z Z λW s=>⟨?_,s.ext⟩
    (rw [tbb (.inl qb),h81,h86];simp only [aG,aN,cJ,Bool.and_false])
   refine .gG<|.gG<|.yw (.pickF Z Z)<|.az Z<|.bR<|.tR<|?_
   refine y9 Z Z λW s=>⟨?_,s.ext⟩
   (rw [tbb (.inl qb),h81,h86];simp only [aG,aN,cJ,Bool.and_false])
  refine .gG<|.gG<|.gG<|.yw (.pickF Z Z)<|.mv Z<|.gG<|.gG<|.yw (.pickF Z Z)<|.az Z<|.bR<|.tR<|?_
  refine y9 Z Z λW s=>⟨?_,s.ext⟩
  (rw [tbb (.inl qb),h81];simp only [aG,aN,cJ,Bool.and_false])
 have qb11:¬ op=11:=λe=>aO h72 (by rw [e];rfl);refine .sr<|.yw (.eql Z Z)<|.aq Z<|.cr Z (λh72=>?_) (λh72=>?_)
 ·have qb:op=12:=aR.1 (by have:=aJ h72;show op.toNat=12;omega);refine .sk<|.tN<|.cT Z<|.sr<|.fA Z fZ<|.lD Z cP Hm Z<|.yw (.eqS Z Z)<|.mv Z<|.b2 (λh81=>?_) (λh81=>?_)
  ·refine .gy (.fieldAddr Z gQ)<|.gy (.load Z kM Hm Z)<|.gy (.cast (.eql Z Z) (congrArg Value.bool i0))<|.yw (.pickT Z Z)<|.mv Z<|.b2 (λh86=>?_) (λh86=>?_)
   ·refine .gy (.loadW Z dS Hm Z)<|.gy (.call rJ Z (λW s=>nF H op nm nn args 2 _ W h (λa ha=>ih a ha) s.agr))<|.yw (.pickT Z Z)<|.az Z<|.bR<|.tR<|?_
    refine y9 Z Z λW s=>⟨?_,s.ext⟩
    (rw [tbb (.inr (.inl qb)),h81,h86];simp only [aG,aN,cJ,Bool.and_false])
   refine .gG<|.gG<|.yw (.pickF Z Z)<|.az Z<|.bR<|.tR<|?_
   refine y9 Z Z λW s=>⟨?_,s.ext⟩
   (rw [tbb (.inr (.inl qb)),h81,h86];simp only [aG,aN,cJ,Bool.and_false])
  refine .gG<|.gG<|.gG<|.yw (.pickF Z Z)<|.mv Z<|.gG<|.gG<|.yw (.pickF Z Z)<|.az Z<|.bR<|.tR<|?_
  refine y9 Z Z λW s=>⟨?_,s.ext⟩
  (rw [tbb (.inr (.inl qb)),h81];simp only [aG,aN,cJ,Bool.and_false])
 have qb12:¬ op=12:=λe=>aO h72 (by rw [e];rfl);refine .sr<|.yw (.eql Z Z)<|.aq Z<|.cr Z (λh72=>?_) (λh72=>?_)
 ·have qb:op=13:=aR.1 (by have:=aJ h72;show op.toNat=13;omega);refine .sk<|.tN<|.cT Z<|.sr<|.fA Z fZ<|.lD Z cP Hm Z<|.yw (.eqS Z Z)<|.mv Z<|.b2 (λh81=>?_) (λh81=>?_)
  ·refine .gy (.fieldAddr Z gQ)<|.gy (.load Z kM Hm Z)<|.gy (.cast (.eql Z Z) (congrArg Value.bool i0))<|.yw (.pickT Z Z)<|.mv Z<|.b2 (λh86=>?_) (λh86=>?_)
   ·refine .gy (.loadW Z dS Hm Z)<|.gy (.call rJ Z (λW s=>nF H op nm nn args 2 _ W h (λa ha=>ih a ha) s.agr))<|.yw (.pickT Z Z)<|.az Z<|.bR<|.tR<|?_
    refine y9 Z Z λW s=>⟨?_,s.ext⟩
    (rw [tbb (.inr (.inr (.inl qb))),h81,h86];simp only [aG,aN,cJ,Bool.and_false])
   refine .gG<|.gG<|.yw (.pickF Z Z)<|.az Z<|.bR<|.tR<|?_
   refine y9 Z Z λW s=>⟨?_,s.ext⟩
   (rw [tbb (.inr (.inr (.inl qb))),h81,h86];simp only [aG,aN,cJ,Bool.and_false])
  refine .gG<|.gG<|.gG<|.yw (.pickF Z Z)<|.mv Z<|.gG<|.gG<|.yw (.pickF Z Z)<|.az Z<|.bR<|.tR<|?_
  refine y9 Z Z λW s=>⟨?_,s.ext⟩
  (rw [tbb (.inr (.inr (.inl qb))),h81];simp only [aG,aN,cJ,Bool.and_false])
 have qb13:¬ op=13:=λe=>aO h72 (by rw [e];rfl);refine .sr<|.yw (.eql Z Z)<|.aq Z<|.cr Z (λh72=>?_) (λh72=>?_)
 ·have qb:op=14:=aR.1 (by have:=aJ h72;show op.toNat=14;omega);refine .sk<|.tN<|.cT Z<|.sr<|.fA Z fZ<|.lD Z cP Hm Z<|.yw (.eqS Z Z)<|.mv Z<|.b2 (λh81=>?_) (λh81=>?_)
  ·refine .gy (.fieldAddr Z gQ)<|.gy (.load Z kM Hm Z)<|.gy (.cast (.eql Z Z) (congrArg Value.bool i0))<|.yw (.pickT Z Z)<|.mv Z<|.b2 (λh86=>?_) (λh86=>?_)
   ·refine .gy (.loadW Z dS Hm Z)<|.gy (.call rJ Z (λW s=>nF H op nm nn args 2 _ W h (λa ha=>ih a ha) s.agr))<|.yw (.pickT Z Z)<|.az Z<|.bR<|.tR<|?_
    refine y9 Z Z λW s=>⟨?_,s.ext⟩
    (rw [tbb (.inr (.inr (.inr (.inl qb)))),h81,h86];simp only [aG,aN,cJ,Bool.and_false])
   refine .gG<|.gG<|.yw (.pickF Z Z)<|.az Z<|.bR<|.tR<|?_
   refine y9 Z Z λW s=>⟨?_,s.ext⟩
   (rw [tbb (.inr (.inr (.inr (.inl qb)))),h81,h86];simp only [aG,aN,cJ,Bool.and_false])
  refine .gG<|.gG<|.gG<|.yw (.pickF Z Z)<|.mv Z<|.gG<|.gG<|.yw (.pickF Z Z)<|.az Z<|.bR<|.tR<|?_
  refine y9 Z Z λW s=>⟨?_,s.ext⟩
  (rw [tbb (.inr (.inr (.inr (.inl qb)))),h81];simp only [aG,aN,cJ,Bool.and_false])
 have qb14:¬ op=14:=λe=>aO h72 (by rw [e];rfl);refine .rg<|.yw (.eql Z Z)<|.aq Z<|.cr Z (λh72=>?_) (λh72=>?_)
 ·have qb:op=15:=aR.1 (by have:=aJ h72;show op.toNat=15;omega);refine .sr<|.fA Z fZ<|.lD Z cP Hm Z<|.yw (.eqS Z Z)<|.mv Z<|.b2 (λh81=>?_) (λh81=>?_)
  ·refine .gy (.fieldAddr Z gQ)<|.gy (.load Z kM Hm Z)<|.gy (.cast (.eql Z Z) (congrArg Value.bool i0))<|.yw (.pickT Z Z)<|.mv Z<|.b2 (λh86=>?_) (λh86=>?_)
   ·refine .gy (.loadW Z dS Hm Z)<|.gy (.call rJ Z (λW s=>nF H op nm nn args 2 _ W h (λa ha=>ih a ha) s.agr))<|.yw (.pickT Z Z)<|.az Z<|.bR<|.tR<|?_
    refine y9 Z Z λW s=>⟨?_,s.ext⟩
    (rw [tbb (.inr (.inr (.inr (.inr qb)))),h81,h86];simp only [aG,aN,cJ,Bool.and_false])
   refine .gG<|.gG<|.yw (.pickF Z Z)<|.az Z<|.bR<|.tR<|?_
   refine y9 Z Z λW s=>⟨?_,s.ext⟩
   (rw [tbb (.inr (.inr (.inr (.inr qb)))),h81,h86];simp only [aG,aN,cJ,Bool.and_false])
  refine .gG<|.gG<|.gG<|.yw (.pickF Z Z)<|.mv Z<|.gG<|.gG<|.yw (.pickF Z Z)<|.az Z<|.bR<|.tR<|?_
  refine y9 Z Z λW s=>⟨?_,s.ext⟩
  (rw [tbb (.inr (.inr (.inr (.inr qb)))),h81];simp only [aG,aN,cJ,Bool.and_false])
 have qb15:¬ op=15:=λe=>aO h72 (by rw [e];rfl);refine .sk<|.bN<|.tN<|.sr<|.az Z<|?_
 refine y9 Z Z λW s=>⟨?_,s.ext⟩
 (rw [tbn q1 q4 q585 q588 q6 q9 qb11 qb12 qb13 qb14 qb15])
theorem cM7 {op:UInt8} :decide ((16:Int)<=((op.toNat:Nat):Int))=decide (16<=op.toNat):=by rw [aX,aA,aA];omega
theorem cM4 {op:UInt8} :decide (((op.toNat:Nat):Int)<=21)=decide (op.toNat<=21):=by rw [aX,aA,aA];omega
theorem JJ {op:UInt8} {nm:Str} {n:Int64} {args:List Ex} :JK (.mk op nm n args)=(decide (16<=op.toNat) && decide (op.toNat<=21) && decide (nm=[]) && decide (n=0) && (args.all eL && decide (args.length=2))):=by rw [<-vT];rfl
theorem aO9 (H:Hp) (e:Ex) (cs:List Value) (w:World) (h:Rep H (dEx .u8 e) cs) (hA:Agr H w):Calls prg 80 #[.agg cs.toArray] w λr w'=>r=.returned (.bool (JK e))/\Ext w w':=by
 obtain ⟨op,nm,nn,args⟩:=e;obtain ⟨pp,c,rfl,hs,hnm⟩:=jB h;refine Sx.enter (H:=H) func80 rfl ntmps80 rfl hA ?_;refine .sr<|.bx Z Z Z λb1=>.a Z Z<|.ns<|.fA Z hU<|.lD Z kR Hm Z<|.yw (.cast (.geq Z Z) (congrArg Value.bool (cM7)))<|.mv Z<|.b2 (λh6=>?_) (λh6=>?_)
 ·refine .gy (.fieldAddr Z hU)<|.gy (.load Z kR Hm Z)<|.gy (.cast (.leq Z Z) (congrArg Value.bool (cM4)))<|.yw (.pickT Z Z)<|.mv Z<|.b2 (λh11=>?_) (λh11=>?_)
  ·refine .gy (.fieldAddr Z fZ)<|.gy (.load Z cP Hm Z)<|.gy (.eqS Z Z)<|.yw (.pickT Z Z)<|.mv Z<|.b2 (λh16=>?_) (λh16=>?_)
   ·refine .gy (.fieldAddr Z gQ)<|.gy (.load Z kM Hm Z)<|.gy (.cast (.eql Z Z) (congrArg Value.bool i0))<|.yw (.pickT Z Z)<|.mv Z<|.b2 (λh21=>?_) (λh21=>?_)
    ·refine .gy (.loadW Z dS Hm Z)<|.gy (.call rJ Z (λW s=>nF H op nm nn args 2 _ W h (λa _=>AM H a) s.agr))<|.yw (.pickT Z Z)<|.az Z<|?_
     refine y9 Z Z λW s=>⟨?_,s.ext⟩
     (rw [JJ,h6,h11,h16,h21];simp only [aG,aN,cJ,Bool.and_false])
    refine .gG<|.gG<|.yw (.pickF Z Z)<|.az Z<|?_
    refine y9 Z Z λW s=>⟨?_,s.ext⟩
    (rw [JJ,h6,h11,h16,h21];simp only [aG,aN,cJ,Bool.and_false])
   refine .gG<|.gG<|.gG<|.yw (.pickF Z Z)<|.mv Z<|.gG<|.gG<|.yw (.pickF Z Z)<|.az Z<|?_
   refine y9 Z Z λW s=>⟨?_,s.ext⟩
   (rw [JJ,h6,h11,h16];simp only [aG,aN,cJ,Bool.and_false])
  refine .gG<|.gG<|.gG<|.yw (.pickF Z Z)<|.mv Z<|.gG<|.gG<|.gG<|.yw (.pickF Z Z)<|.mv Z<|.gG<|.gG<|.yw (.pickF Z Z)<|.az Z<|?_
  refine y9 Z Z λW s=>⟨?_,s.ext⟩
  (rw [JJ,h6,h11];simp only [aG,aN,cJ,Bool.and_false])
 refine .gG<|.gG<|.gG<|.yw (.pickF Z Z)<|.mv Z<|.gG<|.gG<|.gG<|.yw (.pickF Z Z)<|.mv Z<|.gG<|.gG<|.gG<|.yw (.pickF Z Z)<|.mv Z<|.gG<|.gG<|.yw (.pickF Z Z)<|.az Z<|?_
 refine y9 Z Z λW s=>⟨?_,s.ext⟩
 (rw [JJ,h6];simp only [aG,aN,cJ,Bool.and_false])
def aJ2 (e:Ex):Bool:=!BX e && !eL e
variable {e:Ex}
theorem cC8:aJ2 e=(!BX e && !eL e):=rfl
theorem XQ (H:Hp) (e:Ex):EFn H 77 [] aJ2 e:=by
 intro cs w h hA;obtain ⟨op,nm,nn,args⟩:=e;obtain ⟨pp,c,rfl,hs,hnm⟩:=jB h;refine Sx.enter (H:=H) func77 rfl ntmps77 rfl hA ?_;refine .sr<|.bx Z Z Z λb1=>.a Z Z<|.ns<|.yw (.loadW Z dS Hm Z)<|.yw (.call aT1 Z (λW s=>aP0 H _ _ W h s.agr))<|.yw (.not Z)<|.mv Z<|.b2 (λh6=>?_) (λh6=>?_)
 ·refine .gy (.loadW Z dS Hm Z)<|.gy (.call DZ Z (λW s=>AM H _ _ W h s.agr))<|.gy (.not Z)<|.yw (.pickT Z Z)<|.az Z<|?_
  refine y9 Z Z λW s=>⟨?_,s.ext⟩
  (rw [cC8,h6,aG])
 refine .gG<|.gG<|.gG<|.yw (.pickF Z Z)<|.az Z<|?_
 refine y9 Z Z λW s=>⟨?_,s.ext⟩
 (rw [cC8,h6];rfl)
theorem gtn:decide (((k:Nat):Int)<((n:Nat):Int))=decide (k<n):=by rw [aX,aA,aA];omega
theorem HE (H:Hp) (e:Ex) (n b:Nat) (hd:e.depth<=1000000) (hm:kU H b 0 [iN n]):EFn H 72 [.pointer (some ⟨b,0,none⟩)] (λe=>decide (n<e.depth)) e:=by
 intro cs w h hA;obtain ⟨op,nm,nn,args⟩:=e;obtain ⟨pp,c,rfl,hs,hnm⟩:=jB h;refine Sx.enter (H:=H) func72 rfl ntmps72 rfl hA ?_;refine .sr<|.bx Z Z Z λb2=>.aq Z<|.sq<|.fL 4 [(0,0),(1,0),(2,0),(3,0)]<|.yw (.loadW Z dS Hm Z)<|.yw (.call RY Z (λW s=>PF _ H _ W h hd s.agr))<|.yw (.loadM Z bS hm (k:=0) Z Z)<|.yw (.cast (.gtr Z Z) (congrArg Value.bool gtn))<|.fn (tl:=[_]) Z<|.az Z<|?_
 exact y9 Z Z λW s=>⟨Z,s.ext⟩
theorem JL {n:Str} (h:(eA n).isSome=true):yU n=(fB (spA n) && fB (spB n)):=by
 unfold yU spA spB;cases hs:eA n with
 | some x=>rfl
 | none=>rw [hs] at h;cases h
theorem aC3 {n:Str} (h:(eA n).isSome=false):yU n=false:=by
 unfold yU;cases hs:eA n with
 | none=>rfl
 | some x=>rw [hs] at h;cases h
theorem KW (n:Str):(spA n).length<=n.length:=by
 unfold spA;rcases xJ n with ⟨i,_,hi,e⟩ | ⟨_,e⟩
 ·rw [e];show (n.take i).length<=_;rw [dV];omega
 ·rw [e];exact aP _
theorem KV (n:Str):(spB n).length<=n.length:=by
 unfold spB;rcases xJ n with ⟨i,_,hi,e⟩ | ⟨_,e⟩
 ·rw [e];show (n.drop (i+1)).length<=_;rw [cS];omega
 ·rw [e];exact aP _
theorem xR:∀ l,MX l=l.any rQ
 | []=>rfl
 | e::r=>by rw [MX,List.any_cons,xR r]
theorem cA8 {op:UInt8} {nm:Str} {n:Int64} {args:List Ex} (h:op=5):rQ (.mk op nm n args)=((!yU nm && !fB nm) || args.any rQ):=by subst h;rw [rQ,xR];simp
theorem bQ3 {op:UInt8} {nm:Str} {n:Int64} {args:List Ex} (h:op=6\/op=8):rQ (.mk op nm n args)=(!yU nm || args.any rQ):=by rcases h with rfl | rfl <;> (rw [rQ,xR];simp)
theorem cM3 {op:UInt8} {nm:Str} {n:Int64} {args:List Ex} (h:¬ op=5) (h6:¬ op=6) (h8:¬ op=8):rQ (.mk op nm n args)=args.any rQ:=by rw [rQ,xR,aI h,aI h6,aI h8];rfl
theorem UA (H:Hp) (G:Gl H) (e:Ex):EFn H 76 [] rQ e:=by
 induction e using Ex.ind with | _ op nm nn args ih
 intro cs w h hA;obtain ⟨pp,c,rfl,hs,hnm⟩:=jB h;have hA':Agr H w:=hA;refine Sx.enter (H:=H) func76 rfl ntmps76 rfl hA ?_;refine .sr<|.bx Z Z Z λb1=>.a Z Z<|.ns<|.fA Z fZ<|.lD Z cP Hm Z<|.yw (.call SI Z (λW s=>PY nm (by omega) W))<|.mv Z<|.yw (.extract Z Z)<|.yw (.extract Z Z)<|.yw (.extract Z Z)<|.a Z Z<|.a Z Z<|.aq Z<|.cu (X:=Bool) [(1,_)] ⟨Z,Jt⟩ (λz=>[(6,.bool z)]) (λz=>H) (λz=>[.box b1 [.int .u8 op.toNat,bV nm,.int .i64 nn.toInt,.slice pp args.length c] 76]) (λz=>z=yU nm) ?_ λz hC=>?_
 ·
  refine .rg<|.mv Z<|.mv Z<|.b2 (λh15=>?_) (λh15=>?_)
  ·refine .gy (.move Z)<|.gy (.call xE Z (λW s=>uV H G (spA nm) (by have:=KW nm;have:=KV nm;omega) W s.agr))<|.yw (.pickT Z Z)<|.mv Z<|.b2 (λh19=>?_) (λh19=>?_)
   ·exact .gy (.move Z)<|.gy (.call xE Z (λW s=>uV H G (spB nm) (by have:=KW nm;have:=KV nm;omega) W s.agr))<|.yw (.pickT Z Z)<|.aq Z<|.me _ ⟨Z,Jt⟩ ⟨Z,Jt⟩ (λ_ s=>s) (by first | (rw [JL h15,h19,aG]) | (rw [JL h15,h19];rfl) | (rw [aC3 h15]))
   exact .gG<|.gG<|.yw (.pickF Z Z)<|.aq Z<|.me _ ⟨Z,Jt⟩ ⟨Z,Jt⟩ (λ_ s=>s) (by first | (rw [JL h15,h19,aG]) | (rw [JL h15,h19];rfl) | (rw [aC3 h15]))
  exact .gG<|.gG<|.yw (.pickF Z Z)<|.mv Z<|.gG<|.gG<|.yw (.pickF Z Z)<|.aq Z<|.me _ ⟨Z,Jt⟩ ⟨Z,Jt⟩ (λ_ s=>s) (by first | (rw [JL h15,h19,aG]) | (rw [JL h15,h19];rfl) | (rw [aC3 h15]))
 have eb:=hC;refine .sq<|.sr<|.fA Z hU<|.lD Z kR Hm Z<|.nt<|.bk<|.sr<|.yw (.eql Z Z)<|.aq Z<|.cd Z (λh25=>?_) (λh25=>?_)
 ·have q5:op=5:=aR.1 (by have:=aJ h25;show op.toNat=5;omega);refine .sm Z<|.yw (.not Z)<|.mv Z<|.b2 (λh29=>?_) (λh29=>?_)
  ·refine .gy (.fieldAddr Z fZ)<|.gy (.load Z cP Hm Z)<|.gy (.call xE Z (λW s=>uV H G nm (by have:=KW nm;have:=KV nm;omega) W s.agr))<|.gy (.not Z)<|.yw (.pickT Z Z)<|.nt<|.cd Z (λh34=>?_) (λh34=>?_)
   ·refine .sr<|.az Z<|.bR<|.tR<|?_
    refine y9 Z Z λW s=>⟨?_,s.ext⟩
    (rw [cA8 q5,<-eb,h29,h34];rfl)
   refine .sk<|.bN<|.tN<|.sr<|.fA Z eI<|.lD Z dG Hm Z<|.yw (.call rY Z (λW s=>mC H 76 [] rQ args hs xD (λa ha=>ih a ha) W s.agr))<|.az Z<|?_
   refine y9 Z Z λW s=>⟨?_,s.ext⟩
   (rw [cA8 q5,<-eb,h29,h34];rfl)
  refine .gG<|.gG<|.gG<|.gG<|.yw (.pickF Z Z)<|.nt<|.cF Z<|.sk<|.bN<|.tN<|.sr<|.fA Z eI<|.lD Z dG Hm Z<|.yw (.call rY Z (λW s=>mC H 76 [] rQ args hs xD (λa ha=>ih a ha) W s.agr))<|.az Z<|?_
  refine y9 Z Z λW s=>⟨?_,s.ext⟩
  (rw [cA8 q5,<-eb,h29];rfl)
 have q5:¬ op=5:=λe=>aO h25 (by rw [e];rfl);refine .sq<|.sr<|.yw (.eql Z Z)<|.aq Z<|.cr Z (λh35=>?_) (λh35=>?_)
 ·have q68:op=6:=aR.1 (by have:=aJ h35;show op.toNat=6;omega);refine .sk<|.tN<|.cT Z<|.sm Z<|.yw (.not Z)<|.nt<|.cd Z (λh39=>?_) (λh39=>?_)
  ·refine .sr<|.az Z<|.bR<|.tR<|?_
   refine y9 Z Z λW s=>⟨?_,s.ext⟩
   (rw [bQ3 (.inl q68),<-eb,h39];rfl)
  refine .sk<|.bN<|.tN<|.sr<|.fA Z eI<|.lD Z dG Hm Z<|.yw (.call rY Z (λW s=>mC H 76 [] rQ args hs xD (λa ha=>ih a ha) W s.agr))<|.az Z<|?_
  refine y9 Z Z λW s=>⟨?_,s.ext⟩
  (rw [bQ3 (.inl q68),<-eb,h39];rfl)
 have q686:¬ op=6:=λe=>aO h35 (by rw [e];rfl);refine .rg<|.yw (.eql Z Z)<|.aq Z<|.cr Z (λh35=>?_) (λh35=>?_)
 ·have q68:op=8:=aR.1 (by have:=aJ h35;show op.toNat=8;omega);refine .sm Z<|.yw (.not Z)<|.nt<|.cd Z (λh39=>?_) (λh39=>?_)
  ·refine .sr<|.az Z<|.bR<|.tR<|?_
   refine y9 Z Z λW s=>⟨?_,s.ext⟩
   (rw [bQ3 (.inr q68),<-eb,h39];rfl)
  refine .sk<|.bN<|.tN<|.sr<|.fA Z eI<|.lD Z dG Hm Z<|.yw (.call rY Z (λW s=>mC H 76 [] rQ args hs xD (λa ha=>ih a ha) W s.agr))<|.az Z<|?_
  refine y9 Z Z λW s=>⟨?_,s.ext⟩
  (rw [bQ3 (.inr q68),<-eb,h39];rfl)
 have q688:¬ op=8:=λe=>aO h35 (by rw [e];rfl);refine .sk<|.bN<|.tN<|.sr<|.fA Z eI<|.lD Z dG Hm Z<|.yw (.call rY Z (λW s=>mC H 76 [] rQ args hs xD (λa ha=>ih a ha) W s.agr))<|.az Z<|?_
 refine y9 Z Z λW s=>⟨?_,s.ext⟩
 (rw [cM3 q5 q686 q688])
def FFn (H:Hp) (gf:FuncId) (q:Fm->Bool) (f:Fm):Prop:=∀ (cs:List Value) (W:World),Rep H (dFm .u8 f) cs->Agr H W->Calls prg gf #[.agg cs.toArray] W λr W'=>r=.returned (.bool (q f))/\Ext W W'
theorem aJ4 (q:Fm->Bool):∀ l,Fm.alls q l=l.all (Fm.all q)
 | []=>rfl
 | f::r=>by rw [Fm.alls,fE,aJ4 q r]
theorem UM (q:Fm->Bool) (op:UInt8) (nm fd:Str) (a b:Int64) (ex:List Ex) (args:List Fm):Fm.all q (.mk op nm fd a b ex args)=(q (.mk op nm fd a b ex args) && args.all (Fm.all q)):=by rw [Fm.all,aJ4]
theorem DQ {l:List Fm} {p:Fm->Bool} (hk:k<l.length) (h:(l.take k).all p=true) (hp:p l[k]=true):(l.take (k+1)).all p=true:=by
 rw [List.take_succ,List.all_append,h,List.getElem?_eq_getElem hk];simp [hp]
theorem BE {l:List Fm} {p:Fm->Bool} (hk:k<l.length) (hp:p l[k]=false):l.all p=false:=List.all_eq_false.2 ⟨_,bI hk,by rw [hp];decide⟩
theorem JH (H:Hp) (gf:FuncId) (q p:Fm->Bool) (hf:cV prg gf=true) (hg:∀ f,p f=true->FFn H gf q f) (f:Fm):f.all p=true->∀ (cs:List Value) (w:World),Rep H (dFm .u8 f) cs->Agr H w ->
 Calls prg 35 #[.agg cs.toArray,.func (.func gf) #[] #[]] w λr w'=>r=.returned (.bool (f.all q))/\Ext w w':=by
 induction f using Fm.ind with | _ op nm fd a b ex args ih
 intro hp cs w h hA;rw [UM,aC] at hp;obtain ⟨p1,c1,p2,c2,rfl,hs1,hs2,hnm,hfd⟩:=gZ h;have hcap:=hs2.cap;refine Sx.enter (H:=H) func35 rfl ntmps35 rfl hA ?_;refine .sr<|.bx Z Z Z λb2=>.aq Z<|.sq<|.sm Z<|.yw (.loadW Z cL Hm Z)<|.yw (.callV (fi:=[]) (ca:=[]) Z hf Z (λW s=>hg _ hp.1 _ W h s.agr))<|.yw (.not Z)<|.nt<|.cd Z (λh10=>?_) (λh10=>?_)
 ·refine .sr<|.az Z<|.tR<|?_
  refine y9 Z Z λW s=>⟨?_,s.ext⟩
  (rw [UM,show q (.mk op nm fd a b ex args)=false by simpa using h10];rfl)
 refine .sk<|.tN<|.sq<|.sr<|.fA Z dF<|.lD Z fY Hm Z<|.yw (.lenSl eY Z)<|.mv Z<|.nt<|.bk<|.lp (X:=Nat) [(1,_),(12,_),(13,_)] ⟨Z,Z,Z,Jt⟩ [_] (λk=>[(14,iN k)]) (λk=>H) (λk=>[]) (λk=>k<=args.length/\(args.take k).all (Fm.all q)=true) (λk=>args.length - k) 0 (λ_ s=>s) ⟨Z,Jt⟩ ⟨aP _,Z⟩ λk hC=>?_
 obtain ⟨hk0,hal⟩:=hC;refine .sr<|.yw (.lss Z Z)<|.nt<|.sq<|.ce Z (λh15=>?_) (λh15=>?_)
 ·have hk:k<args.length:=by omega
  obtain ⟨bE,oE,cE,hpE,rE,lE,mE⟩:=hs2.elem (iL (f:=dFm .u8) hk);cases hpE;have hpk:=bC.1 hp.2 _ (bI hk);refine .sk<|.tN<|.sq<|.bk<|.sr<|.yw (.indexSl eY Z Z Z (by omega) (q:=oE+k * 7) Z)<|.yw (.loadMW Z cL mE lE)<|.al eS Z λb6=>.sV .head Z Z dC lE rE.one Z<|.ns<|.yw (.loadW Z cL Hm lE)<|.mv Z<|.yw (.call EC Z (λW s=>ih _ (bI hk) hpk cE W rE s.agr))<|.yw (.not Z)<|.nt<|.cd Z (λh21=>?_) (λh21=>?_)
  ·refine .sr<|.az Z<|.bR<|.tR<|.tR<|.bR<|.tR<|?_
   refine y9 Z Z λW s=>⟨?_,s.ext⟩
   (rw [UM,BE hk (by simpa using h21)];simp)
  exact .sk<|.bN<|.tN<|.rg<|.yw (.add Z Z w7)<|.mv Z<|.nt<|.ag (k+1) ⟨Z,Jt⟩ ⟨Z,Z,Z,Jt⟩ (λ_ s=>s.pick [1] [_] Z Z) ⟨by omega,DQ hk hal (by simpa using h21)⟩ (by omega)
 obtain rfl:k=args.length:=by omega
 rw [aY] at hal;refine .ex<|.eb<|.sr<|.az Z<|?_
 refine y9 Z Z λW s=>⟨?_,s.ext⟩
 (rw [UM,hal,show q (.mk op nm fd a b ex args)=true by simpa using h10];rfl)
theorem WE (H:Hp) (f:Fm) (hd:(λf:Fm=>f.ex.all λe=>decide (e.depth<=1000000)) f=true):FFn H 36 oL f:=by
 intro cs w h hA;obtain ⟨op,nm,fd,a,b,ex,args⟩:=f;obtain ⟨p1,c1,p2,c2,rfl,hs1,hs2,hnm,hfd⟩:=gZ h;refine Sx.enter (H:=H) func36 rfl ntmps36 rfl hA ?_;refine .sr<|.bx Z Z Z λb1=>.a Z Z<|.ns<|.al bK9 Z λb3=>.st .head Z Z iG Z (nb Z) Z<|.nt<|.sq<|.sr<|.fA Z eP<|.lD Z iT cR Z<|.yw (.eql Z Z)<|.nt<|.cd Z (λh6=>?_) (λh6=>?_)
 ·have q3:op=3:=aR.1 (by have:=aJ h6;show op.toNat=3;omega);refine .rg<|.lD Z bS Hm Z<|.yw (.add Z Z (c:=((9:Nat):Int)) (by decide))<|.st .head Z Z iG Z (nb Z) Z<|.nt<|.sq<|?_
  refine rR λH1 u1 m1=>?_;refine .rg<|.fA Z cQ<|.lD Z dG Hm Z<|.yw (.mkF Z Z)<|.yw (.call rY Z (λW s=>mC H1 72 [.pointer (some ⟨b3,0,none⟩)] (λe=>decide (9<e.depth)) ex (hs1.up u1.up) RZ (λa ha=>HE H1 a 9 b3 (by have:=bC.1 hd a ha;exact aJ this) m1) W s.agr))<|.yw (.not Z)<|.az Z<|?_
  refine y9 Z Z λW s=>⟨?_,s.ext⟩
  (unfold oL;rw [show (Fm.mk op nm fd a b ex args).op=3 from q3];rfl)
 have q3:¬ op=3:=λe=>aO h6 (by rw [e];rfl);refine .sk<|.tN<|.sq<|?_
 refine rR λH1 u1 m1=>?_;refine .rg<|.fA Z cQ<|.lD Z dG Hm Z<|.yw (.mkF Z Z)<|.yw (.call rY Z (λW s=>mC H1 72 [.pointer (some ⟨b3,0,none⟩)] (λe=>decide (8<e.depth)) ex (hs1.up u1.up) RZ (λa ha=>HE H1 a 8 b3 (by have:=bC.1 hd a ha;exact aJ this) m1) W s.agr))<|.yw (.not Z)<|.az Z<|?_
 refine y9 Z Z λW s=>⟨?_,s.ext⟩
 (unfold oL;simp only [show ¬ (Fm.mk op nm fd a b ex args).op=3 from q3,aS];rfl)
variable {a:Int64}
theorem aA4 {op:UInt8} {nm fd:Str} {b:Int64} {ex:List Ex} {args:List Fm} :xQ (.mk op nm fd a b ex args)=(!((dD op).nm && !fB nm || (dD op).fd && !fB fd) && !ex.any rQ):=by rw [<-xR];rfl
theorem aO4 (H:Hp) (G:Gl H) (Gt:Gf H) (f:Fm):FFn H 37 xQ f:=by
 intro cs w h hA;obtain ⟨op,nm,fd,a,b,ex,args⟩:=f;obtain ⟨p1,c1,p2,c2,rfl,hs1,hs2,hnm,hfd⟩:=gZ h;refine Sx.enter (H:=H) func37 rfl ntmps37 rfl hA ?_;refine .sr<|.bx Z Z Z λb1=>.a Z Z<|.ns<|.fA Z eP<|.lD Z iT Hm Z<|.yw (.call (v:=.agg (fsC (dD op)).toArray) rW Z (λW s=>pI H Gt op W s.agr))<|.al FV Z λb3=>.sW .head Z Z BF (by simp [fsC,Value.oneCell',bV]) Z<|.nt<|.sq<|.cu (X:=Bool) [(1,_)] ⟨Z,Jt⟩ (λz=>[(24,.bool z)]) (λz=>H) (λz=>[.box b3 (fsC (dD op)) 157,.box b1 [.int .u8 op.toNat,bV nm,bV fd,.int .i64 a.toInt,.int .i64 b.toInt,.slice p1 ex.length c1,.slice p2 args.length c2] 35]) (λz=>z=((dD op).nm && !fB nm || (dD op).fd && !fB fd)) ?_ λz hC=>?_
 ·
  refine .rg<|.fA Z EX<|.lD Z kB Hm Z<|.mv Z<|.b2 (λh9=>?_) (λh9=>?_)
  ·refine .gy (.fieldAddr Z gC)<|.gy (.load Z cP cR Z)<|.gy (.call xE Z (λW s=>uV H G nm (by omega) W s.agr))<|.gy (.not Z)<|.yw (.pickT Z Z)<|.mv Z<|.b2 (λh15=>?_) (λh15=>?_)
   ·exact .gG<|.gG<|.gG<|.gV<|.gV<|.gV<|.gV<|.gG<|.yw (.pickT Z Z)<|.nt<|.me _ ⟨Z,Jt⟩ ⟨Z,Jt⟩ (λ_ s=>s) (by first | simp only [h9,h15,h18,aG,aN,Bool.true_or,aL] | simp only [h9,h15,aG,aN,Bool.true_or,aL] | simp only [h9,h18,aG,aN,Bool.true_or,aL])
   refine .gy (.fieldAddr Z vR)<|.gy (.load Z kB Hm Z)<|.gy (.move Z)<|.b2 (λh18=>?_) (λh18=>?_)
   ·exact .gy (.fieldAddr Z gA)<|.gy (.load Z cP cR Z)<|.gy (.call xE Z (λW s=>uV H G fd (by omega) W s.agr))<|.gy (.not Z)<|.gy (.pickT Z Z)<|.yw (.pickF Z Z)<|.nt<|.me _ ⟨Z,Jt⟩ ⟨Z,Jt⟩ (λ_ s=>s) (by first | simp only [h9,h15,h18,aG,aN,Bool.true_or,aL] | simp only [h9,h15,aG,aN,Bool.true_or,aL] | simp only [h9,h18,aG,aN,Bool.true_or,aL])
   exact .gG<|.gG<|.gG<|.gG<|.gy (.pickF Z Z)<|.yw (.pickF Z Z)<|.nt<|.me _ ⟨Z,Jt⟩ ⟨Z,Jt⟩ (λ_ s=>s) (by first | simp only [h9,h15,h18,aG,aN,Bool.true_or,aL] | simp only [h9,h15,aG,aN,Bool.true_or,aL] | simp only [h9,h18,aG,aN,Bool.true_or,aL])
  refine .gG<|.gG<|.gG<|.gG<|.yw (.pickF Z Z)<|.mv Z<|.gy (.fieldAddr Z vR)<|.gy (.load Z kB Hm Z)<|.gy (.move Z)<|.b2 (λh18=>?_) (λh18=>?_)
  ·exact .gy (.fieldAddr Z gA)<|.gy (.load Z cP cR Z)<|.gy (.call xE Z (λW s=>uV H G fd (by omega) W s.agr))<|.gy (.not Z)<|.gy (.pickT Z Z)<|.yw (.pickF Z Z)<|.nt<|.me _ ⟨Z,Jt⟩ ⟨Z,Jt⟩ (λ_ s=>s) (by first | simp only [h9,h15,h18,aG,aN,Bool.true_or,aL] | simp only [h9,h15,aG,aN,Bool.true_or,aL] | simp only [h9,h18,aG,aN,Bool.true_or,aL])
  exact .gG<|.gG<|.gG<|.gG<|.gy (.pickF Z Z)<|.yw (.pickF Z Z)<|.nt<|.me _ ⟨Z,Jt⟩ ⟨Z,Jt⟩ (λ_ s=>s) (by first | simp only [h9,h15,h18,aG,aN,Bool.true_or,aL] | simp only [h9,h15,aG,aN,Bool.true_or,aL] | simp only [h9,h18,aG,aN,Bool.true_or,aL])
 have en:=hC;refine .cd Z (λh24=>?_) (λh24=>?_)
 ·refine .sr<|.az Z<|.tR<|?_
  refine y9 Z Z λW s=>⟨?_,s.ext⟩
  (rw [aA4,<-en,h24];rfl)
 refine .sk<|.tN<|.sr<|.fA Z cQ<|.lD Z dG cR Z<|.yw (.call rY Z (λW s=>mC H 76 [] rQ ex hs1 xD (λa _=>UA H G a) W s.agr))<|.yw (.not Z)<|.az Z<|?_
 refine y9 Z Z λW s=>⟨?_,s.ext⟩
 (rw [aA4,<-en,h24];rfl)
theorem CQ (op:UInt8):(dD op).ar<=2/\(dD op).ex<=1:=qX (q:=λop=>(dD op).ar<=2/\(dD op).ex<=1) (by decide +kernel) op
theorem nn0:decide (¬ ((n:Nat):Int)=((k:Nat):Int))=!decide (n=k):=by rw [<-n0,decide_not]
theorem le4:decide (((n:Nat):Int)<=4)=decide (n<=4):=by rw [aX,aA,aA];omega
theorem LJ {op:UInt8} {nm fd:Str} {b:Int64} {ex:List Ex} {args:List Fm} :kV (.mk op nm fd a b ex args)=(decide (¬ (dD op).lv=0) && ((dD op).nm || decide (nm=[])) && ((dD op).fd || decide (fd=[])) && decide (args.length=(dD op).ar) && CY (.mk op nm fd a b ex args) && uW (.mk op nm fd a b ex args)):=rfl
theorem bF8 {op:UInt8} {nm fd:Str} {b:Int64} {ex:List Ex} {args:List Fm} (h:(decide ((dD op).lv=0) || (!(dD op).nm && !decide (nm=[])) || (!(dD op).fd && !decide (fd=[])) || !decide (args.length=(dD op).ar))=true):kV (.mk op nm fd a b ex args)=false:=by
 rw [LJ,decide_not];generalize decide ((dD op).lv=0)=x1 at *;generalize (dD op).nm=x2 at *;generalize decide (nm=[])=x3 at *;generalize (dD op).fd=x4 at *;generalize decide (fd=[])=x5 at *;generalize decide (args.length=(dD op).ar)=x6 at *;generalize CY (.mk op nm fd a b ex args)=x7;generalize uW (.mk op nm fd a b ex args)=x8
 revert h
 cases x1 <;> cases x2 <;> cases x3 <;> cases x4 <;> cases x5 <;> cases x6 <;> simp
theorem NL {op:UInt8} {nm fd:Str} {b:Int64} {ex:List Ex} {args:List Fm} (h:CY (.mk op nm fd a b ex args)=false):kV (.mk op nm fd a b ex args)=false:=by rw [LJ,h,Bool.and_false,aN]
theorem wS {op:UInt8} {nm fd:Str} {b:Int64} {ex:List Ex} {args:List Fm} (h:(decide ((dD op).lv=0) || (!(dD op).nm && !decide (nm=[])) || (!(dD op).fd && !decide (fd=[])) || !decide (args.length=(dD op).ar))=false) (hb:CY (.mk op nm fd a b ex args)=true):kV (.mk op nm fd a b ex args)=uW (.mk op nm fd a b ex args):=by
 rw [LJ,decide_not,hb];generalize decide ((dD op).lv=0)=x1 at *;generalize (dD op).nm=x2 at *;generalize decide (nm=[])=x3 at *;generalize (dD op).fd=x4 at *;generalize decide (fd=[])=x5 at *;generalize decide (args.length=(dD op).ar)=x6 at *
 revert h
 cases x1 <;> cases x2 <;> cases x3 <;> cases x4 <;> cases x5 <;> cases x6 <;> simp
theorem cD9 {n:Int64} :(n=0)=(n.toInt=0):=by have:=@i0 n;rw [aX,aA,aA] at this;exact propext this.symm
theorem CX {op:UInt8} {nm fd:Str} {b:Int64} {ex:List Ex} {args:List Fm} (h:(dD op).wn=true):CY (.mk op nm fd a b ex args)=decide ((a.toInt=0/\b.toInt=-1)\/(0<=a.toInt/\a.toInt<=b.toInt/\b.toInt<=200)):=by
 unfold CY;rw [aM (show (dD (Fm.mk op nm fd a b ex args).op).wn=true from h),aX];show ((decide (a=0) && decide (b.toInt=-1)) || (decide (0<=a.toInt) && decide (a.toInt<=b.toInt) && decide (b.toInt<=200)))=true↔_;rw [aT,aC,aC,aC,aA,aA,aA,aA,aA,aA,cD9];omega
theorem KN {op:UInt8} {nm fd:Str} {b:Int64} {ex:List Ex} {args:List Fm} (h:(dD op).wn=false) (h2:(dD op).am=true):CY (.mk op nm fd a b ex args)=decide (-1000000<=a.toInt/\a.toInt<=b.toInt/\b.toInt<=1000000/\b.toInt - a.toInt<32):=by
 unfold CY;rw [aD (show ¬ (dD (Fm.mk op nm fd a b ex args).op).wn=true by show ¬ (dD op).wn=true;rw [h];decide),aM (show (dD (Fm.mk op nm fd a b ex args).op).am=true from h2),aX];show (decide (-1000000<=a.toInt) && decide (a.toInt<=b.toInt) && decide (b.toInt<=1000000) && decide (b.toInt - a.toInt<32))=true↔_;rw [aC,aC,aC,aA,aA,aA,aA,aA];omega
theorem RJ {op:UInt8} {nm fd:Str} {b:Int64} {ex:List Ex} {args:List Fm} (h:(dD op).wn=false) (h2:(dD op).am=false):CY (.mk op nm fd a b ex args)=decide (a.toInt=0/\b.toInt=0):=by
 unfold CY;rw [aD (show ¬ (dD (Fm.mk op nm fd a b ex args).op).wn=true by show ¬ (dD op).wn=true;rw [h];decide),aD (show ¬ (dD (Fm.mk op nm fd a b ex args).op).am=true by show ¬ (dD op).am=true;rw [h2];decide),aX];show (decide (a=0) && decide (b=0))=true↔_;rw [aC,aA,aA,aA,cD9,cD9]
theorem bV1 {l:List Ex} :(!l.any aJ2)=l.all λe=>BX e || eL e:=by
 induction l with
 | nil=>rfl
 | cons e r ih=>rw [List.any_cons,fE,<-ih,cC8];cases BX e <;> cases eL e <;> simp
theorem bU0 {op:UInt8} {nm fd:Str} {b:Int64} {ex:List Ex} {args:List Fm} (h:op=7):uW (.mk op nm fd a b ex args)=(decide (ex.length<=4) && ex.all λe=>BX e || eL e):=by unfold uW;rw [aM (show (Fm.mk op nm fd a b ex args).op=7 from h)];rfl
theorem aQ1 {op:UInt8} {nm fd:Str} {b:Int64} {ex:List Ex} {args:List Fm} (h:¬ op=7):uW (.mk op nm fd a b ex args)=(decide (ex.length=(dD op).ex) && (if op=3 then JK (ex.headD (.mk 0 [] 0 [])) else if op=5 then eL (ex.headD (.mk 0 [] 0 [])) else if op=18 then decide ((ex.headD (.mk 0 [] 0 [])).op=1) && eL (ex.headD (.mk 0 [] 0 [])) && decide ((ex.headD (.mk 0 [] 0 [])).n.toInt<=32) else true)):=by unfold uW;rw [aD (show ¬ (Fm.mk op nm fd a b ex args).op=7 from h)];rfl
theorem bT9 {op:UInt8} {nm fd:Str} {b:Int64} {ex:List Ex} {args:List Fm} (h:¬ op=7) (h2:¬ ex.length=(dD op).ex):uW (.mk op nm fd a b ex args)=false:=by rw [aQ1 h,aI h2];rfl
theorem cN2 {op:UInt8} {nm fd:Str} {b:Int64} {ex:List Ex} {args:List Fm} (h:¬ op=7) (h2:ex.length=(dD op).ex) (h3:¬ op=3) (h5:¬ op=5) (h18:¬ op=18):uW (.mk op nm fd a b ex args)=true:=by rw [aQ1 h,aF h2,aD h3,aD h5,aD h18];rfl
theorem YC {op:UInt8} {nm fd:Str} {b:Int64} {args:List Fm} {e0:Ex} (h:op=3):uW (.mk op nm fd a b [e0] args)=JK e0:=by subst h;rw [aQ1 (by decide),aM rfl];rfl
theorem cJ6 {op:UInt8} {nm fd:Str} {b:Int64} {args:List Fm} {e0:Ex} (h:op=5):uW (.mk op nm fd a b [e0] args)=eL e0:=by subst h;rw [aQ1 (by decide),aD (by decide),aM rfl];rfl
theorem RB {op:UInt8} {nm fd:Str} {b:Int64} {args:List Fm} {op0:UInt8} {nm0:Str} {m0:Int64} {eG:List Ex} (h:op=18):uW (.mk op nm fd a b [.mk op0 nm0 m0 eG] args)=(decide (((op0.toNat:Nat):Int)=1) && eL (.mk op0 nm0 m0 eG) && decide (m0.toInt<=32)):=by subst h;rw [aQ1 (by decide),aD (by decide),aD (by decide),aM rfl,k81];rfl
set_option maxHeartbeats 2000000 in
theorem aA8 (H:Hp) (Gt:Gf H) (f:Fm):FFn H 38 kV f:=by
 intro cs w h hA;obtain ⟨op,nm,fd,a,b,ex,args⟩:=f;obtain ⟨p1,c1,p2,c2,rfl,hs1,hs2,hnm,hfd⟩:=gZ h;have hcap:=hs1.cap;have hcap2:=hs2.cap;refine Sx.enter (H:=H) func38 rfl ntmps38 rfl hA ?_;refine .sr<|.bx Z Z Z λb1=>.a Z Z<|.ns<|.fA Z eP<|.lD Z iT Hm Z<|.yw (.call (v:=.agg (fsC (dD op)).toArray) rW Z (λW s=>pI H Gt op W s.agr))<|.al FV Z λb3=>.sW .head Z Z BF (by simp [fsC,Value.oneCell',bV]) Z<|.nt<|.sq<|.cu (X:=Bool) [(1,_),(3,_)] ⟨Z,Z,Jt⟩ (λz=>[(38,.bool z)]) (λz=>H) (λz=>[.box b3 (fsC (dD op)) 157,.box b1 [.int .u8 op.toNat,bV nm,bV fd,.int .i64 a.toInt,.int .i64 b.toInt,.slice p1 ex.length c1,.slice p2 args.length c2] 35]) (λz=>z=(decide ((dD op).lv=0) || (!(dD op).nm && !decide (nm=[])) || (!(dD op).fd && !decide (fd=[])) || !decide (args.length=(dD op).ar))) ?_ λz hC=>?_
 ·
  refine .rg<|.fA Z PL<|.lD Z ED Hm Z<|.yw (.cast (.eql Z Z) (congrArg Value.bool er0))<|.mv Z<|.b2 (λh10=>?_) (λh10=>?_)
  ·exact .gG<|.gG<|.gG<|.gG<|.gV<|.gV<|.gV<|.gG<|.yw (.pickT Z Z)<|.mv Z<|.gG<|.gG<|.gG<|.gG<|.gV<|.gV<|.gV<|.gG<|.yw (.pickT Z Z)<|.mv Z<|.gG<|.gG<|.gG<|.gG<|.gG<|.gG<|.gG<|.yw (.pickT Z Z)<|.nt<|.me _ ⟨Z,Jt⟩ ⟨Z,Z,Jt⟩ (λ_ s=>s) (by first | (simp only [h10,h14,h20,h24,h30,aG,aN,Bool.true_or,aL,Bool.or_false,Bool.or_true];done) | (simp only [h10,h14,h20,h24,aG,aN,Bool.true_or,aL,Bool.or_false,Bool.or_true];done) | (simp only [h10,h14,h24,h30,aG,aN,Bool.true_or,aL,Bool.or_false,Bool.or_true];done) | (simp only [h10,h14,h24,aG,aN,Bool.true_or,aL,Bool.or_false,Bool.or_true];done) | (simp only [h10,h14,h20,aG,aN,Bool.true_or,aL,Bool.or_false,Bool.or_true];done) | (simp only [h10,aG,aN,Bool.true_or,aL,Bool.or_false,Bool.or_true];done) )
  refine .gy (.fieldAddr Z EX)<|.gy (.load Z kB Hm Z)<|.gy (.not Z)<|.gy (.move Z)<|.b2 (λh14=>?_) (λh14=>?_)
  ·refine .gy (.fieldAddr Z gC)<|.gy (.load Z cP cR Z)<|.gy (.cast (.neS Z Z) (congrArg Value.bool decide_not))<|.gy (.pickT Z Z)<|.yw (.pickF Z Z)<|.mv Z<|.b2 (λh20=>?_) (λh20=>?_)
   ·exact .gG<|.gG<|.gG<|.gG<|.gV<|.gV<|.gV<|.gG<|.yw (.pickT Z Z)<|.mv Z<|.gG<|.gG<|.gG<|.gG<|.gG<|.gG<|.gG<|.yw (.pickT Z Z)<|.nt<|.me _ ⟨Z,Jt⟩ ⟨Z,Z,Jt⟩ (λ_ s=>s) (by first | (simp only [h10,h14,h20,h24,h30,aG,aN,Bool.true_or,aL,Bool.or_false,Bool.or_true];done) | (simp only [h10,h14,h20,h24,aG,aN,Bool.true_or,aL,Bool.or_false,Bool.or_true];done) | (simp only [h10,h14,h24,h30,aG,aN,Bool.true_or,aL,Bool.or_false,Bool.or_true];done) | (simp only [h10,h14,h24,aG,aN,Bool.true_or,aL,Bool.or_false,Bool.or_true];done) | (simp only [h10,h14,h20,aG,aN,Bool.true_or,aL,Bool.or_false,Bool.or_true];done) | (simp only [h10,aG,aN,Bool.true_or,aL,Bool.or_false,Bool.or_true];done) )
   refine .gy (.fieldAddr Z vR)<|.gy (.load Z kB Hm Z)<|.gy (.not Z)<|.gy (.move Z)<|.b2 (λh24=>?_) (λh24=>?_)
   ·refine .gy (.fieldAddr Z gA)<|.gy (.load Z cP cR Z)<|.gy (.cast (.neS Z Z) (congrArg Value.bool decide_not))<|.gy (.pickT Z Z)<|.yw (.pickF Z Z)<|.mv Z<|.b2 (λh30=>?_) (λh30=>?_)
    ·exact .gG<|.gG<|.gG<|.gG<|.gG<|.gG<|.gG<|.yw (.pickT Z Z)<|.nt<|.me _ ⟨Z,Jt⟩ ⟨Z,Z,Jt⟩ (λ_ s=>s) (by first | (simp only [h10,h14,h20,h24,h30,aG,aN,Bool.true_or,aL,Bool.or_false,Bool.or_true];done) | (simp only [h10,h14,h20,h24,aG,aN,Bool.true_or,aL,Bool.or_false,Bool.or_true];done) | (simp only [h10,h14,h24,h30,aG,aN,Bool.true_or,aL,Bool.or_false,Bool.or_true];done) | (simp only [h10,h14,h24,aG,aN,Bool.true_or,aL,Bool.or_false,Bool.or_true];done) | (simp only [h10,h14,h20,aG,aN,Bool.true_or,aL,Bool.or_false,Bool.or_true];done) | (simp only [h10,aG,aN,Bool.true_or,aL,Bool.or_false,Bool.or_true];done) )
    exact .gy (.fieldAddr Z dF)<|.gy (.load Z fY cR Z)<|.gy (.lenSl eY Z)<|.gy (.fieldAddr Z vQ)<|.gy (.load Z ED Hm Z)<|.gy (.conv Z rT rU (c:=(((dD op).ar:Nat):Int)) (w64 (by omega) (by have:=CQ op;omega)))<|.gy (.cast (.neq Z Z) (congrArg Value.bool nn0))<|.yw (.pickF Z Z)<|.nt<|.me _ ⟨Z,Jt⟩ ⟨Z,Z,Jt⟩ (λ_ s=>s) (by first | (simp only [h10,h14,h20,h24,h30,aG,aN,Bool.true_or,aL,Bool.or_false,Bool.or_true];done) | (simp only [h10,h14,h20,h24,aG,aN,Bool.true_or,aL,Bool.or_false,Bool.or_true];done) | (simp only [h10,h14,h24,h30,aG,aN,Bool.true_or,aL,Bool.or_false,Bool.or_true];done) | (simp only [h10,h14,h24,aG,aN,Bool.true_or,aL,Bool.or_false,Bool.or_true];done) | (simp only [h10,h14,h20,aG,aN,Bool.true_or,aL,Bool.or_false,Bool.or_true];done) | (simp only [h10,aG,aN,Bool.true_or,aL,Bool.or_false,Bool.or_true];done) )
   exact .gG<|.gG<|.gG<|.gy (.pickF Z Z)<|.yw (.pickF Z Z)<|.mv Z<|.gy (.fieldAddr Z dF)<|.gy (.load Z fY cR Z)<|.gy (.lenSl eY Z)<|.gy (.fieldAddr Z vQ)<|.gy (.load Z ED Hm Z)<|.gy (.conv Z rT rU (c:=(((dD op).ar:Nat):Int)) (w64 (by omega) (by have:=CQ op;omega)))<|.gy (.cast (.neq Z Z) (congrArg Value.bool nn0))<|.yw (.pickF Z Z)<|.nt<|.me _ ⟨Z,Jt⟩ ⟨Z,Z,Jt⟩ (λ_ s=>s) (by first | (simp only [h10,h14,h20,h24,h30,aG,aN,Bool.true_or,aL,Bool.or_false,Bool.or_true];done) | (simp only [h10,h14,h20,h24,aG,aN,Bool.true_or,aL,Bool.or_false,Bool.or_true];done) | (simp only [h10,h14,h24,h30,aG,aN,Bool.true_or,aL,Bool.or_false,Bool.or_true];done) | (simp only [h10,h14,h24,aG,aN,Bool.true_or,aL,Bool.or_false,Bool.or_true];done) | (simp only [h10,h14,h20,aG,aN,Bool.true_or,aL,Bool.or_false,Bool.or_true];done) | (simp only [h10,aG,aN,Bool.true_or,aL,Bool.or_false,Bool.or_true];done) )
  refine .gG<|.gG<|.gG<|.gy (.pickF Z Z)<|.yw (.pickF Z Z)<|.mv Z<|.gy (.fieldAddr Z vR)<|.gy (.load Z kB Hm Z)<|.gy (.not Z)<|.gy (.move Z)<|.b2 (λh24=>?_) (λh24=>?_)
  ·refine .gy (.fieldAddr Z gA)<|.gy (.load Z cP cR Z)<|.gy (.cast (.neS Z Z) (congrArg Value.bool decide_not))<|.gy (.pickT Z Z)<|.yw (.pickF Z Z)<|.mv Z<|.b2 (λh30=>?_) (λh30=>?_)
   ·exact .gG<|.gG<|.gG<|.gG<|.gG<|.gG<|.gG<|.yw (.pickT Z Z)<|.nt<|.me _ ⟨Z,Jt⟩ ⟨Z,Z,Jt⟩ (λ_ s=>s) (by first | (simp only [h10,h14,h20,h24,h30,aG,aN,Bool.true_or,aL,Bool.or_false,Bool.or_true];done) | (simp only [h10,h14,h20,h24,aG,aN,Bool.true_or,aL,Bool.or_false,Bool.or_true];done) | (simp only [h10,h14,h24,h30,aG,aN,Bool.true_or,aL,Bool.or_false,Bool.or_true];done) | (simp only [h10,h14,h24,aG,aN,Bool.true_or,aL,Bool.or_false,Bool.or_true];done) | (simp only [h10,h14,h20,aG,aN,Bool.true_or,aL,Bool.or_false,Bool.or_true];done) | (simp only [h10,aG,aN,Bool.true_or,aL,Bool.or_false,Bool.or_true];done) )
   exact .gy (.fieldAddr Z dF)<|.gy (.load Z fY cR Z)<|.gy (.lenSl eY Z)<|.gy (.fieldAddr Z vQ)<|.gy (.load Z ED Hm Z)<|.gy (.conv Z rT rU (c:=(((dD op).ar:Nat):Int)) (w64 (by omega) (by have:=CQ op;omega)))<|.gy (.cast (.neq Z Z) (congrArg Value.bool nn0))<|.yw (.pickF Z Z)<|.nt<|.me _ ⟨Z,Jt⟩ ⟨Z,Z,Jt⟩ (λ_ s=>s) (by first | (simp only [h10,h14,h20,h24,h30,aG,aN,Bool.true_or,aL,Bool.or_false,Bool.or_true];done) | (simp only [h10,h14,h20,h24,aG,aN,Bool.true_or,aL,Bool.or_false,Bool.or_true];done) | (simp only [h10,h14,h24,h30,aG,aN,Bool.true_or,aL,Bool.or_false,Bool.or_true];done) | (simp only [h10,h14,h24,aG,aN,Bool.true_or,aL,Bool.or_false,Bool.or_true];done) | (simp only [h10,h14,h20,aG,aN,Bool.true_or,aL,Bool.or_false,Bool.or_true];done) | (simp only [h10,aG,aN,Bool.true_or,aL,Bool.or_false,Bool.or_true];done) )
  exact .gG<|.gG<|.gG<|.gy (.pickF Z Z)<|.yw (.pickF Z Z)<|.mv Z<|.gy (.fieldAddr Z dF)<|.gy (.load Z fY cR Z)<|.gy (.lenSl eY Z)<|.gy (.fieldAddr Z vQ)<|.gy (.load Z ED Hm Z)<|.gy (.conv Z rT rU (c:=(((dD op).ar:Nat):Int)) (w64 (by omega) (by have:=CQ op;omega)))<|.gy (.cast (.neq Z Z) (congrArg Value.bool nn0))<|.yw (.pickF Z Z)<|.nt<|.me _ ⟨Z,Jt⟩ ⟨Z,Z,Jt⟩ (λ_ s=>s) (by first | (simp only [h10,h14,h20,h24,h30,aG,aN,Bool.true_or,aL,Bool.or_false,Bool.or_true];done) | (simp only [h10,h14,h20,h24,aG,aN,Bool.true_or,aL,Bool.or_false,Bool.or_true];done) | (simp only [h10,h14,h24,h30,aG,aN,Bool.true_or,aL,Bool.or_false,Bool.or_true];done) | (simp only [h10,h14,h24,aG,aN,Bool.true_or,aL,Bool.or_false,Bool.or_true];done) | (simp only [h10,h14,h20,aG,aN,Bool.true_or,aL,Bool.or_false,Bool.or_true];done) | (simp only [h10,aG,aN,Bool.true_or,aL,Bool.or_false,Bool.or_true];done) )
 have ez:=hC;refine .cd Z (λh38=>?_) (λh38=>?_)
 ·refine .sr<|.az Z<|.tR<|?_
  refine y9 Z Z λW s=>⟨?_,s.ext⟩
  (rw [bF8 (ez.symm.trans h38)])
 refine .sk<|.tN<|.cu (X:=Unit) [(1,_),(3,_)] ⟨Z,Z,Jt⟩ (λz=>[]) (λz=>H) (λz=>[.box b3 (fsC (dD op)) 157,.box b1 [.int .u8 op.toNat,bV nm,bV fd,.int .i64 a.toInt,.int .i64 b.toInt,.slice p1 ex.length c1,.slice p2 args.length c2] 35]) (λz=>CY (.mk op nm fd a b ex args)=true) ?_ λz hC=>?_
 ·
  refine .bk<|.sr<|.fA Z PK<|.lD Z kB Hm Z<|.aq Z<|.cd Z (λh39=>?_) (λh39=>?_)
  ·refine .cu (X:=Bool) [(1,_),(3,_)] ⟨Z,Z,Jt⟩ (λz=>[(66,.bool z)]) (λz=>H) (λz=>[.box b3 (fsC (dD op)) 157,.box b1 [.int .u8 op.toNat,bV nm,bV fd,.int .i64 a.toInt,.int .i64 b.toInt,.slice p1 ex.length c1,.slice p2 args.length c2] 35]) (λz=>z=decide (¬ ((a.toInt=0/\b.toInt=-1)\/(0<=a.toInt/\a.toInt<=b.toInt/\b.toInt<=200)))) ?_ λz hC=>?_
   ·
    refine .rg<|.fA Z fI<|.lD Z bS cR Z<|.yw (.neq Z Z)<|.mv Z<|.e2 (λh45=>?_) (λh45=>?_)
    ·refine .gG<|.gG<|.gG<|.yw (.pickT Z Z)<|.mv Z<|.gy (.fieldAddr Z fI)<|.gy (.load Z bS cR Z)<|.gy (.lss Z Z)<|.gy (.move Z)<|.b2 (λh54=>?_) (λh54=>?_)
     ·try simp only [dt] at h54
      exact .gG<|.gG<|.gG<|.gG<|.gG<|.gy (.pickT Z Z)<|.gy (.move Z)<|.gG<|.gG<|.gG<|.gy (.pickT Z Z)<|.yw (.pickT Z Z)<|.nt<|.me _ ⟨Z,Jt⟩ ⟨Z,Z,Jt⟩ (λ_ s=>s) (by rw [aX,aA];first | (rw [aA];omega) | exact ⟨λ_=>by omega,λ_=>rfl⟩ | exact ⟨λh=>(by cases h),λh=>by omega⟩)
     try simp only [df] at h54
     refine .gy (.fieldAddr Z fI)<|.gy (.load Z bS cR Z)<|.gy (.fieldAddr Z eW)<|.gy (.load Z bS cR Z)<|.gy (.gtr Z Z)<|.gy (.pickF Z Z)<|.gy (.move Z)<|.b2 (λh61=>?_) (λh61=>?_)
     ·try simp only [dt] at h61
      exact .gG<|.gG<|.gG<|.gy (.pickT Z Z)<|.yw (.pickT Z Z)<|.nt<|.me _ ⟨Z,Jt⟩ ⟨Z,Z,Jt⟩ (λ_ s=>s) (by rw [aX,aA];first | (rw [aA];omega) | exact ⟨λ_=>by omega,λ_=>rfl⟩ | exact ⟨λh=>(by cases h),λh=>by omega⟩)
     try simp only [df] at h61
     exact .gy (.fieldAddr Z eW)<|.gy (.load Z bS cR Z)<|.gy (.gtr Z Z)<|.gy (.pickF Z Z)<|.yw (.pickT Z Z)<|.nt<|.me _ ⟨Z,Jt⟩ ⟨Z,Z,Jt⟩ (λ_ s=>s) (by rw [aX,aA];first | (rw [aA];omega) | exact ⟨λ_=>by omega,λ_=>rfl⟩ | exact ⟨λh=>(by cases h),λh=>by omega⟩)
    refine .gy (.fieldAddr Z eW)<|.gy (.load Z bS cR Z)<|.gy (.neq Z Z)<|.yw (.pickF Z Z)<|.mv Z<|.e2 (λh50=>?_) (λh50=>?_)
    ·refine .gy (.fieldAddr Z fI)<|.gy (.load Z bS cR Z)<|.gy (.lss Z Z)<|.gy (.move Z)<|.b2 (λh54=>?_) (λh54=>?_)
     ·try simp only [dt] at h54
      exact .gG<|.gG<|.gG<|.gG<|.gG<|.gy (.pickT Z Z)<|.gy (.move Z)<|.gG<|.gG<|.gG<|.gy (.pickT Z Z)<|.yw (.pickT Z Z)<|.nt<|.me _ ⟨Z,Jt⟩ ⟨Z,Z,Jt⟩ (λ_ s=>s) (by rw [aX,aA];first | (rw [aA];omega) | exact ⟨λ_=>by omega,λ_=>rfl⟩ | exact ⟨λh=>(by cases h),λh=>by omega⟩)
     try simp only [df] at h54
     refine .gy (.fieldAddr Z fI)<|.gy (.load Z bS cR Z)<|.gy (.fieldAddr Z eW)<|.gy (.load Z bS cR Z)<|.gy (.gtr Z Z)<|.gy (.pickF Z Z)<|.gy (.move Z)<|.b2 (λh61=>?_) (λh61=>?_)
     ·try simp only [dt] at h61
      exact .gG<|.gG<|.gG<|.gy (.pickT Z Z)<|.yw (.pickT Z Z)<|.nt<|.me _ ⟨Z,Jt⟩ ⟨Z,Z,Jt⟩ (λ_ s=>s) (by rw [aX,aA];first | (rw [aA];omega) | exact ⟨λ_=>by omega,λ_=>rfl⟩ | exact ⟨λh=>(by cases h),λh=>by omega⟩)
     try simp only [df] at h61
     exact .gy (.fieldAddr Z eW)<|.gy (.load Z bS cR Z)<|.gy (.gtr Z Z)<|.gy (.pickF Z Z)<|.yw (.pickT Z Z)<|.nt<|.me _ ⟨Z,Jt⟩ ⟨Z,Z,Jt⟩ (λ_ s=>s) (by rw [aX,aA];first | (rw [aA];omega) | exact ⟨λ_=>by omega,λ_=>rfl⟩ | exact ⟨λh=>(by cases h),λh=>by omega⟩)
    exact .gG<|.gG<|.gG<|.gG<|.gV<|.gV<|.gV<|.gV<|.gV<|.gG<|.gG<|.gV<|.gV<|.gV<|.gG<|.yw (.pickF Z Z)<|.nt<|.me _ ⟨Z,Jt⟩ ⟨Z,Z,Jt⟩ (λ_ s=>s) (by rw [aX,aA];first | (rw [aA];omega) | exact ⟨λ_=>by omega,λ_=>rfl⟩ | exact ⟨λh=>(by cases h),λh=>by omega⟩)
   have ew:=hC;refine .cd Z (λh66=>?_) (λh66=>?_)
   ·refine .sr<|.az Z<|.bR<|.tR<|?_
    refine y9 Z Z λW s=>⟨?_,s.ext⟩
    (rw [NL (by rw [CX h39,aI (aJ (by rw [h66] at ew;exact ew.symm))])])
   exact .sk<|.bN<|.tN<|.me () trivial ⟨Z,Z,Jt⟩ (λ_ s=>s) (by first | (rw [CX h39,aF (Classical.byContradiction λe=>by rw [h66] at ew;rw [aF e] at ew;cases ew)]) | (rw [KN h39 h67,aF (Classical.byContradiction λe=>by rw [h92] at ea;rw [aF e] at ea;cases ea)]) | (rw [RJ h39 h67,aF (Classical.byContradiction λe=>by rw [h93] at en;rw [aF e] at en;cases en)]))
  refine .sr<|.fA Z PJ<|.lD Z kB Hm Z<|.aq Z<|.cd Z (λh67=>?_) (λh67=>?_)
  ·refine .cu (X:=Bool) [(1,_),(3,_)] ⟨Z,Z,Jt⟩ (λz=>[(92,.bool z)]) (λz=>H) (λz=>[.box b3 (fsC (dD op)) 157,.box b1 [.int .u8 op.toNat,bV nm,bV fd,.int .i64 a.toInt,.int .i64 b.toInt,.slice p1 ex.length c1,.slice p2 args.length c2] 35]) (λz=>z=decide (¬ (-1000000<=a.toInt/\a.toInt<=b.toInt/\b.toInt<=1000000/\b.toInt - a.toInt<32))) ?_ λz hC=>?_
   ·
    refine .rg<|.fA Z fI<|.lD Z bS cR Z<|.yw (.lss Z Z)<|.mv Z<|.e2 (λh73=>?_) (λh73=>?_)
    ·exact .gG<|.gG<|.gG<|.gG<|.gG<|.yw (.pickT Z Z)<|.mv Z<|.gG<|.gG<|.gG<|.yw (.pickT Z Z)<|.mv Z<|.gG<|.gG<|.gG<|.gG<|.gG<|.gG<|.yw (.pickT Z Z)<|.nt<|.me _ ⟨Z,Jt⟩ ⟨Z,Z,Jt⟩ (λ_ s=>s) (by rw [aX,aA];first | (rw [aA];omega) | exact ⟨λ_=>by omega,λ_=>rfl⟩ | exact ⟨λh=>(by cases h),λh=>by omega⟩)
    refine .gy (.fieldAddr Z fI)<|.gy (.load Z bS cR Z)<|.gy (.fieldAddr Z eW)<|.gy (.load Z bS cR Z)<|.gy (.gtr Z Z)<|.yw (.pickF Z Z)<|.mv Z<|.e2 (λh80=>?_) (λh80=>?_)
    ·exact .gG<|.gG<|.gG<|.yw (.pickT Z Z)<|.mv Z<|.gG<|.gG<|.gG<|.gG<|.gG<|.gG<|.yw (.pickT Z Z)<|.nt<|.me _ ⟨Z,Jt⟩ ⟨Z,Z,Jt⟩ (λ_ s=>s) (by rw [aX,aA];first | (rw [aA];omega) | exact ⟨λ_=>by omega,λ_=>rfl⟩ | exact ⟨λh=>(by cases h),λh=>by omega⟩)
    refine .gy (.fieldAddr Z eW)<|.gy (.load Z bS cR Z)<|.gy (.gtr Z Z)<|.yw (.pickF Z Z)<|.mv Z<|.e2 (λh85=>?_) (λh85=>?_)
    ·exact .gG<|.gG<|.gG<|.gG<|.gG<|.gG<|.yw (.pickT Z Z)<|.nt<|.me _ ⟨Z,Jt⟩ ⟨Z,Z,Jt⟩ (λ_ s=>s) (by rw [aX,aA];first | (rw [aA];omega) | exact ⟨λ_=>by omega,λ_=>rfl⟩ | exact ⟨λh=>(by cases h),λh=>by omega⟩)
    exact .gy (.fieldAddr Z eW)<|.gy (.load Z bS cR Z)<|.gy (.fieldAddr Z fI)<|.gy (.load Z bS cR Z)<|.gy (.sub Z Z (w6 (by omega)))<|.gy (.geq Z Z)<|.yw (.pickF Z Z)<|.nt<|.me _ ⟨Z,Jt⟩ ⟨Z,Z,Jt⟩ (λ_ s=>s) (by rw [aX,aA];first | (rw [aA];omega) | exact ⟨λ_=>by omega,λ_=>rfl⟩ | exact ⟨λh=>(by cases h),λh=>by omega⟩)
   have ea:=hC;refine .cd Z (λh92=>?_) (λh92=>?_)
   ·refine .sr<|.az Z<|.bR<|.tR<|?_
    refine y9 Z Z λW s=>⟨?_,s.ext⟩
    (rw [NL (by rw [KN h39 h67,aI (aJ (by rw [h92] at ea;exact ea.symm))])])
   exact .sk<|.bN<|.tN<|.me () trivial ⟨Z,Z,Jt⟩ (λ_ s=>s) (by first | (rw [CX h39,aF (Classical.byContradiction λe=>by rw [h66] at ew;rw [aF e] at ew;cases ew)]) | (rw [KN h39 h67,aF (Classical.byContradiction λe=>by rw [h92] at ea;rw [aF e] at ea;cases ea)]) | (rw [RJ h39 h67,aF (Classical.byContradiction λe=>by rw [h93] at en;rw [aF e] at en;cases en)]))
  refine .cu (X:=Bool) [(1,_),(3,_)] ⟨Z,Z,Jt⟩ (λz=>[(93,.bool z)]) (λz=>H) (λz=>[.box b3 (fsC (dD op)) 157,.box b1 [.int .u8 op.toNat,bV nm,bV fd,.int .i64 a.toInt,.int .i64 b.toInt,.slice p1 ex.length c1,.slice p2 args.length c2] 35]) (λz=>z=decide (¬ (a.toInt=0/\b.toInt=0))) ?_ λz hC=>?_
  ·
   refine .rg<|.fA Z fI<|.lD Z bS cR Z<|.yw (.neq Z Z)<|.mv Z<|.e2 (λh97=>?_) (λh97=>?_)
   ·exact .gG<|.gG<|.gG<|.yw (.pickT Z Z)<|.aq Z<|.me _ ⟨Z,Jt⟩ ⟨Z,Z,Jt⟩ (λ_ s=>s) (by rw [aX,aA];first | (rw [aA];omega) | exact ⟨λ_=>by omega,λ_=>rfl⟩ | exact ⟨λh=>(by cases h),λh=>by omega⟩)
   exact .gy (.fieldAddr Z eW)<|.gy (.load Z bS cR Z)<|.gy (.neq Z Z)<|.yw (.pickF Z Z)<|.aq Z<|.me _ ⟨Z,Jt⟩ ⟨Z,Z,Jt⟩ (λ_ s=>s) (by rw [aX,aA];first | (rw [aA];omega) | exact ⟨λ_=>by omega,λ_=>rfl⟩ | exact ⟨λh=>(by cases h),λh=>by omega⟩)
  have en:=hC;refine .cd Z (λh93=>?_) (λh93=>?_)
  ·refine .sr<|.az Z<|.bR<|.tR<|?_
   refine y9 Z Z λW s=>⟨?_,s.ext⟩
   (rw [NL (by rw [RJ h39 h67,aI (aJ (by rw [h93] at en;exact en.symm))])])
  exact .sk<|.bN<|.tN<|.me () trivial ⟨Z,Z,Jt⟩ (λ_ s=>s) (by first | (rw [CX h39,aF (Classical.byContradiction λe=>by rw [h66] at ew;rw [aF e] at ew;cases ew)]) | (rw [KN h39 h67,aF (Classical.byContradiction λe=>by rw [h92] at ea;rw [aF e] at ea;cases ea)]) | (rw [RJ h39 h67,aF (Classical.byContradiction λe=>by rw [h93] at en;rw [aF e] at en;cases en)]))
 have hb:=hC;refine .sq<|.sr<|.fA Z eP<|.lD Z iT cR Z<|.yw (.eql Z Z)<|.nt<|.cd Z (λh104=>?_) (λh104=>?_)
 ·have q7:op=7:=aR.1 (by have:=aJ h104;show op.toNat=7;omega);refine .sr<|.fA Z cQ<|.lD Z dG cR Z<|.yw (.lenSl dP Z)<|.yw (.cast (.leq Z Z) (congrArg Value.bool le4))<|.mv Z<|.b2 (λh109=>?_) (λh109=>?_)
  ·refine .gy (.fieldAddr Z cQ)<|.gy (.load Z dG cR Z)<|.gy (.call rY Z (λW s=>mC H 77 [] aJ2 ex hs1 aT2 (λa _=>XQ H a) W s.agr))<|.gy (.not Z)<|.yw (.pickT Z Z)<|.az Z<|.tR<|?_
   refine y9 Z Z λW s=>⟨?_,s.ext⟩
   (rw [wS (ez.symm.trans h38) hb,bU0 q7,h109,aG,bV1])
  refine .gG<|.gG<|.gG<|.gG<|.yw (.pickF Z Z)<|.az Z<|.tR<|?_
  refine y9 Z Z λW s=>⟨?_,s.ext⟩
  (rw [wS (ez.symm.trans h38) hb,bU0 q7,h109];rfl)
 have q7:¬ op=7:=λe=>aO h104 (by rw [e];rfl);refine .sk<|.tN<|.sq<|.sr<|.fA Z cQ<|.lD Z dG cR Z<|.yw (.lenSl dP Z)<|.fA Z PI<|.lD Z ED Hm Z<|.yw (.conv Z rT rU (c:=(((dD op).ex:Nat):Int)) (w64 (by omega) (by have:=CQ op;omega)))<|.yw (.cast (.neq Z Z) (congrArg Value.bool nn0))<|.nt<|.cd Z (λh121=>?_) (λh121=>?_)
 ·have hlx:¬ ex.length=(dD op).ex:=λe=>by rw [aF e] at h121;cases h121
  refine .sr<|.az Z<|.tR<|?_
  refine y9 Z Z λW s=>⟨?_,s.ext⟩
  (rw [wS (ez.symm.trans h38) hb,bT9 q7 hlx])
 have hlx:ex.length=(dD op).ex:=Classical.byContradiction λe=>by rw [aI e] at h121;cases h121
 refine .sk<|.tN<|.sq<|.sr<|.fA Z eP<|.lD Z iT cR Z<|.nt<|.bk<|.sr<|.yw (.eql Z Z)<|.aq Z<|.cd Z (λh124=>?_) (λh124=>?_)
 ·have q3:op=3:=aR.1 (by have:=aJ h124;show op.toNat=3;omega);obtain ⟨e0,rfl⟩:∃ e0,ex=[e0]:=List.length_eq_one_iff.1 (by rw [hlx,q3];rfl);obtain ⟨bE,oE,cE,hpE,rE,lE,mE⟩:=hs1.elem (i:=0) (d:=dEx .u8 e0) rfl;cases hpE;refine .sr<|.fA Z cQ<|.lD Z dG cR Z<|.yw (.indexSl dP Z Z (i:=0) Z (Nat.succ_pos _) (q:=oE+0 * 4) Z)<|.yw (.loadMW Z dS mE lE)<|.yw (.call aT0 Z (λW s=>aO9 H e0 cE W rE s.agr))<|.az Z<|.bR<|.tR<|?_
  refine y9 Z Z λW s=>⟨?_,s.ext⟩
  (rw [wS (ez.symm.trans h38) hb,YC q3])
 have q3:¬ op=3:=λe=>aO h124 (by rw [e];rfl);refine .sr<|.yw (.eql Z Z)<|.aq Z<|.cd Z (λh131=>?_) (λh131=>?_)
 ·have q5:op=5:=aR.1 (by have:=aJ h131;show op.toNat=5;omega);obtain ⟨e0,rfl⟩:∃ e0,ex=[e0]:=List.length_eq_one_iff.1 (by rw [hlx,q5];rfl);obtain ⟨bE,oE,cE,hpE,rE,lE,mE⟩:=hs1.elem (i:=0) (d:=dEx .u8 e0) rfl;cases hpE;refine .sr<|.fA Z cQ<|.lD Z dG cR Z<|.yw (.indexSl dP Z Z (i:=0) Z (Nat.succ_pos _) (q:=oE+0 * 4) Z)<|.yw (.loadMW Z dS mE lE)<|.yw (.call DZ Z (λW s=>AM H e0 cE W rE s.agr))<|.az Z<|.bR<|.tR<|?_
  refine y9 Z Z λW s=>⟨?_,s.ext⟩
  (rw [wS (ez.symm.trans h38) hb,cJ6 q5])
 have q5:¬ op=5:=λe=>aO h131 (by rw [e];rfl);refine .sr<|.yw (.eql Z Z)<|.aq Z<|.cd Z (λh138=>?_) (λh138=>?_)
 ·have q18:op=18:=aR.1 (by have:=aJ h138;show op.toNat=18;omega);obtain ⟨e0,rfl⟩:∃ e0,ex=[e0]:=List.length_eq_one_iff.1 (by rw [hlx,q18];rfl);obtain ⟨bE,oE,cE,hpE,rE,lE,mE⟩:=hs1.elem (i:=0) (d:=dEx .u8 e0) rfl;cases hpE;obtain ⟨op0,nm0,m0,eG⟩:=e0;obtain ⟨p9,c9,rfl,hs9,hn9⟩:=jB rE;refine .sr<|.fA Z cQ<|.lD Z dG cR Z<|.yw (.indexSl dP Z Z (i:=0) Z (Nat.succ_pos _) (q:=oE+0 * 4) Z)<|.fA Z hU<|.yw (.loadM Z kR mE (k:=0) Z Z)<|.yw (.eql Z Z)<|.mv Z<|.b2 (λh146=>?_) (λh146=>?_)
  ·refine .gy (.fieldAddr Z cQ)<|.gy (.load Z dG cR Z)<|.gy (.indexSl dP Z Z (i:=0) Z (Nat.succ_pos _) (q:=oE+0 * 4) Z)<|.gy (.loadMW Z dS mE lE)<|.gy (.call DZ Z (λW s=>AM H _ _ W rE s.agr))<|.yw (.pickT Z Z)<|.mv Z<|.b2 (λh153=>?_) (λh153=>?_)
   ·refine .gy (.fieldAddr Z cQ)<|.gy (.load Z dG cR Z)<|.gy (.indexSl dP Z Z (i:=0) Z (Nat.succ_pos _) (q:=oE+0 * 4) Z)<|.gy (.fieldAddr Z gQ)<|.gy (.loadM Z kM mE (k:=2) Z Z)<|.gy (.leq Z Z)<|.yw (.pickT Z Z)<|.az Z<|.bR<|.tR<|?_
    refine y9 Z Z λW s=>⟨?_,s.ext⟩
    (rw [wS (ez.symm.trans h38) hb,RB q18,h146,h153,aG,aG])
   refine .gG<|.gG<|.gG<|.gG<|.gG<|.gG<|.yw (.pickF Z Z)<|.az Z<|.bR<|.tR<|?_
   refine y9 Z Z λW s=>⟨?_,s.ext⟩
   (rw [wS (ez.symm.trans h38) hb,RB q18,h146,h153];rfl)
  refine .gG<|.gG<|.gG<|.gG<|.gG<|.yw (.pickF Z Z)<|.mv Z<|.gG<|.gG<|.gG<|.gG<|.gG<|.gG<|.yw (.pickF Z Z)<|.az Z<|.bR<|.tR<|?_
  refine y9 Z Z λW s=>⟨?_,s.ext⟩
  (rw [wS (ez.symm.trans h38) hb,RB q18,h146];rfl)
 have q18:¬ op=18:=λe=>aO h138 (by rw [e];rfl);refine .sk<|.bN<|.tN<|.sr<|.az Z<|?_
 refine y9 Z Z λW s=>⟨?_,s.ext⟩
 (rw [wS (ez.symm.trans h38) hb,cN2 q7 hlx q3 q5 q18])
end Go.Proofs.YtidclioghdbphaaGreatDoor
