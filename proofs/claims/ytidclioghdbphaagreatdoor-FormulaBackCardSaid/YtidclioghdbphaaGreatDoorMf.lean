/- Texts of the proof, one behind the other. -/
import Derived.Test.YtidclioghdbphaaGreatDoorMe
set_option linter.all false
set_option maxRecDepth 100000
namespace Go.Proofs.YtidclioghdbphaaGreatDoor
open Go.RowKit Go.Par Go.Sx Tryz
theorem HG {n:Str} (h:(eI n).isSome=true):xJ n=(fN (spA n) && fN (spB n)):=by
 unfold xJ spA spB;cases hs:eI n with
 | some x=>rfl
 | none=>rw [hs] at h;cases h
theorem XG {n:Str} (h:(eI n).isSome=false):xJ n=false:=by
 unfold xJ;cases hs:eI n with
 | none=>rfl
 | some x=>rw [hs] at h;cases h
theorem OZ (n:Str):(spA n).length<=n.length:=by
 unfold spA;rcases wA n with ⟨i,_,hi,e⟩ | ⟨_,e⟩
 ·rw [e];show (n.take i).length<=_;rw [fE];omega
 ·rw [e];exact aO _
theorem OY (n:Str):(spB n).length<=n.length:=by
 unfold spB;rcases wA n with ⟨i,_,hi,e⟩ | ⟨_,e⟩
 ·rw [e];show (n.drop (i+1)).length<=_;rw [cU];omega
 ·rw [e];exact aO _
theorem wG:∀ l,HY l=l.any qK
 | []=>rfl
 | e::r=>by rw [HY,List.any_cons,wG r]
theorem rK {op:UInt8} {nm:Str} {n:Int64} {args:List Ex} (h:op=5):qK (.mk op nm n args)=((!xJ nm && !fN nm) || args.any qK):=by subst h;rw [qK,wG];simp
theorem rJ {op:UInt8} {nm:Str} {n:Int64} {args:List Ex} (h:op=6\/op=8):qK (.mk op nm n args)=(!xJ nm || args.any qK):=by rcases h with rfl | rfl <;> (rw [qK,wG];simp)
theorem TF {op:UInt8} {nm:Str} {n:Int64} {args:List Ex} (h:¬ op=5) (h6:¬ op=6) (h8:¬ op=8):qK (.mk op nm n args)=args.any qK:=by rw [qK,wG,aP h,aP h6,aP h8];rfl
theorem QD (H:Hp) (G:Gl H) (e:Ex):EFn H 76 [] qK e:=by
 induction e using Ex.ind with | _ op nm nn args ih
 intro cs w h hA;obtain ⟨pp,c,rfl,hs,hnm⟩:=iK h;have hA':Agr H w:=hA;refine Sx.enter (H:=H) func76 rfl ntmps76 rfl hA ?_;refine .sr<|.bx Z Z Z λb1=>.a Z Z<|.ns<|.fA Z fT<|.lD Z cZ Hm Z<|.yw (.call OC Z (λW s=>MT nm (by omega) W))<|.mv Z<|.yw (.extract Z Z)<|.yw (.extract Z Z)<|.yw (.extract Z Z)<|.a Z Z<|.a Z Z<|.aq Z<|.cu (X:=Bool) [(1,_)] ⟨Z,Jt⟩ (λz=>[(6,.bool z)]) (λz=>H) (λz=>[.box b1 [.int .u8 op.toNat,cH nm,.int .i64 nn.toInt,.slice pp args.length c] 76]) (λz=>z=xJ nm) ?_ λz hC=>?_
 ·
  refine .rg<|.mv Z<|.mv Z<|.b2 (λh15=>?_) (λh15=>?_)
  ·refine .gy (.move Z)<|.gy (.call vT Z (λW s=>tQ H G (spA nm) (by have:=OZ nm;have:=OY nm;omega) W s.agr))<|.yw (.pickT Z Z)<|.mv Z<|.b2 (λh19=>?_) (λh19=>?_)
   ·exact .gy (.move Z)<|.gy (.call vT Z (λW s=>tQ H G (spB nm) (by have:=OZ nm;have:=OY nm;omega) W s.agr))<|.yw (.pickT Z Z)<|.aq Z<|.me _ ⟨Z,Jt⟩ ⟨Z,Jt⟩ (λ_ s=>s) (by first | (rw [HG h15,h19,aA]) | (rw [HG h15,h19];rfl) | (rw [XG h15]))
   exact .gG<|.gG<|.yw (.pickF Z Z)<|.aq Z<|.me _ ⟨Z,Jt⟩ ⟨Z,Jt⟩ (λ_ s=>s) (by first | (rw [HG h15,h19,aA]) | (rw [HG h15,h19];rfl) | (rw [XG h15]))
  exact .gG<|.gG<|.yw (.pickF Z Z)<|.mv Z<|.gG<|.gG<|.yw (.pickF Z Z)<|.aq Z<|.me _ ⟨Z,Jt⟩ ⟨Z,Jt⟩ (λ_ s=>s) (by first | (rw [HG h15,h19,aA]) | (rw [HG h15,h19];rfl) | (rw [XG h15]))
 have eb:=hC;refine .sq<|.sr<|.fA Z gO<|.lD Z jR Hm Z<|.nt<|.bk<|.sr<|.yw (.eql Z Z)<|.aq Z<|.cd Z (λh25=>?_) (λh25=>?_)
 ·have q5:op=5:=aQ.1 (by have:=aH h25;show op.toNat=5;omega);refine .sm Z<|.yw (.not Z)<|.mv Z<|.b2 (λh29=>?_) (λh29=>?_)
  ·refine .gy (.fieldAddr Z fT)<|.gy (.load Z cZ Hm Z)<|.gy (.call vT Z (λW s=>tQ H G nm (by have:=OZ nm;have:=OY nm;omega) W s.agr))<|.gy (.not Z)<|.yw (.pickT Z Z)<|.nt<|.cd Z (λh34=>?_) (λh34=>?_)
   ·refine .sr<|.az Z<|.bR<|.tR<|?_
    refine y9 Z Z λW s=>⟨?_,s.ext⟩
    first
     | (rw [rK q5,<-eb,h29,h34];rfl)
     | (rw [rK q5,<-eb,h29,h34,aK])
     | (rw [rK q5,<-eb,h29];rfl)
     | (rw [rK q5,<-eb,h29,aB,aK])
     | (rw [rJ (.inl q68),<-eb,h39];rfl)
     | (rw [rJ (.inl q68),<-eb,h39,aK])
     | (rw [rJ (.inr q68),<-eb,h39];rfl)
     | (rw [rJ (.inr q68),<-eb,h39,aK])
     | (rw [TF q5 q686 q688])
   refine .sk<|.bN<|.tN<|.sr<|.fA Z eA<|.lD Z dE Hm Z<|.yw (.call qR Z (λW s=>lC H 76 [] qK args hs vS (λa ha=>ih a ha) W s.agr))<|.az Z<|?_
   refine y9 Z Z λW s=>⟨?_,s.ext⟩
   first
    | (rw [rK q5,<-eb,h29,h34];rfl)
    | (rw [rK q5,<-eb,h29,h34,aK])
    | (rw [rK q5,<-eb,h29];rfl)
    | (rw [rK q5,<-eb,h29,aB,aK])
    | (rw [rJ (.inl q68),<-eb,h39];rfl)
    | (rw [rJ (.inl q68),<-eb,h39,aK])
    | (rw [rJ (.inr q68),<-eb,h39];rfl)
    | (rw [rJ (.inr q68),<-eb,h39,aK])
    | (rw [TF q5 q686 q688])
  refine .gG<|.gG<|.gG<|.gG<|.yw (.pickF Z Z)<|.nt<|.cF Z<|.sk<|.bN<|.tN<|.sr<|.fA Z eA<|.lD Z dE Hm Z<|.yw (.call qR Z (λW s=>lC H 76 [] qK args hs vS (λa ha=>ih a ha) W s.agr))<|.az Z<|?_
  refine y9 Z Z λW s=>⟨?_,s.ext⟩
  first
   | (rw [rK q5,<-eb,h29,h34];rfl)
   | (rw [rK q5,<-eb,h29,h34,aK])
   | (rw [rK q5,<-eb,h29];rfl)
   | (rw [rK q5,<-eb,h29,aB,aK])
   | (rw [rJ (.inl q68),<-eb,h39];rfl)
   | (rw [rJ (.inl q68),<-eb,h39,aK])
   | (rw [rJ (.inr q68),<-eb,h39];rfl)
   | (rw [rJ (.inr q68),<-eb,h39,aK])
   | (rw [TF q5 q686 q688])
 have q5:¬ op=5:=λe=>aN h25 (by rw [e];rfl);refine .sq<|.sr<|.yw (.eql Z Z)<|.aq Z<|.cr Z (λh35=>?_) (λh35=>?_)
 ·have q68:op=6:=aQ.1 (by have:=aH h35;show op.toNat=6;omega);refine .sk<|.tN<|.cT Z<|.sm Z<|.yw (.not Z)<|.nt<|.cd Z (λh39=>?_) (λh39=>?_)
  ·refine .sr<|.az Z<|.bR<|.tR<|?_
   refine y9 Z Z λW s=>⟨?_,s.ext⟩
   first
    | (rw [rK q5,<-eb,h29,h34];rfl)
    | (rw [rK q5,<-eb,h29,h34,aK])
    | (rw [rK q5,<-eb,h29];rfl)
    | (rw [rK q5,<-eb,h29,aB,aK])
    | (rw [rJ (.inl q68),<-eb,h39];rfl)
    | (rw [rJ (.inl q68),<-eb,h39,aK])
    | (rw [rJ (.inr q68),<-eb,h39];rfl)
    | (rw [rJ (.inr q68),<-eb,h39,aK])
    | (rw [TF q5 q686 q688])
  refine .sk<|.bN<|.tN<|.sr<|.fA Z eA<|.lD Z dE Hm Z<|.yw (.call qR Z (λW s=>lC H 76 [] qK args hs vS (λa ha=>ih a ha) W s.agr))<|.az Z<|?_
  refine y9 Z Z λW s=>⟨?_,s.ext⟩
  first
   | (rw [rK q5,<-eb,h29,h34];rfl)
   | (rw [rK q5,<-eb,h29,h34,aK])
   | (rw [rK q5,<-eb,h29];rfl)
   | (rw [rK q5,<-eb,h29,aB,aK])
   | (rw [rJ (.inl q68),<-eb,h39];rfl)
   | (rw [rJ (.inl q68),<-eb,h39,aK])
   | (rw [rJ (.inr q68),<-eb,h39];rfl)
   | (rw [rJ (.inr q68),<-eb,h39,aK])
   | (rw [TF q5 q686 q688])
 have q686:¬ op=6:=λe=>aN h35 (by rw [e];rfl);refine .rg<|.yw (.eql Z Z)<|.aq Z<|.cr Z (λh35=>?_) (λh35=>?_)
 ·have q68:op=8:=aQ.1 (by have:=aH h35;show op.toNat=8;omega);refine .sm Z<|.yw (.not Z)<|.nt<|.cd Z (λh39=>?_) (λh39=>?_)
  ·refine .sr<|.az Z<|.bR<|.tR<|?_
   refine y9 Z Z λW s=>⟨?_,s.ext⟩
   first
    | (rw [rK q5,<-eb,h29,h34];rfl)
    | (rw [rK q5,<-eb,h29,h34,aK])
    | (rw [rK q5,<-eb,h29];rfl)
    | (rw [rK q5,<-eb,h29,aB,aK])
    | (rw [rJ (.inl q68),<-eb,h39];rfl)
    | (rw [rJ (.inl q68),<-eb,h39,aK])
    | (rw [rJ (.inr q68),<-eb,h39];rfl)
    | (rw [rJ (.inr q68),<-eb,h39,aK])
    | (rw [TF q5 q686 q688])
  refine .sk<|.bN<|.tN<|.sr<|.fA Z eA<|.lD Z dE Hm Z<|.yw (.call qR Z (λW s=>lC H 76 [] qK args hs vS (λa ha=>ih a ha) W s.agr))<|.az Z<|?_
  refine y9 Z Z λW s=>⟨?_,s.ext⟩
  first
   | (rw [rK q5,<-eb,h29,h34];rfl)
   | (rw [rK q5,<-eb,h29,h34,aK])
   | (rw [rK q5,<-eb,h29];rfl)
   | (rw [rK q5,<-eb,h29,aB,aK])
   | (rw [rJ (.inl q68),<-eb,h39];rfl)
   | (rw [rJ (.inl q68),<-eb,h39,aK])
   | (rw [rJ (.inr q68),<-eb,h39];rfl)
   | (rw [rJ (.inr q68),<-eb,h39,aK])
   | (rw [TF q5 q686 q688])
 have q688:¬ op=8:=λe=>aN h35 (by rw [e];rfl);refine .sk<|.bN<|.tN<|.sr<|.fA Z eA<|.lD Z dE Hm Z<|.yw (.call qR Z (λW s=>lC H 76 [] qK args hs vS (λa ha=>ih a ha) W s.agr))<|.az Z<|?_
 refine y9 Z Z λW s=>⟨?_,s.ext⟩
 first
  | (rw [rK q5,<-eb,h29,h34];rfl)
  | (rw [rK q5,<-eb,h29,h34,aK])
  | (rw [rK q5,<-eb,h29];rfl)
  | (rw [rK q5,<-eb,h29,aB,aK])
  | (rw [rJ (.inl q68),<-eb,h39];rfl)
  | (rw [rJ (.inl q68),<-eb,h39,aK])
  | (rw [rJ (.inr q68),<-eb,h39];rfl)
  | (rw [rJ (.inr q68),<-eb,h39,aK])
  | (rw [TF q5 q686 q688])
def FFn (H:Hp) (gf:FuncId) (q:Fm->Bool) (f:Fm):Prop:=∀ (cs:List Value) (W:World),Rep H (dFm .u8 f) cs->Agr H W->Calls prg gf #[.agg cs.toArray] W λr W'=>r=.returned (.bool (q f))/\Ext W W'
theorem ZJ (q:Fm->Bool):∀ l,Fm.alls q l=l.all (Fm.all q)
 | []=>rfl
 | f::r=>by rw [Fm.alls,fZ,ZJ q r]
theorem xT (q:Fm->Bool) (op:UInt8) (nm fd:Str) (a b:Int64) (ex:List Ex) (args:List Fm):Fm.all q (.mk op nm fd a b ex args)=(q (.mk op nm fd a b ex args) && args.all (Fm.all q)):=by rw [Fm.all,ZJ]
variable {k:Nat}
theorem aG3 {l:List Fm} {p:Fm->Bool} (hk:k<l.length) (h:(l.take k).all p=true) (hp:p l[k]=true):(l.take (k+1)).all p=true:=by
 rw [List.take_succ,List.all_append,h,List.getElem?_eq_getElem hk];simp [hp]
theorem RB {l:List Fm} {p:Fm->Bool} (hk:k<l.length) (hp:p l[k]=false):l.all p=false:=List.all_eq_false.2 ⟨_,bT hk,by rw [hp];decide⟩
theorem HB (H:Hp) (gf:FuncId) (q p:Fm->Bool) (hf:dK prg gf=true) (hg:∀ f,p f=true->FFn H gf q f) (f:Fm):f.all p=true->∀ (cs:List Value) (w:World),Rep H (dFm .u8 f) cs->Agr H w ->
 Calls prg 35 #[.agg cs.toArray,.func (.func gf) #[] #[]] w λr w'=>r=.returned (.bool (f.all q))/\Ext w w':=by
 induction f using Fm.ind with | _ op nm fd a b ex args ih
 intro hp cs w h hA;rw [xT,aE] at hp;obtain ⟨p1,c1,p2,c2,rfl,hs1,hs2,hnm,hfd⟩:=iX h;have hcap:=hs2.cap;refine Sx.enter (H:=H) func35 rfl ntmps35 rfl hA ?_;refine .sr<|.bx Z Z Z λb2=>.aq Z<|.sq<|.sm Z<|.yw (.loadW Z cD Hm Z)<|.yw (.callV (fi:=[]) (ca:=[]) Z hf Z (λW s=>hg _ hp.1 _ W h s.agr))<|.yw (.not Z)<|.nt<|.cd Z (λh10=>?_) (λh10=>?_)
 ·refine .sr<|.az Z<|.tR<|?_
  refine y9 Z Z λW s=>⟨?_,s.ext⟩
  first
   | (rw [xT,show q (.mk op nm fd a b ex args)=false by simpa using h10];rfl)
   | (rw [xT,RB hk (by simpa using h21)];simp)
   | (rw [xT,hal,show q (.mk op nm fd a b ex args)=true by simpa using h10];rfl)
 refine .sk<|.tN<|.sq<|.sr<|.fA Z dD<|.lD Z fP Hm Z<|.yw (.lenSl eR Z)<|.mv Z<|.nt<|.bk<|.lp (X:=Nat) [(1,_),(12,_),(13,_)] ⟨Z,Z,Z,Jt⟩ [_] (λk=>[(14,iN k)]) (λk=>H) (λk=>[]) (λk=>k<=args.length/\(args.take k).all (Fm.all q)=true) (λk=>args.length - k) 0 (λ_ s=>s) ⟨Z,Jt⟩ ⟨aO _,Z⟩ λk hC=>?_
 obtain ⟨hk0,hal⟩:=hC;refine .sr<|.yw (.lss Z Z)<|.nt<|.sq<|.ce Z (λh15=>?_) (λh15=>?_)
 ·have hk:k<args.length:=by omega
  obtain ⟨bE,oE,cE,hpE,rE,lE,mE⟩:=hs2.elem (kM (f:=dFm .u8) hk);cases hpE;have hpk:=aW.1 hp.2 _ (bT hk);refine .sk<|.tN<|.sq<|.bk<|.sr<|.yw (.indexSl eR Z Z Z (by omega) (q:=oE+k * 7) Z)<|.yw (.loadMW Z cD mE lE)<|.al eG Z λb6=>.sV .head Z Z cV lE rE.one Z<|.ns<|.yw (.loadW Z cD Hm lE)<|.mv Z<|.yw (.call CE Z (λW s=>ih _ (bT hk) hpk cE W rE s.agr))<|.yw (.not Z)<|.nt<|.cd Z (λh21=>?_) (λh21=>?_)
  ·refine .sr<|.az Z<|.bR<|.tR<|.tR<|.bR<|.tR<|?_
   refine y9 Z Z λW s=>⟨?_,s.ext⟩
   first
    | (rw [xT,show q (.mk op nm fd a b ex args)=false by simpa using h10];rfl)
    | (rw [xT,RB hk (by simpa using h21)];simp)
    | (rw [xT,hal,show q (.mk op nm fd a b ex args)=true by simpa using h10];rfl)
  exact .sk<|.bN<|.tN<|.rg<|.yw (.add Z Z w7)<|.mv Z<|.nt<|.ag (k+1) ⟨Z,Jt⟩ ⟨Z,Z,Z,Jt⟩ (λ_ s=>s.pick [1] [_] Z Z) ⟨by omega,aG3 hk hal (by simpa using h21)⟩ (by omega)
 obtain rfl:k=args.length:=by omega
 rw [dC] at hal;refine .ex<|.eb<|.sr<|.az Z<|?_
 refine y9 Z Z λW s=>⟨?_,s.ext⟩
 first
  | (rw [xT,show q (.mk op nm fd a b ex args)=false by simpa using h10];rfl)
  | (rw [xT,RB hk (by simpa using h21)];simp)
  | (rw [xT,hal,show q (.mk op nm fd a b ex args)=true by simpa using h10];rfl)
theorem SF (H:Hp) (f:Fm) (hd:(λf:Fm=>f.ex.all λe=>decide (e.depth<=1000000)) f=true):FFn H 36 uZ f:=by
 intro cs w h hA;obtain ⟨op,nm,fd,a,b,ex,args⟩:=f;obtain ⟨p1,c1,p2,c2,rfl,hs1,hs2,hnm,hfd⟩:=iX h;refine Sx.enter (H:=H) func36 rfl ntmps36 rfl hA ?_;refine .sr<|.bx Z Z Z λb1=>.a Z Z<|.ns<|.al aY6 Z λb3=>.st .head Z Z iF Z (nb Z) Z<|.nt<|.sq<|.sr<|.fA Z eF<|.lD Z hZ cO Z<|.yw (.eql Z Z)<|.nt<|.cd Z (λh6=>?_) (λh6=>?_)
 ·have q3:op=3:=aQ.1 (by have:=aH h6;show op.toNat=3;omega);refine .rg<|.lD Z cR Hm Z<|.yw (.add Z Z (c:=((9:Nat):Int)) (by decide))<|.st .head Z Z iF Z (nb Z) Z<|.nt<|.sq<|?_
  refine GO λH1 u1 m1=>?_;refine .rg<|.fA Z cJ<|.lD Z dE Hm Z<|.yw (.mkF Z Z)<|.yw (.call qR Z (λW s=>lC H1 72 [.pointer (some ⟨b3,0,none⟩)] (λe=>decide (9<e.depth)) ex (hs1.up u1.up) NZ (λa ha=>EL H1 a 9 b3 (by have:=aW.1 hd a ha;exact aH this) m1) W s.agr))<|.yw (.not Z)<|.az Z<|?_
  refine y9 Z Z λW s=>⟨?_,s.ext⟩
  first
   | (unfold uZ;rw [show (Fm.mk op nm fd a b ex args).op=3 from q3];rfl)
   | (unfold uZ;simp only [show ¬ (Fm.mk op nm fd a b ex args).op=3 from q3,bL];rfl)
 have q3:¬ op=3:=λe=>aN h6 (by rw [e];rfl);refine .sk<|.tN<|.sq<|?_
 refine GO λH1 u1 m1=>?_;refine .rg<|.fA Z cJ<|.lD Z dE Hm Z<|.yw (.mkF Z Z)<|.yw (.call qR Z (λW s=>lC H1 72 [.pointer (some ⟨b3,0,none⟩)] (λe=>decide (8<e.depth)) ex (hs1.up u1.up) NZ (λa ha=>EL H1 a 8 b3 (by have:=aW.1 hd a ha;exact aH this) m1) W s.agr))<|.yw (.not Z)<|.az Z<|?_
 refine y9 Z Z λW s=>⟨?_,s.ext⟩
 first
  | (unfold uZ;rw [show (Fm.mk op nm fd a b ex args).op=3 from q3];rfl)
  | (unfold uZ;simp only [show ¬ (Fm.mk op nm fd a b ex args).op=3 from q3,bL];rfl)
variable {a:Int64}
theorem QC {op:UInt8} {nm fd:Str} {b:Int64} {ex:List Ex} {args:List Fm} :wF (.mk op nm fd a b ex args)=(!((cK op).nm && !fN nm || (cK op).fd && !fN fd) && !ex.any qK):=by rw [<-wG];rfl
theorem aD4 (H:Hp) (G:Gl H) (Gt:Gf H) (f:Fm):FFn H 37 wF f:=by
 intro cs w h hA;obtain ⟨op,nm,fd,a,b,ex,args⟩:=f;obtain ⟨p1,c1,p2,c2,rfl,hs1,hs2,hnm,hfd⟩:=iX h;refine Sx.enter (H:=H) func37 rfl ntmps37 rfl hA ?_;refine .sr<|.bx Z Z Z λb1=>.a Z Z<|.ns<|.fA Z eF<|.lD Z hZ Hm Z<|.yw (.call (v:=.agg (fsC (cK op)).toArray) qP Z (λW s=>oK H Gt op W s.agr))<|.al DQ Z λb3=>.sW .head Z Z zO (by simp [fsC,Value.oneCell',cH]) Z<|.nt<|.sq<|.cu (X:=Bool) [(1,_)] ⟨Z,Jt⟩ (λz=>[(24,.bool z)]) (λz=>H) (λz=>[.box b3 (fsC (cK op)) 157,.box b1 [.int .u8 op.toNat,cH nm,cH fd,.int .i64 a.toInt,.int .i64 b.toInt,.slice p1 ex.length c1,.slice p2 args.length c2] 35]) (λz=>z=((cK op).nm && !fN nm || (cK op).fd && !fN fd)) ?_ λz hC=>?_
 ·
  refine .rg<|.fA Z CU<|.lD Z jI Hm Z<|.mv Z<|.b2 (λh9=>?_) (λh9=>?_)
  ·refine .gy (.fieldAddr Z fV)<|.gy (.load Z cZ cO Z)<|.gy (.call vT Z (λW s=>tQ H G nm (by omega) W s.agr))<|.gy (.not Z)<|.yw (.pickT Z Z)<|.mv Z<|.b2 (λh15=>?_) (λh15=>?_)
   ·exact .gG<|.gG<|.gG<|.gV<|.gV<|.gV<|.gV<|.gG<|.yw (.pickT Z Z)<|.nt<|.me _ ⟨Z,Jt⟩ ⟨Z,Jt⟩ (λ_ s=>s) (by first | simp only [h9,h15,h18,aA,aB,Bool.true_or,aK] | simp only [h9,h15,aA,aB,Bool.true_or,aK] | simp only [h9,h18,aA,aB,Bool.true_or,aK])
   refine .gy (.fieldAddr Z uF)<|.gy (.load Z jI Hm Z)<|.gy (.move Z)<|.b2 (λh18=>?_) (λh18=>?_)
   ·exact .gy (.fieldAddr Z fU)<|.gy (.load Z cZ cO Z)<|.gy (.call vT Z (λW s=>tQ H G fd (by omega) W s.agr))<|.gy (.not Z)<|.gy (.pickT Z Z)<|.yw (.pickF Z Z)<|.nt<|.me _ ⟨Z,Jt⟩ ⟨Z,Jt⟩ (λ_ s=>s) (by first | simp only [h9,h15,h18,aA,aB,Bool.true_or,aK] | simp only [h9,h15,aA,aB,Bool.true_or,aK] | simp only [h9,h18,aA,aB,Bool.true_or,aK])
   exact .gG<|.gG<|.gG<|.gG<|.gy (.pickF Z Z)<|.yw (.pickF Z Z)<|.nt<|.me _ ⟨Z,Jt⟩ ⟨Z,Jt⟩ (λ_ s=>s) (by first | simp only [h9,h15,h18,aA,aB,Bool.true_or,aK] | simp only [h9,h15,aA,aB,Bool.true_or,aK] | simp only [h9,h18,aA,aB,Bool.true_or,aK])
  refine .gG<|.gG<|.gG<|.gG<|.yw (.pickF Z Z)<|.mv Z<|.gy (.fieldAddr Z uF)<|.gy (.load Z jI Hm Z)<|.gy (.move Z)<|.b2 (λh18=>?_) (λh18=>?_)
  ·exact .gy (.fieldAddr Z fU)<|.gy (.load Z cZ cO Z)<|.gy (.call vT Z (λW s=>tQ H G fd (by omega) W s.agr))<|.gy (.not Z)<|.gy (.pickT Z Z)<|.yw (.pickF Z Z)<|.nt<|.me _ ⟨Z,Jt⟩ ⟨Z,Jt⟩ (λ_ s=>s) (by first | simp only [h9,h15,h18,aA,aB,Bool.true_or,aK] | simp only [h9,h15,aA,aB,Bool.true_or,aK] | simp only [h9,h18,aA,aB,Bool.true_or,aK])
  exact .gG<|.gG<|.gG<|.gG<|.gy (.pickF Z Z)<|.yw (.pickF Z Z)<|.nt<|.me _ ⟨Z,Jt⟩ ⟨Z,Jt⟩ (λ_ s=>s) (by first | simp only [h9,h15,h18,aA,aB,Bool.true_or,aK] | simp only [h9,h15,aA,aB,Bool.true_or,aK] | simp only [h9,h18,aA,aB,Bool.true_or,aK])
 have en:=hC;refine .cd Z (λh24=>?_) (λh24=>?_)
 ·refine .sr<|.az Z<|.tR<|?_
  refine y9 Z Z λW s=>⟨?_,s.ext⟩
  first
   | (rw [QC,<-en,h24];rfl)
   | (rw [QC,<-en,h24,Bool.not_false,aA])
 refine .sk<|.tN<|.sr<|.fA Z cJ<|.lD Z dE cO Z<|.yw (.call qR Z (λW s=>lC H 76 [] qK ex hs1 vS (λa _=>QD H G a) W s.agr))<|.yw (.not Z)<|.az Z<|?_
 refine y9 Z Z λW s=>⟨?_,s.ext⟩
 first
  | (rw [QC,<-en,h24];rfl)
  | (rw [QC,<-en,h24,Bool.not_false,aA])
theorem GK:∀ l,HY l=l.any qK
 | []=>rfl
 | e::r=>by rw [HY,List.any_cons,GK r]
theorem rV:∀ l,yX l=l.all eL
 | []=>rfl
 | e::r=>by rw [yX,fZ,rV r]
theorem bE4 (op:UInt8) (nm:Str) (n:Int64) (args:List Ex):qK (.mk op nm n args)=((decide (op=5) && !xJ nm && !fN nm) || ((decide (op=6) || decide (op=8)) && !xJ nm) || args.any qK):=by rw [qK,GK]
def tnB (op:UInt8) (nm:Str):Bool :=
 if op=5\/op=6\/op=8 then (match eI nm with | some (a,b)=>fN a && fN b | none=>decide (op=5) && fN nm) else true
theorem WH:∀ {l:Str},l.all jC=true->eI l=none
 | [],_=>rfl
 | c::r,h=>by
  rw [fZ,aE] at h
  have hc:¬ c=46:=by
   rintro rfl;exact absurd h.1 (by decide)
  rw [eI,aF hc,WH h.2];rfl
theorem WI {n:Str} (h:fN n=true):eI n=none:=WH (lK h).2.2.1
theorem bK9 (op:UInt8) (nm:Str):((decide (op=5) && !xJ nm && !fN nm) || ((decide (op=6) || decide (op=8)) && !xJ nm))=!tnB op nm:=by
 unfold tnB xJ
 by_cases h5:op=5
 ·subst h5;rw [aL (.inl Z)];cases hs:eI nm with
  | none=>simp
  | some x =>
   have hn:fN nm=false:=by
    cases h:fN nm with
    | false=>rfl
    | true=>rw [WI h] at hs;cases hs
   rw [hn];simp
 ·by_cases h6:op=6\/op=8
  ·rw [aL (.inr h6)];have e:(decide (op=6) || decide (op=8))=true:=by rcases h6 with rfl | rfl <;> decide
   rw [e,aP h5];cases hs:eI nm with
   | none=>simp
   | some x=>simp
  ·have e:(decide (op=6) || decide (op=8))=false:=by
    simp only [tV] at h6;rw [aP h6.1,aP h6.2];rfl
   rw [aF (by rintro (h | h | h);exact h5 h;exact h6 (.inl h);exact h6 (.inr h)),e,aP h5];rfl
theorem AS {q:UInt8->Prop} [DecidablePred q] (h:∀ i∈List.range 256,q (UInt8.ofNat i)) (op:UInt8):q op:=by
 have:=h op.toNat (bY.2 op.toNat_lt)
 rwa [gZ] at this
def aZ2 (op:UInt8) (nm:Str) (n:Int64) (k:Nat):Bool :=
 (decide (op=1) || decide (op=4) || decide (op=5) || decide (op=6) || decide (op=8) || decide (op=9) || (decide (11<=op.toNat) && decide (op.toNat<=15))) && decide (arR op.toNat=(k:Nat)) && (decide (op=1) || decide (n=0)) && decide (0<=n.toInt) && (decide (nm=[]) || decide (op=5) || decide (op=6) || decide (op=8))
variable {n:Nat}
theorem NL {m:Int} (h:m=(k:Nat)):decide (m=(n:Nat))=decide (n=k):=by
 rw [h,bH,aD,aD];omega
theorem RZ (op:UInt8) (nm:Str) (n:Int64) (args:List Ex):eL (.mk op nm n args)=(aZ2 op nm n args.length && args.all eL):=by
 rw [eL,rV];unfold aZ2
 have r1:decide (n=0)=true->decide (0<=n.toInt)=true:=by
  intro h;rw [aD] at h;subst h
  decide
 have r2:decide (args.length=0)=true->args.all eL=true:=by
  intro h;rw [aD] at h;rw [bI h];rfl
 generalize args.all eL=z at r2|-;generalize decide (0<=n.toInt)=c at r1|-;generalize decide (n=0)=b at r1|-;generalize decide (nm=[])=a
 by_cases h1:op=1
 ·subst h1;rw [NL (k:=0) (by decide)];generalize decide (args.length=0)=d at r2|-;simp only [bP]
  revert a b c d z;decide
 by_cases h4:op=4
 ·subst h4;rw [NL (k:=0) (by decide)];generalize decide (args.length=0)=d at r2|-;simp only [aF (show ¬ (4:UInt8)=1 by decide),bP]
  revert a b c d z;decide
 by_cases h5:op=5\/op=8
 ·rw [aF h1,aF h4,aL h5];have e:arR op.toNat=0:=by rcases h5 with rfl | rfl <;> decide
  rw [NL (k:=0) (by rw [e];rfl)];generalize decide (args.length=0)=d at r2|-;rcases h5 with rfl | rfl <;> (revert a b c d z;decide)
 by_cases h6:op=6
 ·subst h6;rw [NL (k:=1) (by decide)];generalize decide (args.length=1)=d;clear r2;simp only [aF (show ¬ (6:UInt8)=1 by decide),aF (show ¬ (6:UInt8)=4 by decide),aF (show ¬ ((6:UInt8)=5\/(6:UInt8)=8) by decide),bP]
  revert a b c d z;decide
 by_cases h9:op=9
 ·subst h9;rw [NL (k:=1) (by decide)];generalize decide (args.length=1)=d;clear r2;simp only [aF (show ¬ (9:UInt8)=1 by decide),aF (show ¬ (9:UInt8)=4 by decide),aF (show ¬ ((9:UInt8)=5\/(9:UInt8)=8) by decide),aF (show ¬ (9:UInt8)=6 by decide),bP]
  revert a b c d z;decide
 rw [aF h1,aF h4,aF h5,aF h6,aF h9];clear r2
 by_cases hb:op=11\/op=12\/op=13\/op=14\/op=15
 ·rw [aL hb];have e:arR op.toNat=2:=by rcases hb with rfl | rfl | rfl | rfl | rfl <;> decide
  rw [NL (k:=2) (by rw [e];rfl)];generalize decide (args.length=2)=d;rcases hb with rfl | rfl | rfl | rfl | rfl <;> (revert a b c d z;decide)
 ·rw [aF hb]
  have e:(decide (op=1) || decide (op=4) || decide (op=5) || decide (op=6) || decide (op=8) || decide (op=9) || (decide (11<=op.toNat) && decide (op.toNat<=15)))=false:=by
   have:=AS (q:=λop=>op=1\/op=4\/(op=5\/op=8)\/op=6\/op=9\/(op=11\/op=12\/op=13\/op=14\/op=15)\/(decide (op=1) || decide (op=4) || decide (op=5) || decide (op=6) || decide (op=8) || decide (op=9) || (decide (11<=op.toNat) && decide (op.toNat<=15)))=false) (by decide +kernel) op;rcases this with h | h | h | h | h | h | h
   ·exact absurd h h1
   ·exact absurd h h4
   ·exact absurd h h5
   ·exact absurd h h6
   ·exact absurd h h9
   ·exact absurd h hb
   ·exact h
  rw [e];rfl
theorem aH7:dK prg 77=true:=by kernel_rfl
theorem aH5:dK prg 80=true:=by kernel_rfl
theorem MM:dY prg 157 0=some 0:=by kernel_rfl
theorem ML:dY prg 157 3=some 3:=by kernel_rfl
theorem MK:dY prg 157 4=some 4:=by kernel_rfl
theorem MJ:dY prg 157 5=some 5:=by kernel_rfl
theorem uE:dY prg 157 6=some 6:=by kernel_rfl
theorem BC (op:UInt8):(cK op).ar<=2/\(cK op).ex<=1:=AS (q:=λop=>(cK op).ar<=2/\(cK op).ex<=1) (by decide +kernel) op
theorem nn0:decide (¬ ((n:Nat):Int)=((k:Nat):Int))=!decide (n=k):=by rw [<-n0,decide_not]
theorem le4:decide (((n:Nat):Int)<=4)=decide (n<=4):=by rw [bH,aD,aD];omega
theorem QR {op:UInt8} {nm fd:Str} {b:Int64} {ex:List Ex} {args:List Fm} :kY (.mk op nm fd a b ex args)=(decide (¬ (cK op).lv=0) && ((cK op).nm || decide (nm=[])) && ((cK op).fd || decide (fd=[])) && decide (args.length=(cK op).ar) && FN (.mk op nm fd a b ex args) && CI (.mk op nm fd a b ex args)):=rfl
theorem nQ {op:UInt8} {nm fd:Str} {b:Int64} {ex:List Ex} {args:List Fm} (h:(decide ((cK op).lv=0) || (!(cK op).nm && !decide (nm=[])) || (!(cK op).fd && !decide (fd=[])) || !decide (args.length=(cK op).ar))=true):kY (.mk op nm fd a b ex args)=false:=by
 rw [QR,decide_not];generalize decide ((cK op).lv=0)=x1 at *;generalize (cK op).nm=x2 at *;generalize decide (nm=[])=x3 at *;generalize (cK op).fd=x4 at *;generalize decide (fd=[])=x5 at *;generalize decide (args.length=(cK op).ar)=x6 at *;generalize FN (.mk op nm fd a b ex args)=x7;generalize CI (.mk op nm fd a b ex args)=x8
 revert h
 cases x1 <;> cases x2 <;> cases x3 <;> cases x4 <;> cases x5 <;> cases x6 <;> simp
theorem eN {op:UInt8} {nm fd:Str} {b:Int64} {ex:List Ex} {args:List Fm} (h:FN (.mk op nm fd a b ex args)=false):kY (.mk op nm fd a b ex args)=false:=by rw [QR,h,Bool.and_false,aB]
theorem cC {op:UInt8} {nm fd:Str} {b:Int64} {ex:List Ex} {args:List Fm} (h:(decide ((cK op).lv=0) || (!(cK op).nm && !decide (nm=[])) || (!(cK op).fd && !decide (fd=[])) || !decide (args.length=(cK op).ar))=false) (hb:FN (.mk op nm fd a b ex args)=true):kY (.mk op nm fd a b ex args)=CI (.mk op nm fd a b ex args):=by
 rw [QR,decide_not,hb];generalize decide ((cK op).lv=0)=x1 at *;generalize (cK op).nm=x2 at *;generalize decide (nm=[])=x3 at *;generalize (cK op).fd=x4 at *;generalize decide (fd=[])=x5 at *;generalize decide (args.length=(cK op).ar)=x6 at *
 revert h
 cases x1 <;> cases x2 <;> cases x3 <;> cases x4 <;> cases x5 <;> cases x6 <;> simp
theorem bP8 {n:Int64} :(n=0)=(n.toInt=0):=by have:=@i0 n;rw [bH,aD,aD] at this;exact propext this.symm
theorem vE {op:UInt8} {nm fd:Str} {b:Int64} {ex:List Ex} {args:List Fm} (h:(cK op).wn=true):FN (.mk op nm fd a b ex args)=decide ((a.toInt=0/\b.toInt=-1)\/(0<=a.toInt/\a.toInt<=b.toInt/\b.toInt<=200)):=by
 unfold FN;rw [aL (show (cK (Fm.mk op nm fd a b ex args).op).wn=true from h),bH];show ((decide (a=0) && decide (b.toInt=-1)) || (decide (0<=a.toInt) && decide (a.toInt<=b.toInt) && decide (b.toInt<=200)))=true↔_;rw [bC,aE,aE,aE,aD,aD,aD,aD,aD,aD,bP8];omega
theorem vG {op:UInt8} {nm fd:Str} {b:Int64} {ex:List Ex} {args:List Fm} (h:(cK op).wn=false) (h2:(cK op).am=true):FN (.mk op nm fd a b ex args)=decide (-1000000<=a.toInt/\a.toInt<=b.toInt/\b.toInt<=1000000/\b.toInt - a.toInt<32):=by
 unfold FN;rw [aF (show ¬ (cK (Fm.mk op nm fd a b ex args).op).wn=true by show ¬ (cK op).wn=true;rw [h];decide),aL (show (cK (Fm.mk op nm fd a b ex args).op).am=true from h2),bH];show (decide (-1000000<=a.toInt) && decide (a.toInt<=b.toInt) && decide (b.toInt<=1000000) && decide (b.toInt - a.toInt<32))=true↔_;rw [aE,aE,aE,aD,aD,aD,aD,aD];omega
theorem vF {op:UInt8} {nm fd:Str} {b:Int64} {ex:List Ex} {args:List Fm} (h:(cK op).wn=false) (h2:(cK op).am=false):FN (.mk op nm fd a b ex args)=decide (a.toInt=0/\b.toInt=0):=by
 unfold FN;rw [aF (show ¬ (cK (Fm.mk op nm fd a b ex args).op).wn=true by show ¬ (cK op).wn=true;rw [h];decide),aF (show ¬ (cK (Fm.mk op nm fd a b ex args).op).am=true by show ¬ (cK op).am=true;rw [h2];decide),bH];show (decide (a=0) && decide (b=0))=true↔_;rw [aE,aD,aD,aD,bP8,bP8]
theorem qN {l:List Ex} :(!l.any ZG)=l.all λe=>HJ e || eL e:=by
 induction l with
 | nil=>rfl
 | cons e r ih=>rw [List.any_cons,fZ,<-ih,aT0];cases HJ e <;> cases eL e <;> simp
theorem uK {op:UInt8} {nm fd:Str} {b:Int64} {ex:List Ex} {args:List Fm} (h:op=7):CI (.mk op nm fd a b ex args)=(decide (ex.length<=4) && ex.all λe=>HJ e || eL e):=by unfold CI;rw [aL (show (Fm.mk op nm fd a b ex args).op=7 from h)];rfl
theorem aV0 {op:UInt8} {nm fd:Str} {b:Int64} {ex:List Ex} {args:List Fm} (h:¬ op=7):CI (.mk op nm fd a b ex args)=(decide (ex.length=(cK op).ex) && (if op=3 then IL (ex.headD (.mk 0 [] 0 [])) else if op=5 then eL (ex.headD (.mk 0 [] 0 [])) else if op=18 then decide ((ex.headD (.mk 0 [] 0 [])).op=1) && eL (ex.headD (.mk 0 [] 0 [])) && decide ((ex.headD (.mk 0 [] 0 [])).n.toInt<=32) else true)):=by unfold CI;rw [aF (show ¬ (Fm.mk op nm fd a b ex args).op=7 from h)];rfl
theorem GX {op:UInt8} {nm fd:Str} {b:Int64} {ex:List Ex} {args:List Fm} (h:¬ op=7) (h2:¬ ex.length=(cK op).ex):CI (.mk op nm fd a b ex args)=false:=by rw [aV0 h,aP h2];rfl
theorem GW {op:UInt8} {nm fd:Str} {b:Int64} {ex:List Ex} {args:List Fm} (h:¬ op=7) (h2:ex.length=(cK op).ex) (h3:¬ op=3) (h5:¬ op=5) (h18:¬ op=18):CI (.mk op nm fd a b ex args)=true:=by rw [aV0 h,aS h2,aF h3,aF h5,aF h18];rfl
theorem GZ {op:UInt8} {nm fd:Str} {b:Int64} {args:List Fm} {e0:Ex} (h:op=3):CI (.mk op nm fd a b [e0] args)=IL e0:=by subst h;rw [aV0 (by decide),aL rfl];rfl
theorem GY {op:UInt8} {nm fd:Str} {b:Int64} {args:List Fm} {e0:Ex} (h:op=5):CI (.mk op nm fd a b [e0] args)=eL e0:=by subst h;rw [aV0 (by decide),aF (by decide),aL rfl];rfl
theorem jQ {op:UInt8} {nm fd:Str} {b:Int64} {args:List Fm} {op0:UInt8} {nm0:Str} {m0:Int64} {args0:List Ex} (h:op=18):CI (.mk op nm fd a b [.mk op0 nm0 m0 args0] args)=(decide (((op0.toNat:Nat):Int)=1) && eL (.mk op0 nm0 m0 args0) && decide (m0.toInt<=32)):=by subst h;rw [aV0 (by decide),aF (by decide),aF (by decide),aL rfl,k81];rfl
set_option maxHeartbeats 2000000 in
theorem WS (H:Hp) (Gt:Gf H) (f:Fm):FFn H 38 kY f:=by
 intro cs w h hA;obtain ⟨op,nm,fd,a,b,ex,args⟩:=f;obtain ⟨p1,c1,p2,c2,rfl,hs1,hs2,hnm,hfd⟩:=iX h;have hcap:=hs1.cap;have hcap2:=hs2.cap;refine Sx.enter (H:=H) func38 rfl ntmps38 rfl hA ?_;refine .sr<|.bx Z Z Z λb1=>.a Z Z<|.ns<|.fA Z eF<|.lD Z hZ Hm Z<|.yw (.call (v:=.agg (fsC (cK op)).toArray) qP Z (λW s=>oK H Gt op W s.agr))<|.al DQ Z λb3=>.sW .head Z Z zO (by simp [fsC,Value.oneCell',cH]) Z<|.nt<|.sq<|.cu (X:=Bool) [(1,_),(3,_)] ⟨Z,Z,Jt⟩ (λz=>[(38,.bool z)]) (λz=>H) (λz=>[.box b3 (fsC (cK op)) 157,.box b1 [.int .u8 op.toNat,cH nm,cH fd,.int .i64 a.toInt,.int .i64 b.toInt,.slice p1 ex.length c1,.slice p2 args.length c2] 35]) (λz=>z=(decide ((cK op).lv=0) || (!(cK op).nm && !decide (nm=[])) || (!(cK op).fd && !decide (fd=[])) || !decide (args.length=(cK op).ar))) ?_ λz hC=>?_
 ·
  refine .rg<|.fA Z MM<|.lD Z iM Hm Z<|.yw (.cast (.eql Z Z) (congrArg Value.bool er0))<|.mv Z<|.b2 (λh10=>?_) (λh10=>?_)
  ·exact .gG<|.gG<|.gG<|.gG<|.gV<|.gV<|.gV<|.gG<|.yw (.pickT Z Z)<|.mv Z<|.gG<|.gG<|.gG<|.gG<|.gV<|.gV<|.gV<|.gG<|.yw (.pickT Z Z)<|.mv Z<|.gG<|.gG<|.gG<|.gG<|.gG<|.gG<|.gG<|.yw (.pickT Z Z)<|.nt<|.me _ ⟨Z,Jt⟩ ⟨Z,Z,Jt⟩ (λ_ s=>s) (by first | (simp only [h10,h14,h20,h24,h30,aA,aB,Bool.true_or,aK,Bool.or_false,Bool.or_true];done) | (simp only [h10,h14,h20,h24,aA,aB,Bool.true_or,aK,Bool.or_false,Bool.or_true];done) | (simp only [h10,h14,h24,h30,aA,aB,Bool.true_or,aK,Bool.or_false,Bool.or_true];done) | (simp only [h10,h14,h24,aA,aB,Bool.true_or,aK,Bool.or_false,Bool.or_true];done) | (simp only [h10,h14,h20,aA,aB,Bool.true_or,aK,Bool.or_false,Bool.or_true];done) | (simp only [h10,aA,aB,Bool.true_or,aK,Bool.or_false,Bool.or_true];done) )
  refine .gy (.fieldAddr Z CU)<|.gy (.load Z jI Hm Z)<|.gy (.not Z)<|.gy (.move Z)<|.b2 (λh14=>?_) (λh14=>?_)
  ·refine .gy (.fieldAddr Z fV)<|.gy (.load Z cZ cO Z)<|.gy (.cast (.neS Z Z) (congrArg Value.bool decide_not))<|.gy (.pickT Z Z)<|.yw (.pickF Z Z)<|.mv Z<|.b2 (λh20=>?_) (λh20=>?_)
   ·exact .gG<|.gG<|.gG<|.gG<|.gV<|.gV<|.gV<|.gG<|.yw (.pickT Z Z)<|.mv Z<|.gG<|.gG<|.gG<|.gG<|.gG<|.gG<|.gG<|.yw (.pickT Z Z)<|.nt<|.me _ ⟨Z,Jt⟩ ⟨Z,Z,Jt⟩ (λ_ s=>s) (by first | (simp only [h10,h14,h20,h24,h30,aA,aB,Bool.true_or,aK,Bool.or_false,Bool.or_true];done) | (simp only [h10,h14,h20,h24,aA,aB,Bool.true_or,aK,Bool.or_false,Bool.or_true];done) | (simp only [h10,h14,h24,h30,aA,aB,Bool.true_or,aK,Bool.or_false,Bool.or_true];done) | (simp only [h10,h14,h24,aA,aB,Bool.true_or,aK,Bool.or_false,Bool.or_true];done) | (simp only [h10,h14,h20,aA,aB,Bool.true_or,aK,Bool.or_false,Bool.or_true];done) | (simp only [h10,aA,aB,Bool.true_or,aK,Bool.or_false,Bool.or_true];done) )
   refine .gy (.fieldAddr Z uF)<|.gy (.load Z jI Hm Z)<|.gy (.not Z)<|.gy (.move Z)<|.b2 (λh24=>?_) (λh24=>?_)
   ·refine .gy (.fieldAddr Z fU)<|.gy (.load Z cZ cO Z)<|.gy (.cast (.neS Z Z) (congrArg Value.bool decide_not))<|.gy (.pickT Z Z)<|.yw (.pickF Z Z)<|.mv Z<|.b2 (λh30=>?_) (λh30=>?_)
    ·exact .gG<|.gG<|.gG<|.gG<|.gG<|.gG<|.gG<|.yw (.pickT Z Z)<|.nt<|.me _ ⟨Z,Jt⟩ ⟨Z,Z,Jt⟩ (λ_ s=>s) (by first | (simp only [h10,h14,h20,h24,h30,aA,aB,Bool.true_or,aK,Bool.or_false,Bool.or_true];done) | (simp only [h10,h14,h20,h24,aA,aB,Bool.true_or,aK,Bool.or_false,Bool.or_true];done) | (simp only [h10,h14,h24,h30,aA,aB,Bool.true_or,aK,Bool.or_false,Bool.or_true];done) | (simp only [h10,h14,h24,aA,aB,Bool.true_or,aK,Bool.or_false,Bool.or_true];done) | (simp only [h10,h14,h20,aA,aB,Bool.true_or,aK,Bool.or_false,Bool.or_true];done) | (simp only [h10,aA,aB,Bool.true_or,aK,Bool.or_false,Bool.or_true];done) )
    exact .gy (.fieldAddr Z dD)<|.gy (.load Z fP cO Z)<|.gy (.lenSl eR Z)<|.gy (.fieldAddr Z uE)<|.gy (.load Z iM Hm Z)<|.gy (.conv Z kS lH (c:=(((cK op).ar:Nat):Int)) (w64 (by omega) (by have:=BC op;omega)))<|.gy (.cast (.neq Z Z) (congrArg Value.bool nn0))<|.yw (.pickF Z Z)<|.nt<|.me _ ⟨Z,Jt⟩ ⟨Z,Z,Jt⟩ (λ_ s=>s) (by first | (simp only [h10,h14,h20,h24,h30,aA,aB,Bool.true_or,aK,Bool.or_false,Bool.or_true];done) | (simp only [h10,h14,h20,h24,aA,aB,Bool.true_or,aK,Bool.or_false,Bool.or_true];done) | (simp only [h10,h14,h24,h30,aA,aB,Bool.true_or,aK,Bool.or_false,Bool.or_true];done) | (simp only [h10,h14,h24,aA,aB,Bool.true_or,aK,Bool.or_false,Bool.or_true];done) | (simp only [h10,h14,h20,aA,aB,Bool.true_or,aK,Bool.or_false,Bool.or_true];done) | (simp only [h10,aA,aB,Bool.true_or,aK,Bool.or_false,Bool.or_true];done) )
   exact .gG<|.gG<|.gG<|.gy (.pickF Z Z)<|.yw (.pickF Z Z)<|.mv Z<|.gy (.fieldAddr Z dD)<|.gy (.load Z fP cO Z)<|.gy (.lenSl eR Z)<|.gy (.fieldAddr Z uE)<|.gy (.load Z iM Hm Z)<|.gy (.conv Z kS lH (c:=(((cK op).ar:Nat):Int)) (w64 (by omega) (by have:=BC op;omega)))<|.gy (.cast (.neq Z Z) (congrArg Value.bool nn0))<|.yw (.pickF Z Z)<|.nt<|.me _ ⟨Z,Jt⟩ ⟨Z,Z,Jt⟩ (λ_ s=>s) (by first | (simp only [h10,h14,h20,h24,h30,aA,aB,Bool.true_or,aK,Bool.or_false,Bool.or_true];done) | (simp only [h10,h14,h20,h24,aA,aB,Bool.true_or,aK,Bool.or_false,Bool.or_true];done) | (simp only [h10,h14,h24,h30,aA,aB,Bool.true_or,aK,Bool.or_false,Bool.or_true];done) | (simp only [h10,h14,h24,aA,aB,Bool.true_or,aK,Bool.or_false,Bool.or_true];done) | (simp only [h10,h14,h20,aA,aB,Bool.true_or,aK,Bool.or_false,Bool.or_true];done) | (simp only [h10,aA,aB,Bool.true_or,aK,Bool.or_false,Bool.or_true];done) )
  refine .gG<|.gG<|.gG<|.gy (.pickF Z Z)<|.yw (.pickF Z Z)<|.mv Z<|.gy (.fieldAddr Z uF)<|.gy (.load Z jI Hm Z)<|.gy (.not Z)<|.gy (.move Z)<|.b2 (λh24=>?_) (λh24=>?_)
  ·refine .gy (.fieldAddr Z fU)<|.gy (.load Z cZ cO Z)<|.gy (.cast (.neS Z Z) (congrArg Value.bool decide_not))<|.gy (.pickT Z Z)<|.yw (.pickF Z Z)<|.mv Z<|.b2 (λh30=>?_) (λh30=>?_)
   ·exact .gG<|.gG<|.gG<|.gG<|.gG<|.gG<|.gG<|.yw (.pickT Z Z)<|.nt<|.me _ ⟨Z,Jt⟩ ⟨Z,Z,Jt⟩ (λ_ s=>s) (by first | (simp only [h10,h14,h20,h24,h30,aA,aB,Bool.true_or,aK,Bool.or_false,Bool.or_true];done) | (simp only [h10,h14,h20,h24,aA,aB,Bool.true_or,aK,Bool.or_false,Bool.or_true];done) | (simp only [h10,h14,h24,h30,aA,aB,Bool.true_or,aK,Bool.or_false,Bool.or_true];done) | (simp only [h10,h14,h24,aA,aB,Bool.true_or,aK,Bool.or_false,Bool.or_true];done) | (simp only [h10,h14,h20,aA,aB,Bool.true_or,aK,Bool.or_false,Bool.or_true];done) | (simp only [h10,aA,aB,Bool.true_or,aK,Bool.or_false,Bool.or_true];done) )
   exact .gy (.fieldAddr Z dD)<|.gy (.load Z fP cO Z)<|.gy (.lenSl eR Z)<|.gy (.fieldAddr Z uE)<|.gy (.load Z iM Hm Z)<|.gy (.conv Z kS lH (c:=(((cK op).ar:Nat):Int)) (w64 (by omega) (by have:=BC op;omega)))<|.gy (.cast (.neq Z Z) (congrArg Value.bool nn0))<|.yw (.pickF Z Z)<|.nt<|.me _ ⟨Z,Jt⟩ ⟨Z,Z,Jt⟩ (λ_ s=>s) (by first | (simp only [h10,h14,h20,h24,h30,aA,aB,Bool.true_or,aK,Bool.or_false,Bool.or_true];done) | (simp only [h10,h14,h20,h24,aA,aB,Bool.true_or,aK,Bool.or_false,Bool.or_true];done) | (simp only [h10,h14,h24,h30,aA,aB,Bool.true_or,aK,Bool.or_false,Bool.or_true];done) | (simp only [h10,h14,h24,aA,aB,Bool.true_or,aK,Bool.or_false,Bool.or_true];done) | (simp only [h10,h14,h20,aA,aB,Bool.true_or,aK,Bool.or_false,Bool.or_true];done) | (simp only [h10,aA,aB,Bool.true_or,aK,Bool.or_false,Bool.or_true];done) )
  exact .gG<|.gG<|.gG<|.gy (.pickF Z Z)<|.yw (.pickF Z Z)<|.mv Z<|.gy (.fieldAddr Z dD)<|.gy (.load Z fP cO Z)<|.gy (.lenSl eR Z)<|.gy (.fieldAddr Z uE)<|.gy (.load Z iM Hm Z)<|.gy (.conv Z kS lH (c:=(((cK op).ar:Nat):Int)) (w64 (by omega) (by have:=BC op;omega)))<|.gy (.cast (.neq Z Z) (congrArg Value.bool nn0))<|.yw (.pickF Z Z)<|.nt<|.me _ ⟨Z,Jt⟩ ⟨Z,Z,Jt⟩ (λ_ s=>s) (by first | (simp only [h10,h14,h20,h24,h30,aA,aB,Bool.true_or,aK,Bool.or_false,Bool.or_true];done) | (simp only [h10,h14,h20,h24,aA,aB,Bool.true_or,aK,Bool.or_false,Bool.or_true];done) | (simp only [h10,h14,h24,h30,aA,aB,Bool.true_or,aK,Bool.or_false,Bool.or_true];done) | (simp only [h10,h14,h24,aA,aB,Bool.true_or,aK,Bool.or_false,Bool.or_true];done) | (simp only [h10,h14,h20,aA,aB,Bool.true_or,aK,Bool.or_false,Bool.or_true];done) | (simp only [h10,aA,aB,Bool.true_or,aK,Bool.or_false,Bool.or_true];done) )
 have ez:=hC;refine .cd Z (λh38=>?_) (λh38=>?_)
 ·refine .sr<|.az Z<|.tR<|?_
  refine y9 Z Z λW s=>⟨?_,s.ext⟩
  first
   | (rw [nQ (ez.symm.trans h38)])
   | (rw [eN (by rw [vE h39,aP (aH (by rw [h66] at ew;exact ew.symm))])])
   | (rw [eN (by rw [vG h39 h67,aP (aH (by rw [h92] at ea;exact ea.symm))])])
   | (rw [eN (by rw [vF h39 h67,aP (aH (by rw [h93] at en;exact en.symm))])])
   | (rw [cC (ez.symm.trans h38) hb,uK q7,h109,aA,qN])
   | (rw [cC (ez.symm.trans h38) hb,uK q7,h109];rfl)
   | (rw [cC (ez.symm.trans h38) hb,GX q7 hlx])
   | (rw [cC (ez.symm.trans h38) hb,GZ q3])
   | (rw [cC (ez.symm.trans h38) hb,GY q5])
   | (rw [cC (ez.symm.trans h38) hb,jQ q18,h146,h153,aA,aA])
   | (rw [cC (ez.symm.trans h38) hb,jQ q18,h146,h153];rfl)
   | (rw [cC (ez.symm.trans h38) hb,jQ q18,h146];rfl)
   | (rw [cC (ez.symm.trans h38) hb,GW q7 hlx q3 q5 q18])
 refine .sk<|.tN<|.cu (X:=Unit) [(1,_),(3,_)] ⟨Z,Z,Jt⟩ (λz=>[]) (λz=>H) (λz=>[.box b3 (fsC (cK op)) 157,.box b1 [.int .u8 op.toNat,cH nm,cH fd,.int .i64 a.toInt,.int .i64 b.toInt,.slice p1 ex.length c1,.slice p2 args.length c2] 35]) (λz=>FN (.mk op nm fd a b ex args)=true) ?_ λz hC=>?_
 ·
  refine .bk<|.sr<|.fA Z ML<|.lD Z jI Hm Z<|.aq Z<|.cd Z (λh39=>?_) (λh39=>?_)
  ·refine .cu (X:=Bool) [(1,_),(3,_)] ⟨Z,Z,Jt⟩ (λz=>[(66,.bool z)]) (λz=>H) (λz=>[.box b3 (fsC (cK op)) 157,.box b1 [.int .u8 op.toNat,cH nm,cH fd,.int .i64 a.toInt,.int .i64 b.toInt,.slice p1 ex.length c1,.slice p2 args.length c2] 35]) (λz=>z=decide (¬ ((a.toInt=0/\b.toInt=-1)\/(0<=a.toInt/\a.toInt<=b.toInt/\b.toInt<=200)))) ?_ λz hC=>?_
   ·
    refine .rg<|.fA Z eU<|.lD Z cR cO Z<|.yw (.neq Z Z)<|.mv Z<|.e2 (λh45=>?_) (λh45=>?_)
    ·refine .gG<|.gG<|.gG<|.yw (.pickT Z Z)<|.mv Z<|.gy (.fieldAddr Z eU)<|.gy (.load Z cR cO Z)<|.gy (.lss Z Z)<|.gy (.move Z)<|.b2 (λh54=>?_) (λh54=>?_)
     ·try simp only [dt] at h54
      exact .gG<|.gG<|.gG<|.gG<|.gG<|.gy (.pickT Z Z)<|.gy (.move Z)<|.gG<|.gG<|.gG<|.gy (.pickT Z Z)<|.yw (.pickT Z Z)<|.nt<|.me _ ⟨Z,Jt⟩ ⟨Z,Z,Jt⟩ (λ_ s=>s) (by rw [bH,aD];first | (rw [aD];omega) | exact ⟨λ_=>by omega,λ_=>rfl⟩ | exact ⟨λh=>(by cases h),λh=>by omega⟩)
     try simp only [df] at h54
     refine .gy (.fieldAddr Z eU)<|.gy (.load Z cR cO Z)<|.gy (.fieldAddr Z eQ)<|.gy (.load Z cR cO Z)<|.gy (.gtr Z Z)<|.gy (.pickF Z Z)<|.gy (.move Z)<|.b2 (λh61=>?_) (λh61=>?_)
     ·try simp only [dt] at h61
      exact .gG<|.gG<|.gG<|.gy (.pickT Z Z)<|.yw (.pickT Z Z)<|.nt<|.me _ ⟨Z,Jt⟩ ⟨Z,Z,Jt⟩ (λ_ s=>s) (by rw [bH,aD];first | (rw [aD];omega) | exact ⟨λ_=>by omega,λ_=>rfl⟩ | exact ⟨λh=>(by cases h),λh=>by omega⟩)
     try simp only [df] at h61
     exact .gy (.fieldAddr Z eQ)<|.gy (.load Z cR cO Z)<|.gy (.gtr Z Z)<|.gy (.pickF Z Z)<|.yw (.pickT Z Z)<|.nt<|.me _ ⟨Z,Jt⟩ ⟨Z,Z,Jt⟩ (λ_ s=>s) (by rw [bH,aD];first | (rw [aD];omega) | exact ⟨λ_=>by omega,λ_=>rfl⟩ | exact ⟨λh=>(by cases h),λh=>by omega⟩)
    refine .gy (.fieldAddr Z eQ)<|.gy (.load Z cR cO Z)<|.gy (.neq Z Z)<|.yw (.pickF Z Z)<|.mv Z<|.e2 (λh50=>?_) (λh50=>?_)
    ·refine .gy (.fieldAddr Z eU)<|.gy (.load Z cR cO Z)<|.gy (.lss Z Z)<|.gy (.move Z)<|.b2 (λh54=>?_) (λh54=>?_)
     ·try simp only [dt] at h54
      exact .gG<|.gG<|.gG<|.gG<|.gG<|.gy (.pickT Z Z)<|.gy (.move Z)<|.gG<|.gG<|.gG<|.gy (.pickT Z Z)<|.yw (.pickT Z Z)<|.nt<|.me _ ⟨Z,Jt⟩ ⟨Z,Z,Jt⟩ (λ_ s=>s) (by rw [bH,aD];first | (rw [aD];omega) | exact ⟨λ_=>by omega,λ_=>rfl⟩ | exact ⟨λh=>(by cases h),λh=>by omega⟩)
     try simp only [df] at h54
     refine .gy (.fieldAddr Z eU)<|.gy (.load Z cR cO Z)<|.gy (.fieldAddr Z eQ)<|.gy (.load Z cR cO Z)<|.gy (.gtr Z Z)<|.gy (.pickF Z Z)<|.gy (.move Z)<|.b2 (λh61=>?_) (λh61=>?_)
     ·try simp only [dt] at h61
      exact .gG<|.gG<|.gG<|.gy (.pickT Z Z)<|.yw (.pickT Z Z)<|.nt<|.me _ ⟨Z,Jt⟩ ⟨Z,Z,Jt⟩ (λ_ s=>s) (by rw [bH,aD];first | (rw [aD];omega) | exact ⟨λ_=>by omega,λ_=>rfl⟩ | exact ⟨λh=>(by cases h),λh=>by omega⟩)
     try simp only [df] at h61
     exact .gy (.fieldAddr Z eQ)<|.gy (.load Z cR cO Z)<|.gy (.gtr Z Z)<|.gy (.pickF Z Z)<|.yw (.pickT Z Z)<|.nt<|.me _ ⟨Z,Jt⟩ ⟨Z,Z,Jt⟩ (λ_ s=>s) (by rw [bH,aD];first | (rw [aD];omega) | exact ⟨λ_=>by omega,λ_=>rfl⟩ | exact ⟨λh=>(by cases h),λh=>by omega⟩)
    exact .gG<|.gG<|.gG<|.gG<|.gV<|.gV<|.gV<|.gV<|.gV<|.gG<|.gG<|.gV<|.gV<|.gV<|.gG<|.yw (.pickF Z Z)<|.nt<|.me _ ⟨Z,Jt⟩ ⟨Z,Z,Jt⟩ (λ_ s=>s) (by rw [bH,aD];first | (rw [aD];omega) | exact ⟨λ_=>by omega,λ_=>rfl⟩ | exact ⟨λh=>(by cases h),λh=>by omega⟩)
   have ew:=hC;refine .cd Z (λh66=>?_) (λh66=>?_)
   ·refine .sr<|.az Z<|.bR<|.tR<|?_
    refine y9 Z Z λW s=>⟨?_,s.ext⟩
    first
     | (rw [nQ (ez.symm.trans h38)])
     | (rw [eN (by rw [vE h39,aP (aH (by rw [h66] at ew;exact ew.symm))])])
     | (rw [eN (by rw [vG h39 h67,aP (aH (by rw [h92] at ea;exact ea.symm))])])
     | (rw [eN (by rw [vF h39 h67,aP (aH (by rw [h93] at en;exact en.symm))])])
     | (rw [cC (ez.symm.trans h38) hb,uK q7,h109,aA,qN])
     | (rw [cC (ez.symm.trans h38) hb,uK q7,h109];rfl)
     | (rw [cC (ez.symm.trans h38) hb,GX q7 hlx])
     | (rw [cC (ez.symm.trans h38) hb,GZ q3])
     | (rw [cC (ez.symm.trans h38) hb,GY q5])
     | (rw [cC (ez.symm.trans h38) hb,jQ q18,h146,h153,aA,aA])
     | (rw [cC (ez.symm.trans h38) hb,jQ q18,h146,h153];rfl)
     | (rw [cC (ez.symm.trans h38) hb,jQ q18,h146];rfl)
     | (rw [cC (ez.symm.trans h38) hb,GW q7 hlx q3 q5 q18])
   exact .sk<|.bN<|.tN<|.me () trivial ⟨Z,Z,Jt⟩ (λ_ s=>s) (by first | (rw [vE h39,aS (Classical.byContradiction λe=>by rw [h66] at ew;rw [aS e] at ew;cases ew)]) | (rw [vG h39 h67,aS (Classical.byContradiction λe=>by rw [h92] at ea;rw [aS e] at ea;cases ea)]) | (rw [vF h39 h67,aS (Classical.byContradiction λe=>by rw [h93] at en;rw [aS e] at en;cases en)]))
  refine .sr<|.fA Z MK<|.lD Z jI Hm Z<|.aq Z<|.cd Z (λh67=>?_) (λh67=>?_)
  ·refine .cu (X:=Bool) [(1,_),(3,_)] ⟨Z,Z,Jt⟩ (λz=>[(92,.bool z)]) (λz=>H) (λz=>[.box b3 (fsC (cK op)) 157,.box b1 [.int .u8 op.toNat,cH nm,cH fd,.int .i64 a.toInt,.int .i64 b.toInt,.slice p1 ex.length c1,.slice p2 args.length c2] 35]) (λz=>z=decide (¬ (-1000000<=a.toInt/\a.toInt<=b.toInt/\b.toInt<=1000000/\b.toInt - a.toInt<32))) ?_ λz hC=>?_
   ·
    refine .rg<|.fA Z eU<|.lD Z cR cO Z<|.yw (.lss Z Z)<|.mv Z<|.e2 (λh73=>?_) (λh73=>?_)
    ·exact .gG<|.gG<|.gG<|.gG<|.gG<|.yw (.pickT Z Z)<|.mv Z<|.gG<|.gG<|.gG<|.yw (.pickT Z Z)<|.mv Z<|.gG<|.gG<|.gG<|.gG<|.gG<|.gG<|.yw (.pickT Z Z)<|.nt<|.me _ ⟨Z,Jt⟩ ⟨Z,Z,Jt⟩ (λ_ s=>s) (by rw [bH,aD];first | (rw [aD];omega) | exact ⟨λ_=>by omega,λ_=>rfl⟩ | exact ⟨λh=>(by cases h),λh=>by omega⟩)
    refine .gy (.fieldAddr Z eU)<|.gy (.load Z cR cO Z)<|.gy (.fieldAddr Z eQ)<|.gy (.load Z cR cO Z)<|.gy (.gtr Z Z)<|.yw (.pickF Z Z)<|.mv Z<|.e2 (λh80=>?_) (λh80=>?_)
    ·exact .gG<|.gG<|.gG<|.yw (.pickT Z Z)<|.mv Z<|.gG<|.gG<|.gG<|.gG<|.gG<|.gG<|.yw (.pickT Z Z)<|.nt<|.me _ ⟨Z,Jt⟩ ⟨Z,Z,Jt⟩ (λ_ s=>s) (by rw [bH,aD];first | (rw [aD];omega) | exact ⟨λ_=>by omega,λ_=>rfl⟩ | exact ⟨λh=>(by cases h),λh=>by omega⟩)
    refine .gy (.fieldAddr Z eQ)<|.gy (.load Z cR cO Z)<|.gy (.gtr Z Z)<|.yw (.pickF Z Z)<|.mv Z<|.e2 (λh85=>?_) (λh85=>?_)
    ·exact .gG<|.gG<|.gG<|.gG<|.gG<|.gG<|.yw (.pickT Z Z)<|.nt<|.me _ ⟨Z,Jt⟩ ⟨Z,Z,Jt⟩ (λ_ s=>s) (by rw [bH,aD];first | (rw [aD];omega) | exact ⟨λ_=>by omega,λ_=>rfl⟩ | exact ⟨λh=>(by cases h),λh=>by omega⟩)
    exact .gy (.fieldAddr Z eQ)<|.gy (.load Z cR cO Z)<|.gy (.fieldAddr Z eU)<|.gy (.load Z cR cO Z)<|.gy (.sub Z Z (w6 (by omega)))<|.gy (.geq Z Z)<|.yw (.pickF Z Z)<|.nt<|.me _ ⟨Z,Jt⟩ ⟨Z,Z,Jt⟩ (λ_ s=>s) (by rw [bH,aD];first | (rw [aD];omega) | exact ⟨λ_=>by omega,λ_=>rfl⟩ | exact ⟨λh=>(by cases h),λh=>by omega⟩)
   have ea:=hC;refine .cd Z (λh92=>?_) (λh92=>?_)
   ·refine .sr<|.az Z<|.bR<|.tR<|?_
    refine y9 Z Z λW s=>⟨?_,s.ext⟩
    first
     | (rw [nQ (ez.symm.trans h38)])
     | (rw [eN (by rw [vE h39,aP (aH (by rw [h66] at ew;exact ew.symm))])])
     | (rw [eN (by rw [vG h39 h67,aP (aH (by rw [h92] at ea;exact ea.symm))])])
     | (rw [eN (by rw [vF h39 h67,aP (aH (by rw [h93] at en;exact en.symm))])])
     | (rw [cC (ez.symm.trans h38) hb,uK q7,h109,aA,qN])
     | (rw [cC (ez.symm.trans h38) hb,uK q7,h109];rfl)
     | (rw [cC (ez.symm.trans h38) hb,GX q7 hlx])
     | (rw [cC (ez.symm.trans h38) hb,GZ q3])
     | (rw [cC (ez.symm.trans h38) hb,GY q5])
     | (rw [cC (ez.symm.trans h38) hb,jQ q18,h146,h153,aA,aA])
     | (rw [cC (ez.symm.trans h38) hb,jQ q18,h146,h153];rfl)
     | (rw [cC (ez.symm.trans h38) hb,jQ q18,h146];rfl)
     | (rw [cC (ez.symm.trans h38) hb,GW q7 hlx q3 q5 q18])
   exact .sk<|.bN<|.tN<|.me () trivial ⟨Z,Z,Jt⟩ (λ_ s=>s) (by first | (rw [vE h39,aS (Classical.byContradiction λe=>by rw [h66] at ew;rw [aS e] at ew;cases ew)]) | (rw [vG h39 h67,aS (Classical.byContradiction λe=>by rw [h92] at ea;rw [aS e] at ea;cases ea)]) | (rw [vF h39 h67,aS (Classical.byContradiction λe=>by rw [h93] at en;rw [aS e] at en;cases en)]))
  refine .cu (X:=Bool) [(1,_),(3,_)] ⟨Z,Z,Jt⟩ (λz=>[(93,.bool z)]) (λz=>H) (λz=>[.box b3 (fsC (cK op)) 157,.box b1 [.int .u8 op.toNat,cH nm,cH fd,.int .i64 a.toInt,.int .i64 b.toInt,.slice p1 ex.length c1,.slice p2 args.length c2] 35]) (λz=>z=decide (¬ (a.toInt=0/\b.toInt=0))) ?_ λz hC=>?_
  ·
   refine .rg<|.fA Z eU<|.lD Z cR cO Z<|.yw (.neq Z Z)<|.mv Z<|.e2 (λh97=>?_) (λh97=>?_)
   ·exact .gG<|.gG<|.gG<|.yw (.pickT Z Z)<|.aq Z<|.me _ ⟨Z,Jt⟩ ⟨Z,Z,Jt⟩ (λ_ s=>s) (by rw [bH,aD];first | (rw [aD];omega) | exact ⟨λ_=>by omega,λ_=>rfl⟩ | exact ⟨λh=>(by cases h),λh=>by omega⟩)
   exact .gy (.fieldAddr Z eQ)<|.gy (.load Z cR cO Z)<|.gy (.neq Z Z)<|.yw (.pickF Z Z)<|.aq Z<|.me _ ⟨Z,Jt⟩ ⟨Z,Z,Jt⟩ (λ_ s=>s) (by rw [bH,aD];first | (rw [aD];omega) | exact ⟨λ_=>by omega,λ_=>rfl⟩ | exact ⟨λh=>(by cases h),λh=>by omega⟩)
  have en:=hC;refine .cd Z (λh93=>?_) (λh93=>?_)
  ·refine .sr<|.az Z<|.bR<|.tR<|?_
   refine y9 Z Z λW s=>⟨?_,s.ext⟩
   first
    | (rw [nQ (ez.symm.trans h38)])
    | (rw [eN (by rw [vE h39,aP (aH (by rw [h66] at ew;exact ew.symm))])])
    | (rw [eN (by rw [vG h39 h67,aP (aH (by rw [h92] at ea;exact ea.symm))])])
    | (rw [eN (by rw [vF h39 h67,aP (aH (by rw [h93] at en;exact en.symm))])])
    | (rw [cC (ez.symm.trans h38) hb,uK q7,h109,aA,qN])
    | (rw [cC (ez.symm.trans h38) hb,uK q7,h109];rfl)
    | (rw [cC (ez.symm.trans h38) hb,GX q7 hlx])
    | (rw [cC (ez.symm.trans h38) hb,GZ q3])
    | (rw [cC (ez.symm.trans h38) hb,GY q5])
    | (rw [cC (ez.symm.trans h38) hb,jQ q18,h146,h153,aA,aA])
    | (rw [cC (ez.symm.trans h38) hb,jQ q18,h146,h153];rfl)
    | (rw [cC (ez.symm.trans h38) hb,jQ q18,h146];rfl)
    | (rw [cC (ez.symm.trans h38) hb,GW q7 hlx q3 q5 q18])
  exact .sk<|.bN<|.tN<|.me () trivial ⟨Z,Z,Jt⟩ (λ_ s=>s) (by first | (rw [vE h39,aS (Classical.byContradiction λe=>by rw [h66] at ew;rw [aS e] at ew;cases ew)]) | (rw [vG h39 h67,aS (Classical.byContradiction λe=>by rw [h92] at ea;rw [aS e] at ea;cases ea)]) | (rw [vF h39 h67,aS (Classical.byContradiction λe=>by rw [h93] at en;rw [aS e] at en;cases en)]))
 have hb:=hC;refine .sq<|.sr<|.fA Z eF<|.lD Z hZ cO Z<|.yw (.eql Z Z)<|.nt<|.cd Z (λh104=>?_) (λh104=>?_)
 ·have q7:op=7:=aQ.1 (by have:=aH h104;show op.toNat=7;omega);refine .sr<|.fA Z cJ<|.lD Z dE cO Z<|.yw (.lenSl dO Z)<|.yw (.cast (.leq Z Z) (congrArg Value.bool le4))<|.mv Z<|.b2 (λh109=>?_) (λh109=>?_)
  ·refine .gy (.fieldAddr Z cJ)<|.gy (.load Z dE cO Z)<|.gy (.call qR Z (λW s=>lC H 77 [] ZG ex hs1 aH7 (λa _=>TY H a) W s.agr))<|.gy (.not Z)<|.yw (.pickT Z Z)<|.az Z<|.tR<|?_
   refine y9 Z Z λW s=>⟨?_,s.ext⟩
   first
    | (rw [nQ (ez.symm.trans h38)])
    | (rw [eN (by rw [vE h39,aP (aH (by rw [h66] at ew;exact ew.symm))])])
    | (rw [eN (by rw [vG h39 h67,aP (aH (by rw [h92] at ea;exact ea.symm))])])
    | (rw [eN (by rw [vF h39 h67,aP (aH (by rw [h93] at en;exact en.symm))])])
    | (rw [cC (ez.symm.trans h38) hb,uK q7,h109,aA,qN])
    | (rw [cC (ez.symm.trans h38) hb,uK q7,h109];rfl)
    | (rw [cC (ez.symm.trans h38) hb,GX q7 hlx])
    | (rw [cC (ez.symm.trans h38) hb,GZ q3])
    | (rw [cC (ez.symm.trans h38) hb,GY q5])
    | (rw [cC (ez.symm.trans h38) hb,jQ q18,h146,h153,aA,aA])
    | (rw [cC (ez.symm.trans h38) hb,jQ q18,h146,h153];rfl)
    | (rw [cC (ez.symm.trans h38) hb,jQ q18,h146];rfl)
    | (rw [cC (ez.symm.trans h38) hb,GW q7 hlx q3 q5 q18])
  refine .gG<|.gG<|.gG<|.gG<|.yw (.pickF Z Z)<|.az Z<|.tR<|?_
  refine y9 Z Z λW s=>⟨?_,s.ext⟩
  first
   | (rw [nQ (ez.symm.trans h38)])
   | (rw [eN (by rw [vE h39,aP (aH (by rw [h66] at ew;exact ew.symm))])])
   | (rw [eN (by rw [vG h39 h67,aP (aH (by rw [h92] at ea;exact ea.symm))])])
   | (rw [eN (by rw [vF h39 h67,aP (aH (by rw [h93] at en;exact en.symm))])])
   | (rw [cC (ez.symm.trans h38) hb,uK q7,h109,aA,qN])
   | (rw [cC (ez.symm.trans h38) hb,uK q7,h109];rfl)
   | (rw [cC (ez.symm.trans h38) hb,GX q7 hlx])
   | (rw [cC (ez.symm.trans h38) hb,GZ q3])
   | (rw [cC (ez.symm.trans h38) hb,GY q5])
   | (rw [cC (ez.symm.trans h38) hb,jQ q18,h146,h153,aA,aA])
   | (rw [cC (ez.symm.trans h38) hb,jQ q18,h146,h153];rfl)
   | (rw [cC (ez.symm.trans h38) hb,jQ q18,h146];rfl)
   | (rw [cC (ez.symm.trans h38) hb,GW q7 hlx q3 q5 q18])
 have q7:¬ op=7:=λe=>aN h104 (by rw [e];rfl);refine .sk<|.tN<|.sq<|.sr<|.fA Z cJ<|.lD Z dE cO Z<|.yw (.lenSl dO Z)<|.fA Z MJ<|.lD Z iM Hm Z<|.yw (.conv Z kS lH (c:=(((cK op).ex:Nat):Int)) (w64 (by omega) (by have:=BC op;omega)))<|.yw (.cast (.neq Z Z) (congrArg Value.bool nn0))<|.nt<|.cd Z (λh121=>?_) (λh121=>?_)
 ·have hlx:¬ ex.length=(cK op).ex:=λe=>by rw [aS e] at h121;cases h121
  refine .sr<|.az Z<|.tR<|?_
  refine y9 Z Z λW s=>⟨?_,s.ext⟩
  first
   | (rw [nQ (ez.symm.trans h38)])
   | (rw [eN (by rw [vE h39,aP (aH (by rw [h66] at ew;exact ew.symm))])])
   | (rw [eN (by rw [vG h39 h67,aP (aH (by rw [h92] at ea;exact ea.symm))])])
   | (rw [eN (by rw [vF h39 h67,aP (aH (by rw [h93] at en;exact en.symm))])])
   | (rw [cC (ez.symm.trans h38) hb,uK q7,h109,aA,qN])
   | (rw [cC (ez.symm.trans h38) hb,uK q7,h109];rfl)
   | (rw [cC (ez.symm.trans h38) hb,GX q7 hlx])
   | (rw [cC (ez.symm.trans h38) hb,GZ q3])
   | (rw [cC (ez.symm.trans h38) hb,GY q5])
   | (rw [cC (ez.symm.trans h38) hb,jQ q18,h146,h153,aA,aA])
   | (rw [cC (ez.symm.trans h38) hb,jQ q18,h146,h153];rfl)
   | (rw [cC (ez.symm.trans h38) hb,jQ q18,h146];rfl)
   | (rw [cC (ez.symm.trans h38) hb,GW q7 hlx q3 q5 q18])
 have hlx:ex.length=(cK op).ex:=Classical.byContradiction λe=>by rw [aP e] at h121;cases h121
 refine .sk<|.tN<|.sq<|.sr<|.fA Z eF<|.lD Z hZ cO Z<|.nt<|.bk<|.sr<|.yw (.eql Z Z)<|.aq Z<|.cd Z (λh124=>?_) (λh124=>?_)
 ·have q3:op=3:=aQ.1 (by have:=aH h124;show op.toNat=3;omega);obtain ⟨e0,rfl⟩:∃ e0,ex=[e0]:=List.length_eq_one_iff.1 (by rw [hlx,q3];rfl);obtain ⟨bE,oE,cE,hpE,rE,lE,mE⟩:=hs1.elem (i:=0) (d:=dEx .u8 e0) rfl;cases hpE;refine .sr<|.fA Z cJ<|.lD Z dE cO Z<|.yw (.indexSl dO Z Z (i:=0) Z (Nat.succ_pos _) (q:=oE+0 * 4) Z)<|.yw (.loadMW Z dP mE lE)<|.yw (.call aH5 Z (λW s=>aD9 H e0 cE W rE s.agr))<|.az Z<|.bR<|.tR<|?_
  refine y9 Z Z λW s=>⟨?_,s.ext⟩
  first
   | (rw [nQ (ez.symm.trans h38)])
   | (rw [eN (by rw [vE h39,aP (aH (by rw [h66] at ew;exact ew.symm))])])
   | (rw [eN (by rw [vG h39 h67,aP (aH (by rw [h92] at ea;exact ea.symm))])])
   | (rw [eN (by rw [vF h39 h67,aP (aH (by rw [h93] at en;exact en.symm))])])
   | (rw [cC (ez.symm.trans h38) hb,uK q7,h109,aA,qN])
   | (rw [cC (ez.symm.trans h38) hb,uK q7,h109];rfl)
   | (rw [cC (ez.symm.trans h38) hb,GX q7 hlx])
   | (rw [cC (ez.symm.trans h38) hb,GZ q3])
   | (rw [cC (ez.symm.trans h38) hb,GY q5])
   | (rw [cC (ez.symm.trans h38) hb,jQ q18,h146,h153,aA,aA])
   | (rw [cC (ez.symm.trans h38) hb,jQ q18,h146,h153];rfl)
   | (rw [cC (ez.symm.trans h38) hb,jQ q18,h146];rfl)
   | (rw [cC (ez.symm.trans h38) hb,GW q7 hlx q3 q5 q18])
 have q3:¬ op=3:=λe=>aN h124 (by rw [e];rfl);refine .sr<|.yw (.eql Z Z)<|.aq Z<|.cd Z (λh131=>?_) (λh131=>?_)
 ·have q5:op=5:=aQ.1 (by have:=aH h131;show op.toNat=5;omega);obtain ⟨e0,rfl⟩:∃ e0,ex=[e0]:=List.length_eq_one_iff.1 (by rw [hlx,q5];rfl);obtain ⟨bE,oE,cE,hpE,rE,lE,mE⟩:=hs1.elem (i:=0) (d:=dEx .u8 e0) rfl;cases hpE;refine .sr<|.fA Z cJ<|.lD Z dE cO Z<|.yw (.indexSl dO Z Z (i:=0) Z (Nat.succ_pos _) (q:=oE+0 * 4) Z)<|.yw (.loadMW Z dP mE lE)<|.yw (.call CC Z (λW s=>zC H e0 cE W rE s.agr))<|.az Z<|.bR<|.tR<|?_
  refine y9 Z Z λW s=>⟨?_,s.ext⟩
  first
   | (rw [nQ (ez.symm.trans h38)])
   | (rw [eN (by rw [vE h39,aP (aH (by rw [h66] at ew;exact ew.symm))])])
   | (rw [eN (by rw [vG h39 h67,aP (aH (by rw [h92] at ea;exact ea.symm))])])
   | (rw [eN (by rw [vF h39 h67,aP (aH (by rw [h93] at en;exact en.symm))])])
   | (rw [cC (ez.symm.trans h38) hb,uK q7,h109,aA,qN])
   | (rw [cC (ez.symm.trans h38) hb,uK q7,h109];rfl)
   | (rw [cC (ez.symm.trans h38) hb,GX q7 hlx])
   | (rw [cC (ez.symm.trans h38) hb,GZ q3])
   | (rw [cC (ez.symm.trans h38) hb,GY q5])
   | (rw [cC (ez.symm.trans h38) hb,jQ q18,h146,h153,aA,aA])
   | (rw [cC (ez.symm.trans h38) hb,jQ q18,h146,h153];rfl)
   | (rw [cC (ez.symm.trans h38) hb,jQ q18,h146];rfl)
   | (rw [cC (ez.symm.trans h38) hb,GW q7 hlx q3 q5 q18])
 have q5:¬ op=5:=λe=>aN h131 (by rw [e];rfl);refine .sr<|.yw (.eql Z Z)<|.aq Z<|.cd Z (λh138=>?_) (λh138=>?_)
 ·have q18:op=18:=aQ.1 (by have:=aH h138;show op.toNat=18;omega);obtain ⟨e0,rfl⟩:∃ e0,ex=[e0]:=List.length_eq_one_iff.1 (by rw [hlx,q18];rfl);obtain ⟨bE,oE,cE,hpE,rE,lE,mE⟩:=hs1.elem (i:=0) (d:=dEx .u8 e0) rfl;cases hpE;obtain ⟨op0,nm0,m0,args0⟩:=e0;obtain ⟨p9,c9,rfl,hs9,hn9⟩:=iK rE;refine .sr<|.fA Z cJ<|.lD Z dE cO Z<|.yw (.indexSl dO Z Z (i:=0) Z (Nat.succ_pos _) (q:=oE+0 * 4) Z)<|.fA Z gO<|.yw (.loadM Z jR mE (k:=0) Z Z)<|.yw (.eql Z Z)<|.mv Z<|.b2 (λh146=>?_) (λh146=>?_)
  ·refine .gy (.fieldAddr Z cJ)<|.gy (.load Z dE cO Z)<|.gy (.indexSl dO Z Z (i:=0) Z (Nat.succ_pos _) (q:=oE+0 * 4) Z)<|.gy (.loadMW Z dP mE lE)<|.gy (.call CC Z (λW s=>zC H _ _ W rE s.agr))<|.yw (.pickT Z Z)<|.mv Z<|.b2 (λh153=>?_) (λh153=>?_)
   ·refine .gy (.fieldAddr Z cJ)<|.gy (.load Z dE cO Z)<|.gy (.indexSl dO Z Z (i:=0) Z (Nat.succ_pos _) (q:=oE+0 * 4) Z)<|.gy (.fieldAddr Z gD)<|.gy (.loadM Z fC mE (k:=2) Z Z)<|.gy (.leq Z Z)<|.yw (.pickT Z Z)<|.az Z<|.bR<|.tR<|?_
    refine y9 Z Z λW s=>⟨?_,s.ext⟩
    first
     | (rw [nQ (ez.symm.trans h38)])
     | (rw [eN (by rw [vE h39,aP (aH (by rw [h66] at ew;exact ew.symm))])])
     | (rw [eN (by rw [vG h39 h67,aP (aH (by rw [h92] at ea;exact ea.symm))])])
     | (rw [eN (by rw [vF h39 h67,aP (aH (by rw [h93] at en;exact en.symm))])])
     | (rw [cC (ez.symm.trans h38) hb,uK q7,h109,aA,qN])
     | (rw [cC (ez.symm.trans h38) hb,uK q7,h109];rfl)
     | (rw [cC (ez.symm.trans h38) hb,GX q7 hlx])
     | (rw [cC (ez.symm.trans h38) hb,GZ q3])
     | (rw [cC (ez.symm.trans h38) hb,GY q5])
     | (rw [cC (ez.symm.trans h38) hb,jQ q18,h146,h153,aA,aA])
     | (rw [cC (ez.symm.trans h38) hb,jQ q18,h146,h153];rfl)
     | (rw [cC (ez.symm.trans h38) hb,jQ q18,h146];rfl)
     | (rw [cC (ez.symm.trans h38) hb,GW q7 hlx q3 q5 q18])
   refine .gG<|.gG<|.gG<|.gG<|.gG<|.gG<|.yw (.pickF Z Z)<|.az Z<|.bR<|.tR<|?_
   refine y9 Z Z λW s=>⟨?_,s.ext⟩
   first
    | (rw [nQ (ez.symm.trans h38)])
    | (rw [eN (by rw [vE h39,aP (aH (by rw [h66] at ew;exact ew.symm))])])
    | (rw [eN (by rw [vG h39 h67,aP (aH (by rw [h92] at ea;exact ea.symm))])])
    | (rw [eN (by rw [vF h39 h67,aP (aH (by rw [h93] at en;exact en.symm))])])
    | (rw [cC (ez.symm.trans h38) hb,uK q7,h109,aA,qN])
    | (rw [cC (ez.symm.trans h38) hb,uK q7,h109];rfl)
    | (rw [cC (ez.symm.trans h38) hb,GX q7 hlx])
    | (rw [cC (ez.symm.trans h38) hb,GZ q3])
    | (rw [cC (ez.symm.trans h38) hb,GY q5])
    | (rw [cC (ez.symm.trans h38) hb,jQ q18,h146,h153,aA,aA])
    | (rw [cC (ez.symm.trans h38) hb,jQ q18,h146,h153];rfl)
    | (rw [cC (ez.symm.trans h38) hb,jQ q18,h146];rfl)
    | (rw [cC (ez.symm.trans h38) hb,GW q7 hlx q3 q5 q18])
  refine .gG<|.gG<|.gG<|.gG<|.gG<|.yw (.pickF Z Z)<|.mv Z<|.gG<|.gG<|.gG<|.gG<|.gG<|.gG<|.yw (.pickF Z Z)<|.az Z<|.bR<|.tR<|?_
  refine y9 Z Z λW s=>⟨?_,s.ext⟩
  first
   | (rw [nQ (ez.symm.trans h38)])
   | (rw [eN (by rw [vE h39,aP (aH (by rw [h66] at ew;exact ew.symm))])])
   | (rw [eN (by rw [vG h39 h67,aP (aH (by rw [h92] at ea;exact ea.symm))])])
   | (rw [eN (by rw [vF h39 h67,aP (aH (by rw [h93] at en;exact en.symm))])])
   | (rw [cC (ez.symm.trans h38) hb,uK q7,h109,aA,qN])
   | (rw [cC (ez.symm.trans h38) hb,uK q7,h109];rfl)
   | (rw [cC (ez.symm.trans h38) hb,GX q7 hlx])
   | (rw [cC (ez.symm.trans h38) hb,GZ q3])
   | (rw [cC (ez.symm.trans h38) hb,GY q5])
   | (rw [cC (ez.symm.trans h38) hb,jQ q18,h146,h153,aA,aA])
   | (rw [cC (ez.symm.trans h38) hb,jQ q18,h146,h153];rfl)
   | (rw [cC (ez.symm.trans h38) hb,jQ q18,h146];rfl)
   | (rw [cC (ez.symm.trans h38) hb,GW q7 hlx q3 q5 q18])
 have q18:¬ op=18:=λe=>aN h138 (by rw [e];rfl);refine .sk<|.bN<|.tN<|.sr<|.az Z<|?_
 refine y9 Z Z λW s=>⟨?_,s.ext⟩
 first
  | (rw [nQ (ez.symm.trans h38)])
  | (rw [eN (by rw [vE h39,aP (aH (by rw [h66] at ew;exact ew.symm))])])
  | (rw [eN (by rw [vG h39 h67,aP (aH (by rw [h92] at ea;exact ea.symm))])])
  | (rw [eN (by rw [vF h39 h67,aP (aH (by rw [h93] at en;exact en.symm))])])
  | (rw [cC (ez.symm.trans h38) hb,uK q7,h109,aA,qN])
  | (rw [cC (ez.symm.trans h38) hb,uK q7,h109];rfl)
  | (rw [cC (ez.symm.trans h38) hb,GX q7 hlx])
  | (rw [cC (ez.symm.trans h38) hb,GZ q3])
  | (rw [cC (ez.symm.trans h38) hb,GY q5])
  | (rw [cC (ez.symm.trans h38) hb,jQ q18,h146,h153,aA,aA])
  | (rw [cC (ez.symm.trans h38) hb,jQ q18,h146,h153];rfl)
  | (rw [cC (ez.symm.trans h38) hb,jQ q18,h146];rfl)
  | (rw [cC (ez.symm.trans h38) hb,GW q7 hlx q3 q5 q18])
theorem lS (op:UInt8) (nm:Str) (n:Int64) (args:List Ex):Ex.count (.mk op nm n args)=Ex.counts args+1:=by rw [Ex.count]
theorem oQ (op:UInt8) (nm fd:Str) (a b:Int64) (ex:List Ex) (args:List Fm):Fm.count (.mk op nm fd a b ex args)=Ex.counts ex+Fm.counts args+1:=by rw [Fm.count]
theorem oV:∀ (l m:List Ex),Ex.counts (l++m)=Ex.counts l+Ex.counts m
 | [],m=>by rw [bW,Ex.counts,dL]
 | e::l,m=>by rw [aV,Ex.counts,Ex.counts,oV l m,dN]
theorem eZ:∀ (l m:List Fm),Fm.counts (l++m)=Fm.counts l+Fm.counts m
 | [],m=>by rw [bW,Fm.counts,dL]
 | e::l,m=>by rw [aV,Fm.counts,Fm.counts,eZ l m,dN]
theorem bP5 (e:Ex):1<=e.count:=by obtain ⟨op,nm,n,args⟩:=e;rw [lS];omega
theorem bO5 (f:Fm):1<=f.count:=by obtain ⟨op,nm,fd,a,b,ex,args⟩:=f;rw [oQ];omega
theorem XB:∀ l:List Ex,l.length<=Ex.counts l
 | []=>aO _
 | e::l=>by rw [Ex.counts,aJ];have:=XB l;have:=bP5 e;omega
theorem bF3:∀ l:List Fm,l.length<=Fm.counts l
 | []=>aO _
 | e::l=>by rw [Fm.counts,aJ];have:=bF3 l;have:=bO5 e;omega
theorem UJ (e:Ex):e.depth<=e.count:=by
 induction e using Ex.ind with | _ op nm n args ih
 rw [tA,lS]
 have:Ex.deeps args<=Ex.counts args:=by
  clear n nm op;induction args with
  | nil=>rw [Ex.deeps];exact aO _
  | cons a r ih2 =>
   rw [Ex.deeps,Ex.counts];have h1:=ih a (aX ..);have h2:=ih2 λx hx=>ih x (bS _ hx);omega
 omega
theorem FI:∀ {l:List Ex} {e:Ex},e∈l->e.count<=Ex.counts l
 | a::r,e,h=>by
  rw [Ex.counts];rcases bQ.1 h with rfl | h
  ·omega
  ·have:=FI h;omega
theorem FF:∀ {l:List Fm} {e:Fm},e∈l->e.count<=Fm.counts l
 | a::r,e,h=>by
  rw [Fm.counts];rcases bQ.1 h with rfl | h
  ·omega
  ·have:=FF h;omega
theorem UC (q:Fm->Bool):∀ l,Fm.alls q l=l.all (Fm.all q)
 | []=>rfl
 | f::r=>by rw [Fm.alls,fZ,UC q r]
theorem rT (q:Fm->Bool) (op:UInt8) (nm fd:Str) (a b:Int64) (ex:List Ex) (args:List Fm):Fm.all q (.mk op nm fd a b ex args)=(q (.mk op nm fd a b ex args) && args.all (Fm.all q)):=by rw [Fm.all,UC]
theorem IC (f:Fm):Fm.all (λ_=>true) f=true:=by
 induction f using Fm.ind with | _ op nm fd a b ex args ih
 rw [rT,aA];exact aW.2 ih
def bU5 (f:Fm):Bool:=f.ex.all λe=>decide (e.depth<=1000000)
theorem WU (f:Fm) (h:f.count<=1000000):Fm.all bU5 f=true:=by
 induction f using Fm.ind with | _ op nm fd a b ex args ih
 rw [oQ] at h;rw [rT,aE];refine ⟨aW.2 λe he=>aS ?_,aW.2 λx hx=>ih x hx ?_⟩
 ·have h1:=FI (l:=ex) he;have h2:=UJ e;omega
 ·have h1:=FF hx;omega
def blE (N:Nat) (e:Ex):Bool:=Ex.all (λe=>decide (e.args.length<=N)) e
def blF (N:Nat) (f:Fm):Bool:=Fm.all (λf=>decide (f.ex.length<=N) && decide (f.args.length<=N) && f.ex.all (blE N)) f
theorem mL (q:Ex->Bool):∀ l,Ex.alls q l=l.all (Ex.all q)
 | []=>rfl
 | e::r=>by rw [Ex.alls,fZ,mL q r]
variable {N:Nat}
theorem QX {op:UInt8} {nm:Str} {n:Int64} {args:List Ex} :blE N (.mk op nm n args)=true↔args.length<=N/\∀ a∈args,blE N a=true:=by
 unfold blE;rw [nR,mL,aE,aD,aW];rfl
theorem wO {op:UInt8} {nm fd:Str} {b:Int64} {ex:List Ex} {args:List Fm} :blF N (.mk op nm fd a b ex args)=true↔(ex.length<=N/\args.length<=N/\∀ e∈ex,blE N e=true)/\∀ g∈args,blF N g=true:=by
 unfold blF;rw [rT,aE,aE,aE,aD,aD,aW,aW];exact ⟨λh=>⟨⟨h.1.1.1,h.1.1.2,h.1.2⟩,h.2⟩,λh=>⟨⟨⟨h.1.1,h.1.2.1⟩,h.1.2.2⟩,h.2⟩⟩
theorem rQ:zA prg 33=some (35,7,104):=by kernel_rfl
set_option maxHeartbeats 2000000 in
theorem aF1 (H:Hp) (f:Fm) (most N:Nat) (hm:most<=9223372036854775807) (hb:blF N f=true) (hc:f.count<=9000000000000000000\/most<=1000000000000) (hN:N * (most+1)<=100000000000\/N * f.count<=100000000000) (hN1:N<=100000000000) (cs:List Value) (w:World) (h:Rep H (dFm .u8 f) cs) (hA:Agr H w):Calls prg 34 #[.agg cs.toArray,iN most] w λr w'=>r=.returned (iN (min f.count (most+1)))/\Ext w w':=by
 obtain ⟨op,nm,fd,a,b,ex,args⟩:=f;obtain ⟨p1,c1,p2,c2,rfl,hs1,hs2,hnm,hfd⟩:=iX h;refine Sx.enter (H:=H) func34 rfl ntmps34 rfl hA ?_;refine .sr<|.bx Z Z Z λb2=>.a Z Z<|.ns<|.a Z Z<|.ns<|.yw (.loadW Z cD Hm Z)<|.blR (z:=7) Z (qD _ _ _ _ _ _ _) Z Z (by simp [maxLen]) λb13=>.aq Z<|.sq<|?_
 refine Sx.row0 76 4 ?_;refine .rg<|.aq Z<|.sq<|.bk<|.pm [1,0,2] [_,_,_] Z Z<|.lp (X:=Nat × List Fm × List Ex × Value × Value × List Value × List Value) [(1,_)] ⟨Z,Jt⟩ [] (λz=>[(5,iN z.1),(6,z.2.2.2.1),(7,z.2.2.2.2.1)]) (λz=>H) (λz=>[.row 35 7 z.2.2.2.1 z.2.1.length z.2.2.2.2.2.1,.row 76 4 z.2.2.2.2.1 z.2.2.1.length z.2.2.2.2.2.2,.box b2 [.int .u8 op.toNat,cH nm,cH fd,.int .i64 a.toInt,.int .i64 b.toInt,.slice p1 ex.length c1,.slice p2 args.length c2] 35]) (λz=>eD H 7 (z.2.1.map (dFm .u8)) z.2.2.2.2.2.1/\eD H 4 (z.2.2.1.map (dEx .u8)) z.2.2.2.2.2.2/\z.1+(Fm.counts z.2.1+Ex.counts z.2.2.1)=Fm.count (.mk op nm fd a b ex args)/\z.1<=most+1/\(∀ g∈z.2.1,blF N g=true)/\(∀ e∈z.2.2.1,blE N e=true)/\(z.2.1.length+z.2.2.1.length<=1+2 * (N * z.1))) (λz=>Fm.count (.mk op nm fd a b ex args) - z.1) (0,[Fm.mk op nm fd a b ex args],[],.slice (some ⟨b13,0,none⟩) 1 1,.slice none 0 0,[.int .u8 op.toNat,cH nm,cH fd,.int .i64 a.toInt,.int .i64 b.toInt,.slice p1 ex.length c1,.slice p2 args.length c2],[]) (λ_ s=>s) ⟨Z,Z,Z,Jt⟩ ⟨.single h Z,.nil,by rw [Fm.counts,Fm.counts,Ex.counts];omega,aO _,λg hg=>by rw [bV.1 hg];exact hb,λe he=>(by cases he),by simp⟩ λz hC=>?_
 obtain ⟨n,fs,ts,rf,rt,xf,xt⟩:=z;obtain ⟨zf,zt,hcnt,hn,hbf,hbt,hlen⟩:=hC;dsimp only at zf zt hcnt hn hbf hbt hlen|-;have hNn:N * n<=N * (most+1):=lI N hn;have hNc:N * n<=N * Fm.count (.mk op nm fd a b ex args):=lI N (by omega)
 have hNm:N * n<=100000000000:=by
  rcases hN with h | h <;> omega
 refine At.ra (size:=7) (r:=rf) (e:=35) Hm λpf cf e=>?_;subst e;refine At.ra (size:=4) (r:=rt) (e:=76) cO λpt ct e=>?_;subst e;refine .sq<|.sm Z<|.mv Z<|.yw (.leq Z Z)<|.mv Z<|.b2 (λh17=>?_) (λh17=>?_)
 ·have hle:n<=most:=by have:=aH h17;omega
  refine .gy (.move Z)<|.gy (.lenSl eR Z)<|.gy (.move Z)<|.gy (.lenSl dO Z)<|.gy (.add Z Z (c:=((fs.length+ts.length:Nat):Int)) ((w6 (by omega)).trans (by omega)))<|.gy (.gtr Z Z)<|.yw (.pickT Z Z)<|.nt<|.cd Z (λh24=>?_) (λh24=>?_)
  ·have hpos:0<fs.length+ts.length:=by have:=aH h24;omega
   replace h24:=hpos;refine .sk<|.tN<|.bk<|.sm Z<|.yw (.add Z Z (c:=((n+1:Nat):Int)) ((w6 (by omega)).trans (by omega)))<|.aq Z<|.sq<|.sm Z<|.yw (.lenSl dO Z)<|.yw (.sub Z Z (c:=(ts.length:Int) - 1) (w6 (by omega)))<|.a Z Z<|.ns<|.mv Z<|.yw (.geq Z Z)<|.nt<|.ce Z (λh31=>?_) (λh31=>?_)
   ·obtain ⟨ts0,e0,rfl⟩:∃ ts0 e0,ts=ts0++[e0]:=by
     rcases List.eq_nil_or_concat ts with h | ⟨t,x,h⟩
     ·subst h;exact (by simp at h31)
     ·exact ⟨t,x,by rw [h,List.concat_eq_append]⟩
    have hl0:(ts0++[e0]).length=ts0.length+1:=by rw [aG];rfl
    refine Sx.rowCase (size:=4) (r:=.slice pt (ts0++[e0]).length ct) (e:=76) cO (by rw [hl0];exact Nat.succ_pos _) λg c e hgc=>?_;injection e with e3 _ e4
    subst e3 e4;obtain ⟨cs0,r0,hc0,hx0⟩:=eD.at zt (i:=ts0.length) (d:=dEx .u8 e0) (by rw [bU,List.getElem?_append_right (by rw [bJ];exact aY _),bJ,iV];rfl);obtain ⟨op0,nm0,m0,args0⟩:=e0;obtain ⟨p0,c0,rfl,hs0,_⟩:=iK r0;have hb0:=(QX.1 (hbt _ (bZ.2 (.inr (bV.2 rfl)))))
    have hz0:eD H 4 (ts0.map (dEx .u8)) (xt.take (ts0.length * 4)):=by
     have h:=eD.take ts0.length zt;rw [bU,List.take_left' (by rw [bJ])] at h;exact h
    rw [oV,Ex.counts,Ex.counts,lS] at hcnt;rw [hl0] at hlen;have hNs:N * (n+1)=N * n+N:=Nat.mul_succ N n;refine .sm Z<|.mv Z<|.yw (.indexSl dO Z Z (i:=ts0.length) (by rw [hl0];omega) (by rw [hl0];omega) (q:=ts0.length * 4) (by omega))<|.yw (.loadR (vs:=[.int .u8 op0.toNat,cH nm0,.int .i64 m0.toInt,.slice p0 args0.length c0]) Z dP cO Z hx0)<|.al jT Z λb9=>.sX .head Z Z fY Z<|?_
    refine Sx.At.rcut (size:=4) (m:=ts0.length) (ys:=xt.take (ts0.length * 4)) lZ (by rw [hl0];exact Nat.le_succ _) rfl ?_;exact .nt<|.sq<|.fL 6 [(0,0),(1,0),(2,0),(3,0),(4,0),(5,3)]<|.mv Z<|.mv Z<|.yw (.cutHi dO Z Z (h:=ts0.length) (by rw [hl0];omega) (by rw [hl0] at hgc;omega) (λq e=>by cases e;rfl))<|.fA Z eA<|.lD Z dE Hm Z<|.apD uM Z (λ_ _=>lZ) Z hs0 (by simp only [maxLen];omega) (by omega) Z (λ_ _=>(.d3<|.d2<|.nl)) λnews pN cN hzn=>.fn (tl:=[_]) Z<|.aq Z<|.ex<|.tE<|.bE<|.tN<|.ag (x:=(n,fs,ts0++[Ex.mk op0 nm0 m0 args0],Value.slice pf fs.length cf,Value.slice (some ⟨g,0,none⟩) (ts0++[Ex.mk op0 nm0 m0 args0]).length ct,xf,xt)) (n+1,fs,ts0++args0,Value.slice pf fs.length cf,Value.slice pN (ts0.length+args0.length) cN,xf,xt.take (ts0.length * 4)++news) ⟨Z,Z,Z,Jt⟩ ⟨Z,Jt⟩ (λ_ s=>by dsimp only;rw [aG];exact (s.pick [1,2,3] _ Z Z)) ⟨zf,by rw [bU];exact hz0.app hzn,by dsimp only;rw [oV];omega,by dsimp only;omega,hbf,λe he=>by rcases bZ.1 he with h | h;exact hbt e (bZ.2 (.inl h));exact hb0.2 e h,by dsimp only;rw [aG,hNs];omega⟩ (by dsimp only;omega)
   have hts:ts=[]:=by
    cases ts with
    | nil=>rfl
    | cons t r=>simp at h31 <;> omega
   subst hts;obtain rfl:xt=[]:=zt
   obtain ⟨fs0,f0,rfl⟩:∃ fs0 f0,fs=fs0++[f0]:=by
    rcases List.eq_nil_or_concat fs with h | ⟨t,x,h⟩
    ·subst h;simp at h24
    ·exact ⟨t,x,by rw [h,List.concat_eq_append]⟩
   have hl0:(fs0++[f0]).length=fs0.length+1:=by rw [aG];rfl
   refine Sx.rowCase (size:=7) (r:=.slice pf (fs0++[f0]).length cf) (e:=35) Hm (by rw [hl0];exact Nat.succ_pos _) λg c e hgc=>?_;injection e with e3 _ e4
   subst e3 e4;obtain ⟨cs0,r0,hc0,hx0⟩:=eD.at zf (i:=fs0.length) (d:=dFm .u8 f0) (by rw [bU,List.getElem?_append_right (by rw [bJ];exact aY _),bJ,iV];rfl);obtain ⟨op0,nm0,fd0,a0,b0,ex0,args0⟩:=f0;obtain ⟨q1,d1,q2,d2,rfl,hs0,hs3,_,_⟩:=iX r0;have hb0:=(wO.1 (hbf _ (bZ.2 (.inr (bV.2 rfl)))))
   have hz0:eD H 7 (fs0.map (dFm .u8)) (xf.take (fs0.length * 7)):=by
    have h:=eD.take fs0.length zf;rw [bU,List.take_left' (by rw [bJ])] at h;exact h
   rw [eZ,Fm.counts,Fm.counts,oQ] at hcnt;rw [hl0] at hlen;have hNs:N * (n+1)=N * n+N:=Nat.mul_succ N n;refine .sk<|.tN<|.sm Z<|.yw (.lenSl eR Z)<|.yw (.sub Z Z (c:=((fs0.length:Nat):Int)) (by rw [hl0];exact (w6 (by omega)).trans (by omega)))<|.a Z Z<|.ns<|.mv Z<|.mv Z<|.yw (.indexSl eR Z Z (i:=fs0.length) Z (by rw [hl0];omega) (q:=fs0.length * 7) (by omega))<|.yw (.loadR (vs:=cFm .u8 op0 nm0 fd0 a0 b0 (.slice q1 ex0.length d1) (.slice q2 args0.length d2)) Z cD Hm Z hx0)<|.al eG Z λb11=>.sX .head Z Z cV Z<|?_
   refine Sx.At.rcut (size:=7) (m:=fs0.length) (ys:=xf.take (fs0.length * 7)) kT (by rw [hl0];exact Nat.le_succ _) rfl ?_;refine .nt<|.sq<|.fL 6 [(0,0),(1,0),(2,0),(3,0),(4,0),(5,3)]<|.mv Z<|.mv Z<|.yw (.cutHi eR Z Z (h:=fs0.length) Z (by rw [hl0] at hgc;omega) (λq e=>by cases e;rfl))<|.fA Z dD<|.lD Z fP Hm Z<|.apD rQ Z (λ_ _=>kT) Z hs3 (by simp only [maxLen];omega) (by omega) Z (λ_ _=>(.d3<|.d2<|.nl)) λnews pN cN hzn=>.fn (tl:=[_]) Z<|.aq Z<|.rg<|.mv Z<|.fA Z cJ<|.lD Z dE Hm Z<|.apD uM Z (λ_ _=>lZ) Z hs0 (by simp only [maxLen];omega) (by simp only [aM];omega) Z λnews2 r2 hzn2=>?_
   rw [show ([]:List Ex).length+ex0.length=ex0.length from dL _];exact .a Z Z<|.nl<|.bN<|.tN<|.ag (x:=(n,fs0++[Fm.mk op0 nm0 fd0 a0 b0 ex0 args0],([]:List Ex),Value.slice (some ⟨g,0,none⟩) (fs0++[Fm.mk op0 nm0 fd0 a0 b0 ex0 args0]).length cf,Value.slice pt 0 ct,xf,([]:List Value))) (n+1,fs0++args0,ex0,Value.slice pN (fs0.length+args0.length) cN,r2,xf.take (fs0.length * 7)++news,news2) ⟨Z,Z,Z,Jt⟩ ⟨Z,Jt⟩ (λ_ s=>by dsimp only;rw [aG];exact (s.pick [1,2,3] _ Z Z)) ⟨by rw [bU];exact hz0.app hzn,hzn2,by dsimp only;rw [eZ];rw [Ex.counts] at hcnt;omega,by dsimp only;omega,λe he=>by rcases bZ.1 he with h | h;exact hbf e (bZ.2 (.inl h));exact hb0.2 e h,λe he=>hb0.1.2.2 e he,by dsimp only;rw [aG,hNs];simp only [aM] at hlen;omega⟩ (by dsimp only;omega)
  have hz24:¬ 0<fs.length+ts.length:=λe=>aN h24 (by omega);refine .ex<|.eb<|.sm Z<|.az Z<|?_
  refine y9 Z Z λW s=>⟨?_,s.ext⟩
  first
   | (rw [show n=min (Fm.count (.mk op nm fd a b ex args)) (most+1) by omega])
   | (rw [show n=min (Fm.count (.mk op nm fd a b ex args)) (most+1) from by (have h1:fs=[]:=bI (by omega));(have h2:ts=[]:=bI (by omega));subst h1;subst h2;rw [Fm.counts,Ex.counts] at hcnt;omega])
 have hgt:¬ n<=most:=λe=>aN h17 (by omega);refine .gG<|.gG<|.gG<|.gG<|.gG<|.gG<|.yw (.pickF Z Z)<|.nt<|.cF Z<|.ex<|.eb<|.sm Z<|.az Z<|?_
 refine y9 Z Z λW s=>⟨?_,s.ext⟩
 first
  | (rw [show n=min (Fm.count (.mk op nm fd a b ex args)) (most+1) by omega])
  | (rw [show n=min (Fm.count (.mk op nm fd a b ex args)) (most+1) from by (have h1:fs=[]:=bI (by omega));(have h2:ts=[]:=bI (by omega));subst h1;subst h2;rw [Fm.counts,Ex.counts] at hcnt;omega])
theorem aI7:dK prg 34=true:=by kernel_rfl
theorem aI6:dK prg 36=true:=by kernel_rfl
theorem aI5:dK prg 37=true:=by kernel_rfl
theorem aI4:dK prg 38=true:=by kernel_rfl
variable {f:Fm}
theorem aU5 (h:60<f.count):gT f=3:=by unfold gT;rw [aL (.inl h)]
theorem aU4 (h:Fm.all uZ f=false):gT f=3:=by unfold gT;rw [aL (.inr h)]
theorem bP4 (h:¬ 60<f.count) (h2:Fm.all uZ f=true):¬ (60<f.count\/Fm.all uZ f=false):=λe=>by
 rcases e with e | e
 ·exact h e
 ·rw [h2] at e;cases e
theorem aU3 (h:¬ 60<f.count) (h2:Fm.all uZ f=true) (h3:Fm.all wF f=false):gT f=9:=by unfold gT;rw [aF (bP4 h h2),aL h3]
theorem aU2 (h:¬ 60<f.count) (h2:Fm.all uZ f=true) (h3:Fm.all wF f=true) (h4:Fm.all kY f=false):gT f=6:=by unfold gT;rw [aF (bP4 h h2),aF (by rw [h3];decide),aL h4]
theorem aU1 (h:¬ 60<f.count) (h2:Fm.all uZ f=true) (h3:Fm.all wF f=true) (h4:Fm.all kY f=true):gT f=0:=by unfold gT;rw [aF (bP4 h h2),aF (by rw [h3];decide),aF (by rw [h4];decide)]
theorem zJ (H:Hp) (G:Gl H) (Gt:Gf H) (f:Fm) (hb:blF 600000 f=true) (cs:List Value) (w:World) (h:Rep H (dFm .u8 f) cs) (hA:Agr H w):Calls prg 15 #[.agg cs.toArray] w λr w'=>r=.returned (iN (gT f))/\Ext w w':=by
 obtain ⟨op,nm,fd,a,b,ex,args⟩:=f;obtain ⟨p1,c1,p2,c2,rfl,hs1,hs2,hnm,hfd⟩:=iX h;refine Sx.enter (H:=H) func15 rfl ntmps15 rfl hA ?_;refine .sr<|.bx Z Z Z λb1=>.aq Z<|.sq<|.bk<|.sq<|.sr<|.yw (.loadW Z cD Hm Z)<|.yw (.call aI7 Z (λW s=>aF1 H (.mk op nm fd a b ex args) 60 600000 (by decide) hb (.inr (by decide)) (.inl (by decide)) (by decide) _ W h s.agr))<|.yw (.gtr Z Z)<|.aq Z<|.cr Z (λh3=>?_) (λh3=>?_)
 ·have hc:60<Fm.count (.mk op nm fd a b ex args):=by have:=aH h3;omega
  refine .sk<|.tN<|.cT Z<|.sr<|.az Z<|.bR<|.tR<|?_
  refine y9 Z Z λW s=>⟨?_,s.ext⟩
  first
   | (rw [aU5 hc];rfl)
   | (rw [aU4 hs];rfl)
   | (rw [aU3 hc hs hn];rfl)
   | (rw [aU2 hc hs hn hf];rfl)
   | (rw [aU1 hc hs hn hf];rfl)
 have hc:¬ 60<Fm.count (.mk op nm fd a b ex args):=λe=>aN h3 (by omega);refine .rg<|.yw (.loadW Z cD Hm Z)<|.yw (.call CE Z (λW s=>HB H 36 uZ bU5 aI6 (λf hp=>SF H f hp) _ (WU _ (by omega)) _ W h s.agr))<|.yw (.not Z)<|.aq Z<|.cr Z (λh3=>?_) (λh3=>?_)
 ·have hs:Fm.all uZ (.mk op nm fd a b ex args)=false:=by simpa using h3
  refine .sr<|.az Z<|.bR<|.tR<|?_
  refine y9 Z Z λW s=>⟨?_,s.ext⟩
  first
   | (rw [aU5 hc];rfl)
   | (rw [aU4 hs];rfl)
   | (rw [aU3 hc hs hn];rfl)
   | (rw [aU2 hc hs hn hf];rfl)
   | (rw [aU1 hc hs hn hf];rfl)
 have hs:Fm.all uZ (.mk op nm fd a b ex args)=true:=by simpa using h3
 refine .sr<|.yw (.loadW Z cD Hm Z)<|.yw (.call CE Z (λW s=>HB H 37 wF (λ_=>true) aI5 (λf _=>aD4 H G Gt f) _ (IC _) _ W h s.agr))<|.yw (.not Z)<|.aq Z<|.cd Z (λh10=>?_) (λh10=>?_)
 ·have hn:Fm.all wF (.mk op nm fd a b ex args)=false:=by simpa using h10
  refine .sr<|.az Z<|.bR<|.tR<|?_
  refine y9 Z Z λW s=>⟨?_,s.ext⟩
  first
   | (rw [aU5 hc];rfl)
   | (rw [aU4 hs];rfl)
   | (rw [aU3 hc hs hn];rfl)
   | (rw [aU2 hc hs hn hf];rfl)
   | (rw [aU1 hc hs hn hf];rfl)
 have hn:Fm.all wF (.mk op nm fd a b ex args)=true:=by simpa using h10
 refine .sr<|.yw (.loadW Z cD Hm Z)<|.yw (.call CE Z (λW s=>HB H 38 kY (λ_=>true) aI4 (λf _=>WS H Gt f) _ (IC _) _ W h s.agr))<|.yw (.not Z)<|.aq Z<|.cd Z (λh14=>?_) (λh14=>?_)
 ·have hf:Fm.all kY (.mk op nm fd a b ex args)=false:=by simpa using h14
  refine .sr<|.az Z<|.bR<|.tR<|?_
  refine y9 Z Z λW s=>⟨?_,s.ext⟩
  first
   | (rw [aU5 hc];rfl)
   | (rw [aU4 hs];rfl)
   | (rw [aU3 hc hs hn];rfl)
   | (rw [aU2 hc hs hn hf];rfl)
   | (rw [aU1 hc hs hn hf];rfl)
 have hf:Fm.all kY (.mk op nm fd a b ex args)=true:=by simpa using h14
 refine .sk<|.bN<|.tN<|.sr<|.az Z<|?_
 refine y9 Z Z λW s=>⟨?_,s.ext⟩
 first
  | (rw [aU5 hc];rfl)
  | (rw [aU4 hs];rfl)
  | (rw [aU3 hc hs hn];rfl)
  | (rw [aU2 hc hs hn hf];rfl)
  | (rw [aU1 hc hs hn hf];rfl)
noncomputable def eqP (p:Prop):Bool:=@decide p (Classical.propDecidable p)
theorem aR {p:Prop} :eqP p=true↔p:=by unfold eqP;exact @decide_eq_true_iff p (Classical.propDecidable p)
theorem BS {p:Prop} :eqP p=false↔¬ p:=⟨λh k=>(by rw [aR.2 k] at h;cases h),λh=>(by cases e:eqP p with | false=>rfl | true=>exact absurd (aR.1 e) h)⟩
def bW3 (gf:FuncId) {α:Type} (d:α->D) (H:Hp) (a b:α):Prop:=∀ (ca cb:List Value) (w:World),Rep H (d a) ca->Rep H (d b) cb->Agr H w->Calls prg gf #[.agg ca.toArray,.agg cb.toArray] w λr w'=>r=.returned (.bool (eqP (a=b)))/\Ext w w'
theorem OV {α:Type} {l m:List α} (h:k<l.length) (h2:k<m.length) (ht:l.take k=m.take k) (he:l[k]=m[k]):l.take (k+1)=m.take (k+1):=by rw [tM h,tM h2,ht,he]
theorem FJ (H:Hp) (gf:FuncId) (hgf:dK prg gf=true) (l m:List Ex) (hq:∀ a∈l,∀ b,bW3 gf (dEx .u8) H a b) (v u:Value) (hs:Rep H (.seq 4 (l.map (dEx .u8))) [v]) (ht:Rep H (.seq 4 (m.map (dEx .u8))) [u]) (w:World) (hA:Agr H w) :
 Calls prg 51 #[v,u,.func (.func gf) #[] #[]] w λr w'=>r=.returned (.bool (eqP (l=m)))/\Ext w w':=by
 obtain ⟨p,c,e,_⟩:=hs.sl;simp only [fQ,nZ,bJ] at e;subst e;obtain ⟨p2,c2,e,_⟩:=ht.sl;simp only [fQ,nZ,bJ] at e;subst e;have hcap:=hs.cap;have hcap2:=ht.cap;refine Sx.enter (H:=H) func51 rfl ntmps51 rfl hA ?_;refine .sr<|.aq Z<|.sq<|.sm Z<|.yw (.lenSl dO Z)<|.mv Z<|.yw (.lenSl dO Z)<|.yw (.neq Z Z)<|.nt<|.ce Z (λh14=>?_) (λh14=>?_)
 ·have hne:¬ l=m:=λe=>by rw [e] at h14;exact h14 rfl
  refine .sr<|.az Z<|.tR<|?_
  refine y9 Z Z λW s=>⟨kE ?_,s.ext⟩
  first
   | (rw [aR];exact ⟨λh=>(by cases h),λh=>absurd h hne⟩)
   | (rw [aR];exact ⟨λ_=>heq,λ_=>rfl⟩)
 have hlen:l.length=m.length:=by omega
 refine .sk<|.tN<|.sq<|.sm Z<|.yw (.lenSl dO Z)<|.mv Z<|.nt<|.bk<|.lp (X:=Nat) [(1,_),(2,_),(15,_),(16,_)] ⟨Z,Z,Z,Z,Jt⟩ [] (λk=>[(17,iN k)]) (λk=>H) (λk=>[]) (λk=>k<=l.length/\l.take k=m.take k) (λk=>l.length - k) 0 (λ_ s=>s) ⟨Z,Jt⟩ ⟨by omega,Z⟩ λk hC=>?_
 obtain ⟨hk0,hal⟩:=hC;refine .sr<|.yw (.lss Z Z)<|.nt<|.sq<|.ce Z (λh18=>?_) (λh18=>?_)
 ·have hk:k<l.length:=by omega
  have hkm:k<m.length:=by omega
  obtain ⟨bE,oE,cE,hpE,rE,lE,mE⟩:=hs.elem (kM hk);cases hpE;obtain ⟨bF,oF,cF,hpF,rF,lF,mF⟩:=ht.elem (kM hkm);cases hpF;refine .sk<|.tN<|.sq<|.bk<|.sm Z<|.yw (.indexSl dO Z Z Z (by omega) (q:=oE+k * 4) Z)<|.yw (.loadMW Z dP mE lE)<|.al jT Z λb8=>.a Z Z<|.sV .head Z Z fY lE rE.one Z<|.ns<|.mv Z<|.mv Z<|.yw (.indexSl dO Z Z Z (by omega) (q:=oF+k * 4) Z)<|.yw (.loadMW Z dP mF lF)<|.al jT Z λb9=>.sV .head Z Z fY lF rF.one Z<|.ns<|.mv Z<|.yw (.loadW Z dP cO lE)<|.yw (.loadW Z dP Hm lF)<|.yw (.callV (fi:=[]) (ca:=[]) Z hgf Z (λW s=>hq _ (bT hk) _ cE cF W rE rF s.agr))<|.yw (.not Z)<|.nt<|.cd Z (λh30=>?_) (λh30=>?_)
  ·try simp only [dt] at h30
   have hne:¬ l=m:=λe=>by subst e;rw [aR.2 rfl] at h30;cases h30
   refine .sr<|.az Z<|.bR<|.tR<|.tR<|.bR<|.tR<|?_
   refine y9 Z Z λW s=>⟨kE ?_,s.ext⟩
   first
    | (rw [aR];exact ⟨λh=>(by cases h),λh=>absurd h hne⟩)
    | (rw [aR];exact ⟨λ_=>heq,λ_=>rfl⟩)
  try simp only [df] at h30
  have heq:l[k]=m[k]:=aR.1 (by simpa using h30);exact .sk<|.bN<|.tN<|.rg<|.yw (.add Z Z w7)<|.mv Z<|.nt<|.ag (k+1) ⟨Z,Jt⟩ ⟨Z,Z,Z,Z,Jt⟩ (λ_ s=>s.pick [] [] Z Z) ⟨by omega,OV hk hkm hal heq⟩ (by omega)
 have heq:l=m:=by
  have e:k=l.length:=by omega
  have e2:k=m.length:=by omega
  have h1:=hal;rw [e,dC,hlen,dC] at h1;exact h1
 refine .ex<|.eb<|.sr<|.az Z<|?_
 refine y9 Z Z λW s=>⟨kE ?_,s.ext⟩
 first
  | (rw [aR];exact ⟨λh=>(by cases h),λh=>absurd h hne⟩)
  | (rw [aR];exact ⟨λ_=>heq,λ_=>rfl⟩)
theorem uA (H:Hp) (a:Ex):∀ b,bW3 52 (dEx .u8) H a b:=by
 induction a using Ex.ind with | _ op nm n args ih
 intro b ca cb w ha hb hA;obtain ⟨op2,nm2,n2,nY⟩:=b;obtain ⟨p,c,rfl,hs,hnm⟩:=iK ha;obtain ⟨p2,c2,rfl,hs2,hnm2⟩:=iK hb;refine Sx.enter (H:=H) func52 rfl ntmps52 rfl hA ?_;refine .sr<|.bx Z Z Z λb2=>.bx Z Z Z λb3=>.a Z Z<|.ns<|.fA Z gO<|.lD Z jR cO Z<|.fA Z gO<|.lD Z jR Hm Z<|.yw (.eql Z Z)<|.mv Z<|.e2 (λh10=>?_) (λh10=>?_)
 ·have e1:op=op2:=aQ.1 (by omega);refine .gy (.fieldAddr Z fT)<|.gy (.load Z cZ cO Z)<|.gy (.fieldAddr Z fT)<|.gy (.load Z cZ Hm Z)<|.gy (.eqS Z Z)<|.yw (.pickT Z Z)<|.mv Z<|.e2 (λh17=>?_) (λh17=>?_)
  ·have e2:nm=nm2:=h17;refine .gy (.fieldAddr Z gD)<|.gy (.load Z fC cO Z)<|.gy (.fieldAddr Z gD)<|.gy (.load Z fC Hm Z)<|.gy (.eql Z Z)<|.yw (.pickT Z Z)<|.mv Z<|.e2 (λh24=>?_) (λh24=>?_)
   ·have e3:n=n2:=dR.1 h24;refine .gy (.fieldAddr Z eA)<|.gy (.load Z dE cO Z)<|.gy (.fieldAddr Z eA)<|.gy (.load Z dE Hm Z)<|.gy (.call yO Z (λW s=>FJ H 52 yN args nY ih _ _ hs hs2 W s.agr))<|.yw (.pickT Z Z)<|.az Z<|?_
    refine y9 Z Z λW s=>⟨kE ?_,s.ext⟩
    first
     | (rw [aR,aR,Ex.mk.injEq];exact ⟨λd=>⟨e1,e2,e3,d⟩,λh=>h.2.2.2⟩)
     | (rw [aR,Ex.mk.injEq];exact ⟨λh=>(by cases h),λh=>absurd h.1 e1⟩)
     | (rw [aR,Ex.mk.injEq];exact ⟨λh=>(by cases h),λh=>absurd h.2.1 e2⟩)
     | (rw [aR,Ex.mk.injEq];exact ⟨λh=>(by cases h),λh=>absurd h.2.2.1 e3⟩)
   have e3:¬ n=n2:=λe=>h24 (by rw [e]);refine .gG<|.gG<|.gG<|.gG<|.gG<|.yw (.pickF Z Z)<|.az Z<|?_
   refine y9 Z Z λW s=>⟨kE ?_,s.ext⟩
   first
    | (rw [aR,aR,Ex.mk.injEq];exact ⟨λd=>⟨e1,e2,e3,d⟩,λh=>h.2.2.2⟩)
    | (rw [aR,Ex.mk.injEq];exact ⟨λh=>(by cases h),λh=>absurd h.1 e1⟩)
    | (rw [aR,Ex.mk.injEq];exact ⟨λh=>(by cases h),λh=>absurd h.2.1 e2⟩)
    | (rw [aR,Ex.mk.injEq];exact ⟨λh=>(by cases h),λh=>absurd h.2.2.1 e3⟩)
  have e2:¬ nm=nm2:=h17;refine .gG<|.gG<|.gG<|.gG<|.gG<|.yw (.pickF Z Z)<|.mv Z<|.gG<|.gG<|.gG<|.gG<|.gG<|.yw (.pickF Z Z)<|.az Z<|?_
  refine y9 Z Z λW s=>⟨kE ?_,s.ext⟩
  first
   | (rw [aR,aR,Ex.mk.injEq];exact ⟨λd=>⟨e1,e2,e3,d⟩,λh=>h.2.2.2⟩)
   | (rw [aR,Ex.mk.injEq];exact ⟨λh=>(by cases h),λh=>absurd h.1 e1⟩)
   | (rw [aR,Ex.mk.injEq];exact ⟨λh=>(by cases h),λh=>absurd h.2.1 e2⟩)
   | (rw [aR,Ex.mk.injEq];exact ⟨λh=>(by cases h),λh=>absurd h.2.2.1 e3⟩)
 have e1:¬ op=op2:=λe=>h10 (by rw [e]);refine .gG<|.gG<|.gG<|.gG<|.gG<|.yw (.pickF Z Z)<|.mv Z<|.gG<|.gG<|.gG<|.gG<|.gG<|.yw (.pickF Z Z)<|.mv Z<|.gG<|.gG<|.gG<|.gG<|.gG<|.yw (.pickF Z Z)<|.az Z<|?_
 refine y9 Z Z λW s=>⟨kE ?_,s.ext⟩
 first
  | (rw [aR,aR,Ex.mk.injEq];exact ⟨λd=>⟨e1,e2,e3,d⟩,λh=>h.2.2.2⟩)
  | (rw [aR,Ex.mk.injEq];exact ⟨λh=>(by cases h),λh=>absurd h.1 e1⟩)
  | (rw [aR,Ex.mk.injEq];exact ⟨λh=>(by cases h),λh=>absurd h.2.1 e2⟩)
  | (rw [aR,Ex.mk.injEq];exact ⟨λh=>(by cases h),λh=>absurd h.2.2.1 e3⟩)
theorem NV:dK prg 96=true:=by kernel_rfl
theorem XS:dK prg 147=true:=by kernel_rfl
theorem XR:dK prg 149=true:=by kernel_rfl
theorem IP (x0:Int) (x1:ByteArray) (x2:Int):iH prg 108 [(0,.int .u8 x0),(1,.string x1),(2,.int .i64 x2)]=some [.int .u8 x0,.string x1,.int .i64 x2]:=by kernel_rfl
theorem hU:kP prg 94=some none:=by kernel_rfl
theorem CF:dK prg 15=true:=by kernel_rfl
theorem aI2:dK prg 54=true:=by kernel_rfl
theorem aI1:dK prg 55=true:=by kernel_rfl
theorem aI0:dK prg 56=true:=by kernel_rfl
theorem aH1:dK prg 95=true:=by kernel_rfl
theorem US:zA prg 99=some (108,3,32):=by kernel_rfl
theorem aG6:hO prg 94=some 1:=by kernel_rfl
theorem NS:hO prg 99=some 1:=by kernel_rfl
theorem aG4:pO prg 94=some [Go.Value.pointer none]:=by kernel_rfl
theorem UY (x2p:Option Addr) (x2n x2c:Nat):iH prg 102 [(2,.slice x2p x2n x2c)]=some [.slice none 0 0,.int .i64 0,.slice x2p x2n x2c,.slice none 0 0,.bool false,.bool false,.bool false,.int .i64 0,.int .i64 0]:=by kernel_rfl
theorem UX (x2:Int):iH prg 108 [(2,.int .i64 x2)]=some [.int .u8 0,.string ⟨#[]⟩,.int .i64 x2]:=by kernel_rfl
theorem yP  : iH prg 35 []=some [.int .u8 0,.string ⟨#[]⟩,.string ⟨#[]⟩,.int .i64 0,.int .i64 0,.slice none 0 0,.slice none 0 0]:=by kernel_rfl
theorem LP (x00 x01 x02:Value):yJ prg 99 1 [(0,.agg [x00,x01,x02].toArray)]=some (108,[x00,x01,x02]):=by kernel_rfl
theorem sK:dK prg 89=true:=by kernel_rfl
theorem XU:dK prg 138=true:=by kernel_rfl
theorem DV:dK prg 139=true:=by kernel_rfl
theorem LI:dK prg 140=true:=by kernel_rfl
theorem CD:dK prg 48=true:=by kernel_rfl
theorem zY:dK prg 144=true:=by kernel_rfl
theorem aJ5:ME prg 163=some (19,1):=by kernel_rfl
theorem aH3:dK prg 90=true:=by kernel_rfl
theorem NX:dK prg 91=true:=by kernel_rfl
theorem CB:dK prg 92=true:=by kernel_rfl
theorem NW:dK prg 93=true:=by kernel_rfl
theorem HL:dK prg 19=true:=by kernel_rfl
theorem HK:dK prg 26=true:=by kernel_rfl
theorem LK:dK prg 129=true:=by kernel_rfl
theorem qF:kP prg 27=some (some 7):=by kernel_rfl
theorem OG:kP prg 149=some none:=by kernel_rfl
theorem aH4:dK prg 82=true:=by kernel_rfl
theorem LJ:dK prg 130=true:=by kernel_rfl
theorem qO:dY prg 27 0=some 0:=by kernel_rfl
theorem zW:dY prg 27 1=some 1:=by kernel_rfl
theorem zU:dY prg 27 2=some 2:=by kernel_rfl
theorem zT:dY prg 27 3=some 3:=by kernel_rfl
theorem zS:dY prg 27 4=some 4:=by kernel_rfl
theorem mU:dY prg 27 5=some 5:=by kernel_rfl
theorem MN:dY prg 151 0=some 0:=by kernel_rfl
theorem CY:dY prg 151 1=some 1:=by kernel_rfl
theorem xV:dY prg 151 2=some 2:=by kernel_rfl
theorem oZ:dY prg 151 3=some 3:=by kernel_rfl
theorem CX:dY prg 151 4=some 4:=by kernel_rfl
theorem CW:dY prg 151 5=some 5:=by kernel_rfl
theorem xU:dY prg 151 6=some 6:=by kernel_rfl
theorem CV:dY prg 151 7=some 7:=by kernel_rfl
theorem oY:hO prg 27=some 7:=by kernel_rfl
theorem sI:pO prg 27=some
 [Go.Value.int Go.IntKind.i64 (Int.ofNat 0),Go.Value.string { data:={ toList:=[] } },
  Go.Value.string { data:={ toList:=[] } },Go.Value.int Go.IntKind.i64 (Int.ofNat 0),
  Go.Value.int Go.IntKind.i64 (Int.ofNat 0),Go.Value.slice none 0 0,Go.Value.slice none 0 0]:=by kernel_rfl
theorem EA (x0:Int):iH prg 27 [(0,.int .i64 x0)]=some [.int .i64 x0,.string ⟨#[]⟩,.string ⟨#[]⟩,.int .i64 0,.int .i64 0,.slice none 0 0,.slice none 0 0]:=by kernel_rfl
theorem aY9  : iH prg 83 []=some [.int .i64 0,.string ⟨#[]⟩,.int .i64 0,.slice none 0 0]:=by kernel_rfl
theorem UZ:kP prg 25=some none:=by kernel_rfl
theorem OE:kP prg 151=some (some 8):=by kernel_rfl
theorem OB:dK prg 33=true:=by kernel_rfl
theorem aH9:dK prg 69=true:=by kernel_rfl
theorem aH8:dK prg 70=true:=by kernel_rfl
theorem zQ:dY prg 27 6=some 6:=by kernel_rfl
theorem aY8:zA prg 25=some (27,7,104):=by kernel_rfl
theorem aG8:hO prg 25=some 1:=by kernel_rfl
theorem XL:hO prg 151=some 8:=by kernel_rfl
theorem FV:slN prg 22=some 8:=by kernel_rfl
theorem XJ:pO prg 151=some
 [Go.Value.int Go.IntKind.u8 (Int.ofNat 0),Go.Value.int Go.IntKind.u8 (Int.ofNat 0),
  Go.Value.int Go.IntKind.u8 (Int.ofNat 0),Go.Value.int Go.IntKind.u8 (Int.ofNat 0),Go.Value.bool false,
  Go.Value.int Go.IntKind.i64 (Int.ofNat 0),Go.Value.int Go.IntKind.i64 (Int.ofNat 0),
  Go.Value.slice none 0 0]:=by kernel_rfl
theorem XZ (x00 x01 x02 x03 x04 x05 x06:Value):yJ prg 25 1 [(0,.agg [x00,x01,x02,x03,x04,x05,x06].toArray)]=some (27,[x00,x01,x02,x03,x04,x05,x06]):=by kernel_rfl
theorem OD:dK prg 16=true:=by kernel_rfl
theorem aA3:slN prg 25=some 7:=by kernel_rfl
theorem DZ (x0:Int) (x1 x2:ByteArray) (x3 x4:Int):iH prg 35 [(0,.int .u8 x0),(1,.string x1),(2,.string x2),(3,.int .i64 x3),(4,.int .i64 x4)]=some [.int .u8 x0,.string x1,.string x2,.int .i64 x3,.int .i64 x4,.slice none 0 0,.slice none 0 0]:=by kernel_rfl
theorem aJ0:dK prg 13=true:=by kernel_rfl
theorem aI9:dK prg 14=true:=by kernel_rfl
theorem aT {fs gs:List Fm} {op0 op1:UInt8} {nm0 nm1 fd0 fd1:Str} {a0 a1 b0 b1:Int64} {ex0 ex1:List Ex} {args0 gY:List Fm} :fs++[Fm.mk op0 nm0 fd0 a0 b0 ex0 args0]=gs++[Fm.mk op1 nm1 fd1 a1 b1 ex1 gY]↔fs=gs/\op0=op1/\nm0=nm1/\fd0=fd1/\a0=a1/\b0=b1/\ex0=ex1/\args0=gY:=by
 rw [<-List.concat_eq_append,<-List.concat_eq_append]
 constructor
 ·intro h;have h1:=List.init_eq_of_concat_eq h;have h2:=List.last_eq_of_concat_eq h;injection h2 with i1 i2 i3 i4 i5 i6 i7
  exact ⟨h1,i1,i2,i3,i4,i5,i6,i7⟩
 ·rintro ⟨rfl,rfl,rfl,rfl,rfl,rfl,rfl,rfl⟩;rfl
theorem BL {fs gs:List Fm} {op0 op1:UInt8} {nm0 nm1 fd0 fd1:Str} {a0 a1 b0 b1:Int64} {ex0 ex1:List Ex} {args0 gY:List Fm} (e1:op0=op1) (e2:nm0=nm1) (e3:fd0=fd1) (e4:a0=a1) (e5:b0=b1) (e6:args0.length=gY.length) (e7:ex0=ex1) (hl:fs.length+1=gs.length+1):fs++[Fm.mk op0 nm0 fd0 a0 b0 ex0 args0]=gs++[Fm.mk op1 nm1 fd1 a1 b1 ex1 gY]↔fs++args0=gs++gY:=by
 rw [aT]
 constructor
 ·rintro ⟨rfl,_,_,_,_,_,_,rfl⟩;rfl
 ·intro h;obtain ⟨h1,h2⟩:=List.append_inj h (by omega);exact ⟨h1,e1,e2,e3,e4,e5,e7,h2⟩
set_option maxHeartbeats 2000000 in
theorem WY (H:Hp) (f g:Fm) (N:Nat) (hb:blF N f=true) (hN:N * f.count<=100000000000) (hN1:N<=100000000000) (cs ds:List Value) (w:World) (h:Rep H (dFm .u8 f) cs) (k:Rep H (dFm .u8 g) ds) (hA:Agr H w):Calls prg 24 #[.agg cs.toArray,.agg ds.toArray] w λr w'=>r=.returned (.bool (eqP (f=g)))/\Ext w w':=by
 obtain ⟨op,nm,fd,a,b,ex,args⟩:=f;obtain ⟨opb,nmb,fdb,ab,bb,exb,argsb⟩:=g;obtain ⟨p1,c1,p2,c2,rfl,_,_,_,_⟩:=iX h;obtain ⟨p3,c3,p4,c4,rfl,_,_,_,_⟩:=iX k;refine Sx.enter (H:=H) func24 rfl ntmps24 rfl hA ?_;refine .sr<|.bx Z Z Z λb2=>.bx Z Z Z λb3=>.aq Z<|.sq<|.ft (p:=.light _ _ (.light _ _ (.alt _ _ _ (.light _ _ (.alt _ _ _ (.done) (.no))) (.alt _ _ _ (.alt _ _ _ (.light _ _ (.done)) (.no)) (.no))))) 5 (.light 0 (.light 2 (.alt 1 0 (.light 4 (.alt 3 0 (.done) (.no))) (.alt 3 0 (.alt 1 0 (.light 4 (.done)) (.no)) (.no))))) (by kernel_rfl) (by kernel_rfl) Z<|.yw (.loadW Z cD cO Z)<|.yw (.loadW Z cD Hm Z)<|.h ?_ (.h ?_ .nn)
 ·
  refine .blR (z:=7) Z (qD _ _ _ _ _ _ _) Z Z (by simp [maxLen]) λb11=>.a Z Z<|.h1<|.blR (z:=7) Z (qD _ _ _ _ _ _ _) Z Z (by simp [maxLen]) λb13=>.fn (tl:=[_]) Z<|.aq Z<|.sq<|.sr<|.aq Z<|.bk<|.pm [1,0,2,3] [_,_,_,_] Z Z<|.lp (X:=Nat × List Fm × List Fm × Value × Value × List Value × List Value) [] trivial [_,_] (λz=>[(5,z.2.2.2.1),(6,z.2.2.2.2.1),(7,.int .i64 ((z.2.1.length:Int) - 1))]) (λz=>H) (λz=>[.row 35 7 z.2.2.2.1 z.2.1.length z.2.2.2.2.2.1,.row 35 7 z.2.2.2.2.1 z.2.2.1.length z.2.2.2.2.2.2]) (λz=>eD H 7 (z.2.1.map (dFm .u8)) z.2.2.2.2.2.1/\eD H 7 (z.2.2.1.map (dFm .u8)) z.2.2.2.2.2.2/\z.2.1.length=z.2.2.1.length/\z.1+Fm.counts z.2.1<=Fm.count (.mk op nm fd a b ex args)/\(∀ g∈z.2.1,blF N g=true)/\z.2.1.length<=1+N * z.1/\(Fm.mk op nm fd a b ex args=Fm.mk opb nmb fdb ab bb exb argsb↔z.2.1=z.2.2.1)) (λz=>Fm.counts z.2.1) (0,[Fm.mk op nm fd a b ex args],[Fm.mk opb nmb fdb ab bb exb argsb],.slice (some ⟨b11,0,none⟩) 1 1,.slice (some ⟨b13,0,none⟩) 1 1,[.int .u8 op.toNat,cH nm,cH fd,.int .i64 a.toInt,.int .i64 b.toInt,.slice p1 ex.length c1,.slice p2 args.length c2],[.int .u8 opb.toNat,cH nmb,cH fdb,.int .i64 ab.toInt,.int .i64 bb.toInt,.slice p3 exb.length c3,.slice p4 argsb.length c4]) (λ_ s=>s) ⟨Z,Z,Z,Jt⟩ ⟨.single h Z,.single k Z,Z,by rw [Fm.counts,Fm.counts];omega,λg hg=>by rw [bV.1 hg];exact hb,by simp,by simp⟩ λz hC=>?_
  obtain ⟨n,fs,gs,rf,rg,xf,xg⟩:=z;obtain ⟨zf,zg,hle,hcnt,hbf,hlen,hiff⟩:=hC;dsimp only at zf zg hle hcnt hbf hlen hiff|-;have hNn:N * n<=N * Fm.count (.mk op nm fd a b ex args):=lI N (by omega);refine At.ra (size:=7) (r:=rf) (e:=35) Hm λpf cf e=>?_;subst e;refine At.ra (size:=7) (r:=rg) (e:=35) cO λpg cg e=>?_;subst e;refine .sq<|.sm Z<|.yw (.geq Z Z)<|.nt<|.cd Z (λh15=>?_) (λh15=>?_)
  ·try simp only [dt] at h15
   have hpos:0<fs.length:=by omega
   obtain ⟨fs0,f0,rfl⟩:∃ fs0 f0,fs=fs0++[f0]:=by
    rcases List.eq_nil_or_concat fs with h | ⟨t,x,h⟩
    ·subst h;simp at hpos hle
    ·exact ⟨t,x,by rw [h,List.concat_eq_append]⟩
   have hl0:(fs0++[f0]).length=fs0.length+1:=by rw [aG];rfl
   refine Sx.rowCase (size:=7) (r:=.slice pf (fs0++[f0]).length cf) (e:=35) Hm (by rw [hl0];exact Nat.succ_pos _) λwf c e hgc=>?_;injection e with e3 _ e4
   subst e3 e4;obtain ⟨cs0,r0,hc0,hx0⟩:=eD.at zf (i:=fs0.length) (d:=dFm .u8 f0) (by rw [bU,List.getElem?_append_right (by rw [bJ];exact aY _),bJ,iV];rfl)
   have hz0:eD H 7 (fs0.map (dFm .u8)) (xf.take (fs0.length * 7)):=by
    have h:=eD.take fs0.length zf;rw [bU,List.take_left' (by rw [bJ])] at h;exact h
   obtain ⟨gs0,g0,rfl⟩:∃ fs0 f0,gs=fs0++[f0]:=by
    rcases List.eq_nil_or_concat gs with h | ⟨t,x,h⟩
    ·subst h;simp at hpos hle
    ·exact ⟨t,x,by rw [h,List.concat_eq_append]⟩
   have hl1:(gs0++[g0]).length=gs0.length+1:=by rw [aG];rfl
   refine Sx.rowCase (size:=7) (r:=.slice pg (gs0++[g0]).length cg) (e:=35) cO (by rw [hl1];exact Nat.succ_pos _) λwg c e hgd=>?_;injection e with e3 _ e4
   subst e3 e4;obtain ⟨cs1,r1,hc1,hx1⟩:=eD.at zg (i:=gs0.length) (d:=dFm .u8 g0) (by rw [bU,List.getElem?_append_right (by rw [bJ];exact aY _),bJ,iV];rfl)
   have hz1:eD H 7 (gs0.map (dFm .u8)) (xg.take (gs0.length * 7)):=by
    have h:=eD.take gs0.length zg;rw [bU,List.take_left' (by rw [bJ])] at h;exact h
   obtain ⟨op0,nm0,fd0,a0,b0,ex0,args0⟩:=f0;obtain ⟨op1,nm1,fd1,a1,b1,ex1,gY⟩:=g0;obtain ⟨q1,d1,q2,d2,rfl,hs0,hs3,_,_⟩:=iX r0;obtain ⟨q5,d5,q6,d6,rfl,hs5,hs6,_,_⟩:=iX r1;have hb0:=(wO.1 (hbf _ (bZ.2 (.inr (bV.2 rfl)))));rw [eZ,Fm.counts,Fm.counts,oQ] at hcnt;rw [hl0,hl1] at hle;rw [hl0] at hlen;have hNs:N * (n+1)=N * n+N:=Nat.mul_succ N n;have hcp0:=hs3.cap;have hcp1:=hs6.cap;refine .sk<|.tN<|.sq<|.bk<|.sq<|.ft (p:=.light _ _ (.light _ _ (.light _ _ (.light _ _ (.light _ _ (.light _ _ (.light _ _ (.light _ _ (.alt _ _ _ (.alt _ _ _ (.alt _ _ _ (.done) (.no)) (.no)) (.alt _ _ _ (.alt _ _ _ (.alt _ _ _ (.done) (.no)) (.no)) (.no))))))))))) 11 (.light 0 (.light 1 (.light 2 (.light 3 (.light 4 (.light 5 (.light 6 (.light 7 (.alt 8 0 (.alt 9 0 (.alt 10 2 (.done) (.no)) (.no)) (.alt 9 0 (.alt 8 0 (.alt 10 2 (.done) (.no)) (.no)) (.no))))))))))) (by kernel_rfl) (by kernel_rfl) Z<|.mv Z<|.mv Z<|.yw (.indexSl eR Z Z (i:=fs0.length) (by rw [hl0];omega) (by rw [hl0];omega) (q:=fs0.length * 7) (by omega))<|.yw (.loadR (vs:=cFm .u8 op0 nm0 fd0 a0 b0 (.slice q1 ex0.length d1) (.slice q2 args0.length d2)) Z cD Hm Z hx0)<|.mv Z<|.mv Z<|.yw (.indexSl eR Z Z (i:=gs0.length) (by rw [hl0];omega) (by rw [hl1];omega) (q:=gs0.length * 7) (by omega))<|.yw (.loadR (vs:=cFm .u8 op1 nm1 fd1 a1 b1 (.slice q5 ex1.length d5) (.slice q6 gY.length d6)) Z cD cO Z hx1)<|.h ?_ (.h ?_ .nn)
   ·
    refine .al eG Z λb8=>.h1<|.al eG Z λb9=>.h1<|.sW kT Z Z cV (by simp [Value.oneCell',cH]) Z ((.yv (.loadR (vs:=cFm .u8 op1 nm1 fd1 a1 b1 (.slice q5 ex1.length d5) (.slice q6 gY.length d6)) Z cD pT Z hx1)<|.yv (.indexSl eR Z Z (i:=gs0.length) (by rw [hl0];omega) (by rw [hl1];omega) (q:=gs0.length * 7) (by omega))<|.yv (.move Z)<|.yv (.move Z)<|.d4<|.nl))<|.fn (tl:=[_]) Z<|.sX .head Z Z cV Z<|.nt<|.sq<|.sr<|.fA Z eF<|.lD Z hZ cO Z<|.fA Z eF<|.lD Z hZ Hm Z<|.yw (.neq Z Z)<|.mv Z<|.b2 (λh32=>?_) (λh32=>?_)
    ·try simp only [dt] at h32
     have e1:=(λe=>h32 (by rw [e]):¬ op0=op1);refine .gG<|.gG<|.gG<|.gG<|.gG<|.yw (.pickT Z Z)<|.mv Z<|.gG<|.gG<|.gG<|.gG<|.gG<|.yw (.pickT Z Z)<|.mv Z<|.gG<|.gG<|.gG<|.gG<|.gG<|.yw (.pickT Z Z)<|.mv Z<|.gG<|.gG<|.gG<|.gG<|.gG<|.yw (.pickT Z Z)<|.mv Z<|.gG<|.gG<|.gG<|.gG<|.gG<|.gG<|.gG<|.yw (.pickT Z Z)<|.mv Z<|.gG<|.gG<|.gG<|.gG<|.gG<|.gG<|.yw (.pickT Z Z)<|.nt<|.cT Z<|.sr<|.az Z<|.tR<|.bR<|.tR<|.tR<|.bR<|.tR<|?_
     refine y9 Z Z λW s=>⟨kE ?_,s.ext⟩
     first
      | (rw [aR];exact ⟨λ_=>hall,λ_=>rfl⟩)
      | (rw [aR];exact ⟨λh=>(by cases h),λh=>absurd (hiff.1 h) (by rw [aT];exact λh=>e1 (h.2.1))⟩)
      | (rw [aR];exact ⟨λh=>(by cases h),λh=>absurd (hiff.1 h) (by rw [aT];exact λh=>e2 (h.2.2.1))⟩)
      | (rw [aR];exact ⟨λh=>(by cases h),λh=>absurd (hiff.1 h) (by rw [aT];exact λh=>e3 (h.2.2.2.1))⟩)
      | (rw [aR];exact ⟨λh=>(by cases h),λh=>absurd (hiff.1 h) (by rw [aT];exact λh=>e4 (h.2.2.2.2.1))⟩)
      | (rw [aR];exact ⟨λh=>(by cases h),λh=>absurd (hiff.1 h) (by rw [aT];exact λh=>e5 (h.2.2.2.2.2.1))⟩)
      | (rw [aR];exact ⟨λh=>(by cases h),λh=>absurd (hiff.1 h) (by rw [aT];exact λh=>e6 (by rw [h.2.2.2.2.2.2.2]))⟩)
      | (rw [aR];exact ⟨λh=>(by cases h),λh=>absurd (hiff.1 h) (by rw [aT];exact λh=>e7 h.2.2.2.2.2.2.1)⟩)
    try simp only [df] at h32
    have e1:=aQ.1 (by omega:op0.toNat=op1.toNat);refine .gy (.fieldAddr Z fV)<|.gy (.load Z cZ cO Z)<|.gy (.fieldAddr Z fV)<|.gy (.load Z cZ Hm Z)<|.gy (.neS Z Z)<|.yw (.pickF Z Z)<|.mv Z<|.b2 (λh39=>?_) (λh39=>?_)
    ·try simp only [dt] at h39
     have e2:=(id h39:¬ nm0=nm1);refine .gG<|.gG<|.gG<|.gG<|.gG<|.yw (.pickT Z Z)<|.mv Z<|.gG<|.gG<|.gG<|.gG<|.gG<|.yw (.pickT Z Z)<|.mv Z<|.gG<|.gG<|.gG<|.gG<|.gG<|.yw (.pickT Z Z)<|.mv Z<|.gG<|.gG<|.gG<|.gG<|.gG<|.gG<|.gG<|.yw (.pickT Z Z)<|.mv Z<|.gG<|.gG<|.gG<|.gG<|.gG<|.gG<|.yw (.pickT Z Z)<|.nt<|.cT Z<|.sr<|.az Z<|.tR<|.bR<|.tR<|.tR<|.bR<|.tR<|?_
     refine y9 Z Z λW s=>⟨kE ?_,s.ext⟩
     first
      | (rw [aR];exact ⟨λ_=>hall,λ_=>rfl⟩)
      | (rw [aR];exact ⟨λh=>(by cases h),λh=>absurd (hiff.1 h) (by rw [aT];exact λh=>e1 (h.2.1))⟩)
      | (rw [aR];exact ⟨λh=>(by cases h),λh=>absurd (hiff.1 h) (by rw [aT];exact λh=>e2 (h.2.2.1))⟩)
      | (rw [aR];exact ⟨λh=>(by cases h),λh=>absurd (hiff.1 h) (by rw [aT];exact λh=>e3 (h.2.2.2.1))⟩)
      | (rw [aR];exact ⟨λh=>(by cases h),λh=>absurd (hiff.1 h) (by rw [aT];exact λh=>e4 (h.2.2.2.2.1))⟩)
      | (rw [aR];exact ⟨λh=>(by cases h),λh=>absurd (hiff.1 h) (by rw [aT];exact λh=>e5 (h.2.2.2.2.2.1))⟩)
      | (rw [aR];exact ⟨λh=>(by cases h),λh=>absurd (hiff.1 h) (by rw [aT];exact λh=>e6 (by rw [h.2.2.2.2.2.2.2]))⟩)
      | (rw [aR];exact ⟨λh=>(by cases h),λh=>absurd (hiff.1 h) (by rw [aT];exact λh=>e7 h.2.2.2.2.2.2.1)⟩)
    try simp only [df] at h39
    have e2:=(gH.1 h39:nm0=nm1);refine .gy (.fieldAddr Z fU)<|.gy (.load Z cZ cO Z)<|.gy (.fieldAddr Z fU)<|.gy (.load Z cZ Hm Z)<|.gy (.neS Z Z)<|.yw (.pickF Z Z)<|.mv Z<|.b2 (λh46=>?_) (λh46=>?_)
    ·try simp only [dt] at h46
     have e3:=(id h46:¬ fd0=fd1);refine .gG<|.gG<|.gG<|.gG<|.gG<|.yw (.pickT Z Z)<|.mv Z<|.gG<|.gG<|.gG<|.gG<|.gG<|.yw (.pickT Z Z)<|.mv Z<|.gG<|.gG<|.gG<|.gG<|.gG<|.gG<|.gG<|.yw (.pickT Z Z)<|.mv Z<|.gG<|.gG<|.gG<|.gG<|.gG<|.gG<|.yw (.pickT Z Z)<|.nt<|.cT Z<|.sr<|.az Z<|.tR<|.bR<|.tR<|.tR<|.bR<|.tR<|?_
     refine y9 Z Z λW s=>⟨kE ?_,s.ext⟩
     first
      | (rw [aR];exact ⟨λ_=>hall,λ_=>rfl⟩)
      | (rw [aR];exact ⟨λh=>(by cases h),λh=>absurd (hiff.1 h) (by rw [aT];exact λh=>e1 (h.2.1))⟩)
      | (rw [aR];exact ⟨λh=>(by cases h),λh=>absurd (hiff.1 h) (by rw [aT];exact λh=>e2 (h.2.2.1))⟩)
      | (rw [aR];exact ⟨λh=>(by cases h),λh=>absurd (hiff.1 h) (by rw [aT];exact λh=>e3 (h.2.2.2.1))⟩)
      | (rw [aR];exact ⟨λh=>(by cases h),λh=>absurd (hiff.1 h) (by rw [aT];exact λh=>e4 (h.2.2.2.2.1))⟩)
      | (rw [aR];exact ⟨λh=>(by cases h),λh=>absurd (hiff.1 h) (by rw [aT];exact λh=>e5 (h.2.2.2.2.2.1))⟩)
      | (rw [aR];exact ⟨λh=>(by cases h),λh=>absurd (hiff.1 h) (by rw [aT];exact λh=>e6 (by rw [h.2.2.2.2.2.2.2]))⟩)
      | (rw [aR];exact ⟨λh=>(by cases h),λh=>absurd (hiff.1 h) (by rw [aT];exact λh=>e7 h.2.2.2.2.2.2.1)⟩)
    try simp only [df] at h46
    have e3:=(gH.1 h46:fd0=fd1);refine .gy (.fieldAddr Z eU)<|.gy (.load Z cR cO Z)<|.gy (.fieldAddr Z eU)<|.gy (.load Z cR Hm Z)<|.gy (.neq Z Z)<|.yw (.pickF Z Z)<|.mv Z<|.b2 (λh53=>?_) (λh53=>?_)
    ·try simp only [dt] at h53
     have e4:=(λe=>h53 (by rw [e]):¬ a0=a1);refine .gG<|.gG<|.gG<|.gG<|.gG<|.yw (.pickT Z Z)<|.mv Z<|.gG<|.gG<|.gG<|.gG<|.gG<|.gG<|.gG<|.yw (.pickT Z Z)<|.mv Z<|.gG<|.gG<|.gG<|.gG<|.gG<|.gG<|.yw (.pickT Z Z)<|.nt<|.cT Z<|.sr<|.az Z<|.tR<|.bR<|.tR<|.tR<|.bR<|.tR<|?_
     refine y9 Z Z λW s=>⟨kE ?_,s.ext⟩
     first
      | (rw [aR];exact ⟨λ_=>hall,λ_=>rfl⟩)
      | (rw [aR];exact ⟨λh=>(by cases h),λh=>absurd (hiff.1 h) (by rw [aT];exact λh=>e1 (h.2.1))⟩)
      | (rw [aR];exact ⟨λh=>(by cases h),λh=>absurd (hiff.1 h) (by rw [aT];exact λh=>e2 (h.2.2.1))⟩)
      | (rw [aR];exact ⟨λh=>(by cases h),λh=>absurd (hiff.1 h) (by rw [aT];exact λh=>e3 (h.2.2.2.1))⟩)
      | (rw [aR];exact ⟨λh=>(by cases h),λh=>absurd (hiff.1 h) (by rw [aT];exact λh=>e4 (h.2.2.2.2.1))⟩)
      | (rw [aR];exact ⟨λh=>(by cases h),λh=>absurd (hiff.1 h) (by rw [aT];exact λh=>e5 (h.2.2.2.2.2.1))⟩)
      | (rw [aR];exact ⟨λh=>(by cases h),λh=>absurd (hiff.1 h) (by rw [aT];exact λh=>e6 (by rw [h.2.2.2.2.2.2.2]))⟩)
      | (rw [aR];exact ⟨λh=>(by cases h),λh=>absurd (hiff.1 h) (by rw [aT];exact λh=>e7 h.2.2.2.2.2.2.1)⟩)
    try simp only [df] at h53
    have e4:=dR.1 (by omega:a0.toInt=a1.toInt);refine .gy (.fieldAddr Z eQ)<|.gy (.load Z cR cO Z)<|.gy (.fieldAddr Z eQ)<|.gy (.load Z cR Hm Z)<|.gy (.neq Z Z)<|.yw (.pickF Z Z)<|.mv Z<|.b2 (λh60=>?_) (λh60=>?_)
    ·try simp only [dt] at h60
     have e5:=(λe=>h60 (by rw [e]):¬ b0=b1);refine .gG<|.gG<|.gG<|.gG<|.gG<|.gG<|.gG<|.yw (.pickT Z Z)<|.mv Z<|.gG<|.gG<|.gG<|.gG<|.gG<|.gG<|.yw (.pickT Z Z)<|.nt<|.cT Z<|.sr<|.az Z<|.tR<|.bR<|.tR<|.tR<|.bR<|.tR<|?_
     refine y9 Z Z λW s=>⟨kE ?_,s.ext⟩
     first
      | (rw [aR];exact ⟨λ_=>hall,λ_=>rfl⟩)
      | (rw [aR];exact ⟨λh=>(by cases h),λh=>absurd (hiff.1 h) (by rw [aT];exact λh=>e1 (h.2.1))⟩)
      | (rw [aR];exact ⟨λh=>(by cases h),λh=>absurd (hiff.1 h) (by rw [aT];exact λh=>e2 (h.2.2.1))⟩)
      | (rw [aR];exact ⟨λh=>(by cases h),λh=>absurd (hiff.1 h) (by rw [aT];exact λh=>e3 (h.2.2.2.1))⟩)
      | (rw [aR];exact ⟨λh=>(by cases h),λh=>absurd (hiff.1 h) (by rw [aT];exact λh=>e4 (h.2.2.2.2.1))⟩)
      | (rw [aR];exact ⟨λh=>(by cases h),λh=>absurd (hiff.1 h) (by rw [aT];exact λh=>e5 (h.2.2.2.2.2.1))⟩)
      | (rw [aR];exact ⟨λh=>(by cases h),λh=>absurd (hiff.1 h) (by rw [aT];exact λh=>e6 (by rw [h.2.2.2.2.2.2.2]))⟩)
      | (rw [aR];exact ⟨λh=>(by cases h),λh=>absurd (hiff.1 h) (by rw [aT];exact λh=>e7 h.2.2.2.2.2.2.1)⟩)
    try simp only [df] at h60
    have e5:=dR.1 (by omega:b0.toInt=b1.toInt);refine .gy (.fieldAddr Z dD)<|.gy (.load Z fP cO Z)<|.gy (.lenSl eR Z)<|.gy (.fieldAddr Z dD)<|.gy (.load Z fP Hm Z)<|.gy (.lenSl eR Z)<|.gy (.neq Z Z)<|.yw (.pickF Z Z)<|.mv Z<|.b2 (λh69=>?_) (λh69=>?_)
    ·try simp only [dt] at h69
     have e6:=(λe=>h69 (by rw [e]):¬ args0.length=gY.length);refine .gG<|.gG<|.gG<|.gG<|.gG<|.gG<|.yw (.pickT Z Z)<|.nt<|.cT Z<|.sr<|.az Z<|.tR<|.bR<|.tR<|.tR<|.bR<|.tR<|?_
     refine y9 Z Z λW s=>⟨kE ?_,s.ext⟩
     first
      | (rw [aR];exact ⟨λ_=>hall,λ_=>rfl⟩)
      | (rw [aR];exact ⟨λh=>(by cases h),λh=>absurd (hiff.1 h) (by rw [aT];exact λh=>e1 (h.2.1))⟩)
      | (rw [aR];exact ⟨λh=>(by cases h),λh=>absurd (hiff.1 h) (by rw [aT];exact λh=>e2 (h.2.2.1))⟩)
      | (rw [aR];exact ⟨λh=>(by cases h),λh=>absurd (hiff.1 h) (by rw [aT];exact λh=>e3 (h.2.2.2.1))⟩)
      | (rw [aR];exact ⟨λh=>(by cases h),λh=>absurd (hiff.1 h) (by rw [aT];exact λh=>e4 (h.2.2.2.2.1))⟩)
      | (rw [aR];exact ⟨λh=>(by cases h),λh=>absurd (hiff.1 h) (by rw [aT];exact λh=>e5 (h.2.2.2.2.2.1))⟩)
      | (rw [aR];exact ⟨λh=>(by cases h),λh=>absurd (hiff.1 h) (by rw [aT];exact λh=>e6 (by rw [h.2.2.2.2.2.2.2]))⟩)
      | (rw [aR];exact ⟨λh=>(by cases h),λh=>absurd (hiff.1 h) (by rw [aT];exact λh=>e7 h.2.2.2.2.2.2.1)⟩)
    try simp only [df] at h69
    have e6:=(by omega:args0.length=gY.length);refine .gy (.fieldAddr Z cJ)<|.gy (.load Z dE cO Z)<|.gy (.fieldAddr Z cJ)<|.gy (.load Z dE Hm Z)<|.gy (.call yO Z (λW s=>FJ H 52 yN ex0 ex1 (λa _=>uA H a) _ _ hs0 hs5 W s.agr))<|.gy (.not Z)<|.yw (.pickF Z Z)<|.nt<|.cd Z (λh76=>?_) (λh76=>?_)
    ·try simp only [dt] at h76
     have e7:=BS.1 (by simpa using h76);refine .sr<|.az Z<|.tR<|.bR<|.tR<|.tR<|.bR<|.tR<|?_
     refine y9 Z Z λW s=>⟨kE ?_,s.ext⟩
     first
      | (rw [aR];exact ⟨λ_=>hall,λ_=>rfl⟩)
      | (rw [aR];exact ⟨λh=>(by cases h),λh=>absurd (hiff.1 h) (by rw [aT];exact λh=>e1 (h.2.1))⟩)
      | (rw [aR];exact ⟨λh=>(by cases h),λh=>absurd (hiff.1 h) (by rw [aT];exact λh=>e2 (h.2.2.1))⟩)
      | (rw [aR];exact ⟨λh=>(by cases h),λh=>absurd (hiff.1 h) (by rw [aT];exact λh=>e3 (h.2.2.2.1))⟩)
      | (rw [aR];exact ⟨λh=>(by cases h),λh=>absurd (hiff.1 h) (by rw [aT];exact λh=>e4 (h.2.2.2.2.1))⟩)
      | (rw [aR];exact ⟨λh=>(by cases h),λh=>absurd (hiff.1 h) (by rw [aT];exact λh=>e5 (h.2.2.2.2.2.1))⟩)
      | (rw [aR];exact ⟨λh=>(by cases h),λh=>absurd (hiff.1 h) (by rw [aT];exact λh=>e6 (by rw [h.2.2.2.2.2.2.2]))⟩)
      | (rw [aR];exact ⟨λh=>(by cases h),λh=>absurd (hiff.1 h) (by rw [aT];exact λh=>e7 h.2.2.2.2.2.2.1)⟩)
    try simp only [df] at h76
    have e7:=aR.1 (by simpa using h76);refine Sx.At.rcut (size:=7) (m:=fs0.length) (ys:=xf.take (fs0.length * 7)) lZ (by rw [hl0];exact Nat.le_succ _) rfl ?_;refine Sx.At.rcut (size:=7) (m:=gs0.length) (ys:=xg.take (gs0.length * 7)) mN (by rw [hl1];exact Nat.le_succ _) rfl ?_;exact .sk<|.tN<|.fL 12 [(0,0),(1,0),(2,0),(3,0),(4,0),(6,0),(7,0),(8,0),(9,0),(10,0),(5,3),(11,3)]<|.mv Z<|.mv Z<|.yw (.cutHi eR Z Z (h:=fs0.length) (by rw [hl0];omega) (by rw [hl0] at hgc;omega) (λq e=>by cases e;rfl))<|.fA Z dD<|.lD Z fP cO Z<|.mv Z<|.mv Z<|.yw (.cutHi eR Z Z (h:=gs0.length) (by rw [hl0];omega) (by rw [hl1] at hgd;omega) (λq e=>by cases e;rfl))<|.fA Z dD<|.lD Z fP Hm Z<|.apD rQ Z (λ_ _=>lZ) Z hs3 (by simp only [maxLen];omega) (by omega) Z (λ_ _=>(.yv (.load Z fP Hm Z)<|.yv (.fieldAddr Z dD)<|.yv (.cutHi eR Z Z (h:=gs0.length) (by rw [hl0];omega) (by rw [hl1] at hgd;omega) (λq e=>by cases e;rfl))<|.yv (.move Z)<|.yv (.move Z)<|.d3<|.d2<|.nl)) λnews pN cN hzn=>.apD rQ Z (λ_ _=>mN) Z hs6 (by simp only [maxLen];omega) (by omega) Z (λ_ _=>(.d4<|.d4<|.d2<|.nl)) λmews pM cM hzm=>.fn (tl:=[_,_]) Z<|.a Z Z<|.a Z Z<|.nl<|.bN<|.tN<|.rg<|.mv Z<|.yw (.lenSl eR Z)<|.yw (.sub Z Z (w6 (by omega)))<|.aq Z<|.ag (x:=(n,fs0++[Fm.mk op0 nm0 fd0 a0 b0 ex0 args0],gs0++[Fm.mk op1 nm1 fd1 a1 b1 ex1 gY],Value.slice (some ⟨wf,0,none⟩) (fs0++[Fm.mk op0 nm0 fd0 a0 b0 ex0 args0]).length cf,Value.slice (some ⟨wg,0,none⟩) (gs0++[Fm.mk op1 nm1 fd1 a1 b1 ex1 gY]).length cg,xf,xg)) (n+1,fs0++args0,gs0++gY,Value.slice pN (fs0.length+args0.length) cN,Value.slice pM (gs0.length+gY.length) cM,xf.take (fs0.length * 7)++news,xg.take (gs0.length * 7)++mews) ⟨Z,Z,by dsimp only;exact congrArg (λm:Nat=>some (Value.int .i64 ((m:Int) - 1))) (aG ).symm,Jt⟩ trivial (λ_ s=>by dsimp only;rw [aG,aG];exact (s.pick [2,3,4,5] _ Z Z)) ⟨by rw [bU];exact hz0.app hzn,by rw [bU];exact hz1.app hzm,by dsimp only;rw [aG,aG];omega,by dsimp only;rw [eZ];omega,λe he=>by rcases bZ.1 he with h | h;exact hbf e (bZ.2 (.inl h));exact hb0.2 e h,by dsimp only;rw [aG,hNs];omega,by dsimp only;exact hiff.trans (BL e1 e2 e3 e4 e5 e6 e7 hle)⟩ (by dsimp only;rw [eZ,eZ,Fm.counts,Fm.counts,oQ];omega)
   refine .al eG Z λb9=>.h1<|.al eG Z λb8=>.h1<|.sW .head Z Z cV (by simp [Value.oneCell',cH]) Z ((.yv (.loadR (vs:=cFm .u8 op1 nm1 fd1 a1 b1 (.slice q5 ex1.length d5) (.slice q6 gY.length d6)) Z cD pT Z hx1)<|.yv (.indexSl eR Z Z (i:=gs0.length) (by rw [hl0];omega) (by rw [hl1];omega) (q:=gs0.length * 7) (by omega))<|.yv (.move Z)<|.yv (.move Z)<|.d4<|.nl))<|.fn (tl:=[_]) Z<|.sX kT Z Z cV Z<|.nt<|.sq<|.sr<|.fA Z eF<|.lD Z hZ Hm Z<|.fA Z eF<|.lD Z hZ cO Z<|.yw (.neq Z Z)<|.mv Z<|.b2 (λh32=>?_) (λh32=>?_)
   ·try simp only [dt] at h32
    have e1:=(λe=>h32 (by rw [e]):¬ op0=op1);refine .gG<|.gG<|.gG<|.gG<|.gG<|.yw (.pickT Z Z)<|.mv Z<|.gG<|.gG<|.gG<|.gG<|.gG<|.yw (.pickT Z Z)<|.mv Z<|.gG<|.gG<|.gG<|.gG<|.gG<|.yw (.pickT Z Z)<|.mv Z<|.gG<|.gG<|.gG<|.gG<|.gG<|.yw (.pickT Z Z)<|.mv Z<|.gG<|.gG<|.gG<|.gG<|.gG<|.gG<|.gG<|.yw (.pickT Z Z)<|.mv Z<|.gG<|.gG<|.gG<|.gG<|.gG<|.gG<|.yw (.pickT Z Z)<|.nt<|.cT Z<|.sr<|.az Z<|.tR<|.bR<|.tR<|.tR<|.bR<|.tR<|?_
    refine y9 Z Z λW s=>⟨kE ?_,s.ext⟩
    first
     | (rw [aR];exact ⟨λ_=>hall,λ_=>rfl⟩)
     | (rw [aR];exact ⟨λh=>(by cases h),λh=>absurd (hiff.1 h) (by rw [aT];exact λh=>e1 (h.2.1))⟩)
     | (rw [aR];exact ⟨λh=>(by cases h),λh=>absurd (hiff.1 h) (by rw [aT];exact λh=>e2 (h.2.2.1))⟩)
     | (rw [aR];exact ⟨λh=>(by cases h),λh=>absurd (hiff.1 h) (by rw [aT];exact λh=>e3 (h.2.2.2.1))⟩)
     | (rw [aR];exact ⟨λh=>(by cases h),λh=>absurd (hiff.1 h) (by rw [aT];exact λh=>e4 (h.2.2.2.2.1))⟩)
     | (rw [aR];exact ⟨λh=>(by cases h),λh=>absurd (hiff.1 h) (by rw [aT];exact λh=>e5 (h.2.2.2.2.2.1))⟩)
     | (rw [aR];exact ⟨λh=>(by cases h),λh=>absurd (hiff.1 h) (by rw [aT];exact λh=>e6 (by rw [h.2.2.2.2.2.2.2]))⟩)
     | (rw [aR];exact ⟨λh=>(by cases h),λh=>absurd (hiff.1 h) (by rw [aT];exact λh=>e7 h.2.2.2.2.2.2.1)⟩)
   try simp only [df] at h32
   have e1:=aQ.1 (by omega:op0.toNat=op1.toNat);refine .gy (.fieldAddr Z fV)<|.gy (.load Z cZ Hm Z)<|.gy (.fieldAddr Z fV)<|.gy (.load Z cZ cO Z)<|.gy (.neS Z Z)<|.yw (.pickF Z Z)<|.mv Z<|.b2 (λh39=>?_) (λh39=>?_)
   ·try simp only [dt] at h39
    have e2:=(id h39:¬ nm0=nm1);refine .gG<|.gG<|.gG<|.gG<|.gG<|.yw (.pickT Z Z)<|.mv Z<|.gG<|.gG<|.gG<|.gG<|.gG<|.yw (.pickT Z Z)<|.mv Z<|.gG<|.gG<|.gG<|.gG<|.gG<|.yw (.pickT Z Z)<|.mv Z<|.gG<|.gG<|.gG<|.gG<|.gG<|.gG<|.gG<|.yw (.pickT Z Z)<|.mv Z<|.gG<|.gG<|.gG<|.gG<|.gG<|.gG<|.yw (.pickT Z Z)<|.nt<|.cT Z<|.sr<|.az Z<|.tR<|.bR<|.tR<|.tR<|.bR<|.tR<|?_
    refine y9 Z Z λW s=>⟨kE ?_,s.ext⟩
    first
     | (rw [aR];exact ⟨λ_=>hall,λ_=>rfl⟩)
     | (rw [aR];exact ⟨λh=>(by cases h),λh=>absurd (hiff.1 h) (by rw [aT];exact λh=>e1 (h.2.1))⟩)
     | (rw [aR];exact ⟨λh=>(by cases h),λh=>absurd (hiff.1 h) (by rw [aT];exact λh=>e2 (h.2.2.1))⟩)
     | (rw [aR];exact ⟨λh=>(by cases h),λh=>absurd (hiff.1 h) (by rw [aT];exact λh=>e3 (h.2.2.2.1))⟩)
     | (rw [aR];exact ⟨λh=>(by cases h),λh=>absurd (hiff.1 h) (by rw [aT];exact λh=>e4 (h.2.2.2.2.1))⟩)
     | (rw [aR];exact ⟨λh=>(by cases h),λh=>absurd (hiff.1 h) (by rw [aT];exact λh=>e5 (h.2.2.2.2.2.1))⟩)
     | (rw [aR];exact ⟨λh=>(by cases h),λh=>absurd (hiff.1 h) (by rw [aT];exact λh=>e6 (by rw [h.2.2.2.2.2.2.2]))⟩)
     | (rw [aR];exact ⟨λh=>(by cases h),λh=>absurd (hiff.1 h) (by rw [aT];exact λh=>e7 h.2.2.2.2.2.2.1)⟩)
   try simp only [df] at h39
   have e2:=(gH.1 h39:nm0=nm1);refine .gy (.fieldAddr Z fU)<|.gy (.load Z cZ Hm Z)<|.gy (.fieldAddr Z fU)<|.gy (.load Z cZ cO Z)<|.gy (.neS Z Z)<|.yw (.pickF Z Z)<|.mv Z<|.b2 (λh46=>?_) (λh46=>?_)
   ·try simp only [dt] at h46
    have e3:=(id h46:¬ fd0=fd1);refine .gG<|.gG<|.gG<|.gG<|.gG<|.yw (.pickT Z Z)<|.mv Z<|.gG<|.gG<|.gG<|.gG<|.gG<|.yw (.pickT Z Z)<|.mv Z<|.gG<|.gG<|.gG<|.gG<|.gG<|.gG<|.gG<|.yw (.pickT Z Z)<|.mv Z<|.gG<|.gG<|.gG<|.gG<|.gG<|.gG<|.yw (.pickT Z Z)<|.nt<|.cT Z<|.sr<|.az Z<|.tR<|.bR<|.tR<|.tR<|.bR<|.tR<|?_
    refine y9 Z Z λW s=>⟨kE ?_,s.ext⟩
    first
     | (rw [aR];exact ⟨λ_=>hall,λ_=>rfl⟩)
     | (rw [aR];exact ⟨λh=>(by cases h),λh=>absurd (hiff.1 h) (by rw [aT];exact λh=>e1 (h.2.1))⟩)
     | (rw [aR];exact ⟨λh=>(by cases h),λh=>absurd (hiff.1 h) (by rw [aT];exact λh=>e2 (h.2.2.1))⟩)
     | (rw [aR];exact ⟨λh=>(by cases h),λh=>absurd (hiff.1 h) (by rw [aT];exact λh=>e3 (h.2.2.2.1))⟩)
     | (rw [aR];exact ⟨λh=>(by cases h),λh=>absurd (hiff.1 h) (by rw [aT];exact λh=>e4 (h.2.2.2.2.1))⟩)
     | (rw [aR];exact ⟨λh=>(by cases h),λh=>absurd (hiff.1 h) (by rw [aT];exact λh=>e5 (h.2.2.2.2.2.1))⟩)
     | (rw [aR];exact ⟨λh=>(by cases h),λh=>absurd (hiff.1 h) (by rw [aT];exact λh=>e6 (by rw [h.2.2.2.2.2.2.2]))⟩)
     | (rw [aR];exact ⟨λh=>(by cases h),λh=>absurd (hiff.1 h) (by rw [aT];exact λh=>e7 h.2.2.2.2.2.2.1)⟩)
   try simp only [df] at h46
   have e3:=(gH.1 h46:fd0=fd1);refine .gy (.fieldAddr Z eU)<|.gy (.load Z cR Hm Z)<|.gy (.fieldAddr Z eU)<|.gy (.load Z cR cO Z)<|.gy (.neq Z Z)<|.yw (.pickF Z Z)<|.mv Z<|.b2 (λh53=>?_) (λh53=>?_)
   ·try simp only [dt] at h53
    have e4:=(λe=>h53 (by rw [e]):¬ a0=a1);refine .gG<|.gG<|.gG<|.gG<|.gG<|.yw (.pickT Z Z)<|.mv Z<|.gG<|.gG<|.gG<|.gG<|.gG<|.gG<|.gG<|.yw (.pickT Z Z)<|.mv Z<|.gG<|.gG<|.gG<|.gG<|.gG<|.gG<|.yw (.pickT Z Z)<|.nt<|.cT Z<|.sr<|.az Z<|.tR<|.bR<|.tR<|.tR<|.bR<|.tR<|?_
    refine y9 Z Z λW s=>⟨kE ?_,s.ext⟩
    first
     | (rw [aR];exact ⟨λ_=>hall,λ_=>rfl⟩)
     | (rw [aR];exact ⟨λh=>(by cases h),λh=>absurd (hiff.1 h) (by rw [aT];exact λh=>e1 (h.2.1))⟩)
     | (rw [aR];exact ⟨λh=>(by cases h),λh=>absurd (hiff.1 h) (by rw [aT];exact λh=>e2 (h.2.2.1))⟩)
     | (rw [aR];exact ⟨λh=>(by cases h),λh=>absurd (hiff.1 h) (by rw [aT];exact λh=>e3 (h.2.2.2.1))⟩)
     | (rw [aR];exact ⟨λh=>(by cases h),λh=>absurd (hiff.1 h) (by rw [aT];exact λh=>e4 (h.2.2.2.2.1))⟩)
     | (rw [aR];exact ⟨λh=>(by cases h),λh=>absurd (hiff.1 h) (by rw [aT];exact λh=>e5 (h.2.2.2.2.2.1))⟩)
     | (rw [aR];exact ⟨λh=>(by cases h),λh=>absurd (hiff.1 h) (by rw [aT];exact λh=>e6 (by rw [h.2.2.2.2.2.2.2]))⟩)
     | (rw [aR];exact ⟨λh=>(by cases h),λh=>absurd (hiff.1 h) (by rw [aT];exact λh=>e7 h.2.2.2.2.2.2.1)⟩)
   try simp only [df] at h53
   have e4:=dR.1 (by omega:a0.toInt=a1.toInt);refine .gy (.fieldAddr Z eQ)<|.gy (.load Z cR Hm Z)<|.gy (.fieldAddr Z eQ)<|.gy (.load Z cR cO Z)<|.gy (.neq Z Z)<|.yw (.pickF Z Z)<|.mv Z<|.b2 (λh60=>?_) (λh60=>?_)
   ·try simp only [dt] at h60
    have e5:=(λe=>h60 (by rw [e]):¬ b0=b1);refine .gG<|.gG<|.gG<|.gG<|.gG<|.gG<|.gG<|.yw (.pickT Z Z)<|.mv Z<|.gG<|.gG<|.gG<|.gG<|.gG<|.gG<|.yw (.pickT Z Z)<|.nt<|.cT Z<|.sr<|.az Z<|.tR<|.bR<|.tR<|.tR<|.bR<|.tR<|?_
    refine y9 Z Z λW s=>⟨kE ?_,s.ext⟩
    first
     | (rw [aR];exact ⟨λ_=>hall,λ_=>rfl⟩)
     | (rw [aR];exact ⟨λh=>(by cases h),λh=>absurd (hiff.1 h) (by rw [aT];exact λh=>e1 (h.2.1))⟩)
     | (rw [aR];exact ⟨λh=>(by cases h),λh=>absurd (hiff.1 h) (by rw [aT];exact λh=>e2 (h.2.2.1))⟩)
     | (rw [aR];exact ⟨λh=>(by cases h),λh=>absurd (hiff.1 h) (by rw [aT];exact λh=>e3 (h.2.2.2.1))⟩)
     | (rw [aR];exact ⟨λh=>(by cases h),λh=>absurd (hiff.1 h) (by rw [aT];exact λh=>e4 (h.2.2.2.2.1))⟩)
     | (rw [aR];exact ⟨λh=>(by cases h),λh=>absurd (hiff.1 h) (by rw [aT];exact λh=>e5 (h.2.2.2.2.2.1))⟩)
     | (rw [aR];exact ⟨λh=>(by cases h),λh=>absurd (hiff.1 h) (by rw [aT];exact λh=>e6 (by rw [h.2.2.2.2.2.2.2]))⟩)
     | (rw [aR];exact ⟨λh=>(by cases h),λh=>absurd (hiff.1 h) (by rw [aT];exact λh=>e7 h.2.2.2.2.2.2.1)⟩)
   try simp only [df] at h60
   have e5:=dR.1 (by omega:b0.toInt=b1.toInt);refine .gy (.fieldAddr Z dD)<|.gy (.load Z fP Hm Z)<|.gy (.lenSl eR Z)<|.gy (.fieldAddr Z dD)<|.gy (.load Z fP cO Z)<|.gy (.lenSl eR Z)<|.gy (.neq Z Z)<|.yw (.pickF Z Z)<|.mv Z<|.b2 (λh69=>?_) (λh69=>?_)
   ·try simp only [dt] at h69
    have e6:=(λe=>h69 (by rw [e]):¬ args0.length=gY.length);refine .gG<|.gG<|.gG<|.gG<|.gG<|.gG<|.yw (.pickT Z Z)<|.nt<|.cT Z<|.sr<|.az Z<|.tR<|.bR<|.tR<|.tR<|.bR<|.tR<|?_
    refine y9 Z Z λW s=>⟨kE ?_,s.ext⟩
    first
     | (rw [aR];exact ⟨λ_=>hall,λ_=>rfl⟩)
     | (rw [aR];exact ⟨λh=>(by cases h),λh=>absurd (hiff.1 h) (by rw [aT];exact λh=>e1 (h.2.1))⟩)
     | (rw [aR];exact ⟨λh=>(by cases h),λh=>absurd (hiff.1 h) (by rw [aT];exact λh=>e2 (h.2.2.1))⟩)
     | (rw [aR];exact ⟨λh=>(by cases h),λh=>absurd (hiff.1 h) (by rw [aT];exact λh=>e3 (h.2.2.2.1))⟩)
     | (rw [aR];exact ⟨λh=>(by cases h),λh=>absurd (hiff.1 h) (by rw [aT];exact λh=>e4 (h.2.2.2.2.1))⟩)
     | (rw [aR];exact ⟨λh=>(by cases h),λh=>absurd (hiff.1 h) (by rw [aT];exact λh=>e5 (h.2.2.2.2.2.1))⟩)
     | (rw [aR];exact ⟨λh=>(by cases h),λh=>absurd (hiff.1 h) (by rw [aT];exact λh=>e6 (by rw [h.2.2.2.2.2.2.2]))⟩)
     | (rw [aR];exact ⟨λh=>(by cases h),λh=>absurd (hiff.1 h) (by rw [aT];exact λh=>e7 h.2.2.2.2.2.2.1)⟩)
   try simp only [df] at h69
   have e6:=(by omega:args0.length=gY.length);refine .gy (.fieldAddr Z cJ)<|.gy (.load Z dE Hm Z)<|.gy (.fieldAddr Z cJ)<|.gy (.load Z dE cO Z)<|.gy (.call yO Z (λW s=>FJ H 52 yN ex0 ex1 (λa _=>uA H a) _ _ hs0 hs5 W s.agr))<|.gy (.not Z)<|.yw (.pickF Z Z)<|.nt<|.cd Z (λh76=>?_) (λh76=>?_)
   ·try simp only [dt] at h76
    have e7:=BS.1 (by simpa using h76);refine .sr<|.az Z<|.tR<|.bR<|.tR<|.tR<|.bR<|.tR<|?_
    refine y9 Z Z λW s=>⟨kE ?_,s.ext⟩
    first
     | (rw [aR];exact ⟨λ_=>hall,λ_=>rfl⟩)
     | (rw [aR];exact ⟨λh=>(by cases h),λh=>absurd (hiff.1 h) (by rw [aT];exact λh=>e1 (h.2.1))⟩)
     | (rw [aR];exact ⟨λh=>(by cases h),λh=>absurd (hiff.1 h) (by rw [aT];exact λh=>e2 (h.2.2.1))⟩)
     | (rw [aR];exact ⟨λh=>(by cases h),λh=>absurd (hiff.1 h) (by rw [aT];exact λh=>e3 (h.2.2.2.1))⟩)
     | (rw [aR];exact ⟨λh=>(by cases h),λh=>absurd (hiff.1 h) (by rw [aT];exact λh=>e4 (h.2.2.2.2.1))⟩)
     | (rw [aR];exact ⟨λh=>(by cases h),λh=>absurd (hiff.1 h) (by rw [aT];exact λh=>e5 (h.2.2.2.2.2.1))⟩)
     | (rw [aR];exact ⟨λh=>(by cases h),λh=>absurd (hiff.1 h) (by rw [aT];exact λh=>e6 (by rw [h.2.2.2.2.2.2.2]))⟩)
     | (rw [aR];exact ⟨λh=>(by cases h),λh=>absurd (hiff.1 h) (by rw [aT];exact λh=>e7 h.2.2.2.2.2.2.1)⟩)
   try simp only [df] at h76
   have e7:=aR.1 (by simpa using h76);refine Sx.At.rcut (size:=7) (m:=fs0.length) (ys:=xf.take (fs0.length * 7)) lZ (by rw [hl0];exact Nat.le_succ _) rfl ?_;refine Sx.At.rcut (size:=7) (m:=gs0.length) (ys:=xg.take (gs0.length * 7)) mN (by rw [hl1];exact Nat.le_succ _) rfl ?_;exact .sk<|.tN<|.fL 12 [(0,0),(1,0),(2,0),(3,0),(4,0),(6,0),(7,0),(8,0),(9,0),(10,0),(5,3),(11,3)]<|.mv Z<|.mv Z<|.yw (.cutHi eR Z Z (h:=fs0.length) (by rw [hl0];omega) (by rw [hl0] at hgc;omega) (λq e=>by cases e;rfl))<|.fA Z dD<|.lD Z fP Hm Z<|.mv Z<|.mv Z<|.yw (.cutHi eR Z Z (h:=gs0.length) (by rw [hl0];omega) (by rw [hl1] at hgd;omega) (λq e=>by cases e;rfl))<|.fA Z dD<|.lD Z fP cO Z<|.apD rQ Z (λ_ _=>lZ) Z hs3 (by simp only [maxLen];omega) (by omega) Z (λ_ _=>(.yv (.load Z fP cO Z)<|.yv (.fieldAddr Z dD)<|.yv (.cutHi eR Z Z (h:=gs0.length) (by rw [hl0];omega) (by rw [hl1] at hgd;omega) (λq e=>by cases e;rfl))<|.yv (.move Z)<|.yv (.move Z)<|.d3<|.d2<|.nl)) λnews pN cN hzn=>.apD rQ Z (λ_ _=>mN) Z hs6 (by simp only [maxLen];omega) (by omega) Z (λ_ _=>(.d4<|.d4<|.d2<|.nl)) λmews pM cM hzm=>.fn (tl:=[_,_]) Z<|.a Z Z<|.a Z Z<|.nl<|.bN<|.tN<|.rg<|.mv Z<|.yw (.lenSl eR Z)<|.yw (.sub Z Z (w6 (by omega)))<|.aq Z<|.ag (x:=(n,fs0++[Fm.mk op0 nm0 fd0 a0 b0 ex0 args0],gs0++[Fm.mk op1 nm1 fd1 a1 b1 ex1 gY],Value.slice (some ⟨wf,0,none⟩) (fs0++[Fm.mk op0 nm0 fd0 a0 b0 ex0 args0]).length cf,Value.slice (some ⟨wg,0,none⟩) (gs0++[Fm.mk op1 nm1 fd1 a1 b1 ex1 gY]).length cg,xf,xg)) (n+1,fs0++args0,gs0++gY,Value.slice pN (fs0.length+args0.length) cN,Value.slice pM (gs0.length+gY.length) cM,xf.take (fs0.length * 7)++news,xg.take (gs0.length * 7)++mews) ⟨Z,Z,by dsimp only;exact congrArg (λm:Nat=>some (Value.int .i64 ((m:Int) - 1))) (aG ).symm,Jt⟩ trivial (λ_ s=>by dsimp only;rw [aG,aG];exact (s.pick [2,3,4,5] _ Z Z)) ⟨by rw [bU];exact hz0.app hzn,by rw [bU];exact hz1.app hzm,by dsimp only;rw [aG,aG];omega,by dsimp only;rw [eZ];omega,λe he=>by rcases bZ.1 he with h | h;exact hbf e (bZ.2 (.inl h));exact hb0.2 e h,by dsimp only;rw [aG,hNs];omega,by dsimp only;exact hiff.trans (BL e1 e2 e3 e4 e5 e6 e7 hle)⟩ (by dsimp only;rw [eZ,eZ,Fm.counts,Fm.counts,oQ];omega)
  try simp only [df] at h15
  have hfs:fs=[]:=bI (by omega);have hgs:gs=[]:=bI (by omega);have hall:=hiff.2 (by rw [hfs,hgs]);refine .ex<|.eb<|.sr<|.az Z<|?_
  refine y9 Z Z λW s=>⟨kE ?_,s.ext⟩
  first
   | (rw [aR];exact ⟨λ_=>hall,λ_=>rfl⟩)
   | (rw [aR];exact ⟨λh=>(by cases h),λh=>absurd (hiff.1 h) (by rw [aT];exact λh=>e1 (h.2.1))⟩)
   | (rw [aR];exact ⟨λh=>(by cases h),λh=>absurd (hiff.1 h) (by rw [aT];exact λh=>e2 (h.2.2.1))⟩)
   | (rw [aR];exact ⟨λh=>(by cases h),λh=>absurd (hiff.1 h) (by rw [aT];exact λh=>e3 (h.2.2.2.1))⟩)
   | (rw [aR];exact ⟨λh=>(by cases h),λh=>absurd (hiff.1 h) (by rw [aT];exact λh=>e4 (h.2.2.2.2.1))⟩)
   | (rw [aR];exact ⟨λh=>(by cases h),λh=>absurd (hiff.1 h) (by rw [aT];exact λh=>e5 (h.2.2.2.2.2.1))⟩)
   | (rw [aR];exact ⟨λh=>(by cases h),λh=>absurd (hiff.1 h) (by rw [aT];exact λh=>e6 (by rw [h.2.2.2.2.2.2.2]))⟩)
   | (rw [aR];exact ⟨λh=>(by cases h),λh=>absurd (hiff.1 h) (by rw [aT];exact λh=>e7 h.2.2.2.2.2.2.1)⟩)
 refine .blR (z:=7) Z (qD _ _ _ _ _ _ _) Z Z (by simp [maxLen]) λb13=>.h1<|.blR (z:=7) Z (qD _ _ _ _ _ _ _) Z Z (by simp [maxLen]) λb11=>.a Z Z<|.fn (tl:=[_]) Z<|.aq Z<|.sq<|.sr<|.aq Z<|.bk<|.lp (X:=Nat × List Fm × List Fm × Value × Value × List Value × List Value) [] trivial [_,_] (λz=>[(5,z.2.2.2.1),(6,z.2.2.2.2.1),(7,.int .i64 ((z.2.1.length:Int) - 1))]) (λz=>H) (λz=>[.row 35 7 z.2.2.2.1 z.2.1.length z.2.2.2.2.2.1,.row 35 7 z.2.2.2.2.1 z.2.2.1.length z.2.2.2.2.2.2]) (λz=>eD H 7 (z.2.1.map (dFm .u8)) z.2.2.2.2.2.1/\eD H 7 (z.2.2.1.map (dFm .u8)) z.2.2.2.2.2.2/\z.2.1.length=z.2.2.1.length/\z.1+Fm.counts z.2.1<=Fm.count (.mk op nm fd a b ex args)/\(∀ g∈z.2.1,blF N g=true)/\z.2.1.length<=1+N * z.1/\(Fm.mk op nm fd a b ex args=Fm.mk opb nmb fdb ab bb exb argsb↔z.2.1=z.2.2.1)) (λz=>Fm.counts z.2.1) (0,[Fm.mk op nm fd a b ex args],[Fm.mk opb nmb fdb ab bb exb argsb],.slice (some ⟨b11,0,none⟩) 1 1,.slice (some ⟨b13,0,none⟩) 1 1,[.int .u8 op.toNat,cH nm,cH fd,.int .i64 a.toInt,.int .i64 b.toInt,.slice p1 ex.length c1,.slice p2 args.length c2],[.int .u8 opb.toNat,cH nmb,cH fdb,.int .i64 ab.toInt,.int .i64 bb.toInt,.slice p3 exb.length c3,.slice p4 argsb.length c4]) (λ_ s=>s) ⟨Z,Z,Z,Jt⟩ ⟨.single h Z,.single k Z,Z,by rw [Fm.counts,Fm.counts];omega,λg hg=>by rw [bV.1 hg];exact hb,by simp,by simp⟩ λz hC=>?_
 obtain ⟨n,fs,gs,rf,rg,xf,xg⟩:=z;obtain ⟨zf,zg,hle,hcnt,hbf,hlen,hiff⟩:=hC;dsimp only at zf zg hle hcnt hbf hlen hiff|-;have hNn:N * n<=N * Fm.count (.mk op nm fd a b ex args):=lI N (by omega);refine At.ra (size:=7) (r:=rf) (e:=35) Hm λpf cf e=>?_;subst e;refine At.ra (size:=7) (r:=rg) (e:=35) cO λpg cg e=>?_;subst e;refine .sq<|.sm Z<|.yw (.geq Z Z)<|.nt<|.cd Z (λh15=>?_) (λh15=>?_)
 ·try simp only [dt] at h15
  have hpos:0<fs.length:=by omega
  obtain ⟨fs0,f0,rfl⟩:∃ fs0 f0,fs=fs0++[f0]:=by
   rcases List.eq_nil_or_concat fs with h | ⟨t,x,h⟩
   ·subst h;simp at hpos hle
   ·exact ⟨t,x,by rw [h,List.concat_eq_append]⟩
  have hl0:(fs0++[f0]).length=fs0.length+1:=by rw [aG];rfl
  refine Sx.rowCase (size:=7) (r:=.slice pf (fs0++[f0]).length cf) (e:=35) Hm (by rw [hl0];exact Nat.succ_pos _) λwf c e hgc=>?_;injection e with e3 _ e4
  subst e3 e4;obtain ⟨cs0,r0,hc0,hx0⟩:=eD.at zf (i:=fs0.length) (d:=dFm .u8 f0) (by rw [bU,List.getElem?_append_right (by rw [bJ];exact aY _),bJ,iV];rfl)
  have hz0:eD H 7 (fs0.map (dFm .u8)) (xf.take (fs0.length * 7)):=by
   have h:=eD.take fs0.length zf;rw [bU,List.take_left' (by rw [bJ])] at h;exact h
  obtain ⟨gs0,g0,rfl⟩:∃ fs0 f0,gs=fs0++[f0]:=by
   rcases List.eq_nil_or_concat gs with h | ⟨t,x,h⟩
   ·subst h;simp at hpos hle
   ·exact ⟨t,x,by rw [h,List.concat_eq_append]⟩
  have hl1:(gs0++[g0]).length=gs0.length+1:=by rw [aG];rfl
  refine Sx.rowCase (size:=7) (r:=.slice pg (gs0++[g0]).length cg) (e:=35) cO (by rw [hl1];exact Nat.succ_pos _) λwg c e hgd=>?_;injection e with e3 _ e4
  subst e3 e4;obtain ⟨cs1,r1,hc1,hx1⟩:=eD.at zg (i:=gs0.length) (d:=dFm .u8 g0) (by rw [bU,List.getElem?_append_right (by rw [bJ];exact aY _),bJ,iV];rfl)
  have hz1:eD H 7 (gs0.map (dFm .u8)) (xg.take (gs0.length * 7)):=by
   have h:=eD.take gs0.length zg;rw [bU,List.take_left' (by rw [bJ])] at h;exact h
  obtain ⟨op0,nm0,fd0,a0,b0,ex0,args0⟩:=f0;obtain ⟨op1,nm1,fd1,a1,b1,ex1,gY⟩:=g0;obtain ⟨q1,d1,q2,d2,rfl,hs0,hs3,_,_⟩:=iX r0;obtain ⟨q5,d5,q6,d6,rfl,hs5,hs6,_,_⟩:=iX r1;have hb0:=(wO.1 (hbf _ (bZ.2 (.inr (bV.2 rfl)))));rw [eZ,Fm.counts,Fm.counts,oQ] at hcnt;rw [hl0,hl1] at hle;rw [hl0] at hlen;have hNs:N * (n+1)=N * n+N:=Nat.mul_succ N n;have hcp0:=hs3.cap;have hcp1:=hs6.cap;refine .sk<|.tN<|.sq<|.bk<|.sq<|.ft (p:=.light _ _ (.light _ _ (.light _ _ (.light _ _ (.light _ _ (.light _ _ (.light _ _ (.light _ _ (.alt _ _ _ (.alt _ _ _ (.alt _ _ _ (.done) (.no)) (.no)) (.alt _ _ _ (.alt _ _ _ (.alt _ _ _ (.done) (.no)) (.no)) (.no))))))))))) 11 (.light 0 (.light 1 (.light 2 (.light 3 (.light 4 (.light 5 (.light 6 (.light 7 (.alt 8 0 (.alt 9 0 (.alt 10 2 (.done) (.no)) (.no)) (.alt 9 0 (.alt 8 0 (.alt 10 2 (.done) (.no)) (.no)) (.no))))))))))) (by kernel_rfl) (by kernel_rfl) Z<|.mv Z<|.mv Z<|.yw (.indexSl eR Z Z (i:=fs0.length) (by rw [hl0];omega) (by rw [hl0];omega) (q:=fs0.length * 7) (by omega))<|.yw (.loadR (vs:=cFm .u8 op0 nm0 fd0 a0 b0 (.slice q1 ex0.length d1) (.slice q2 args0.length d2)) Z cD Hm Z hx0)<|.mv Z<|.mv Z<|.yw (.indexSl eR Z Z (i:=gs0.length) (by rw [hl0];omega) (by rw [hl1];omega) (q:=gs0.length * 7) (by omega))<|.yw (.loadR (vs:=cFm .u8 op1 nm1 fd1 a1 b1 (.slice q5 ex1.length d5) (.slice q6 gY.length d6)) Z cD cO Z hx1)<|.h ?_ (.h ?_ .nn)
  ·
   refine .al eG Z λb8=>.h1<|.al eG Z λb9=>.h1<|.sW kT Z Z cV (by simp [Value.oneCell',cH]) Z ((.yv (.loadR (vs:=cFm .u8 op1 nm1 fd1 a1 b1 (.slice q5 ex1.length d5) (.slice q6 gY.length d6)) Z cD pT Z hx1)<|.yv (.indexSl eR Z Z (i:=gs0.length) (by rw [hl0];omega) (by rw [hl1];omega) (q:=gs0.length * 7) (by omega))<|.yv (.move Z)<|.yv (.move Z)<|.d4<|.nl))<|.fn (tl:=[_]) Z<|.sX .head Z Z cV Z<|.nt<|.sq<|.sr<|.fA Z eF<|.lD Z hZ cO Z<|.fA Z eF<|.lD Z hZ Hm Z<|.yw (.neq Z Z)<|.mv Z<|.b2 (λh32=>?_) (λh32=>?_)
   ·try simp only [dt] at h32
    have e1:=(λe=>h32 (by rw [e]):¬ op0=op1);refine .gG<|.gG<|.gG<|.gG<|.gG<|.yw (.pickT Z Z)<|.mv Z<|.gG<|.gG<|.gG<|.gG<|.gG<|.yw (.pickT Z Z)<|.mv Z<|.gG<|.gG<|.gG<|.gG<|.gG<|.yw (.pickT Z Z)<|.mv Z<|.gG<|.gG<|.gG<|.gG<|.gG<|.yw (.pickT Z Z)<|.mv Z<|.gG<|.gG<|.gG<|.gG<|.gG<|.gG<|.gG<|.yw (.pickT Z Z)<|.mv Z<|.gG<|.gG<|.gG<|.gG<|.gG<|.gG<|.yw (.pickT Z Z)<|.nt<|.cT Z<|.sr<|.az Z<|.tR<|.bR<|.tR<|.tR<|.bR<|.tR<|?_
    refine y9 Z Z λW s=>⟨kE ?_,s.ext⟩
    first
     | (rw [aR];exact ⟨λ_=>hall,λ_=>rfl⟩)
     | (rw [aR];exact ⟨λh=>(by cases h),λh=>absurd (hiff.1 h) (by rw [aT];exact λh=>e1 (h.2.1))⟩)
     | (rw [aR];exact ⟨λh=>(by cases h),λh=>absurd (hiff.1 h) (by rw [aT];exact λh=>e2 (h.2.2.1))⟩)
     | (rw [aR];exact ⟨λh=>(by cases h),λh=>absurd (hiff.1 h) (by rw [aT];exact λh=>e3 (h.2.2.2.1))⟩)
     | (rw [aR];exact ⟨λh=>(by cases h),λh=>absurd (hiff.1 h) (by rw [aT];exact λh=>e4 (h.2.2.2.2.1))⟩)
     | (rw [aR];exact ⟨λh=>(by cases h),λh=>absurd (hiff.1 h) (by rw [aT];exact λh=>e5 (h.2.2.2.2.2.1))⟩)
     | (rw [aR];exact ⟨λh=>(by cases h),λh=>absurd (hiff.1 h) (by rw [aT];exact λh=>e6 (by rw [h.2.2.2.2.2.2.2]))⟩)
     | (rw [aR];exact ⟨λh=>(by cases h),λh=>absurd (hiff.1 h) (by rw [aT];exact λh=>e7 h.2.2.2.2.2.2.1)⟩)
   try simp only [df] at h32
   have e1:=aQ.1 (by omega:op0.toNat=op1.toNat);refine .gy (.fieldAddr Z fV)<|.gy (.load Z cZ cO Z)<|.gy (.fieldAddr Z fV)<|.gy (.load Z cZ Hm Z)<|.gy (.neS Z Z)<|.yw (.pickF Z Z)<|.mv Z<|.b2 (λh39=>?_) (λh39=>?_)
   ·try simp only [dt] at h39
    have e2:=(id h39:¬ nm0=nm1);refine .gG<|.gG<|.gG<|.gG<|.gG<|.yw (.pickT Z Z)<|.mv Z<|.gG<|.gG<|.gG<|.gG<|.gG<|.yw (.pickT Z Z)<|.mv Z<|.gG<|.gG<|.gG<|.gG<|.gG<|.yw (.pickT Z Z)<|.mv Z<|.gG<|.gG<|.gG<|.gG<|.gG<|.gG<|.gG<|.yw (.pickT Z Z)<|.mv Z<|.gG<|.gG<|.gG<|.gG<|.gG<|.gG<|.yw (.pickT Z Z)<|.nt<|.cT Z<|.sr<|.az Z<|.tR<|.bR<|.tR<|.tR<|.bR<|.tR<|?_
    refine y9 Z Z λW s=>⟨kE ?_,s.ext⟩
    first
     | (rw [aR];exact ⟨λ_=>hall,λ_=>rfl⟩)
     | (rw [aR];exact ⟨λh=>(by cases h),λh=>absurd (hiff.1 h) (by rw [aT];exact λh=>e1 (h.2.1))⟩)
     | (rw [aR];exact ⟨λh=>(by cases h),λh=>absurd (hiff.1 h) (by rw [aT];exact λh=>e2 (h.2.2.1))⟩)
     | (rw [aR];exact ⟨λh=>(by cases h),λh=>absurd (hiff.1 h) (by rw [aT];exact λh=>e3 (h.2.2.2.1))⟩)
     | (rw [aR];exact ⟨λh=>(by cases h),λh=>absurd (hiff.1 h) (by rw [aT];exact λh=>e4 (h.2.2.2.2.1))⟩)
     | (rw [aR];exact ⟨λh=>(by cases h),λh=>absurd (hiff.1 h) (by rw [aT];exact λh=>e5 (h.2.2.2.2.2.1))⟩)
     | (rw [aR];exact ⟨λh=>(by cases h),λh=>absurd (hiff.1 h) (by rw [aT];exact λh=>e6 (by rw [h.2.2.2.2.2.2.2]))⟩)
     | (rw [aR];exact ⟨λh=>(by cases h),λh=>absurd (hiff.1 h) (by rw [aT];exact λh=>e7 h.2.2.2.2.2.2.1)⟩)
   try simp only [df] at h39
   have e2:=(gH.1 h39:nm0=nm1);refine .gy (.fieldAddr Z fU)<|.gy (.load Z cZ cO Z)<|.gy (.fieldAddr Z fU)<|.gy (.load Z cZ Hm Z)<|.gy (.neS Z Z)<|.yw (.pickF Z Z)<|.mv Z<|.b2 (λh46=>?_) (λh46=>?_)
   ·try simp only [dt] at h46
    have e3:=(id h46:¬ fd0=fd1);refine .gG<|.gG<|.gG<|.gG<|.gG<|.yw (.pickT Z Z)<|.mv Z<|.gG<|.gG<|.gG<|.gG<|.gG<|.yw (.pickT Z Z)<|.mv Z<|.gG<|.gG<|.gG<|.gG<|.gG<|.gG<|.gG<|.yw (.pickT Z Z)<|.mv Z<|.gG<|.gG<|.gG<|.gG<|.gG<|.gG<|.yw (.pickT Z Z)<|.nt<|.cT Z<|.sr<|.az Z<|.tR<|.bR<|.tR<|.tR<|.bR<|.tR<|?_
    refine y9 Z Z λW s=>⟨kE ?_,s.ext⟩
    first
     | (rw [aR];exact ⟨λ_=>hall,λ_=>rfl⟩)
     | (rw [aR];exact ⟨λh=>(by cases h),λh=>absurd (hiff.1 h) (by rw [aT];exact λh=>e1 (h.2.1))⟩)
     | (rw [aR];exact ⟨λh=>(by cases h),λh=>absurd (hiff.1 h) (by rw [aT];exact λh=>e2 (h.2.2.1))⟩)
     | (rw [aR];exact ⟨λh=>(by cases h),λh=>absurd (hiff.1 h) (by rw [aT];exact λh=>e3 (h.2.2.2.1))⟩)
     | (rw [aR];exact ⟨λh=>(by cases h),λh=>absurd (hiff.1 h) (by rw [aT];exact λh=>e4 (h.2.2.2.2.1))⟩)
     | (rw [aR];exact ⟨λh=>(by cases h),λh=>absurd (hiff.1 h) (by rw [aT];exact λh=>e5 (h.2.2.2.2.2.1))⟩)
     | (rw [aR];exact ⟨λh=>(by cases h),λh=>absurd (hiff.1 h) (by rw [aT];exact λh=>e6 (by rw [h.2.2.2.2.2.2.2]))⟩)
     | (rw [aR];exact ⟨λh=>(by cases h),λh=>absurd (hiff.1 h) (by rw [aT];exact λh=>e7 h.2.2.2.2.2.2.1)⟩)
   try simp only [df] at h46
   have e3:=(gH.1 h46:fd0=fd1);refine .gy (.fieldAddr Z eU)<|.gy (.load Z cR cO Z)<|.gy (.fieldAddr Z eU)<|.gy (.load Z cR Hm Z)<|.gy (.neq Z Z)<|.yw (.pickF Z Z)<|.mv Z<|.b2 (λh53=>?_) (λh53=>?_)
   ·try simp only [dt] at h53
    have e4:=(λe=>h53 (by rw [e]):¬ a0=a1);refine .gG<|.gG<|.gG<|.gG<|.gG<|.yw (.pickT Z Z)<|.mv Z<|.gG<|.gG<|.gG<|.gG<|.gG<|.gG<|.gG<|.yw (.pickT Z Z)<|.mv Z<|.gG<|.gG<|.gG<|.gG<|.gG<|.gG<|.yw (.pickT Z Z)<|.nt<|.cT Z<|.sr<|.az Z<|.tR<|.bR<|.tR<|.tR<|.bR<|.tR<|?_
    refine y9 Z Z λW s=>⟨kE ?_,s.ext⟩
    first
     | (rw [aR];exact ⟨λ_=>hall,λ_=>rfl⟩)
     | (rw [aR];exact ⟨λh=>(by cases h),λh=>absurd (hiff.1 h) (by rw [aT];exact λh=>e1 (h.2.1))⟩)
     | (rw [aR];exact ⟨λh=>(by cases h),λh=>absurd (hiff.1 h) (by rw [aT];exact λh=>e2 (h.2.2.1))⟩)
     | (rw [aR];exact ⟨λh=>(by cases h),λh=>absurd (hiff.1 h) (by rw [aT];exact λh=>e3 (h.2.2.2.1))⟩)
     | (rw [aR];exact ⟨λh=>(by cases h),λh=>absurd (hiff.1 h) (by rw [aT];exact λh=>e4 (h.2.2.2.2.1))⟩)
     | (rw [aR];exact ⟨λh=>(by cases h),λh=>absurd (hiff.1 h) (by rw [aT];exact λh=>e5 (h.2.2.2.2.2.1))⟩)
     | (rw [aR];exact ⟨λh=>(by cases h),λh=>absurd (hiff.1 h) (by rw [aT];exact λh=>e6 (by rw [h.2.2.2.2.2.2.2]))⟩)
     | (rw [aR];exact ⟨λh=>(by cases h),λh=>absurd (hiff.1 h) (by rw [aT];exact λh=>e7 h.2.2.2.2.2.2.1)⟩)
   try simp only [df] at h53
   have e4:=dR.1 (by omega:a0.toInt=a1.toInt);refine .gy (.fieldAddr Z eQ)<|.gy (.load Z cR cO Z)<|.gy (.fieldAddr Z eQ)<|.gy (.load Z cR Hm Z)<|.gy (.neq Z Z)<|.yw (.pickF Z Z)<|.mv Z<|.b2 (λh60=>?_) (λh60=>?_)
   ·try simp only [dt] at h60
    have e5:=(λe=>h60 (by rw [e]):¬ b0=b1);refine .gG<|.gG<|.gG<|.gG<|.gG<|.gG<|.gG<|.yw (.pickT Z Z)<|.mv Z<|.gG<|.gG<|.gG<|.gG<|.gG<|.gG<|.yw (.pickT Z Z)<|.nt<|.cT Z<|.sr<|.az Z<|.tR<|.bR<|.tR<|.tR<|.bR<|.tR<|?_
    refine y9 Z Z λW s=>⟨kE ?_,s.ext⟩
    first
     | (rw [aR];exact ⟨λ_=>hall,λ_=>rfl⟩)
     | (rw [aR];exact ⟨λh=>(by cases h),λh=>absurd (hiff.1 h) (by rw [aT];exact λh=>e1 (h.2.1))⟩)
     | (rw [aR];exact ⟨λh=>(by cases h),λh=>absurd (hiff.1 h) (by rw [aT];exact λh=>e2 (h.2.2.1))⟩)
     | (rw [aR];exact ⟨λh=>(by cases h),λh=>absurd (hiff.1 h) (by rw [aT];exact λh=>e3 (h.2.2.2.1))⟩)
     | (rw [aR];exact ⟨λh=>(by cases h),λh=>absurd (hiff.1 h) (by rw [aT];exact λh=>e4 (h.2.2.2.2.1))⟩)
     | (rw [aR];exact ⟨λh=>(by cases h),λh=>absurd (hiff.1 h) (by rw [aT];exact λh=>e5 (h.2.2.2.2.2.1))⟩)
     | (rw [aR];exact ⟨λh=>(by cases h),λh=>absurd (hiff.1 h) (by rw [aT];exact λh=>e6 (by rw [h.2.2.2.2.2.2.2]))⟩)
     | (rw [aR];exact ⟨λh=>(by cases h),λh=>absurd (hiff.1 h) (by rw [aT];exact λh=>e7 h.2.2.2.2.2.2.1)⟩)
   try simp only [df] at h60
   have e5:=dR.1 (by omega:b0.toInt=b1.toInt);refine .gy (.fieldAddr Z dD)<|.gy (.load Z fP cO Z)<|.gy (.lenSl eR Z)<|.gy (.fieldAddr Z dD)<|.gy (.load Z fP Hm Z)<|.gy (.lenSl eR Z)<|.gy (.neq Z Z)<|.yw (.pickF Z Z)<|.mv Z<|.b2 (λh69=>?_) (λh69=>?_)
   ·try simp only [dt] at h69
    have e6:=(λe=>h69 (by rw [e]):¬ args0.length=gY.length);refine .gG<|.gG<|.gG<|.gG<|.gG<|.gG<|.yw (.pickT Z Z)<|.nt<|.cT Z<|.sr<|.az Z<|.tR<|.bR<|.tR<|.tR<|.bR<|.tR<|?_
    refine y9 Z Z λW s=>⟨kE ?_,s.ext⟩
    first
     | (rw [aR];exact ⟨λ_=>hall,λ_=>rfl⟩)
     | (rw [aR];exact ⟨λh=>(by cases h),λh=>absurd (hiff.1 h) (by rw [aT];exact λh=>e1 (h.2.1))⟩)
     | (rw [aR];exact ⟨λh=>(by cases h),λh=>absurd (hiff.1 h) (by rw [aT];exact λh=>e2 (h.2.2.1))⟩)
     | (rw [aR];exact ⟨λh=>(by cases h),λh=>absurd (hiff.1 h) (by rw [aT];exact λh=>e3 (h.2.2.2.1))⟩)
     | (rw [aR];exact ⟨λh=>(by cases h),λh=>absurd (hiff.1 h) (by rw [aT];exact λh=>e4 (h.2.2.2.2.1))⟩)
     | (rw [aR];exact ⟨λh=>(by cases h),λh=>absurd (hiff.1 h) (by rw [aT];exact λh=>e5 (h.2.2.2.2.2.1))⟩)
     | (rw [aR];exact ⟨λh=>(by cases h),λh=>absurd (hiff.1 h) (by rw [aT];exact λh=>e6 (by rw [h.2.2.2.2.2.2.2]))⟩)
     | (rw [aR];exact ⟨λh=>(by cases h),λh=>absurd (hiff.1 h) (by rw [aT];exact λh=>e7 h.2.2.2.2.2.2.1)⟩)
   try simp only [df] at h69
   have e6:=(by omega:args0.length=gY.length);refine .gy (.fieldAddr Z cJ)<|.gy (.load Z dE cO Z)<|.gy (.fieldAddr Z cJ)<|.gy (.load Z dE Hm Z)<|.gy (.call yO Z (λW s=>FJ H 52 yN ex0 ex1 (λa _=>uA H a) _ _ hs0 hs5 W s.agr))<|.gy (.not Z)<|.yw (.pickF Z Z)<|.nt<|.cd Z (λh76=>?_) (λh76=>?_)
   ·try simp only [dt] at h76
    have e7:=BS.1 (by simpa using h76);refine .sr<|.az Z<|.tR<|.bR<|.tR<|.tR<|.bR<|.tR<|?_
    refine y9 Z Z λW s=>⟨kE ?_,s.ext⟩
    first
     | (rw [aR];exact ⟨λ_=>hall,λ_=>rfl⟩)
     | (rw [aR];exact ⟨λh=>(by cases h),λh=>absurd (hiff.1 h) (by rw [aT];exact λh=>e1 (h.2.1))⟩)
     | (rw [aR];exact ⟨λh=>(by cases h),λh=>absurd (hiff.1 h) (by rw [aT];exact λh=>e2 (h.2.2.1))⟩)
     | (rw [aR];exact ⟨λh=>(by cases h),λh=>absurd (hiff.1 h) (by rw [aT];exact λh=>e3 (h.2.2.2.1))⟩)
     | (rw [aR];exact ⟨λh=>(by cases h),λh=>absurd (hiff.1 h) (by rw [aT];exact λh=>e4 (h.2.2.2.2.1))⟩)
     | (rw [aR];exact ⟨λh=>(by cases h),λh=>absurd (hiff.1 h) (by rw [aT];exact λh=>e5 (h.2.2.2.2.2.1))⟩)
     | (rw [aR];exact ⟨λh=>(by cases h),λh=>absurd (hiff.1 h) (by rw [aT];exact λh=>e6 (by rw [h.2.2.2.2.2.2.2]))⟩)
     | (rw [aR];exact ⟨λh=>(by cases h),λh=>absurd (hiff.1 h) (by rw [aT];exact λh=>e7 h.2.2.2.2.2.2.1)⟩)
   try simp only [df] at h76
   have e7:=aR.1 (by simpa using h76);refine Sx.At.rcut (size:=7) (m:=fs0.length) (ys:=xf.take (fs0.length * 7)) lZ (by rw [hl0];exact Nat.le_succ _) rfl ?_;refine Sx.At.rcut (size:=7) (m:=gs0.length) (ys:=xg.take (gs0.length * 7)) mN (by rw [hl1];exact Nat.le_succ _) rfl ?_;exact .sk<|.tN<|.fL 12 [(0,0),(1,0),(2,0),(3,0),(4,0),(6,0),(7,0),(8,0),(9,0),(10,0),(5,3),(11,3)]<|.mv Z<|.mv Z<|.yw (.cutHi eR Z Z (h:=fs0.length) (by rw [hl0];omega) (by rw [hl0] at hgc;omega) (λq e=>by cases e;rfl))<|.fA Z dD<|.lD Z fP cO Z<|.mv Z<|.mv Z<|.yw (.cutHi eR Z Z (h:=gs0.length) (by rw [hl0];omega) (by rw [hl1] at hgd;omega) (λq e=>by cases e;rfl))<|.fA Z dD<|.lD Z fP Hm Z<|.apD rQ Z (λ_ _=>lZ) Z hs3 (by simp only [maxLen];omega) (by omega) Z (λ_ _=>(.yv (.load Z fP Hm Z)<|.yv (.fieldAddr Z dD)<|.yv (.cutHi eR Z Z (h:=gs0.length) (by rw [hl0];omega) (by rw [hl1] at hgd;omega) (λq e=>by cases e;rfl))<|.yv (.move Z)<|.yv (.move Z)<|.d3<|.d2<|.nl)) λnews pN cN hzn=>.apD rQ Z (λ_ _=>mN) Z hs6 (by simp only [maxLen];omega) (by omega) Z (λ_ _=>(.d4<|.d4<|.d2<|.nl)) λmews pM cM hzm=>.fn (tl:=[_,_]) Z<|.a Z Z<|.a Z Z<|.nl<|.bN<|.tN<|.rg<|.mv Z<|.yw (.lenSl eR Z)<|.yw (.sub Z Z (w6 (by omega)))<|.aq Z<|.ag (x:=(n,fs0++[Fm.mk op0 nm0 fd0 a0 b0 ex0 args0],gs0++[Fm.mk op1 nm1 fd1 a1 b1 ex1 gY],Value.slice (some ⟨wf,0,none⟩) (fs0++[Fm.mk op0 nm0 fd0 a0 b0 ex0 args0]).length cf,Value.slice (some ⟨wg,0,none⟩) (gs0++[Fm.mk op1 nm1 fd1 a1 b1 ex1 gY]).length cg,xf,xg)) (n+1,fs0++args0,gs0++gY,Value.slice pN (fs0.length+args0.length) cN,Value.slice pM (gs0.length+gY.length) cM,xf.take (fs0.length * 7)++news,xg.take (gs0.length * 7)++mews) ⟨Z,Z,by dsimp only;exact congrArg (λm:Nat=>some (Value.int .i64 ((m:Int) - 1))) (aG ).symm,Jt⟩ trivial (λ_ s=>by dsimp only;rw [aG,aG];exact (s.pick [2,3,4,5] _ Z Z)) ⟨by rw [bU];exact hz0.app hzn,by rw [bU];exact hz1.app hzm,by dsimp only;rw [aG,aG];omega,by dsimp only;rw [eZ];omega,λe he=>by rcases bZ.1 he with h | h;exact hbf e (bZ.2 (.inl h));exact hb0.2 e h,by dsimp only;rw [aG,hNs];omega,by dsimp only;exact hiff.trans (BL e1 e2 e3 e4 e5 e6 e7 hle)⟩ (by dsimp only;rw [eZ,eZ,Fm.counts,Fm.counts,oQ];omega)
  refine .al eG Z λb9=>.h1<|.al eG Z λb8=>.h1<|.sW .head Z Z cV (by simp [Value.oneCell',cH]) Z ((.yv (.loadR (vs:=cFm .u8 op1 nm1 fd1 a1 b1 (.slice q5 ex1.length d5) (.slice q6 gY.length d6)) Z cD pT Z hx1)<|.yv (.indexSl eR Z Z (i:=gs0.length) (by rw [hl0];omega) (by rw [hl1];omega) (q:=gs0.length * 7) (by omega))<|.yv (.move Z)<|.yv (.move Z)<|.d4<|.nl))<|.fn (tl:=[_]) Z<|.sX kT Z Z cV Z<|.nt<|.sq<|.sr<|.fA Z eF<|.lD Z hZ Hm Z<|.fA Z eF<|.lD Z hZ cO Z<|.yw (.neq Z Z)<|.mv Z<|.b2 (λh32=>?_) (λh32=>?_)
  ·try simp only [dt] at h32
   have e1:=(λe=>h32 (by rw [e]):¬ op0=op1);refine .gG<|.gG<|.gG<|.gG<|.gG<|.yw (.pickT Z Z)<|.mv Z<|.gG<|.gG<|.gG<|.gG<|.gG<|.yw (.pickT Z Z)<|.mv Z<|.gG<|.gG<|.gG<|.gG<|.gG<|.yw (.pickT Z Z)<|.mv Z<|.gG<|.gG<|.gG<|.gG<|.gG<|.yw (.pickT Z Z)<|.mv Z<|.gG<|.gG<|.gG<|.gG<|.gG<|.gG<|.gG<|.yw (.pickT Z Z)<|.mv Z<|.gG<|.gG<|.gG<|.gG<|.gG<|.gG<|.yw (.pickT Z Z)<|.nt<|.cT Z<|.sr<|.az Z<|.tR<|.bR<|.tR<|.tR<|.bR<|.tR<|?_
   refine y9 Z Z λW s=>⟨kE ?_,s.ext⟩
   first
    | (rw [aR];exact ⟨λ_=>hall,λ_=>rfl⟩)
    | (rw [aR];exact ⟨λh=>(by cases h),λh=>absurd (hiff.1 h) (by rw [aT];exact λh=>e1 (h.2.1))⟩)
    | (rw [aR];exact ⟨λh=>(by cases h),λh=>absurd (hiff.1 h) (by rw [aT];exact λh=>e2 (h.2.2.1))⟩)
    | (rw [aR];exact ⟨λh=>(by cases h),λh=>absurd (hiff.1 h) (by rw [aT];exact λh=>e3 (h.2.2.2.1))⟩)
    | (rw [aR];exact ⟨λh=>(by cases h),λh=>absurd (hiff.1 h) (by rw [aT];exact λh=>e4 (h.2.2.2.2.1))⟩)
    | (rw [aR];exact ⟨λh=>(by cases h),λh=>absurd (hiff.1 h) (by rw [aT];exact λh=>e5 (h.2.2.2.2.2.1))⟩)
    | (rw [aR];exact ⟨λh=>(by cases h),λh=>absurd (hiff.1 h) (by rw [aT];exact λh=>e6 (by rw [h.2.2.2.2.2.2.2]))⟩)
    | (rw [aR];exact ⟨λh=>(by cases h),λh=>absurd (hiff.1 h) (by rw [aT];exact λh=>e7 h.2.2.2.2.2.2.1)⟩)
  try simp only [df] at h32
  have e1:=aQ.1 (by omega:op0.toNat=op1.toNat);refine .gy (.fieldAddr Z fV)<|.gy (.load Z cZ Hm Z)<|.gy (.fieldAddr Z fV)<|.gy (.load Z cZ cO Z)<|.gy (.neS Z Z)<|.yw (.pickF Z Z)<|.mv Z<|.b2 (λh39=>?_) (λh39=>?_)
  ·try simp only [dt] at h39
   have e2:=(id h39:¬ nm0=nm1);refine .gG<|.gG<|.gG<|.gG<|.gG<|.yw (.pickT Z Z)<|.mv Z<|.gG<|.gG<|.gG<|.gG<|.gG<|.yw (.pickT Z Z)<|.mv Z<|.gG<|.gG<|.gG<|.gG<|.gG<|.yw (.pickT Z Z)<|.mv Z<|.gG<|.gG<|.gG<|.gG<|.gG<|.gG<|.gG<|.yw (.pickT Z Z)<|.mv Z<|.gG<|.gG<|.gG<|.gG<|.gG<|.gG<|.yw (.pickT Z Z)<|.nt<|.cT Z<|.sr<|.az Z<|.tR<|.bR<|.tR<|.tR<|.bR<|.tR<|?_
   refine y9 Z Z λW s=>⟨kE ?_,s.ext⟩
   first
    | (rw [aR];exact ⟨λ_=>hall,λ_=>rfl⟩)
    | (rw [aR];exact ⟨λh=>(by cases h),λh=>absurd (hiff.1 h) (by rw [aT];exact λh=>e1 (h.2.1))⟩)
    | (rw [aR];exact ⟨λh=>(by cases h),λh=>absurd (hiff.1 h) (by rw [aT];exact λh=>e2 (h.2.2.1))⟩)
    | (rw [aR];exact ⟨λh=>(by cases h),λh=>absurd (hiff.1 h) (by rw [aT];exact λh=>e3 (h.2.2.2.1))⟩)
    | (rw [aR];exact ⟨λh=>(by cases h),λh=>absurd (hiff.1 h) (by rw [aT];exact λh=>e4 (h.2.2.2.2.1))⟩)
    | (rw [aR];exact ⟨λh=>(by cases h),λh=>absurd (hiff.1 h) (by rw [aT];exact λh=>e5 (h.2.2.2.2.2.1))⟩)
    | (rw [aR];exact ⟨λh=>(by cases h),λh=>absurd (hiff.1 h) (by rw [aT];exact λh=>e6 (by rw [h.2.2.2.2.2.2.2]))⟩)
    | (rw [aR];exact ⟨λh=>(by cases h),λh=>absurd (hiff.1 h) (by rw [aT];exact λh=>e7 h.2.2.2.2.2.2.1)⟩)
  try simp only [df] at h39
  have e2:=(gH.1 h39:nm0=nm1);refine .gy (.fieldAddr Z fU)<|.gy (.load Z cZ Hm Z)<|.gy (.fieldAddr Z fU)<|.gy (.load Z cZ cO Z)<|.gy (.neS Z Z)<|.yw (.pickF Z Z)<|.mv Z<|.b2 (λh46=>?_) (λh46=>?_)
  ·try simp only [dt] at h46
   have e3:=(id h46:¬ fd0=fd1);refine .gG<|.gG<|.gG<|.gG<|.gG<|.yw (.pickT Z Z)<|.mv Z<|.gG<|.gG<|.gG<|.gG<|.gG<|.yw (.pickT Z Z)<|.mv Z<|.gG<|.gG<|.gG<|.gG<|.gG<|.gG<|.gG<|.yw (.pickT Z Z)<|.mv Z<|.gG<|.gG<|.gG<|.gG<|.gG<|.gG<|.yw (.pickT Z Z)<|.nt<|.cT Z<|.sr<|.az Z<|.tR<|.bR<|.tR<|.tR<|.bR<|.tR<|?_
   refine y9 Z Z λW s=>⟨kE ?_,s.ext⟩
   first
    | (rw [aR];exact ⟨λ_=>hall,λ_=>rfl⟩)
    | (rw [aR];exact ⟨λh=>(by cases h),λh=>absurd (hiff.1 h) (by rw [aT];exact λh=>e1 (h.2.1))⟩)
    | (rw [aR];exact ⟨λh=>(by cases h),λh=>absurd (hiff.1 h) (by rw [aT];exact λh=>e2 (h.2.2.1))⟩)
    | (rw [aR];exact ⟨λh=>(by cases h),λh=>absurd (hiff.1 h) (by rw [aT];exact λh=>e3 (h.2.2.2.1))⟩)
    | (rw [aR];exact ⟨λh=>(by cases h),λh=>absurd (hiff.1 h) (by rw [aT];exact λh=>e4 (h.2.2.2.2.1))⟩)
    | (rw [aR];exact ⟨λh=>(by cases h),λh=>absurd (hiff.1 h) (by rw [aT];exact λh=>e5 (h.2.2.2.2.2.1))⟩)
    | (rw [aR];exact ⟨λh=>(by cases h),λh=>absurd (hiff.1 h) (by rw [aT];exact λh=>e6 (by rw [h.2.2.2.2.2.2.2]))⟩)
    | (rw [aR];exact ⟨λh=>(by cases h),λh=>absurd (hiff.1 h) (by rw [aT];exact λh=>e7 h.2.2.2.2.2.2.1)⟩)
  try simp only [df] at h46
  have e3:=(gH.1 h46:fd0=fd1);refine .gy (.fieldAddr Z eU)<|.gy (.load Z cR Hm Z)<|.gy (.fieldAddr Z eU)<|.gy (.load Z cR cO Z)<|.gy (.neq Z Z)<|.yw (.pickF Z Z)<|.mv Z<|.b2 (λh53=>?_) (λh53=>?_)
  ·try simp only [dt] at h53
   have e4:=(λe=>h53 (by rw [e]):¬ a0=a1);refine .gG<|.gG<|.gG<|.gG<|.gG<|.yw (.pickT Z Z)<|.mv Z<|.gG<|.gG<|.gG<|.gG<|.gG<|.gG<|.gG<|.yw (.pickT Z Z)<|.mv Z<|.gG<|.gG<|.gG<|.gG<|.gG<|.gG<|.yw (.pickT Z Z)<|.nt<|.cT Z<|.sr<|.az Z<|.tR<|.bR<|.tR<|.tR<|.bR<|.tR<|?_
   refine y9 Z Z λW s=>⟨kE ?_,s.ext⟩
   first
    | (rw [aR];exact ⟨λ_=>hall,λ_=>rfl⟩)
    | (rw [aR];exact ⟨λh=>(by cases h),λh=>absurd (hiff.1 h) (by rw [aT];exact λh=>e1 (h.2.1))⟩)
    | (rw [aR];exact ⟨λh=>(by cases h),λh=>absurd (hiff.1 h) (by rw [aT];exact λh=>e2 (h.2.2.1))⟩)
    | (rw [aR];exact ⟨λh=>(by cases h),λh=>absurd (hiff.1 h) (by rw [aT];exact λh=>e3 (h.2.2.2.1))⟩)
    | (rw [aR];exact ⟨λh=>(by cases h),λh=>absurd (hiff.1 h) (by rw [aT];exact λh=>e4 (h.2.2.2.2.1))⟩)
    | (rw [aR];exact ⟨λh=>(by cases h),λh=>absurd (hiff.1 h) (by rw [aT];exact λh=>e5 (h.2.2.2.2.2.1))⟩)
    | (rw [aR];exact ⟨λh=>(by cases h),λh=>absurd (hiff.1 h) (by rw [aT];exact λh=>e6 (by rw [h.2.2.2.2.2.2.2]))⟩)
    | (rw [aR];exact ⟨λh=>(by cases h),λh=>absurd (hiff.1 h) (by rw [aT];exact λh=>e7 h.2.2.2.2.2.2.1)⟩)
  try simp only [df] at h53
  have e4:=dR.1 (by omega:a0.toInt=a1.toInt);refine .gy (.fieldAddr Z eQ)<|.gy (.load Z cR Hm Z)<|.gy (.fieldAddr Z eQ)<|.gy (.load Z cR cO Z)<|.gy (.neq Z Z)<|.yw (.pickF Z Z)<|.mv Z<|.b2 (λh60=>?_) (λh60=>?_)
  ·try simp only [dt] at h60
   have e5:=(λe=>h60 (by rw [e]):¬ b0=b1);refine .gG<|.gG<|.gG<|.gG<|.gG<|.gG<|.gG<|.yw (.pickT Z Z)<|.mv Z<|.gG<|.gG<|.gG<|.gG<|.gG<|.gG<|.yw (.pickT Z Z)<|.nt<|.cT Z<|.sr<|.az Z<|.tR<|.bR<|.tR<|.tR<|.bR<|.tR<|?_
   refine y9 Z Z λW s=>⟨kE ?_,s.ext⟩
   first
    | (rw [aR];exact ⟨λ_=>hall,λ_=>rfl⟩)
    | (rw [aR];exact ⟨λh=>(by cases h),λh=>absurd (hiff.1 h) (by rw [aT];exact λh=>e1 (h.2.1))⟩)
    | (rw [aR];exact ⟨λh=>(by cases h),λh=>absurd (hiff.1 h) (by rw [aT];exact λh=>e2 (h.2.2.1))⟩)
    | (rw [aR];exact ⟨λh=>(by cases h),λh=>absurd (hiff.1 h) (by rw [aT];exact λh=>e3 (h.2.2.2.1))⟩)
    | (rw [aR];exact ⟨λh=>(by cases h),λh=>absurd (hiff.1 h) (by rw [aT];exact λh=>e4 (h.2.2.2.2.1))⟩)
    | (rw [aR];exact ⟨λh=>(by cases h),λh=>absurd (hiff.1 h) (by rw [aT];exact λh=>e5 (h.2.2.2.2.2.1))⟩)
    | (rw [aR];exact ⟨λh=>(by cases h),λh=>absurd (hiff.1 h) (by rw [aT];exact λh=>e6 (by rw [h.2.2.2.2.2.2.2]))⟩)
    | (rw [aR];exact ⟨λh=>(by cases h),λh=>absurd (hiff.1 h) (by rw [aT];exact λh=>e7 h.2.2.2.2.2.2.1)⟩)
  try simp only [df] at h60
  have e5:=dR.1 (by omega:b0.toInt=b1.toInt);refine .gy (.fieldAddr Z dD)<|.gy (.load Z fP Hm Z)<|.gy (.lenSl eR Z)<|.gy (.fieldAddr Z dD)<|.gy (.load Z fP cO Z)<|.gy (.lenSl eR Z)<|.gy (.neq Z Z)<|.yw (.pickF Z Z)<|.mv Z<|.b2 (λh69=>?_) (λh69=>?_)
  ·try simp only [dt] at h69
   have e6:=(λe=>h69 (by rw [e]):¬ args0.length=gY.length);refine .gG<|.gG<|.gG<|.gG<|.gG<|.gG<|.yw (.pickT Z Z)<|.nt<|.cT Z<|.sr<|.az Z<|.tR<|.bR<|.tR<|.tR<|.bR<|.tR<|?_
   refine y9 Z Z λW s=>⟨kE ?_,s.ext⟩
   first
    | (rw [aR];exact ⟨λ_=>hall,λ_=>rfl⟩)
    | (rw [aR];exact ⟨λh=>(by cases h),λh=>absurd (hiff.1 h) (by rw [aT];exact λh=>e1 (h.2.1))⟩)
    | (rw [aR];exact ⟨λh=>(by cases h),λh=>absurd (hiff.1 h) (by rw [aT];exact λh=>e2 (h.2.2.1))⟩)
    | (rw [aR];exact ⟨λh=>(by cases h),λh=>absurd (hiff.1 h) (by rw [aT];exact λh=>e3 (h.2.2.2.1))⟩)
    | (rw [aR];exact ⟨λh=>(by cases h),λh=>absurd (hiff.1 h) (by rw [aT];exact λh=>e4 (h.2.2.2.2.1))⟩)
    | (rw [aR];exact ⟨λh=>(by cases h),λh=>absurd (hiff.1 h) (by rw [aT];exact λh=>e5 (h.2.2.2.2.2.1))⟩)
    | (rw [aR];exact ⟨λh=>(by cases h),λh=>absurd (hiff.1 h) (by rw [aT];exact λh=>e6 (by rw [h.2.2.2.2.2.2.2]))⟩)
    | (rw [aR];exact ⟨λh=>(by cases h),λh=>absurd (hiff.1 h) (by rw [aT];exact λh=>e7 h.2.2.2.2.2.2.1)⟩)
  try simp only [df] at h69
  have e6:=(by omega:args0.length=gY.length);refine .gy (.fieldAddr Z cJ)<|.gy (.load Z dE Hm Z)<|.gy (.fieldAddr Z cJ)<|.gy (.load Z dE cO Z)<|.gy (.call yO Z (λW s=>FJ H 52 yN ex0 ex1 (λa _=>uA H a) _ _ hs0 hs5 W s.agr))<|.gy (.not Z)<|.yw (.pickF Z Z)<|.nt<|.cd Z (λh76=>?_) (λh76=>?_)
  ·try simp only [dt] at h76
   have e7:=BS.1 (by simpa using h76);refine .sr<|.az Z<|.tR<|.bR<|.tR<|.tR<|.bR<|.tR<|?_
   refine y9 Z Z λW s=>⟨kE ?_,s.ext⟩
   first
    | (rw [aR];exact ⟨λ_=>hall,λ_=>rfl⟩)
    | (rw [aR];exact ⟨λh=>(by cases h),λh=>absurd (hiff.1 h) (by rw [aT];exact λh=>e1 (h.2.1))⟩)
    | (rw [aR];exact ⟨λh=>(by cases h),λh=>absurd (hiff.1 h) (by rw [aT];exact λh=>e2 (h.2.2.1))⟩)
    | (rw [aR];exact ⟨λh=>(by cases h),λh=>absurd (hiff.1 h) (by rw [aT];exact λh=>e3 (h.2.2.2.1))⟩)
    | (rw [aR];exact ⟨λh=>(by cases h),λh=>absurd (hiff.1 h) (by rw [aT];exact λh=>e4 (h.2.2.2.2.1))⟩)
    | (rw [aR];exact ⟨λh=>(by cases h),λh=>absurd (hiff.1 h) (by rw [aT];exact λh=>e5 (h.2.2.2.2.2.1))⟩)
    | (rw [aR];exact ⟨λh=>(by cases h),λh=>absurd (hiff.1 h) (by rw [aT];exact λh=>e6 (by rw [h.2.2.2.2.2.2.2]))⟩)
    | (rw [aR];exact ⟨λh=>(by cases h),λh=>absurd (hiff.1 h) (by rw [aT];exact λh=>e7 h.2.2.2.2.2.2.1)⟩)
  try simp only [df] at h76
  have e7:=aR.1 (by simpa using h76);refine Sx.At.rcut (size:=7) (m:=fs0.length) (ys:=xf.take (fs0.length * 7)) lZ (by rw [hl0];exact Nat.le_succ _) rfl ?_;refine Sx.At.rcut (size:=7) (m:=gs0.length) (ys:=xg.take (gs0.length * 7)) mN (by rw [hl1];exact Nat.le_succ _) rfl ?_;exact .sk<|.tN<|.fL 12 [(0,0),(1,0),(2,0),(3,0),(4,0),(6,0),(7,0),(8,0),(9,0),(10,0),(5,3),(11,3)]<|.mv Z<|.mv Z<|.yw (.cutHi eR Z Z (h:=fs0.length) (by rw [hl0];omega) (by rw [hl0] at hgc;omega) (λq e=>by cases e;rfl))<|.fA Z dD<|.lD Z fP Hm Z<|.mv Z<|.mv Z<|.yw (.cutHi eR Z Z (h:=gs0.length) (by rw [hl0];omega) (by rw [hl1] at hgd;omega) (λq e=>by cases e;rfl))<|.fA Z dD<|.lD Z fP cO Z<|.apD rQ Z (λ_ _=>lZ) Z hs3 (by simp only [maxLen];omega) (by omega) Z (λ_ _=>(.yv (.load Z fP cO Z)<|.yv (.fieldAddr Z dD)<|.yv (.cutHi eR Z Z (h:=gs0.length) (by rw [hl0];omega) (by rw [hl1] at hgd;omega) (λq e=>by cases e;rfl))<|.yv (.move Z)<|.yv (.move Z)<|.d3<|.d2<|.nl)) λnews pN cN hzn=>.apD rQ Z (λ_ _=>mN) Z hs6 (by simp only [maxLen];omega) (by omega) Z (λ_ _=>(.d4<|.d4<|.d2<|.nl)) λmews pM cM hzm=>.fn (tl:=[_,_]) Z<|.a Z Z<|.a Z Z<|.nl<|.bN<|.tN<|.rg<|.mv Z<|.yw (.lenSl eR Z)<|.yw (.sub Z Z (w6 (by omega)))<|.aq Z<|.ag (x:=(n,fs0++[Fm.mk op0 nm0 fd0 a0 b0 ex0 args0],gs0++[Fm.mk op1 nm1 fd1 a1 b1 ex1 gY],Value.slice (some ⟨wf,0,none⟩) (fs0++[Fm.mk op0 nm0 fd0 a0 b0 ex0 args0]).length cf,Value.slice (some ⟨wg,0,none⟩) (gs0++[Fm.mk op1 nm1 fd1 a1 b1 ex1 gY]).length cg,xf,xg)) (n+1,fs0++args0,gs0++gY,Value.slice pN (fs0.length+args0.length) cN,Value.slice pM (gs0.length+gY.length) cM,xf.take (fs0.length * 7)++news,xg.take (gs0.length * 7)++mews) ⟨Z,Z,by dsimp only;exact congrArg (λm:Nat=>some (Value.int .i64 ((m:Int) - 1))) (aG ).symm,Jt⟩ trivial (λ_ s=>by dsimp only;rw [aG,aG];exact (s.pick [2,3,4,5] _ Z Z)) ⟨by rw [bU];exact hz0.app hzn,by rw [bU];exact hz1.app hzm,by dsimp only;rw [aG,aG];omega,by dsimp only;rw [eZ];omega,λe he=>by rcases bZ.1 he with h | h;exact hbf e (bZ.2 (.inl h));exact hb0.2 e h,by dsimp only;rw [aG,hNs];omega,by dsimp only;exact hiff.trans (BL e1 e2 e3 e4 e5 e6 e7 hle)⟩ (by dsimp only;rw [eZ,eZ,Fm.counts,Fm.counts,oQ];omega)
 try simp only [df] at h15
 have hfs:fs=[]:=bI (by omega);have hgs:gs=[]:=bI (by omega);have hall:=hiff.2 (by rw [hfs,hgs]);refine .ex<|.eb<|.sr<|.az Z<|?_
 refine y9 Z Z λW s=>⟨kE ?_,s.ext⟩
 first
  | (rw [aR];exact ⟨λ_=>hall,λ_=>rfl⟩)
  | (rw [aR];exact ⟨λh=>(by cases h),λh=>absurd (hiff.1 h) (by rw [aT];exact λh=>e1 (h.2.1))⟩)
  | (rw [aR];exact ⟨λh=>(by cases h),λh=>absurd (hiff.1 h) (by rw [aT];exact λh=>e2 (h.2.2.1))⟩)
  | (rw [aR];exact ⟨λh=>(by cases h),λh=>absurd (hiff.1 h) (by rw [aT];exact λh=>e3 (h.2.2.2.1))⟩)
  | (rw [aR];exact ⟨λh=>(by cases h),λh=>absurd (hiff.1 h) (by rw [aT];exact λh=>e4 (h.2.2.2.2.1))⟩)
  | (rw [aR];exact ⟨λh=>(by cases h),λh=>absurd (hiff.1 h) (by rw [aT];exact λh=>e5 (h.2.2.2.2.2.1))⟩)
  | (rw [aR];exact ⟨λh=>(by cases h),λh=>absurd (hiff.1 h) (by rw [aT];exact λh=>e6 (by rw [h.2.2.2.2.2.2.2]))⟩)
  | (rw [aR];exact ⟨λh=>(by cases h),λh=>absurd (hiff.1 h) (by rw [aT];exact λh=>e7 h.2.2.2.2.2.2.1)⟩)
end Go.Proofs.YtidclioghdbphaaGreatDoor
