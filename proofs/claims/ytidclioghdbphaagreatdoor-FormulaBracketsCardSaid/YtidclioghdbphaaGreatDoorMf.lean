/- Texts of the proof, one behind the other. -/
import Derived.Test.YtidclioghdbphaaGreatDoorMe
set_option linter.all false
set_option maxRecDepth 100000
namespace Go.Proofs.YtidclioghdbphaaGreatDoor
open Go.RowKit Go.Par Go.Sx Tryz
theorem HP {n:Str} (h:(eJ n).isSome=true):xP n=(fQ (spA n) && fQ (spB n)):=by
 unfold xP spA spB;cases hs:eJ n with
 | some x=>rfl
 | none=>rw [hs] at h;cases h
theorem XY {n:Str} (h:(eJ n).isSome=false):xP n=false:=by
 unfold xP;cases hs:eJ n with
 | none=>rfl
 | some x=>rw [hs] at h;cases h
theorem PU (n:Str):(spA n).length<=n.length:=by
 unfold spA;rcases wG n with ⟨i,_,hi,e⟩ | ⟨_,e⟩
 ·rw [e];show (n.take i).length<=_;rw [fI];omega
 ·rw [e];exact aO _
theorem PT (n:Str):(spB n).length<=n.length:=by
 unfold spB;rcases wG n with ⟨i,_,hi,e⟩ | ⟨_,e⟩
 ·rw [e];show (n.drop (i+1)).length<=_;rw [cW];omega
 ·rw [e];exact aO _
theorem wL:∀ l,IH l=l.any qO
 | []=>rfl
 | e::r=>by rw [IH,List.any_cons,wL r]
theorem rQ {op:UInt8} {nm:Str} {n:Int64} {args:List Ex} (h:op=5):qO (.mk op nm n args)=((!xP nm && !fQ nm) || args.any qO):=by subst h;rw [qO,wL];simp
theorem rP {op:UInt8} {nm:Str} {n:Int64} {args:List Ex} (h:op=6\/op=8):qO (.mk op nm n args)=(!xP nm || args.any qO):=by rcases h with rfl | rfl <;> (rw [qO,wL];simp)
theorem TY {op:UInt8} {nm:Str} {n:Int64} {args:List Ex} (h:¬ op=5) (h6:¬ op=6) (h8:¬ op=8):qO (.mk op nm n args)=args.any qO:=by rw [qO,wL,aP h,aP h6,aP h8];rfl
theorem QX (H:Hp) (G:Gl H) (e:Ex):EFn H 76 [] qO e:=by
 induction e using Ex.ind with | _ op nm nn args ih
 intro cs w h hA;obtain ⟨pp,c,rfl,hs,hnm⟩:=iM h;have hA':Agr H w:=hA;refine Sx.enter (H:=H) func76 rfl ntmps76 rfl hA ?_;refine .sr<|.bx Z Z Z λb1=>.a Z Z<|.ns<|.fA Z fV<|.lD Z cZ Hm Z<|.yw (.call OY Z (λW s=>NJ nm (by omega) W))<|.mv Z<|.yw (.extract Z Z)<|.yw (.extract Z Z)<|.yw (.extract Z Z)<|.a Z Z<|.a Z Z<|.aq Z<|.cu (X:=Bool) [(1,_)] ⟨Z,Jt⟩ (λz=>[(6,.bool z)]) (λz=>H) (λz=>[.box b1 [.int .u8 op.toNat,cH nm,.int .i64 nn.toInt,.slice pp args.length c] 76]) (λz=>z=xP nm) ?_ λz hC=>?_
 ·
  refine .rg<|.mv Z<|.mv Z<|.b2 (λh15=>?_) (λh15=>?_)
  ·refine .gy (.move Z)<|.gy (.call vZ Z (λW s=>tW H G (spA nm) (by have:=PU nm;have:=PT nm;omega) W s.agr))<|.yw (.pickT Z Z)<|.mv Z<|.b2 (λh19=>?_) (λh19=>?_)
   ·exact .gy (.move Z)<|.gy (.call vZ Z (λW s=>tW H G (spB nm) (by have:=PU nm;have:=PT nm;omega) W s.agr))<|.yw (.pickT Z Z)<|.aq Z<|.me _ ⟨Z,Jt⟩ ⟨Z,Jt⟩ (λ_ s=>s) (by first | (rw [HP h15,h19,aA]) | (rw [HP h15,h19];rfl) | (rw [XY h15]))
   exact .gG<|.gG<|.yw (.pickF Z Z)<|.aq Z<|.me _ ⟨Z,Jt⟩ ⟨Z,Jt⟩ (λ_ s=>s) (by first | (rw [HP h15,h19,aA]) | (rw [HP h15,h19];rfl) | (rw [XY h15]))
  exact .gG<|.gG<|.yw (.pickF Z Z)<|.mv Z<|.gG<|.gG<|.yw (.pickF Z Z)<|.aq Z<|.me _ ⟨Z,Jt⟩ ⟨Z,Jt⟩ (λ_ s=>s) (by first | (rw [HP h15,h19,aA]) | (rw [HP h15,h19];rfl) | (rw [XY h15]))
 have eb:=hC;refine .sq<|.sr<|.fA Z gQ<|.lD Z jR Hm Z<|.nt<|.bk<|.sr<|.yw (.eql Z Z)<|.aq Z<|.cd Z (λh25=>?_) (λh25=>?_)
 ·have q5:op=5:=aQ.1 (by have:=aH h25;show op.toNat=5;omega);refine .sm Z<|.yw (.not Z)<|.mv Z<|.b2 (λh29=>?_) (λh29=>?_)
  ·refine .gy (.fieldAddr Z fV)<|.gy (.load Z cZ Hm Z)<|.gy (.call vZ Z (λW s=>tW H G nm (by have:=PU nm;have:=PT nm;omega) W s.agr))<|.gy (.not Z)<|.yw (.pickT Z Z)<|.nt<|.cd Z (λh34=>?_) (λh34=>?_)
   ·refine .sr<|.az Z<|.bR<|.tR<|?_
    refine y9 Z Z λW s=>⟨?_,s.ext⟩
    first
     | (rw [rQ q5,<-eb,h29,h34];rfl)
     | (rw [rQ q5,<-eb,h29,h34,aK])
     | (rw [rQ q5,<-eb,h29];rfl)
     | (rw [rQ q5,<-eb,h29,aB,aK])
     | (rw [rP (.inl q68),<-eb,h39];rfl)
     | (rw [rP (.inl q68),<-eb,h39,aK])
     | (rw [rP (.inr q68),<-eb,h39];rfl)
     | (rw [rP (.inr q68),<-eb,h39,aK])
     | (rw [TY q5 q686 q688])
   refine .sk<|.bN<|.tN<|.sr<|.fA Z eA<|.lD Z dE Hm Z<|.yw (.call qW Z (λW s=>lH H 76 [] qO args hs vY (λa ha=>ih a ha) W s.agr))<|.az Z<|?_
   refine y9 Z Z λW s=>⟨?_,s.ext⟩
   first
    | (rw [rQ q5,<-eb,h29,h34];rfl)
    | (rw [rQ q5,<-eb,h29,h34,aK])
    | (rw [rQ q5,<-eb,h29];rfl)
    | (rw [rQ q5,<-eb,h29,aB,aK])
    | (rw [rP (.inl q68),<-eb,h39];rfl)
    | (rw [rP (.inl q68),<-eb,h39,aK])
    | (rw [rP (.inr q68),<-eb,h39];rfl)
    | (rw [rP (.inr q68),<-eb,h39,aK])
    | (rw [TY q5 q686 q688])
  refine .gG<|.gG<|.gG<|.gG<|.yw (.pickF Z Z)<|.nt<|.cF Z<|.sk<|.bN<|.tN<|.sr<|.fA Z eA<|.lD Z dE Hm Z<|.yw (.call qW Z (λW s=>lH H 76 [] qO args hs vY (λa ha=>ih a ha) W s.agr))<|.az Z<|?_
  refine y9 Z Z λW s=>⟨?_,s.ext⟩
  first
   | (rw [rQ q5,<-eb,h29,h34];rfl)
   | (rw [rQ q5,<-eb,h29,h34,aK])
   | (rw [rQ q5,<-eb,h29];rfl)
   | (rw [rQ q5,<-eb,h29,aB,aK])
   | (rw [rP (.inl q68),<-eb,h39];rfl)
   | (rw [rP (.inl q68),<-eb,h39,aK])
   | (rw [rP (.inr q68),<-eb,h39];rfl)
   | (rw [rP (.inr q68),<-eb,h39,aK])
   | (rw [TY q5 q686 q688])
 have q5:¬ op=5:=λe=>aN h25 (by rw [e];rfl);refine .sq<|.sr<|.yw (.eql Z Z)<|.aq Z<|.cr Z (λh35=>?_) (λh35=>?_)
 ·have q68:op=6:=aQ.1 (by have:=aH h35;show op.toNat=6;omega);refine .sk<|.tN<|.cT Z<|.sm Z<|.yw (.not Z)<|.nt<|.cd Z (λh39=>?_) (λh39=>?_)
  ·refine .sr<|.az Z<|.bR<|.tR<|?_
   refine y9 Z Z λW s=>⟨?_,s.ext⟩
   first
    | (rw [rQ q5,<-eb,h29,h34];rfl)
    | (rw [rQ q5,<-eb,h29,h34,aK])
    | (rw [rQ q5,<-eb,h29];rfl)
    | (rw [rQ q5,<-eb,h29,aB,aK])
    | (rw [rP (.inl q68),<-eb,h39];rfl)
    | (rw [rP (.inl q68),<-eb,h39,aK])
    | (rw [rP (.inr q68),<-eb,h39];rfl)
    | (rw [rP (.inr q68),<-eb,h39,aK])
    | (rw [TY q5 q686 q688])
  refine .sk<|.bN<|.tN<|.sr<|.fA Z eA<|.lD Z dE Hm Z<|.yw (.call qW Z (λW s=>lH H 76 [] qO args hs vY (λa ha=>ih a ha) W s.agr))<|.az Z<|?_
  refine y9 Z Z λW s=>⟨?_,s.ext⟩
  first
   | (rw [rQ q5,<-eb,h29,h34];rfl)
   | (rw [rQ q5,<-eb,h29,h34,aK])
   | (rw [rQ q5,<-eb,h29];rfl)
   | (rw [rQ q5,<-eb,h29,aB,aK])
   | (rw [rP (.inl q68),<-eb,h39];rfl)
   | (rw [rP (.inl q68),<-eb,h39,aK])
   | (rw [rP (.inr q68),<-eb,h39];rfl)
   | (rw [rP (.inr q68),<-eb,h39,aK])
   | (rw [TY q5 q686 q688])
 have q686:¬ op=6:=λe=>aN h35 (by rw [e];rfl);refine .rg<|.yw (.eql Z Z)<|.aq Z<|.cr Z (λh35=>?_) (λh35=>?_)
 ·have q68:op=8:=aQ.1 (by have:=aH h35;show op.toNat=8;omega);refine .sm Z<|.yw (.not Z)<|.nt<|.cd Z (λh39=>?_) (λh39=>?_)
  ·refine .sr<|.az Z<|.bR<|.tR<|?_
   refine y9 Z Z λW s=>⟨?_,s.ext⟩
   first
    | (rw [rQ q5,<-eb,h29,h34];rfl)
    | (rw [rQ q5,<-eb,h29,h34,aK])
    | (rw [rQ q5,<-eb,h29];rfl)
    | (rw [rQ q5,<-eb,h29,aB,aK])
    | (rw [rP (.inl q68),<-eb,h39];rfl)
    | (rw [rP (.inl q68),<-eb,h39,aK])
    | (rw [rP (.inr q68),<-eb,h39];rfl)
    | (rw [rP (.inr q68),<-eb,h39,aK])
    | (rw [TY q5 q686 q688])
  refine .sk<|.bN<|.tN<|.sr<|.fA Z eA<|.lD Z dE Hm Z<|.yw (.call qW Z (λW s=>lH H 76 [] qO args hs vY (λa ha=>ih a ha) W s.agr))<|.az Z<|?_
  refine y9 Z Z λW s=>⟨?_,s.ext⟩
  first
   | (rw [rQ q5,<-eb,h29,h34];rfl)
   | (rw [rQ q5,<-eb,h29,h34,aK])
   | (rw [rQ q5,<-eb,h29];rfl)
   | (rw [rQ q5,<-eb,h29,aB,aK])
   | (rw [rP (.inl q68),<-eb,h39];rfl)
   | (rw [rP (.inl q68),<-eb,h39,aK])
   | (rw [rP (.inr q68),<-eb,h39];rfl)
   | (rw [rP (.inr q68),<-eb,h39,aK])
   | (rw [TY q5 q686 q688])
 have q688:¬ op=8:=λe=>aN h35 (by rw [e];rfl);refine .sk<|.bN<|.tN<|.sr<|.fA Z eA<|.lD Z dE Hm Z<|.yw (.call qW Z (λW s=>lH H 76 [] qO args hs vY (λa ha=>ih a ha) W s.agr))<|.az Z<|?_
 refine y9 Z Z λW s=>⟨?_,s.ext⟩
 first
  | (rw [rQ q5,<-eb,h29,h34];rfl)
  | (rw [rQ q5,<-eb,h29,h34,aK])
  | (rw [rQ q5,<-eb,h29];rfl)
  | (rw [rQ q5,<-eb,h29,aB,aK])
  | (rw [rP (.inl q68),<-eb,h39];rfl)
  | (rw [rP (.inl q68),<-eb,h39,aK])
  | (rw [rP (.inr q68),<-eb,h39];rfl)
  | (rw [rP (.inr q68),<-eb,h39,aK])
  | (rw [TY q5 q686 q688])
def FFn (H:Hp) (gf:FuncId) (q:Fm->Bool) (f:Fm):Prop:=∀ (cs:List Value) (W:World),Rep H (dFm .u8 f) cs->Agr H W->Calls prg gf #[.agg cs.toArray] W λr W'=>r=.returned (.bool (q f))/\Ext W W'
theorem aA1 (q:Fm->Bool):∀ l,Fm.alls q l=l.all (Fm.all q)
 | []=>rfl
 | f::r=>by rw [Fm.alls,eE,aA1 q r]
theorem xZ (q:Fm->Bool) (op:UInt8) (nm fd:Str) (a b:Int64) (ex:List Ex) (args:List Fm):Fm.all q (.mk op nm fd a b ex args)=(q (.mk op nm fd a b ex args) && args.all (Fm.all q)):=by rw [Fm.all,aA1]
variable {k:Nat}
theorem aI1 {l:List Fm} {p:Fm->Bool} (hk:k<l.length) (h:(l.take k).all p=true) (hp:p l[k]=true):(l.take (k+1)).all p=true:=by
 rw [List.take_succ,List.all_append,h,List.getElem?_eq_getElem hk];simp [hp]
theorem RU {l:List Fm} {p:Fm->Bool} (hk:k<l.length) (hp:p l[k]=false):l.all p=false:=List.all_eq_false.2 ⟨_,bU hk,by rw [hp];decide⟩
theorem HL (H:Hp) (gf:FuncId) (q p:Fm->Bool) (hf:dI prg gf=true) (hg:∀ f,p f=true->FFn H gf q f) (f:Fm):f.all p=true->∀ (cs:List Value) (w:World),Rep H (dFm .u8 f) cs->Agr H w ->
 Calls prg 35 #[.agg cs.toArray,.func (.func gf) #[] #[]] w λr w'=>r=.returned (.bool (f.all q))/\Ext w w':=by
 induction f using Fm.ind with | _ op nm fd a b ex args ih
 intro hp cs w h hA;rw [xZ,aE] at hp;obtain ⟨p1,c1,p2,c2,rfl,hs1,hs2,hnm,hfd⟩:=iB h;have hcap:=hs2.cap;refine Sx.enter (H:=H) func35 rfl ntmps35 rfl hA ?_;refine .sr<|.bx Z Z Z λb2=>.aq Z<|.sq<|.sm Z<|.yw (.loadW Z bZ Hm Z)<|.yw (.callV (fi:=[]) (ca:=[]) Z hf Z (λW s=>hg _ hp.1 _ W h s.agr))<|.yw (.not Z)<|.nt<|.cd Z (λh10=>?_) (λh10=>?_)
 ·refine .sr<|.az Z<|.tR<|?_
  refine y9 Z Z λW s=>⟨?_,s.ext⟩
  first
   | (rw [xZ,show q (.mk op nm fd a b ex args)=false by simpa using h10];rfl)
   | (rw [xZ,RU hk (by simpa using h21)];simp)
   | (rw [xZ,hal,show q (.mk op nm fd a b ex args)=true by simpa using h10];rfl)
 refine .sk<|.tN<|.sq<|.sr<|.fA Z cU<|.lD Z eU Hm Z<|.yw (.lenSl eG Z)<|.mv Z<|.nt<|.bk<|.lp (X:=Nat) [(1,_),(12,_),(13,_)] ⟨Z,Z,Z,Jt⟩ [_] (λk=>[(14,iN k)]) (λk=>H) (λk=>[]) (λk=>k<=args.length/\(args.take k).all (Fm.all q)=true) (λk=>args.length - k) 0 (λ_ s=>s) ⟨Z,Jt⟩ ⟨aO _,Z⟩ λk hC=>?_
 obtain ⟨hk0,hal⟩:=hC;refine .sr<|.yw (.lss Z Z)<|.nt<|.sq<|.ce Z (λh15=>?_) (λh15=>?_)
 ·have hk:k<args.length:=by omega
  obtain ⟨bE,oE,cE,hpE,rE,lE,mE⟩:=hs2.elem (kN (f:=dFm .u8) hk);cases hpE;have hpk:=aW.1 hp.2 _ (bU hk);refine .sk<|.tN<|.sq<|.bk<|.sr<|.yw (.indexSl eG Z Z Z (by omega) (q:=oE+k * 7) Z)<|.yw (.loadMW Z bZ mE lE)<|.al dX Z λb6=>.sV .head Z Z cV lE rE.one Z<|.ns<|.yw (.loadW Z bZ Hm lE)<|.mv Z<|.yw (.call CN Z (λW s=>ih _ (bU hk) hpk cE W rE s.agr))<|.yw (.not Z)<|.nt<|.cd Z (λh21=>?_) (λh21=>?_)
  ·refine .sr<|.az Z<|.bR<|.tR<|.tR<|.bR<|.tR<|?_
   refine y9 Z Z λW s=>⟨?_,s.ext⟩
   first
    | (rw [xZ,show q (.mk op nm fd a b ex args)=false by simpa using h10];rfl)
    | (rw [xZ,RU hk (by simpa using h21)];simp)
    | (rw [xZ,hal,show q (.mk op nm fd a b ex args)=true by simpa using h10];rfl)
  exact .sk<|.bN<|.tN<|.rg<|.yw (.add Z Z w7)<|.mv Z<|.nt<|.ag (k+1) ⟨Z,Jt⟩ ⟨Z,Z,Z,Jt⟩ (λ_ s=>s.pick [1] [_] Z Z) ⟨by omega,aI1 hk hal (by simpa using h21)⟩ (by omega)
 obtain rfl:k=args.length:=by omega
 rw [dD] at hal;refine .ex<|.eb<|.sr<|.az Z<|?_
 refine y9 Z Z λW s=>⟨?_,s.ext⟩
 first
  | (rw [xZ,show q (.mk op nm fd a b ex args)=false by simpa using h10];rfl)
  | (rw [xZ,RU hk (by simpa using h21)];simp)
  | (rw [xZ,hal,show q (.mk op nm fd a b ex args)=true by simpa using h10];rfl)
theorem SZ (H:Hp) (f:Fm) (hd:(λf:Fm=>f.ex.all λe=>decide (e.depth<=1000000)) f=true):FFn H 36 uM f:=by
 intro cs w h hA;obtain ⟨op,nm,fd,a,b,ex,args⟩:=f;obtain ⟨p1,c1,p2,c2,rfl,hs1,hs2,hnm,hfd⟩:=iB h;refine Sx.enter (H:=H) func36 rfl ntmps36 rfl hA ?_;refine .sr<|.bx Z Z Z λb1=>.a Z Z<|.ns<|.al bA2 Z λb3=>.st .head Z Z iH Z (nb Z) Z<|.nt<|.sq<|.sr<|.fA Z eH<|.lD Z iA cP Z<|.yw (.eql Z Z)<|.nt<|.cd Z (λh6=>?_) (λh6=>?_)
 ·have q3:op=3:=aQ.1 (by have:=aH h6;show op.toNat=3;omega);refine .rg<|.lD Z cS Hm Z<|.yw (.add Z Z (c:=((9:Nat):Int)) (by decide))<|.st .head Z Z iH Z (nb Z) Z<|.nt<|.sq<|?_
  refine CA λH1 u1 m1=>?_;refine .rg<|.fA Z cK<|.lD Z dE Hm Z<|.yw (.mkF Z Z)<|.yw (.call qW Z (λW s=>lH H1 72 [.pointer (some ⟨b3,0,none⟩)] (λe=>decide (9<e.depth)) ex (hs1.up u1.up) OU (λa ha=>EX H1 a 9 b3 (by have:=aW.1 hd a ha;exact aH this) m1) W s.agr))<|.yw (.not Z)<|.az Z<|?_
  refine y9 Z Z λW s=>⟨?_,s.ext⟩
  first
   | (unfold uM;rw [show (Fm.mk op nm fd a b ex args).op=3 from q3];rfl)
   | (unfold uM;simp only [show ¬ (Fm.mk op nm fd a b ex args).op=3 from q3,bL];rfl)
 have q3:¬ op=3:=λe=>aN h6 (by rw [e];rfl);refine .sk<|.tN<|.sq<|?_
 refine CA λH1 u1 m1=>?_;refine .rg<|.fA Z cK<|.lD Z dE Hm Z<|.yw (.mkF Z Z)<|.yw (.call qW Z (λW s=>lH H1 72 [.pointer (some ⟨b3,0,none⟩)] (λe=>decide (8<e.depth)) ex (hs1.up u1.up) OU (λa ha=>EX H1 a 8 b3 (by have:=aW.1 hd a ha;exact aH this) m1) W s.agr))<|.yw (.not Z)<|.az Z<|?_
 refine y9 Z Z λW s=>⟨?_,s.ext⟩
 first
  | (unfold uM;rw [show (Fm.mk op nm fd a b ex args).op=3 from q3];rfl)
  | (unfold uM;simp only [show ¬ (Fm.mk op nm fd a b ex args).op=3 from q3,bL];rfl)
variable {a:Int64}
theorem QW {op:UInt8} {nm fd:Str} {b:Int64} {ex:List Ex} {args:List Fm} :tM (.mk op nm fd a b ex args)=(!((cJ op).nm && !fQ nm || (cJ op).fd && !fQ fd) && !ex.any qO):=by rw [<-wL];rfl
theorem aF3 (H:Hp) (G:Gl H) (Gt:Gf H) (f:Fm):FFn H 37 tM f:=by
 intro cs w h hA;obtain ⟨op,nm,fd,a,b,ex,args⟩:=f;obtain ⟨p1,c1,p2,c2,rfl,hs1,hs2,hnm,hfd⟩:=iB h;refine Sx.enter (H:=H) func37 rfl ntmps37 rfl hA ?_;refine .sr<|.bx Z Z Z λb1=>.a Z Z<|.ns<|.fA Z eH<|.lD Z iA Hm Z<|.yw (.call (v:=.agg (fsC (cJ op)).toArray) qV Z (λW s=>oM H Gt op W s.agr))<|.al ED Z λb3=>.sW .head Z Z zU (by simp [fsC,Value.oneCell',cH]) Z<|.nt<|.sq<|.cu (X:=Bool) [(1,_)] ⟨Z,Jt⟩ (λz=>[(24,.bool z)]) (λz=>H) (λz=>[.box b3 (fsC (cJ op)) 157,.box b1 [.int .u8 op.toNat,cH nm,cH fd,.int .i64 a.toInt,.int .i64 b.toInt,.slice p1 ex.length c1,.slice p2 args.length c2] 35]) (λz=>z=((cJ op).nm && !fQ nm || (cJ op).fd && !fQ fd)) ?_ λz hC=>?_
 ·
  refine .rg<|.fA Z DF<|.lD Z jI Hm Z<|.mv Z<|.b2 (λh9=>?_) (λh9=>?_)
  ·refine .gy (.fieldAddr Z fX)<|.gy (.load Z cZ cP Z)<|.gy (.call vZ Z (λW s=>tW H G nm (by omega) W s.agr))<|.gy (.not Z)<|.yw (.pickT Z Z)<|.mv Z<|.b2 (λh15=>?_) (λh15=>?_)
   ·exact .gG<|.gG<|.gG<|.gV<|.gV<|.gV<|.gV<|.gG<|.yw (.pickT Z Z)<|.nt<|.me _ ⟨Z,Jt⟩ ⟨Z,Jt⟩ (λ_ s=>s) (by first | simp only [h9,h15,h18,aA,aB,Bool.true_or,aK] | simp only [h9,h15,aA,aB,Bool.true_or,aK] | simp only [h9,h18,aA,aB,Bool.true_or,aK])
   refine .gy (.fieldAddr Z uJ)<|.gy (.load Z jI Hm Z)<|.gy (.move Z)<|.b2 (λh18=>?_) (λh18=>?_)
   ·exact .gy (.fieldAddr Z fW)<|.gy (.load Z cZ cP Z)<|.gy (.call vZ Z (λW s=>tW H G fd (by omega) W s.agr))<|.gy (.not Z)<|.gy (.pickT Z Z)<|.yw (.pickF Z Z)<|.nt<|.me _ ⟨Z,Jt⟩ ⟨Z,Jt⟩ (λ_ s=>s) (by first | simp only [h9,h15,h18,aA,aB,Bool.true_or,aK] | simp only [h9,h15,aA,aB,Bool.true_or,aK] | simp only [h9,h18,aA,aB,Bool.true_or,aK])
   exact .gG<|.gG<|.gG<|.gG<|.gy (.pickF Z Z)<|.yw (.pickF Z Z)<|.nt<|.me _ ⟨Z,Jt⟩ ⟨Z,Jt⟩ (λ_ s=>s) (by first | simp only [h9,h15,h18,aA,aB,Bool.true_or,aK] | simp only [h9,h15,aA,aB,Bool.true_or,aK] | simp only [h9,h18,aA,aB,Bool.true_or,aK])
  refine .gG<|.gG<|.gG<|.gG<|.yw (.pickF Z Z)<|.mv Z<|.gy (.fieldAddr Z uJ)<|.gy (.load Z jI Hm Z)<|.gy (.move Z)<|.b2 (λh18=>?_) (λh18=>?_)
  ·exact .gy (.fieldAddr Z fW)<|.gy (.load Z cZ cP Z)<|.gy (.call vZ Z (λW s=>tW H G fd (by omega) W s.agr))<|.gy (.not Z)<|.gy (.pickT Z Z)<|.yw (.pickF Z Z)<|.nt<|.me _ ⟨Z,Jt⟩ ⟨Z,Jt⟩ (λ_ s=>s) (by first | simp only [h9,h15,h18,aA,aB,Bool.true_or,aK] | simp only [h9,h15,aA,aB,Bool.true_or,aK] | simp only [h9,h18,aA,aB,Bool.true_or,aK])
  exact .gG<|.gG<|.gG<|.gG<|.gy (.pickF Z Z)<|.yw (.pickF Z Z)<|.nt<|.me _ ⟨Z,Jt⟩ ⟨Z,Jt⟩ (λ_ s=>s) (by first | simp only [h9,h15,h18,aA,aB,Bool.true_or,aK] | simp only [h9,h15,aA,aB,Bool.true_or,aK] | simp only [h9,h18,aA,aB,Bool.true_or,aK])
 have en:=hC;refine .cd Z (λh24=>?_) (λh24=>?_)
 ·refine .sr<|.az Z<|.tR<|?_
  refine y9 Z Z λW s=>⟨?_,s.ext⟩
  first
   | (rw [QW,<-en,h24];rfl)
   | (rw [QW,<-en,h24,Bool.not_false,aA])
 refine .sk<|.tN<|.sr<|.fA Z cK<|.lD Z dE cP Z<|.yw (.call qW Z (λW s=>lH H 76 [] qO ex hs1 vY (λa _=>QX H G a) W s.agr))<|.yw (.not Z)<|.az Z<|?_
 refine y9 Z Z λW s=>⟨?_,s.ext⟩
 first
  | (rw [QW,<-en,h24];rfl)
  | (rw [QW,<-en,h24,Bool.not_false,aA])
theorem GZ:∀ l,IH l=l.any qO
 | []=>rfl
 | e::r=>by rw [IH,List.any_cons,GZ r]
theorem sB:∀ l,zB l=l.all eP
 | []=>rfl
 | e::r=>by rw [zB,eE,sB r]
theorem bG2 (op:UInt8) (nm:Str) (n:Int64) (args:List Ex):qO (.mk op nm n args)=((decide (op=5) && !xP nm && !fQ nm) || ((decide (op=6) || decide (op=8)) && !xP nm) || args.any qO):=by rw [qO,GZ]
def tnB (op:UInt8) (nm:Str):Bool :=
 if op=5\/op=6\/op=8 then (match eJ nm with | some (a,b)=>fQ a && fQ b | none=>decide (op=5) && fQ nm) else true
theorem XB:∀ {l:Str},l.all jC=true->eJ l=none
 | [],_=>rfl
 | c::r,h=>by
  rw [eE,aE] at h
  have hc:¬ c=46:=by
   rintro rfl;exact absurd h.1 (by decide)
  rw [eJ,aG hc,XB h.2];rfl
theorem XC {n:Str} (h:fQ n=true):eJ n=none:=XB (lL h).2.2.1
theorem bM9 (op:UInt8) (nm:Str):((decide (op=5) && !xP nm && !fQ nm) || ((decide (op=6) || decide (op=8)) && !xP nm))=!tnB op nm:=by
 unfold tnB xP
 by_cases h5:op=5
 ·subst h5;rw [aL (.inl Z)];cases hs:eJ nm with
  | none=>simp
  | some x =>
   have hn:fQ nm=false:=by
    cases h:fQ nm with
    | false=>rfl
    | true=>rw [XC h] at hs;cases hs
   rw [hn];simp
 ·by_cases h6:op=6\/op=8
  ·rw [aL (.inr h6)];have e:(decide (op=6) || decide (op=8))=true:=by rcases h6 with rfl | rfl <;> decide
   rw [e,aP h5];cases hs:eJ nm with
   | none=>simp
   | some x=>simp
  ·have e:(decide (op=6) || decide (op=8))=false:=by
    simp only [tZ] at h6;rw [aP h6.1,aP h6.2];rfl
   rw [aG (by rintro (h | h | h);exact h5 h;exact h6 (.inl h);exact h6 (.inr h)),e,aP h5];rfl
theorem AY {q:UInt8->Prop} [DecidablePred q] (h:∀ i∈List.range 256,q (UInt8.ofNat i)) (op:UInt8):q op:=by
 have:=h op.toNat (bY.2 op.toNat_lt)
 rwa [hI] at this
def bA8 (op:UInt8) (nm:Str) (n:Int64) (k:Nat):Bool :=
 (decide (op=1) || decide (op=4) || decide (op=5) || decide (op=6) || decide (op=8) || decide (op=9) || (decide (11<=op.toNat) && decide (op.toNat<=15))) && decide (arR op.toNat=(k:Nat)) && (decide (op=1) || decide (n=0)) && decide (0<=n.toInt) && (decide (nm=[]) || decide (op=5) || decide (op=6) || decide (op=8))
variable {n:Nat}
theorem OC {m:Int} (h:m=(k:Nat)):decide (m=(n:Nat))=decide (n=k):=by
 rw [h,bH,aD,aD];omega
theorem SS (op:UInt8) (nm:Str) (n:Int64) (args:List Ex):eP (.mk op nm n args)=(bA8 op nm n args.length && args.all eP):=by
 rw [eP,sB];unfold bA8
 have r1:decide (n=0)=true->decide (0<=n.toInt)=true:=by
  intro h;rw [aD] at h;subst h
  decide
 have r2:decide (args.length=0)=true->args.all eP=true:=by
  intro h;rw [aD] at h;rw [bI h];rfl
 generalize args.all eP=z at r2|-;generalize decide (0<=n.toInt)=c at r1|-;generalize decide (n=0)=b at r1|-;generalize decide (nm=[])=a
 by_cases h1:op=1
 ·subst h1;rw [OC (k:=0) (by decide)];generalize decide (args.length=0)=d at r2|-;simp only [bS]
  revert a b c d z;decide
 by_cases h4:op=4
 ·subst h4;rw [OC (k:=0) (by decide)];generalize decide (args.length=0)=d at r2|-;simp only [aG (show ¬ (4:UInt8)=1 by decide),bS]
  revert a b c d z;decide
 by_cases h5:op=5\/op=8
 ·rw [aG h1,aG h4,aL h5];have e:arR op.toNat=0:=by rcases h5 with rfl | rfl <;> decide
  rw [OC (k:=0) (by rw [e];rfl)];generalize decide (args.length=0)=d at r2|-;rcases h5 with rfl | rfl <;> (revert a b c d z;decide)
 by_cases h6:op=6
 ·subst h6;rw [OC (k:=1) (by decide)];generalize decide (args.length=1)=d;clear r2;simp only [aG (show ¬ (6:UInt8)=1 by decide),aG (show ¬ (6:UInt8)=4 by decide),aG (show ¬ ((6:UInt8)=5\/(6:UInt8)=8) by decide),bS]
  revert a b c d z;decide
 by_cases h9:op=9
 ·subst h9;rw [OC (k:=1) (by decide)];generalize decide (args.length=1)=d;clear r2;simp only [aG (show ¬ (9:UInt8)=1 by decide),aG (show ¬ (9:UInt8)=4 by decide),aG (show ¬ ((9:UInt8)=5\/(9:UInt8)=8) by decide),aG (show ¬ (9:UInt8)=6 by decide),bS]
  revert a b c d z;decide
 rw [aG h1,aG h4,aG h5,aG h6,aG h9];clear r2
 by_cases hb:op=11\/op=12\/op=13\/op=14\/op=15
 ·rw [aL hb];have e:arR op.toNat=2:=by rcases hb with rfl | rfl | rfl | rfl | rfl <;> decide
  rw [OC (k:=2) (by rw [e];rfl)];generalize decide (args.length=2)=d;rcases hb with rfl | rfl | rfl | rfl | rfl <;> (revert a b c d z;decide)
 ·rw [aG hb]
  have e:(decide (op=1) || decide (op=4) || decide (op=5) || decide (op=6) || decide (op=8) || decide (op=9) || (decide (11<=op.toNat) && decide (op.toNat<=15)))=false:=by
   have:=AY (q:=λop=>op=1\/op=4\/(op=5\/op=8)\/op=6\/op=9\/(op=11\/op=12\/op=13\/op=14\/op=15)\/(decide (op=1) || decide (op=4) || decide (op=5) || decide (op=6) || decide (op=8) || decide (op=9) || (decide (11<=op.toNat) && decide (op.toNat<=15)))=false) (by decide +kernel) op;rcases this with h | h | h | h | h | h | h
   ·exact absurd h h1
   ·exact absurd h h4
   ·exact absurd h h5
   ·exact absurd h h6
   ·exact absurd h h9
   ·exact absurd h hb
   ·exact h
  rw [e];rfl
theorem aJ5:dI prg 77=true:=by kernel_rfl
theorem aJ3:dI prg 80=true:=by kernel_rfl
theorem NC:dY prg 157 0=some 0:=by kernel_rfl
theorem NB:dY prg 157 3=some 3:=by kernel_rfl
theorem NA:dY prg 157 4=some 4:=by kernel_rfl
theorem MZ:dY prg 157 5=some 5:=by kernel_rfl
theorem uI:dY prg 157 6=some 6:=by kernel_rfl
theorem BI (op:UInt8):(cJ op).ar<=2/\(cJ op).ex<=1:=AY (q:=λop=>(cJ op).ar<=2/\(cJ op).ex<=1) (by decide +kernel) op
theorem nn0:decide (¬ ((n:Nat):Int)=((k:Nat):Int))=!decide (n=k):=by rw [<-n0,decide_not]
theorem le4:decide (((n:Nat):Int)<=4)=decide (n<=4):=by rw [bH,aD,aD];omega
theorem RK {op:UInt8} {nm fd:Str} {b:Int64} {ex:List Ex} {args:List Fm} :jX (.mk op nm fd a b ex args)=(decide (¬ (cJ op).lv=0) && ((cJ op).nm || decide (nm=[])) && ((cJ op).fd || decide (fd=[])) && decide (args.length=(cJ op).ar) && GE (.mk op nm fd a b ex args) && CT (.mk op nm fd a b ex args)):=rfl
theorem nR {op:UInt8} {nm fd:Str} {b:Int64} {ex:List Ex} {args:List Fm} (h:(decide ((cJ op).lv=0) || (!(cJ op).nm && !decide (nm=[])) || (!(cJ op).fd && !decide (fd=[])) || !decide (args.length=(cJ op).ar))=true):jX (.mk op nm fd a b ex args)=false:=by
 rw [RK,decide_not];generalize decide ((cJ op).lv=0)=x1 at *;generalize (cJ op).nm=x2 at *;generalize decide (nm=[])=x3 at *;generalize (cJ op).fd=x4 at *;generalize decide (fd=[])=x5 at *;generalize decide (args.length=(cJ op).ar)=x6 at *;generalize GE (.mk op nm fd a b ex args)=x7;generalize CT (.mk op nm fd a b ex args)=x8
 revert h
 cases x1 <;> cases x2 <;> cases x3 <;> cases x4 <;> cases x5 <;> cases x6 <;> simp
theorem eQ {op:UInt8} {nm fd:Str} {b:Int64} {ex:List Ex} {args:List Fm} (h:GE (.mk op nm fd a b ex args)=false):jX (.mk op nm fd a b ex args)=false:=by rw [RK,h,Bool.and_false,aB]
theorem cD {op:UInt8} {nm fd:Str} {b:Int64} {ex:List Ex} {args:List Fm} (h:(decide ((cJ op).lv=0) || (!(cJ op).nm && !decide (nm=[])) || (!(cJ op).fd && !decide (fd=[])) || !decide (args.length=(cJ op).ar))=false) (hb:GE (.mk op nm fd a b ex args)=true):jX (.mk op nm fd a b ex args)=CT (.mk op nm fd a b ex args):=by
 rw [RK,decide_not,hb];generalize decide ((cJ op).lv=0)=x1 at *;generalize (cJ op).nm=x2 at *;generalize decide (nm=[])=x3 at *;generalize (cJ op).fd=x4 at *;generalize decide (fd=[])=x5 at *;generalize decide (args.length=(cJ op).ar)=x6 at *
 revert h
 cases x1 <;> cases x2 <;> cases x3 <;> cases x4 <;> cases x5 <;> cases x6 <;> simp
theorem bR9 {n:Int64} :(n=0)=(n.toInt=0):=by have:=@i0 n;rw [bH,aD,aD] at this;exact propext this.symm
theorem vL {op:UInt8} {nm fd:Str} {b:Int64} {ex:List Ex} {args:List Fm} (h:(cJ op).wn=true):GE (.mk op nm fd a b ex args)=decide ((a.toInt=0/\b.toInt=-1)\/(0<=a.toInt/\a.toInt<=b.toInt/\b.toInt<=200)):=by
 unfold GE;rw [aL (show (cJ (Fm.mk op nm fd a b ex args).op).wn=true from h),bH];show ((decide (a=0) && decide (b.toInt=-1)) || (decide (0<=a.toInt) && decide (a.toInt<=b.toInt) && decide (b.toInt<=200)))=true↔_;rw [bC,aE,aE,aE,aD,aD,aD,aD,aD,aD,bR9];omega
theorem vN {op:UInt8} {nm fd:Str} {b:Int64} {ex:List Ex} {args:List Fm} (h:(cJ op).wn=false) (h2:(cJ op).am=true):GE (.mk op nm fd a b ex args)=decide (-1000000<=a.toInt/\a.toInt<=b.toInt/\b.toInt<=1000000/\b.toInt - a.toInt<32):=by
 unfold GE;rw [aG (show ¬ (cJ (Fm.mk op nm fd a b ex args).op).wn=true by show ¬ (cJ op).wn=true;rw [h];decide),aL (show (cJ (Fm.mk op nm fd a b ex args).op).am=true from h2),bH];show (decide (-1000000<=a.toInt) && decide (a.toInt<=b.toInt) && decide (b.toInt<=1000000) && decide (b.toInt - a.toInt<32))=true↔_;rw [aE,aE,aE,aD,aD,aD,aD,aD];omega
theorem vM {op:UInt8} {nm fd:Str} {b:Int64} {ex:List Ex} {args:List Fm} (h:(cJ op).wn=false) (h2:(cJ op).am=false):GE (.mk op nm fd a b ex args)=decide (a.toInt=0/\b.toInt=0):=by
 unfold GE;rw [aG (show ¬ (cJ (Fm.mk op nm fd a b ex args).op).wn=true by show ¬ (cJ op).wn=true;rw [h];decide),aG (show ¬ (cJ (Fm.mk op nm fd a b ex args).op).am=true by show ¬ (cJ op).am=true;rw [h2];decide),bH];show (decide (a=0) && decide (b=0))=true↔_;rw [aE,aD,aD,aD,bR9,bR9]
theorem qS {l:List Ex} :(!l.any ZY)=l.all λe=>HS e || eP e:=by
 induction l with
 | nil=>rfl
 | cons e r ih=>rw [List.any_cons,eE,<-ih,aU2];cases HS e <;> cases eP e <;> simp
theorem uQ {op:UInt8} {nm fd:Str} {b:Int64} {ex:List Ex} {args:List Fm} (h:op=7):CT (.mk op nm fd a b ex args)=(decide (ex.length<=4) && ex.all λe=>HS e || eP e):=by unfold CT;rw [aL (show (Fm.mk op nm fd a b ex args).op=7 from h)];rfl
theorem aW3 {op:UInt8} {nm fd:Str} {b:Int64} {ex:List Ex} {args:List Fm} (h:¬ op=7):CT (.mk op nm fd a b ex args)=(decide (ex.length=(cJ op).ex) && (if op=3 then IU (ex.headD (.mk 0 [] 0 [])) else if op=5 then eP (ex.headD (.mk 0 [] 0 [])) else if op=18 then decide ((ex.headD (.mk 0 [] 0 [])).op=1) && eP (ex.headD (.mk 0 [] 0 [])) && decide ((ex.headD (.mk 0 [] 0 [])).n.toInt<=32) else true)):=by unfold CT;rw [aG (show ¬ (Fm.mk op nm fd a b ex args).op=7 from h)];rfl
theorem HH {op:UInt8} {nm fd:Str} {b:Int64} {ex:List Ex} {args:List Fm} (h:¬ op=7) (h2:¬ ex.length=(cJ op).ex):CT (.mk op nm fd a b ex args)=false:=by rw [aW3 h,aP h2];rfl
theorem HG {op:UInt8} {nm fd:Str} {b:Int64} {ex:List Ex} {args:List Fm} (h:¬ op=7) (h2:ex.length=(cJ op).ex) (h3:¬ op=3) (h5:¬ op=5) (h18:¬ op=18):CT (.mk op nm fd a b ex args)=true:=by rw [aW3 h,aR h2,aG h3,aG h5,aG h18];rfl
theorem HJ {op:UInt8} {nm fd:Str} {b:Int64} {args:List Fm} {e0:Ex} (h:op=3):CT (.mk op nm fd a b [e0] args)=IU e0:=by subst h;rw [aW3 (by decide),aL rfl];rfl
theorem HI {op:UInt8} {nm fd:Str} {b:Int64} {args:List Fm} {e0:Ex} (h:op=5):CT (.mk op nm fd a b [e0] args)=eP e0:=by subst h;rw [aW3 (by decide),aG (by decide),aL rfl];rfl
theorem jQ {op:UInt8} {nm fd:Str} {b:Int64} {args:List Fm} {op0:UInt8} {nm0:Str} {m0:Int64} {args0:List Ex} (h:op=18):CT (.mk op nm fd a b [.mk op0 nm0 m0 args0] args)=(decide (((op0.toNat:Nat):Int)=1) && eP (.mk op0 nm0 m0 args0) && decide (m0.toInt<=32)):=by subst h;rw [aW3 (by decide),aG (by decide),aG (by decide),aL rfl,k81];rfl
set_option maxHeartbeats 2000000 in
theorem XL (H:Hp) (Gt:Gf H) (f:Fm):FFn H 38 jX f:=by
 intro cs w h hA;obtain ⟨op,nm,fd,a,b,ex,args⟩:=f;obtain ⟨p1,c1,p2,c2,rfl,hs1,hs2,hnm,hfd⟩:=iB h;have hcap:=hs1.cap;have hcap2:=hs2.cap;refine Sx.enter (H:=H) func38 rfl ntmps38 rfl hA ?_;refine .sr<|.bx Z Z Z λb1=>.a Z Z<|.ns<|.fA Z eH<|.lD Z iA Hm Z<|.yw (.call (v:=.agg (fsC (cJ op)).toArray) qV Z (λW s=>oM H Gt op W s.agr))<|.al ED Z λb3=>.sW .head Z Z zU (by simp [fsC,Value.oneCell',cH]) Z<|.nt<|.sq<|.cu (X:=Bool) [(1,_),(3,_)] ⟨Z,Z,Jt⟩ (λz=>[(38,.bool z)]) (λz=>H) (λz=>[.box b3 (fsC (cJ op)) 157,.box b1 [.int .u8 op.toNat,cH nm,cH fd,.int .i64 a.toInt,.int .i64 b.toInt,.slice p1 ex.length c1,.slice p2 args.length c2] 35]) (λz=>z=(decide ((cJ op).lv=0) || (!(cJ op).nm && !decide (nm=[])) || (!(cJ op).fd && !decide (fd=[])) || !decide (args.length=(cJ op).ar))) ?_ λz hC=>?_
 ·
  refine .rg<|.fA Z NC<|.lD Z iP Hm Z<|.yw (.cast (.eql Z Z) (congrArg Value.bool er0))<|.mv Z<|.b2 (λh10=>?_) (λh10=>?_)
  ·exact .gG<|.gG<|.gG<|.gG<|.gV<|.gV<|.gV<|.gG<|.yw (.pickT Z Z)<|.mv Z<|.gG<|.gG<|.gG<|.gG<|.gV<|.gV<|.gV<|.gG<|.yw (.pickT Z Z)<|.mv Z<|.gG<|.gG<|.gG<|.gG<|.gG<|.gG<|.gG<|.yw (.pickT Z Z)<|.nt<|.me _ ⟨Z,Jt⟩ ⟨Z,Z,Jt⟩ (λ_ s=>s) (by first | (simp only [h10,h14,h20,h24,h30,aA,aB,Bool.true_or,aK,Bool.or_false,Bool.or_true];done) | (simp only [h10,h14,h20,h24,aA,aB,Bool.true_or,aK,Bool.or_false,Bool.or_true];done) | (simp only [h10,h14,h24,h30,aA,aB,Bool.true_or,aK,Bool.or_false,Bool.or_true];done) | (simp only [h10,h14,h24,aA,aB,Bool.true_or,aK,Bool.or_false,Bool.or_true];done) | (simp only [h10,h14,h20,aA,aB,Bool.true_or,aK,Bool.or_false,Bool.or_true];done) | (simp only [h10,aA,aB,Bool.true_or,aK,Bool.or_false,Bool.or_true];done) )
  refine .gy (.fieldAddr Z DF)<|.gy (.load Z jI Hm Z)<|.gy (.not Z)<|.gy (.move Z)<|.b2 (λh14=>?_) (λh14=>?_)
  ·refine .gy (.fieldAddr Z fX)<|.gy (.load Z cZ cP Z)<|.gy (.cast (.neS Z Z) (congrArg Value.bool decide_not))<|.gy (.pickT Z Z)<|.yw (.pickF Z Z)<|.mv Z<|.b2 (λh20=>?_) (λh20=>?_)
   ·exact .gG<|.gG<|.gG<|.gG<|.gV<|.gV<|.gV<|.gG<|.yw (.pickT Z Z)<|.mv Z<|.gG<|.gG<|.gG<|.gG<|.gG<|.gG<|.gG<|.yw (.pickT Z Z)<|.nt<|.me _ ⟨Z,Jt⟩ ⟨Z,Z,Jt⟩ (λ_ s=>s) (by first | (simp only [h10,h14,h20,h24,h30,aA,aB,Bool.true_or,aK,Bool.or_false,Bool.or_true];done) | (simp only [h10,h14,h20,h24,aA,aB,Bool.true_or,aK,Bool.or_false,Bool.or_true];done) | (simp only [h10,h14,h24,h30,aA,aB,Bool.true_or,aK,Bool.or_false,Bool.or_true];done) | (simp only [h10,h14,h24,aA,aB,Bool.true_or,aK,Bool.or_false,Bool.or_true];done) | (simp only [h10,h14,h20,aA,aB,Bool.true_or,aK,Bool.or_false,Bool.or_true];done) | (simp only [h10,aA,aB,Bool.true_or,aK,Bool.or_false,Bool.or_true];done) )
   refine .gy (.fieldAddr Z uJ)<|.gy (.load Z jI Hm Z)<|.gy (.not Z)<|.gy (.move Z)<|.b2 (λh24=>?_) (λh24=>?_)
   ·refine .gy (.fieldAddr Z fW)<|.gy (.load Z cZ cP Z)<|.gy (.cast (.neS Z Z) (congrArg Value.bool decide_not))<|.gy (.pickT Z Z)<|.yw (.pickF Z Z)<|.mv Z<|.b2 (λh30=>?_) (λh30=>?_)
    ·exact .gG<|.gG<|.gG<|.gG<|.gG<|.gG<|.gG<|.yw (.pickT Z Z)<|.nt<|.me _ ⟨Z,Jt⟩ ⟨Z,Z,Jt⟩ (λ_ s=>s) (by first | (simp only [h10,h14,h20,h24,h30,aA,aB,Bool.true_or,aK,Bool.or_false,Bool.or_true];done) | (simp only [h10,h14,h20,h24,aA,aB,Bool.true_or,aK,Bool.or_false,Bool.or_true];done) | (simp only [h10,h14,h24,h30,aA,aB,Bool.true_or,aK,Bool.or_false,Bool.or_true];done) | (simp only [h10,h14,h24,aA,aB,Bool.true_or,aK,Bool.or_false,Bool.or_true];done) | (simp only [h10,h14,h20,aA,aB,Bool.true_or,aK,Bool.or_false,Bool.or_true];done) | (simp only [h10,aA,aB,Bool.true_or,aK,Bool.or_false,Bool.or_true];done) )
    exact .gy (.fieldAddr Z cU)<|.gy (.load Z eU cP Z)<|.gy (.lenSl eG Z)<|.gy (.fieldAddr Z uI)<|.gy (.load Z iP Hm Z)<|.gy (.conv Z kU lI (c:=(((cJ op).ar:Nat):Int)) (w64 (by omega) (by have:=BI op;omega)))<|.gy (.cast (.neq Z Z) (congrArg Value.bool nn0))<|.yw (.pickF Z Z)<|.nt<|.me _ ⟨Z,Jt⟩ ⟨Z,Z,Jt⟩ (λ_ s=>s) (by first | (simp only [h10,h14,h20,h24,h30,aA,aB,Bool.true_or,aK,Bool.or_false,Bool.or_true];done) | (simp only [h10,h14,h20,h24,aA,aB,Bool.true_or,aK,Bool.or_false,Bool.or_true];done) | (simp only [h10,h14,h24,h30,aA,aB,Bool.true_or,aK,Bool.or_false,Bool.or_true];done) | (simp only [h10,h14,h24,aA,aB,Bool.true_or,aK,Bool.or_false,Bool.or_true];done) | (simp only [h10,h14,h20,aA,aB,Bool.true_or,aK,Bool.or_false,Bool.or_true];done) | (simp only [h10,aA,aB,Bool.true_or,aK,Bool.or_false,Bool.or_true];done) )
   exact .gG<|.gG<|.gG<|.gy (.pickF Z Z)<|.yw (.pickF Z Z)<|.mv Z<|.gy (.fieldAddr Z cU)<|.gy (.load Z eU cP Z)<|.gy (.lenSl eG Z)<|.gy (.fieldAddr Z uI)<|.gy (.load Z iP Hm Z)<|.gy (.conv Z kU lI (c:=(((cJ op).ar:Nat):Int)) (w64 (by omega) (by have:=BI op;omega)))<|.gy (.cast (.neq Z Z) (congrArg Value.bool nn0))<|.yw (.pickF Z Z)<|.nt<|.me _ ⟨Z,Jt⟩ ⟨Z,Z,Jt⟩ (λ_ s=>s) (by first | (simp only [h10,h14,h20,h24,h30,aA,aB,Bool.true_or,aK,Bool.or_false,Bool.or_true];done) | (simp only [h10,h14,h20,h24,aA,aB,Bool.true_or,aK,Bool.or_false,Bool.or_true];done) | (simp only [h10,h14,h24,h30,aA,aB,Bool.true_or,aK,Bool.or_false,Bool.or_true];done) | (simp only [h10,h14,h24,aA,aB,Bool.true_or,aK,Bool.or_false,Bool.or_true];done) | (simp only [h10,h14,h20,aA,aB,Bool.true_or,aK,Bool.or_false,Bool.or_true];done) | (simp only [h10,aA,aB,Bool.true_or,aK,Bool.or_false,Bool.or_true];done) )
  refine .gG<|.gG<|.gG<|.gy (.pickF Z Z)<|.yw (.pickF Z Z)<|.mv Z<|.gy (.fieldAddr Z uJ)<|.gy (.load Z jI Hm Z)<|.gy (.not Z)<|.gy (.move Z)<|.b2 (λh24=>?_) (λh24=>?_)
  ·refine .gy (.fieldAddr Z fW)<|.gy (.load Z cZ cP Z)<|.gy (.cast (.neS Z Z) (congrArg Value.bool decide_not))<|.gy (.pickT Z Z)<|.yw (.pickF Z Z)<|.mv Z<|.b2 (λh30=>?_) (λh30=>?_)
   ·exact .gG<|.gG<|.gG<|.gG<|.gG<|.gG<|.gG<|.yw (.pickT Z Z)<|.nt<|.me _ ⟨Z,Jt⟩ ⟨Z,Z,Jt⟩ (λ_ s=>s) (by first | (simp only [h10,h14,h20,h24,h30,aA,aB,Bool.true_or,aK,Bool.or_false,Bool.or_true];done) | (simp only [h10,h14,h20,h24,aA,aB,Bool.true_or,aK,Bool.or_false,Bool.or_true];done) | (simp only [h10,h14,h24,h30,aA,aB,Bool.true_or,aK,Bool.or_false,Bool.or_true];done) | (simp only [h10,h14,h24,aA,aB,Bool.true_or,aK,Bool.or_false,Bool.or_true];done) | (simp only [h10,h14,h20,aA,aB,Bool.true_or,aK,Bool.or_false,Bool.or_true];done) | (simp only [h10,aA,aB,Bool.true_or,aK,Bool.or_false,Bool.or_true];done) )
   exact .gy (.fieldAddr Z cU)<|.gy (.load Z eU cP Z)<|.gy (.lenSl eG Z)<|.gy (.fieldAddr Z uI)<|.gy (.load Z iP Hm Z)<|.gy (.conv Z kU lI (c:=(((cJ op).ar:Nat):Int)) (w64 (by omega) (by have:=BI op;omega)))<|.gy (.cast (.neq Z Z) (congrArg Value.bool nn0))<|.yw (.pickF Z Z)<|.nt<|.me _ ⟨Z,Jt⟩ ⟨Z,Z,Jt⟩ (λ_ s=>s) (by first | (simp only [h10,h14,h20,h24,h30,aA,aB,Bool.true_or,aK,Bool.or_false,Bool.or_true];done) | (simp only [h10,h14,h20,h24,aA,aB,Bool.true_or,aK,Bool.or_false,Bool.or_true];done) | (simp only [h10,h14,h24,h30,aA,aB,Bool.true_or,aK,Bool.or_false,Bool.or_true];done) | (simp only [h10,h14,h24,aA,aB,Bool.true_or,aK,Bool.or_false,Bool.or_true];done) | (simp only [h10,h14,h20,aA,aB,Bool.true_or,aK,Bool.or_false,Bool.or_true];done) | (simp only [h10,aA,aB,Bool.true_or,aK,Bool.or_false,Bool.or_true];done) )
  exact .gG<|.gG<|.gG<|.gy (.pickF Z Z)<|.yw (.pickF Z Z)<|.mv Z<|.gy (.fieldAddr Z cU)<|.gy (.load Z eU cP Z)<|.gy (.lenSl eG Z)<|.gy (.fieldAddr Z uI)<|.gy (.load Z iP Hm Z)<|.gy (.conv Z kU lI (c:=(((cJ op).ar:Nat):Int)) (w64 (by omega) (by have:=BI op;omega)))<|.gy (.cast (.neq Z Z) (congrArg Value.bool nn0))<|.yw (.pickF Z Z)<|.nt<|.me _ ⟨Z,Jt⟩ ⟨Z,Z,Jt⟩ (λ_ s=>s) (by first | (simp only [h10,h14,h20,h24,h30,aA,aB,Bool.true_or,aK,Bool.or_false,Bool.or_true];done) | (simp only [h10,h14,h20,h24,aA,aB,Bool.true_or,aK,Bool.or_false,Bool.or_true];done) | (simp only [h10,h14,h24,h30,aA,aB,Bool.true_or,aK,Bool.or_false,Bool.or_true];done) | (simp only [h10,h14,h24,aA,aB,Bool.true_or,aK,Bool.or_false,Bool.or_true];done) | (simp only [h10,h14,h20,aA,aB,Bool.true_or,aK,Bool.or_false,Bool.or_true];done) | (simp only [h10,aA,aB,Bool.true_or,aK,Bool.or_false,Bool.or_true];done) )
 have ez:=hC;refine .cd Z (λh38=>?_) (λh38=>?_)
 ·refine .sr<|.az Z<|.tR<|?_
  refine y9 Z Z λW s=>⟨?_,s.ext⟩
  first
   | (rw [nR (ez.symm.trans h38)])
   | (rw [eQ (by rw [vL h39,aP (aH (by rw [h66] at ew;exact ew.symm))])])
   | (rw [eQ (by rw [vN h39 h67,aP (aH (by rw [h92] at ea;exact ea.symm))])])
   | (rw [eQ (by rw [vM h39 h67,aP (aH (by rw [h93] at en;exact en.symm))])])
   | (rw [cD (ez.symm.trans h38) hb,uQ q7,h109,aA,qS])
   | (rw [cD (ez.symm.trans h38) hb,uQ q7,h109];rfl)
   | (rw [cD (ez.symm.trans h38) hb,HH q7 hlx])
   | (rw [cD (ez.symm.trans h38) hb,HJ q3])
   | (rw [cD (ez.symm.trans h38) hb,HI q5])
   | (rw [cD (ez.symm.trans h38) hb,jQ q18,h146,h153,aA,aA])
   | (rw [cD (ez.symm.trans h38) hb,jQ q18,h146,h153];rfl)
   | (rw [cD (ez.symm.trans h38) hb,jQ q18,h146];rfl)
   | (rw [cD (ez.symm.trans h38) hb,HG q7 hlx q3 q5 q18])
 refine .sk<|.tN<|.cu (X:=Unit) [(1,_),(3,_)] ⟨Z,Z,Jt⟩ (λz=>[]) (λz=>H) (λz=>[.box b3 (fsC (cJ op)) 157,.box b1 [.int .u8 op.toNat,cH nm,cH fd,.int .i64 a.toInt,.int .i64 b.toInt,.slice p1 ex.length c1,.slice p2 args.length c2] 35]) (λz=>GE (.mk op nm fd a b ex args)=true) ?_ λz hC=>?_
 ·
  refine .bk<|.sr<|.fA Z NB<|.lD Z jI Hm Z<|.aq Z<|.cd Z (λh39=>?_) (λh39=>?_)
  ·refine .cu (X:=Bool) [(1,_),(3,_)] ⟨Z,Z,Jt⟩ (λz=>[(66,.bool z)]) (λz=>H) (λz=>[.box b3 (fsC (cJ op)) 157,.box b1 [.int .u8 op.toNat,cH nm,cH fd,.int .i64 a.toInt,.int .i64 b.toInt,.slice p1 ex.length c1,.slice p2 args.length c2] 35]) (λz=>z=decide (¬ ((a.toInt=0/\b.toInt=-1)\/(0<=a.toInt/\a.toInt<=b.toInt/\b.toInt<=200)))) ?_ λz hC=>?_
   ·
    refine .rg<|.fA Z eX<|.lD Z cS cP Z<|.yw (.neq Z Z)<|.mv Z<|.e2 (λh45=>?_) (λh45=>?_)
    ·refine .gG<|.gG<|.gG<|.yw (.pickT Z Z)<|.mv Z<|.gy (.fieldAddr Z eX)<|.gy (.load Z cS cP Z)<|.gy (.lss Z Z)<|.gy (.move Z)<|.b2 (λh54=>?_) (λh54=>?_)
     ·try simp only [dt] at h54
      exact .gG<|.gG<|.gG<|.gG<|.gG<|.gy (.pickT Z Z)<|.gy (.move Z)<|.gG<|.gG<|.gG<|.gy (.pickT Z Z)<|.yw (.pickT Z Z)<|.nt<|.me _ ⟨Z,Jt⟩ ⟨Z,Z,Jt⟩ (λ_ s=>s) (by rw [bH,aD];first | (rw [aD];omega) | exact ⟨λ_=>by omega,λ_=>rfl⟩ | exact ⟨λh=>(by cases h),λh=>by omega⟩)
     try simp only [df] at h54
     refine .gy (.fieldAddr Z eX)<|.gy (.load Z cS cP Z)<|.gy (.fieldAddr Z eS)<|.gy (.load Z cS cP Z)<|.gy (.gtr Z Z)<|.gy (.pickF Z Z)<|.gy (.move Z)<|.b2 (λh61=>?_) (λh61=>?_)
     ·try simp only [dt] at h61
      exact .gG<|.gG<|.gG<|.gy (.pickT Z Z)<|.yw (.pickT Z Z)<|.nt<|.me _ ⟨Z,Jt⟩ ⟨Z,Z,Jt⟩ (λ_ s=>s) (by rw [bH,aD];first | (rw [aD];omega) | exact ⟨λ_=>by omega,λ_=>rfl⟩ | exact ⟨λh=>(by cases h),λh=>by omega⟩)
     try simp only [df] at h61
     exact .gy (.fieldAddr Z eS)<|.gy (.load Z cS cP Z)<|.gy (.gtr Z Z)<|.gy (.pickF Z Z)<|.yw (.pickT Z Z)<|.nt<|.me _ ⟨Z,Jt⟩ ⟨Z,Z,Jt⟩ (λ_ s=>s) (by rw [bH,aD];first | (rw [aD];omega) | exact ⟨λ_=>by omega,λ_=>rfl⟩ | exact ⟨λh=>(by cases h),λh=>by omega⟩)
    refine .gy (.fieldAddr Z eS)<|.gy (.load Z cS cP Z)<|.gy (.neq Z Z)<|.yw (.pickF Z Z)<|.mv Z<|.e2 (λh50=>?_) (λh50=>?_)
    ·refine .gy (.fieldAddr Z eX)<|.gy (.load Z cS cP Z)<|.gy (.lss Z Z)<|.gy (.move Z)<|.b2 (λh54=>?_) (λh54=>?_)
     ·try simp only [dt] at h54
      exact .gG<|.gG<|.gG<|.gG<|.gG<|.gy (.pickT Z Z)<|.gy (.move Z)<|.gG<|.gG<|.gG<|.gy (.pickT Z Z)<|.yw (.pickT Z Z)<|.nt<|.me _ ⟨Z,Jt⟩ ⟨Z,Z,Jt⟩ (λ_ s=>s) (by rw [bH,aD];first | (rw [aD];omega) | exact ⟨λ_=>by omega,λ_=>rfl⟩ | exact ⟨λh=>(by cases h),λh=>by omega⟩)
     try simp only [df] at h54
     refine .gy (.fieldAddr Z eX)<|.gy (.load Z cS cP Z)<|.gy (.fieldAddr Z eS)<|.gy (.load Z cS cP Z)<|.gy (.gtr Z Z)<|.gy (.pickF Z Z)<|.gy (.move Z)<|.b2 (λh61=>?_) (λh61=>?_)
     ·try simp only [dt] at h61
      exact .gG<|.gG<|.gG<|.gy (.pickT Z Z)<|.yw (.pickT Z Z)<|.nt<|.me _ ⟨Z,Jt⟩ ⟨Z,Z,Jt⟩ (λ_ s=>s) (by rw [bH,aD];first | (rw [aD];omega) | exact ⟨λ_=>by omega,λ_=>rfl⟩ | exact ⟨λh=>(by cases h),λh=>by omega⟩)
     try simp only [df] at h61
     exact .gy (.fieldAddr Z eS)<|.gy (.load Z cS cP Z)<|.gy (.gtr Z Z)<|.gy (.pickF Z Z)<|.yw (.pickT Z Z)<|.nt<|.me _ ⟨Z,Jt⟩ ⟨Z,Z,Jt⟩ (λ_ s=>s) (by rw [bH,aD];first | (rw [aD];omega) | exact ⟨λ_=>by omega,λ_=>rfl⟩ | exact ⟨λh=>(by cases h),λh=>by omega⟩)
    exact .gG<|.gG<|.gG<|.gG<|.gV<|.gV<|.gV<|.gV<|.gV<|.gG<|.gG<|.gV<|.gV<|.gV<|.gG<|.yw (.pickF Z Z)<|.nt<|.me _ ⟨Z,Jt⟩ ⟨Z,Z,Jt⟩ (λ_ s=>s) (by rw [bH,aD];first | (rw [aD];omega) | exact ⟨λ_=>by omega,λ_=>rfl⟩ | exact ⟨λh=>(by cases h),λh=>by omega⟩)
   have ew:=hC;refine .cd Z (λh66=>?_) (λh66=>?_)
   ·refine .sr<|.az Z<|.bR<|.tR<|?_
    refine y9 Z Z λW s=>⟨?_,s.ext⟩
    first
     | (rw [nR (ez.symm.trans h38)])
     | (rw [eQ (by rw [vL h39,aP (aH (by rw [h66] at ew;exact ew.symm))])])
     | (rw [eQ (by rw [vN h39 h67,aP (aH (by rw [h92] at ea;exact ea.symm))])])
     | (rw [eQ (by rw [vM h39 h67,aP (aH (by rw [h93] at en;exact en.symm))])])
     | (rw [cD (ez.symm.trans h38) hb,uQ q7,h109,aA,qS])
     | (rw [cD (ez.symm.trans h38) hb,uQ q7,h109];rfl)
     | (rw [cD (ez.symm.trans h38) hb,HH q7 hlx])
     | (rw [cD (ez.symm.trans h38) hb,HJ q3])
     | (rw [cD (ez.symm.trans h38) hb,HI q5])
     | (rw [cD (ez.symm.trans h38) hb,jQ q18,h146,h153,aA,aA])
     | (rw [cD (ez.symm.trans h38) hb,jQ q18,h146,h153];rfl)
     | (rw [cD (ez.symm.trans h38) hb,jQ q18,h146];rfl)
     | (rw [cD (ez.symm.trans h38) hb,HG q7 hlx q3 q5 q18])
   exact .sk<|.bN<|.tN<|.me () trivial ⟨Z,Z,Jt⟩ (λ_ s=>s) (by first | (rw [vL h39,aR (Classical.byContradiction λe=>by rw [h66] at ew;rw [aR e] at ew;cases ew)]) | (rw [vN h39 h67,aR (Classical.byContradiction λe=>by rw [h92] at ea;rw [aR e] at ea;cases ea)]) | (rw [vM h39 h67,aR (Classical.byContradiction λe=>by rw [h93] at en;rw [aR e] at en;cases en)]))
  refine .sr<|.fA Z NA<|.lD Z jI Hm Z<|.aq Z<|.cd Z (λh67=>?_) (λh67=>?_)
  ·refine .cu (X:=Bool) [(1,_),(3,_)] ⟨Z,Z,Jt⟩ (λz=>[(92,.bool z)]) (λz=>H) (λz=>[.box b3 (fsC (cJ op)) 157,.box b1 [.int .u8 op.toNat,cH nm,cH fd,.int .i64 a.toInt,.int .i64 b.toInt,.slice p1 ex.length c1,.slice p2 args.length c2] 35]) (λz=>z=decide (¬ (-1000000<=a.toInt/\a.toInt<=b.toInt/\b.toInt<=1000000/\b.toInt - a.toInt<32))) ?_ λz hC=>?_
   ·
    refine .rg<|.fA Z eX<|.lD Z cS cP Z<|.yw (.lss Z Z)<|.mv Z<|.e2 (λh73=>?_) (λh73=>?_)
    ·exact .gG<|.gG<|.gG<|.gG<|.gG<|.yw (.pickT Z Z)<|.mv Z<|.gG<|.gG<|.gG<|.yw (.pickT Z Z)<|.mv Z<|.gG<|.gG<|.gG<|.gG<|.gG<|.gG<|.yw (.pickT Z Z)<|.nt<|.me _ ⟨Z,Jt⟩ ⟨Z,Z,Jt⟩ (λ_ s=>s) (by rw [bH,aD];first | (rw [aD];omega) | exact ⟨λ_=>by omega,λ_=>rfl⟩ | exact ⟨λh=>(by cases h),λh=>by omega⟩)
    refine .gy (.fieldAddr Z eX)<|.gy (.load Z cS cP Z)<|.gy (.fieldAddr Z eS)<|.gy (.load Z cS cP Z)<|.gy (.gtr Z Z)<|.yw (.pickF Z Z)<|.mv Z<|.e2 (λh80=>?_) (λh80=>?_)
    ·exact .gG<|.gG<|.gG<|.yw (.pickT Z Z)<|.mv Z<|.gG<|.gG<|.gG<|.gG<|.gG<|.gG<|.yw (.pickT Z Z)<|.nt<|.me _ ⟨Z,Jt⟩ ⟨Z,Z,Jt⟩ (λ_ s=>s) (by rw [bH,aD];first | (rw [aD];omega) | exact ⟨λ_=>by omega,λ_=>rfl⟩ | exact ⟨λh=>(by cases h),λh=>by omega⟩)
    refine .gy (.fieldAddr Z eS)<|.gy (.load Z cS cP Z)<|.gy (.gtr Z Z)<|.yw (.pickF Z Z)<|.mv Z<|.e2 (λh85=>?_) (λh85=>?_)
    ·exact .gG<|.gG<|.gG<|.gG<|.gG<|.gG<|.yw (.pickT Z Z)<|.nt<|.me _ ⟨Z,Jt⟩ ⟨Z,Z,Jt⟩ (λ_ s=>s) (by rw [bH,aD];first | (rw [aD];omega) | exact ⟨λ_=>by omega,λ_=>rfl⟩ | exact ⟨λh=>(by cases h),λh=>by omega⟩)
    exact .gy (.fieldAddr Z eS)<|.gy (.load Z cS cP Z)<|.gy (.fieldAddr Z eX)<|.gy (.load Z cS cP Z)<|.gy (.sub Z Z (w6 (by omega)))<|.gy (.geq Z Z)<|.yw (.pickF Z Z)<|.nt<|.me _ ⟨Z,Jt⟩ ⟨Z,Z,Jt⟩ (λ_ s=>s) (by rw [bH,aD];first | (rw [aD];omega) | exact ⟨λ_=>by omega,λ_=>rfl⟩ | exact ⟨λh=>(by cases h),λh=>by omega⟩)
   have ea:=hC;refine .cd Z (λh92=>?_) (λh92=>?_)
   ·refine .sr<|.az Z<|.bR<|.tR<|?_
    refine y9 Z Z λW s=>⟨?_,s.ext⟩
    first
     | (rw [nR (ez.symm.trans h38)])
     | (rw [eQ (by rw [vL h39,aP (aH (by rw [h66] at ew;exact ew.symm))])])
     | (rw [eQ (by rw [vN h39 h67,aP (aH (by rw [h92] at ea;exact ea.symm))])])
     | (rw [eQ (by rw [vM h39 h67,aP (aH (by rw [h93] at en;exact en.symm))])])
     | (rw [cD (ez.symm.trans h38) hb,uQ q7,h109,aA,qS])
     | (rw [cD (ez.symm.trans h38) hb,uQ q7,h109];rfl)
     | (rw [cD (ez.symm.trans h38) hb,HH q7 hlx])
     | (rw [cD (ez.symm.trans h38) hb,HJ q3])
     | (rw [cD (ez.symm.trans h38) hb,HI q5])
     | (rw [cD (ez.symm.trans h38) hb,jQ q18,h146,h153,aA,aA])
     | (rw [cD (ez.symm.trans h38) hb,jQ q18,h146,h153];rfl)
     | (rw [cD (ez.symm.trans h38) hb,jQ q18,h146];rfl)
     | (rw [cD (ez.symm.trans h38) hb,HG q7 hlx q3 q5 q18])
   exact .sk<|.bN<|.tN<|.me () trivial ⟨Z,Z,Jt⟩ (λ_ s=>s) (by first | (rw [vL h39,aR (Classical.byContradiction λe=>by rw [h66] at ew;rw [aR e] at ew;cases ew)]) | (rw [vN h39 h67,aR (Classical.byContradiction λe=>by rw [h92] at ea;rw [aR e] at ea;cases ea)]) | (rw [vM h39 h67,aR (Classical.byContradiction λe=>by rw [h93] at en;rw [aR e] at en;cases en)]))
  refine .cu (X:=Bool) [(1,_),(3,_)] ⟨Z,Z,Jt⟩ (λz=>[(93,.bool z)]) (λz=>H) (λz=>[.box b3 (fsC (cJ op)) 157,.box b1 [.int .u8 op.toNat,cH nm,cH fd,.int .i64 a.toInt,.int .i64 b.toInt,.slice p1 ex.length c1,.slice p2 args.length c2] 35]) (λz=>z=decide (¬ (a.toInt=0/\b.toInt=0))) ?_ λz hC=>?_
  ·
   refine .rg<|.fA Z eX<|.lD Z cS cP Z<|.yw (.neq Z Z)<|.mv Z<|.e2 (λh97=>?_) (λh97=>?_)
   ·exact .gG<|.gG<|.gG<|.yw (.pickT Z Z)<|.aq Z<|.me _ ⟨Z,Jt⟩ ⟨Z,Z,Jt⟩ (λ_ s=>s) (by rw [bH,aD];first | (rw [aD];omega) | exact ⟨λ_=>by omega,λ_=>rfl⟩ | exact ⟨λh=>(by cases h),λh=>by omega⟩)
   exact .gy (.fieldAddr Z eS)<|.gy (.load Z cS cP Z)<|.gy (.neq Z Z)<|.yw (.pickF Z Z)<|.aq Z<|.me _ ⟨Z,Jt⟩ ⟨Z,Z,Jt⟩ (λ_ s=>s) (by rw [bH,aD];first | (rw [aD];omega) | exact ⟨λ_=>by omega,λ_=>rfl⟩ | exact ⟨λh=>(by cases h),λh=>by omega⟩)
  have en:=hC;refine .cd Z (λh93=>?_) (λh93=>?_)
  ·refine .sr<|.az Z<|.bR<|.tR<|?_
   refine y9 Z Z λW s=>⟨?_,s.ext⟩
   first
    | (rw [nR (ez.symm.trans h38)])
    | (rw [eQ (by rw [vL h39,aP (aH (by rw [h66] at ew;exact ew.symm))])])
    | (rw [eQ (by rw [vN h39 h67,aP (aH (by rw [h92] at ea;exact ea.symm))])])
    | (rw [eQ (by rw [vM h39 h67,aP (aH (by rw [h93] at en;exact en.symm))])])
    | (rw [cD (ez.symm.trans h38) hb,uQ q7,h109,aA,qS])
    | (rw [cD (ez.symm.trans h38) hb,uQ q7,h109];rfl)
    | (rw [cD (ez.symm.trans h38) hb,HH q7 hlx])
    | (rw [cD (ez.symm.trans h38) hb,HJ q3])
    | (rw [cD (ez.symm.trans h38) hb,HI q5])
    | (rw [cD (ez.symm.trans h38) hb,jQ q18,h146,h153,aA,aA])
    | (rw [cD (ez.symm.trans h38) hb,jQ q18,h146,h153];rfl)
    | (rw [cD (ez.symm.trans h38) hb,jQ q18,h146];rfl)
    | (rw [cD (ez.symm.trans h38) hb,HG q7 hlx q3 q5 q18])
  exact .sk<|.bN<|.tN<|.me () trivial ⟨Z,Z,Jt⟩ (λ_ s=>s) (by first | (rw [vL h39,aR (Classical.byContradiction λe=>by rw [h66] at ew;rw [aR e] at ew;cases ew)]) | (rw [vN h39 h67,aR (Classical.byContradiction λe=>by rw [h92] at ea;rw [aR e] at ea;cases ea)]) | (rw [vM h39 h67,aR (Classical.byContradiction λe=>by rw [h93] at en;rw [aR e] at en;cases en)]))
 have hb:=hC;refine .sq<|.sr<|.fA Z eH<|.lD Z iA cP Z<|.yw (.eql Z Z)<|.nt<|.cd Z (λh104=>?_) (λh104=>?_)
 ·have q7:op=7:=aQ.1 (by have:=aH h104;show op.toNat=7;omega);refine .sr<|.fA Z cK<|.lD Z dE cP Z<|.yw (.lenSl dO Z)<|.yw (.cast (.leq Z Z) (congrArg Value.bool le4))<|.mv Z<|.b2 (λh109=>?_) (λh109=>?_)
  ·refine .gy (.fieldAddr Z cK)<|.gy (.load Z dE cP Z)<|.gy (.call qW Z (λW s=>lH H 77 [] ZY ex hs1 aJ5 (λa _=>UR H a) W s.agr))<|.gy (.not Z)<|.yw (.pickT Z Z)<|.az Z<|.tR<|?_
   refine y9 Z Z λW s=>⟨?_,s.ext⟩
   first
    | (rw [nR (ez.symm.trans h38)])
    | (rw [eQ (by rw [vL h39,aP (aH (by rw [h66] at ew;exact ew.symm))])])
    | (rw [eQ (by rw [vN h39 h67,aP (aH (by rw [h92] at ea;exact ea.symm))])])
    | (rw [eQ (by rw [vM h39 h67,aP (aH (by rw [h93] at en;exact en.symm))])])
    | (rw [cD (ez.symm.trans h38) hb,uQ q7,h109,aA,qS])
    | (rw [cD (ez.symm.trans h38) hb,uQ q7,h109];rfl)
    | (rw [cD (ez.symm.trans h38) hb,HH q7 hlx])
    | (rw [cD (ez.symm.trans h38) hb,HJ q3])
    | (rw [cD (ez.symm.trans h38) hb,HI q5])
    | (rw [cD (ez.symm.trans h38) hb,jQ q18,h146,h153,aA,aA])
    | (rw [cD (ez.symm.trans h38) hb,jQ q18,h146,h153];rfl)
    | (rw [cD (ez.symm.trans h38) hb,jQ q18,h146];rfl)
    | (rw [cD (ez.symm.trans h38) hb,HG q7 hlx q3 q5 q18])
  refine .gG<|.gG<|.gG<|.gG<|.yw (.pickF Z Z)<|.az Z<|.tR<|?_
  refine y9 Z Z λW s=>⟨?_,s.ext⟩
  first
   | (rw [nR (ez.symm.trans h38)])
   | (rw [eQ (by rw [vL h39,aP (aH (by rw [h66] at ew;exact ew.symm))])])
   | (rw [eQ (by rw [vN h39 h67,aP (aH (by rw [h92] at ea;exact ea.symm))])])
   | (rw [eQ (by rw [vM h39 h67,aP (aH (by rw [h93] at en;exact en.symm))])])
   | (rw [cD (ez.symm.trans h38) hb,uQ q7,h109,aA,qS])
   | (rw [cD (ez.symm.trans h38) hb,uQ q7,h109];rfl)
   | (rw [cD (ez.symm.trans h38) hb,HH q7 hlx])
   | (rw [cD (ez.symm.trans h38) hb,HJ q3])
   | (rw [cD (ez.symm.trans h38) hb,HI q5])
   | (rw [cD (ez.symm.trans h38) hb,jQ q18,h146,h153,aA,aA])
   | (rw [cD (ez.symm.trans h38) hb,jQ q18,h146,h153];rfl)
   | (rw [cD (ez.symm.trans h38) hb,jQ q18,h146];rfl)
   | (rw [cD (ez.symm.trans h38) hb,HG q7 hlx q3 q5 q18])
 have q7:¬ op=7:=λe=>aN h104 (by rw [e];rfl);refine .sk<|.tN<|.sq<|.sr<|.fA Z cK<|.lD Z dE cP Z<|.yw (.lenSl dO Z)<|.fA Z MZ<|.lD Z iP Hm Z<|.yw (.conv Z kU lI (c:=(((cJ op).ex:Nat):Int)) (w64 (by omega) (by have:=BI op;omega)))<|.yw (.cast (.neq Z Z) (congrArg Value.bool nn0))<|.nt<|.cd Z (λh121=>?_) (λh121=>?_)
 ·have hlx:¬ ex.length=(cJ op).ex:=λe=>by rw [aR e] at h121;cases h121
  refine .sr<|.az Z<|.tR<|?_
  refine y9 Z Z λW s=>⟨?_,s.ext⟩
  first
   | (rw [nR (ez.symm.trans h38)])
   | (rw [eQ (by rw [vL h39,aP (aH (by rw [h66] at ew;exact ew.symm))])])
   | (rw [eQ (by rw [vN h39 h67,aP (aH (by rw [h92] at ea;exact ea.symm))])])
   | (rw [eQ (by rw [vM h39 h67,aP (aH (by rw [h93] at en;exact en.symm))])])
   | (rw [cD (ez.symm.trans h38) hb,uQ q7,h109,aA,qS])
   | (rw [cD (ez.symm.trans h38) hb,uQ q7,h109];rfl)
   | (rw [cD (ez.symm.trans h38) hb,HH q7 hlx])
   | (rw [cD (ez.symm.trans h38) hb,HJ q3])
   | (rw [cD (ez.symm.trans h38) hb,HI q5])
   | (rw [cD (ez.symm.trans h38) hb,jQ q18,h146,h153,aA,aA])
   | (rw [cD (ez.symm.trans h38) hb,jQ q18,h146,h153];rfl)
   | (rw [cD (ez.symm.trans h38) hb,jQ q18,h146];rfl)
   | (rw [cD (ez.symm.trans h38) hb,HG q7 hlx q3 q5 q18])
 have hlx:ex.length=(cJ op).ex:=Classical.byContradiction λe=>by rw [aP e] at h121;cases h121
 refine .sk<|.tN<|.sq<|.sr<|.fA Z eH<|.lD Z iA cP Z<|.nt<|.bk<|.sr<|.yw (.eql Z Z)<|.aq Z<|.cd Z (λh124=>?_) (λh124=>?_)
 ·have q3:op=3:=aQ.1 (by have:=aH h124;show op.toNat=3;omega);obtain ⟨e0,rfl⟩:∃ e0,ex=[e0]:=List.length_eq_one_iff.1 (by rw [hlx,q3];rfl);obtain ⟨bE,oE,cE,hpE,rE,lE,mE⟩:=hs1.elem (i:=0) (d:=dEx .u8 e0) rfl;cases hpE;refine .sr<|.fA Z cK<|.lD Z dE cP Z<|.yw (.indexSl dO Z Z (i:=0) Z (Nat.succ_pos _) (q:=oE+0 * 4) Z)<|.yw (.loadMW Z dP mE lE)<|.yw (.call aJ3 Z (λW s=>aF8 H e0 cE W rE s.agr))<|.az Z<|.bR<|.tR<|?_
  refine y9 Z Z λW s=>⟨?_,s.ext⟩
  first
   | (rw [nR (ez.symm.trans h38)])
   | (rw [eQ (by rw [vL h39,aP (aH (by rw [h66] at ew;exact ew.symm))])])
   | (rw [eQ (by rw [vN h39 h67,aP (aH (by rw [h92] at ea;exact ea.symm))])])
   | (rw [eQ (by rw [vM h39 h67,aP (aH (by rw [h93] at en;exact en.symm))])])
   | (rw [cD (ez.symm.trans h38) hb,uQ q7,h109,aA,qS])
   | (rw [cD (ez.symm.trans h38) hb,uQ q7,h109];rfl)
   | (rw [cD (ez.symm.trans h38) hb,HH q7 hlx])
   | (rw [cD (ez.symm.trans h38) hb,HJ q3])
   | (rw [cD (ez.symm.trans h38) hb,HI q5])
   | (rw [cD (ez.symm.trans h38) hb,jQ q18,h146,h153,aA,aA])
   | (rw [cD (ez.symm.trans h38) hb,jQ q18,h146,h153];rfl)
   | (rw [cD (ez.symm.trans h38) hb,jQ q18,h146];rfl)
   | (rw [cD (ez.symm.trans h38) hb,HG q7 hlx q3 q5 q18])
 have q3:¬ op=3:=λe=>aN h124 (by rw [e];rfl);refine .sr<|.yw (.eql Z Z)<|.aq Z<|.cd Z (λh131=>?_) (λh131=>?_)
 ·have q5:op=5:=aQ.1 (by have:=aH h131;show op.toNat=5;omega);obtain ⟨e0,rfl⟩:∃ e0,ex=[e0]:=List.length_eq_one_iff.1 (by rw [hlx,q5];rfl);obtain ⟨bE,oE,cE,hpE,rE,lE,mE⟩:=hs1.elem (i:=0) (d:=dEx .u8 e0) rfl;cases hpE;refine .sr<|.fA Z cK<|.lD Z dE cP Z<|.yw (.indexSl dO Z Z (i:=0) Z (Nat.succ_pos _) (q:=oE+0 * 4) Z)<|.yw (.loadMW Z dP mE lE)<|.yw (.call CL Z (λW s=>zJ H e0 cE W rE s.agr))<|.az Z<|.bR<|.tR<|?_
  refine y9 Z Z λW s=>⟨?_,s.ext⟩
  first
   | (rw [nR (ez.symm.trans h38)])
   | (rw [eQ (by rw [vL h39,aP (aH (by rw [h66] at ew;exact ew.symm))])])
   | (rw [eQ (by rw [vN h39 h67,aP (aH (by rw [h92] at ea;exact ea.symm))])])
   | (rw [eQ (by rw [vM h39 h67,aP (aH (by rw [h93] at en;exact en.symm))])])
   | (rw [cD (ez.symm.trans h38) hb,uQ q7,h109,aA,qS])
   | (rw [cD (ez.symm.trans h38) hb,uQ q7,h109];rfl)
   | (rw [cD (ez.symm.trans h38) hb,HH q7 hlx])
   | (rw [cD (ez.symm.trans h38) hb,HJ q3])
   | (rw [cD (ez.symm.trans h38) hb,HI q5])
   | (rw [cD (ez.symm.trans h38) hb,jQ q18,h146,h153,aA,aA])
   | (rw [cD (ez.symm.trans h38) hb,jQ q18,h146,h153];rfl)
   | (rw [cD (ez.symm.trans h38) hb,jQ q18,h146];rfl)
   | (rw [cD (ez.symm.trans h38) hb,HG q7 hlx q3 q5 q18])
 have q5:¬ op=5:=λe=>aN h131 (by rw [e];rfl);refine .sr<|.yw (.eql Z Z)<|.aq Z<|.cd Z (λh138=>?_) (λh138=>?_)
 ·have q18:op=18:=aQ.1 (by have:=aH h138;show op.toNat=18;omega);obtain ⟨e0,rfl⟩:∃ e0,ex=[e0]:=List.length_eq_one_iff.1 (by rw [hlx,q18];rfl);obtain ⟨bE,oE,cE,hpE,rE,lE,mE⟩:=hs1.elem (i:=0) (d:=dEx .u8 e0) rfl;cases hpE;obtain ⟨op0,nm0,m0,args0⟩:=e0;obtain ⟨p9,c9,rfl,hs9,hn9⟩:=iM rE;refine .sr<|.fA Z cK<|.lD Z dE cP Z<|.yw (.indexSl dO Z Z (i:=0) Z (Nat.succ_pos _) (q:=oE+0 * 4) Z)<|.fA Z gQ<|.yw (.loadM Z jR mE (k:=0) Z Z)<|.yw (.eql Z Z)<|.mv Z<|.b2 (λh146=>?_) (λh146=>?_)
  ·refine .gy (.fieldAddr Z cK)<|.gy (.load Z dE cP Z)<|.gy (.indexSl dO Z Z (i:=0) Z (Nat.succ_pos _) (q:=oE+0 * 4) Z)<|.gy (.loadMW Z dP mE lE)<|.gy (.call CL Z (λW s=>zJ H _ _ W rE s.agr))<|.yw (.pickT Z Z)<|.mv Z<|.b2 (λh153=>?_) (λh153=>?_)
   ·refine .gy (.fieldAddr Z cK)<|.gy (.load Z dE cP Z)<|.gy (.indexSl dO Z Z (i:=0) Z (Nat.succ_pos _) (q:=oE+0 * 4) Z)<|.gy (.fieldAddr Z gI)<|.gy (.loadM Z fG mE (k:=2) Z Z)<|.gy (.leq Z Z)<|.yw (.pickT Z Z)<|.az Z<|.bR<|.tR<|?_
    refine y9 Z Z λW s=>⟨?_,s.ext⟩
    first
     | (rw [nR (ez.symm.trans h38)])
     | (rw [eQ (by rw [vL h39,aP (aH (by rw [h66] at ew;exact ew.symm))])])
     | (rw [eQ (by rw [vN h39 h67,aP (aH (by rw [h92] at ea;exact ea.symm))])])
     | (rw [eQ (by rw [vM h39 h67,aP (aH (by rw [h93] at en;exact en.symm))])])
     | (rw [cD (ez.symm.trans h38) hb,uQ q7,h109,aA,qS])
     | (rw [cD (ez.symm.trans h38) hb,uQ q7,h109];rfl)
     | (rw [cD (ez.symm.trans h38) hb,HH q7 hlx])
     | (rw [cD (ez.symm.trans h38) hb,HJ q3])
     | (rw [cD (ez.symm.trans h38) hb,HI q5])
     | (rw [cD (ez.symm.trans h38) hb,jQ q18,h146,h153,aA,aA])
     | (rw [cD (ez.symm.trans h38) hb,jQ q18,h146,h153];rfl)
     | (rw [cD (ez.symm.trans h38) hb,jQ q18,h146];rfl)
     | (rw [cD (ez.symm.trans h38) hb,HG q7 hlx q3 q5 q18])
   refine .gG<|.gG<|.gG<|.gG<|.gG<|.gG<|.yw (.pickF Z Z)<|.az Z<|.bR<|.tR<|?_
   refine y9 Z Z λW s=>⟨?_,s.ext⟩
   first
    | (rw [nR (ez.symm.trans h38)])
    | (rw [eQ (by rw [vL h39,aP (aH (by rw [h66] at ew;exact ew.symm))])])
    | (rw [eQ (by rw [vN h39 h67,aP (aH (by rw [h92] at ea;exact ea.symm))])])
    | (rw [eQ (by rw [vM h39 h67,aP (aH (by rw [h93] at en;exact en.symm))])])
    | (rw [cD (ez.symm.trans h38) hb,uQ q7,h109,aA,qS])
    | (rw [cD (ez.symm.trans h38) hb,uQ q7,h109];rfl)
    | (rw [cD (ez.symm.trans h38) hb,HH q7 hlx])
    | (rw [cD (ez.symm.trans h38) hb,HJ q3])
    | (rw [cD (ez.symm.trans h38) hb,HI q5])
    | (rw [cD (ez.symm.trans h38) hb,jQ q18,h146,h153,aA,aA])
    | (rw [cD (ez.symm.trans h38) hb,jQ q18,h146,h153];rfl)
    | (rw [cD (ez.symm.trans h38) hb,jQ q18,h146];rfl)
    | (rw [cD (ez.symm.trans h38) hb,HG q7 hlx q3 q5 q18])
  refine .gG<|.gG<|.gG<|.gG<|.gG<|.yw (.pickF Z Z)<|.mv Z<|.gG<|.gG<|.gG<|.gG<|.gG<|.gG<|.yw (.pickF Z Z)<|.az Z<|.bR<|.tR<|?_
  refine y9 Z Z λW s=>⟨?_,s.ext⟩
  first
   | (rw [nR (ez.symm.trans h38)])
   | (rw [eQ (by rw [vL h39,aP (aH (by rw [h66] at ew;exact ew.symm))])])
   | (rw [eQ (by rw [vN h39 h67,aP (aH (by rw [h92] at ea;exact ea.symm))])])
   | (rw [eQ (by rw [vM h39 h67,aP (aH (by rw [h93] at en;exact en.symm))])])
   | (rw [cD (ez.symm.trans h38) hb,uQ q7,h109,aA,qS])
   | (rw [cD (ez.symm.trans h38) hb,uQ q7,h109];rfl)
   | (rw [cD (ez.symm.trans h38) hb,HH q7 hlx])
   | (rw [cD (ez.symm.trans h38) hb,HJ q3])
   | (rw [cD (ez.symm.trans h38) hb,HI q5])
   | (rw [cD (ez.symm.trans h38) hb,jQ q18,h146,h153,aA,aA])
   | (rw [cD (ez.symm.trans h38) hb,jQ q18,h146,h153];rfl)
   | (rw [cD (ez.symm.trans h38) hb,jQ q18,h146];rfl)
   | (rw [cD (ez.symm.trans h38) hb,HG q7 hlx q3 q5 q18])
 have q18:¬ op=18:=λe=>aN h138 (by rw [e];rfl);refine .sk<|.bN<|.tN<|.sr<|.az Z<|?_
 refine y9 Z Z λW s=>⟨?_,s.ext⟩
 first
  | (rw [nR (ez.symm.trans h38)])
  | (rw [eQ (by rw [vL h39,aP (aH (by rw [h66] at ew;exact ew.symm))])])
  | (rw [eQ (by rw [vN h39 h67,aP (aH (by rw [h92] at ea;exact ea.symm))])])
  | (rw [eQ (by rw [vM h39 h67,aP (aH (by rw [h93] at en;exact en.symm))])])
  | (rw [cD (ez.symm.trans h38) hb,uQ q7,h109,aA,qS])
  | (rw [cD (ez.symm.trans h38) hb,uQ q7,h109];rfl)
  | (rw [cD (ez.symm.trans h38) hb,HH q7 hlx])
  | (rw [cD (ez.symm.trans h38) hb,HJ q3])
  | (rw [cD (ez.symm.trans h38) hb,HI q5])
  | (rw [cD (ez.symm.trans h38) hb,jQ q18,h146,h153,aA,aA])
  | (rw [cD (ez.symm.trans h38) hb,jQ q18,h146,h153];rfl)
  | (rw [cD (ez.symm.trans h38) hb,jQ q18,h146];rfl)
  | (rw [cD (ez.symm.trans h38) hb,HG q7 hlx q3 q5 q18])
theorem lU (op:UInt8) (nm:Str) (n:Int64) (args:List Ex):Ex.count (.mk op nm n args)=Ex.counts args+1:=by rw [Ex.count]
theorem nS (op:UInt8) (nm fd:Str) (a b:Int64) (ex:List Ex) (args:List Fm):Fm.count (.mk op nm fd a b ex args)=Ex.counts ex+Fm.counts args+1:=by rw [Fm.count]
theorem oZ:∀ (l m:List Ex),Ex.counts (l++m)=Ex.counts l+Ex.counts m
 | [],m=>by rw [bW,Ex.counts,dL]
 | e::l,m=>by rw [aT,Ex.counts,Ex.counts,oZ l m,dN]
theorem fD:∀ (l m:List Fm),Fm.counts (l++m)=Fm.counts l+Fm.counts m
 | [],m=>by rw [bW,Fm.counts,dL]
 | e::l,m=>by rw [aT,Fm.counts,Fm.counts,fD l m,dN]
theorem bR6 (e:Ex):1<=e.count:=by obtain ⟨op,nm,n,args⟩:=e;rw [lU];omega
theorem bQ8 (f:Fm):1<=f.count:=by obtain ⟨op,nm,fd,a,b,ex,args⟩:=f;rw [nS];omega
theorem XT:∀ l:List Ex,l.length<=Ex.counts l
 | []=>aO _
 | e::l=>by rw [Ex.counts,aJ];have:=XT l;have:=bR6 e;omega
theorem bH2:∀ l:List Fm,l.length<=Fm.counts l
 | []=>aO _
 | e::l=>by rw [Fm.counts,aJ];have:=bH2 l;have:=bQ8 e;omega
theorem VD (e:Ex):e.depth<=e.count:=by
 induction e using Ex.ind with | _ op nm n args ih
 rw [tD,lU]
 have:Ex.deeps args<=Ex.counts args:=by
  clear n nm op;induction args with
  | nil=>rw [Ex.deeps];exact aO _
  | cons a r ih2 =>
   rw [Ex.deeps,Ex.counts];have h1:=ih a (aY ..);have h2:=ih2 λx hx=>ih x (bT _ hx);omega
 omega
theorem FY:∀ {l:List Ex} {e:Ex},e∈l->e.count<=Ex.counts l
 | a::r,e,h=>by
  rw [Ex.counts];rcases bM.1 h with rfl | h
  ·omega
  ·have:=FY h;omega
theorem FU:∀ {l:List Fm} {e:Fm},e∈l->e.count<=Fm.counts l
 | a::r,e,h=>by
  rw [Fm.counts];rcases bM.1 h with rfl | h
  ·omega
  ·have:=FU h;omega
theorem UW (q:Fm->Bool):∀ l,Fm.alls q l=l.all (Fm.all q)
 | []=>rfl
 | f::r=>by rw [Fm.alls,eE,UW q r]
theorem oN (q:Fm->Bool) (op:UInt8) (nm fd:Str) (a b:Int64) (ex:List Ex) (args:List Fm):Fm.all q (.mk op nm fd a b ex args)=(q (.mk op nm fd a b ex args) && args.all (Fm.all q)):=by rw [Fm.all,UW]
theorem IL (f:Fm):Fm.all (λ_=>true) f=true:=by
 induction f using Fm.ind with | _ op nm fd a b ex args ih
 rw [oN,aA];exact aW.2 ih
def bW7 (f:Fm):Bool:=f.ex.all λe=>decide (e.depth<=1000000)
theorem XN (f:Fm) (h:f.count<=1000000):Fm.all bW7 f=true:=by
 induction f using Fm.ind with | _ op nm fd a b ex args ih
 rw [nS] at h;rw [oN,aE];refine ⟨aW.2 λe he=>aR ?_,aW.2 λx hx=>ih x hx ?_⟩
 ·have h1:=FY (l:=ex) he;have h2:=VD e;omega
 ·have h1:=FU hx;omega
def blE (N:Nat) (e:Ex):Bool:=Ex.all (λe=>decide (e.args.length<=N)) e
def blF (N:Nat) (f:Fm):Bool:=Fm.all (λf=>decide (f.ex.length<=N) && decide (f.args.length<=N) && f.ex.all (blE N)) f
theorem mN (q:Ex->Bool):∀ l,Ex.alls q l=l.all (Ex.all q)
 | []=>rfl
 | e::r=>by rw [Ex.alls,eE,mN q r]
variable {N:Nat}
theorem BN {op:UInt8} {nm:Str} {n:Int64} {args:List Ex} :blE N (.mk op nm n args)=true↔args.length<=N/\∀ a∈args,blE N a=true:=by
 unfold blE;rw [nT,mN,aE,aD,aW];rfl
theorem vD {op:UInt8} {nm fd:Str} {b:Int64} {ex:List Ex} {args:List Fm} :blF N (.mk op nm fd a b ex args)=true↔(ex.length<=N/\args.length<=N/\∀ e∈ex,blE N e=true)/\∀ g∈args,blF N g=true:=by
 unfold blF;rw [oN,aE,aE,aE,aD,aD,aW,aW];exact ⟨λh=>⟨⟨h.1.1.1,h.1.1.2,h.1.2⟩,h.2⟩,λh=>⟨⟨⟨h.1.1,h.1.2.1⟩,h.1.2.2⟩,h.2⟩⟩
theorem rW:zG prg 33=some (35,7,104):=by kernel_rfl
set_option maxHeartbeats 2000000 in
theorem OD (H:Hp) (f:Fm) (most N:Nat) (hm:most<=9223372036854775807) (hb:blF N f=true) (hc:f.count<=9000000000000000000\/most<=1000000000000) (hN:N * (most+1)<=100000000000\/N * f.count<=100000000000) (hN1:N<=100000000000) (cs:List Value) (w:World) (h:Rep H (dFm .u8 f) cs) (hA:Agr H w):Calls prg 34 #[.agg cs.toArray,iN most] w λr w'=>r=.returned (iN (min f.count (most+1)))/\Ext w w':=by
 obtain ⟨op,nm,fd,a,b,ex,args⟩:=f;obtain ⟨p1,c1,p2,c2,rfl,hs1,hs2,hnm,hfd⟩:=iB h;refine Sx.enter (H:=H) func34 rfl ntmps34 rfl hA ?_;refine .sr<|.bx Z Z Z λb2=>.a Z Z<|.ns<|.a Z Z<|.ns<|.yw (.loadW Z bZ Hm Z)<|.blR (z:=7) Z (qH _ _ _ _ _ _ _) Z Z (by simp [maxLen]) λb13=>.aq Z<|.sq<|?_
 refine Sx.row0 76 4 ?_;refine .rg<|.aq Z<|.sq<|.bk<|.pm [1,0,2] [_,_,_] Z Z<|.lp (X:=Nat × List Fm × List Ex × Value × Value × List Value × List Value) [(1,_)] ⟨Z,Jt⟩ [] (λz=>[(5,iN z.1),(6,z.2.2.2.1),(7,z.2.2.2.2.1)]) (λz=>H) (λz=>[.row 35 7 z.2.2.2.1 z.2.1.length z.2.2.2.2.2.1,.row 76 4 z.2.2.2.2.1 z.2.2.1.length z.2.2.2.2.2.2,.box b2 [.int .u8 op.toNat,cH nm,cH fd,.int .i64 a.toInt,.int .i64 b.toInt,.slice p1 ex.length c1,.slice p2 args.length c2] 35]) (λz=>eD H 7 (z.2.1.map (dFm .u8)) z.2.2.2.2.2.1/\eD H 4 (z.2.2.1.map (dEx .u8)) z.2.2.2.2.2.2/\z.1+(Fm.counts z.2.1+Ex.counts z.2.2.1)=Fm.count (.mk op nm fd a b ex args)/\z.1<=most+1/\(∀ g∈z.2.1,blF N g=true)/\(∀ e∈z.2.2.1,blE N e=true)/\(z.2.1.length+z.2.2.1.length<=1+2 * (N * z.1))) (λz=>Fm.count (.mk op nm fd a b ex args) - z.1) (0,[Fm.mk op nm fd a b ex args],[],.slice (some ⟨b13,0,none⟩) 1 1,.slice none 0 0,[.int .u8 op.toNat,cH nm,cH fd,.int .i64 a.toInt,.int .i64 b.toInt,.slice p1 ex.length c1,.slice p2 args.length c2],[]) (λ_ s=>s) ⟨Z,Z,Z,Jt⟩ ⟨.single h Z,.nil,by rw [Fm.counts,Fm.counts,Ex.counts];omega,aO _,λg hg=>by rw [bQ.1 hg];exact hb,λe he=>(by cases he),by simp⟩ λz hC=>?_
 obtain ⟨n,fs,ts,rf,rt,xf,xt⟩:=z;obtain ⟨zf,zt,hcnt,hn,hbf,hbt,hlen⟩:=hC;dsimp only at zf zt hcnt hn hbf hbt hlen|-;have hNn:N * n<=N * (most+1):=lJ N hn;have hNc:N * n<=N * Fm.count (.mk op nm fd a b ex args):=lJ N (by omega)
 have hNm:N * n<=100000000000:=by
  rcases hN with h | h <;> omega
 refine At.ra (size:=7) (r:=rf) (e:=35) Hm λpf cf e=>?_;subst e;refine At.ra (size:=4) (r:=rt) (e:=76) cP λpt ct e=>?_;subst e;refine .sq<|.sm Z<|.mv Z<|.yw (.leq Z Z)<|.mv Z<|.b2 (λh17=>?_) (λh17=>?_)
 ·have hle:n<=most:=by have:=aH h17;omega
  refine .gy (.move Z)<|.gy (.lenSl eG Z)<|.gy (.move Z)<|.gy (.lenSl dO Z)<|.gy (.add Z Z (c:=((fs.length+ts.length:Nat):Int)) ((w6 (by omega)).trans (by omega)))<|.gy (.gtr Z Z)<|.yw (.pickT Z Z)<|.nt<|.cd Z (λh24=>?_) (λh24=>?_)
  ·have hpos:0<fs.length+ts.length:=by have:=aH h24;omega
   replace h24:=hpos;refine .sk<|.tN<|.bk<|.sm Z<|.yw (.add Z Z (c:=((n+1:Nat):Int)) ((w6 (by omega)).trans (by omega)))<|.aq Z<|.sq<|.sm Z<|.yw (.lenSl dO Z)<|.yw (.sub Z Z (c:=(ts.length:Int) - 1) (w6 (by omega)))<|.a Z Z<|.ns<|.mv Z<|.yw (.geq Z Z)<|.nt<|.ce Z (λh31=>?_) (λh31=>?_)
   ·obtain ⟨ts0,e0,rfl⟩:∃ ts0 e0,ts=ts0++[e0]:=by
     rcases List.eq_nil_or_concat ts with h | ⟨t,x,h⟩
     ·subst h;exact (by simp at h31)
     ·exact ⟨t,x,by rw [h,List.concat_eq_append]⟩
    have hl0:(ts0++[e0]).length=ts0.length+1:=by rw [aF];rfl
    refine Sx.rowCase (size:=4) (r:=.slice pt (ts0++[e0]).length ct) (e:=76) cP (by rw [hl0];exact Nat.succ_pos _) λg c e hgc=>?_;injection e with e3 _ e4
    subst e3 e4;obtain ⟨cs0,r0,hc0,hx0⟩:=eD.at zt (i:=ts0.length) (d:=dEx .u8 e0) (by rw [bV,List.getElem?_append_right (by rw [bJ];exact aX _),bJ,iW];rfl);obtain ⟨op0,nm0,m0,args0⟩:=e0;obtain ⟨p0,c0,rfl,hs0,_⟩:=iM r0;have hb0:=(BN.1 (hbt _ (cC.2 (.inr (bQ.2 rfl)))))
    have hz0:eD H 4 (ts0.map (dEx .u8)) (xt.take (ts0.length * 4)):=by
     have h:=eD.take ts0.length zt;rw [bV,List.take_left' (by rw [bJ])] at h;exact h
    rw [oZ,Ex.counts,Ex.counts,lU] at hcnt;rw [hl0] at hlen;have hNs:N * (n+1)=N * n+N:=Nat.mul_succ N n;refine .sm Z<|.mv Z<|.yw (.indexSl dO Z Z (i:=ts0.length) (by rw [hl0];omega) (by rw [hl0];omega) (q:=ts0.length * 4) (by omega))<|.yw (.loadR (vs:=[.int .u8 op0.toNat,cH nm0,.int .i64 m0.toInt,.slice p0 args0.length c0]) Z dP cP Z hx0)<|.al jT Z λb9=>.sX .head Z Z gC Z<|?_
    refine Sx.At.rcut (size:=4) (m:=ts0.length) (ys:=xt.take (ts0.length * 4)) mD (by rw [hl0];exact Nat.le_succ _) rfl ?_;exact .nt<|.sq<|.fL 6 [(0,0),(1,0),(2,0),(3,0),(4,0),(5,3)]<|.mv Z<|.mv Z<|.yw (.cutHi dO Z Z (h:=ts0.length) (by rw [hl0];omega) (by rw [hl0] at hgc;omega) (λq e=>by cases e;rfl))<|.fA Z eA<|.lD Z dE Hm Z<|.apD uS Z (λ_ _=>mD) Z hs0 (by simp only [maxLen];omega) (by omega) Z (λ_ _=>(.d3<|.d2<|.nl)) λnews pN cN hzn=>.fn (tl:=[_]) Z<|.aq Z<|.ex<|.tE<|.bE<|.tN<|.ag (x:=(n,fs,ts0++[Ex.mk op0 nm0 m0 args0],Value.slice pf fs.length cf,Value.slice (some ⟨g,0,none⟩) (ts0++[Ex.mk op0 nm0 m0 args0]).length ct,xf,xt)) (n+1,fs,ts0++args0,Value.slice pf fs.length cf,Value.slice pN (ts0.length+args0.length) cN,xf,xt.take (ts0.length * 4)++news) ⟨Z,Z,Z,Jt⟩ ⟨Z,Jt⟩ (λ_ s=>by dsimp only;rw [aF];exact (s.pick [1,2,3] _ Z Z)) ⟨zf,by rw [bV];exact hz0.app hzn,by dsimp only;rw [oZ];omega,by dsimp only;omega,hbf,λe he=>by rcases cC.1 he with h | h;exact hbt e (cC.2 (.inl h));exact hb0.2 e h,by dsimp only;rw [aF,hNs];omega⟩ (by dsimp only;omega)
   have hts:ts=[]:=by
    cases ts with
    | nil=>rfl
    | cons t r=>simp at h31 <;> omega
   subst hts;obtain rfl:xt=[]:=zt
   obtain ⟨fs0,f0,rfl⟩:∃ fs0 f0,fs=fs0++[f0]:=by
    rcases List.eq_nil_or_concat fs with h | ⟨t,x,h⟩
    ·subst h;simp at h24
    ·exact ⟨t,x,by rw [h,List.concat_eq_append]⟩
   have hl0:(fs0++[f0]).length=fs0.length+1:=by rw [aF];rfl
   refine Sx.rowCase (size:=7) (r:=.slice pf (fs0++[f0]).length cf) (e:=35) Hm (by rw [hl0];exact Nat.succ_pos _) λg c e hgc=>?_;injection e with e3 _ e4
   subst e3 e4;obtain ⟨cs0,r0,hc0,hx0⟩:=eD.at zf (i:=fs0.length) (d:=dFm .u8 f0) (by rw [bV,List.getElem?_append_right (by rw [bJ];exact aX _),bJ,iW];rfl);obtain ⟨op0,nm0,fd0,a0,b0,ex0,args0⟩:=f0;obtain ⟨q1,d1,q2,d2,rfl,hs0,hs3,_,_⟩:=iB r0;have hb0:=(vD.1 (hbf _ (cC.2 (.inr (bQ.2 rfl)))))
   have hz0:eD H 7 (fs0.map (dFm .u8)) (xf.take (fs0.length * 7)):=by
    have h:=eD.take fs0.length zf;rw [bV,List.take_left' (by rw [bJ])] at h;exact h
   rw [fD,Fm.counts,Fm.counts,nS] at hcnt;rw [hl0] at hlen;have hNs:N * (n+1)=N * n+N:=Nat.mul_succ N n;refine .sk<|.tN<|.sm Z<|.yw (.lenSl eG Z)<|.yw (.sub Z Z (c:=((fs0.length:Nat):Int)) (by rw [hl0];exact (w6 (by omega)).trans (by omega)))<|.a Z Z<|.ns<|.mv Z<|.mv Z<|.yw (.indexSl eG Z Z (i:=fs0.length) Z (by rw [hl0];omega) (q:=fs0.length * 7) (by omega))<|.yw (.loadR (vs:=cFm .u8 op0 nm0 fd0 a0 b0 (.slice q1 ex0.length d1) (.slice q2 args0.length d2)) Z bZ Hm Z hx0)<|.al dX Z λb11=>.sX .head Z Z cV Z<|?_
   refine Sx.At.rcut (size:=7) (m:=fs0.length) (ys:=xf.take (fs0.length * 7)) kP (by rw [hl0];exact Nat.le_succ _) rfl ?_;refine .nt<|.sq<|.fL 6 [(0,0),(1,0),(2,0),(3,0),(4,0),(5,3)]<|.mv Z<|.mv Z<|.yw (.cutHi eG Z Z (h:=fs0.length) Z (by rw [hl0] at hgc;omega) (λq e=>by cases e;rfl))<|.fA Z cU<|.lD Z eU Hm Z<|.apD rW Z (λ_ _=>kP) Z hs3 (by simp only [maxLen];omega) (by omega) Z (λ_ _=>(.d3<|.d2<|.nl)) λnews pN cN hzn=>.fn (tl:=[_]) Z<|.aq Z<|.rg<|.mv Z<|.fA Z cK<|.lD Z dE Hm Z<|.apD uS Z (λ_ _=>mD) Z hs0 (by simp only [maxLen];omega) (by simp only [aM];omega) Z λnews2 r2 hzn2=>?_
   rw [show ([]:List Ex).length+ex0.length=ex0.length from dL _];exact .a Z Z<|.nl<|.bN<|.tN<|.ag (x:=(n,fs0++[Fm.mk op0 nm0 fd0 a0 b0 ex0 args0],([]:List Ex),Value.slice (some ⟨g,0,none⟩) (fs0++[Fm.mk op0 nm0 fd0 a0 b0 ex0 args0]).length cf,Value.slice pt 0 ct,xf,([]:List Value))) (n+1,fs0++args0,ex0,Value.slice pN (fs0.length+args0.length) cN,r2,xf.take (fs0.length * 7)++news,news2) ⟨Z,Z,Z,Jt⟩ ⟨Z,Jt⟩ (λ_ s=>by dsimp only;rw [aF];exact (s.pick [1,2,3] _ Z Z)) ⟨by rw [bV];exact hz0.app hzn,hzn2,by dsimp only;rw [fD];rw [Ex.counts] at hcnt;omega,by dsimp only;omega,λe he=>by rcases cC.1 he with h | h;exact hbf e (cC.2 (.inl h));exact hb0.2 e h,λe he=>hb0.1.2.2 e he,by dsimp only;rw [aF,hNs];simp only [aM] at hlen;omega⟩ (by dsimp only;omega)
  have hz24:¬ 0<fs.length+ts.length:=λe=>aN h24 (by omega);refine .ex<|.eb<|.sm Z<|.az Z<|?_
  refine y9 Z Z λW s=>⟨?_,s.ext⟩
  first
   | (rw [show n=min (Fm.count (.mk op nm fd a b ex args)) (most+1) by omega])
   | (rw [show n=min (Fm.count (.mk op nm fd a b ex args)) (most+1) from by (have h1:fs=[]:=bI (by omega));(have h2:ts=[]:=bI (by omega));subst h1;subst h2;rw [Fm.counts,Ex.counts] at hcnt;omega])
 have hgt:¬ n<=most:=λe=>aN h17 (by omega);refine .gG<|.gG<|.gG<|.gG<|.gG<|.gG<|.yw (.pickF Z Z)<|.nt<|.cF Z<|.ex<|.eb<|.sm Z<|.az Z<|?_
 refine y9 Z Z λW s=>⟨?_,s.ext⟩
 first
  | (rw [show n=min (Fm.count (.mk op nm fd a b ex args)) (most+1) by omega])
  | (rw [show n=min (Fm.count (.mk op nm fd a b ex args)) (most+1) from by (have h1:fs=[]:=bI (by omega));(have h2:ts=[]:=bI (by omega));subst h1;subst h2;rw [Fm.counts,Ex.counts] at hcnt;omega])
theorem OW:dI prg 34=true:=by kernel_rfl
theorem aK4:dI prg 36=true:=by kernel_rfl
theorem aK3:dI prg 37=true:=by kernel_rfl
theorem aK2:dI prg 38=true:=by kernel_rfl
variable {f:Fm}
theorem aV8 (h:60<f.count):fN f=3:=by unfold fN;rw [aL (.inl h)]
theorem aV7 (h:Fm.all uM f=false):fN f=3:=by unfold fN;rw [aL (.inr h)]
theorem bR5 (h:¬ 60<f.count) (h2:Fm.all uM f=true):¬ (60<f.count\/Fm.all uM f=false):=λe=>by
 rcases e with e | e
 ·exact h e
 ·rw [h2] at e;cases e
theorem aV6 (h:¬ 60<f.count) (h2:Fm.all uM f=true) (h3:Fm.all tM f=false):fN f=9:=by unfold fN;rw [aG (bR5 h h2),aL h3]
theorem aV5 (h:¬ 60<f.count) (h2:Fm.all uM f=true) (h3:Fm.all tM f=true) (h4:Fm.all jX f=false):fN f=6:=by unfold fN;rw [aG (bR5 h h2),aG (by rw [h3];decide),aL h4]
theorem aV4 (h:¬ 60<f.count) (h2:Fm.all uM f=true) (h3:Fm.all tM f=true) (h4:Fm.all jX f=true):fN f=0:=by unfold fN;rw [aG (bR5 h h2),aG (by rw [h3];decide),aG (by rw [h4];decide)]
theorem wS (H:Hp) (G:Gl H) (Gt:Gf H) (f:Fm) (hb:blF 600000 f=true) (cs:List Value) (w:World) (h:Rep H (dFm .u8 f) cs) (hA:Agr H w):Calls prg 15 #[.agg cs.toArray] w λr w'=>r=.returned (iN (fN f))/\Ext w w':=by
 obtain ⟨op,nm,fd,a,b,ex,args⟩:=f;obtain ⟨p1,c1,p2,c2,rfl,hs1,hs2,hnm,hfd⟩:=iB h;refine Sx.enter (H:=H) func15 rfl ntmps15 rfl hA ?_;refine .sr<|.bx Z Z Z λb1=>.aq Z<|.sq<|.bk<|.sq<|.sr<|.yw (.loadW Z bZ Hm Z)<|.yw (.call OW Z (λW s=>OD H (.mk op nm fd a b ex args) 60 600000 (by decide) hb (.inr (by decide)) (.inl (by decide)) (by decide) _ W h s.agr))<|.yw (.gtr Z Z)<|.aq Z<|.cr Z (λh3=>?_) (λh3=>?_)
 ·have hc:60<Fm.count (.mk op nm fd a b ex args):=by have:=aH h3;omega
  refine .sk<|.tN<|.cT Z<|.sr<|.az Z<|.bR<|.tR<|?_
  refine y9 Z Z λW s=>⟨?_,s.ext⟩
  first
   | (rw [aV8 hc];rfl)
   | (rw [aV7 hs];rfl)
   | (rw [aV6 hc hs hn];rfl)
   | (rw [aV5 hc hs hn hf];rfl)
   | (rw [aV4 hc hs hn hf];rfl)
 have hc:¬ 60<Fm.count (.mk op nm fd a b ex args):=λe=>aN h3 (by omega);refine .rg<|.yw (.loadW Z bZ Hm Z)<|.yw (.call CN Z (λW s=>HL H 36 uM bW7 aK4 (λf hp=>SZ H f hp) _ (XN _ (by omega)) _ W h s.agr))<|.yw (.not Z)<|.aq Z<|.cr Z (λh3=>?_) (λh3=>?_)
 ·have hs:Fm.all uM (.mk op nm fd a b ex args)=false:=by simpa using h3
  refine .sr<|.az Z<|.bR<|.tR<|?_
  refine y9 Z Z λW s=>⟨?_,s.ext⟩
  first
   | (rw [aV8 hc];rfl)
   | (rw [aV7 hs];rfl)
   | (rw [aV6 hc hs hn];rfl)
   | (rw [aV5 hc hs hn hf];rfl)
   | (rw [aV4 hc hs hn hf];rfl)
 have hs:Fm.all uM (.mk op nm fd a b ex args)=true:=by simpa using h3
 refine .sr<|.yw (.loadW Z bZ Hm Z)<|.yw (.call CN Z (λW s=>HL H 37 tM (λ_=>true) aK3 (λf _=>aF3 H G Gt f) _ (IL _) _ W h s.agr))<|.yw (.not Z)<|.aq Z<|.cd Z (λh10=>?_) (λh10=>?_)
 ·have hn:Fm.all tM (.mk op nm fd a b ex args)=false:=by simpa using h10
  refine .sr<|.az Z<|.bR<|.tR<|?_
  refine y9 Z Z λW s=>⟨?_,s.ext⟩
  first
   | (rw [aV8 hc];rfl)
   | (rw [aV7 hs];rfl)
   | (rw [aV6 hc hs hn];rfl)
   | (rw [aV5 hc hs hn hf];rfl)
   | (rw [aV4 hc hs hn hf];rfl)
 have hn:Fm.all tM (.mk op nm fd a b ex args)=true:=by simpa using h10
 refine .sr<|.yw (.loadW Z bZ Hm Z)<|.yw (.call CN Z (λW s=>HL H 38 jX (λ_=>true) aK2 (λf _=>XL H Gt f) _ (IL _) _ W h s.agr))<|.yw (.not Z)<|.aq Z<|.cd Z (λh14=>?_) (λh14=>?_)
 ·have hf:Fm.all jX (.mk op nm fd a b ex args)=false:=by simpa using h14
  refine .sr<|.az Z<|.bR<|.tR<|?_
  refine y9 Z Z λW s=>⟨?_,s.ext⟩
  first
   | (rw [aV8 hc];rfl)
   | (rw [aV7 hs];rfl)
   | (rw [aV6 hc hs hn];rfl)
   | (rw [aV5 hc hs hn hf];rfl)
   | (rw [aV4 hc hs hn hf];rfl)
 have hf:Fm.all jX (.mk op nm fd a b ex args)=true:=by simpa using h14
 refine .sk<|.bN<|.tN<|.sr<|.az Z<|?_
 refine y9 Z Z λW s=>⟨?_,s.ext⟩
 first
  | (rw [aV8 hc];rfl)
  | (rw [aV7 hs];rfl)
  | (rw [aV6 hc hs hn];rfl)
  | (rw [aV5 hc hs hn hf];rfl)
  | (rw [aV4 hc hs hn hf];rfl)
noncomputable def eqP (p:Prop):Bool:=@decide p (Classical.propDecidable p)
theorem aS {p:Prop} :eqP p=true↔p:=by unfold eqP;exact @decide_eq_true_iff p (Classical.propDecidable p)
theorem CC {p:Prop} :eqP p=false↔¬ p:=⟨λh k=>(by rw [aS.2 k] at h;cases h),λh=>(by cases e:eqP p with | false=>rfl | true=>exact absurd (aS.1 e) h)⟩
def bY5 (gf:FuncId) {α:Type} (d:α->D) (H:Hp) (a b:α):Prop:=∀ (ca cb:List Value) (w:World),Rep H (d a) ca->Rep H (d b) cb->Agr H w->Calls prg gf #[.agg ca.toArray,.agg cb.toArray] w λr w'=>r=.returned (.bool (eqP (a=b)))/\Ext w w'
theorem PP {α:Type} {l m:List α} (h:k<l.length) (h2:k<m.length) (ht:l.take k=m.take k) (he:l[k]=m[k]):l.take (k+1)=m.take (k+1):=by rw [tT h,tT h2,ht,he]
theorem FZ (H:Hp) (gf:FuncId) (hgf:dI prg gf=true) (l m:List Ex) (hq:∀ a∈l,∀ b,bY5 gf (dEx .u8) H a b) (v u:Value) (hs:Rep H (.seq 4 (l.map (dEx .u8))) [v]) (ht:Rep H (.seq 4 (m.map (dEx .u8))) [u]) (w:World) (hA:Agr H w) :
 Calls prg 51 #[v,u,.func (.func gf) #[] #[]] w λr w'=>r=.returned (.bool (eqP (l=m)))/\Ext w w':=by
 obtain ⟨p,c,e,_⟩:=hs.sl;simp only [fT,oH,bJ] at e;subst e;obtain ⟨p2,c2,e,_⟩:=ht.sl;simp only [fT,oH,bJ] at e;subst e;have hcap:=hs.cap;have hcap2:=ht.cap;refine Sx.enter (H:=H) func51 rfl ntmps51 rfl hA ?_;refine .sr<|.aq Z<|.sq<|.sm Z<|.yw (.lenSl dO Z)<|.mv Z<|.yw (.lenSl dO Z)<|.yw (.neq Z Z)<|.nt<|.ce Z (λh14=>?_) (λh14=>?_)
 ·have hne:¬ l=m:=λe=>by rw [e] at h14;exact h14 rfl
  refine .sr<|.az Z<|.tR<|?_
  refine y9 Z Z λW s=>⟨kF ?_,s.ext⟩
  first
   | (rw [aS];exact ⟨λh=>(by cases h),λh=>absurd h hne⟩)
   | (rw [aS];exact ⟨λ_=>heq,λ_=>rfl⟩)
 have hlen:l.length=m.length:=by omega
 refine .sk<|.tN<|.sq<|.sm Z<|.yw (.lenSl dO Z)<|.mv Z<|.nt<|.bk<|.lp (X:=Nat) [(1,_),(2,_),(15,_),(16,_)] ⟨Z,Z,Z,Z,Jt⟩ [] (λk=>[(17,iN k)]) (λk=>H) (λk=>[]) (λk=>k<=l.length/\l.take k=m.take k) (λk=>l.length - k) 0 (λ_ s=>s) ⟨Z,Jt⟩ ⟨by omega,Z⟩ λk hC=>?_
 obtain ⟨hk0,hal⟩:=hC;refine .sr<|.yw (.lss Z Z)<|.nt<|.sq<|.ce Z (λh18=>?_) (λh18=>?_)
 ·have hk:k<l.length:=by omega
  have hkm:k<m.length:=by omega
  obtain ⟨bE,oE,cE,hpE,rE,lE,mE⟩:=hs.elem (kN hk);cases hpE;obtain ⟨bF,oF,cF,hpF,rF,lF,mF⟩:=ht.elem (kN hkm);cases hpF;refine .sk<|.tN<|.sq<|.bk<|.sm Z<|.yw (.indexSl dO Z Z Z (by omega) (q:=oE+k * 4) Z)<|.yw (.loadMW Z dP mE lE)<|.al jT Z λb8=>.a Z Z<|.sV .head Z Z gC lE rE.one Z<|.ns<|.mv Z<|.mv Z<|.yw (.indexSl dO Z Z Z (by omega) (q:=oF+k * 4) Z)<|.yw (.loadMW Z dP mF lF)<|.al jT Z λb9=>.sV .head Z Z gC lF rF.one Z<|.ns<|.mv Z<|.yw (.loadW Z dP cP lE)<|.yw (.loadW Z dP Hm lF)<|.yw (.callV (fi:=[]) (ca:=[]) Z hgf Z (λW s=>hq _ (bU hk) _ cE cF W rE rF s.agr))<|.yw (.not Z)<|.nt<|.cd Z (λh30=>?_) (λh30=>?_)
  ·try simp only [dt] at h30
   have hne:¬ l=m:=λe=>by subst e;rw [aS.2 rfl] at h30;cases h30
   refine .sr<|.az Z<|.bR<|.tR<|.tR<|.bR<|.tR<|?_
   refine y9 Z Z λW s=>⟨kF ?_,s.ext⟩
   first
    | (rw [aS];exact ⟨λh=>(by cases h),λh=>absurd h hne⟩)
    | (rw [aS];exact ⟨λ_=>heq,λ_=>rfl⟩)
  try simp only [df] at h30
  have heq:l[k]=m[k]:=aS.1 (by simpa using h30);exact .sk<|.bN<|.tN<|.rg<|.yw (.add Z Z w7)<|.mv Z<|.nt<|.ag (k+1) ⟨Z,Jt⟩ ⟨Z,Z,Z,Z,Jt⟩ (λ_ s=>s.pick [] [] Z Z) ⟨by omega,PP hk hkm hal heq⟩ (by omega)
 have heq:l=m:=by
  have e:k=l.length:=by omega
  have e2:k=m.length:=by omega
  have h1:=hal;rw [e,dD,hlen,dD] at h1;exact h1
 refine .ex<|.eb<|.sr<|.az Z<|?_
 refine y9 Z Z λW s=>⟨kF ?_,s.ext⟩
 first
  | (rw [aS];exact ⟨λh=>(by cases h),λh=>absurd h hne⟩)
  | (rw [aS];exact ⟨λ_=>heq,λ_=>rfl⟩)
theorem uE (H:Hp) (a:Ex):∀ b,bY5 52 (dEx .u8) H a b:=by
 induction a using Ex.ind with | _ op nm n args ih
 intro b ca cb w ha hb hA;obtain ⟨op2,nm2,n2,oD⟩:=b;obtain ⟨p,c,rfl,hs,hnm⟩:=iM ha;obtain ⟨p2,c2,rfl,hs2,hnm2⟩:=iM hb;refine Sx.enter (H:=H) func52 rfl ntmps52 rfl hA ?_;refine .sr<|.bx Z Z Z λb2=>.bx Z Z Z λb3=>.a Z Z<|.ns<|.fA Z gQ<|.lD Z jR cP Z<|.fA Z gQ<|.lD Z jR Hm Z<|.yw (.eql Z Z)<|.mv Z<|.e2 (λh10=>?_) (λh10=>?_)
 ·have e1:op=op2:=aQ.1 (by omega);refine .gy (.fieldAddr Z fV)<|.gy (.load Z cZ cP Z)<|.gy (.fieldAddr Z fV)<|.gy (.load Z cZ Hm Z)<|.gy (.eqS Z Z)<|.yw (.pickT Z Z)<|.mv Z<|.e2 (λh17=>?_) (λh17=>?_)
  ·have e2:nm=nm2:=h17;refine .gy (.fieldAddr Z gI)<|.gy (.load Z fG cP Z)<|.gy (.fieldAddr Z gI)<|.gy (.load Z fG Hm Z)<|.gy (.eql Z Z)<|.yw (.pickT Z Z)<|.mv Z<|.e2 (λh24=>?_) (λh24=>?_)
   ·have e3:n=n2:=dQ.1 h24;refine .gy (.fieldAddr Z eA)<|.gy (.load Z dE cP Z)<|.gy (.fieldAddr Z eA)<|.gy (.load Z dE Hm Z)<|.gy (.call yR Z (λW s=>FZ H 52 yQ args oD ih _ _ hs hs2 W s.agr))<|.yw (.pickT Z Z)<|.az Z<|?_
    refine y9 Z Z λW s=>⟨kF ?_,s.ext⟩
    first
     | (rw [aS,aS,Ex.mk.injEq];exact ⟨λd=>⟨e1,e2,e3,d⟩,λh=>h.2.2.2⟩)
     | (rw [aS,Ex.mk.injEq];exact ⟨λh=>(by cases h),λh=>absurd h.1 e1⟩)
     | (rw [aS,Ex.mk.injEq];exact ⟨λh=>(by cases h),λh=>absurd h.2.1 e2⟩)
     | (rw [aS,Ex.mk.injEq];exact ⟨λh=>(by cases h),λh=>absurd h.2.2.1 e3⟩)
   have e3:¬ n=n2:=λe=>h24 (by rw [e]);refine .gG<|.gG<|.gG<|.gG<|.gG<|.yw (.pickF Z Z)<|.az Z<|?_
   refine y9 Z Z λW s=>⟨kF ?_,s.ext⟩
   first
    | (rw [aS,aS,Ex.mk.injEq];exact ⟨λd=>⟨e1,e2,e3,d⟩,λh=>h.2.2.2⟩)
    | (rw [aS,Ex.mk.injEq];exact ⟨λh=>(by cases h),λh=>absurd h.1 e1⟩)
    | (rw [aS,Ex.mk.injEq];exact ⟨λh=>(by cases h),λh=>absurd h.2.1 e2⟩)
    | (rw [aS,Ex.mk.injEq];exact ⟨λh=>(by cases h),λh=>absurd h.2.2.1 e3⟩)
  have e2:¬ nm=nm2:=h17;refine .gG<|.gG<|.gG<|.gG<|.gG<|.yw (.pickF Z Z)<|.mv Z<|.gG<|.gG<|.gG<|.gG<|.gG<|.yw (.pickF Z Z)<|.az Z<|?_
  refine y9 Z Z λW s=>⟨kF ?_,s.ext⟩
  first
   | (rw [aS,aS,Ex.mk.injEq];exact ⟨λd=>⟨e1,e2,e3,d⟩,λh=>h.2.2.2⟩)
   | (rw [aS,Ex.mk.injEq];exact ⟨λh=>(by cases h),λh=>absurd h.1 e1⟩)
   | (rw [aS,Ex.mk.injEq];exact ⟨λh=>(by cases h),λh=>absurd h.2.1 e2⟩)
   | (rw [aS,Ex.mk.injEq];exact ⟨λh=>(by cases h),λh=>absurd h.2.2.1 e3⟩)
 have e1:¬ op=op2:=λe=>h10 (by rw [e]);refine .gG<|.gG<|.gG<|.gG<|.gG<|.yw (.pickF Z Z)<|.mv Z<|.gG<|.gG<|.gG<|.gG<|.gG<|.yw (.pickF Z Z)<|.mv Z<|.gG<|.gG<|.gG<|.gG<|.gG<|.yw (.pickF Z Z)<|.az Z<|?_
 refine y9 Z Z λW s=>⟨kF ?_,s.ext⟩
 first
  | (rw [aS,aS,Ex.mk.injEq];exact ⟨λd=>⟨e1,e2,e3,d⟩,λh=>h.2.2.2⟩)
  | (rw [aS,Ex.mk.injEq];exact ⟨λh=>(by cases h),λh=>absurd h.1 e1⟩)
  | (rw [aS,Ex.mk.injEq];exact ⟨λh=>(by cases h),λh=>absurd h.2.1 e2⟩)
  | (rw [aS,Ex.mk.injEq];exact ⟨λh=>(by cases h),λh=>absurd h.2.2.1 e3⟩)
theorem OP:dI prg 96=true:=by kernel_rfl
theorem YK:dI prg 147=true:=by kernel_rfl
theorem YJ:dI prg 149=true:=by kernel_rfl
theorem IW (x0:Int) (x1:ByteArray) (x2:Int):iJ prg 108 [(0,.int .u8 x0),(1,.string x1),(2,.int .i64 x2)]=some [.int .u8 x0,.string x1,.int .i64 x2]:=by kernel_rfl
theorem hZ:kR prg 94=some none:=by kernel_rfl
theorem yS:dI prg 15=true:=by kernel_rfl
theorem aK0:dI prg 54=true:=by kernel_rfl
theorem aJ9:dI prg 55=true:=by kernel_rfl
theorem aJ8:dI prg 56=true:=by kernel_rfl
theorem aI9:dI prg 95=true:=by kernel_rfl
theorem VM:zG prg 99=some (108,3,32):=by kernel_rfl
theorem aI4:hP prg 94=some 1:=by kernel_rfl
theorem OM:hP prg 99=some 1:=by kernel_rfl
theorem aI2:pT prg 94=some [Go.Value.pointer none]:=by kernel_rfl
theorem VU (x2p:Option Addr) (x2n x2c:Nat):iJ prg 102 [(2,.slice x2p x2n x2c)]=some [.slice none 0 0,.int .i64 0,.slice x2p x2n x2c,.slice none 0 0,.bool false,.bool false,.bool false,.int .i64 0,.int .i64 0]:=by kernel_rfl
theorem VT (x2:Int):iJ prg 108 [(2,.int .i64 x2)]=some [.int .u8 0,.string ⟨#[]⟩,.int .i64 x2]:=by kernel_rfl
theorem yT  : iJ prg 35 []=some [.int .u8 0,.string ⟨#[]⟩,.string ⟨#[]⟩,.int .i64 0,.int .i64 0,.slice none 0 0,.slice none 0 0]:=by kernel_rfl
theorem MF (x00 x01 x02:Value):yA prg 99 1 [(0,.agg [x00,x01,x02].toArray)]=some (108,[x00,x01,x02]):=by kernel_rfl
theorem sN:dI prg 89=true:=by kernel_rfl
theorem YM:dI prg 138=true:=by kernel_rfl
theorem EG:dI prg 139=true:=by kernel_rfl
theorem LY:dI prg 140=true:=by kernel_rfl
theorem CM:dI prg 48=true:=by kernel_rfl
theorem AD:dI prg 144=true:=by kernel_rfl
theorem aL0:MU prg 163=some (19,1):=by kernel_rfl
theorem aJ1:dI prg 90=true:=by kernel_rfl
theorem OS:dI prg 91=true:=by kernel_rfl
theorem CK:dI prg 92=true:=by kernel_rfl
theorem OQ:dI prg 93=true:=by kernel_rfl
theorem HT:dI prg 19=true:=by kernel_rfl
theorem CO:dI prg 26=true:=by kernel_rfl
theorem MA:dI prg 129=true:=by kernel_rfl
theorem qJ:kR prg 27=some (some 7):=by kernel_rfl
theorem PB:kR prg 149=some none:=by kernel_rfl
theorem aJ2:dI prg 82=true:=by kernel_rfl
theorem LZ:dI prg 130=true:=by kernel_rfl
theorem qT:dY prg 27 0=some 0:=by kernel_rfl
theorem AB:dY prg 27 1=some 1:=by kernel_rfl
theorem AA:dY prg 27 2=some 2:=by kernel_rfl
theorem zZ:dY prg 27 3=some 3:=by kernel_rfl
theorem zY:dY prg 27 4=some 4:=by kernel_rfl
theorem mV:dY prg 27 5=some 5:=by kernel_rfl
theorem ND:dY prg 151 0=some 0:=by kernel_rfl
theorem DJ:dY prg 151 1=some 1:=by kernel_rfl
theorem yC:dY prg 151 2=some 2:=by kernel_rfl
theorem pG:dY prg 151 3=some 3:=by kernel_rfl
theorem DI:dY prg 151 4=some 4:=by kernel_rfl
theorem DH:dY prg 151 5=some 5:=by kernel_rfl
theorem yB:dY prg 151 6=some 6:=by kernel_rfl
theorem DG:dY prg 151 7=some 7:=by kernel_rfl
theorem pD:hP prg 27=some 7:=by kernel_rfl
theorem sL:pT prg 27=some
 [Go.Value.int Go.IntKind.i64 (Int.ofNat 0),Go.Value.string { data:={ toList:=[] } },
  Go.Value.string { data:={ toList:=[] } },Go.Value.int Go.IntKind.i64 (Int.ofNat 0),
  Go.Value.int Go.IntKind.i64 (Int.ofNat 0),Go.Value.slice none 0 0,Go.Value.slice none 0 0]:=by kernel_rfl
theorem EL (x0:Int):iJ prg 27 [(0,.int .i64 x0)]=some [.int .i64 x0,.string ⟨#[]⟩,.string ⟨#[]⟩,.int .i64 0,.int .i64 0,.slice none 0 0,.slice none 0 0]:=by kernel_rfl
theorem bA5  : iJ prg 83 []=some [.int .i64 0,.string ⟨#[]⟩,.int .i64 0,.slice none 0 0]:=by kernel_rfl
theorem VV:kR prg 25=some none:=by kernel_rfl
theorem PA:kR prg 151=some (some 8):=by kernel_rfl
theorem OX:dI prg 33=true:=by kernel_rfl
theorem aJ7:dI prg 69=true:=by kernel_rfl
theorem aJ6:dI prg 70=true:=by kernel_rfl
theorem zX:dY prg 27 6=some 6:=by kernel_rfl
theorem bA4:zG prg 25=some (27,7,104):=by kernel_rfl
theorem aI6:hP prg 25=some 1:=by kernel_rfl
theorem YD:hP prg 151=some 8:=by kernel_rfl
theorem GI:slN prg 22=some 8:=by kernel_rfl
theorem YB:pT prg 151=some
 [Go.Value.int Go.IntKind.u8 (Int.ofNat 0),Go.Value.int Go.IntKind.u8 (Int.ofNat 0),
  Go.Value.int Go.IntKind.u8 (Int.ofNat 0),Go.Value.int Go.IntKind.u8 (Int.ofNat 0),Go.Value.bool false,
  Go.Value.int Go.IntKind.i64 (Int.ofNat 0),Go.Value.int Go.IntKind.i64 (Int.ofNat 0),
  Go.Value.slice none 0 0]:=by kernel_rfl
theorem YS (x00 x01 x02 x03 x04 x05 x06:Value):yA prg 25 1 [(0,.agg [x00,x01,x02,x03,x04,x05,x06].toArray)]=some (27,[x00,x01,x02,x03,x04,x05,x06]):=by kernel_rfl
theorem HU:dI prg 16=true:=by kernel_rfl
theorem aC2:slN prg 25=some 7:=by kernel_rfl
theorem EK (x0:Int) (x1 x2:ByteArray) (x3 x4:Int):iJ prg 35 [(0,.int .u8 x0),(1,.string x1),(2,.string x2),(3,.int .i64 x3),(4,.int .i64 x4)]=some [.int .u8 x0,.string x1,.string x2,.int .i64 x3,.int .i64 x4,.slice none 0 0,.slice none 0 0]:=by kernel_rfl
theorem aK5:dI prg 13=true:=by kernel_rfl
theorem OZ:dI prg 14=true:=by kernel_rfl
theorem CQ:dI prg 22=true:=by kernel_rfl
theorem aU {fs gs:List Fm} {op0 op1:UInt8} {nm0 nm1 fd0 fd1:Str} {a0 a1 b0 b1:Int64} {ex0 ex1:List Ex} {args0 gZ:List Fm} :fs++[Fm.mk op0 nm0 fd0 a0 b0 ex0 args0]=gs++[Fm.mk op1 nm1 fd1 a1 b1 ex1 gZ]↔fs=gs/\op0=op1/\nm0=nm1/\fd0=fd1/\a0=a1/\b0=b1/\ex0=ex1/\args0=gZ:=by
 rw [<-List.concat_eq_append,<-List.concat_eq_append]
 constructor
 ·intro h;have h1:=List.init_eq_of_concat_eq h;have h2:=List.last_eq_of_concat_eq h;injection h2 with i1 i2 i3 i4 i5 i6 i7
  exact ⟨h1,i1,i2,i3,i4,i5,i6,i7⟩
 ·rintro ⟨rfl,rfl,rfl,rfl,rfl,rfl,rfl,rfl⟩;rfl
theorem BT {fs gs:List Fm} {op0 op1:UInt8} {nm0 nm1 fd0 fd1:Str} {a0 a1 b0 b1:Int64} {ex0 ex1:List Ex} {args0 gZ:List Fm} (e1:op0=op1) (e2:nm0=nm1) (e3:fd0=fd1) (e4:a0=a1) (e5:b0=b1) (e6:args0.length=gZ.length) (e7:ex0=ex1) (hl:fs.length+1=gs.length+1):fs++[Fm.mk op0 nm0 fd0 a0 b0 ex0 args0]=gs++[Fm.mk op1 nm1 fd1 a1 b1 ex1 gZ]↔fs++args0=gs++gZ:=by
 rw [aU]
 constructor
 ·rintro ⟨rfl,_,_,_,_,_,_,rfl⟩;rfl
 ·intro h;obtain ⟨h1,h2⟩:=List.append_inj h (by omega);exact ⟨h1,e1,e2,e3,e4,e5,e7,h2⟩
set_option maxHeartbeats 2000000 in
theorem zP (H:Hp) (f g:Fm) (N:Nat) (hb:blF N f=true) (hN:N * f.count<=100000000000) (hN1:N<=100000000000) (cs ds:List Value) (w:World) (h:Rep H (dFm .u8 f) cs) (k:Rep H (dFm .u8 g) ds) (hA:Agr H w):Calls prg 24 #[.agg cs.toArray,.agg ds.toArray] w λr w'=>r=.returned (.bool (eqP (f=g)))/\Ext w w':=by
 obtain ⟨op,nm,fd,a,b,ex,args⟩:=f;obtain ⟨opb,nmb,fdb,ab,bb,exb,argsb⟩:=g;obtain ⟨p1,c1,p2,c2,rfl,_,_,_,_⟩:=iB h;obtain ⟨p3,c3,p4,c4,rfl,_,_,_,_⟩:=iB k;refine Sx.enter (H:=H) func24 rfl ntmps24 rfl hA ?_;refine .sr<|.bx Z Z Z λb2=>.bx Z Z Z λb3=>.aq Z<|.sq<|.ft (p:=.light _ _ (.light _ _ (.alt _ _ _ (.light _ _ (.alt _ _ _ (.done) (.no))) (.alt _ _ _ (.alt _ _ _ (.light _ _ (.done)) (.no)) (.no))))) 5 (.light 0 (.light 2 (.alt 1 0 (.light 4 (.alt 3 0 (.done) (.no))) (.alt 3 0 (.alt 1 0 (.light 4 (.done)) (.no)) (.no))))) (by kernel_rfl) (by kernel_rfl) Z<|.yw (.loadW Z bZ cP Z)<|.yw (.loadW Z bZ Hm Z)<|.h ?_ (.h ?_ .nn)
 ·
  refine .blR (z:=7) Z (qH _ _ _ _ _ _ _) Z Z (by simp [maxLen]) λb11=>.a Z Z<|.h1<|.blR (z:=7) Z (qH _ _ _ _ _ _ _) Z Z (by simp [maxLen]) λb13=>.fn (tl:=[_]) Z<|.aq Z<|.sq<|.sr<|.aq Z<|.bk<|.pm [1,0,2,3] [_,_,_,_] Z Z<|.lp (X:=Nat × List Fm × List Fm × Value × Value × List Value × List Value) [] trivial [_,_] (λz=>[(5,z.2.2.2.1),(6,z.2.2.2.2.1),(7,.int .i64 ((z.2.1.length:Int) - 1))]) (λz=>H) (λz=>[.row 35 7 z.2.2.2.1 z.2.1.length z.2.2.2.2.2.1,.row 35 7 z.2.2.2.2.1 z.2.2.1.length z.2.2.2.2.2.2]) (λz=>eD H 7 (z.2.1.map (dFm .u8)) z.2.2.2.2.2.1/\eD H 7 (z.2.2.1.map (dFm .u8)) z.2.2.2.2.2.2/\z.2.1.length=z.2.2.1.length/\z.1+Fm.counts z.2.1<=Fm.count (.mk op nm fd a b ex args)/\(∀ g∈z.2.1,blF N g=true)/\z.2.1.length<=1+N * z.1/\(Fm.mk op nm fd a b ex args=Fm.mk opb nmb fdb ab bb exb argsb↔z.2.1=z.2.2.1)) (λz=>Fm.counts z.2.1) (0,[Fm.mk op nm fd a b ex args],[Fm.mk opb nmb fdb ab bb exb argsb],.slice (some ⟨b11,0,none⟩) 1 1,.slice (some ⟨b13,0,none⟩) 1 1,[.int .u8 op.toNat,cH nm,cH fd,.int .i64 a.toInt,.int .i64 b.toInt,.slice p1 ex.length c1,.slice p2 args.length c2],[.int .u8 opb.toNat,cH nmb,cH fdb,.int .i64 ab.toInt,.int .i64 bb.toInt,.slice p3 exb.length c3,.slice p4 argsb.length c4]) (λ_ s=>s) ⟨Z,Z,Z,Jt⟩ ⟨.single h Z,.single k Z,Z,by rw [Fm.counts,Fm.counts];omega,λg hg=>by rw [bQ.1 hg];exact hb,by simp,by simp⟩ λz hC=>?_
  obtain ⟨n,fs,gs,rf,rg,xf,xg⟩:=z;obtain ⟨zf,zg,hle,hcnt,hbf,hlen,hiff⟩:=hC;dsimp only at zf zg hle hcnt hbf hlen hiff|-;have hNn:N * n<=N * Fm.count (.mk op nm fd a b ex args):=lJ N (by omega);refine At.ra (size:=7) (r:=rf) (e:=35) Hm λpf cf e=>?_;subst e;refine At.ra (size:=7) (r:=rg) (e:=35) cP λpg cg e=>?_;subst e;refine .sq<|.sm Z<|.yw (.geq Z Z)<|.nt<|.cd Z (λh15=>?_) (λh15=>?_)
  ·try simp only [dt] at h15
   have hpos:0<fs.length:=by omega
   obtain ⟨fs0,f0,rfl⟩:∃ fs0 f0,fs=fs0++[f0]:=by
    rcases List.eq_nil_or_concat fs with h | ⟨t,x,h⟩
    ·subst h;simp at hpos hle
    ·exact ⟨t,x,by rw [h,List.concat_eq_append]⟩
   have hl0:(fs0++[f0]).length=fs0.length+1:=by rw [aF];rfl
   refine Sx.rowCase (size:=7) (r:=.slice pf (fs0++[f0]).length cf) (e:=35) Hm (by rw [hl0];exact Nat.succ_pos _) λwf c e hgc=>?_;injection e with e3 _ e4
   subst e3 e4;obtain ⟨cs0,r0,hc0,hx0⟩:=eD.at zf (i:=fs0.length) (d:=dFm .u8 f0) (by rw [bV,List.getElem?_append_right (by rw [bJ];exact aX _),bJ,iW];rfl)
   have hz0:eD H 7 (fs0.map (dFm .u8)) (xf.take (fs0.length * 7)):=by
    have h:=eD.take fs0.length zf;rw [bV,List.take_left' (by rw [bJ])] at h;exact h
   obtain ⟨gs0,g0,rfl⟩:∃ fs0 f0,gs=fs0++[f0]:=by
    rcases List.eq_nil_or_concat gs with h | ⟨t,x,h⟩
    ·subst h;simp at hpos hle
    ·exact ⟨t,x,by rw [h,List.concat_eq_append]⟩
   have hl1:(gs0++[g0]).length=gs0.length+1:=by rw [aF];rfl
   refine Sx.rowCase (size:=7) (r:=.slice pg (gs0++[g0]).length cg) (e:=35) cP (by rw [hl1];exact Nat.succ_pos _) λwg c e hgd=>?_;injection e with e3 _ e4
   subst e3 e4;obtain ⟨cs1,r1,hc1,hx1⟩:=eD.at zg (i:=gs0.length) (d:=dFm .u8 g0) (by rw [bV,List.getElem?_append_right (by rw [bJ];exact aX _),bJ,iW];rfl)
   have hz1:eD H 7 (gs0.map (dFm .u8)) (xg.take (gs0.length * 7)):=by
    have h:=eD.take gs0.length zg;rw [bV,List.take_left' (by rw [bJ])] at h;exact h
   obtain ⟨op0,nm0,fd0,a0,b0,ex0,args0⟩:=f0;obtain ⟨op1,nm1,fd1,a1,b1,ex1,gZ⟩:=g0;obtain ⟨q1,d1,q2,d2,rfl,hs0,hs3,_,_⟩:=iB r0;obtain ⟨q5,d5,q6,d6,rfl,hs5,hs6,_,_⟩:=iB r1;have hb0:=(vD.1 (hbf _ (cC.2 (.inr (bQ.2 rfl)))));rw [fD,Fm.counts,Fm.counts,nS] at hcnt;rw [hl0,hl1] at hle;rw [hl0] at hlen;have hNs:N * (n+1)=N * n+N:=Nat.mul_succ N n;have hcp0:=hs3.cap;have hcp1:=hs6.cap;refine .sk<|.tN<|.sq<|.bk<|.sq<|.ft (p:=.light _ _ (.light _ _ (.light _ _ (.light _ _ (.light _ _ (.light _ _ (.light _ _ (.light _ _ (.alt _ _ _ (.alt _ _ _ (.alt _ _ _ (.done) (.no)) (.no)) (.alt _ _ _ (.alt _ _ _ (.alt _ _ _ (.done) (.no)) (.no)) (.no))))))))))) 11 (.light 0 (.light 1 (.light 2 (.light 3 (.light 4 (.light 5 (.light 6 (.light 7 (.alt 8 0 (.alt 9 0 (.alt 10 2 (.done) (.no)) (.no)) (.alt 9 0 (.alt 8 0 (.alt 10 2 (.done) (.no)) (.no)) (.no))))))))))) (by kernel_rfl) (by kernel_rfl) Z<|.mv Z<|.mv Z<|.yw (.indexSl eG Z Z (i:=fs0.length) (by rw [hl0];omega) (by rw [hl0];omega) (q:=fs0.length * 7) (by omega))<|.yw (.loadR (vs:=cFm .u8 op0 nm0 fd0 a0 b0 (.slice q1 ex0.length d1) (.slice q2 args0.length d2)) Z bZ Hm Z hx0)<|.mv Z<|.mv Z<|.yw (.indexSl eG Z Z (i:=gs0.length) (by rw [hl0];omega) (by rw [hl1];omega) (q:=gs0.length * 7) (by omega))<|.yw (.loadR (vs:=cFm .u8 op1 nm1 fd1 a1 b1 (.slice q5 ex1.length d5) (.slice q6 gZ.length d6)) Z bZ cP Z hx1)<|.h ?_ (.h ?_ .nn)
   ·
    refine .al dX Z λb8=>.h1<|.al dX Z λb9=>.h1<|.sW kP Z Z cV (by simp [Value.oneCell',cH]) Z ((.yv (.loadR (vs:=cFm .u8 op1 nm1 fd1 a1 b1 (.slice q5 ex1.length d5) (.slice q6 gZ.length d6)) Z bZ pY Z hx1)<|.yv (.indexSl eG Z Z (i:=gs0.length) (by rw [hl0];omega) (by rw [hl1];omega) (q:=gs0.length * 7) (by omega))<|.yv (.move Z)<|.yv (.move Z)<|.d4<|.nl))<|.fn (tl:=[_]) Z<|.sX .head Z Z cV Z<|.nt<|.sq<|.sr<|.fA Z eH<|.lD Z iA cP Z<|.fA Z eH<|.lD Z iA Hm Z<|.yw (.neq Z Z)<|.mv Z<|.b2 (λh32=>?_) (λh32=>?_)
    ·try simp only [dt] at h32
     have e1:=(λe=>h32 (by rw [e]):¬ op0=op1);refine .gG<|.gG<|.gG<|.gG<|.gG<|.yw (.pickT Z Z)<|.mv Z<|.gG<|.gG<|.gG<|.gG<|.gG<|.yw (.pickT Z Z)<|.mv Z<|.gG<|.gG<|.gG<|.gG<|.gG<|.yw (.pickT Z Z)<|.mv Z<|.gG<|.gG<|.gG<|.gG<|.gG<|.yw (.pickT Z Z)<|.mv Z<|.gG<|.gG<|.gG<|.gG<|.gG<|.gG<|.gG<|.yw (.pickT Z Z)<|.mv Z<|.gG<|.gG<|.gG<|.gG<|.gG<|.gG<|.yw (.pickT Z Z)<|.nt<|.cT Z<|.sr<|.az Z<|.tR<|.bR<|.tR<|.tR<|.bR<|.tR<|?_
     refine y9 Z Z λW s=>⟨kF ?_,s.ext⟩
     first
      | (rw [aS];exact ⟨λ_=>hall,λ_=>rfl⟩)
      | (rw [aS];exact ⟨λh=>(by cases h),λh=>absurd (hiff.1 h) (by rw [aU];exact λh=>e1 (h.2.1))⟩)
      | (rw [aS];exact ⟨λh=>(by cases h),λh=>absurd (hiff.1 h) (by rw [aU];exact λh=>e2 (h.2.2.1))⟩)
      | (rw [aS];exact ⟨λh=>(by cases h),λh=>absurd (hiff.1 h) (by rw [aU];exact λh=>e3 (h.2.2.2.1))⟩)
      | (rw [aS];exact ⟨λh=>(by cases h),λh=>absurd (hiff.1 h) (by rw [aU];exact λh=>e4 (h.2.2.2.2.1))⟩)
      | (rw [aS];exact ⟨λh=>(by cases h),λh=>absurd (hiff.1 h) (by rw [aU];exact λh=>e5 (h.2.2.2.2.2.1))⟩)
      | (rw [aS];exact ⟨λh=>(by cases h),λh=>absurd (hiff.1 h) (by rw [aU];exact λh=>e6 (by rw [h.2.2.2.2.2.2.2]))⟩)
      | (rw [aS];exact ⟨λh=>(by cases h),λh=>absurd (hiff.1 h) (by rw [aU];exact λh=>e7 h.2.2.2.2.2.2.1)⟩)
    try simp only [df] at h32
    have e1:=aQ.1 (by omega:op0.toNat=op1.toNat);refine .gy (.fieldAddr Z fX)<|.gy (.load Z cZ cP Z)<|.gy (.fieldAddr Z fX)<|.gy (.load Z cZ Hm Z)<|.gy (.neS Z Z)<|.yw (.pickF Z Z)<|.mv Z<|.b2 (λh39=>?_) (λh39=>?_)
    ·try simp only [dt] at h39
     have e2:=(id h39:¬ nm0=nm1);refine .gG<|.gG<|.gG<|.gG<|.gG<|.yw (.pickT Z Z)<|.mv Z<|.gG<|.gG<|.gG<|.gG<|.gG<|.yw (.pickT Z Z)<|.mv Z<|.gG<|.gG<|.gG<|.gG<|.gG<|.yw (.pickT Z Z)<|.mv Z<|.gG<|.gG<|.gG<|.gG<|.gG<|.gG<|.gG<|.yw (.pickT Z Z)<|.mv Z<|.gG<|.gG<|.gG<|.gG<|.gG<|.gG<|.yw (.pickT Z Z)<|.nt<|.cT Z<|.sr<|.az Z<|.tR<|.bR<|.tR<|.tR<|.bR<|.tR<|?_
     refine y9 Z Z λW s=>⟨kF ?_,s.ext⟩
     first
      | (rw [aS];exact ⟨λ_=>hall,λ_=>rfl⟩)
      | (rw [aS];exact ⟨λh=>(by cases h),λh=>absurd (hiff.1 h) (by rw [aU];exact λh=>e1 (h.2.1))⟩)
      | (rw [aS];exact ⟨λh=>(by cases h),λh=>absurd (hiff.1 h) (by rw [aU];exact λh=>e2 (h.2.2.1))⟩)
      | (rw [aS];exact ⟨λh=>(by cases h),λh=>absurd (hiff.1 h) (by rw [aU];exact λh=>e3 (h.2.2.2.1))⟩)
      | (rw [aS];exact ⟨λh=>(by cases h),λh=>absurd (hiff.1 h) (by rw [aU];exact λh=>e4 (h.2.2.2.2.1))⟩)
      | (rw [aS];exact ⟨λh=>(by cases h),λh=>absurd (hiff.1 h) (by rw [aU];exact λh=>e5 (h.2.2.2.2.2.1))⟩)
      | (rw [aS];exact ⟨λh=>(by cases h),λh=>absurd (hiff.1 h) (by rw [aU];exact λh=>e6 (by rw [h.2.2.2.2.2.2.2]))⟩)
      | (rw [aS];exact ⟨λh=>(by cases h),λh=>absurd (hiff.1 h) (by rw [aU];exact λh=>e7 h.2.2.2.2.2.2.1)⟩)
    try simp only [df] at h39
    have e2:=(gJ.1 h39:nm0=nm1);refine .gy (.fieldAddr Z fW)<|.gy (.load Z cZ cP Z)<|.gy (.fieldAddr Z fW)<|.gy (.load Z cZ Hm Z)<|.gy (.neS Z Z)<|.yw (.pickF Z Z)<|.mv Z<|.b2 (λh46=>?_) (λh46=>?_)
    ·try simp only [dt] at h46
     have e3:=(id h46:¬ fd0=fd1);refine .gG<|.gG<|.gG<|.gG<|.gG<|.yw (.pickT Z Z)<|.mv Z<|.gG<|.gG<|.gG<|.gG<|.gG<|.yw (.pickT Z Z)<|.mv Z<|.gG<|.gG<|.gG<|.gG<|.gG<|.gG<|.gG<|.yw (.pickT Z Z)<|.mv Z<|.gG<|.gG<|.gG<|.gG<|.gG<|.gG<|.yw (.pickT Z Z)<|.nt<|.cT Z<|.sr<|.az Z<|.tR<|.bR<|.tR<|.tR<|.bR<|.tR<|?_
     refine y9 Z Z λW s=>⟨kF ?_,s.ext⟩
     first
      | (rw [aS];exact ⟨λ_=>hall,λ_=>rfl⟩)
      | (rw [aS];exact ⟨λh=>(by cases h),λh=>absurd (hiff.1 h) (by rw [aU];exact λh=>e1 (h.2.1))⟩)
      | (rw [aS];exact ⟨λh=>(by cases h),λh=>absurd (hiff.1 h) (by rw [aU];exact λh=>e2 (h.2.2.1))⟩)
      | (rw [aS];exact ⟨λh=>(by cases h),λh=>absurd (hiff.1 h) (by rw [aU];exact λh=>e3 (h.2.2.2.1))⟩)
      | (rw [aS];exact ⟨λh=>(by cases h),λh=>absurd (hiff.1 h) (by rw [aU];exact λh=>e4 (h.2.2.2.2.1))⟩)
      | (rw [aS];exact ⟨λh=>(by cases h),λh=>absurd (hiff.1 h) (by rw [aU];exact λh=>e5 (h.2.2.2.2.2.1))⟩)
      | (rw [aS];exact ⟨λh=>(by cases h),λh=>absurd (hiff.1 h) (by rw [aU];exact λh=>e6 (by rw [h.2.2.2.2.2.2.2]))⟩)
      | (rw [aS];exact ⟨λh=>(by cases h),λh=>absurd (hiff.1 h) (by rw [aU];exact λh=>e7 h.2.2.2.2.2.2.1)⟩)
    try simp only [df] at h46
    have e3:=(gJ.1 h46:fd0=fd1);refine .gy (.fieldAddr Z eX)<|.gy (.load Z cS cP Z)<|.gy (.fieldAddr Z eX)<|.gy (.load Z cS Hm Z)<|.gy (.neq Z Z)<|.yw (.pickF Z Z)<|.mv Z<|.b2 (λh53=>?_) (λh53=>?_)
    ·try simp only [dt] at h53
     have e4:=(λe=>h53 (by rw [e]):¬ a0=a1);refine .gG<|.gG<|.gG<|.gG<|.gG<|.yw (.pickT Z Z)<|.mv Z<|.gG<|.gG<|.gG<|.gG<|.gG<|.gG<|.gG<|.yw (.pickT Z Z)<|.mv Z<|.gG<|.gG<|.gG<|.gG<|.gG<|.gG<|.yw (.pickT Z Z)<|.nt<|.cT Z<|.sr<|.az Z<|.tR<|.bR<|.tR<|.tR<|.bR<|.tR<|?_
     refine y9 Z Z λW s=>⟨kF ?_,s.ext⟩
     first
      | (rw [aS];exact ⟨λ_=>hall,λ_=>rfl⟩)
      | (rw [aS];exact ⟨λh=>(by cases h),λh=>absurd (hiff.1 h) (by rw [aU];exact λh=>e1 (h.2.1))⟩)
      | (rw [aS];exact ⟨λh=>(by cases h),λh=>absurd (hiff.1 h) (by rw [aU];exact λh=>e2 (h.2.2.1))⟩)
      | (rw [aS];exact ⟨λh=>(by cases h),λh=>absurd (hiff.1 h) (by rw [aU];exact λh=>e3 (h.2.2.2.1))⟩)
      | (rw [aS];exact ⟨λh=>(by cases h),λh=>absurd (hiff.1 h) (by rw [aU];exact λh=>e4 (h.2.2.2.2.1))⟩)
      | (rw [aS];exact ⟨λh=>(by cases h),λh=>absurd (hiff.1 h) (by rw [aU];exact λh=>e5 (h.2.2.2.2.2.1))⟩)
      | (rw [aS];exact ⟨λh=>(by cases h),λh=>absurd (hiff.1 h) (by rw [aU];exact λh=>e6 (by rw [h.2.2.2.2.2.2.2]))⟩)
      | (rw [aS];exact ⟨λh=>(by cases h),λh=>absurd (hiff.1 h) (by rw [aU];exact λh=>e7 h.2.2.2.2.2.2.1)⟩)
    try simp only [df] at h53
    have e4:=dQ.1 (by omega:a0.toInt=a1.toInt);refine .gy (.fieldAddr Z eS)<|.gy (.load Z cS cP Z)<|.gy (.fieldAddr Z eS)<|.gy (.load Z cS Hm Z)<|.gy (.neq Z Z)<|.yw (.pickF Z Z)<|.mv Z<|.b2 (λh60=>?_) (λh60=>?_)
    ·try simp only [dt] at h60
     have e5:=(λe=>h60 (by rw [e]):¬ b0=b1);refine .gG<|.gG<|.gG<|.gG<|.gG<|.gG<|.gG<|.yw (.pickT Z Z)<|.mv Z<|.gG<|.gG<|.gG<|.gG<|.gG<|.gG<|.yw (.pickT Z Z)<|.nt<|.cT Z<|.sr<|.az Z<|.tR<|.bR<|.tR<|.tR<|.bR<|.tR<|?_
     refine y9 Z Z λW s=>⟨kF ?_,s.ext⟩
     first
      | (rw [aS];exact ⟨λ_=>hall,λ_=>rfl⟩)
      | (rw [aS];exact ⟨λh=>(by cases h),λh=>absurd (hiff.1 h) (by rw [aU];exact λh=>e1 (h.2.1))⟩)
      | (rw [aS];exact ⟨λh=>(by cases h),λh=>absurd (hiff.1 h) (by rw [aU];exact λh=>e2 (h.2.2.1))⟩)
      | (rw [aS];exact ⟨λh=>(by cases h),λh=>absurd (hiff.1 h) (by rw [aU];exact λh=>e3 (h.2.2.2.1))⟩)
      | (rw [aS];exact ⟨λh=>(by cases h),λh=>absurd (hiff.1 h) (by rw [aU];exact λh=>e4 (h.2.2.2.2.1))⟩)
      | (rw [aS];exact ⟨λh=>(by cases h),λh=>absurd (hiff.1 h) (by rw [aU];exact λh=>e5 (h.2.2.2.2.2.1))⟩)
      | (rw [aS];exact ⟨λh=>(by cases h),λh=>absurd (hiff.1 h) (by rw [aU];exact λh=>e6 (by rw [h.2.2.2.2.2.2.2]))⟩)
      | (rw [aS];exact ⟨λh=>(by cases h),λh=>absurd (hiff.1 h) (by rw [aU];exact λh=>e7 h.2.2.2.2.2.2.1)⟩)
    try simp only [df] at h60
    have e5:=dQ.1 (by omega:b0.toInt=b1.toInt);refine .gy (.fieldAddr Z cU)<|.gy (.load Z eU cP Z)<|.gy (.lenSl eG Z)<|.gy (.fieldAddr Z cU)<|.gy (.load Z eU Hm Z)<|.gy (.lenSl eG Z)<|.gy (.neq Z Z)<|.yw (.pickF Z Z)<|.mv Z<|.b2 (λh69=>?_) (λh69=>?_)
    ·try simp only [dt] at h69
     have e6:=(λe=>h69 (by rw [e]):¬ args0.length=gZ.length);refine .gG<|.gG<|.gG<|.gG<|.gG<|.gG<|.yw (.pickT Z Z)<|.nt<|.cT Z<|.sr<|.az Z<|.tR<|.bR<|.tR<|.tR<|.bR<|.tR<|?_
     refine y9 Z Z λW s=>⟨kF ?_,s.ext⟩
     first
      | (rw [aS];exact ⟨λ_=>hall,λ_=>rfl⟩)
      | (rw [aS];exact ⟨λh=>(by cases h),λh=>absurd (hiff.1 h) (by rw [aU];exact λh=>e1 (h.2.1))⟩)
      | (rw [aS];exact ⟨λh=>(by cases h),λh=>absurd (hiff.1 h) (by rw [aU];exact λh=>e2 (h.2.2.1))⟩)
      | (rw [aS];exact ⟨λh=>(by cases h),λh=>absurd (hiff.1 h) (by rw [aU];exact λh=>e3 (h.2.2.2.1))⟩)
      | (rw [aS];exact ⟨λh=>(by cases h),λh=>absurd (hiff.1 h) (by rw [aU];exact λh=>e4 (h.2.2.2.2.1))⟩)
      | (rw [aS];exact ⟨λh=>(by cases h),λh=>absurd (hiff.1 h) (by rw [aU];exact λh=>e5 (h.2.2.2.2.2.1))⟩)
      | (rw [aS];exact ⟨λh=>(by cases h),λh=>absurd (hiff.1 h) (by rw [aU];exact λh=>e6 (by rw [h.2.2.2.2.2.2.2]))⟩)
      | (rw [aS];exact ⟨λh=>(by cases h),λh=>absurd (hiff.1 h) (by rw [aU];exact λh=>e7 h.2.2.2.2.2.2.1)⟩)
    try simp only [df] at h69
    have e6:=(by omega:args0.length=gZ.length);refine .gy (.fieldAddr Z cK)<|.gy (.load Z dE cP Z)<|.gy (.fieldAddr Z cK)<|.gy (.load Z dE Hm Z)<|.gy (.call yR Z (λW s=>FZ H 52 yQ ex0 ex1 (λa _=>uE H a) _ _ hs0 hs5 W s.agr))<|.gy (.not Z)<|.yw (.pickF Z Z)<|.nt<|.cd Z (λh76=>?_) (λh76=>?_)
    ·try simp only [dt] at h76
     have e7:=CC.1 (by simpa using h76);refine .sr<|.az Z<|.tR<|.bR<|.tR<|.tR<|.bR<|.tR<|?_
     refine y9 Z Z λW s=>⟨kF ?_,s.ext⟩
     first
      | (rw [aS];exact ⟨λ_=>hall,λ_=>rfl⟩)
      | (rw [aS];exact ⟨λh=>(by cases h),λh=>absurd (hiff.1 h) (by rw [aU];exact λh=>e1 (h.2.1))⟩)
      | (rw [aS];exact ⟨λh=>(by cases h),λh=>absurd (hiff.1 h) (by rw [aU];exact λh=>e2 (h.2.2.1))⟩)
      | (rw [aS];exact ⟨λh=>(by cases h),λh=>absurd (hiff.1 h) (by rw [aU];exact λh=>e3 (h.2.2.2.1))⟩)
      | (rw [aS];exact ⟨λh=>(by cases h),λh=>absurd (hiff.1 h) (by rw [aU];exact λh=>e4 (h.2.2.2.2.1))⟩)
      | (rw [aS];exact ⟨λh=>(by cases h),λh=>absurd (hiff.1 h) (by rw [aU];exact λh=>e5 (h.2.2.2.2.2.1))⟩)
      | (rw [aS];exact ⟨λh=>(by cases h),λh=>absurd (hiff.1 h) (by rw [aU];exact λh=>e6 (by rw [h.2.2.2.2.2.2.2]))⟩)
      | (rw [aS];exact ⟨λh=>(by cases h),λh=>absurd (hiff.1 h) (by rw [aU];exact λh=>e7 h.2.2.2.2.2.2.1)⟩)
    try simp only [df] at h76
    have e7:=aS.1 (by simpa using h76);refine Sx.At.rcut (size:=7) (m:=fs0.length) (ys:=xf.take (fs0.length * 7)) mD (by rw [hl0];exact Nat.le_succ _) rfl ?_;refine Sx.At.rcut (size:=7) (m:=gs0.length) (ys:=xg.take (gs0.length * 7)) mP (by rw [hl1];exact Nat.le_succ _) rfl ?_;exact .sk<|.tN<|.fL 12 [(0,0),(1,0),(2,0),(3,0),(4,0),(6,0),(7,0),(8,0),(9,0),(10,0),(5,3),(11,3)]<|.mv Z<|.mv Z<|.yw (.cutHi eG Z Z (h:=fs0.length) (by rw [hl0];omega) (by rw [hl0] at hgc;omega) (λq e=>by cases e;rfl))<|.fA Z cU<|.lD Z eU cP Z<|.mv Z<|.mv Z<|.yw (.cutHi eG Z Z (h:=gs0.length) (by rw [hl0];omega) (by rw [hl1] at hgd;omega) (λq e=>by cases e;rfl))<|.fA Z cU<|.lD Z eU Hm Z<|.apD rW Z (λ_ _=>mD) Z hs3 (by simp only [maxLen];omega) (by omega) Z (λ_ _=>(.yv (.load Z eU Hm Z)<|.yv (.fieldAddr Z cU)<|.yv (.cutHi eG Z Z (h:=gs0.length) (by rw [hl0];omega) (by rw [hl1] at hgd;omega) (λq e=>by cases e;rfl))<|.yv (.move Z)<|.yv (.move Z)<|.d3<|.d2<|.nl)) λnews pN cN hzn=>.apD rW Z (λ_ _=>mP) Z hs6 (by simp only [maxLen];omega) (by omega) Z (λ_ _=>(.d4<|.d4<|.d2<|.nl)) λmews pM cM hzm=>.fn (tl:=[_,_]) Z<|.a Z Z<|.a Z Z<|.nl<|.bN<|.tN<|.rg<|.mv Z<|.yw (.lenSl eG Z)<|.yw (.sub Z Z (w6 (by omega)))<|.aq Z<|.ag (x:=(n,fs0++[Fm.mk op0 nm0 fd0 a0 b0 ex0 args0],gs0++[Fm.mk op1 nm1 fd1 a1 b1 ex1 gZ],Value.slice (some ⟨wf,0,none⟩) (fs0++[Fm.mk op0 nm0 fd0 a0 b0 ex0 args0]).length cf,Value.slice (some ⟨wg,0,none⟩) (gs0++[Fm.mk op1 nm1 fd1 a1 b1 ex1 gZ]).length cg,xf,xg)) (n+1,fs0++args0,gs0++gZ,Value.slice pN (fs0.length+args0.length) cN,Value.slice pM (gs0.length+gZ.length) cM,xf.take (fs0.length * 7)++news,xg.take (gs0.length * 7)++mews) ⟨Z,Z,by dsimp only;exact congrArg (λm:Nat=>some (Value.int .i64 ((m:Int) - 1))) (aF ).symm,Jt⟩ trivial (λ_ s=>by dsimp only;rw [aF,aF];exact (s.pick [2,3,4,5] _ Z Z)) ⟨by rw [bV];exact hz0.app hzn,by rw [bV];exact hz1.app hzm,by dsimp only;rw [aF,aF];omega,by dsimp only;rw [fD];omega,λe he=>by rcases cC.1 he with h | h;exact hbf e (cC.2 (.inl h));exact hb0.2 e h,by dsimp only;rw [aF,hNs];omega,by dsimp only;exact hiff.trans (BT e1 e2 e3 e4 e5 e6 e7 hle)⟩ (by dsimp only;rw [fD,fD,Fm.counts,Fm.counts,nS];omega)
   refine .al dX Z λb9=>.h1<|.al dX Z λb8=>.h1<|.sW .head Z Z cV (by simp [Value.oneCell',cH]) Z ((.yv (.loadR (vs:=cFm .u8 op1 nm1 fd1 a1 b1 (.slice q5 ex1.length d5) (.slice q6 gZ.length d6)) Z bZ pY Z hx1)<|.yv (.indexSl eG Z Z (i:=gs0.length) (by rw [hl0];omega) (by rw [hl1];omega) (q:=gs0.length * 7) (by omega))<|.yv (.move Z)<|.yv (.move Z)<|.d4<|.nl))<|.fn (tl:=[_]) Z<|.sX kP Z Z cV Z<|.nt<|.sq<|.sr<|.fA Z eH<|.lD Z iA Hm Z<|.fA Z eH<|.lD Z iA cP Z<|.yw (.neq Z Z)<|.mv Z<|.b2 (λh32=>?_) (λh32=>?_)
   ·try simp only [dt] at h32
    have e1:=(λe=>h32 (by rw [e]):¬ op0=op1);refine .gG<|.gG<|.gG<|.gG<|.gG<|.yw (.pickT Z Z)<|.mv Z<|.gG<|.gG<|.gG<|.gG<|.gG<|.yw (.pickT Z Z)<|.mv Z<|.gG<|.gG<|.gG<|.gG<|.gG<|.yw (.pickT Z Z)<|.mv Z<|.gG<|.gG<|.gG<|.gG<|.gG<|.yw (.pickT Z Z)<|.mv Z<|.gG<|.gG<|.gG<|.gG<|.gG<|.gG<|.gG<|.yw (.pickT Z Z)<|.mv Z<|.gG<|.gG<|.gG<|.gG<|.gG<|.gG<|.yw (.pickT Z Z)<|.nt<|.cT Z<|.sr<|.az Z<|.tR<|.bR<|.tR<|.tR<|.bR<|.tR<|?_
    refine y9 Z Z λW s=>⟨kF ?_,s.ext⟩
    first
     | (rw [aS];exact ⟨λ_=>hall,λ_=>rfl⟩)
     | (rw [aS];exact ⟨λh=>(by cases h),λh=>absurd (hiff.1 h) (by rw [aU];exact λh=>e1 (h.2.1))⟩)
     | (rw [aS];exact ⟨λh=>(by cases h),λh=>absurd (hiff.1 h) (by rw [aU];exact λh=>e2 (h.2.2.1))⟩)
     | (rw [aS];exact ⟨λh=>(by cases h),λh=>absurd (hiff.1 h) (by rw [aU];exact λh=>e3 (h.2.2.2.1))⟩)
     | (rw [aS];exact ⟨λh=>(by cases h),λh=>absurd (hiff.1 h) (by rw [aU];exact λh=>e4 (h.2.2.2.2.1))⟩)
     | (rw [aS];exact ⟨λh=>(by cases h),λh=>absurd (hiff.1 h) (by rw [aU];exact λh=>e5 (h.2.2.2.2.2.1))⟩)
     | (rw [aS];exact ⟨λh=>(by cases h),λh=>absurd (hiff.1 h) (by rw [aU];exact λh=>e6 (by rw [h.2.2.2.2.2.2.2]))⟩)
     | (rw [aS];exact ⟨λh=>(by cases h),λh=>absurd (hiff.1 h) (by rw [aU];exact λh=>e7 h.2.2.2.2.2.2.1)⟩)
   try simp only [df] at h32
   have e1:=aQ.1 (by omega:op0.toNat=op1.toNat);refine .gy (.fieldAddr Z fX)<|.gy (.load Z cZ Hm Z)<|.gy (.fieldAddr Z fX)<|.gy (.load Z cZ cP Z)<|.gy (.neS Z Z)<|.yw (.pickF Z Z)<|.mv Z<|.b2 (λh39=>?_) (λh39=>?_)
   ·try simp only [dt] at h39
    have e2:=(id h39:¬ nm0=nm1);refine .gG<|.gG<|.gG<|.gG<|.gG<|.yw (.pickT Z Z)<|.mv Z<|.gG<|.gG<|.gG<|.gG<|.gG<|.yw (.pickT Z Z)<|.mv Z<|.gG<|.gG<|.gG<|.gG<|.gG<|.yw (.pickT Z Z)<|.mv Z<|.gG<|.gG<|.gG<|.gG<|.gG<|.gG<|.gG<|.yw (.pickT Z Z)<|.mv Z<|.gG<|.gG<|.gG<|.gG<|.gG<|.gG<|.yw (.pickT Z Z)<|.nt<|.cT Z<|.sr<|.az Z<|.tR<|.bR<|.tR<|.tR<|.bR<|.tR<|?_
    refine y9 Z Z λW s=>⟨kF ?_,s.ext⟩
    first
     | (rw [aS];exact ⟨λ_=>hall,λ_=>rfl⟩)
     | (rw [aS];exact ⟨λh=>(by cases h),λh=>absurd (hiff.1 h) (by rw [aU];exact λh=>e1 (h.2.1))⟩)
     | (rw [aS];exact ⟨λh=>(by cases h),λh=>absurd (hiff.1 h) (by rw [aU];exact λh=>e2 (h.2.2.1))⟩)
     | (rw [aS];exact ⟨λh=>(by cases h),λh=>absurd (hiff.1 h) (by rw [aU];exact λh=>e3 (h.2.2.2.1))⟩)
     | (rw [aS];exact ⟨λh=>(by cases h),λh=>absurd (hiff.1 h) (by rw [aU];exact λh=>e4 (h.2.2.2.2.1))⟩)
     | (rw [aS];exact ⟨λh=>(by cases h),λh=>absurd (hiff.1 h) (by rw [aU];exact λh=>e5 (h.2.2.2.2.2.1))⟩)
     | (rw [aS];exact ⟨λh=>(by cases h),λh=>absurd (hiff.1 h) (by rw [aU];exact λh=>e6 (by rw [h.2.2.2.2.2.2.2]))⟩)
     | (rw [aS];exact ⟨λh=>(by cases h),λh=>absurd (hiff.1 h) (by rw [aU];exact λh=>e7 h.2.2.2.2.2.2.1)⟩)
   try simp only [df] at h39
   have e2:=(gJ.1 h39:nm0=nm1);refine .gy (.fieldAddr Z fW)<|.gy (.load Z cZ Hm Z)<|.gy (.fieldAddr Z fW)<|.gy (.load Z cZ cP Z)<|.gy (.neS Z Z)<|.yw (.pickF Z Z)<|.mv Z<|.b2 (λh46=>?_) (λh46=>?_)
   ·try simp only [dt] at h46
    have e3:=(id h46:¬ fd0=fd1);refine .gG<|.gG<|.gG<|.gG<|.gG<|.yw (.pickT Z Z)<|.mv Z<|.gG<|.gG<|.gG<|.gG<|.gG<|.yw (.pickT Z Z)<|.mv Z<|.gG<|.gG<|.gG<|.gG<|.gG<|.gG<|.gG<|.yw (.pickT Z Z)<|.mv Z<|.gG<|.gG<|.gG<|.gG<|.gG<|.gG<|.yw (.pickT Z Z)<|.nt<|.cT Z<|.sr<|.az Z<|.tR<|.bR<|.tR<|.tR<|.bR<|.tR<|?_
    refine y9 Z Z λW s=>⟨kF ?_,s.ext⟩
    first
     | (rw [aS];exact ⟨λ_=>hall,λ_=>rfl⟩)
     | (rw [aS];exact ⟨λh=>(by cases h),λh=>absurd (hiff.1 h) (by rw [aU];exact λh=>e1 (h.2.1))⟩)
     | (rw [aS];exact ⟨λh=>(by cases h),λh=>absurd (hiff.1 h) (by rw [aU];exact λh=>e2 (h.2.2.1))⟩)
     | (rw [aS];exact ⟨λh=>(by cases h),λh=>absurd (hiff.1 h) (by rw [aU];exact λh=>e3 (h.2.2.2.1))⟩)
     | (rw [aS];exact ⟨λh=>(by cases h),λh=>absurd (hiff.1 h) (by rw [aU];exact λh=>e4 (h.2.2.2.2.1))⟩)
     | (rw [aS];exact ⟨λh=>(by cases h),λh=>absurd (hiff.1 h) (by rw [aU];exact λh=>e5 (h.2.2.2.2.2.1))⟩)
     | (rw [aS];exact ⟨λh=>(by cases h),λh=>absurd (hiff.1 h) (by rw [aU];exact λh=>e6 (by rw [h.2.2.2.2.2.2.2]))⟩)
     | (rw [aS];exact ⟨λh=>(by cases h),λh=>absurd (hiff.1 h) (by rw [aU];exact λh=>e7 h.2.2.2.2.2.2.1)⟩)
   try simp only [df] at h46
   have e3:=(gJ.1 h46:fd0=fd1);refine .gy (.fieldAddr Z eX)<|.gy (.load Z cS Hm Z)<|.gy (.fieldAddr Z eX)<|.gy (.load Z cS cP Z)<|.gy (.neq Z Z)<|.yw (.pickF Z Z)<|.mv Z<|.b2 (λh53=>?_) (λh53=>?_)
   ·try simp only [dt] at h53
    have e4:=(λe=>h53 (by rw [e]):¬ a0=a1);refine .gG<|.gG<|.gG<|.gG<|.gG<|.yw (.pickT Z Z)<|.mv Z<|.gG<|.gG<|.gG<|.gG<|.gG<|.gG<|.gG<|.yw (.pickT Z Z)<|.mv Z<|.gG<|.gG<|.gG<|.gG<|.gG<|.gG<|.yw (.pickT Z Z)<|.nt<|.cT Z<|.sr<|.az Z<|.tR<|.bR<|.tR<|.tR<|.bR<|.tR<|?_
    refine y9 Z Z λW s=>⟨kF ?_,s.ext⟩
    first
     | (rw [aS];exact ⟨λ_=>hall,λ_=>rfl⟩)
     | (rw [aS];exact ⟨λh=>(by cases h),λh=>absurd (hiff.1 h) (by rw [aU];exact λh=>e1 (h.2.1))⟩)
     | (rw [aS];exact ⟨λh=>(by cases h),λh=>absurd (hiff.1 h) (by rw [aU];exact λh=>e2 (h.2.2.1))⟩)
     | (rw [aS];exact ⟨λh=>(by cases h),λh=>absurd (hiff.1 h) (by rw [aU];exact λh=>e3 (h.2.2.2.1))⟩)
     | (rw [aS];exact ⟨λh=>(by cases h),λh=>absurd (hiff.1 h) (by rw [aU];exact λh=>e4 (h.2.2.2.2.1))⟩)
     | (rw [aS];exact ⟨λh=>(by cases h),λh=>absurd (hiff.1 h) (by rw [aU];exact λh=>e5 (h.2.2.2.2.2.1))⟩)
     | (rw [aS];exact ⟨λh=>(by cases h),λh=>absurd (hiff.1 h) (by rw [aU];exact λh=>e6 (by rw [h.2.2.2.2.2.2.2]))⟩)
     | (rw [aS];exact ⟨λh=>(by cases h),λh=>absurd (hiff.1 h) (by rw [aU];exact λh=>e7 h.2.2.2.2.2.2.1)⟩)
   try simp only [df] at h53
   have e4:=dQ.1 (by omega:a0.toInt=a1.toInt);refine .gy (.fieldAddr Z eS)<|.gy (.load Z cS Hm Z)<|.gy (.fieldAddr Z eS)<|.gy (.load Z cS cP Z)<|.gy (.neq Z Z)<|.yw (.pickF Z Z)<|.mv Z<|.b2 (λh60=>?_) (λh60=>?_)
   ·try simp only [dt] at h60
    have e5:=(λe=>h60 (by rw [e]):¬ b0=b1);refine .gG<|.gG<|.gG<|.gG<|.gG<|.gG<|.gG<|.yw (.pickT Z Z)<|.mv Z<|.gG<|.gG<|.gG<|.gG<|.gG<|.gG<|.yw (.pickT Z Z)<|.nt<|.cT Z<|.sr<|.az Z<|.tR<|.bR<|.tR<|.tR<|.bR<|.tR<|?_
    refine y9 Z Z λW s=>⟨kF ?_,s.ext⟩
    first
     | (rw [aS];exact ⟨λ_=>hall,λ_=>rfl⟩)
     | (rw [aS];exact ⟨λh=>(by cases h),λh=>absurd (hiff.1 h) (by rw [aU];exact λh=>e1 (h.2.1))⟩)
     | (rw [aS];exact ⟨λh=>(by cases h),λh=>absurd (hiff.1 h) (by rw [aU];exact λh=>e2 (h.2.2.1))⟩)
     | (rw [aS];exact ⟨λh=>(by cases h),λh=>absurd (hiff.1 h) (by rw [aU];exact λh=>e3 (h.2.2.2.1))⟩)
     | (rw [aS];exact ⟨λh=>(by cases h),λh=>absurd (hiff.1 h) (by rw [aU];exact λh=>e4 (h.2.2.2.2.1))⟩)
     | (rw [aS];exact ⟨λh=>(by cases h),λh=>absurd (hiff.1 h) (by rw [aU];exact λh=>e5 (h.2.2.2.2.2.1))⟩)
     | (rw [aS];exact ⟨λh=>(by cases h),λh=>absurd (hiff.1 h) (by rw [aU];exact λh=>e6 (by rw [h.2.2.2.2.2.2.2]))⟩)
     | (rw [aS];exact ⟨λh=>(by cases h),λh=>absurd (hiff.1 h) (by rw [aU];exact λh=>e7 h.2.2.2.2.2.2.1)⟩)
   try simp only [df] at h60
   have e5:=dQ.1 (by omega:b0.toInt=b1.toInt);refine .gy (.fieldAddr Z cU)<|.gy (.load Z eU Hm Z)<|.gy (.lenSl eG Z)<|.gy (.fieldAddr Z cU)<|.gy (.load Z eU cP Z)<|.gy (.lenSl eG Z)<|.gy (.neq Z Z)<|.yw (.pickF Z Z)<|.mv Z<|.b2 (λh69=>?_) (λh69=>?_)
   ·try simp only [dt] at h69
    have e6:=(λe=>h69 (by rw [e]):¬ args0.length=gZ.length);refine .gG<|.gG<|.gG<|.gG<|.gG<|.gG<|.yw (.pickT Z Z)<|.nt<|.cT Z<|.sr<|.az Z<|.tR<|.bR<|.tR<|.tR<|.bR<|.tR<|?_
    refine y9 Z Z λW s=>⟨kF ?_,s.ext⟩
    first
     | (rw [aS];exact ⟨λ_=>hall,λ_=>rfl⟩)
     | (rw [aS];exact ⟨λh=>(by cases h),λh=>absurd (hiff.1 h) (by rw [aU];exact λh=>e1 (h.2.1))⟩)
     | (rw [aS];exact ⟨λh=>(by cases h),λh=>absurd (hiff.1 h) (by rw [aU];exact λh=>e2 (h.2.2.1))⟩)
     | (rw [aS];exact ⟨λh=>(by cases h),λh=>absurd (hiff.1 h) (by rw [aU];exact λh=>e3 (h.2.2.2.1))⟩)
     | (rw [aS];exact ⟨λh=>(by cases h),λh=>absurd (hiff.1 h) (by rw [aU];exact λh=>e4 (h.2.2.2.2.1))⟩)
     | (rw [aS];exact ⟨λh=>(by cases h),λh=>absurd (hiff.1 h) (by rw [aU];exact λh=>e5 (h.2.2.2.2.2.1))⟩)
     | (rw [aS];exact ⟨λh=>(by cases h),λh=>absurd (hiff.1 h) (by rw [aU];exact λh=>e6 (by rw [h.2.2.2.2.2.2.2]))⟩)
     | (rw [aS];exact ⟨λh=>(by cases h),λh=>absurd (hiff.1 h) (by rw [aU];exact λh=>e7 h.2.2.2.2.2.2.1)⟩)
   try simp only [df] at h69
   have e6:=(by omega:args0.length=gZ.length);refine .gy (.fieldAddr Z cK)<|.gy (.load Z dE Hm Z)<|.gy (.fieldAddr Z cK)<|.gy (.load Z dE cP Z)<|.gy (.call yR Z (λW s=>FZ H 52 yQ ex0 ex1 (λa _=>uE H a) _ _ hs0 hs5 W s.agr))<|.gy (.not Z)<|.yw (.pickF Z Z)<|.nt<|.cd Z (λh76=>?_) (λh76=>?_)
   ·try simp only [dt] at h76
    have e7:=CC.1 (by simpa using h76);refine .sr<|.az Z<|.tR<|.bR<|.tR<|.tR<|.bR<|.tR<|?_
    refine y9 Z Z λW s=>⟨kF ?_,s.ext⟩
    first
     | (rw [aS];exact ⟨λ_=>hall,λ_=>rfl⟩)
     | (rw [aS];exact ⟨λh=>(by cases h),λh=>absurd (hiff.1 h) (by rw [aU];exact λh=>e1 (h.2.1))⟩)
     | (rw [aS];exact ⟨λh=>(by cases h),λh=>absurd (hiff.1 h) (by rw [aU];exact λh=>e2 (h.2.2.1))⟩)
     | (rw [aS];exact ⟨λh=>(by cases h),λh=>absurd (hiff.1 h) (by rw [aU];exact λh=>e3 (h.2.2.2.1))⟩)
     | (rw [aS];exact ⟨λh=>(by cases h),λh=>absurd (hiff.1 h) (by rw [aU];exact λh=>e4 (h.2.2.2.2.1))⟩)
     | (rw [aS];exact ⟨λh=>(by cases h),λh=>absurd (hiff.1 h) (by rw [aU];exact λh=>e5 (h.2.2.2.2.2.1))⟩)
     | (rw [aS];exact ⟨λh=>(by cases h),λh=>absurd (hiff.1 h) (by rw [aU];exact λh=>e6 (by rw [h.2.2.2.2.2.2.2]))⟩)
     | (rw [aS];exact ⟨λh=>(by cases h),λh=>absurd (hiff.1 h) (by rw [aU];exact λh=>e7 h.2.2.2.2.2.2.1)⟩)
   try simp only [df] at h76
   have e7:=aS.1 (by simpa using h76);refine Sx.At.rcut (size:=7) (m:=fs0.length) (ys:=xf.take (fs0.length * 7)) mD (by rw [hl0];exact Nat.le_succ _) rfl ?_;refine Sx.At.rcut (size:=7) (m:=gs0.length) (ys:=xg.take (gs0.length * 7)) mP (by rw [hl1];exact Nat.le_succ _) rfl ?_;exact .sk<|.tN<|.fL 12 [(0,0),(1,0),(2,0),(3,0),(4,0),(6,0),(7,0),(8,0),(9,0),(10,0),(5,3),(11,3)]<|.mv Z<|.mv Z<|.yw (.cutHi eG Z Z (h:=fs0.length) (by rw [hl0];omega) (by rw [hl0] at hgc;omega) (λq e=>by cases e;rfl))<|.fA Z cU<|.lD Z eU Hm Z<|.mv Z<|.mv Z<|.yw (.cutHi eG Z Z (h:=gs0.length) (by rw [hl0];omega) (by rw [hl1] at hgd;omega) (λq e=>by cases e;rfl))<|.fA Z cU<|.lD Z eU cP Z<|.apD rW Z (λ_ _=>mD) Z hs3 (by simp only [maxLen];omega) (by omega) Z (λ_ _=>(.yv (.load Z eU cP Z)<|.yv (.fieldAddr Z cU)<|.yv (.cutHi eG Z Z (h:=gs0.length) (by rw [hl0];omega) (by rw [hl1] at hgd;omega) (λq e=>by cases e;rfl))<|.yv (.move Z)<|.yv (.move Z)<|.d3<|.d2<|.nl)) λnews pN cN hzn=>.apD rW Z (λ_ _=>mP) Z hs6 (by simp only [maxLen];omega) (by omega) Z (λ_ _=>(.d4<|.d4<|.d2<|.nl)) λmews pM cM hzm=>.fn (tl:=[_,_]) Z<|.a Z Z<|.a Z Z<|.nl<|.bN<|.tN<|.rg<|.mv Z<|.yw (.lenSl eG Z)<|.yw (.sub Z Z (w6 (by omega)))<|.aq Z<|.ag (x:=(n,fs0++[Fm.mk op0 nm0 fd0 a0 b0 ex0 args0],gs0++[Fm.mk op1 nm1 fd1 a1 b1 ex1 gZ],Value.slice (some ⟨wf,0,none⟩) (fs0++[Fm.mk op0 nm0 fd0 a0 b0 ex0 args0]).length cf,Value.slice (some ⟨wg,0,none⟩) (gs0++[Fm.mk op1 nm1 fd1 a1 b1 ex1 gZ]).length cg,xf,xg)) (n+1,fs0++args0,gs0++gZ,Value.slice pN (fs0.length+args0.length) cN,Value.slice pM (gs0.length+gZ.length) cM,xf.take (fs0.length * 7)++news,xg.take (gs0.length * 7)++mews) ⟨Z,Z,by dsimp only;exact congrArg (λm:Nat=>some (Value.int .i64 ((m:Int) - 1))) (aF ).symm,Jt⟩ trivial (λ_ s=>by dsimp only;rw [aF,aF];exact (s.pick [2,3,4,5] _ Z Z)) ⟨by rw [bV];exact hz0.app hzn,by rw [bV];exact hz1.app hzm,by dsimp only;rw [aF,aF];omega,by dsimp only;rw [fD];omega,λe he=>by rcases cC.1 he with h | h;exact hbf e (cC.2 (.inl h));exact hb0.2 e h,by dsimp only;rw [aF,hNs];omega,by dsimp only;exact hiff.trans (BT e1 e2 e3 e4 e5 e6 e7 hle)⟩ (by dsimp only;rw [fD,fD,Fm.counts,Fm.counts,nS];omega)
  try simp only [df] at h15
  have hfs:fs=[]:=bI (by omega);have hgs:gs=[]:=bI (by omega);have hall:=hiff.2 (by rw [hfs,hgs]);refine .ex<|.eb<|.sr<|.az Z<|?_
  refine y9 Z Z λW s=>⟨kF ?_,s.ext⟩
  first
   | (rw [aS];exact ⟨λ_=>hall,λ_=>rfl⟩)
   | (rw [aS];exact ⟨λh=>(by cases h),λh=>absurd (hiff.1 h) (by rw [aU];exact λh=>e1 (h.2.1))⟩)
   | (rw [aS];exact ⟨λh=>(by cases h),λh=>absurd (hiff.1 h) (by rw [aU];exact λh=>e2 (h.2.2.1))⟩)
   | (rw [aS];exact ⟨λh=>(by cases h),λh=>absurd (hiff.1 h) (by rw [aU];exact λh=>e3 (h.2.2.2.1))⟩)
   | (rw [aS];exact ⟨λh=>(by cases h),λh=>absurd (hiff.1 h) (by rw [aU];exact λh=>e4 (h.2.2.2.2.1))⟩)
   | (rw [aS];exact ⟨λh=>(by cases h),λh=>absurd (hiff.1 h) (by rw [aU];exact λh=>e5 (h.2.2.2.2.2.1))⟩)
   | (rw [aS];exact ⟨λh=>(by cases h),λh=>absurd (hiff.1 h) (by rw [aU];exact λh=>e6 (by rw [h.2.2.2.2.2.2.2]))⟩)
   | (rw [aS];exact ⟨λh=>(by cases h),λh=>absurd (hiff.1 h) (by rw [aU];exact λh=>e7 h.2.2.2.2.2.2.1)⟩)
 refine .blR (z:=7) Z (qH _ _ _ _ _ _ _) Z Z (by simp [maxLen]) λb13=>.h1<|.blR (z:=7) Z (qH _ _ _ _ _ _ _) Z Z (by simp [maxLen]) λb11=>.a Z Z<|.fn (tl:=[_]) Z<|.aq Z<|.sq<|.sr<|.aq Z<|.bk<|.lp (X:=Nat × List Fm × List Fm × Value × Value × List Value × List Value) [] trivial [_,_] (λz=>[(5,z.2.2.2.1),(6,z.2.2.2.2.1),(7,.int .i64 ((z.2.1.length:Int) - 1))]) (λz=>H) (λz=>[.row 35 7 z.2.2.2.1 z.2.1.length z.2.2.2.2.2.1,.row 35 7 z.2.2.2.2.1 z.2.2.1.length z.2.2.2.2.2.2]) (λz=>eD H 7 (z.2.1.map (dFm .u8)) z.2.2.2.2.2.1/\eD H 7 (z.2.2.1.map (dFm .u8)) z.2.2.2.2.2.2/\z.2.1.length=z.2.2.1.length/\z.1+Fm.counts z.2.1<=Fm.count (.mk op nm fd a b ex args)/\(∀ g∈z.2.1,blF N g=true)/\z.2.1.length<=1+N * z.1/\(Fm.mk op nm fd a b ex args=Fm.mk opb nmb fdb ab bb exb argsb↔z.2.1=z.2.2.1)) (λz=>Fm.counts z.2.1) (0,[Fm.mk op nm fd a b ex args],[Fm.mk opb nmb fdb ab bb exb argsb],.slice (some ⟨b11,0,none⟩) 1 1,.slice (some ⟨b13,0,none⟩) 1 1,[.int .u8 op.toNat,cH nm,cH fd,.int .i64 a.toInt,.int .i64 b.toInt,.slice p1 ex.length c1,.slice p2 args.length c2],[.int .u8 opb.toNat,cH nmb,cH fdb,.int .i64 ab.toInt,.int .i64 bb.toInt,.slice p3 exb.length c3,.slice p4 argsb.length c4]) (λ_ s=>s) ⟨Z,Z,Z,Jt⟩ ⟨.single h Z,.single k Z,Z,by rw [Fm.counts,Fm.counts];omega,λg hg=>by rw [bQ.1 hg];exact hb,by simp,by simp⟩ λz hC=>?_
 obtain ⟨n,fs,gs,rf,rg,xf,xg⟩:=z;obtain ⟨zf,zg,hle,hcnt,hbf,hlen,hiff⟩:=hC;dsimp only at zf zg hle hcnt hbf hlen hiff|-;have hNn:N * n<=N * Fm.count (.mk op nm fd a b ex args):=lJ N (by omega);refine At.ra (size:=7) (r:=rf) (e:=35) Hm λpf cf e=>?_;subst e;refine At.ra (size:=7) (r:=rg) (e:=35) cP λpg cg e=>?_;subst e;refine .sq<|.sm Z<|.yw (.geq Z Z)<|.nt<|.cd Z (λh15=>?_) (λh15=>?_)
 ·try simp only [dt] at h15
  have hpos:0<fs.length:=by omega
  obtain ⟨fs0,f0,rfl⟩:∃ fs0 f0,fs=fs0++[f0]:=by
   rcases List.eq_nil_or_concat fs with h | ⟨t,x,h⟩
   ·subst h;simp at hpos hle
   ·exact ⟨t,x,by rw [h,List.concat_eq_append]⟩
  have hl0:(fs0++[f0]).length=fs0.length+1:=by rw [aF];rfl
  refine Sx.rowCase (size:=7) (r:=.slice pf (fs0++[f0]).length cf) (e:=35) Hm (by rw [hl0];exact Nat.succ_pos _) λwf c e hgc=>?_;injection e with e3 _ e4
  subst e3 e4;obtain ⟨cs0,r0,hc0,hx0⟩:=eD.at zf (i:=fs0.length) (d:=dFm .u8 f0) (by rw [bV,List.getElem?_append_right (by rw [bJ];exact aX _),bJ,iW];rfl)
  have hz0:eD H 7 (fs0.map (dFm .u8)) (xf.take (fs0.length * 7)):=by
   have h:=eD.take fs0.length zf;rw [bV,List.take_left' (by rw [bJ])] at h;exact h
  obtain ⟨gs0,g0,rfl⟩:∃ fs0 f0,gs=fs0++[f0]:=by
   rcases List.eq_nil_or_concat gs with h | ⟨t,x,h⟩
   ·subst h;simp at hpos hle
   ·exact ⟨t,x,by rw [h,List.concat_eq_append]⟩
  have hl1:(gs0++[g0]).length=gs0.length+1:=by rw [aF];rfl
  refine Sx.rowCase (size:=7) (r:=.slice pg (gs0++[g0]).length cg) (e:=35) cP (by rw [hl1];exact Nat.succ_pos _) λwg c e hgd=>?_;injection e with e3 _ e4
  subst e3 e4;obtain ⟨cs1,r1,hc1,hx1⟩:=eD.at zg (i:=gs0.length) (d:=dFm .u8 g0) (by rw [bV,List.getElem?_append_right (by rw [bJ];exact aX _),bJ,iW];rfl)
  have hz1:eD H 7 (gs0.map (dFm .u8)) (xg.take (gs0.length * 7)):=by
   have h:=eD.take gs0.length zg;rw [bV,List.take_left' (by rw [bJ])] at h;exact h
  obtain ⟨op0,nm0,fd0,a0,b0,ex0,args0⟩:=f0;obtain ⟨op1,nm1,fd1,a1,b1,ex1,gZ⟩:=g0;obtain ⟨q1,d1,q2,d2,rfl,hs0,hs3,_,_⟩:=iB r0;obtain ⟨q5,d5,q6,d6,rfl,hs5,hs6,_,_⟩:=iB r1;have hb0:=(vD.1 (hbf _ (cC.2 (.inr (bQ.2 rfl)))));rw [fD,Fm.counts,Fm.counts,nS] at hcnt;rw [hl0,hl1] at hle;rw [hl0] at hlen;have hNs:N * (n+1)=N * n+N:=Nat.mul_succ N n;have hcp0:=hs3.cap;have hcp1:=hs6.cap;refine .sk<|.tN<|.sq<|.bk<|.sq<|.ft (p:=.light _ _ (.light _ _ (.light _ _ (.light _ _ (.light _ _ (.light _ _ (.light _ _ (.light _ _ (.alt _ _ _ (.alt _ _ _ (.alt _ _ _ (.done) (.no)) (.no)) (.alt _ _ _ (.alt _ _ _ (.alt _ _ _ (.done) (.no)) (.no)) (.no))))))))))) 11 (.light 0 (.light 1 (.light 2 (.light 3 (.light 4 (.light 5 (.light 6 (.light 7 (.alt 8 0 (.alt 9 0 (.alt 10 2 (.done) (.no)) (.no)) (.alt 9 0 (.alt 8 0 (.alt 10 2 (.done) (.no)) (.no)) (.no))))))))))) (by kernel_rfl) (by kernel_rfl) Z<|.mv Z<|.mv Z<|.yw (.indexSl eG Z Z (i:=fs0.length) (by rw [hl0];omega) (by rw [hl0];omega) (q:=fs0.length * 7) (by omega))<|.yw (.loadR (vs:=cFm .u8 op0 nm0 fd0 a0 b0 (.slice q1 ex0.length d1) (.slice q2 args0.length d2)) Z bZ Hm Z hx0)<|.mv Z<|.mv Z<|.yw (.indexSl eG Z Z (i:=gs0.length) (by rw [hl0];omega) (by rw [hl1];omega) (q:=gs0.length * 7) (by omega))<|.yw (.loadR (vs:=cFm .u8 op1 nm1 fd1 a1 b1 (.slice q5 ex1.length d5) (.slice q6 gZ.length d6)) Z bZ cP Z hx1)<|.h ?_ (.h ?_ .nn)
  ·
   refine .al dX Z λb8=>.h1<|.al dX Z λb9=>.h1<|.sW kP Z Z cV (by simp [Value.oneCell',cH]) Z ((.yv (.loadR (vs:=cFm .u8 op1 nm1 fd1 a1 b1 (.slice q5 ex1.length d5) (.slice q6 gZ.length d6)) Z bZ pY Z hx1)<|.yv (.indexSl eG Z Z (i:=gs0.length) (by rw [hl0];omega) (by rw [hl1];omega) (q:=gs0.length * 7) (by omega))<|.yv (.move Z)<|.yv (.move Z)<|.d4<|.nl))<|.fn (tl:=[_]) Z<|.sX .head Z Z cV Z<|.nt<|.sq<|.sr<|.fA Z eH<|.lD Z iA cP Z<|.fA Z eH<|.lD Z iA Hm Z<|.yw (.neq Z Z)<|.mv Z<|.b2 (λh32=>?_) (λh32=>?_)
   ·try simp only [dt] at h32
    have e1:=(λe=>h32 (by rw [e]):¬ op0=op1);refine .gG<|.gG<|.gG<|.gG<|.gG<|.yw (.pickT Z Z)<|.mv Z<|.gG<|.gG<|.gG<|.gG<|.gG<|.yw (.pickT Z Z)<|.mv Z<|.gG<|.gG<|.gG<|.gG<|.gG<|.yw (.pickT Z Z)<|.mv Z<|.gG<|.gG<|.gG<|.gG<|.gG<|.yw (.pickT Z Z)<|.mv Z<|.gG<|.gG<|.gG<|.gG<|.gG<|.gG<|.gG<|.yw (.pickT Z Z)<|.mv Z<|.gG<|.gG<|.gG<|.gG<|.gG<|.gG<|.yw (.pickT Z Z)<|.nt<|.cT Z<|.sr<|.az Z<|.tR<|.bR<|.tR<|.tR<|.bR<|.tR<|?_
    refine y9 Z Z λW s=>⟨kF ?_,s.ext⟩
    first
     | (rw [aS];exact ⟨λ_=>hall,λ_=>rfl⟩)
     | (rw [aS];exact ⟨λh=>(by cases h),λh=>absurd (hiff.1 h) (by rw [aU];exact λh=>e1 (h.2.1))⟩)
     | (rw [aS];exact ⟨λh=>(by cases h),λh=>absurd (hiff.1 h) (by rw [aU];exact λh=>e2 (h.2.2.1))⟩)
     | (rw [aS];exact ⟨λh=>(by cases h),λh=>absurd (hiff.1 h) (by rw [aU];exact λh=>e3 (h.2.2.2.1))⟩)
     | (rw [aS];exact ⟨λh=>(by cases h),λh=>absurd (hiff.1 h) (by rw [aU];exact λh=>e4 (h.2.2.2.2.1))⟩)
     | (rw [aS];exact ⟨λh=>(by cases h),λh=>absurd (hiff.1 h) (by rw [aU];exact λh=>e5 (h.2.2.2.2.2.1))⟩)
     | (rw [aS];exact ⟨λh=>(by cases h),λh=>absurd (hiff.1 h) (by rw [aU];exact λh=>e6 (by rw [h.2.2.2.2.2.2.2]))⟩)
     | (rw [aS];exact ⟨λh=>(by cases h),λh=>absurd (hiff.1 h) (by rw [aU];exact λh=>e7 h.2.2.2.2.2.2.1)⟩)
   try simp only [df] at h32
   have e1:=aQ.1 (by omega:op0.toNat=op1.toNat);refine .gy (.fieldAddr Z fX)<|.gy (.load Z cZ cP Z)<|.gy (.fieldAddr Z fX)<|.gy (.load Z cZ Hm Z)<|.gy (.neS Z Z)<|.yw (.pickF Z Z)<|.mv Z<|.b2 (λh39=>?_) (λh39=>?_)
   ·try simp only [dt] at h39
    have e2:=(id h39:¬ nm0=nm1);refine .gG<|.gG<|.gG<|.gG<|.gG<|.yw (.pickT Z Z)<|.mv Z<|.gG<|.gG<|.gG<|.gG<|.gG<|.yw (.pickT Z Z)<|.mv Z<|.gG<|.gG<|.gG<|.gG<|.gG<|.yw (.pickT Z Z)<|.mv Z<|.gG<|.gG<|.gG<|.gG<|.gG<|.gG<|.gG<|.yw (.pickT Z Z)<|.mv Z<|.gG<|.gG<|.gG<|.gG<|.gG<|.gG<|.yw (.pickT Z Z)<|.nt<|.cT Z<|.sr<|.az Z<|.tR<|.bR<|.tR<|.tR<|.bR<|.tR<|?_
    refine y9 Z Z λW s=>⟨kF ?_,s.ext⟩
    first
     | (rw [aS];exact ⟨λ_=>hall,λ_=>rfl⟩)
     | (rw [aS];exact ⟨λh=>(by cases h),λh=>absurd (hiff.1 h) (by rw [aU];exact λh=>e1 (h.2.1))⟩)
     | (rw [aS];exact ⟨λh=>(by cases h),λh=>absurd (hiff.1 h) (by rw [aU];exact λh=>e2 (h.2.2.1))⟩)
     | (rw [aS];exact ⟨λh=>(by cases h),λh=>absurd (hiff.1 h) (by rw [aU];exact λh=>e3 (h.2.2.2.1))⟩)
     | (rw [aS];exact ⟨λh=>(by cases h),λh=>absurd (hiff.1 h) (by rw [aU];exact λh=>e4 (h.2.2.2.2.1))⟩)
     | (rw [aS];exact ⟨λh=>(by cases h),λh=>absurd (hiff.1 h) (by rw [aU];exact λh=>e5 (h.2.2.2.2.2.1))⟩)
     | (rw [aS];exact ⟨λh=>(by cases h),λh=>absurd (hiff.1 h) (by rw [aU];exact λh=>e6 (by rw [h.2.2.2.2.2.2.2]))⟩)
     | (rw [aS];exact ⟨λh=>(by cases h),λh=>absurd (hiff.1 h) (by rw [aU];exact λh=>e7 h.2.2.2.2.2.2.1)⟩)
   try simp only [df] at h39
   have e2:=(gJ.1 h39:nm0=nm1);refine .gy (.fieldAddr Z fW)<|.gy (.load Z cZ cP Z)<|.gy (.fieldAddr Z fW)<|.gy (.load Z cZ Hm Z)<|.gy (.neS Z Z)<|.yw (.pickF Z Z)<|.mv Z<|.b2 (λh46=>?_) (λh46=>?_)
   ·try simp only [dt] at h46
    have e3:=(id h46:¬ fd0=fd1);refine .gG<|.gG<|.gG<|.gG<|.gG<|.yw (.pickT Z Z)<|.mv Z<|.gG<|.gG<|.gG<|.gG<|.gG<|.yw (.pickT Z Z)<|.mv Z<|.gG<|.gG<|.gG<|.gG<|.gG<|.gG<|.gG<|.yw (.pickT Z Z)<|.mv Z<|.gG<|.gG<|.gG<|.gG<|.gG<|.gG<|.yw (.pickT Z Z)<|.nt<|.cT Z<|.sr<|.az Z<|.tR<|.bR<|.tR<|.tR<|.bR<|.tR<|?_
    refine y9 Z Z λW s=>⟨kF ?_,s.ext⟩
    first
     | (rw [aS];exact ⟨λ_=>hall,λ_=>rfl⟩)
     | (rw [aS];exact ⟨λh=>(by cases h),λh=>absurd (hiff.1 h) (by rw [aU];exact λh=>e1 (h.2.1))⟩)
     | (rw [aS];exact ⟨λh=>(by cases h),λh=>absurd (hiff.1 h) (by rw [aU];exact λh=>e2 (h.2.2.1))⟩)
     | (rw [aS];exact ⟨λh=>(by cases h),λh=>absurd (hiff.1 h) (by rw [aU];exact λh=>e3 (h.2.2.2.1))⟩)
     | (rw [aS];exact ⟨λh=>(by cases h),λh=>absurd (hiff.1 h) (by rw [aU];exact λh=>e4 (h.2.2.2.2.1))⟩)
     | (rw [aS];exact ⟨λh=>(by cases h),λh=>absurd (hiff.1 h) (by rw [aU];exact λh=>e5 (h.2.2.2.2.2.1))⟩)
     | (rw [aS];exact ⟨λh=>(by cases h),λh=>absurd (hiff.1 h) (by rw [aU];exact λh=>e6 (by rw [h.2.2.2.2.2.2.2]))⟩)
     | (rw [aS];exact ⟨λh=>(by cases h),λh=>absurd (hiff.1 h) (by rw [aU];exact λh=>e7 h.2.2.2.2.2.2.1)⟩)
   try simp only [df] at h46
   have e3:=(gJ.1 h46:fd0=fd1);refine .gy (.fieldAddr Z eX)<|.gy (.load Z cS cP Z)<|.gy (.fieldAddr Z eX)<|.gy (.load Z cS Hm Z)<|.gy (.neq Z Z)<|.yw (.pickF Z Z)<|.mv Z<|.b2 (λh53=>?_) (λh53=>?_)
   ·try simp only [dt] at h53
    have e4:=(λe=>h53 (by rw [e]):¬ a0=a1);refine .gG<|.gG<|.gG<|.gG<|.gG<|.yw (.pickT Z Z)<|.mv Z<|.gG<|.gG<|.gG<|.gG<|.gG<|.gG<|.gG<|.yw (.pickT Z Z)<|.mv Z<|.gG<|.gG<|.gG<|.gG<|.gG<|.gG<|.yw (.pickT Z Z)<|.nt<|.cT Z<|.sr<|.az Z<|.tR<|.bR<|.tR<|.tR<|.bR<|.tR<|?_
    refine y9 Z Z λW s=>⟨kF ?_,s.ext⟩
    first
     | (rw [aS];exact ⟨λ_=>hall,λ_=>rfl⟩)
     | (rw [aS];exact ⟨λh=>(by cases h),λh=>absurd (hiff.1 h) (by rw [aU];exact λh=>e1 (h.2.1))⟩)
     | (rw [aS];exact ⟨λh=>(by cases h),λh=>absurd (hiff.1 h) (by rw [aU];exact λh=>e2 (h.2.2.1))⟩)
     | (rw [aS];exact ⟨λh=>(by cases h),λh=>absurd (hiff.1 h) (by rw [aU];exact λh=>e3 (h.2.2.2.1))⟩)
     | (rw [aS];exact ⟨λh=>(by cases h),λh=>absurd (hiff.1 h) (by rw [aU];exact λh=>e4 (h.2.2.2.2.1))⟩)
     | (rw [aS];exact ⟨λh=>(by cases h),λh=>absurd (hiff.1 h) (by rw [aU];exact λh=>e5 (h.2.2.2.2.2.1))⟩)
     | (rw [aS];exact ⟨λh=>(by cases h),λh=>absurd (hiff.1 h) (by rw [aU];exact λh=>e6 (by rw [h.2.2.2.2.2.2.2]))⟩)
     | (rw [aS];exact ⟨λh=>(by cases h),λh=>absurd (hiff.1 h) (by rw [aU];exact λh=>e7 h.2.2.2.2.2.2.1)⟩)
   try simp only [df] at h53
   have e4:=dQ.1 (by omega:a0.toInt=a1.toInt);refine .gy (.fieldAddr Z eS)<|.gy (.load Z cS cP Z)<|.gy (.fieldAddr Z eS)<|.gy (.load Z cS Hm Z)<|.gy (.neq Z Z)<|.yw (.pickF Z Z)<|.mv Z<|.b2 (λh60=>?_) (λh60=>?_)
   ·try simp only [dt] at h60
    have e5:=(λe=>h60 (by rw [e]):¬ b0=b1);refine .gG<|.gG<|.gG<|.gG<|.gG<|.gG<|.gG<|.yw (.pickT Z Z)<|.mv Z<|.gG<|.gG<|.gG<|.gG<|.gG<|.gG<|.yw (.pickT Z Z)<|.nt<|.cT Z<|.sr<|.az Z<|.tR<|.bR<|.tR<|.tR<|.bR<|.tR<|?_
    refine y9 Z Z λW s=>⟨kF ?_,s.ext⟩
    first
     | (rw [aS];exact ⟨λ_=>hall,λ_=>rfl⟩)
     | (rw [aS];exact ⟨λh=>(by cases h),λh=>absurd (hiff.1 h) (by rw [aU];exact λh=>e1 (h.2.1))⟩)
     | (rw [aS];exact ⟨λh=>(by cases h),λh=>absurd (hiff.1 h) (by rw [aU];exact λh=>e2 (h.2.2.1))⟩)
     | (rw [aS];exact ⟨λh=>(by cases h),λh=>absurd (hiff.1 h) (by rw [aU];exact λh=>e3 (h.2.2.2.1))⟩)
     | (rw [aS];exact ⟨λh=>(by cases h),λh=>absurd (hiff.1 h) (by rw [aU];exact λh=>e4 (h.2.2.2.2.1))⟩)
     | (rw [aS];exact ⟨λh=>(by cases h),λh=>absurd (hiff.1 h) (by rw [aU];exact λh=>e5 (h.2.2.2.2.2.1))⟩)
     | (rw [aS];exact ⟨λh=>(by cases h),λh=>absurd (hiff.1 h) (by rw [aU];exact λh=>e6 (by rw [h.2.2.2.2.2.2.2]))⟩)
     | (rw [aS];exact ⟨λh=>(by cases h),λh=>absurd (hiff.1 h) (by rw [aU];exact λh=>e7 h.2.2.2.2.2.2.1)⟩)
   try simp only [df] at h60
   have e5:=dQ.1 (by omega:b0.toInt=b1.toInt);refine .gy (.fieldAddr Z cU)<|.gy (.load Z eU cP Z)<|.gy (.lenSl eG Z)<|.gy (.fieldAddr Z cU)<|.gy (.load Z eU Hm Z)<|.gy (.lenSl eG Z)<|.gy (.neq Z Z)<|.yw (.pickF Z Z)<|.mv Z<|.b2 (λh69=>?_) (λh69=>?_)
   ·try simp only [dt] at h69
    have e6:=(λe=>h69 (by rw [e]):¬ args0.length=gZ.length);refine .gG<|.gG<|.gG<|.gG<|.gG<|.gG<|.yw (.pickT Z Z)<|.nt<|.cT Z<|.sr<|.az Z<|.tR<|.bR<|.tR<|.tR<|.bR<|.tR<|?_
    refine y9 Z Z λW s=>⟨kF ?_,s.ext⟩
    first
     | (rw [aS];exact ⟨λ_=>hall,λ_=>rfl⟩)
     | (rw [aS];exact ⟨λh=>(by cases h),λh=>absurd (hiff.1 h) (by rw [aU];exact λh=>e1 (h.2.1))⟩)
     | (rw [aS];exact ⟨λh=>(by cases h),λh=>absurd (hiff.1 h) (by rw [aU];exact λh=>e2 (h.2.2.1))⟩)
     | (rw [aS];exact ⟨λh=>(by cases h),λh=>absurd (hiff.1 h) (by rw [aU];exact λh=>e3 (h.2.2.2.1))⟩)
     | (rw [aS];exact ⟨λh=>(by cases h),λh=>absurd (hiff.1 h) (by rw [aU];exact λh=>e4 (h.2.2.2.2.1))⟩)
     | (rw [aS];exact ⟨λh=>(by cases h),λh=>absurd (hiff.1 h) (by rw [aU];exact λh=>e5 (h.2.2.2.2.2.1))⟩)
     | (rw [aS];exact ⟨λh=>(by cases h),λh=>absurd (hiff.1 h) (by rw [aU];exact λh=>e6 (by rw [h.2.2.2.2.2.2.2]))⟩)
     | (rw [aS];exact ⟨λh=>(by cases h),λh=>absurd (hiff.1 h) (by rw [aU];exact λh=>e7 h.2.2.2.2.2.2.1)⟩)
   try simp only [df] at h69
   have e6:=(by omega:args0.length=gZ.length);refine .gy (.fieldAddr Z cK)<|.gy (.load Z dE cP Z)<|.gy (.fieldAddr Z cK)<|.gy (.load Z dE Hm Z)<|.gy (.call yR Z (λW s=>FZ H 52 yQ ex0 ex1 (λa _=>uE H a) _ _ hs0 hs5 W s.agr))<|.gy (.not Z)<|.yw (.pickF Z Z)<|.nt<|.cd Z (λh76=>?_) (λh76=>?_)
   ·try simp only [dt] at h76
    have e7:=CC.1 (by simpa using h76);refine .sr<|.az Z<|.tR<|.bR<|.tR<|.tR<|.bR<|.tR<|?_
    refine y9 Z Z λW s=>⟨kF ?_,s.ext⟩
    first
     | (rw [aS];exact ⟨λ_=>hall,λ_=>rfl⟩)
     | (rw [aS];exact ⟨λh=>(by cases h),λh=>absurd (hiff.1 h) (by rw [aU];exact λh=>e1 (h.2.1))⟩)
     | (rw [aS];exact ⟨λh=>(by cases h),λh=>absurd (hiff.1 h) (by rw [aU];exact λh=>e2 (h.2.2.1))⟩)
     | (rw [aS];exact ⟨λh=>(by cases h),λh=>absurd (hiff.1 h) (by rw [aU];exact λh=>e3 (h.2.2.2.1))⟩)
     | (rw [aS];exact ⟨λh=>(by cases h),λh=>absurd (hiff.1 h) (by rw [aU];exact λh=>e4 (h.2.2.2.2.1))⟩)
     | (rw [aS];exact ⟨λh=>(by cases h),λh=>absurd (hiff.1 h) (by rw [aU];exact λh=>e5 (h.2.2.2.2.2.1))⟩)
     | (rw [aS];exact ⟨λh=>(by cases h),λh=>absurd (hiff.1 h) (by rw [aU];exact λh=>e6 (by rw [h.2.2.2.2.2.2.2]))⟩)
     | (rw [aS];exact ⟨λh=>(by cases h),λh=>absurd (hiff.1 h) (by rw [aU];exact λh=>e7 h.2.2.2.2.2.2.1)⟩)
   try simp only [df] at h76
   have e7:=aS.1 (by simpa using h76);refine Sx.At.rcut (size:=7) (m:=fs0.length) (ys:=xf.take (fs0.length * 7)) mD (by rw [hl0];exact Nat.le_succ _) rfl ?_;refine Sx.At.rcut (size:=7) (m:=gs0.length) (ys:=xg.take (gs0.length * 7)) mP (by rw [hl1];exact Nat.le_succ _) rfl ?_;exact .sk<|.tN<|.fL 12 [(0,0),(1,0),(2,0),(3,0),(4,0),(6,0),(7,0),(8,0),(9,0),(10,0),(5,3),(11,3)]<|.mv Z<|.mv Z<|.yw (.cutHi eG Z Z (h:=fs0.length) (by rw [hl0];omega) (by rw [hl0] at hgc;omega) (λq e=>by cases e;rfl))<|.fA Z cU<|.lD Z eU cP Z<|.mv Z<|.mv Z<|.yw (.cutHi eG Z Z (h:=gs0.length) (by rw [hl0];omega) (by rw [hl1] at hgd;omega) (λq e=>by cases e;rfl))<|.fA Z cU<|.lD Z eU Hm Z<|.apD rW Z (λ_ _=>mD) Z hs3 (by simp only [maxLen];omega) (by omega) Z (λ_ _=>(.yv (.load Z eU Hm Z)<|.yv (.fieldAddr Z cU)<|.yv (.cutHi eG Z Z (h:=gs0.length) (by rw [hl0];omega) (by rw [hl1] at hgd;omega) (λq e=>by cases e;rfl))<|.yv (.move Z)<|.yv (.move Z)<|.d3<|.d2<|.nl)) λnews pN cN hzn=>.apD rW Z (λ_ _=>mP) Z hs6 (by simp only [maxLen];omega) (by omega) Z (λ_ _=>(.d4<|.d4<|.d2<|.nl)) λmews pM cM hzm=>.fn (tl:=[_,_]) Z<|.a Z Z<|.a Z Z<|.nl<|.bN<|.tN<|.rg<|.mv Z<|.yw (.lenSl eG Z)<|.yw (.sub Z Z (w6 (by omega)))<|.aq Z<|.ag (x:=(n,fs0++[Fm.mk op0 nm0 fd0 a0 b0 ex0 args0],gs0++[Fm.mk op1 nm1 fd1 a1 b1 ex1 gZ],Value.slice (some ⟨wf,0,none⟩) (fs0++[Fm.mk op0 nm0 fd0 a0 b0 ex0 args0]).length cf,Value.slice (some ⟨wg,0,none⟩) (gs0++[Fm.mk op1 nm1 fd1 a1 b1 ex1 gZ]).length cg,xf,xg)) (n+1,fs0++args0,gs0++gZ,Value.slice pN (fs0.length+args0.length) cN,Value.slice pM (gs0.length+gZ.length) cM,xf.take (fs0.length * 7)++news,xg.take (gs0.length * 7)++mews) ⟨Z,Z,by dsimp only;exact congrArg (λm:Nat=>some (Value.int .i64 ((m:Int) - 1))) (aF ).symm,Jt⟩ trivial (λ_ s=>by dsimp only;rw [aF,aF];exact (s.pick [2,3,4,5] _ Z Z)) ⟨by rw [bV];exact hz0.app hzn,by rw [bV];exact hz1.app hzm,by dsimp only;rw [aF,aF];omega,by dsimp only;rw [fD];omega,λe he=>by rcases cC.1 he with h | h;exact hbf e (cC.2 (.inl h));exact hb0.2 e h,by dsimp only;rw [aF,hNs];omega,by dsimp only;exact hiff.trans (BT e1 e2 e3 e4 e5 e6 e7 hle)⟩ (by dsimp only;rw [fD,fD,Fm.counts,Fm.counts,nS];omega)
  refine .al dX Z λb9=>.h1<|.al dX Z λb8=>.h1<|.sW .head Z Z cV (by simp [Value.oneCell',cH]) Z ((.yv (.loadR (vs:=cFm .u8 op1 nm1 fd1 a1 b1 (.slice q5 ex1.length d5) (.slice q6 gZ.length d6)) Z bZ pY Z hx1)<|.yv (.indexSl eG Z Z (i:=gs0.length) (by rw [hl0];omega) (by rw [hl1];omega) (q:=gs0.length * 7) (by omega))<|.yv (.move Z)<|.yv (.move Z)<|.d4<|.nl))<|.fn (tl:=[_]) Z<|.sX kP Z Z cV Z<|.nt<|.sq<|.sr<|.fA Z eH<|.lD Z iA Hm Z<|.fA Z eH<|.lD Z iA cP Z<|.yw (.neq Z Z)<|.mv Z<|.b2 (λh32=>?_) (λh32=>?_)
  ·try simp only [dt] at h32
   have e1:=(λe=>h32 (by rw [e]):¬ op0=op1);refine .gG<|.gG<|.gG<|.gG<|.gG<|.yw (.pickT Z Z)<|.mv Z<|.gG<|.gG<|.gG<|.gG<|.gG<|.yw (.pickT Z Z)<|.mv Z<|.gG<|.gG<|.gG<|.gG<|.gG<|.yw (.pickT Z Z)<|.mv Z<|.gG<|.gG<|.gG<|.gG<|.gG<|.yw (.pickT Z Z)<|.mv Z<|.gG<|.gG<|.gG<|.gG<|.gG<|.gG<|.gG<|.yw (.pickT Z Z)<|.mv Z<|.gG<|.gG<|.gG<|.gG<|.gG<|.gG<|.yw (.pickT Z Z)<|.nt<|.cT Z<|.sr<|.az Z<|.tR<|.bR<|.tR<|.tR<|.bR<|.tR<|?_
   refine y9 Z Z λW s=>⟨kF ?_,s.ext⟩
   first
    | (rw [aS];exact ⟨λ_=>hall,λ_=>rfl⟩)
    | (rw [aS];exact ⟨λh=>(by cases h),λh=>absurd (hiff.1 h) (by rw [aU];exact λh=>e1 (h.2.1))⟩)
    | (rw [aS];exact ⟨λh=>(by cases h),λh=>absurd (hiff.1 h) (by rw [aU];exact λh=>e2 (h.2.2.1))⟩)
    | (rw [aS];exact ⟨λh=>(by cases h),λh=>absurd (hiff.1 h) (by rw [aU];exact λh=>e3 (h.2.2.2.1))⟩)
    | (rw [aS];exact ⟨λh=>(by cases h),λh=>absurd (hiff.1 h) (by rw [aU];exact λh=>e4 (h.2.2.2.2.1))⟩)
    | (rw [aS];exact ⟨λh=>(by cases h),λh=>absurd (hiff.1 h) (by rw [aU];exact λh=>e5 (h.2.2.2.2.2.1))⟩)
    | (rw [aS];exact ⟨λh=>(by cases h),λh=>absurd (hiff.1 h) (by rw [aU];exact λh=>e6 (by rw [h.2.2.2.2.2.2.2]))⟩)
    | (rw [aS];exact ⟨λh=>(by cases h),λh=>absurd (hiff.1 h) (by rw [aU];exact λh=>e7 h.2.2.2.2.2.2.1)⟩)
  try simp only [df] at h32
  have e1:=aQ.1 (by omega:op0.toNat=op1.toNat);refine .gy (.fieldAddr Z fX)<|.gy (.load Z cZ Hm Z)<|.gy (.fieldAddr Z fX)<|.gy (.load Z cZ cP Z)<|.gy (.neS Z Z)<|.yw (.pickF Z Z)<|.mv Z<|.b2 (λh39=>?_) (λh39=>?_)
  ·try simp only [dt] at h39
   have e2:=(id h39:¬ nm0=nm1);refine .gG<|.gG<|.gG<|.gG<|.gG<|.yw (.pickT Z Z)<|.mv Z<|.gG<|.gG<|.gG<|.gG<|.gG<|.yw (.pickT Z Z)<|.mv Z<|.gG<|.gG<|.gG<|.gG<|.gG<|.yw (.pickT Z Z)<|.mv Z<|.gG<|.gG<|.gG<|.gG<|.gG<|.gG<|.gG<|.yw (.pickT Z Z)<|.mv Z<|.gG<|.gG<|.gG<|.gG<|.gG<|.gG<|.yw (.pickT Z Z)<|.nt<|.cT Z<|.sr<|.az Z<|.tR<|.bR<|.tR<|.tR<|.bR<|.tR<|?_
   refine y9 Z Z λW s=>⟨kF ?_,s.ext⟩
   first
    | (rw [aS];exact ⟨λ_=>hall,λ_=>rfl⟩)
    | (rw [aS];exact ⟨λh=>(by cases h),λh=>absurd (hiff.1 h) (by rw [aU];exact λh=>e1 (h.2.1))⟩)
    | (rw [aS];exact ⟨λh=>(by cases h),λh=>absurd (hiff.1 h) (by rw [aU];exact λh=>e2 (h.2.2.1))⟩)
    | (rw [aS];exact ⟨λh=>(by cases h),λh=>absurd (hiff.1 h) (by rw [aU];exact λh=>e3 (h.2.2.2.1))⟩)
    | (rw [aS];exact ⟨λh=>(by cases h),λh=>absurd (hiff.1 h) (by rw [aU];exact λh=>e4 (h.2.2.2.2.1))⟩)
    | (rw [aS];exact ⟨λh=>(by cases h),λh=>absurd (hiff.1 h) (by rw [aU];exact λh=>e5 (h.2.2.2.2.2.1))⟩)
    | (rw [aS];exact ⟨λh=>(by cases h),λh=>absurd (hiff.1 h) (by rw [aU];exact λh=>e6 (by rw [h.2.2.2.2.2.2.2]))⟩)
    | (rw [aS];exact ⟨λh=>(by cases h),λh=>absurd (hiff.1 h) (by rw [aU];exact λh=>e7 h.2.2.2.2.2.2.1)⟩)
  try simp only [df] at h39
  have e2:=(gJ.1 h39:nm0=nm1);refine .gy (.fieldAddr Z fW)<|.gy (.load Z cZ Hm Z)<|.gy (.fieldAddr Z fW)<|.gy (.load Z cZ cP Z)<|.gy (.neS Z Z)<|.yw (.pickF Z Z)<|.mv Z<|.b2 (λh46=>?_) (λh46=>?_)
  ·try simp only [dt] at h46
   have e3:=(id h46:¬ fd0=fd1);refine .gG<|.gG<|.gG<|.gG<|.gG<|.yw (.pickT Z Z)<|.mv Z<|.gG<|.gG<|.gG<|.gG<|.gG<|.yw (.pickT Z Z)<|.mv Z<|.gG<|.gG<|.gG<|.gG<|.gG<|.gG<|.gG<|.yw (.pickT Z Z)<|.mv Z<|.gG<|.gG<|.gG<|.gG<|.gG<|.gG<|.yw (.pickT Z Z)<|.nt<|.cT Z<|.sr<|.az Z<|.tR<|.bR<|.tR<|.tR<|.bR<|.tR<|?_
   refine y9 Z Z λW s=>⟨kF ?_,s.ext⟩
   first
    | (rw [aS];exact ⟨λ_=>hall,λ_=>rfl⟩)
    | (rw [aS];exact ⟨λh=>(by cases h),λh=>absurd (hiff.1 h) (by rw [aU];exact λh=>e1 (h.2.1))⟩)
    | (rw [aS];exact ⟨λh=>(by cases h),λh=>absurd (hiff.1 h) (by rw [aU];exact λh=>e2 (h.2.2.1))⟩)
    | (rw [aS];exact ⟨λh=>(by cases h),λh=>absurd (hiff.1 h) (by rw [aU];exact λh=>e3 (h.2.2.2.1))⟩)
    | (rw [aS];exact ⟨λh=>(by cases h),λh=>absurd (hiff.1 h) (by rw [aU];exact λh=>e4 (h.2.2.2.2.1))⟩)
    | (rw [aS];exact ⟨λh=>(by cases h),λh=>absurd (hiff.1 h) (by rw [aU];exact λh=>e5 (h.2.2.2.2.2.1))⟩)
    | (rw [aS];exact ⟨λh=>(by cases h),λh=>absurd (hiff.1 h) (by rw [aU];exact λh=>e6 (by rw [h.2.2.2.2.2.2.2]))⟩)
    | (rw [aS];exact ⟨λh=>(by cases h),λh=>absurd (hiff.1 h) (by rw [aU];exact λh=>e7 h.2.2.2.2.2.2.1)⟩)
  try simp only [df] at h46
  have e3:=(gJ.1 h46:fd0=fd1);refine .gy (.fieldAddr Z eX)<|.gy (.load Z cS Hm Z)<|.gy (.fieldAddr Z eX)<|.gy (.load Z cS cP Z)<|.gy (.neq Z Z)<|.yw (.pickF Z Z)<|.mv Z<|.b2 (λh53=>?_) (λh53=>?_)
  ·try simp only [dt] at h53
   have e4:=(λe=>h53 (by rw [e]):¬ a0=a1);refine .gG<|.gG<|.gG<|.gG<|.gG<|.yw (.pickT Z Z)<|.mv Z<|.gG<|.gG<|.gG<|.gG<|.gG<|.gG<|.gG<|.yw (.pickT Z Z)<|.mv Z<|.gG<|.gG<|.gG<|.gG<|.gG<|.gG<|.yw (.pickT Z Z)<|.nt<|.cT Z<|.sr<|.az Z<|.tR<|.bR<|.tR<|.tR<|.bR<|.tR<|?_
   refine y9 Z Z λW s=>⟨kF ?_,s.ext⟩
   first
    | (rw [aS];exact ⟨λ_=>hall,λ_=>rfl⟩)
    | (rw [aS];exact ⟨λh=>(by cases h),λh=>absurd (hiff.1 h) (by rw [aU];exact λh=>e1 (h.2.1))⟩)
    | (rw [aS];exact ⟨λh=>(by cases h),λh=>absurd (hiff.1 h) (by rw [aU];exact λh=>e2 (h.2.2.1))⟩)
    | (rw [aS];exact ⟨λh=>(by cases h),λh=>absurd (hiff.1 h) (by rw [aU];exact λh=>e3 (h.2.2.2.1))⟩)
    | (rw [aS];exact ⟨λh=>(by cases h),λh=>absurd (hiff.1 h) (by rw [aU];exact λh=>e4 (h.2.2.2.2.1))⟩)
    | (rw [aS];exact ⟨λh=>(by cases h),λh=>absurd (hiff.1 h) (by rw [aU];exact λh=>e5 (h.2.2.2.2.2.1))⟩)
    | (rw [aS];exact ⟨λh=>(by cases h),λh=>absurd (hiff.1 h) (by rw [aU];exact λh=>e6 (by rw [h.2.2.2.2.2.2.2]))⟩)
    | (rw [aS];exact ⟨λh=>(by cases h),λh=>absurd (hiff.1 h) (by rw [aU];exact λh=>e7 h.2.2.2.2.2.2.1)⟩)
  try simp only [df] at h53
  have e4:=dQ.1 (by omega:a0.toInt=a1.toInt);refine .gy (.fieldAddr Z eS)<|.gy (.load Z cS Hm Z)<|.gy (.fieldAddr Z eS)<|.gy (.load Z cS cP Z)<|.gy (.neq Z Z)<|.yw (.pickF Z Z)<|.mv Z<|.b2 (λh60=>?_) (λh60=>?_)
  ·try simp only [dt] at h60
   have e5:=(λe=>h60 (by rw [e]):¬ b0=b1);refine .gG<|.gG<|.gG<|.gG<|.gG<|.gG<|.gG<|.yw (.pickT Z Z)<|.mv Z<|.gG<|.gG<|.gG<|.gG<|.gG<|.gG<|.yw (.pickT Z Z)<|.nt<|.cT Z<|.sr<|.az Z<|.tR<|.bR<|.tR<|.tR<|.bR<|.tR<|?_
   refine y9 Z Z λW s=>⟨kF ?_,s.ext⟩
   first
    | (rw [aS];exact ⟨λ_=>hall,λ_=>rfl⟩)
    | (rw [aS];exact ⟨λh=>(by cases h),λh=>absurd (hiff.1 h) (by rw [aU];exact λh=>e1 (h.2.1))⟩)
    | (rw [aS];exact ⟨λh=>(by cases h),λh=>absurd (hiff.1 h) (by rw [aU];exact λh=>e2 (h.2.2.1))⟩)
    | (rw [aS];exact ⟨λh=>(by cases h),λh=>absurd (hiff.1 h) (by rw [aU];exact λh=>e3 (h.2.2.2.1))⟩)
    | (rw [aS];exact ⟨λh=>(by cases h),λh=>absurd (hiff.1 h) (by rw [aU];exact λh=>e4 (h.2.2.2.2.1))⟩)
    | (rw [aS];exact ⟨λh=>(by cases h),λh=>absurd (hiff.1 h) (by rw [aU];exact λh=>e5 (h.2.2.2.2.2.1))⟩)
    | (rw [aS];exact ⟨λh=>(by cases h),λh=>absurd (hiff.1 h) (by rw [aU];exact λh=>e6 (by rw [h.2.2.2.2.2.2.2]))⟩)
    | (rw [aS];exact ⟨λh=>(by cases h),λh=>absurd (hiff.1 h) (by rw [aU];exact λh=>e7 h.2.2.2.2.2.2.1)⟩)
  try simp only [df] at h60
  have e5:=dQ.1 (by omega:b0.toInt=b1.toInt);refine .gy (.fieldAddr Z cU)<|.gy (.load Z eU Hm Z)<|.gy (.lenSl eG Z)<|.gy (.fieldAddr Z cU)<|.gy (.load Z eU cP Z)<|.gy (.lenSl eG Z)<|.gy (.neq Z Z)<|.yw (.pickF Z Z)<|.mv Z<|.b2 (λh69=>?_) (λh69=>?_)
  ·try simp only [dt] at h69
   have e6:=(λe=>h69 (by rw [e]):¬ args0.length=gZ.length);refine .gG<|.gG<|.gG<|.gG<|.gG<|.gG<|.yw (.pickT Z Z)<|.nt<|.cT Z<|.sr<|.az Z<|.tR<|.bR<|.tR<|.tR<|.bR<|.tR<|?_
   refine y9 Z Z λW s=>⟨kF ?_,s.ext⟩
   first
    | (rw [aS];exact ⟨λ_=>hall,λ_=>rfl⟩)
    | (rw [aS];exact ⟨λh=>(by cases h),λh=>absurd (hiff.1 h) (by rw [aU];exact λh=>e1 (h.2.1))⟩)
    | (rw [aS];exact ⟨λh=>(by cases h),λh=>absurd (hiff.1 h) (by rw [aU];exact λh=>e2 (h.2.2.1))⟩)
    | (rw [aS];exact ⟨λh=>(by cases h),λh=>absurd (hiff.1 h) (by rw [aU];exact λh=>e3 (h.2.2.2.1))⟩)
    | (rw [aS];exact ⟨λh=>(by cases h),λh=>absurd (hiff.1 h) (by rw [aU];exact λh=>e4 (h.2.2.2.2.1))⟩)
    | (rw [aS];exact ⟨λh=>(by cases h),λh=>absurd (hiff.1 h) (by rw [aU];exact λh=>e5 (h.2.2.2.2.2.1))⟩)
    | (rw [aS];exact ⟨λh=>(by cases h),λh=>absurd (hiff.1 h) (by rw [aU];exact λh=>e6 (by rw [h.2.2.2.2.2.2.2]))⟩)
    | (rw [aS];exact ⟨λh=>(by cases h),λh=>absurd (hiff.1 h) (by rw [aU];exact λh=>e7 h.2.2.2.2.2.2.1)⟩)
  try simp only [df] at h69
  have e6:=(by omega:args0.length=gZ.length);refine .gy (.fieldAddr Z cK)<|.gy (.load Z dE Hm Z)<|.gy (.fieldAddr Z cK)<|.gy (.load Z dE cP Z)<|.gy (.call yR Z (λW s=>FZ H 52 yQ ex0 ex1 (λa _=>uE H a) _ _ hs0 hs5 W s.agr))<|.gy (.not Z)<|.yw (.pickF Z Z)<|.nt<|.cd Z (λh76=>?_) (λh76=>?_)
  ·try simp only [dt] at h76
   have e7:=CC.1 (by simpa using h76);refine .sr<|.az Z<|.tR<|.bR<|.tR<|.tR<|.bR<|.tR<|?_
   refine y9 Z Z λW s=>⟨kF ?_,s.ext⟩
   first
    | (rw [aS];exact ⟨λ_=>hall,λ_=>rfl⟩)
    | (rw [aS];exact ⟨λh=>(by cases h),λh=>absurd (hiff.1 h) (by rw [aU];exact λh=>e1 (h.2.1))⟩)
    | (rw [aS];exact ⟨λh=>(by cases h),λh=>absurd (hiff.1 h) (by rw [aU];exact λh=>e2 (h.2.2.1))⟩)
    | (rw [aS];exact ⟨λh=>(by cases h),λh=>absurd (hiff.1 h) (by rw [aU];exact λh=>e3 (h.2.2.2.1))⟩)
    | (rw [aS];exact ⟨λh=>(by cases h),λh=>absurd (hiff.1 h) (by rw [aU];exact λh=>e4 (h.2.2.2.2.1))⟩)
    | (rw [aS];exact ⟨λh=>(by cases h),λh=>absurd (hiff.1 h) (by rw [aU];exact λh=>e5 (h.2.2.2.2.2.1))⟩)
    | (rw [aS];exact ⟨λh=>(by cases h),λh=>absurd (hiff.1 h) (by rw [aU];exact λh=>e6 (by rw [h.2.2.2.2.2.2.2]))⟩)
    | (rw [aS];exact ⟨λh=>(by cases h),λh=>absurd (hiff.1 h) (by rw [aU];exact λh=>e7 h.2.2.2.2.2.2.1)⟩)
  try simp only [df] at h76
  have e7:=aS.1 (by simpa using h76);refine Sx.At.rcut (size:=7) (m:=fs0.length) (ys:=xf.take (fs0.length * 7)) mD (by rw [hl0];exact Nat.le_succ _) rfl ?_;refine Sx.At.rcut (size:=7) (m:=gs0.length) (ys:=xg.take (gs0.length * 7)) mP (by rw [hl1];exact Nat.le_succ _) rfl ?_;exact .sk<|.tN<|.fL 12 [(0,0),(1,0),(2,0),(3,0),(4,0),(6,0),(7,0),(8,0),(9,0),(10,0),(5,3),(11,3)]<|.mv Z<|.mv Z<|.yw (.cutHi eG Z Z (h:=fs0.length) (by rw [hl0];omega) (by rw [hl0] at hgc;omega) (λq e=>by cases e;rfl))<|.fA Z cU<|.lD Z eU Hm Z<|.mv Z<|.mv Z<|.yw (.cutHi eG Z Z (h:=gs0.length) (by rw [hl0];omega) (by rw [hl1] at hgd;omega) (λq e=>by cases e;rfl))<|.fA Z cU<|.lD Z eU cP Z<|.apD rW Z (λ_ _=>mD) Z hs3 (by simp only [maxLen];omega) (by omega) Z (λ_ _=>(.yv (.load Z eU cP Z)<|.yv (.fieldAddr Z cU)<|.yv (.cutHi eG Z Z (h:=gs0.length) (by rw [hl0];omega) (by rw [hl1] at hgd;omega) (λq e=>by cases e;rfl))<|.yv (.move Z)<|.yv (.move Z)<|.d3<|.d2<|.nl)) λnews pN cN hzn=>.apD rW Z (λ_ _=>mP) Z hs6 (by simp only [maxLen];omega) (by omega) Z (λ_ _=>(.d4<|.d4<|.d2<|.nl)) λmews pM cM hzm=>.fn (tl:=[_,_]) Z<|.a Z Z<|.a Z Z<|.nl<|.bN<|.tN<|.rg<|.mv Z<|.yw (.lenSl eG Z)<|.yw (.sub Z Z (w6 (by omega)))<|.aq Z<|.ag (x:=(n,fs0++[Fm.mk op0 nm0 fd0 a0 b0 ex0 args0],gs0++[Fm.mk op1 nm1 fd1 a1 b1 ex1 gZ],Value.slice (some ⟨wf,0,none⟩) (fs0++[Fm.mk op0 nm0 fd0 a0 b0 ex0 args0]).length cf,Value.slice (some ⟨wg,0,none⟩) (gs0++[Fm.mk op1 nm1 fd1 a1 b1 ex1 gZ]).length cg,xf,xg)) (n+1,fs0++args0,gs0++gZ,Value.slice pN (fs0.length+args0.length) cN,Value.slice pM (gs0.length+gZ.length) cM,xf.take (fs0.length * 7)++news,xg.take (gs0.length * 7)++mews) ⟨Z,Z,by dsimp only;exact congrArg (λm:Nat=>some (Value.int .i64 ((m:Int) - 1))) (aF ).symm,Jt⟩ trivial (λ_ s=>by dsimp only;rw [aF,aF];exact (s.pick [2,3,4,5] _ Z Z)) ⟨by rw [bV];exact hz0.app hzn,by rw [bV];exact hz1.app hzm,by dsimp only;rw [aF,aF];omega,by dsimp only;rw [fD];omega,λe he=>by rcases cC.1 he with h | h;exact hbf e (cC.2 (.inl h));exact hb0.2 e h,by dsimp only;rw [aF,hNs];omega,by dsimp only;exact hiff.trans (BT e1 e2 e3 e4 e5 e6 e7 hle)⟩ (by dsimp only;rw [fD,fD,Fm.counts,Fm.counts,nS];omega)
 try simp only [df] at h15
 have hfs:fs=[]:=bI (by omega);have hgs:gs=[]:=bI (by omega);have hall:=hiff.2 (by rw [hfs,hgs]);refine .ex<|.eb<|.sr<|.az Z<|?_
 refine y9 Z Z λW s=>⟨kF ?_,s.ext⟩
 first
  | (rw [aS];exact ⟨λ_=>hall,λ_=>rfl⟩)
  | (rw [aS];exact ⟨λh=>(by cases h),λh=>absurd (hiff.1 h) (by rw [aU];exact λh=>e1 (h.2.1))⟩)
  | (rw [aS];exact ⟨λh=>(by cases h),λh=>absurd (hiff.1 h) (by rw [aU];exact λh=>e2 (h.2.2.1))⟩)
  | (rw [aS];exact ⟨λh=>(by cases h),λh=>absurd (hiff.1 h) (by rw [aU];exact λh=>e3 (h.2.2.2.1))⟩)
  | (rw [aS];exact ⟨λh=>(by cases h),λh=>absurd (hiff.1 h) (by rw [aU];exact λh=>e4 (h.2.2.2.2.1))⟩)
  | (rw [aS];exact ⟨λh=>(by cases h),λh=>absurd (hiff.1 h) (by rw [aU];exact λh=>e5 (h.2.2.2.2.2.1))⟩)
  | (rw [aS];exact ⟨λh=>(by cases h),λh=>absurd (hiff.1 h) (by rw [aU];exact λh=>e6 (by rw [h.2.2.2.2.2.2.2]))⟩)
  | (rw [aS];exact ⟨λh=>(by cases h),λh=>absurd (hiff.1 h) (by rw [aU];exact λh=>e7 h.2.2.2.2.2.2.1)⟩)
theorem SN:∀ l,aM8 l=l.map λe=>(e.op,tmT e)
 | []=>by rw [aM8];rfl
 | e::r=>by rw [aM8,SN r];rfl
theorem UX:∀ l,aU6 l=l.map λf=>(f.op,fmT f)
 | []=>by rw [aU6];rfl
 | e::r=>by rw [aU6,UX r];rfl
theorem wD {op:UInt8} {nm:Str} {n:Int64} {args:List Ex} :tmT (.mk op nm n args)=WF op nm n (args.map λe=>(e.op,tmT e)):=by rw [tmT,SN]
theorem AK {op:UInt8} {nm fd:Str} {b:Int64} {ex:List Ex} {args:List Fm} :fmT (.mk op nm fd a b ex args)=LK (.mk op nm fd a b ex args) (args.map λf=>(f.op,fmT f)):=by rw [fmT,UX]
theorem hd0 {α β:Type} {f:α->β} {l:List α} {d:β} (h:0<l.length):(l.map f).headD d=f l[0]:=by
 cases l with
 | nil=>exact absurd h (Nat.lt_irrefl _)
 | cons a r=>rfl
theorem hd1 {α β:Type} {f:α->β} {l:List α} {d:β} (h:1<l.length):((l.map f).drop 1).headD d=f l[1]:=by
 match l,h with
 | _::b::r,_=>rfl
theorem ER {op:UInt8} (h:op=14\/op=15):tlv op=4:=by unfold tlv;rw [aL h]
theorem xV {op:UInt8} (h:op=11\/op=12\/op=13):tlv op=5:=by unfold tlv;rw [aG (by rcases h with rfl | rfl | rfl <;> decide),aL h]
theorem WH {op:UInt8} (h:op=9):tlv op=6:=by subst h;rfl
theorem WG {op:UInt8} (h1:¬ op=14) (h2:¬ op=15) (h3:¬ op=11) (h4:¬ op=12) (h5:¬ op=13) (h6:¬ op=9):tlv op=7:=by
 unfold tlv;rw [aG (by rintro (h | h);exact h1 h;exact h2 h),aG (by rintro (h | h | h);exact h3 h;exact h4 h;exact h5 h),aG h6]
theorem GU (op:UInt8):tlv op<=7:=by
 unfold tlv
 repeat' split
 all_goals omega
section
variable {op:UInt8} {nm:Str} {n:Int64} {args:List Ex}
theorem tm1 (h:op=1):tmT (.mk op nm n args)=Lib.itoa n.toInt:=by rw [wD];subst h;rfl
theorem tm4 (h:op=4):tmT (.mk op nm n args)=[110,111,119]:=by rw [wD];subst h;rfl
theorem tm5 (h:op=5):tmT (.mk op nm n args)=nm:=by rw [wD];subst h;rfl
theorem tm6 (h:op=6) (h0:0<args.length):tmT (.mk op nm n args)=(nm++([91]:Str)++tmT args[0]++([93]:Str):Str):=by
 rw [wD];subst h;show (nm++([91]:Str)++_++([93]:Str):Str)=_;rw [hd0 h0]
theorem tm8 (h:op=8):tmT (.mk op nm n args)=(([115,105,122,101,32]:Str)++nm):=by rw [wD];subst h;rfl
theorem tm9 (h:op=9) (h0:0<args.length):tmT (.mk op nm n args)=(([45]:Str)++yM (decide (tlv args[0].op<6)) (tmT args[0]):Str):=by
 rw [wD];subst h;show (([45]:Str)++yM _ _:Str)=_;rw [hd0 h0]
theorem tmb (h:op=11\/op=12\/op=13\/op=14\/op=15) (h0:0<args.length) (h1:1<args.length):tmT (.mk op nm n args)=(yM (decide (tlv args[0].op<tlv op)) (tmT args[0])++([32]:Str)++xE op++([32]:Str)++yM (decide (tlv args[1].op<tlv op+1)) (tmT args[1]):Str):=by
 rw [wD];unfold WF;rw [hd0 h0,hd1 h1];rcases h with rfl | rfl | rfl | rfl | rfl <;> rfl
theorem tmn (h1:¬ op=1) (h4:¬ op=4) (h5:¬ op=5) (h6:¬ op=6) (h8:¬ op=8) (h9:¬ op=9) (hb:¬ (op=11\/op=12\/op=13\/op=14\/op=15)):tmT (.mk op nm n args)=[95]:=by
 rw [wD];unfold WF;rw [aG h1,aG h4,aG h5,aG h6,aG h8,aG h9,aG hb]
end
theorem kY (b:Bool) (s:Str):s.length<=(yM b s).length/\(yM b s).length<=s.length+2:=by
 unfold yM;cases b
 ·rw [aG (by decide)];omega
 ·rw [aL rfl];simp only [aF,aJ,aM];omega
theorem PQ {l:List Str} {m:Nat} (h:∀ x∈l,x.length<=m) (i:Nat):(l.getD i []).length<=m:=by
 rw [List.getD_eq_getElem?_getD];cases e:l[i]? with
 | none=>exact aO _
 | some x=>exact h x (Al_List_mem_of_getElem? e)
theorem yG (op:UInt8):(xE op).length<=2:=PQ (l:=lT) (by decide) _
theorem GO (op:UInt8):(gA op).length<=8:=PQ (l:=RH) (by decide) _
theorem JZ {op:UInt8} {nm:Str} {n:Int64} {args:List Ex} (h:op=6\/op=9) (hT:eP (.mk op nm n args)=true):args.length=1/\∀ a∈args,eP a=true:=by
 rw [SS,aE,aW] at hT;refine ⟨?_,hT.2⟩;have h1:=hT.1;unfold bA8 at h1;simp only [aE,aD] at h1;have h2:=h1.1.1.1.2;rcases h with rfl | rfl
 ·exact Int.ofNat_inj.1 (h2.symm.trans (by decide))
 ·exact Int.ofNat_inj.1 (h2.symm.trans (by decide))
theorem WJ {op:UInt8} {nm:Str} {n:Int64} {args:List Ex} (h:op=11\/op=12\/op=13\/op=14\/op=15) (hT:eP (.mk op nm n args)=true):args.length=2/\∀ a∈args,eP a=true:=by
 rw [SS,aE,aW] at hT;refine ⟨?_,hT.2⟩;have h1:=hT.1;unfold bA8 at h1;simp only [aE,aD] at h1;have h2:=h1.1.1.1.2;rcases h with rfl | rfl | rfl | rfl | rfl <;> exact Int.ofNat_inj.1 (h2.symm.trans (by decide))
def nlE (e:Ex):Bool:=Ex.all (λe=>decide (e.nm.length<=1000000)) e
theorem EO (e:Ex) (hn:nlE e=true):(tmT e).length<=1000100 * e.count:=by
 induction e using Ex.ind with | _ op nm n args ih
 unfold nlE at hn;rw [nT,mN,aE,aD,aW] at hn;obtain ⟨hn,ha⟩:=hn;have hn':nm.length<=1000000:=hn
 have hx:∀ (l:List (UInt8 × Str)),l=args.map (λe=>(e.op,tmT e))->(l.headD (0,[])).2.length+((l.drop 1).headD (0,[])).2.length<=1000100 * Ex.counts args:=by
  rintro l rfl
  match args,ih,ha with
  | [],_,_=>exact aO _
  | [a],ih,ha =>
   have:=ih a (aY ..) (ha a (aY ..));rw [Ex.counts,Ex.counts];show (tmT a).length+0<=_;omega
  | a::b::r,ih,ha =>
   have h1:=ih a (aY ..) (ha a (aY ..));have h2:=ih b (bT _ (aY ..)) (ha b (bT _ (aY ..)));rw [Ex.counts,Ex.counts];show (tmT a).length+(tmT b).length<=_;omega
 have hx:=hx _ rfl;rw [lU,wD];unfold WF;generalize args.map (λe=>(e.op,tmT e))=l at hx|-;have hi:=rR n;have p1:=(kY (decide (tlv (l.headD (0,[])).1<6)) (l.headD (0,[])).2).2;have p2:=(kY (decide (tlv (l.headD (0,[])).1<tlv op)) (l.headD (0,[])).2).2;have p3:=(kY (decide (tlv ((l.drop 1).headD (0,[])).1<tlv op+1)) ((l.drop 1).headD (0,[])).2).2;have p4:=yG op;generalize Ex.counts args=C at hx|-
 repeat' split
 all_goals (try simp only [aF,aJ,aM]);omega
end Go.Proofs.YtidclioghdbphaaGreatDoor
