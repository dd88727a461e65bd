/- Texts of the proof, one behind the other. -/
import Derived.Test.YtidclioghdbphaaGreatDoorMf
set_option linter.all false
set_option maxRecDepth 100000
namespace Go.Proofs.YtidclioghdbphaaGreatDoor
open Go.RowKit Go.Par Go.Sx Tryz
def n13 (e:Ex):Bool:=decide (e.nm.length<=13)
theorem XF:∀ (f d:Nat),d+f=31->∀ (H:Hp) (l:List Nd) (v:Value) (w:World),Rep H (.seq 5 (l.map dNd)) [v]->Agr H w ->
 Calls prg 169 #[v,iN d] w λr w'=>∃ (y:List Value × Value) (H':Hp),(∃ (e:Ex) (rest:List Nd),Rep H' (dEx .i64 e) y.1/\AY d e/\Ex.all n13 e=true/\e.count+3 * rest.length<=3 * l.length+1/\Rep H' (.seq 5 (rest.map dNd)) [y.2])/\r=.returned (.tuple #[.agg y.1.toArray,y.2])/\yM H w H' w':=by
 intro f;induction f using Nat.strongRecOn with
 | _ f ih =>
  intro d hd H l v w h hA;obtain ⟨p,c,e,_⟩:=h.sl;simp only [fQ,nZ] at e;subst e;obtain ⟨n,hn⟩:∃ n,n=(l.map dNd).length:=⟨_,Z⟩;rw [<-hn] at h|-;have hnl:n=l.length:=by simpa using hn
  have hcap:=h.cap;refine Sx.enter (H:=H) func169 rfl ntmps169 rfl hA ?_;refine .sr<|.al oW Z λb4=>.aq Z<|.sq<|.sm Z<|.yw (.lenSl BJ Z)<|.yw (.eql Z Z)<|.mv Z<|.e2 (λh15=>?_) (λh15=>?_)
  ·refine .gG<|.gG<|.yw (.pickT Z Z)<|.nt<|.cT Z<|.sr<|.yw (.build Z (LS _))<|.mv Z<|.sW .head Z Z lN (by simp [Value.oneCell',cH,cNd]) Z<|.az Z<|.tR<|?_
   exact y7 Z (.cons (.cell Z jY Hm rfl) (.cons (.tmp Z) .nil)) rfl λW s=>⟨(_,_),H,⟨.mk 1 [] 0 [],l,qL (by decide) (Rep.empty (by decide)),KR (by omega),Z,(by rw [lS,Ex.counts];omega),h⟩,Z,.pure hA s.ext⟩
  refine .gy (.move Z)<|.gy (.gtr Z Z)<|.yw (.pickF Z Z)<|.nt<|.ce Z (λh18=>?_) (λh18=>?_)
  ·refine .sr<|.yw (.build Z (LS _))<|.mv Z<|.sW .head Z Z lN (by simp [Value.oneCell',cH,cNd]) Z<|.az Z<|.tR<|?_
   exact y7 Z (.cons (.cell Z jY Hm rfl) (.cons (.tmp Z) .nil)) rfl λW s=>⟨(_,_),H,⟨.mk 1 [] 0 [],l,qL (by decide) (Rep.empty (by decide)),KR (by omega),Z,(by rw [lS,Ex.counts];omega),h⟩,Z,.pure hA s.ext⟩
  have hn0:0<n:=by omega
  obtain ⟨bE,oE,cE,hpE,rE,lE,mE⟩:=h.elem (kM (f:=dNd) (show 0<l.length by omega));subst hpE;generalize hx:l[0]=x at rE;obtain rfl:=bE2 rE;obtain ⟨op,hop⟩:∃ op:UInt8,op.toNat=x.op.toNat % 24:=⟨UInt8.ofNat (x.op.toNat % 24),by simp [lY];omega⟩;obtain ⟨m0,hm0,hm2⟩:∃ m0:Nat,max (arR op.toNat) 0=(m0:Int)/\m0<=2:=⟨(max (arR op.toNat) 0).toNat,by have:=ZY op.toNat;omega,by have:=ZY op.toNat;omega⟩;refine .sk<|.tN<|.sm Z<|.yw (.indexSl BJ Z Z (i:=0) Z (by omega) (q:=oE+0 * 5) (by omega))<|.yw (.loadMW Z aJ9 mE Z)<|.al XI Z λb6=>.sW .head Z Z XK (by simp [Value.oneCell',cH,cNd]) Z<|.ns<|.mv Z<|.yw (.cutLo BJ Z Z (lo:=1) Z (by omega) h.len.2.1)<|.a Z Z<|.ns<|.fA Z MH<|.lD Z iM Hm Z<|.yw (.rem Z Z (by decide) (c:=((x.op.toNat % 24:Nat):Int)) (by rw [dB (by omega)];omega))<|.yw (.conv Z kS lH (c:=((op.toNat:Nat):Int)) ((w6 (by omega)).trans (by rw [hop])))<|.fA Z mZ<|.lD Z fC Hm Z<|.yw (.build Z (zZ _ _))<|.al oW Z λb7=>.sW .head Z Z lN (by simp [Value.oneCell',cH,cNd]) Z<|.ns<|.fA Z fI<|.lD Z cR Hm Z<|.yw (.call XN Z (λW s=>aG0 H op.toNat W s.agr))<|.yw (.max2 Z Z (c:=((m0:Nat):Int)) hm0)<|.aq Z<|.cu (X:=Str) [(0,_),(1,_),(4,_),(6,_),(7,_),(8,_)] ⟨Z,Z,Z,Z,Z,Z,Jt⟩ (λnm=>[]) (λnm=>H) (λnm=>[.box b7 [.int .i64 op.toNat,cH nm,.int .i64 (x.n).toInt,.slice none 0 0] 83,.box b6 (cNd x) 240,.box b4 [.int .i64 0,.string ⟨#[]⟩,.int .i64 0,.slice none 0 0] 83]) (λnm=>nm.length<=13) ?_ λnm hC=>?_
  ·
   refine .sr<|.fA Z fI<|.lD Z cR Hm Z<|.yw (.geq Z Z)<|.mv Z<|.e2 (λh40=>?_) (λh40=>?_)
   ·refine .gy (.fieldAddr Z fI)<|.gy (.load Z cR Hm Z)<|.gy (.leq Z Z)<|.yw (.pickT Z Z)<|.nt<|.cd Z (λh44=>?_) (λh44=>?_)
    ·exact .rg<|.fA Z uB<|.lD Z iM cO Z<|.yw (.call jM Z (λW s=>lO H x.nm W s.agr))<|.fA Z dZ<|.st .head Z Z fK Z (nb Z) Z<|.nt<|.me _ trivial ⟨Z,Z,Z,Z,Z,Z,Jt⟩ (λ_ s=>s) (by first | exact eK _ | decide)
    exact .sk<|.tN<|.me _ trivial ⟨Z,Z,Z,Z,Z,Z,Jt⟩ (λ_ s=>s) (by first | exact eK _ | decide)
   exact .gG<|.gG<|.gG<|.yw (.pickF Z Z)<|.nt<|.cF Z<|.sk<|.tN<|.me _ trivial ⟨Z,Z,Z,Z,Z,Z,Jt⟩ (λ_ s=>s) (by first | exact eK _ | decide)
  have hnm:=hC;refine .cu (X:=Int64) [(0,_),(1,_),(4,_),(6,_),(7,_),(8,_)] ⟨Z,Z,Z,Z,Z,Z,Jt⟩ (λnn=>[]) (λnn=>H) (λnn=>[.box b7 [.int .i64 op.toNat,cH nm,.int .i64 (nn).toInt,.slice none 0 0] 83,.box b6 (cNd x) 240,.box b4 [.int .i64 0,.string ⟨#[]⟩,.int .i64 0,.slice none 0 0] 83]) (λnn=>True) ?_ λnn hC=>?_
  ·
   refine .sr<|.fA Z fI<|.lD Z cR Hm Z<|.yw (.neq Z Z)<|.nt<|.cd Z (λh51=>?_) (λh51=>?_)
   ·exact .rg<|.fA Z eP<|.st .head Z Z iZ Z (nb Z) Z<|.nt<|.me 0 trivial ⟨Z,Z,Z,Z,Z,Z,Jt⟩ (λ_ s=>s) trivial
   exact .sk<|.tN<|.me x.n trivial ⟨Z,Z,Z,Z,Z,Z,Jt⟩ (λ_ s=>s) trivial
  refine .cu (X:=Nat × Str × Int64) [(0,_),(1,_),(4,_),(7,_)] ⟨Z,Z,Z,Z,Jt⟩ (λz=>[(8,iN z.1)]) (λz=>H) (λz=>[.box b7 [.int .i64 op.toNat,cH z.2.1,.int .i64 (z.2.2).toInt,.slice none 0 0] 83,.box b6 (cNd x) 240,.box b4 [.int .i64 0,.string ⟨#[]⟩,.int .i64 0,.slice none 0 0] 83]) (λz=>z.1<=3/\z.2.1.length<=13) ?_ λz hC=>?_
  ·
   refine .sr<|.fA Z MG<|.lD Z jI cO Z<|.nt<|.cd Z (λh54=>?_) (λh54=>?_)
   ·refine .sr<|.fA Z CS<|.lD Z iM cO Z<|.yw (.rem Z Z (by decide) (c:=((x.ct.toNat % 4:Nat):Int)) (by rw [dB (by omega)];omega))<|.yw (.conv Z kS lH (c:=((x.ct.toNat % 4:Nat):Int)) (w6 (by omega)))<|.a Z Z<|.ns<|.fA Z CS<|.lD Z iM cO Z<|.yw (.rem Z Z (by decide) (c:=((x.ct.toNat % 5:Nat):Int)) (by rw [dB (by omega)];omega))<|.yw (.eql Z Z)<|.nt<|.cd Z (λh62=>?_) (λh62=>?_)
    ·refine .ar 9 #[false,false,false,false,false,false,false,false,false] (by kernel_rfl) Z Z<|.an 0 [3] (by kernel_rfl) ⟨?_,?_,Jt⟩
     ·
      refine .ao #[true,false,false,false,false,false,false,false,false] Z Z<|.fA Z uB<|.nx<|.an 1 [3] (by kernel_rfl) ⟨?_,?_,Jt⟩
      ·
       refine .ao #[true,true,false,false,false,false,false,false,false] Z Z<|.lD Z iM cO Z<|.nx<|.an 2 [3] (by kernel_rfl) ⟨?_,?_,Jt⟩
       ·
        refine .ao #[true,true,true,false,false,false,false,false,false] Z Z<|.yw (.call jM Z (λW s=>lO H x.nm W s.agr))<|.nx<|.an 3 [5] (by kernel_rfl) ⟨?_,?_,Jt⟩
        ·
         refine .ao #[true,true,true,true,false,false,false,false,false] Z Z<|.fA Z mZ<|.nx<|.an 4 [5] (by kernel_rfl) ⟨?_,?_,Jt⟩
         ·
          refine .ao #[true,true,true,true,true,false,false,false,false] Z Z<|.lD Z fC cO Z<|.nx<|.an 5 [] (by kernel_rfl) ⟨?_,Jt⟩
          refine .ao #[true,true,true,true,true,true,false,false,false] Z Z<|.fA Z dZ<|.nx<|.an 6 [] (by kernel_rfl) ⟨?_,Jt⟩
          refine .ao #[true,true,true,true,true,true,true,false,false] Z Z<|.st .head Z Z fK Z (nb Z) Z<|.nx<|.an 7 [] (by kernel_rfl) ⟨?_,Jt⟩
          refine .ao #[true,true,true,true,true,true,true,true,false] Z Z<|.fA Z eP<|.nx<|.an 8 [] (by kernel_rfl) ⟨?_,Jt⟩
          exact .ao #[true,true,true,true,true,true,true,true,true] Z Z<|.st .head Z Z iZ Z (nb Z) Z<|.nx<|.ae (by kernel_rfl)<|.tN<|.me (x.ct.toNat % 4,nJ x.nm,x.n) ⟨Z,Jt⟩ ⟨Z,Z,Z,Z,Jt⟩ (λ_ s=>s) ⟨by dsimp only;omega,by dsimp only;first | exact eK _ | exact hnm⟩
         refine .ao #[true,true,true,true,false,true,false,false,false] Z Z<|.fA Z dZ<|.nx<|.an 4 [6] (by kernel_rfl) ⟨?_,?_,Jt⟩
         ·
          refine .ao #[true,true,true,true,true,true,false,false,false] Z Z<|.lD Z fC cO Z<|.nx<|.an 6 [] (by kernel_rfl) ⟨?_,Jt⟩
          refine .ao #[true,true,true,true,true,true,true,false,false] Z Z<|.st .head Z Z fK Z (nb Z) Z<|.nx<|.an 7 [] (by kernel_rfl) ⟨?_,Jt⟩
          refine .ao #[true,true,true,true,true,true,true,true,false] Z Z<|.fA Z eP<|.nx<|.an 8 [] (by kernel_rfl) ⟨?_,Jt⟩
          exact .ao #[true,true,true,true,true,true,true,true,true] Z Z<|.st .head Z Z iZ Z (nb Z) Z<|.nx<|.ae (by kernel_rfl)<|.tN<|.me (x.ct.toNat % 4,nJ x.nm,x.n) ⟨Z,Jt⟩ ⟨Z,Z,Z,Z,Jt⟩ (λ_ s=>s) ⟨by dsimp only;omega,by dsimp only;first | exact eK _ | exact hnm⟩
         refine .ao #[true,true,true,true,false,true,true,false,false] Z Z<|.st .head Z Z fK Z (nb Z) Z<|.nx<|.an 4 [] (by kernel_rfl) ⟨?_,Jt⟩
         refine .ao #[true,true,true,true,true,true,true,false,false] Z Z<|.lD Z fC cO Z<|.nx<|.an 7 [] (by kernel_rfl) ⟨?_,Jt⟩
         refine .ao #[true,true,true,true,true,true,true,true,false] Z Z<|.fA Z eP<|.nx<|.an 8 [] (by kernel_rfl) ⟨?_,Jt⟩
         exact .ao #[true,true,true,true,true,true,true,true,true] Z Z<|.st .head Z Z iZ Z (nb Z) Z<|.nx<|.ae (by kernel_rfl)<|.tN<|.me (x.ct.toNat % 4,nJ x.nm,x.n) ⟨Z,Jt⟩ ⟨Z,Z,Z,Z,Jt⟩ (λ_ s=>s) ⟨by dsimp only;omega,by dsimp only;first | exact eK _ | exact hnm⟩
        refine .ao #[true,true,true,false,false,true,false,false,false] Z Z<|.fA Z dZ<|.nx<|.an 3 [6] (by kernel_rfl) ⟨?_,?_,Jt⟩
        ·
         refine .ao #[true,true,true,true,false,true,false,false,false] Z Z<|.fA Z mZ<|.nx<|.an 4 [6] (by kernel_rfl) ⟨?_,?_,Jt⟩
         ·
          refine .ao #[true,true,true,true,true,true,false,false,false] Z Z<|.lD Z fC cO Z<|.nx<|.an 6 [] (by kernel_rfl) ⟨?_,Jt⟩
          refine .ao #[true,true,true,true,true,true,true,false,false] Z Z<|.st .head Z Z fK Z (nb Z) Z<|.nx<|.an 7 [] (by kernel_rfl) ⟨?_,Jt⟩
          refine .ao #[true,true,true,true,true,true,true,true,false] Z Z<|.fA Z eP<|.nx<|.an 8 [] (by kernel_rfl) ⟨?_,Jt⟩
          exact .ao #[true,true,true,true,true,true,true,true,true] Z Z<|.st .head Z Z iZ Z (nb Z) Z<|.nx<|.ae (by kernel_rfl)<|.tN<|.me (x.ct.toNat % 4,nJ x.nm,x.n) ⟨Z,Jt⟩ ⟨Z,Z,Z,Z,Jt⟩ (λ_ s=>s) ⟨by dsimp only;omega,by dsimp only;first | exact eK _ | exact hnm⟩
         refine .ao #[true,true,true,true,false,true,true,false,false] Z Z<|.st .head Z Z fK Z (nb Z) Z<|.nx<|.an 4 [] (by kernel_rfl) ⟨?_,Jt⟩
         refine .ao #[true,true,true,true,true,true,true,false,false] Z Z<|.lD Z fC cO Z<|.nx<|.an 7 [] (by kernel_rfl) ⟨?_,Jt⟩
         refine .ao #[true,true,true,true,true,true,true,true,false] Z Z<|.fA Z eP<|.nx<|.an 8 [] (by kernel_rfl) ⟨?_,Jt⟩
         exact .ao #[true,true,true,true,true,true,true,true,true] Z Z<|.st .head Z Z iZ Z (nb Z) Z<|.nx<|.ae (by kernel_rfl)<|.tN<|.me (x.ct.toNat % 4,nJ x.nm,x.n) ⟨Z,Jt⟩ ⟨Z,Z,Z,Z,Jt⟩ (λ_ s=>s) ⟨by dsimp only;omega,by dsimp only;first | exact eK _ | exact hnm⟩
        refine .ao #[true,true,true,false,false,true,true,false,false] Z Z<|.st .head Z Z fK Z (nb Z) Z<|.nx<|.an 3 [] (by kernel_rfl) ⟨?_,Jt⟩
        refine .ao #[true,true,true,true,false,true,true,false,false] Z Z<|.fA Z mZ<|.nx<|.an 4 [] (by kernel_rfl) ⟨?_,Jt⟩
        refine .ao #[true,true,true,true,true,true,true,false,false] Z Z<|.lD Z fC cO Z<|.nx<|.an 7 [] (by kernel_rfl) ⟨?_,Jt⟩
        refine .ao #[true,true,true,true,true,true,true,true,false] Z Z<|.fA Z eP<|.nx<|.an 8 [] (by kernel_rfl) ⟨?_,Jt⟩
        exact .ao #[true,true,true,true,true,true,true,true,true] Z Z<|.st .head Z Z iZ Z (nb Z) Z<|.nx<|.ae (by kernel_rfl)<|.tN<|.me (x.ct.toNat % 4,nJ x.nm,x.n) ⟨Z,Jt⟩ ⟨Z,Z,Z,Z,Jt⟩ (λ_ s=>s) ⟨by dsimp only;omega,by dsimp only;first | exact eK _ | exact hnm⟩
       refine .ao #[true,true,false,true,false,false,false,false,false] Z Z<|.fA Z mZ<|.nx<|.an 2 [4] (by kernel_rfl) ⟨?_,?_,Jt⟩
       ·
        refine .ao #[true,true,true,true,false,false,false,false,false] Z Z<|.yw (.call jM Z (λW s=>lO H x.nm W s.agr))<|.nx<|.an 4 [5] (by kernel_rfl) ⟨?_,?_,Jt⟩
        ·
         refine .ao #[true,true,true,true,true,false,false,false,false] Z Z<|.lD Z fC cO Z<|.nx<|.an 5 [] (by kernel_rfl) ⟨?_,Jt⟩
         refine .ao #[true,true,true,true,true,true,false,false,false] Z Z<|.fA Z dZ<|.nx<|.an 6 [] (by kernel_rfl) ⟨?_,Jt⟩
         refine .ao #[true,true,true,true,true,true,true,false,false] Z Z<|.st .head Z Z fK Z (nb Z) Z<|.nx<|.an 7 [] (by kernel_rfl) ⟨?_,Jt⟩
         refine .ao #[true,true,true,true,true,true,true,true,false] Z Z<|.fA Z eP<|.nx<|.an 8 [] (by kernel_rfl) ⟨?_,Jt⟩
         exact .ao #[true,true,true,true,true,true,true,true,true] Z Z<|.st .head Z Z iZ Z (nb Z) Z<|.nx<|.ae (by kernel_rfl)<|.tN<|.me (x.ct.toNat % 4,nJ x.nm,x.n) ⟨Z,Jt⟩ ⟨Z,Z,Z,Z,Jt⟩ (λ_ s=>s) ⟨by dsimp only;omega,by dsimp only;first | exact eK _ | exact hnm⟩
        refine .ao #[true,true,true,true,false,true,false,false,false] Z Z<|.fA Z dZ<|.nx<|.an 4 [6] (by kernel_rfl) ⟨?_,?_,Jt⟩
        ·
         refine .ao #[true,true,true,true,true,true,false,false,false] Z Z<|.lD Z fC cO Z<|.nx<|.an 6 [] (by kernel_rfl) ⟨?_,Jt⟩
         refine .ao #[true,true,true,true,true,true,true,false,false] Z Z<|.st .head Z Z fK Z (nb Z) Z<|.nx<|.an 7 [] (by kernel_rfl) ⟨?_,Jt⟩
         refine .ao #[true,true,true,true,true,true,true,true,false] Z Z<|.fA Z eP<|.nx<|.an 8 [] (by kernel_rfl) ⟨?_,Jt⟩
         exact .ao #[true,true,true,true,true,true,true,true,true] Z Z<|.st .head Z Z iZ Z (nb Z) Z<|.nx<|.ae (by kernel_rfl)<|.tN<|.me (x.ct.toNat % 4,nJ x.nm,x.n) ⟨Z,Jt⟩ ⟨Z,Z,Z,Z,Jt⟩ (λ_ s=>s) ⟨by dsimp only;omega,by dsimp only;first | exact eK _ | exact hnm⟩
        refine .ao #[true,true,true,true,false,true,true,false,false] Z Z<|.st .head Z Z fK Z (nb Z) Z<|.nx<|.an 4 [] (by kernel_rfl) ⟨?_,Jt⟩
        refine .ao #[true,true,true,true,true,true,true,false,false] Z Z<|.lD Z fC cO Z<|.nx<|.an 7 [] (by kernel_rfl) ⟨?_,Jt⟩
        refine .ao #[true,true,true,true,true,true,true,true,false] Z Z<|.fA Z eP<|.nx<|.an 8 [] (by kernel_rfl) ⟨?_,Jt⟩
        exact .ao #[true,true,true,true,true,true,true,true,true] Z Z<|.st .head Z Z iZ Z (nb Z) Z<|.nx<|.ae (by kernel_rfl)<|.tN<|.me (x.ct.toNat % 4,nJ x.nm,x.n) ⟨Z,Jt⟩ ⟨Z,Z,Z,Z,Jt⟩ (λ_ s=>s) ⟨by dsimp only;omega,by dsimp only;first | exact eK _ | exact hnm⟩
       refine .ao #[true,true,false,true,true,false,false,false,false] Z Z<|.lD Z fC cO Z<|.nx<|.an 2 [] (by kernel_rfl) ⟨?_,Jt⟩
       refine .ao #[true,true,true,true,true,false,false,false,false] Z Z<|.yw (.call jM Z (λW s=>lO H x.nm W s.agr))<|.nx<|.an 5 [] (by kernel_rfl) ⟨?_,Jt⟩
       refine .ao #[true,true,true,true,true,true,false,false,false] Z Z<|.fA Z dZ<|.nx<|.an 6 [] (by kernel_rfl) ⟨?_,Jt⟩
       refine .ao #[true,true,true,true,true,true,true,false,false] Z Z<|.st .head Z Z fK Z (nb Z) Z<|.nx<|.an 7 [] (by kernel_rfl) ⟨?_,Jt⟩
       refine .ao #[true,true,true,true,true,true,true,true,false] Z Z<|.fA Z eP<|.nx<|.an 8 [] (by kernel_rfl) ⟨?_,Jt⟩
       exact .ao #[true,true,true,true,true,true,true,true,true] Z Z<|.st .head Z Z iZ Z (nb Z) Z<|.nx<|.ae (by kernel_rfl)<|.tN<|.me (x.ct.toNat % 4,nJ x.nm,x.n) ⟨Z,Jt⟩ ⟨Z,Z,Z,Z,Jt⟩ (λ_ s=>s) ⟨by dsimp only;omega,by dsimp only;first | exact eK _ | exact hnm⟩
      refine .ao #[true,false,false,true,false,false,false,false,false] Z Z<|.fA Z mZ<|.nx<|.an 1 [4] (by kernel_rfl) ⟨?_,?_,Jt⟩
      ·
       refine .ao #[true,true,false,true,false,false,false,false,false] Z Z<|.lD Z iM cO Z<|.nx<|.an 2 [4] (by kernel_rfl) ⟨?_,?_,Jt⟩
       ·
        refine .ao #[true,true,true,true,false,false,false,false,false] Z Z<|.yw (.call jM Z (λW s=>lO H x.nm W s.agr))<|.nx<|.an 4 [5] (by kernel_rfl) ⟨?_,?_,Jt⟩
        ·
         refine .ao #[true,true,true,true,true,false,false,false,false] Z Z<|.lD Z fC cO Z<|.nx<|.an 5 [] (by kernel_rfl) ⟨?_,Jt⟩
         refine .ao #[true,true,true,true,true,true,false,false,false] Z Z<|.fA Z dZ<|.nx<|.an 6 [] (by kernel_rfl) ⟨?_,Jt⟩
         refine .ao #[true,true,true,true,true,true,true,false,false] Z Z<|.st .head Z Z fK Z (nb Z) Z<|.nx<|.an 7 [] (by kernel_rfl) ⟨?_,Jt⟩
         refine .ao #[true,true,true,true,true,true,true,true,false] Z Z<|.fA Z eP<|.nx<|.an 8 [] (by kernel_rfl) ⟨?_,Jt⟩
         exact .ao #[true,true,true,true,true,true,true,true,true] Z Z<|.st .head Z Z iZ Z (nb Z) Z<|.nx<|.ae (by kernel_rfl)<|.tN<|.me (x.ct.toNat % 4,nJ x.nm,x.n) ⟨Z,Jt⟩ ⟨Z,Z,Z,Z,Jt⟩ (λ_ s=>s) ⟨by dsimp only;omega,by dsimp only;first | exact eK _ | exact hnm⟩
        refine .ao #[true,true,true,true,false,true,false,false,false] Z Z<|.fA Z dZ<|.nx<|.an 4 [6] (by kernel_rfl) ⟨?_,?_,Jt⟩
        ·
         refine .ao #[true,true,true,true,true,true,false,false,false] Z Z<|.lD Z fC cO Z<|.nx<|.an 6 [] (by kernel_rfl) ⟨?_,Jt⟩
         refine .ao #[true,true,true,true,true,true,true,false,false] Z Z<|.st .head Z Z fK Z (nb Z) Z<|.nx<|.an 7 [] (by kernel_rfl) ⟨?_,Jt⟩
         refine .ao #[true,true,true,true,true,true,true,true,false] Z Z<|.fA Z eP<|.nx<|.an 8 [] (by kernel_rfl) ⟨?_,Jt⟩
         exact .ao #[true,true,true,true,true,true,true,true,true] Z Z<|.st .head Z Z iZ Z (nb Z) Z<|.nx<|.ae (by kernel_rfl)<|.tN<|.me (x.ct.toNat % 4,nJ x.nm,x.n) ⟨Z,Jt⟩ ⟨Z,Z,Z,Z,Jt⟩ (λ_ s=>s) ⟨by dsimp only;omega,by dsimp only;first | exact eK _ | exact hnm⟩
        refine .ao #[true,true,true,true,false,true,true,false,false] Z Z<|.st .head Z Z fK Z (nb Z) Z<|.nx<|.an 4 [] (by kernel_rfl) ⟨?_,Jt⟩
        refine .ao #[true,true,true,true,true,true,true,false,false] Z Z<|.lD Z fC cO Z<|.nx<|.an 7 [] (by kernel_rfl) ⟨?_,Jt⟩
        refine .ao #[true,true,true,true,true,true,true,true,false] Z Z<|.fA Z eP<|.nx<|.an 8 [] (by kernel_rfl) ⟨?_,Jt⟩
        exact .ao #[true,true,true,true,true,true,true,true,true] Z Z<|.st .head Z Z iZ Z (nb Z) Z<|.nx<|.ae (by kernel_rfl)<|.tN<|.me (x.ct.toNat % 4,nJ x.nm,x.n) ⟨Z,Jt⟩ ⟨Z,Z,Z,Z,Jt⟩ (λ_ s=>s) ⟨by dsimp only;omega,by dsimp only;first | exact eK _ | exact hnm⟩
       refine .ao #[true,true,false,true,true,false,false,false,false] Z Z<|.lD Z fC cO Z<|.nx<|.an 2 [] (by kernel_rfl) ⟨?_,Jt⟩
       refine .ao #[true,true,true,true,true,false,false,false,false] Z Z<|.yw (.call jM Z (λW s=>lO H x.nm W s.agr))<|.nx<|.an 5 [] (by kernel_rfl) ⟨?_,Jt⟩
       refine .ao #[true,true,true,true,true,true,false,false,false] Z Z<|.fA Z dZ<|.nx<|.an 6 [] (by kernel_rfl) ⟨?_,Jt⟩
       refine .ao #[true,true,true,true,true,true,true,false,false] Z Z<|.st .head Z Z fK Z (nb Z) Z<|.nx<|.an 7 [] (by kernel_rfl) ⟨?_,Jt⟩
       refine .ao #[true,true,true,true,true,true,true,true,false] Z Z<|.fA Z eP<|.nx<|.an 8 [] (by kernel_rfl) ⟨?_,Jt⟩
       exact .ao #[true,true,true,true,true,true,true,true,true] Z Z<|.st .head Z Z iZ Z (nb Z) Z<|.nx<|.ae (by kernel_rfl)<|.tN<|.me (x.ct.toNat % 4,nJ x.nm,x.n) ⟨Z,Jt⟩ ⟨Z,Z,Z,Z,Jt⟩ (λ_ s=>s) ⟨by dsimp only;omega,by dsimp only;first | exact eK _ | exact hnm⟩
      refine .ao #[true,false,false,true,true,false,false,false,false] Z Z<|.lD Z fC cO Z<|.nx<|.an 1 [] (by kernel_rfl) ⟨?_,Jt⟩
      refine .ao #[true,true,false,true,true,false,false,false,false] Z Z<|.lD Z iM cO Z<|.nx<|.an 2 [] (by kernel_rfl) ⟨?_,Jt⟩
      refine .ao #[true,true,true,true,true,false,false,false,false] Z Z<|.yw (.call jM Z (λW s=>lO H x.nm W s.agr))<|.nx<|.an 5 [] (by kernel_rfl) ⟨?_,Jt⟩
      refine .ao #[true,true,true,true,true,true,false,false,false] Z Z<|.fA Z dZ<|.nx<|.an 6 [] (by kernel_rfl) ⟨?_,Jt⟩
      refine .ao #[true,true,true,true,true,true,true,false,false] Z Z<|.st .head Z Z fK Z (nb Z) Z<|.nx<|.an 7 [] (by kernel_rfl) ⟨?_,Jt⟩
      refine .ao #[true,true,true,true,true,true,true,true,false] Z Z<|.fA Z eP<|.nx<|.an 8 [] (by kernel_rfl) ⟨?_,Jt⟩
      exact .ao #[true,true,true,true,true,true,true,true,true] Z Z<|.st .head Z Z iZ Z (nb Z) Z<|.nx<|.ae (by kernel_rfl)<|.tN<|.me (x.ct.toNat % 4,nJ x.nm,x.n) ⟨Z,Jt⟩ ⟨Z,Z,Z,Z,Jt⟩ (λ_ s=>s) ⟨by dsimp only;omega,by dsimp only;first | exact eK _ | exact hnm⟩
     refine .ao #[false,false,false,true,false,false,false,false,false] Z Z<|.fA Z mZ<|.nx<|.an 0 [4] (by kernel_rfl) ⟨?_,?_,Jt⟩
     ·
      refine .ao #[true,false,false,true,false,false,false,false,false] Z Z<|.fA Z uB<|.nx<|.an 1 [4] (by kernel_rfl) ⟨?_,?_,Jt⟩
      ·
       refine .ao #[true,true,false,true,false,false,false,false,false] Z Z<|.lD Z iM cO Z<|.nx<|.an 2 [4] (by kernel_rfl) ⟨?_,?_,Jt⟩
       ·
        refine .ao #[true,true,true,true,false,false,false,false,false] Z Z<|.yw (.call jM Z (λW s=>lO H x.nm W s.agr))<|.nx<|.an 4 [5] (by kernel_rfl) ⟨?_,?_,Jt⟩
        ·
         refine .ao #[true,true,true,true,true,false,false,false,false] Z Z<|.lD Z fC cO Z<|.nx<|.an 5 [] (by kernel_rfl) ⟨?_,Jt⟩
         refine .ao #[true,true,true,true,true,true,false,false,false] Z Z<|.fA Z dZ<|.nx<|.an 6 [] (by kernel_rfl) ⟨?_,Jt⟩
         refine .ao #[true,true,true,true,true,true,true,false,false] Z Z<|.st .head Z Z fK Z (nb Z) Z<|.nx<|.an 7 [] (by kernel_rfl) ⟨?_,Jt⟩
         refine .ao #[true,true,true,true,true,true,true,true,false] Z Z<|.fA Z eP<|.nx<|.an 8 [] (by kernel_rfl) ⟨?_,Jt⟩
         exact .ao #[true,true,true,true,true,true,true,true,true] Z Z<|.st .head Z Z iZ Z (nb Z) Z<|.nx<|.ae (by kernel_rfl)<|.tN<|.me (x.ct.toNat % 4,nJ x.nm,x.n) ⟨Z,Jt⟩ ⟨Z,Z,Z,Z,Jt⟩ (λ_ s=>s) ⟨by dsimp only;omega,by dsimp only;first | exact eK _ | exact hnm⟩
        refine .ao #[true,true,true,true,false,true,false,false,false] Z Z<|.fA Z dZ<|.nx<|.an 4 [6] (by kernel_rfl) ⟨?_,?_,Jt⟩
        ·
         refine .ao #[true,true,true,true,true,true,false,false,false] Z Z<|.lD Z fC cO Z<|.nx<|.an 6 [] (by kernel_rfl) ⟨?_,Jt⟩
         refine .ao #[true,true,true,true,true,true,true,false,false] Z Z<|.st .head Z Z fK Z (nb Z) Z<|.nx<|.an 7 [] (by kernel_rfl) ⟨?_,Jt⟩
         refine .ao #[true,true,true,true,true,true,true,true,false] Z Z<|.fA Z eP<|.nx<|.an 8 [] (by kernel_rfl) ⟨?_,Jt⟩
         exact .ao #[true,true,true,true,true,true,true,true,true] Z Z<|.st .head Z Z iZ Z (nb Z) Z<|.nx<|.ae (by kernel_rfl)<|.tN<|.me (x.ct.toNat % 4,nJ x.nm,x.n) ⟨Z,Jt⟩ ⟨Z,Z,Z,Z,Jt⟩ (λ_ s=>s) ⟨by dsimp only;omega,by dsimp only;first | exact eK _ | exact hnm⟩
        refine .ao #[true,true,true,true,false,true,true,false,false] Z Z<|.st .head Z Z fK Z (nb Z) Z<|.nx<|.an 4 [] (by kernel_rfl) ⟨?_,Jt⟩
        refine .ao #[true,true,true,true,true,true,true,false,false] Z Z<|.lD Z fC cO Z<|.nx<|.an 7 [] (by kernel_rfl) ⟨?_,Jt⟩
        refine .ao #[true,true,true,true,true,true,true,true,false] Z Z<|.fA Z eP<|.nx<|.an 8 [] (by kernel_rfl) ⟨?_,Jt⟩
        exact .ao #[true,true,true,true,true,true,true,true,true] Z Z<|.st .head Z Z iZ Z (nb Z) Z<|.nx<|.ae (by kernel_rfl)<|.tN<|.me (x.ct.toNat % 4,nJ x.nm,x.n) ⟨Z,Jt⟩ ⟨Z,Z,Z,Z,Jt⟩ (λ_ s=>s) ⟨by dsimp only;omega,by dsimp only;first | exact eK _ | exact hnm⟩
       refine .ao #[true,true,false,true,true,false,false,false,false] Z Z<|.lD Z fC cO Z<|.nx<|.an 2 [] (by kernel_rfl) ⟨?_,Jt⟩
       refine .ao #[true,true,true,true,true,false,false,false,false] Z Z<|.yw (.call jM Z (λW s=>lO H x.nm W s.agr))<|.nx<|.an 5 [] (by kernel_rfl) ⟨?_,Jt⟩
       refine .ao #[true,true,true,true,true,true,false,false,false] Z Z<|.fA Z dZ<|.nx<|.an 6 [] (by kernel_rfl) ⟨?_,Jt⟩
       refine .ao #[true,true,true,true,true,true,true,false,false] Z Z<|.st .head Z Z fK Z (nb Z) Z<|.nx<|.an 7 [] (by kernel_rfl) ⟨?_,Jt⟩
       refine .ao #[true,true,true,true,true,true,true,true,false] Z Z<|.fA Z eP<|.nx<|.an 8 [] (by kernel_rfl) ⟨?_,Jt⟩
       exact .ao #[true,true,true,true,true,true,true,true,true] Z Z<|.st .head Z Z iZ Z (nb Z) Z<|.nx<|.ae (by kernel_rfl)<|.tN<|.me (x.ct.toNat % 4,nJ x.nm,x.n) ⟨Z,Jt⟩ ⟨Z,Z,Z,Z,Jt⟩ (λ_ s=>s) ⟨by dsimp only;omega,by dsimp only;first | exact eK _ | exact hnm⟩
      refine .ao #[true,false,false,true,true,false,false,false,false] Z Z<|.lD Z fC cO Z<|.nx<|.an 1 [] (by kernel_rfl) ⟨?_,Jt⟩
      refine .ao #[true,true,false,true,true,false,false,false,false] Z Z<|.lD Z iM cO Z<|.nx<|.an 2 [] (by kernel_rfl) ⟨?_,Jt⟩
      refine .ao #[true,true,true,true,true,false,false,false,false] Z Z<|.yw (.call jM Z (λW s=>lO H x.nm W s.agr))<|.nx<|.an 5 [] (by kernel_rfl) ⟨?_,Jt⟩
      refine .ao #[true,true,true,true,true,true,false,false,false] Z Z<|.fA Z dZ<|.nx<|.an 6 [] (by kernel_rfl) ⟨?_,Jt⟩
      refine .ao #[true,true,true,true,true,true,true,false,false] Z Z<|.st .head Z Z fK Z (nb Z) Z<|.nx<|.an 7 [] (by kernel_rfl) ⟨?_,Jt⟩
      refine .ao #[true,true,true,true,true,true,true,true,false] Z Z<|.fA Z eP<|.nx<|.an 8 [] (by kernel_rfl) ⟨?_,Jt⟩
      exact .ao #[true,true,true,true,true,true,true,true,true] Z Z<|.st .head Z Z iZ Z (nb Z) Z<|.nx<|.ae (by kernel_rfl)<|.tN<|.me (x.ct.toNat % 4,nJ x.nm,x.n) ⟨Z,Jt⟩ ⟨Z,Z,Z,Z,Jt⟩ (λ_ s=>s) ⟨by dsimp only;omega,by dsimp only;first | exact eK _ | exact hnm⟩
     refine .ao #[false,false,false,true,true,false,false,false,false] Z Z<|.lD Z fC cO Z<|.nx<|.an 0 [] (by kernel_rfl) ⟨?_,Jt⟩
     refine .ao #[true,false,false,true,true,false,false,false,false] Z Z<|.fA Z uB<|.nx<|.an 1 [] (by kernel_rfl) ⟨?_,Jt⟩
     refine .ao #[true,true,false,true,true,false,false,false,false] Z Z<|.lD Z iM cO Z<|.nx<|.an 2 [] (by kernel_rfl) ⟨?_,Jt⟩
     refine .ao #[true,true,true,true,true,false,false,false,false] Z Z<|.yw (.call jM Z (λW s=>lO H x.nm W s.agr))<|.nx<|.an 5 [] (by kernel_rfl) ⟨?_,Jt⟩
     refine .ao #[true,true,true,true,true,true,false,false,false] Z Z<|.fA Z dZ<|.nx<|.an 6 [] (by kernel_rfl) ⟨?_,Jt⟩
     refine .ao #[true,true,true,true,true,true,true,false,false] Z Z<|.st .head Z Z fK Z (nb Z) Z<|.nx<|.an 7 [] (by kernel_rfl) ⟨?_,Jt⟩
     refine .ao #[true,true,true,true,true,true,true,true,false] Z Z<|.fA Z eP<|.nx<|.an 8 [] (by kernel_rfl) ⟨?_,Jt⟩
     exact .ao #[true,true,true,true,true,true,true,true,true] Z Z<|.st .head Z Z iZ Z (nb Z) Z<|.nx<|.ae (by kernel_rfl)<|.tN<|.me (x.ct.toNat % 4,nJ x.nm,x.n) ⟨Z,Jt⟩ ⟨Z,Z,Z,Z,Jt⟩ (λ_ s=>s) ⟨by dsimp only;omega,by dsimp only;first | exact eK _ | exact hnm⟩
    exact .sk<|.tN<|.me (x.ct.toNat % 4,nm,nn) ⟨Z,Jt⟩ ⟨Z,Z,Z,Z,Jt⟩ (λ_ s=>s) ⟨by dsimp only;omega,by dsimp only;first | exact eK _ | exact hnm⟩
   exact .sk<|.tN<|.me (m0,nm,nn) ⟨Z,Jt⟩ ⟨Z,Z,Z,Z,Jt⟩ (λ_ s=>s) ⟨by dsimp only;omega,by dsimp only;first | exact eK _ | exact hnm⟩
  obtain ⟨m,nm,nn⟩:=z;dsimp only at hC|-;obtain ⟨hm3,hnm⟩:=hC;refine Sx.row0 83 4 ?_;refine .sq<|.sr<|.aq Z<|.bk<|.lp (X:=Nat × Hp × Value × List Value × Value) [(1,_),(4,_),(7,_),(8,_)] ⟨Z,Z,Z,Z,Jt⟩ [_,_] (λz=>[(9,iN z.1),(0,z.2.2.2.2)]) (λz=>z.2.1) (λz=>[.row 83 4 z.2.2.1 z.1 z.2.2.2.1,.box b7 [.int .i64 op.toNat,cH nm,.int .i64 (nn).toInt,z.2.2.1] 83]) (λz=>z.1<=m/\HUp w H z.2.1/\∃ (es:List Ex) (rest:List Nd),es.length=z.1/\eD z.2.1 4 (es.map (dEx .i64)) z.2.2.2.1/\GM d es/\Ex.alls n13 es=true/\Ex.counts es+3 * rest.length+3<=3 * l.length+es.length/\Rep z.2.1 (.seq 5 (rest.map dNd)) [z.2.2.2.2]) (λz=>m - z.1) (0,H,.slice none 0 0,[],_) (λ_ s=>s) ⟨Z,Z,Jt⟩ ⟨by simp,.refl,[],l.drop 1,Z,eD.nil,WO d,Z,(by rw [Ex.counts,cU,aM];omega),(by have h5:=SH h (lo:=1) (by omega);rw [<-yU] at h5;exact h5)⟩ λz hC=>?_
  obtain ⟨k,H1,r,xs,rv⟩:=z;dsimp only at hC|-;obtain ⟨hk0,u1,es,rest,hlen,hz,hgs,h13,hcn,hrs⟩:=hC;refine .sq<|.sm Z<|.mv Z<|.yw (.lss Z Z)<|.nt<|.ce Z (λh72=>?_) (λh72=>?_)
  ·have hk:k<m:=by omega
   refine .sk<|.tN<|.sq<|.bk<|.sm Z<|.mv Z<|.yw (.add Z Z w7)<|.ct (X:=List Value × Value) LF Z (λW s=>ih (f - 1) (by omega) (d+1) (by omega) H1 _ _ W hrs s.agr) Z λy2 H2 hc2 u2=>?_
   obtain ⟨x2,y2⟩:=y2;obtain ⟨x2e,rest2,hc2,hg2,h132,hcn2,hrs2⟩:=hc2;dsimp only at hc2 hrs2|-;obtain ⟨op2,nm2,n2,nY⟩:=x2e;obtain ⟨p2,c2,rfl,hs2,hnm2⟩:=iK hc2;refine .mv Z<|.yw (.extract Z Z)<|.yw (.extract Z Z)<|.al oW Z λb10=>.sW .head Z Z lN (by simp [Value.oneCell',cH,cNd]) Z<|.aq Z<|.rg<|.fA Z tD<|.lD Z yR mY Z<|.yw (.loadW Z jY Hm Z)<|.bl Z (sB _ _ _ _) Z λb85=>.ap (news:=[.int .i64 op2.toNat,cH nm2,.int .i64 n2.toInt,.slice p2 nY.length c2]) FX Z (λ_=>lZ) Z (.box Hm z0) Z (by simp [Value.oneCell',cH]) (by simp [maxLen];omega) (by omega) Z λr86 _=>?_
   refine At.ra (by first | exact .tail _ (.tail _ Hm) | exact .tail _ (.tail _ (.tail _ Hm))) λp86 c86 e86=>?_;exact .mv Z<|.fA Z tD<|.st mN Z Z tU (by rw [e86];rfl) (nb Z) Z<|.a Z Z<|.nl<|.bN<|.tN<|.rg<|.mv Z<|.yw (.add Z Z w7)<|.aq Z<|.ag (x:=(k,H1,r,xs,rv)) (k+1,H2,r86,xs++[.int .i64 op2.toNat,cH nm2,.int .i64 n2.toInt,.slice p2 nY.length c2],y2) ⟨Z,Z,Jt⟩ ⟨Z,Z,Z,Z,Jt⟩ (λ_ s=>(s.pick [2,3,4,5] _ Z Z)) ⟨by dsimp only;omega,u1.trans u2,es++[.mk op2 nm2 n2 nY],rest2,by simp;omega,by rw [bU];exact (hz.up u2.up).snoc hc2 Z,TQ hgs hg2,(by rw [FQ,h13,Ex.alls,h132];rfl),(by rw [oV,Ex.counts,Ex.counts,aG];simp only [aJ,aM];omega),hrs2⟩ (by dsimp only;omega)
  obtain rfl:k=m:=by omega
  refine At.ra Hm λp86 c86 e86=>?_;subst e86;refine .ex<|.eb<|.sr<|.yw (.loadW Z jY cO Z)<|.mv Z<|.sW mN Z Z lN (by simp [Value.oneCell',cH,cNd]) Z<|.az Z<|?_
  refine At.pm [0,3] [_,_] rfl rfl ?_;refine mK (ds:=es.map (dEx .i64)) (by simp;omega) hz λH3 p3 c3 u3 hr3 hs3=>?_;refine y7 Z (.cons (.cell Z jY Hm rfl) (.cons (.tmp Z) .nil)) rfl λW s=>⟨(_,_),H3,⟨_,rest,qL (by omega) hs3,?_,?_,?_,hrs.up u3.up⟩,Z,(u1.trans u3).grow s⟩
  ·rw [aS5];exact ⟨by omega,hgs⟩
  ·rw [nR,h13,aC];exact aS hnm
  ·rw [lS];omega
def bQ9 (x:List Value) (H':Hp):Prop:=∃ e:Ex,Rep H' (dEx .i64 e) x/\AY 1 e/\Ex.all n13 e=true/\e.count<=181
variable {H:Hp}
theorem JF {k:IntKind} {e:Ex} {cs:List Value} (h:Rep H (dEx k e) cs):cs.length=4:=by
 obtain ⟨op,nm,n,args⟩:=e;obtain ⟨_,_,rfl,_,_⟩:=iK h
 rfl
theorem LB (H:Hp) (l:List Nd) (v:Value) (h0:Rep H (.seq 5 (l.map dNd)) [v]) (w:World) (hA:Agr H w) :
 Calls prg 130 #[v] w λr w'=>∃ (x:List Value) (H':Hp),bQ9 x H'/\r=.returned (.agg x.toArray)/\yM H w H' w':=by
 obtain ⟨p,c,e,_⟩:=h0.sl;simp only [fQ,nZ,bJ] at e;subst e;have h:=h0;have hcap:=h.cap;refine Sx.enter (H:=H) func130 rfl ntmps130 rfl hA ?_;refine .sr<|.al oW Z λb2=>.ns<|.mv Z<|.mv Z<|.yw (.lenSl BJ Z)<|.yw (.min2 Z Z (c:=((min l.length 60:Nat):Int)) (by omega))<|.yw (.cutHi2 BJ Z Z (h:=min l.length 60) Z (by have:=h.len.2.1;omega))<|.ct (X:=List Value × Value) LF Z (λW s=>XF 30 1 Z H (l.take (min l.length 60)) _ W (by rw [yT];exact MW h (by omega)) s.agr) Z λy H1 hc u1=>?_
 obtain ⟨x,y⟩:=y;obtain ⟨e,rest,hx,hg,h13,hcn,_⟩:=hc;dsimp only at hx;rw [fE] at hcn;refine .mv Z<|.yw (.extract Z Z)<|.yw (.extract Z Z)<|.al oW Z λb3=>.sV .head Z Z lN (JF hx) hx.one Z<|.a Z Z<|.ns<|.yw (.loadW Z jY Hm (JF hx))<|.sV kT Z Z lN (JF hx) hx.one Z<|.nt<|.rt<|?_
 exact y8 Z (.cell Z jY cO (JF hx)) λW t=>⟨x,H1,⟨e,hx,hg,h13,by omega⟩,Z,u1.grow t⟩
structure Nf where
 op:UInt8
 nm:UInt8
 fd:UInt8
 ct:UInt8
 odd:Bool
 a:Int64
 b:Int64
 ts:List Nd
def dNf (x:Nf):D:=.str [.val (.int .u8 x.op.toNat),.val (.int .u8 x.nm.toNat),.val (.int .u8 x.fd.toNat),.val (.int .u8 x.ct.toNat),.val (.bool x.odd),.val (.int .i64 x.a.toInt),.val (.int .i64 x.b.toInt),.seq 5 (x.ts.map dNd)]
def cNf (x:Nf) (s:Value):List Value:=[.int .u8 x.op.toNat,.int .u8 x.nm.toNat,.int .u8 x.fd.toNat,.int .u8 x.ct.toNat,.bool x.odd,.int .i64 x.a.toInt,.int .i64 x.b.toInt,s]
theorem YU {x:Nf} {cs:List Value} (h:Rep H (dNf x) cs):∃ p c,cs=cNf x (.slice p x.ts.length c)/\Rep H (.seq 5 (x.ts.map dNd)) [.slice p x.ts.length c]:=by
 rw [dNf,SI] at h;obtain ⟨_,rfl,_,_,h⟩:=eY.1 h;obtain ⟨_,rfl,_,_,h⟩:=eY.1 h;obtain ⟨_,rfl,_,_,h⟩:=eY.1 h;obtain ⟨_,rfl,_,_,h⟩:=eY.1 h;obtain ⟨_,rfl,_,_,h⟩:=eY.1 h;obtain ⟨_,rfl,_,_,h⟩:=eY.1 h;obtain ⟨_,rfl,_,_,h⟩:=eY.1 h;obtain ⟨p,c,_,rfl,hs,h⟩:=EO.1 h;rw [uI] at h;subst h;rw [bJ] at hs;exact ⟨p,c,by rw [bJ];rfl,hs⟩
def pr1 (op:UInt8):UInt8:=if op=7\/op=10 then 9 else op
def pr2 (op:UInt8):UInt8:=if op=2\/op=3 then 4 else op
def pr3 (op:UInt8):UInt8:=if 16<=op.toNat then UInt8.ofNat (11+op.toNat % 5) else op
def prO (op:UInt8):UInt8:=pr3 (pr2 (pr1 op))
def prM (op:UInt8) (nm:Str):Str:=if op=7\/op=10 then [] else nm
def prN (op:UInt8) (nm:Str):Str:=if op=6\/op=8\/(op=5/\nm.length % 2=0) then [99,46]++nm else nm
mutual
def prE:Ex->Ex
 | .mk op nm n args=>.mk (prO op) (prN (prO op) (prM op nm)) n (bD0 args)
def bD0:List Ex->List Ex
 | []=>[]
 | e::r=>prE e::bD0 r
end
theorem SQ:∀ l,bD0 l=l.map prE
 | []=>rfl
 | e::r=>by rw [bD0,SQ r];rfl
theorem PQ (op:UInt8) (nm:Str) (n:Int64) (args:List Ex):prE (.mk op nm n args)=.mk (prO op) (prN (prO op) (prM op nm)) n (args.map prE):=by rw [prE,SQ]
theorem bC9 (op:UInt8) (nm:Str):(prM op nm).length<=nm.length:=by
 unfold prM
 split
 ·exact aO _
 ·exact aY _
theorem bC8 (op:UInt8) (nm:Str):(prN op nm).length<=nm.length+2:=by
 unfold prN
 split
 ·rw [aG];show 2+_<=_;omega
 ·omega
theorem aC5 (e:Ex):(prE e).count=e.count:=by
 induction e using Ex.ind with | _ op nm n args ih
 rw [PQ,lS,lS]
 congr 1
 induction args with
 | nil=>rfl
 | cons a r ih2=>rw [dG,Ex.counts,Ex.counts,ih a (aX ..),ih2 λx hx=>ih x (bS _ hx)]
theorem aC4 (e:Ex):(prE e).depth=e.depth:=by
 induction e using Ex.ind with | _ op nm n args ih
 rw [PQ,tA,tA]
 congr 1
 induction args with
 | nil=>rfl
 | cons a r ih2=>rw [dG,Ex.deeps,Ex.deeps,ih a (aX ..),ih2 λx hx=>ih x (bS _ hx)]
theorem WB (e:Ex):Ex.all uQ (prE e)=Ex.all uQ e:=by
 induction e using Ex.ind with | _ op nm n args ih
 rw [PQ,nR,nR,tP,tP,bJ,mL,mL]
 congr 1
 rw [bH,aW,aW]
 constructor
 ·intro h x hx;rw [<-ih x hx];exact h _ (kV.2 ⟨x,hx,Z⟩)
 ·intro h x hx;obtain ⟨y,hy,rfl⟩:=kV.1 hx;rw [ih y hy];exact h y hy
def gdE (e:Ex):Bool:=decide (e.depth<=34) && Ex.all uQ e
def gdN (f:Fm):Bool:=decide (f.op.toNat<=18) && decide (f.ex.length<=4) && decide (f.args.length<=3) && f.ex.all gdE
def gdF (f:Fm):Bool:=Fm.all gdN f
variable {a:Int64}
theorem WP {op:UInt8} {nm fd:Str} {b:Int64} {ex:List Ex} {args:List Fm} :gdF (.mk op nm fd a b ex args)=true↔(op.toNat<=18/\ex.length<=4/\args.length<=3/\∀ e∈ex,gdE e=true)/\∀ g∈args,gdF g=true:=by
 unfold gdF;rw [rT,aE,aW];unfold gdN;rw [aE,aE,aE,aD,aD,aD,aW];exact ⟨λh=>⟨⟨h.1.1.1.1,h.1.1.1.2,h.1.1.2,h.1.2⟩,h.2⟩,λh=>⟨⟨⟨⟨h.1.1,h.1.2.1⟩,h.1.2.2.1⟩,h.1.2.2.2⟩,h.2⟩⟩
theorem NJ (e:Ex):∃ o m n a,e=.mk o m n a:=by
 obtain ⟨o,m,n,a⟩:=e;exact ⟨o,m,n,a,Z⟩
variable {m:Str}
theorem bX8 {o:UInt8} (h:((o.toNat:Nat):Int)=7):((9:UInt8),([]:Str))=(pr1 o,prM o m):=by unfold pr1 prM;rw [aL (.inl (aQ.1 (by show o.toNat=7;omega):o=7)),aL (.inl (aQ.1 (by show o.toNat=7;omega):o=7))]
theorem bX7 {o:UInt8} (h:((o.toNat:Nat):Int)=10):((9:UInt8),([]:Str))=(pr1 o,prM o m):=by unfold pr1 prM;rw [aL (.inr (aQ.1 (by show o.toNat=10;omega):o=10)),aL (.inr (aQ.1 (by show o.toNat=10;omega):o=10))]
theorem bX6 {o:UInt8} (h:¬ ((o.toNat:Nat):Int)=7) (k:¬ ((o.toNat:Nat):Int)=10):(o,m)=(pr1 o,prM o m):=by unfold pr1 prM;rw [aF (tV.2 ⟨(λe:o=7=>h (by rw [e];rfl)),(λe:o=10=>k (by rw [e];rfl))⟩),aF (tV.2 ⟨(λe:o=7=>h (by rw [e];rfl)),(λe:o=10=>k (by rw [e];rfl))⟩)]
theorem bX5 {o:UInt8} (h:((o.toNat:Nat):Int)=2):((4:UInt8),m)=(pr2 o,m):=by unfold pr2;rw [aL (.inl (aQ.1 (by show o.toNat=2;omega):o=2))]
theorem bX4 {o:UInt8} (h:((o.toNat:Nat):Int)=3):((4:UInt8),m)=(pr2 o,m):=by unfold pr2;rw [aL (.inr (aQ.1 (by show o.toNat=3;omega):o=3))]
theorem bX3 {o:UInt8} (h:¬ ((o.toNat:Nat):Int)=2) (k:¬ ((o.toNat:Nat):Int)=3):(o,m)=(pr2 o,m):=by unfold pr2;rw [aF (tV.2 ⟨(λe:o=2=>h (by rw [e];rfl)),(λe:o=3=>k (by rw [e];rfl))⟩)]
theorem bX1 {op:UInt8} (h:(16:Int)<=(((pr2 (pr1 op)).toNat:Nat):Int)):(UInt8.ofNat (11+(pr2 (pr1 op)).toNat % 5),m)=(prO op,m):=by unfold prO pr3;rw [aL (by omega)]
theorem bX2 {op:UInt8} (h:¬ (16:Int)<=(((pr2 (pr1 op)).toNat:Nat):Int)):(pr2 (pr1 op),m)=(prO op,m):=by unfold prO pr3;rw [aF (by omega)]
theorem bX0 {o:UInt8} (h:((o.toNat:Nat):Int)=6):(o,([99,46]:Str)++m)=(o,prN o m):=by unfold prN;rw [aL (.inl (aQ.1 (by show o.toNat=6;omega):o=6))]
theorem bW9 {o:UInt8} (h:((o.toNat:Nat):Int)=8):(o,([99,46]:Str)++m)=(o,prN o m):=by unfold prN;rw [aL (.inr (.inl (aQ.1 (by show o.toNat=8;omega):o=8)))]
theorem bW8 {o:UInt8} (h:((o.toNat:Nat):Int)=5) (k:((m.length % 2:Nat):Int)=0):(o,([99,46]:Str)++m)=(o,prN o m):=by unfold prN;rw [aL (.inr (.inr ⟨(aQ.1 (by show o.toNat=5;omega):o=5),by omega⟩))]
theorem bW7 {o:UInt8} (h:¬ ((o.toNat:Nat):Int)=6) (h8:¬ ((o.toNat:Nat):Int)=8) (k:¬ ((m.length % 2:Nat):Int)=0):(o,m)=(o,prN o m):=by unfold prN;rw [aF (by rintro (e | e | e);exact h (by rw [e];rfl);exact h8 (by rw [e];rfl);omega)]
theorem bW6 {o:UInt8} (h:¬ ((o.toNat:Nat):Int)=6) (h8:¬ ((o.toNat:Nat):Int)=8) (k:¬ ((o.toNat:Nat):Int)=5):(o,m)=(o,prN o m):=by unfold prN;rw [aF (by rintro (e | e | e);exact h (by rw [e];rfl);exact h8 (by rw [e];rfl);exact k (by rw [e.1];rfl))]
theorem bL7 (n:Nat):IntKind.i64.wrap (11+((n % 5:Nat):Int))=(((UInt8.ofNat (11+n % 5)).toNat:Nat):Int):=by
 rw [dX (by show 11+n % 5<256;omega)];exact (w6 (by omega)).trans (by omega)
def bI2 (e:Ex):Prop:=Ex.all n13 e=true->Ex.all uQ e=true->∀ (H:Hp) (cs:List Value) (w:World),Rep H (dEx .i64 e) cs->Agr H w ->
 Calls prg 129 #[.agg cs.toArray] w λr w'=>∃ x H',Rep H' (dEx .i64 (prE e)) x/\r=.returned (.agg x.toArray)/\yM H w H' w'
theorem aC6 (e:Ex):bI2 e:=by
 induction e using Ex.ind with | _ op nm nn args ih
 intro hn hw H cs w h hA;rw [nR,aE] at hn hw;have hn3:args.length<=3:=aH hw.1;have hn13:nm.length<=13:=aH hn.1;have hpm:=bC9 op nm;have hpn:=bC8 (prO op) (prM op nm);obtain ⟨p,c,rfl,hs,hnm⟩:=iK h;have hcap:=hs.cap;refine Sx.enter (H:=H) func129 rfl ntmps129 rfl hA ?_;refine .sr<|.bx Z Z Z λb1=>.al oW Z λb2=>.nt<|.cu (X:=UInt8 × Str) [(1,_),(2,_)] ⟨Z,Z,Jt⟩ (λz=>[]) (λz=>H) (λz=>[.box b1 [.int .i64 (z.1).toNat,cH (z.2),.int .i64 nn.toInt,.slice p args.length c] 83,.box b2 [.int .i64 0,.string ⟨#[]⟩,.int .i64 0,.slice none 0 0] 83]) (λz=>z=(pr1 op,prM op nm)) ?_ λz hC=>?_
 ·
  refine .sr<|.fA Z fI<|.lD Z cR cO Z<|.yw (.eql Z Z)<|.mv Z<|.e2 (λh9=>?_) (λh9=>?_)
  ·exact .gG<|.gG<|.gG<|.yw (.pickT Z Z)<|.nt<|.cT Z<|.sr<|.fA Z fI<|.st kT Z Z iF Z (nb Z) Z<|.nt<|.rg<|.fA Z dZ<|.st kT Z Z fK Z (nb Z) Z<|.nt<|.me (9,([]:Str)) trivial ⟨Z,Z,Jt⟩ (λ_ s=>s.pick [1,0] [_,_] Z Z) (bX8 h9)
  refine .gy (.fieldAddr Z fI)<|.gy (.load Z cR cO Z)<|.gy (.eql Z Z)<|.yw (.pickF Z Z)<|.nt<|.ce Z (λh13=>?_) (λh13=>?_)
  ·exact .sr<|.fA Z fI<|.st kT Z Z iF Z (nb Z) Z<|.nt<|.rg<|.fA Z dZ<|.st kT Z Z fK Z (nb Z) Z<|.nt<|.me (9,([]:Str)) trivial ⟨Z,Z,Jt⟩ (λ_ s=>s.pick [1,0] [_,_] Z Z) (bX7 h13)
  exact .sk<|.tN<|.me (op,nm) trivial ⟨Z,Z,Jt⟩ (λ_ s=>s.pick [1,0] [_,_] Z Z) (bX6 h9 h13)
 subst hC;dsimp only;refine .cu (X:=UInt8 × Str) [(1,_),(2,_)] ⟨Z,Z,Jt⟩ (λz=>[]) (λz=>H) (λz=>[.box b1 [.int .i64 (z.1).toNat,cH (z.2),.int .i64 nn.toInt,.slice p args.length c] 83,.box b2 [.int .i64 0,.string ⟨#[]⟩,.int .i64 0,.slice none 0 0] 83]) (λz=>z=(pr2 (pr1 op),prM op nm)) ?_ λz hC=>?_
 ·
  refine .sr<|.fA Z fI<|.lD Z cR Hm Z<|.yw (.eql Z Z)<|.mv Z<|.e2 (λh19=>?_) (λh19=>?_)
  ·exact .gG<|.gG<|.gG<|.yw (.pickT Z Z)<|.nt<|.cT Z<|.rg<|.fA Z fI<|.st .head Z Z iF Z (nb Z) Z<|.nt<|.me (4,prM op nm) trivial ⟨Z,Z,Jt⟩ (λ_ s=>s) (bX5 h19)
  refine .gy (.fieldAddr Z fI)<|.gy (.load Z cR Hm Z)<|.gy (.eql Z Z)<|.yw (.pickF Z Z)<|.nt<|.ce Z (λh23=>?_) (λh23=>?_)
  ·exact .rg<|.fA Z fI<|.st .head Z Z iF Z (nb Z) Z<|.nt<|.me (4,prM op nm) trivial ⟨Z,Z,Jt⟩ (λ_ s=>s) (bX4 h23)
  exact .sk<|.tN<|.me (pr1 op,prM op nm) trivial ⟨Z,Z,Jt⟩ (λ_ s=>s) (bX3 h19 h23)
 subst hC;dsimp only;refine .cu (X:=UInt8 × Str) [(1,_),(2,_)] ⟨Z,Z,Jt⟩ (λz=>[]) (λz=>H) (λz=>[.box b1 [.int .i64 (z.1).toNat,cH (z.2),.int .i64 nn.toInt,.slice p args.length c] 83,.box b2 [.int .i64 0,.string ⟨#[]⟩,.int .i64 0,.slice none 0 0] 83]) (λz=>z=(prO op,prM op nm)) ?_ λz hC=>?_
 ·
  refine .sr<|.fA Z fI<|.lD Z cR Hm Z<|.yw (.geq Z Z)<|.nt<|.ce Z (λh27=>?_) (λh27=>?_)
  ·exact .rg<|.fA Z fI<|.lD Z cR Hm Z<|.yw (.rem Z Z (by decide) (c:=(((pr2 (pr1 op)).toNat % 5:Nat):Int)) (by rw [dB (by omega)];omega))<|.yw (.add Z Z (c:=(((UInt8.ofNat (11+(pr2 (pr1 op)).toNat % 5)).toNat:Nat):Int)) (bL7 _))<|.fA Z fI<|.st .head Z Z iF Z (nb Z) Z<|.nt<|.me (UInt8.ofNat (11+(pr2 (pr1 op)).toNat % 5),prM op nm) trivial ⟨Z,Z,Jt⟩ (λ_ s=>s) (bX1 h27)
  exact .sk<|.tN<|.me (pr2 (pr1 op),prM op nm) trivial ⟨Z,Z,Jt⟩ (λ_ s=>s) (bX2 h27)
 subst hC;dsimp only;refine .cu (X:=UInt8 × Str) [(1,_),(2,_)] ⟨Z,Z,Jt⟩ (λz=>[]) (λz=>H) (λz=>[.box b1 [.int .i64 (z.1).toNat,cH (z.2),.int .i64 nn.toInt,.slice p args.length c] 83,.box b2 [.int .i64 0,.string ⟨#[]⟩,.int .i64 0,.slice none 0 0] 83]) (λz=>z=(prO op,prN (prO op) (prM op nm))) ?_ λz hC=>?_
 ·
  refine .sr<|.fA Z fI<|.lD Z cR Hm Z<|.yw (.eql Z Z)<|.mv Z<|.e2 (λh36=>?_) (λh36=>?_)
  ·exact .gG<|.gG<|.gG<|.yw (.pickT Z Z)<|.mv Z<|.gG<|.gG<|.gG<|.gG<|.gV<|.gV<|.gV<|.gV<|.gV<|.gG<|.yw (.pickT Z Z)<|.nt<|.cT Z<|.rg<|.fA Z dZ<|.lD Z cZ Hm Z<|.yw (.app Z Z (by simp only [aJ,aM];omega))<|.fA Z dZ<|.st .head Z Z fK Z (nb Z) Z<|.nt<|.me (prO op,([99,46]:Str)++prM op nm) trivial ⟨Z,Z,Jt⟩ (λ_ s=>s) (bX0 h36)
  refine .gy (.fieldAddr Z fI)<|.gy (.load Z cR Hm Z)<|.gy (.eql Z Z)<|.yw (.pickF Z Z)<|.mv Z<|.e2 (λh41=>?_) (λh41=>?_)
  ·exact .gG<|.gG<|.gG<|.gG<|.gV<|.gV<|.gV<|.gV<|.gV<|.gG<|.yw (.pickT Z Z)<|.nt<|.cT Z<|.rg<|.fA Z dZ<|.lD Z cZ Hm Z<|.yw (.app Z Z (by simp only [aJ,aM];omega))<|.fA Z dZ<|.st .head Z Z fK Z (nb Z) Z<|.nt<|.me (prO op,([99,46]:Str)++prM op nm) trivial ⟨Z,Z,Jt⟩ (λ_ s=>s) (bW9 h41)
  refine .gy (.fieldAddr Z fI)<|.gy (.load Z cR Hm Z)<|.gy (.eql Z Z)<|.gy (.move Z)<|.e2 (λh45=>?_) (λh45=>?_)
  ·refine .gy (.fieldAddr Z dZ)<|.gy (.load Z cZ Hm Z)<|.gy (.lenS iL Z)<|.gy (.rem Z Z (by decide) (c:=(((prM op nm).length % 2:Nat):Int)) (by rw [dB (by omega)];omega))<|.gy (.eql Z Z)<|.gy (.pickT Z Z)<|.yw (.pickF Z Z)<|.nt<|.ce Z (λh52=>?_) (λh52=>?_)
   ·exact .rg<|.fA Z dZ<|.lD Z cZ Hm Z<|.yw (.app Z Z (by simp only [aJ,aM];omega))<|.fA Z dZ<|.st .head Z Z fK Z (nb Z) Z<|.nt<|.me (prO op,([99,46]:Str)++prM op nm) trivial ⟨Z,Z,Jt⟩ (λ_ s=>s) (bW8 h45 h52)
   exact .sk<|.tN<|.me (prO op,prM op nm) trivial ⟨Z,Z,Jt⟩ (λ_ s=>s) (bW7 h36 h41 h52)
  exact .gG<|.gG<|.gG<|.gG<|.gG<|.gy (.pickF Z Z)<|.yw (.pickF Z Z)<|.nt<|.cF Z<|.sk<|.tN<|.me (prO op,prM op nm) trivial ⟨Z,Z,Jt⟩ (λ_ s=>s) (bW6 h36 h41 h45)
 subst hC;dsimp only;refine .sr<|.aq Z<|.sq<|.sq<|?_
 refine Sx.row0 83 4 ?_;refine .rg<|.fA Z tD<|.lD Z yR cO Z<|.yw (.lenSl BX Z)<|.mv Z<|.nt<|.bk<|.lp (X:=Nat × Hp × Value × List Value) [(1,_),(2,_),(58,_),(59,_)] ⟨Z,Z,Z,Z,Jt⟩ [_,_] (λz=>[(3,z.2.2.1),(60,iN z.1)]) (λz=>z.2.1) (λz=>[.row 83 4 z.2.2.1 z.1 z.2.2.2]) (λz=>z.1<=args.length/\HUp w H z.2.1/\eD z.2.1 4 (((args.take z.1).map prE).map (dEx .i64)) z.2.2.2) (λz=>args.length - z.1) (0,H,.slice none 0 0,[]) (λ_ s=>s) ⟨Z,Z,Jt⟩ ⟨by simp,.refl,eD.nil⟩ λz hC=>?_
 obtain ⟨k,H1,r,xs⟩:=z;dsimp only at hC|-;obtain ⟨hk0,u1,hz⟩:=hC;refine .sr<|.yw (.lss Z Z)<|.nt<|.sq<|.ce Z (λh61=>?_) (λh61=>?_)
 ·have hk:k<args.length:=by omega
  obtain ⟨bE,oE,cE,hpE,rE,lE,mE⟩:=(hs.up u1.up).elem (kM (f:=dEx .i64) hk);cases hpE;have hn1:=KM hk hn.2;have hw1:=KM hk hw.2;refine .sk<|.tN<|.sq<|.bk<|.sr<|.yw (.indexSl BX Z Z Z (by omega) (q:=oE+k * 4) Z)<|.yw (.loadMW Z jY mE lE)<|.al oW Z λb5=>.sV .head Z Z lN lE rE.one Z<|.nt<|.rg<|.mv Z<|.yw (.loadW Z jY Hm lE)<|.ct (X:=List Value) LK Z (λW s=>ih _ (bT hk) hn1 hw1 H1 cE W rE s.agr) Z λx2 H2 hc2 u2=>?_
  obtain ⟨op2,nm2,n2,nY,hx⟩:∃ o m n a,prE args[k]=.mk o m n a:=NJ _;rw [hx] at hc2;obtain ⟨p2,c2,rfl,hs2,hnm2⟩:=iK hc2;exact .bl Z (sB _ _ _ _) Z λb67=>.ap (news:=[.int .i64 op2.toNat,cH nm2,.int .i64 n2.toInt,.slice p2 nY.length c2]) FX Z (λ_=>lZ) Z (.box Hm z0) Z (by simp [Value.oneCell',cH]) (by simp [maxLen];omega) (by omega) Z λr68 _=>.a Z Z<|.nl<|.bN<|.tN<|.rg<|.yw (.add Z Z w7)<|.mv Z<|.nt<|.ag (x:=(k,H1,r,xs)) (k+1,H2,r68,xs++[.int .i64 op2.toNat,cH nm2,.int .i64 n2.toInt,.slice p2 nY.length c2]) ⟨Z,Z,Jt⟩ ⟨Z,Z,Z,Z,Jt⟩ (λ_ s=>(s.pick [2,3,4] _ Z Z)) ⟨by dsimp only;omega,u1.trans u2,by dsimp only;rw [tM hk,bU,bU,dG,dG,hx];exact (hz.up u2.up).snoc hc2 Z⟩ (by dsimp only;omega)
 obtain rfl:k=args.length:=by omega
 rw [dC] at hz;refine At.ra Hm λp26 c26 e26=>?_;subst e26;refine .ex<|.eb<|.sm Z<|.fA Z tD<|.st kT Z Z tU Z (nb Z) Z<|.ns<|.yw (.loadW Z jY cO Z)<|.sX lZ Z Z lN Z<|.nt<|.rt<|?_
 refine At.pm [0,2] [_,_] rfl rfl ?_;refine mK (ds:=(args.map prE).map (dEx .i64)) (by simp) hz λH3 p3 c3 u3 hr3 hs3=>?_;refine y8 Z (.cell Z jY Hm rfl) λW s=>⟨_,H3,by rw [PQ];exact qL (by omega) hs3,Z,(u1.trans u3).grow s⟩
def rfN (k:Nat):Bool:=(decide (4<=k) && decide (k<=7)) || (decide (16<=k) && decide (k<=18))
def rfF (k:Nat):Bool:=decide (k=4) || decide (k=5) || decide (k=7)
theorem DC {a b c d:Bool} (h1:a=c) (h2:b=d):Ending.returned (.tuple #[.bool a,.bool b])=.returned (.tuple #[.bool c,.bool d]):=by rw [h1,h2]
theorem WX (H:Hp) (k:Nat) (w:World) (hA:Agr H w):Calls prg 82 #[iN k] w λr w'=>r=.returned (.tuple #[.bool (rfN k),.bool (rfF k)])/\Ext w w':=by
 refine Sx.enter (H:=H) func82 rfl ntmps82 rfl hA ?_;refine .sr<|.a Z Z<|.a Z Z<|.ns<|.mv Z<|.yw (.geq Z Z)<|.mv Z<|.e2 (λh6=>?_) (λh6=>?_)
 ·refine .gy (.move Z)<|.gy (.leq Z Z)<|.yw (.pickT Z Z)<|.mv Z<|.e2 (λh10=>?_) (λh10=>?_)
  ·refine .gG<|.gG<|.gG<|.gV<|.gV<|.gG<|.yw (.pickT Z Z)<|.mv Z<|.yw (.eql Z Z)<|.mv Z<|.b2 (λh20=>?_) (λh20=>?_)
   ·try simp only [dt] at h20
    refine .gG<|.gG<|.yw (.pickT Z Z)<|.mv Z<|.gG<|.gG<|.yw (.pickT Z Z)<|.a Z Z<|.az Z<|?_
    refine y7 Z (.cons (.tmp Z) (.cons (.tmp Z) .nil)) rfl λW s=>⟨DC (by unfold rfN;rw [bH];(try simp only [bC,aE,aD,reduceCtorEq,cW,cQ,cY,cP,bM,aI]);omega) (by unfold rfF;rw [bH];(try simp only [bC,aE,aD,reduceCtorEq,cW,cQ,cY,cP,bM,aI]);omega),s.ext⟩
   try simp only [df] at h20
   refine .gy (.move Z)<|.gy (.eql Z Z)<|.yw (.pickF Z Z)<|.mv Z<|.b2 (λh24=>?_) (λh24=>?_)
   ·try simp only [dt] at h24
    refine .gG<|.gG<|.yw (.pickT Z Z)<|.a Z Z<|.az Z<|?_
    refine y7 Z (.cons (.tmp Z) (.cons (.tmp Z) .nil)) rfl λW s=>⟨DC (by unfold rfN;rw [bH];(try simp only [bC,aE,aD,reduceCtorEq,cW,cQ,cY,cP,bM,aI]);omega) (by unfold rfF;rw [bH];(try simp only [bC,aE,aD,reduceCtorEq,cW,cQ,cY,cP,bM,aI]);omega),s.ext⟩
   try simp only [df] at h24
   refine .gy (.move Z)<|.gy (.eql Z Z)<|.yw (.pickF Z Z)<|.a Z Z<|.az Z<|?_
   refine y7 Z (.cons (.tmp Z) (.cons (.tmp Z) .nil)) rfl λW s=>⟨DC (by unfold rfN;rw [bH];(try simp only [bC,aE,aD,reduceCtorEq,cW,cQ,cY,cP,bM,aI]);omega) (by unfold rfF;rw [bH];(try simp only [bC,aE,aD,reduceCtorEq,cW,cQ,cY,cP,bM,aI]);omega),s.ext⟩
  refine .gy (.move Z)<|.gy (.geq Z Z)<|.gy (.move Z)<|.b2 (λh13=>?_) (λh13=>?_)
  ·try simp only [dt] at h13
   refine .gy (.move Z)<|.gy (.leq Z Z)<|.gy (.pickT Z Z)<|.yw (.pickF Z Z)<|.mv Z<|.yw (.eql Z Z)<|.mv Z<|.b2 (λh20=>?_) (λh20=>?_)
   ·try simp only [dt] at h20
    refine .gG<|.gG<|.yw (.pickT Z Z)<|.mv Z<|.gG<|.gG<|.yw (.pickT Z Z)<|.a Z Z<|.az Z<|?_
    refine y7 Z (.cons (.tmp Z) (.cons (.tmp Z) .nil)) rfl λW s=>⟨DC (by unfold rfN;rw [bH];(try simp only [bC,aE,aD,reduceCtorEq,cW,cQ,cY,cP,bM,aI]);omega) (by unfold rfF;rw [bH];(try simp only [bC,aE,aD,reduceCtorEq,cW,cQ,cY,cP,bM,aI]);omega),s.ext⟩
   try simp only [df] at h20
   refine .gy (.move Z)<|.gy (.eql Z Z)<|.yw (.pickF Z Z)<|.mv Z<|.b2 (λh24=>?_) (λh24=>?_)
   ·try simp only [dt] at h24
    refine .gG<|.gG<|.yw (.pickT Z Z)<|.a Z Z<|.az Z<|?_
    refine y7 Z (.cons (.tmp Z) (.cons (.tmp Z) .nil)) rfl λW s=>⟨DC (by unfold rfN;rw [bH];(try simp only [bC,aE,aD,reduceCtorEq,cW,cQ,cY,cP,bM,aI]);omega) (by unfold rfF;rw [bH];(try simp only [bC,aE,aD,reduceCtorEq,cW,cQ,cY,cP,bM,aI]);omega),s.ext⟩
   try simp only [df] at h24
   refine .gy (.move Z)<|.gy (.eql Z Z)<|.yw (.pickF Z Z)<|.a Z Z<|.az Z<|?_
   refine y7 Z (.cons (.tmp Z) (.cons (.tmp Z) .nil)) rfl λW s=>⟨DC (by unfold rfN;rw [bH];(try simp only [bC,aE,aD,reduceCtorEq,cW,cQ,cY,cP,bM,aI]);omega) (by unfold rfF;rw [bH];(try simp only [bC,aE,aD,reduceCtorEq,cW,cQ,cY,cP,bM,aI]);omega),s.ext⟩
  try simp only [df] at h13
  refine .gG<|.gG<|.gy (.pickF Z Z)<|.yw (.pickF Z Z)<|.mv Z<|.yw (.eql Z Z)<|.mv Z<|.b2 (λh20=>?_) (λh20=>?_)
  ·try simp only [dt] at h20
   refine .gG<|.gG<|.yw (.pickT Z Z)<|.mv Z<|.gG<|.gG<|.yw (.pickT Z Z)<|.a Z Z<|.az Z<|?_
   refine y7 Z (.cons (.tmp Z) (.cons (.tmp Z) .nil)) rfl λW s=>⟨DC (by unfold rfN;rw [bH];(try simp only [bC,aE,aD,reduceCtorEq,cW,cQ,cY,cP,bM,aI]);omega) (by unfold rfF;rw [bH];(try simp only [bC,aE,aD,reduceCtorEq,cW,cQ,cY,cP,bM,aI]);omega),s.ext⟩
  try simp only [df] at h20
  refine .gy (.move Z)<|.gy (.eql Z Z)<|.yw (.pickF Z Z)<|.mv Z<|.b2 (λh24=>?_) (λh24=>?_)
  ·try simp only [dt] at h24
   refine .gG<|.gG<|.yw (.pickT Z Z)<|.a Z Z<|.az Z<|?_
   refine y7 Z (.cons (.tmp Z) (.cons (.tmp Z) .nil)) rfl λW s=>⟨DC (by unfold rfN;rw [bH];(try simp only [bC,aE,aD,reduceCtorEq,cW,cQ,cY,cP,bM,aI]);omega) (by unfold rfF;rw [bH];(try simp only [bC,aE,aD,reduceCtorEq,cW,cQ,cY,cP,bM,aI]);omega),s.ext⟩
  try simp only [df] at h24
  refine .gy (.move Z)<|.gy (.eql Z Z)<|.yw (.pickF Z Z)<|.a Z Z<|.az Z<|?_
  refine y7 Z (.cons (.tmp Z) (.cons (.tmp Z) .nil)) rfl λW s=>⟨DC (by unfold rfN;rw [bH];(try simp only [bC,aE,aD,reduceCtorEq,cW,cQ,cY,cP,bM,aI]);omega) (by unfold rfF;rw [bH];(try simp only [bC,aE,aD,reduceCtorEq,cW,cQ,cY,cP,bM,aI]);omega),s.ext⟩
 refine .gG<|.gG<|.yw (.pickF Z Z)<|.mv Z<|.gy (.move Z)<|.gy (.geq Z Z)<|.gy (.move Z)<|.b2 (λh13=>?_) (λh13=>?_)
 ·try simp only [dt] at h13
  refine .gy (.move Z)<|.gy (.leq Z Z)<|.gy (.pickT Z Z)<|.yw (.pickF Z Z)<|.mv Z<|.yw (.eql Z Z)<|.mv Z<|.b2 (λh20=>?_) (λh20=>?_)
  ·try simp only [dt] at h20
   refine .gG<|.gG<|.yw (.pickT Z Z)<|.mv Z<|.gG<|.gG<|.yw (.pickT Z Z)<|.a Z Z<|.az Z<|?_
   refine y7 Z (.cons (.tmp Z) (.cons (.tmp Z) .nil)) rfl λW s=>⟨DC (by unfold rfN;rw [bH];(try simp only [bC,aE,aD,reduceCtorEq,cW,cQ,cY,cP,bM,aI]);omega) (by unfold rfF;rw [bH];(try simp only [bC,aE,aD,reduceCtorEq,cW,cQ,cY,cP,bM,aI]);omega),s.ext⟩
  try simp only [df] at h20
  refine .gy (.move Z)<|.gy (.eql Z Z)<|.yw (.pickF Z Z)<|.mv Z<|.b2 (λh24=>?_) (λh24=>?_)
  ·try simp only [dt] at h24
   refine .gG<|.gG<|.yw (.pickT Z Z)<|.a Z Z<|.az Z<|?_
   refine y7 Z (.cons (.tmp Z) (.cons (.tmp Z) .nil)) rfl λW s=>⟨DC (by unfold rfN;rw [bH];(try simp only [bC,aE,aD,reduceCtorEq,cW,cQ,cY,cP,bM,aI]);omega) (by unfold rfF;rw [bH];(try simp only [bC,aE,aD,reduceCtorEq,cW,cQ,cY,cP,bM,aI]);omega),s.ext⟩
  try simp only [df] at h24
  refine .gy (.move Z)<|.gy (.eql Z Z)<|.yw (.pickF Z Z)<|.a Z Z<|.az Z<|?_
  refine y7 Z (.cons (.tmp Z) (.cons (.tmp Z) .nil)) rfl λW s=>⟨DC (by unfold rfN;rw [bH];(try simp only [bC,aE,aD,reduceCtorEq,cW,cQ,cY,cP,bM,aI]);omega) (by unfold rfF;rw [bH];(try simp only [bC,aE,aD,reduceCtorEq,cW,cQ,cY,cP,bM,aI]);omega),s.ext⟩
 try simp only [df] at h13
 refine .gG<|.gG<|.gy (.pickF Z Z)<|.yw (.pickF Z Z)<|.mv Z<|.yw (.eql Z Z)<|.mv Z<|.b2 (λh20=>?_) (λh20=>?_)
 ·try simp only [dt] at h20
  refine .gG<|.gG<|.yw (.pickT Z Z)<|.mv Z<|.gG<|.gG<|.yw (.pickT Z Z)<|.a Z Z<|.az Z<|?_
  refine y7 Z (.cons (.tmp Z) (.cons (.tmp Z) .nil)) rfl λW s=>⟨DC (by unfold rfN;rw [bH];(try simp only [bC,aE,aD,reduceCtorEq,cW,cQ,cY,cP,bM,aI]);omega) (by unfold rfF;rw [bH];(try simp only [bC,aE,aD,reduceCtorEq,cW,cQ,cY,cP,bM,aI]);omega),s.ext⟩
 try simp only [df] at h20
 refine .gy (.move Z)<|.gy (.eql Z Z)<|.yw (.pickF Z Z)<|.mv Z<|.b2 (λh24=>?_) (λh24=>?_)
 ·try simp only [dt] at h24
  refine .gG<|.gG<|.yw (.pickT Z Z)<|.a Z Z<|.az Z<|?_
  refine y7 Z (.cons (.tmp Z) (.cons (.tmp Z) .nil)) rfl λW s=>⟨DC (by unfold rfN;rw [bH];(try simp only [bC,aE,aD,reduceCtorEq,cW,cQ,cY,cP,bM,aI]);omega) (by unfold rfF;rw [bH];(try simp only [bC,aE,aD,reduceCtorEq,cW,cQ,cY,cP,bM,aI]);omega),s.ext⟩
 try simp only [df] at h24
 refine .gy (.move Z)<|.gy (.eql Z Z)<|.yw (.pickF Z Z)<|.a Z Z<|.az Z<|?_
 refine y7 Z (.cons (.tmp Z) (.cons (.tmp Z) .nil)) rfl λW s=>⟨DC (by unfold rfN;rw [bH];(try simp only [bC,aE,aD,reduceCtorEq,cW,cQ,cY,cP,bM,aI]);omega) (by unfold rfF;rw [bH];(try simp only [bC,aE,aD,reduceCtorEq,cW,cQ,cY,cP,bM,aI]);omega),s.ext⟩
def opI (k:Nat):Int:=if k<1\/18<k then -1 else if k<=7 then 0 else if (9<=k/\k<=11)\/k=15 then 2 else 1
theorem HU {a b:Int} (h:a=b):Ending.returned (.int .i64 a)=.returned (.int .i64 b):=by rw [h]
theorem aC7 (H:Hp) (k:Nat) (w:World) (hA:Agr H w):Calls prg 70 #[iN k] w λr w'=>r=.returned (.int .i64 (opI k))/\Ext w w':=by
 refine Sx.enter (H:=H) func70 rfl ntmps70 rfl hA ?_;refine .sr<|.aq Z<|.sq<|.bk<|.sm Z<|.yw (.lss Z Z)<|.mv Z<|.e2 (λh6=>?_) (λh6=>?_)
 ·refine .gG<|.gG<|.yw (.pickT Z Z)<|.aq Z<|.cT Z<|.sr<|.az Z<|.bR<|.tR<|?_
  refine y9 Z Z λW s=>⟨HU ?_,s.ext⟩;unfold opI
  repeat' split
  all_goals omega
 refine .gy (.move Z)<|.gy (.gtr Z Z)<|.yw (.pickF Z Z)<|.aq Z<|.ce Z (λh3=>?_) (λh3=>?_)
 ·refine .sr<|.az Z<|.bR<|.tR<|?_
  refine y9 Z Z λW s=>⟨HU ?_,s.ext⟩;unfold opI
  repeat' split
  all_goals omega
 refine .sm Z<|.yw (.leq Z Z)<|.aq Z<|.ce Z (λh10=>?_) (λh10=>?_)
 ·refine .sr<|.az Z<|.bR<|.tR<|?_
  refine y9 Z Z λW s=>⟨HU ?_,s.ext⟩;unfold opI
  repeat' split
  all_goals omega
 refine .sm Z<|.yw (.geq Z Z)<|.mv Z<|.e2 (λh16=>?_) (λh16=>?_)
 ·refine .gy (.move Z)<|.gy (.leq Z Z)<|.yw (.pickT Z Z)<|.mv Z<|.e2 (λh20=>?_) (λh20=>?_)
  ·refine .gG<|.gG<|.yw (.pickT Z Z)<|.aq Z<|.cT Z<|.sr<|.az Z<|.bR<|.tR<|?_
   refine y9 Z Z λW s=>⟨HU ?_,s.ext⟩;unfold opI
   repeat' split
   all_goals omega
  refine .gy (.move Z)<|.gy (.eql Z Z)<|.yw (.pickF Z Z)<|.aq Z<|.cd Z (λh13=>?_) (λh13=>?_)
  ·try simp only [dt] at h13
   refine .sr<|.az Z<|.bR<|.tR<|?_
   refine y9 Z Z λW s=>⟨HU ?_,s.ext⟩;unfold opI
   repeat' split
   all_goals omega
  try simp only [df] at h13
  refine .sk<|.bN<|.tN<|.sr<|.az Z<|?_
  refine y9 Z Z λW s=>⟨HU ?_,s.ext⟩;unfold opI
  repeat' split
  all_goals omega
 refine .gG<|.gG<|.yw (.pickF Z Z)<|.mv Z<|.gy (.move Z)<|.gy (.eql Z Z)<|.yw (.pickF Z Z)<|.aq Z<|.cd Z (λh13=>?_) (λh13=>?_)
 ·try simp only [dt] at h13
  refine .sr<|.az Z<|.bR<|.tR<|?_
  refine y9 Z Z λW s=>⟨HU ?_,s.ext⟩;unfold opI
  repeat' split
  all_goals omega
 try simp only [df] at h13
 refine .sk<|.bN<|.tN<|.sr<|.az Z<|?_
 refine y9 Z Z λW s=>⟨HU ?_,s.ext⟩;unfold opI
 repeat' split
 all_goals omega
variable {n:Nat}
theorem bU6 (h:n<256):IntKind.i64.wrap (n:Int)=(Int64.ofNat n).toInt:=by
 rw [fR (by omega)];exact w64 (by omega) (by omega)
theorem bT8 {e:Ex} (h:AY 1 e):gdE e=true:=by
 unfold gdE;rw [aS (show e.depth<=34 by have:=h.1;omega),h.2];rfl
theorem bT6 {e:Ex} (h:AY 1 e):AY 1 (prE e):=⟨by rw [aC4];exact h.1,by rw [WB];exact h.2⟩
theorem bT7 {e:Ex} (h:AY 1 e):gdE e=true:=bT8 h
theorem bY5 {op:UInt8} {n:Int64} {e:Ex} (h:AY 1 e):gdE (.mk op [] 0 [e,.mk 1 [] n []])=true:=by
 unfold gdE;have h1:=h.1;rw [nR,tP,Ex.alls,Ex.alls,Ex.alls,h.2,tA,Ex.deeps,Ex.deeps,Ex.deeps,tA,Ex.deeps,aE,aD];exact ⟨by omega,Z⟩
def bZ2 (x:Nf) (cs:List Value) (H:Hp):Prop:=∃ (op:UInt8) (nm fd:Str) (a b:Int64) (ex:List Ex) (p:Option Addr) (c:Nat),cs=[.int .i64 op.toNat,cH nm,cH fd,.int .i64 a.toInt,.int .i64 b.toInt,.slice p ex.length c,.slice none 0 0]/\Rep H (.seq 4 (ex.map (dEx .i64))) [.slice p ex.length c]/\op.toNat=x.op.toNat % 19/\nm.length<=13/\fd.length<=13/\ex.length<=4/\(∀ e∈ex,gdE e=true)/\Ex.counts ex<=800
set_option maxHeartbeats 2000000 in
theorem bD4 (H:Hp) (x:Nf) (cs:List Value) (h:Rep H (dNf x) cs) (w:World) (hA:Agr H w) :
 Calls prg 69 #[.agg cs.toArray] w λr w'=>∃ (y:List Value) (H':Hp),bZ2 x y H'/\r=.returned (.agg y.toArray)/\yM H w H' w':=by
 obtain ⟨p,c,rfl,hts⟩:=YU h;have hcap:=hts.cap;obtain ⟨op,hop⟩:∃ op:UInt8,op.toNat=x.op.toNat % 19:=⟨UInt8.ofNat (x.op.toNat % 19),by simp [lY];omega⟩;have hct:=x.ct.toNat_lt;have hfdl:=x.fd.toNat_lt;refine Sx.enter (H:=H) func69 rfl ntmps69 rfl hA ?_;refine .sr<|.bx Z Z Z λb1=>.al sI Z λb2=>.ns<|.fA Z MN<|.lD Z iM cO Z<|.yw (.rem Z Z (by decide) (c:=((x.op.toNat % 19:Nat):Int)) (by rw [dB (by omega)];omega))<|.yw (.conv Z kS lH (c:=((op.toNat:Nat):Int)) ((w6 (by omega)).trans (by rw [hop])))<|.yw (.build Z (EA _))<|.al sI Z λb3=>.sX .head Z Z oY Z<|.ns<|.fA Z qO<|.lD Z cR Hm Z<|.yw (.call aH4 Z (λW s=>WX H op.toNat W s.agr))<|.mv Z<|.yw (.extract Z Z)<|.yw (.extract Z Z)<|.a Z Z<|.aq Z<|.cu (X:=Str) [(1,_),(2,_),(3,_),(5,_)] ⟨Z,Z,Z,Z,Jt⟩ (λnm=>[]) (λnm=>H) (λnm=>[.box b3 [.int .i64 op.toNat,cH nm,cH [],.int .i64 ((0:Int64)).toInt,.int .i64 ((0:Int64)).toInt,.slice none 0 0,.slice none 0 0] 27,.box b2 [.int .i64 0,.string ⟨#[]⟩,.string ⟨#[]⟩,.int .i64 0,.int .i64 0,.slice none 0 0,.slice none 0 0] 27,.box b1 [.int .u8 x.op.toNat,.int .u8 x.nm.toNat,.int .u8 x.fd.toNat,.int .u8 x.ct.toNat,.bool x.odd,.int .i64 x.a.toInt,.int .i64 x.b.toInt,.slice p x.ts.length c] 151]) (λnm=>nm.length<=13) ?_ λnm hC=>?_
 ·
  refine .sm Z<|.nt<|.cd Z (λh19=>?_) (λh19=>?_)
  ·exact .rg<|.fA Z CY<|.lD Z iM mY Z<|.yw (.call jM Z (λW s=>lO _ x.nm W s.agr))<|.fA Z zW<|.st .head Z Z fK Z (nb Z) Z<|.nt<|.me (nJ x.nm) trivial ⟨Z,Z,Z,Z,Jt⟩ (λ_ s=>s) (eK _)
  exact .sk<|.tN<|.me [] trivial ⟨Z,Z,Z,Z,Jt⟩ (λ_ s=>s) (by decide)
 have hnm:=hC;refine .cu (X:=Str) [(1,_),(2,_),(3,_)] ⟨Z,Z,Z,Jt⟩ (λfd=>[]) (λfd=>H) (λfd=>[.box b3 [.int .i64 op.toNat,cH nm,cH fd,.int .i64 ((0:Int64)).toInt,.int .i64 ((0:Int64)).toInt,.slice none 0 0,.slice none 0 0] 27,.box b2 [.int .i64 0,.string ⟨#[]⟩,.string ⟨#[]⟩,.int .i64 0,.int .i64 0,.slice none 0 0,.slice none 0 0] 27,.box b1 [.int .u8 x.op.toNat,.int .u8 x.nm.toNat,.int .u8 x.fd.toNat,.int .u8 x.ct.toNat,.bool x.odd,.int .i64 x.a.toInt,.int .i64 x.b.toInt,.slice p x.ts.length c] 151]) (λfd=>fd.length<=13) ?_ λfd hC=>?_
 ·
  refine .sm Z<|.nt<|.cd Z (λh24=>?_) (λh24=>?_)
  ·exact .rg<|.fA Z xV<|.lD Z iM mY Z<|.yw (.call jM Z (λW s=>lO _ x.fd W s.agr))<|.fA Z zU<|.st .head Z Z fK Z (nb Z) Z<|.nt<|.me (nJ x.fd) trivial ⟨Z,Z,Z,Jt⟩ (λ_ s=>s) (eK _)
  exact .sk<|.tN<|.me [] trivial ⟨Z,Z,Z,Jt⟩ (λ_ s=>s) (by decide)
 have hfd:=hC;refine .cu (X:=Int64 × Int64) [(1,_),(2,_),(3,_)] ⟨Z,Z,Z,Jt⟩ (λab=>[]) (λab=>H) (λab=>[.box b3 [.int .i64 op.toNat,cH nm,cH fd,.int .i64 ((ab.1:Int64)).toInt,.int .i64 ((ab.2:Int64)).toInt,.slice none 0 0,.slice none 0 0] 27,.box b2 [.int .i64 0,.string ⟨#[]⟩,.string ⟨#[]⟩,.int .i64 0,.int .i64 0,.slice none 0 0,.slice none 0 0] 27,.box b1 [.int .u8 x.op.toNat,.int .u8 x.nm.toNat,.int .u8 x.fd.toNat,.int .u8 x.ct.toNat,.bool x.odd,.int .i64 x.a.toInt,.int .i64 x.b.toInt,.slice p x.ts.length c] 151]) (λab=>True) ?_ λab hC=>?_
 ·
  refine .sr<|.fA Z qO<|.lD Z cR Hm Z<|.yw (.geq Z Z)<|.mv Z<|.e2 (λh32=>?_) (λh32=>?_)
  ·refine .gy (.fieldAddr Z qO)<|.gy (.load Z cR Hm Z)<|.gy (.neq Z Z)<|.yw (.pickT Z Z)<|.nt<|.ce Z (λh36=>?_) (λh36=>?_)
   ·exact .fL 7 [(0,0),(1,0),(2,0),(3,0),(4,0),(5,3),(6,0)]<|.fA Z CW<|.lD Z cR mY Z<|.fA Z xU<|.lD Z cR mY Z<|.fA Z zT<|.st .head Z Z iF Z Z Z ((.dn<|.yv (.load Z cR mY Z)<|.yv (.fieldAddr Z xU)<|.d2<|.nl))<|.fA Z zS<|.fn (tl:=[_]) Z<|.st .head Z Z iF Z (nb Z) Z<|.nt<|.me (x.a,x.b) trivial ⟨Z,Z,Z,Jt⟩ (λ_ s=>s) trivial
   exact .sk<|.tN<|.me (0,0) trivial ⟨Z,Z,Z,Jt⟩ (λ_ s=>s) trivial
  exact .gG<|.gG<|.gG<|.yw (.pickF Z Z)<|.nt<|.cF Z<|.sk<|.tN<|.me (0,0) trivial ⟨Z,Z,Z,Jt⟩ (λ_ s=>s) trivial
 obtain ⟨a,b⟩:=ab;dsimp only;refine .sr<|.fA Z CV<|.lD Z OG mY Z<|.ct (X:=List Value) LJ Z (λW s=>LB H x.ts _ hts W s.agr) Z λx1 H1 hx1 u1=>?_
 obtain ⟨e0,rx,hg0,h13,hcn⟩:=hx1;obtain ⟨op1,nm1,n1,gY,rfl⟩:=NJ e0;obtain ⟨p1,c1,rfl,hs1,_⟩:=iK rx;refine .ct (X:=List Value) LK Z (λW s=>aC6 _ h13 hg0.2 H1 _ W rx s.agr) Z λx2 H2 hx2 u2=>?_;have hg2:=bT6 hg0;have hcn2:=aC5 (.mk op1 nm1 n1 gY);obtain ⟨op2,nm2,n2,nY,hx⟩:=NJ (prE (.mk op1 nm1 n1 gY));rw [hx] at hx2 hg2 hcn2;obtain ⟨p2,c2,rfl,hs2,hnm2⟩:=iK hx2;refine .al oW Z λb6=>.sX .head Z Z lN Z<|.nt<|.cu (X:=Hp × Value × List Ex × List Value) [(1,_),(2,_),(3,_)] ⟨Z,Z,Z,Jt⟩ (λz=>[]) (λz=>z.1) (λz=>[.row 83 4 z.2.1 z.2.2.1.length z.2.2.2,.box b3 [.int .i64 op.toNat,cH nm,cH fd,.int .i64 ((a:Int64)).toInt,.int .i64 ((b:Int64)).toInt,z.2.1,.slice none 0 0] 27,.box b2 [.int .i64 0,.string ⟨#[]⟩,.string ⟨#[]⟩,.int .i64 0,.int .i64 0,.slice none 0 0,.slice none 0 0] 27,.box b1 [.int .u8 x.op.toNat,.int .u8 x.nm.toNat,.int .u8 x.fd.toNat,.int .u8 x.ct.toNat,.bool x.odd,.int .i64 x.a.toInt,.int .i64 x.b.toInt,.slice p x.ts.length c] 151]) (λz=>HUp w H z.1/\eD z.1 4 (z.2.2.1.map (dEx .i64)) z.2.2.2/\z.2.2.1.length<=3/\(∀ e∈z.2.2.1,gdE e=true)/\Ex.counts z.2.2.1<=600) ?_ λz hC=>?_
 ·
  refine .sq<|?_
  refine Sx.row0 83 4 ?_;refine .rg<|.fA Z qO<|.lD Z cR mY Z<|.nt<|.bk<|.sr<|.yw (.eql Z Z)<|.aq Z<|.ce Z (λh49=>?_) (λh49=>?_)
  ·refine .rg<|.fA Z oZ<|.lD Z iM uR Z<|.yw (.rem Z Z (by decide) (c:=((x.ct.toNat % 6:Nat):Int)) (by rw [dB (by omega)];omega))<|.yw (.conv Z kS lH (c:=((x.ct.toNat % 6:Nat):Int)) (w6 (by omega)))<|.yw (.add Z Z (c:=(((UInt8.ofNat (16+x.ct.toNat % 6)).toNat:Nat):Int)) (by rw [dX (by show 16+x.ct.toNat % 6<256;omega)];exact (w6 (by omega)).trans (by omega)))<|.yw (.loadW Z jY cO Z)<|.fA Z xV<|.lD Z iM uR Z<|.yw (.conv Z kS RF (c:=(Int64.ofNat (x.fd.toNat)).toInt) (bU6 (by omega)))<|.yw (.build Z (zZ _ _))<|.bl Z (YA _ _ _ _ _ _ _ _) Z λb61=>?_
   refine Sx.freezeBoxN λH3 u3 m3=>?_;exact .yw (.build Z (RH _ _ _ _))<|.blR (z:=4) Z (sB _ _ _ _) Z Z (by simp [maxLen]) λb63=>.fA Z mU<|.st mN Z Z tU Z (nb Z) Z<|.nl<|.bN<|.tN<|.me (H3,.slice (some ⟨b63,0,none⟩) 1 1,[(Ex.mk (UInt8.ofNat (16+x.ct.toNat % 6)) [] 0 [(Ex.mk op2 nm2 n2 nY),.mk 1 [] (Int64.ofNat x.fd.toNat) []])],[.int .i64 (UInt8.ofNat (16+x.ct.toNat % 6)).toNat,.string ⟨#[]⟩,.int .i64 0,.slice (some ⟨b61,0,none⟩) 2 2]) trivial ⟨Z,Z,Z,Jt⟩ (λ_ s=>s.pick [0,3,4,5] [_,_,_,_] Z Z) ⟨(u1.trans u2).trans u3,eD.single (qL (by decide) (Rep.mk (n:=2) (c:=2) (ds:=[dEx .i64 (Ex.mk op2 nm2 n2 nY),dEx .i64 (.mk 1 [] (Int64.ofNat x.fd.toNat) [])]) m3 (eD.app (eD.single (qL hnm2 (hs2.up u3.up)) Z) (eD.single (qL (by decide) (Rep.empty (by decide))) Z)) Z (aY _) (by decide))) Z,(by decide:1<=3),λe he=>by rw [bV.1 he];exact bY5 hg2,by dsimp only;simp only [Ex.counts,lS] at hcn2 hcn|-;omega⟩
  refine .sr<|.yw (.eql Z Z)<|.aq Z<|.ce Z (λh65=>?_) (λh65=>?_)
  ·exact .rg<|.yw (.loadW Z jY cO Z)<|.blR (z:=4) Z (sB _ _ _ _) Z Z (by simp [maxLen]) λb68=>.fA Z mU<|.st mN Z Z tU Z (nb Z) Z<|.nl<|.bN<|.tN<|.me (H2,.slice (some ⟨b68,0,none⟩) 1 1,[(Ex.mk op2 nm2 n2 nY)],[.int .i64 op2.toNat,cH nm2,.int .i64 n2.toInt,.slice p2 nY.length c2]) trivial ⟨Z,Z,Z,Jt⟩ (λ_ s=>s.pick [0,3,4,5] [_,_,_,_] Z Z) ⟨u1.trans u2,eD.single (qL hnm2 hs2) Z,(by decide:1<=3),λe he=>by rw [bV.1 he];exact bT7 hg2,by dsimp only;simp only [Ex.counts];omega⟩
  refine .sr<|.yw (.eql Z Z)<|.aq Z<|.ce Z (λh70=>?_) (λh70=>?_)
  ·refine .sr<|.aq Z<|.bk<|.pm [1,0,2,3,4] [_,_,_,_,_] Z Z<|.lp (X:=Nat × Value × List Ex × List Value × Ex × Option Addr × Nat) [(1,_),(2,_),(3,_),(6,_)] ⟨Z,Z,Z,Z,Jt⟩ [_,_] (λz=>[(7,iN z.1)]) (λz=>H2) (λz=>[.box b6 [.int .i64 (z.2.2.2.2.1.op).toNat,cH z.2.2.2.2.1.nm,.int .i64 (z.2.2.2.2.1.n).toInt,.slice z.2.2.2.2.2.1 z.2.2.2.2.1.args.length z.2.2.2.2.2.2] 83,.row 83 4 z.2.1 z.1 z.2.2.2.1,.box b3 [.int .i64 op.toNat,cH nm,cH fd,.int .i64 ((a:Int64)).toInt,.int .i64 ((b:Int64)).toInt,z.2.1,.slice none 0 0] 27]) (λz=>(z.1<=x.ct.toNat % 4/\z.2.2.1.length=z.1)/\eD H2 4 (z.2.2.1.map (dEx .i64)) z.2.2.2.1/\(∀ e∈z.2.2.1,gdE e=true)/\Ex.counts z.2.2.1<=181 * z.1/\Rep H2 (dEx .i64 z.2.2.2.2.1) [.int .i64 (z.2.2.2.2.1.op).toNat,cH z.2.2.2.2.1.nm,.int .i64 (z.2.2.2.2.1.n).toInt,.slice z.2.2.2.2.2.1 z.2.2.2.2.1.args.length z.2.2.2.2.2.2]/\gdE z.2.2.2.2.1=true/\z.2.2.2.2.1.count<=181) (λz=>x.ct.toNat % 4 - z.1) (0,.slice none 0 0,[],[],(Ex.mk op2 nm2 n2 nY),p2,c2) (λ_ s=>s) ⟨Z,Jt⟩ ⟨⟨aO _,Z⟩,eD.nil,λe he=>(by cases he),by rw [Ex.counts];exact aO _,hx2,bT7 hg2,by dsimp only;omega⟩ λz hC=>?_
   obtain ⟨k,r,ex,xs,te,tp,tc⟩:=z;obtain ⟨⟨hk0,hkl⟩,hz,hge,hxc,rt,gt,ct⟩:=hC;dsimp only at hk0 hkl hz hge hxc rt gt ct|-;obtain ⟨top,tnm,tn,targs,rfl⟩:=NJ te;dsimp only [Ex.op,Ex.nm,Ex.n,Ex.args] at rt|-;refine .sq<|.sm Z<|.fA Z oZ<|.lD Z iM uR Z<|.yw (.rem Z Z (by decide) (c:=((x.ct.toNat % 4:Nat):Int)) (by rw [dB (by omega)];omega))<|.yw (.conv Z kS lH (c:=((x.ct.toNat % 4:Nat):Int)) (w6 (by omega)))<|.yw (.lss Z Z)<|.nt<|.ce Z (λh77=>?_) (λh77=>?_)
   ·have hk:k<x.ct.toNat % 4:=by omega
    refine .sk<|.tN<|.sq<|.bk<|.sr<|.fA Z mU<|.lD Z yR mY Z<|.yw (.loadW Z jY Hm Z)<|.bl Z (sB _ _ _ _) Z λb83=>.ap (news:=[.int .i64 top.toNat,cH tnm,.int .i64 tn.toInt,.slice tp targs.length tc]) FX Z (λ_=>lZ) Z (.box Hm z0) Z (by simp [Value.oneCell',cH]) (by simp [maxLen];omega) (by omega) Z λr84 _=>?_
    refine At.ra mY λp84 c84 e84=>?_;subst e84;exact .fA Z mU<|.st mN Z Z tU Z (nb Z) Z<|.nt<|.rg<|.yw (.build Z aY9)<|.sX kT Z Z lN Z<|.nl<|.bN<|.tN<|.rg<|.mv Z<|.yw (.add Z Z w7)<|.aq Z<|.ag (x:=(k,r,ex,xs,.mk top tnm tn targs,tp,tc)) (k+1,.slice p84 (k+1) c84,ex++[Ex.mk top tnm tn targs],xs++[.int .i64 top.toNat,cH tnm,.int .i64 tn.toInt,.slice tp targs.length tc],Ex.mk 0 [] 0 [],none,0) ⟨Z,Jt⟩ ⟨Z,Z,Z,Z,Jt⟩ (λ_ s=>(s.pick [1,2,3,4,5] _ Z Z)) ⟨⟨by dsimp only;omega,by dsimp only;rw [aG];simp only [aJ,aM];omega⟩,by dsimp only;rw [bU];exact hz.snoc rt Z,λe he=>by rcases bZ.1 he with h | h;exact hge e h;rw [bV.1 h];exact gt,by dsimp only;rw [oV,Ex.counts,Ex.counts];omega,qL (by decide) (Rep.empty (aO _)),Z,by dsimp only;simp only [Ex.counts,lS];omega⟩ (by dsimp only;omega)
   have hke:k=x.ct.toNat % 4:=by omega
   subst hkl;refine At.ra (.tail _ Hm) λp84 c84 e84=>?_;subst e84;have hkl3:ex.length<=3:=by omega
   exact .ex<|.tE<|.tE<|.bE<|.bN<|.tN<|.me (H2,.slice p84 ex.length c84,ex,xs) trivial ⟨Z,Z,Z,Jt⟩ (λ_ s=>s.pick [1,2,3,4] [_,_,_,_] Z Z) ⟨u1.trans u2,hz,hkl3,hge,(show Ex.counts ex<=600 by omega)⟩
  refine .sr<|.yw (.eql Z Z)<|.aq Z<|.ce Z (λh87=>?_) (λh87=>?_)
  ·exact .rg<|.fA Z oZ<|.lD Z iM uR Z<|.yw (.rem Z Z (by decide) (c:=((x.ct.toNat % 40:Nat):Int)) (by rw [dB (by omega)];omega))<|.yw (.conv Z kS RF (c:=(Int64.ofNat (x.ct.toNat % 40)).toInt) (bU6 (by omega)))<|.yw (.build Z (zZ _ _))<|.blR (z:=4) Z (sB _ _ _ _) Z Z (by simp [maxLen]) λb94=>.fA Z mU<|.st mN Z Z tU Z (nb Z) Z<|.nl<|.bN<|.tN<|.me (H2,.slice (some ⟨b94,0,none⟩) 1 1,[(Ex.mk 1 [] (Int64.ofNat (x.ct.toNat % 40)) [])],[.int .i64 1,.string ⟨#[]⟩,.int .i64 (Int64.ofNat (x.ct.toNat % 40)).toInt,.slice none 0 0]) trivial ⟨Z,Z,Z,Jt⟩ (λ_ s=>s.pick [0,3,4,5] [_,_,_,_] Z Z) ⟨u1.trans u2,eD.single (qL (by decide) (Rep.empty (by decide))) Z,(by decide:1<=3),λe he=>by rw [bV.1 he];rfl,by dsimp only;simp only [Ex.counts,lS];omega⟩
  exact .sk<|.bN<|.tN<|.me (H2,.slice none 0 0,[],[]) trivial ⟨Z,Z,Z,Jt⟩ (λ_ s=>s.pick [0,2,3,4] [_,_,_,_] Z Z) ⟨u1.trans u2,eD.nil,aO _,λe he=>(by cases he),by rw [Ex.counts];omega⟩
 obtain ⟨H3,r,ex,xs⟩:=z;obtain ⟨u3,hz,hxl,hge,hxc⟩:=hC;dsimp only at u3 hz hxl hge hxc|-;refine At.ra Hm λpr cr er=>?_;subst er;have hts3:=hts.up u3.up;refine .cu (X:=Str × Str × Int64 × Int64 × Hp × Value × List Ex × List Value) [(2,_),(3,_)] ⟨Z,Z,Jt⟩ (λz=>[]) (λz=>z.2.2.2.2.1) (λz=>[.row 83 4 z.2.2.2.2.2.1 z.2.2.2.2.2.2.1.length z.2.2.2.2.2.2.2,.box b3 [.int .i64 op.toNat,cH z.1,cH z.2.1,.int .i64 ((z.2.2.1:Int64)).toInt,.int .i64 ((z.2.2.2.1:Int64)).toInt,z.2.2.2.2.2.1,.slice none 0 0] 27,.box b2 [.int .i64 0,.string ⟨#[]⟩,.string ⟨#[]⟩,.int .i64 0,.int .i64 0,.slice none 0 0,.slice none 0 0] 27,.box b1 [.int .u8 x.op.toNat,.int .u8 x.nm.toNat,.int .u8 x.fd.toNat,.int .u8 x.ct.toNat,.bool x.odd,.int .i64 x.a.toInt,.int .i64 x.b.toInt,.slice p x.ts.length c] 151]) (λz=>(z.1.length<=13/\z.2.1.length<=13)/\HUp w H z.2.2.2.2.1/\eD z.2.2.2.2.1 4 (z.2.2.2.2.2.2.1.map (dEx .i64)) z.2.2.2.2.2.2.2/\z.2.2.2.2.2.2.1.length<=4/\(∀ e∈z.2.2.2.2.2.2.1,gdE e=true)/\Ex.counts z.2.2.2.2.2.2.1<=800) ?_ λz hC=>?_
 ·
  refine .sr<|.fA Z CX<|.lD Z jI pT Z<|.nt<|.cd Z (λh97=>?_) (λh97=>?_)
  ·try simp only [dt] at h97
   refine .sr<|.fA Z oZ<|.lD Z iM pT Z<|.yw (.rem Z Z (by decide) (c:=((x.ct.toNat % 6:Nat):Int)) (by rw [dB (by omega)];omega))<|.nt<|.bk<|.sr<|.yw (.eql Z Z)<|.aq Z<|.ce Z (λh101=>?_) (λh101=>?_)
   ·exact .rg<|.fA Z CY<|.lD Z iM pT Z<|.yw (.call jM Z (λW s=>lO _ x.nm W s.agr))<|.fA Z zW<|.st kT Z Z fK Z (nb Z) Z<|.nl<|.bN<|.tN<|.me ((nJ x.nm),fd,a,b,H3,.slice pr ex.length cr,ex,xs) trivial ⟨Z,Z,Jt⟩ (λ_ s=>s) ⟨⟨by first | exact hnm | exact eK _,by first | exact hfd | exact eK _⟩,u3,hz,(show ex.length<=4 by omega),hge,(show Ex.counts ex<=800 by omega)⟩
   refine .sr<|.yw (.eql Z Z)<|.aq Z<|.ce Z (λh107=>?_) (λh107=>?_)
   ·exact .rg<|.fA Z xV<|.lD Z iM pT Z<|.yw (.call jM Z (λW s=>lO _ x.fd W s.agr))<|.fA Z zU<|.st kT Z Z fK Z (nb Z) Z<|.nl<|.bN<|.tN<|.me (nm,(nJ x.fd),a,b,H3,.slice pr ex.length cr,ex,xs) trivial ⟨Z,Z,Jt⟩ (λ_ s=>s) ⟨⟨by first | exact hnm | exact eK _,by first | exact hfd | exact eK _⟩,u3,hz,(show ex.length<=4 by omega),hge,(show Ex.counts ex<=800 by omega)⟩
   refine .sr<|.yw (.eql Z Z)<|.aq Z<|.ce Z (λh113=>?_) (λh113=>?_)
   ·refine .fL 6 [(0,0),(1,0),(2,0),(3,0),(4,1),(5,1)]<|.fA Z mU<|.lD Z yR cO Z<|.fA Z CV<|.lD Z OG pT Z<|.ct (X:=List Value) LJ Z (λW s=>LB H3 x.ts _ hts3 W s.agr) Z λx9 H4 hx9 u4=>?_
    obtain ⟨e9,rx9,hg9,_,hcn9⟩:=hx9;obtain ⟨op9,nm9,n9,args9,rfl⟩:=NJ e9;obtain ⟨p9,c9,rfl,hs9,_⟩:=iK rx9;refine .bl Z (sB _ _ _ _) Z λb120=>.fn (tl:=[_,_,_]) Z<|.ap (news:=[.int .i64 op9.toNat,cH nm9,.int .i64 n9.toInt,.slice p9 args9.length c9]) FX Z (λ_=>kT) Z (.box Hm z0) Z (by simp [Value.oneCell',cH]) (by simp [maxLen];omega) (by omega) Z λr121 _=>?_
    rw [show ex.length+1=(ex++[Ex.mk op9 nm9 n9 args9]).length by simp];refine At.ra cO λp121 c121 e121=>?_;subst e121;exact .fA Z mU<|.st lZ Z Z tU Z (nb Z) Z<|.nl<|.bN<|.tN<|.me (nm,fd,a,b,H4,.slice p121 (ex++[Ex.mk op9 nm9 n9 args9]).length c121,ex++[Ex.mk op9 nm9 n9 args9],xs++[.int .i64 op9.toNat,cH nm9,.int .i64 n9.toInt,.slice p9 args9.length c9]) trivial ⟨Z,Z,Jt⟩ (λ_ s=>s.pick [1,2,3,4] [_,_,_,_] Z Z) ⟨⟨hnm,hfd⟩,u3.trans u4,by dsimp only;rw [bU];exact (hz.up u4.up).snoc rx9 Z,by dsimp only;rw [aG];simp only [aJ,aM];omega,λe he=>by rcases bZ.1 he with h | h;exact hge e h;rw [bV.1 h];exact bT8 hg9,by dsimp only;rw [oV,Ex.counts,Ex.counts];omega⟩
   refine .sr<|.yw (.eql Z Z)<|.aq Z<|.ce Z (λh123=>?_) (λh123=>?_)
   ·exact .rg<|.fA Z CW<|.lD Z cR pT Z<|.fA Z zT<|.st kT Z Z iF Z (nb Z) Z<|.nl<|.bN<|.tN<|.me (nm,fd,x.a,b,H3,.slice pr ex.length cr,ex,xs) trivial ⟨Z,Z,Jt⟩ (λ_ s=>s) ⟨⟨by first | exact hnm | exact eK _,by first | exact hfd | exact eK _⟩,u3,hz,(show ex.length<=4 by omega),hge,(show Ex.counts ex<=800 by omega)⟩
   refine .sr<|.yw (.eql Z Z)<|.aq Z<|.ce Z (λh128=>?_) (λh128=>?_)
   ·exact .rg<|.fA Z xU<|.lD Z cR pT Z<|.fA Z zS<|.st kT Z Z iF Z (nb Z) Z<|.nl<|.bN<|.tN<|.me (nm,fd,a,x.b,H3,.slice pr ex.length cr,ex,xs) trivial ⟨Z,Z,Jt⟩ (λ_ s=>s) ⟨⟨by first | exact hnm | exact eK _,by first | exact hfd | exact eK _⟩,u3,hz,(show ex.length<=4 by omega),hge,(show Ex.counts ex<=800 by omega)⟩
   exact .sk<|.bN<|.tN<|.me (nm,fd,a,b,H3,.slice pr ex.length cr,ex,xs) trivial ⟨Z,Z,Jt⟩ (λ_ s=>s) ⟨⟨by first | exact hnm | exact eK _,by first | exact hfd | exact eK _⟩,u3,hz,(show ex.length<=4 by omega),hge,(show Ex.counts ex<=800 by omega)⟩
  try simp only [df] at h97
  exact .sk<|.tN<|.me (nm,fd,a,b,H3,.slice pr ex.length cr,ex,xs) trivial ⟨Z,Z,Jt⟩ (λ_ s=>s) ⟨⟨by first | exact hnm | exact eK _,by first | exact hfd | exact eK _⟩,u3,hz,(show ex.length<=4 by omega),hge,(show Ex.counts ex<=800 by omega)⟩
 obtain ⟨nm,fd,a,b,H5,r,ex,xs⟩:=z;obtain ⟨⟨hnm,hfd⟩,u5,hz,hxl,hge,hxc⟩:=hC;dsimp only at hnm hfd u5 hz hxl hge hxc|-;refine At.ra Hm λp5 c5 e5=>?_;subst e5;refine .sr<|.yw (.loadW Z qF cO Z)<|.sX lZ Z Z oY Z<|.nt<|.rt<|?_
 refine At.pm [0,2] [_,_] rfl rfl ?_;refine mK (ds:=ex.map (dEx .i64)) (bJ ..) hz λH6 p6 c6 u6 hr6 hs6=>?_;refine y8 Z (.cell Z qF Hm rfl) λW s=>⟨_,H6,⟨op,nm,fd,a,b,ex,p5,c5,Z,hs6,hop,hnm,hfd,hxl,hge,hxc⟩,Z,(u5.trans u6).grow s⟩
theorem bW4 (h:n<256):IntKind.u8.wrap (n:Int)=(n:Int):=by
 have key:∀ i∈List.range 256,IntKind.u8.wrap (i:Int)=(i:Int):=by decide +kernel
 exact key n (bY.2 h)
theorem YT (k:Nat):-1<=opI k/\opI k<=2:=by unfold opI;split <;> (try split) <;> (try split) <;> omega
theorem UN:∀ (f d:Nat),d+f=13->∀ (H:Hp) (l:List Nf) (v:Value) (w:World),Rep H (.seq 8 (l.map dNf)) [v]->Agr H w ->
 Calls prg 33 #[v,iN d] w λr w'=>∃ (y:List Value × Value) (H':Hp),(∃ (g:Fm) (rest:List Nf),Rep H' (dFm .i64 g) y.1/\gdF g=true/\g.count+1010 * rest.length<=1010 * l.length+1/\Rep H' (.seq 8 (rest.map dNf)) [y.2])/\r=.returned (.tuple #[.agg y.1.toArray,y.2])/\yM H w H' w':=by
 intro f;induction f using Nat.strongRecOn with
 | _ f ih =>
  intro d hd H l v w h hA;obtain ⟨p,c,e,_⟩:=h.sl;simp only [fQ,nZ] at e;subst e;obtain ⟨n,hn⟩:∃ n,n=(l.map dNf).length:=⟨_,Z⟩;rw [<-hn] at h|-;have hnl:n=l.length:=by simpa using hn
  have hcap:=h.cap;refine Sx.enter (H:=H) func33 rfl ntmps33 rfl hA ?_;refine .sr<|.al sI Z λb4=>.aq Z<|.sq<|.sm Z<|.yw (.lenSl FV Z)<|.yw (.eql Z Z)<|.mv Z<|.e2 (λh15=>?_) (λh15=>?_)
  ·refine .gG<|.gG<|.yw (.pickT Z Z)<|.nt<|.cT Z<|.sr<|.yw (.build Z (EA _))<|.mv Z<|.sW .head Z Z oY (by simp [Value.oneCell',cH,cNf]) Z<|.az Z<|.tR<|?_
   exact y7 Z (.cons (.cell Z qF Hm rfl) (.cons (.tmp Z) .nil)) rfl λW s=>⟨(_,_),H,⟨.mk 1 [] [] 0 0 [] [],l,BR (k:=.i64) (by decide) (by decide) (Rep.empty (by decide)) (Rep.empty (by decide)),Z,(by simp only [Fm.count,Ex.counts,Fm.counts];omega),h⟩,Z,.pure hA s.ext⟩
  refine .gy (.move Z)<|.gy (.gtr Z Z)<|.yw (.pickF Z Z)<|.nt<|.ce Z (λh18=>?_) (λh18=>?_)
  ·refine .sr<|.yw (.build Z (EA _))<|.mv Z<|.sW .head Z Z oY (by simp [Value.oneCell',cH,cNf]) Z<|.az Z<|.tR<|?_
   exact y7 Z (.cons (.cell Z qF Hm rfl) (.cons (.tmp Z) .nil)) rfl λW s=>⟨(_,_),H,⟨.mk 1 [] [] 0 0 [] [],l,BR (k:=.i64) (by decide) (by decide) (Rep.empty (by decide)) (Rep.empty (by decide)),Z,(by simp only [Fm.count,Ex.counts,Fm.counts];omega),h⟩,Z,.pure hA s.ext⟩
  have hn0:0<n:=by omega
  obtain ⟨bE,oE,cE,hpE,rE,lE,mE⟩:=h.elem (kM (f:=dNf) (show 0<l.length by omega));subst hpE;generalize hx:l[0]=x at rE;obtain ⟨pN,cN,rfl,hsN⟩:=YU rE;have hct:=x.ct.toNat_lt;refine .sk<|.tN<|.sm Z<|.yw (.indexSl FV Z Z (i:=0) Z (by omega) (q:=oE+0 * 8) (by omega))<|.yw (.loadMW Z OE mE Z)<|.al XJ Z λb6=>.sW .head Z Z XL (by simp [Value.oneCell',cH,cNf]) Z<|.ns<|.mv Z<|.yw (.cutLo FV Z Z (lo:=1) Z (by omega) h.len.2.1)<|.a Z Z<|.ns<|.yw (.loadW Z OE Hm Z)<|.ct (X:=List Value) aH9 Z (λW s=>bD4 H x _ rE W s.agr) Z λy27 H0 hy27 u0=>?_
  obtain ⟨op,nm,fd,a,b,ex,pX,cX,rfl,hsX,hop,hnm,hfd,hexl,hge,hexc⟩:=hy27;obtain ⟨m0,hm0,hm2⟩:∃ m0:Nat,max (opI op.toNat) 0=(m0:Int)/\m0<=2:=⟨(max (opI op.toNat) 0).toNat,by have:=YT op.toNat;omega,by have:=YT op.toNat;omega⟩;refine .al sI Z λb7=>.sW .head Z Z oY (by simp [Value.oneCell',cH,cNf]) Z<|.ns<|.fA Z qO<|.lD Z cR Hm Z<|.yw (.call aH8 Z (λW s=>aC7 _ op.toNat W s.agr))<|.yw (.max2 Z Z (c:=((m0:Nat):Int)) hm0)<|.aq Z<|.cu (X:=Nat) [(0,_),(1,_),(4,_),(7,_)] ⟨Z,Z,Z,Z,Jt⟩ (λm=>[(8,iN m)]) (λm=>H0) (λm=>[.box b7 [.int .i64 op.toNat,cH nm,cH fd,.int .i64 a.toInt,.int .i64 b.toInt,.slice pX ex.length cX,.slice none 0 0] 27,.box b6 [.int .u8 x.op.toNat,.int .u8 x.nm.toNat,.int .u8 x.fd.toNat,.int .u8 x.ct.toNat,.bool x.odd,.int .i64 x.a.toInt,.int .i64 x.b.toInt,.slice pN x.ts.length cN] 151,.box b4 [.int .i64 0,.string ⟨#[]⟩,.string ⟨#[]⟩,.int .i64 0,.int .i64 0,.slice none 0 0,.slice none 0 0] 27]) (λm=>m<=3) ?_ λm hC=>?_
  ·
   refine .sr<|.fA Z CX<|.lD Z jI cO Z<|.mv Z<|.b2 (λh34=>?_) (λh34=>?_)
   ·try simp only [dt] at h34
    refine .gy (.fieldAddr Z oZ)<|.gy (.load Z iM cO Z)<|.gy (.rem Z Z (by decide) (c:=((x.ct.toNat % 6:Nat):Int)) (by rw [dB (by omega)];omega))<|.gy (.eql Z Z)<|.yw (.pickT Z Z)<|.nt<|.ce Z (λh39=>?_) (λh39=>?_)
    ·exact .rg<|.fA Z oZ<|.lD Z iM cO Z<|.yw (.quo Z Z (by decide) (c:=((x.ct.toNat / 6:Nat):Int)) (by rw [oD (by omega),show ((x.ct.toNat:Nat):Int) / 6=((x.ct.toNat / 6:Nat):Int) by omega];exact bW4 (by omega)))<|.yw (.conv Z kS lH (c:=((x.ct.toNat / 6:Nat):Int)) (w6 (by omega)))<|.yw (.rem Z Z (by decide) (c:=((x.ct.toNat / 6 % 4:Nat):Int)) (by rw [dB (by omega)];omega))<|.aq Z<|.me (x.ct.toNat / 6 % 4) ⟨Z,Jt⟩ ⟨Z,Z,Z,Z,Jt⟩ (λ_ s=>s) (by omega)
    exact .sk<|.tN<|.me m0 ⟨Z,Jt⟩ ⟨Z,Z,Z,Z,Jt⟩ (λ_ s=>s) (by omega)
   try simp only [df] at h34
   exact .gG<|.gG<|.gG<|.gG<|.yw (.pickF Z Z)<|.nt<|.cF Z<|.sk<|.tN<|.me m0 ⟨Z,Jt⟩ ⟨Z,Z,Z,Z,Jt⟩ (λ_ s=>s) (by omega)
  have hm3:=hC;refine Sx.row0 27 7 ?_;refine .sq<|.sr<|.aq Z<|.bk<|.lp (X:=Nat × Hp × Value × List Value × Value) [(1,_),(4,_),(7,_),(8,_)] ⟨Z,Z,Z,Z,Jt⟩ [_,_] (λz=>[(9,iN z.1),(0,z.2.2.2.2)]) (λz=>z.2.1) (λz=>[.row 27 7 z.2.2.1 z.1 z.2.2.2.1,.box b7 [.int .i64 op.toNat,cH nm,cH fd,.int .i64 a.toInt,.int .i64 b.toInt,.slice pX ex.length cX,z.2.2.1] 27]) (λz=>z.1<=m/\HUp w H0 z.2.1/\∃ (gs:List Fm) (rest:List Nf),gs.length=z.1/\eD z.2.1 7 (gs.map (dFm .i64)) z.2.2.2.1/\(∀ g∈gs,gdF g=true)/\Fm.counts gs+1010 * rest.length+1010<=1010 * l.length+gs.length/\Rep z.2.1 (.seq 8 (rest.map dNf)) [z.2.2.2.2]) (λz=>m - z.1) (0,H0,.slice none 0 0,[],_) (λ_ s=>s) ⟨Z,Z,Jt⟩ ⟨by simp,.refl,[],l.drop 1,Z,eD.nil,(λg hg=>by cases hg),(by rw [Fm.counts,cU,aM];omega),(by have h5:=SH h (lo:=1) (by omega);rw [<-yU] at h5;exact h5.up u0.up)⟩ λz hC=>?_
  obtain ⟨k,H1,r,xs,rv⟩:=z;dsimp only at hC|-;obtain ⟨hk0,u1,gs,rest,hlen,hz,hgs,hcn,hrs⟩:=hC;refine .sq<|.sm Z<|.mv Z<|.yw (.lss Z Z)<|.nt<|.ce Z (λh47=>?_) (λh47=>?_)
  ·have hk:k<m:=by omega
   refine .sk<|.tN<|.sq<|.bk<|.sm Z<|.mv Z<|.yw (.add Z Z w7)<|.ct (X:=List Value × Value) OB Z (λW s=>ih (f - 1) (by omega) (d+1) (by omega) H1 _ _ W hrs s.agr) Z λy2 H2 hc2 u2=>?_
   obtain ⟨x2,y2⟩:=y2;obtain ⟨g2,rest2,hc2,hg2,hcn2,hrs2⟩:=hc2;dsimp only at hc2 hrs2|-;obtain ⟨op2,nm2,fd2,a2,b2,ex2,as2⟩:=g2;obtain ⟨p2,c2,q2,d2,rfl,_,_,_,_⟩:=iX hc2;refine .mv Z<|.yw (.extract Z Z)<|.yw (.extract Z Z)<|.al sI Z λb10=>.sW .head Z Z oY (by simp [Value.oneCell',cH,cNf]) Z<|.aq Z<|.rg<|.fA Z zQ<|.lD Z UZ mY Z<|.yw (.loadW Z qF Hm Z)<|.bl Z (XZ _ _ _ _ _ _ _) Z λb60=>.ap (news:=[.int .i64 op2.toNat,cH nm2,cH fd2,.int .i64 a2.toInt,.int .i64 b2.toInt,.slice p2 ex2.length c2,.slice q2 as2.length d2]) aY8 Z (λ_=>lZ) Z (.box Hm z0) Z (by simp [Value.oneCell',cH]) (by simp [maxLen];omega) (by omega) Z λr61 _=>?_
   refine At.ra (by first | exact .tail _ (.tail _ Hm) | exact .tail _ (.tail _ (.tail _ Hm))) λp61 c61 e61=>?_;exact .mv Z<|.fA Z zQ<|.st mN Z Z aG8 (by rw [e61];rfl) (nb Z) Z<|.a Z Z<|.nl<|.bN<|.tN<|.rg<|.mv Z<|.yw (.add Z Z w7)<|.aq Z<|.ag (x:=(k,H1,r,xs,rv)) (k+1,H2,r61,xs++[.int .i64 op2.toNat,cH nm2,cH fd2,.int .i64 a2.toInt,.int .i64 b2.toInt,.slice p2 ex2.length c2,.slice q2 as2.length d2],y2) ⟨Z,Z,Jt⟩ ⟨Z,Z,Z,Z,Jt⟩ (λ_ s=>(s.pick [2,3,4,5] _ Z Z)) ⟨by dsimp only;omega,u1.trans u2,gs++[.mk op2 nm2 fd2 a2 b2 ex2 as2],rest2,by simp;omega,by rw [bU];exact (hz.up u2.up).snoc hc2 Z,(λg hg=>by rcases bZ.1 hg with h | h;exact hgs g h;rw [bV.1 h];exact hg2),(by rw [eZ,Fm.counts,Fm.counts,aG];simp only [aJ,aM];omega),hrs2⟩ (by dsimp only;omega)
  obtain rfl:k=m:=by omega
  refine At.ra Hm λp61 c61 e61=>?_;subst e61;refine .ex<|.eb<|.sr<|.yw (.loadW Z qF cO Z)<|.mv Z<|.sW mN Z Z oY (by simp [Value.oneCell',cH,cNf]) Z<|.az Z<|?_
  refine At.pm [0,3] [_,_] rfl rfl ?_;refine mK (ds:=gs.map (dFm .i64)) (by simp;omega) hz λH3 p3 c3 u3 hr3 hs3=>?_;refine y7 Z (.cons (.cell Z qF Hm rfl) (.cons (.tmp Z) .nil)) rfl λW s=>⟨(_,_),H3,⟨.mk op nm fd a b ex gs,rest,BR (k:=.i64) (by omega) (by omega) ((hsX.up u1.up).up u3.up) hs3,?_,?_,hrs.up u3.up⟩,Z,((u0.trans u1).trans u3).grow s⟩
  ·exact WP.2 ⟨⟨by omega,hexl,by omega,hge⟩,hgs⟩
  ·rw [oQ];omega
def bR0 (x:List Value) (H':Hp):Prop:=∃ g:Fm,Rep H' (dFm .i64 g) x/\gdF g=true/\g.count<=40000
theorem QV (H:Hp) (l:List Nf) (v:Value) (h0:Rep H (.seq 8 (l.map dNf)) [v]) (w:World) (hA:Agr H w) :
 Calls prg 14 #[v] w λr w'=>∃ (x:List Value) (H':Hp),bR0 x H'/\r=.returned (.agg x.toArray)/\yM H w H' w':=by
 obtain ⟨p,c,e,_⟩:=h0.sl;simp only [fQ,nZ,bJ] at e;subst e;have h:=h0;have hcap:=h.cap;refine Sx.enter (H:=H) func14 rfl ntmps14 rfl hA ?_;refine .sr<|.al sI Z λb2=>.ns<|.mv Z<|.mv Z<|.yw (.lenSl FV Z)<|.yw (.min2 Z Z (c:=((min l.length 30:Nat):Int)) (by omega))<|.yw (.cutHi2 FV Z Z (h:=min l.length 30) Z (by have:=h.len.2.1;omega))<|.ct (X:=List Value × Value) OB Z (λW s=>UN 12 1 Z H (l.take (min l.length 30)) _ W (by rw [yT];exact MW h (by omega)) s.agr) Z λy H1 hc u1=>?_
 obtain ⟨x,y⟩:=y;obtain ⟨e,rest,hx,hg,hcn,_⟩:=hc;dsimp only at hx;rw [fE] at hcn;refine .mv Z<|.yw (.extract Z Z)<|.yw (.extract Z Z)<|.al sI Z λb3=>.sV .head Z Z oY (wM hx) hx.one Z<|.a Z Z<|.ns<|.yw (.loadW Z qF Hm (wM hx))<|.sV kT Z Z oY (wM hx) hx.one Z<|.nt<|.rt<|?_
 exact y8 Z (.cell Z qF cO (wM hx)) λW t=>⟨x,H1,⟨e,hx,hg,by omega⟩,Z,u1.grow t⟩
theorem ZE {e:Ex} (h:gdE e=true):Ex.all uQ e=true:=by
 unfold gdE at h;rw [aE] at h;exact h.2
variable {k:Nat}
theorem VQ {l:List Fm} (h:k<l.length):l.take (k+1)=l.take k++[l[k]]:=by rw [List.take_succ,List.getElem?_eq_getElem h];rfl
theorem bU2 (f:Fm):∃ o n d a b e r,f=.mk o n d a b e r:=by
 obtain ⟨o,n,d,a,b,e,r⟩:=f;exact ⟨o,n,d,a,b,e,r,Z⟩
def bQ7 (g:Fm):Prop:=gdF g=true->∀ (H:Hp) (cs:List Value) (w:World),Rep H (dFm .i64 g) cs->Agr H w ->
 Calls prg 16 #[.agg cs.toArray] w λr w'=>∃ x H',Rep H' (dFm .u8 g) x/\r=.returned (.agg x.toArray)/\yM H w H' w'
set_option maxHeartbeats 1000000 in
theorem aT3 (g:Fm):bQ7 g:=by
 induction g using Fm.ind with | _ op nm fd a b ex args ih
 intro hgd H cs w h hA;obtain ⟨⟨hop,hexl,hal,hge⟩,hga⟩:=WP.1 hgd;obtain ⟨p1,c1,p2,c2,rfl,hs1,hs2,hnm,hfd⟩:=iX h;have hcap1:=hs1.cap;have hcap2:=hs2.cap;refine Sx.enter (H:=H) func16 rfl ntmps16 rfl hA ?_;refine .sr<|.bx Z Z Z λb1=>.al eG Z λb2=>.ns<|.fA Z qO<|.lD Z cR cO Z<|.yw (.conv Z lH UU (c:=(op.toNat:Nat)) (by have:=op.toNat_lt;simp only [IntKind.wrap,IntKind.signed,IntKind.bits];simp;omega))<|.fA Z zW<|.lD Z cZ cO Z<|.fA Z zU<|.lD Z cZ cO Z<|.fA Z zT<|.lD Z cR cO Z<|.fA Z zS<|.lD Z cR cO Z<|.yw (.build Z (DZ _ _ _ _ _))<|.al eG Z λb3=>.sX .head Z Z cV Z<|.nt<|.sq<|.sq<|?_
 refine Sx.row0 76 4 ?_;refine .rg<|.fA Z mU<|.lD Z yR pT Z<|.yw (.lenSl BX Z)<|.mv Z<|.nt<|.bk<|.pm [1,0,2,3] [_,_,_,_] Z Z<|.lp (X:=Nat × Hp × Value × List Value) [(1,_),(2,_),(3,_),(21,_),(22,_)] ⟨Z,Z,Z,Z,Z,Jt⟩ [_,_] (λz=>[(23,iN z.1)]) (λz=>z.2.1) (λz=>[.box b3 [.int .u8 op.toNat,cH nm,cH fd,.int .i64 a.toInt,.int .i64 b.toInt,z.2.2.1,.slice none 0 0] 35,.row 76 4 z.2.2.1 z.1 z.2.2.2]) (λz=>z.1<=ex.length/\HUp w H z.2.1/\eD z.2.1 4 ((ex.take z.1).map (dEx .u8)) z.2.2.2) (λz=>ex.length - z.1) (0,H,.slice none 0 0,[]) (λ_ s=>s) ⟨Z,Jt⟩ ⟨by simp,.refl,eD.nil⟩ λz hC=>?_
 obtain ⟨k,H1,r,xs⟩:=z;dsimp only at hC|-;obtain ⟨hk0,u1,hz⟩:=hC;refine .sr<|.yw (.lss Z Z)<|.nt<|.sq<|.ce Z (λh24=>?_) (λh24=>?_)
 ·have hk:k<ex.length:=by omega
  obtain ⟨bE,oE,cE,hpE,rE,lE,mE⟩:=(hs1.up u1.up).elem (kM (f:=dEx .i64) hk);cases hpE;have hnr:=ZE (hge _ (bT hk));refine .sk<|.tN<|.sq<|.bk<|.sr<|.yw (.indexSl BX Z Z Z (by omega) (q:=oE+k * 4) Z)<|.yw (.loadMW Z jY mE lE)<|.al oW Z λb5=>.sV .head Z Z lN lE rE.one Z<|.nt<|.fL 5 [(0,0),(1,0),(2,0),(3,1),(4,1)]<|.fA Z cJ<|.lD Z dE cO Z<|.yw (.loadW Z jY Hm lE)<|.ct (X:=List Value) OA Z (λW s=>aV2 _ hnr H1 cE W rE s.agr) Z λx2 H2 hc2 u2=>?_
  obtain ⟨op2,nm2,n2,nY,hx⟩:=NJ (ex[k]);rw [hx] at hc2;obtain ⟨p2,c2,rfl,hs2,hnm2⟩:=iK hc2;refine .bl Z (nE _ _ _ _) Z λb31=>.fn (tl:=[_,_,_]) Z<|.ap (news:=[.int .u8 op2.toNat,cH nm2,.int .i64 n2.toInt,.slice p2 nY.length c2]) uM Z (λ_=>mN) Z (.box Hm z0) Z (by simp [Value.oneCell',cH]) (by simp [maxLen];omega) (by omega) Z λr32 _=>?_
  refine At.ra pT λp32 c32 e32=>?_;exact .fA Z cJ<|.st lZ Z Z mM (by rw [e32];rfl) (nb Z) Z<|.nl<|.bN<|.tN<|.rg<|.yw (.add Z Z w7)<|.mv Z<|.nt<|.ag (x:=(k,H1,r,xs)) (k+1,H2,r32,xs++[.int .u8 op2.toNat,cH nm2,.int .i64 n2.toInt,.slice p2 nY.length c2]) ⟨Z,Jt⟩ ⟨Z,Z,Z,Z,Z,Jt⟩ (λ_ s=>(s.pick [2,3,4,5] _ Z Z)) ⟨by dsimp only;omega,u1.trans u2,by dsimp only;rw [tM hk,bU,hx];exact (hz.up u2.up).snoc hc2 Z⟩ (by dsimp only;omega)
 obtain rfl:k=ex.length:=by omega
 rw [dC] at hz;refine At.ra (.tail _ Hm) λp32 c32 e32=>?_;subst e32;obtain ⟨HX,hHX⟩:∃ h,h=H1:=⟨_,Z⟩;rw [<-hHX] at u1 hz|-;have uX:=u1;have hzX:=hz;clear u1 hz hHX;refine .ex<|.eb<|.sq<|.sq<|?_
 refine Sx.row0 35 7 ?_;refine .rg<|.fA Z zQ<|.lD Z UZ uR Z<|.yw (.lenSl aA3 Z)<|.mv Z<|.nt<|.bk<|.pm [1,0,2,3,4] [_,_,_,_,_] Z Z<|.lp (X:=Nat × Hp × Value × List Value) [(2,_),(3,_),(36,_),(37,_)] ⟨Z,Z,Z,Z,Jt⟩ [_,_,_] (λz=>[(38,iN z.1)]) (λz=>z.2.1) (λz=>[.box b3 [.int .u8 op.toNat,cH nm,cH fd,.int .i64 a.toInt,.int .i64 b.toInt,.slice p32 ex.length c32,z.2.2.1] 35,.row 35 7 z.2.2.1 z.1 z.2.2.2]) (λz=>z.1<=args.length/\HUp w HX z.2.1/\eD z.2.1 7 ((args.take z.1).map (dFm .u8)) z.2.2.2) (λz=>args.length - z.1) (0,HX,.slice none 0 0,[]) (λ_ s=>s) ⟨Z,Jt⟩ ⟨by simp,.refl,eD.nil⟩ λz hC=>?_
 obtain ⟨k,H1,r,xs2⟩:=z;dsimp only at hC|-;obtain ⟨hk0,u1,hz⟩:=hC;refine .sr<|.yw (.lss Z Z)<|.nt<|.sq<|.ce Z (λh39=>?_) (λh39=>?_)
 ·have hk:k<args.length:=by omega
  obtain ⟨bE,oE,cE,hpE,rE,lE,mE⟩:=((hs2.up uX.up).up u1.up).elem (kM (f:=dFm .i64) hk);cases hpE;refine .sk<|.tN<|.sq<|.bk<|.sr<|.yw (.indexSl aA3 Z Z Z (by omega) (q:=oE+k * 7) Z)<|.yw (.loadMW Z qF mE lE)<|.al sI Z λb7=>.sV .head Z Z oY lE rE.one Z<|.nt<|.fL 5 [(0,0),(1,0),(2,0),(3,1),(4,1)]<|.fA Z dD<|.lD Z fP cO Z<|.yw (.loadW Z qF Hm lE)<|.ct (X:=List Value) OD Z (λW s=>ih _ (bT hk) (hga _ (bT hk)) H1 cE W rE s.agr) Z λx2 H2 hc2 u2=>?_
  obtain ⟨op2,nm2,fd2,a2,b2x,ex2,as2,hx⟩:=bU2 (args[k]);rw [hx] at hc2;obtain ⟨p2,c2,q2,d2,rfl,_,_,_,_⟩:=iX hc2;refine .bl Z (qD _ _ _ _ _ _ _) Z λb46=>.fn (tl:=[_,_,_]) Z<|.ap (news:=[.int .u8 op2.toNat,cH nm2,cH fd2,.int .i64 a2.toInt,.int .i64 b2x.toInt,.slice p2 ex2.length c2,.slice q2 as2.length d2]) rQ Z (λ_=>mN) Z (.box Hm z0) Z (by simp [Value.oneCell',cH]) (by simp [maxLen];omega) (by omega) Z λr47 _=>?_
  refine At.ra pT λp47 c47 e47=>?_;exact .fA Z dD<|.st lZ Z Z CA (by rw [e47];rfl) (nb Z) Z<|.nl<|.bN<|.tN<|.rg<|.yw (.add Z Z w7)<|.mv Z<|.nt<|.ag (x:=(k,H1,r,xs2)) (k+1,H2,r47,xs2++[.int .u8 op2.toNat,cH nm2,cH fd2,.int .i64 a2.toInt,.int .i64 b2x.toInt,.slice p2 ex2.length c2,.slice q2 as2.length d2]) ⟨Z,Jt⟩ ⟨Z,Z,Z,Z,Jt⟩ (λ_ s=>(s.pick [2,3,4,5,6] _ Z Z)) ⟨by dsimp only;omega,u1.trans u2,by dsimp only;rw [VQ hk,bU,hx];exact (hz.up u2.up).snoc hc2 Z⟩ (by dsimp only;omega)
 obtain rfl:k=args.length:=by omega
 rw [dC] at hz;refine At.ra (.tail _ Hm) λp47 c47 e47=>?_;subst e47;refine .ex<|.eb<|.sr<|.yw (.loadW Z cD Hm Z)<|.sX mN Z Z cV Z<|.nt<|.rt<|?_
 refine At.pm [2,1,3] [_,_,_] rfl rfl ?_;refine mK (ds:=ex.map (dEx .u8)) (bJ ..) (hzX.up u1.up) λH3 p3 c3 u3 hr3 hs3=>?_;refine mK (ds:=args.map (dFm .u8)) (bJ ..) (hz.up u3.up) λH4 p4 c4 u4 hr4 hs4=>?_;refine y8 Z (.cell Z cD Hm rfl) λW s=>⟨_,H4,BR hnm hfd (hs3.up u4.up) hs4,Z,(((uX.trans u1).trans u3).trans u4).grow s⟩
theorem RV:∀ l,aL4 l=l.map λe=>(e.op,tmT e)
 | []=>by rw [aL4];rfl
 | e::r=>by rw [aL4,RV r];rfl
theorem UD:∀ l,aT5 l=l.map λf=>(f.op,fmT f)
 | []=>by rw [aT5];rfl
 | e::r=>by rw [aT5,UD r];rfl
theorem vX {op:UInt8} {nm:Str} {n:Int64} {args:List Ex} :tmT (.mk op nm n args)=VI op nm n (args.map λe=>(e.op,tmT e)):=by rw [tmT,RV]
theorem AF {op:UInt8} {nm fd:Str} {b:Int64} {ex:List Ex} {args:List Fm} :fmT (.mk op nm fd a b ex args)=KV (.mk op nm fd a b ex args) (args.map λf=>(f.op,fmT f)):=by rw [fmT,UD]
theorem hd0 {α β:Type} {f:α->β} {l:List α} {d:β} (h:0<l.length):(l.map f).headD d=f l[0]:=by
 cases l with
 | nil=>exact absurd h (Nat.lt_irrefl _)
 | cons a r=>rfl
theorem hd1 {α β:Type} {f:α->β} {l:List α} {d:β} (h:1<l.length):((l.map f).drop 1).headD d=f l[1]:=by
 match l,h with
 | _::b::r,_=>rfl
theorem EF {op:UInt8} (h:op=14\/op=15):tlv op=4:=by unfold tlv;rw [aL h]
theorem xP {op:UInt8} (h:op=11\/op=12\/op=13):tlv op=5:=by unfold tlv;rw [aF (by rcases h with rfl | rfl | rfl <;> decide),aL h]
theorem VK {op:UInt8} (h:op=9):tlv op=6:=by subst h;rfl
theorem VJ {op:UInt8} (h1:¬ op=14) (h2:¬ op=15) (h3:¬ op=11) (h4:¬ op=12) (h5:¬ op=13) (h6:¬ op=9):tlv op=7:=by
 unfold tlv;rw [aF (by rintro (h | h);exact h1 h;exact h2 h),aF (by rintro (h | h | h);exact h3 h;exact h4 h;exact h5 h),aF h6]
theorem GF (op:UInt8):tlv op<=7:=by
 unfold tlv
 repeat' split
 all_goals omega
section
variable {op:UInt8} {nm:Str} {n:Int64} {args:List Ex}
theorem tm1 (h:op=1):tmT (.mk op nm n args)=Lib.itoa n.toInt:=by rw [vX];subst h;rfl
theorem tm4 (h:op=4):tmT (.mk op nm n args)=[110,111,119]:=by rw [vX];subst h;rfl
theorem tm5 (h:op=5):tmT (.mk op nm n args)=nm:=by rw [vX];subst h;rfl
theorem tm6 (h:op=6) (h0:0<args.length):tmT (.mk op nm n args)=(nm++([91]:Str)++tmT args[0]++([93]:Str):Str):=by
 rw [vX];subst h;show (nm++([91]:Str)++_++([93]:Str):Str)=_;rw [hd0 h0]
theorem tm8 (h:op=8):tmT (.mk op nm n args)=(([115,105,122,101,32]:Str)++nm):=by rw [vX];subst h;rfl
theorem tm9 (h:op=9) (h0:0<args.length):tmT (.mk op nm n args)=(([45]:Str)++yG (decide (tlv args[0].op<6)) (tmT args[0]):Str):=by
 rw [vX];subst h;show (([45]:Str)++yG _ _:Str)=_;rw [hd0 h0]
theorem tmb (h:op=11\/op=12\/op=13\/op=14\/op=15) (h0:0<args.length) (h1:1<args.length):tmT (.mk op nm n args)=(yG (decide (tlv args[0].op<tlv op)) (tmT args[0])++([32]:Str)++wZ op++([32]:Str)++yG (decide (tlv args[1].op<tlv op+1)) (tmT args[1]):Str):=by
 rw [vX];unfold VI;rw [hd0 h0,hd1 h1];rcases h with rfl | rfl | rfl | rfl | rfl <;> rfl
theorem tmn (h1:¬ op=1) (h4:¬ op=4) (h5:¬ op=5) (h6:¬ op=6) (h8:¬ op=8) (h9:¬ op=9) (hb:¬ (op=11\/op=12\/op=13\/op=14\/op=15)):tmT (.mk op nm n args)=[95]:=by
 rw [vX];unfold VI;rw [aF h1,aF h4,aF h5,aF h6,aF h8,aF h9,aF hb]
end
theorem kX (b:Bool) (s:Str):s.length<=(yG b s).length/\(yG b s).length<=s.length+2:=by
 unfold yG;cases b
 ·rw [aF (by decide)];omega
 ·rw [aL rfl];simp only [aG,aJ,aM];omega
theorem YH {l:List Str} {m:Nat} (h:∀ x∈l,x.length<=m) (i:Nat):(l.getD i []).length<=m:=by
 rw [List.getD_eq_getElem?_getD];cases e:l[i]? with
 | none=>exact aO _
 | some x=>exact h x (Al_List_mem_of_getElem? e)
theorem yA (op:UInt8):(wZ op).length<=2:=YH (l:=lR) (by decide) _
theorem GB (op:UInt8):(iB op).length<=8:=YH (l:=QN) (by decide) _
theorem JP {op:UInt8} {nm:Str} {n:Int64} {args:List Ex} (h:op=6\/op=9) (hT:eL (.mk op nm n args)=true):args.length=1/\∀ a∈args,eL a=true:=by
 rw [RZ,aE,aW] at hT;refine ⟨?_,hT.2⟩;have h1:=hT.1;unfold aZ2 at h1;simp only [aE,aD] at h1;have h2:=h1.1.1.1.2;rcases h with rfl | rfl
 ·exact Int.ofNat_inj.1 (h2.symm.trans (by decide))
 ·exact Int.ofNat_inj.1 (h2.symm.trans (by decide))
theorem VM {op:UInt8} {nm:Str} {n:Int64} {args:List Ex} (h:op=11\/op=12\/op=13\/op=14\/op=15) (hT:eL (.mk op nm n args)=true):args.length=2/\∀ a∈args,eL a=true:=by
 rw [RZ,aE,aW] at hT;refine ⟨?_,hT.2⟩;have h1:=hT.1;unfold aZ2 at h1;simp only [aE,aD] at h1;have h2:=h1.1.1.1.2;rcases h with rfl | rfl | rfl | rfl | rfl <;> exact Int.ofNat_inj.1 (h2.symm.trans (by decide))
def nlE (e:Ex):Bool:=Ex.all (λe=>decide (e.nm.length<=1000000)) e
theorem ED (e:Ex) (hn:nlE e=true):(tmT e).length<=1000100 * e.count:=by
 induction e using Ex.ind with | _ op nm n args ih
 unfold nlE at hn;rw [nR,mL,aE,aD,aW] at hn;obtain ⟨hn,ha⟩:=hn;have hn':nm.length<=1000000:=hn
 have hx:∀ (l:List (UInt8 × Str)),l=args.map (λe=>(e.op,tmT e))->(l.headD (0,[])).2.length+((l.drop 1).headD (0,[])).2.length<=1000100 * Ex.counts args:=by
  rintro l rfl
  match args,ih,ha with
  | [],_,_=>exact aO _
  | [a],ih,ha =>
   have:=ih a (aX ..) (ha a (aX ..));rw [Ex.counts,Ex.counts];show (tmT a).length+0<=_;omega
  | a::b::r,ih,ha =>
   have h1:=ih a (aX ..) (ha a (aX ..));have h2:=ih b (bS _ (aX ..)) (ha b (bS _ (aX ..)));rw [Ex.counts,Ex.counts];show (tmT a).length+(tmT b).length<=_;omega
 have hx:=hx _ rfl;rw [lS,vX];unfold VI;generalize args.map (λe=>(e.op,tmT e))=l at hx|-;have hi:=rL n;have p1:=(kX (decide (tlv (l.headD (0,[])).1<6)) (l.headD (0,[])).2).2;have p2:=(kX (decide (tlv (l.headD (0,[])).1<tlv op)) (l.headD (0,[])).2).2;have p3:=(kX (decide (tlv ((l.drop 1).headD (0,[])).1<tlv op+1)) ((l.drop 1).headD (0,[])).2).2;have p4:=yA op;generalize Ex.counts args=C at hx|-
 repeat' split
 all_goals (try simp only [aG,aJ,aM]);omega
def Gq (H:Hp):Prop:=∀ W,Agr H W->Lib.TabIs prg W "internal/strconv.uint64pow10" .u64 Lib.pow10Tab
variable {H':Hp}
theorem Gq.up (g:Gq H) (u:Up H H'):Gq H':=λW a=>g W ⟨λb o e=>a b o (u b o e),u.lo ▸ a.lo⟩
theorem UI {w:World} (os:Array Obj):Ext w (Sort.grow w os) :=
 Ext.of_below ⟨Z,Z,Z,by simp [Sort.grow],λk hk=>by simp [Sort.grow,Array.getElem?_append,hk]⟩
theorem MB (H:Hp) (g:Gq H) (n:Int64) (w:World) (hA:Agr H w):Calls prg 138 #[.int .i64 n.toInt,.int .i64 10] w λr w'=>r=.returned (cH (Lib.itoa n.toInt))/\Ext w w' :=
 (Tryz.strconv_FormatInt_10 n.toInt (by have:=n.le_toInt;omega) (by have:=n.toInt_lt;omega) w (g w hA)).mono λ_ _ ⟨he,k,os,hw⟩=>⟨he,hw ▸ ((Ext.refl w).drewN k).trans (UI os)⟩
theorem FA (H:Hp) (g:Gq H) (n:Int64) (w:World) (hA:Agr H w):Calls prg 144 #[.int .i64 n.toInt] w λr w'=>r=.returned (cH (Lib.itoa n.toInt))/\Ext w w' :=
 (Tryz.strconv_Itoa n.toInt (by have:=n.le_toInt;omega) (by have:=n.toInt_lt;omega) w (g w hA)).mono λ_ _ ⟨he,k,os,hw⟩=>⟨he,hw ▸ ((Ext.refl w).drewN k).trans (UI os)⟩
theorem YF (H:Hp) (op:UInt8) (w:World) (hA:Agr H w):Calls prg 140 #[.int .u8 op.toNat] w λr w'=>r=.returned (iN (tlv op))/\Ext w w':=by
 refine Sx.enter (H:=H) func140 rfl ntmps140 rfl hA ?_;refine .sr<|.aq Z<|.sq<|.sm Z<|.nt<|.bk<|.sq<|.sr<|.yw (.eql Z Z)<|.aq Z<|.cr Z (λh4=>?_) (λh4=>?_)
 ·have qa:op=14:=aQ.1 (by have:=aH h4;show op.toNat=14;omega);refine .sk<|.tN<|.cT Z<|.sr<|.az Z<|.bR<|.tR<|?_
  refine y9 Z Z λW s=>⟨?_,s.ext⟩
  first
   | (rw [EF (.inl qa)];rfl)
   | (rw [EF (.inr qa)];rfl)
   | (rw [xP (.inl qb)];rfl)
   | (rw [xP (.inr (.inl qb))];rfl)
   | (rw [xP (.inr (.inr qb))];rfl)
   | (rw [VK q9];rfl)
   | (rw [VJ qa14 qa15 qb11 qb12 qb13 q9];rfl)
 have qa14:¬ op=14:=λe=>aN h4 (by rw [e];rfl);refine .rg<|.yw (.eql Z Z)<|.aq Z<|.cr Z (λh4=>?_) (λh4=>?_)
 ·have qa:op=15:=aQ.1 (by have:=aH h4;show op.toNat=15;omega);refine .sr<|.az Z<|.bR<|.tR<|?_
  refine y9 Z Z λW s=>⟨?_,s.ext⟩
  first
   | (rw [EF (.inl qa)];rfl)
   | (rw [EF (.inr qa)];rfl)
   | (rw [xP (.inl qb)];rfl)
   | (rw [xP (.inr (.inl qb))];rfl)
   | (rw [xP (.inr (.inr qb))];rfl)
   | (rw [VK q9];rfl)
   | (rw [VJ qa14 qa15 qb11 qb12 qb13 q9];rfl)
 have qa15:¬ op=15:=λe=>aN h4 (by rw [e];rfl);refine .sq<|.sr<|.yw (.eql Z Z)<|.aq Z<|.cr Z (λh7=>?_) (λh7=>?_)
 ·have qb:op=11:=aQ.1 (by have:=aH h7;show op.toNat=11;omega);refine .sk<|.tN<|.cT Z<|.sr<|.az Z<|.bR<|.tR<|?_
  refine y9 Z Z λW s=>⟨?_,s.ext⟩
  first
   | (rw [EF (.inl qa)];rfl)
   | (rw [EF (.inr qa)];rfl)
   | (rw [xP (.inl qb)];rfl)
   | (rw [xP (.inr (.inl qb))];rfl)
   | (rw [xP (.inr (.inr qb))];rfl)
   | (rw [VK q9];rfl)
   | (rw [VJ qa14 qa15 qb11 qb12 qb13 q9];rfl)
 have qb11:¬ op=11:=λe=>aN h7 (by rw [e];rfl);refine .sr<|.yw (.eql Z Z)<|.aq Z<|.cr Z (λh7=>?_) (λh7=>?_)
 ·have qb:op=12:=aQ.1 (by have:=aH h7;show op.toNat=12;omega);refine .sk<|.tN<|.cT Z<|.sr<|.az Z<|.bR<|.tR<|?_
  refine y9 Z Z λW s=>⟨?_,s.ext⟩
  first
   | (rw [EF (.inl qa)];rfl)
   | (rw [EF (.inr qa)];rfl)
   | (rw [xP (.inl qb)];rfl)
   | (rw [xP (.inr (.inl qb))];rfl)
   | (rw [xP (.inr (.inr qb))];rfl)
   | (rw [VK q9];rfl)
   | (rw [VJ qa14 qa15 qb11 qb12 qb13 q9];rfl)
 have qb12:¬ op=12:=λe=>aN h7 (by rw [e];rfl);refine .rg<|.yw (.eql Z Z)<|.aq Z<|.cr Z (λh7=>?_) (λh7=>?_)
 ·have qb:op=13:=aQ.1 (by have:=aH h7;show op.toNat=13;omega);refine .sr<|.az Z<|.bR<|.tR<|?_
  refine y9 Z Z λW s=>⟨?_,s.ext⟩
  first
   | (rw [EF (.inl qa)];rfl)
   | (rw [EF (.inr qa)];rfl)
   | (rw [xP (.inl qb)];rfl)
   | (rw [xP (.inr (.inl qb))];rfl)
   | (rw [xP (.inr (.inr qb))];rfl)
   | (rw [VK q9];rfl)
   | (rw [VJ qa14 qa15 qb11 qb12 qb13 q9];rfl)
 have qb13:¬ op=13:=λe=>aN h7 (by rw [e];rfl);refine .sr<|.yw (.eql Z Z)<|.aq Z<|.cd Z (λh11=>?_) (λh11=>?_)
 ·have q9:op=9:=aQ.1 (by have:=aH h11;show op.toNat=9;omega);refine .sr<|.az Z<|.bR<|.tR<|?_
  refine y9 Z Z λW s=>⟨?_,s.ext⟩
  first
   | (rw [EF (.inl qa)];rfl)
   | (rw [EF (.inr qa)];rfl)
   | (rw [xP (.inl qb)];rfl)
   | (rw [xP (.inr (.inl qb))];rfl)
   | (rw [xP (.inr (.inr qb))];rfl)
   | (rw [VK q9];rfl)
   | (rw [VJ qa14 qa15 qb11 qb12 qb13 q9];rfl)
 have q9:¬ op=9:=λe=>aN h11 (by rw [e];rfl);refine .sk<|.bN<|.tN<|.sr<|.az Z<|?_
 refine y9 Z Z λW s=>⟨?_,s.ext⟩
 first
  | (rw [EF (.inl qa)];rfl)
  | (rw [EF (.inr qa)];rfl)
  | (rw [xP (.inl qb)];rfl)
  | (rw [xP (.inr (.inl qb))];rfl)
  | (rw [xP (.inr (.inr qb))];rfl)
  | (rw [VK q9];rfl)
  | (rw [VJ qa14 qa15 qb11 qb12 qb13 q9];rfl)
theorem uP (H:Hp) (e:Ex) (k:Nat) (ht:(∀ (cs:List Value) (W:World),Rep H (dEx .u8 e) cs->eL e=true\/Ex.op e=0->(tmT e).length<=1000000000->Agr H W->Calls prg 89 #[.agg cs.toArray] W λr W'=>r=.returned (cH (tmT e))/\Ext W W')) (cs:List Value) (w:World) (h:Rep H (dEx .u8 e) cs) (hok:eL e=true\/e.op=0) (hl:(tmT e).length<=1000000000) (hA:Agr H w) :
 Calls prg 139 #[.agg cs.toArray,iN k] w λr w'=>r=.returned (cH (yG (decide (tlv e.op<k)) (tmT e)))/\Ext w w':=by
 obtain ⟨op,nm,nn,args⟩:=e;obtain ⟨pp,c,rfl,hs,hnm⟩:=iK h;refine Sx.enter (H:=H) func139 rfl ntmps139 rfl hA ?_;refine .sr<|.bx Z Z Z λb2=>.aq Z<|.sq<|.sr<|.fA Z gO<|.lD Z jR Hm Z<|.yw (.call LI Z (λW s=>YF H op W s.agr))<|.mv Z<|.yw (.lss Z Z)<|.nt<|.cd Z (λh9=>?_) (λh9=>?_)
 ·have h9:tlv op<k:=by have:=aH h9;omega
  refine .sr<|.yw (.loadW Z dP Hm Z)<|.yw (.call sK Z (λW s=>ht _ W h hok hl s.agr))<|.yw (.app Z Z (by (try simp only [aG,aJ,aM]);omega))<|.yw (.app Z Z (by (try simp only [aG,aJ,aM]);omega))<|.az Z<|.tR<|?_
  refine y9 Z Z λW s=>⟨?_,s.ext⟩
  first
   | (rw [show decide (tlv (Ex.op (.mk op nm nn args))<k)=true from aS h9];rfl)
   | (rw [show decide (tlv (Ex.op (.mk op nm nn args))<k)=false from aP h9];rfl)
 have h9:¬ tlv op<k:=λe=>aN h9 (by omega);refine .sk<|.tN<|.sr<|.yw (.loadW Z dP Hm Z)<|.yw (.call sK Z (λW s=>ht _ W h hok hl s.agr))<|.az Z<|?_
 refine y9 Z Z λW s=>⟨?_,s.ext⟩
 first
  | (rw [show decide (tlv (Ex.op (.mk op nm nn args))<k)=true from aS h9];rfl)
  | (rw [show decide (tlv (Ex.op (.mk op nm nn args))<k)=false from aP h9];rfl)
theorem sP (H:Hp) (G:Gf H) (gq:Gq H) (e:Ex):(∀ (cs:List Value) (W:World),Rep H (dEx .u8 e) cs->eL e=true\/Ex.op e=0->(tmT e).length<=1000000000->Agr H W->Calls prg 89 #[.agg cs.toArray] W λr W'=>r=.returned (cH (tmT e))/\Ext W W'):=by
 induction e using Ex.ind with | _ op nm nn args ih
 intro cs w h hok hl hA;obtain ⟨pp,c,rfl,hs,hnm⟩:=iK h;have hcap:=hs.cap;refine Sx.enter (H:=H) func89 rfl ntmps89 rfl hA ?_;refine .sr<|.bx Z Z Z λb1=>.aq Z<|.sq<|.sr<|.fA Z gO<|.lD Z jR Hm Z<|.nt<|.bk<|.sr<|.yw (.eql Z Z)<|.aq Z<|.cd Z (λh6=>?_) (λh6=>?_)
 ·have q1:op=1:=aQ.1 (by have:=aH h6;show op.toNat=1;omega);refine .sr<|.fA Z gD<|.lD Z fC Hm Z<|.yw (.call XU Z (λW s=>MB H gq nn W s.agr))<|.az Z<|.bR<|.tR<|?_
  refine y9 Z Z λW s=>⟨?_,s.ext⟩
  first
   | (rw [tm1 q1])
   | (rw [tm4 q4];rfl)
   | (rw [tm5 q5])
   | (rw [tm6 q6 h0];rfl)
   | (rw [tm8 q8];rfl)
   | (rw [tm9 q9 h0];rfl)
   | (rw [tmb qB h0 h1];rfl)
   | (rw [tmn q1 q4 q5 q6 q8 q9 qB];rfl)
 have q1:¬ op=1:=λe=>aN h6 (by rw [e];rfl);refine .sr<|.yw (.eql Z Z)<|.aq Z<|.cd Z (λh11=>?_) (λh11=>?_)
 ·have q4:op=4:=aQ.1 (by have:=aH h11;show op.toNat=4;omega);refine .sr<|.az Z<|.bR<|.tR<|?_
  refine y9 Z Z λW s=>⟨?_,s.ext⟩
  first
   | (rw [tm1 q1])
   | (rw [tm4 q4];rfl)
   | (rw [tm5 q5])
   | (rw [tm6 q6 h0];rfl)
   | (rw [tm8 q8];rfl)
   | (rw [tm9 q9 h0];rfl)
   | (rw [tmb qB h0 h1];rfl)
   | (rw [tmn q1 q4 q5 q6 q8 q9 qB];rfl)
 have q4:¬ op=4:=λe=>aN h11 (by rw [e];rfl);refine .sr<|.yw (.eql Z Z)<|.aq Z<|.cd Z (λh13=>?_) (λh13=>?_)
 ·have q5:op=5:=aQ.1 (by have:=aH h13;show op.toNat=5;omega);refine .sr<|.fA Z fT<|.lD Z cZ Hm Z<|.az Z<|.bR<|.tR<|?_
  refine y9 Z Z λW s=>⟨?_,s.ext⟩
  first
   | (rw [tm1 q1])
   | (rw [tm4 q4];rfl)
   | (rw [tm5 q5])
   | (rw [tm6 q6 h0];rfl)
   | (rw [tm8 q8];rfl)
   | (rw [tm9 q9 h0];rfl)
   | (rw [tmb qB h0 h1];rfl)
   | (rw [tmn q1 q4 q5 q6 q8 q9 qB];rfl)
 have q5:¬ op=5:=λe=>aN h13 (by rw [e];rfl);refine .sr<|.yw (.eql Z Z)<|.aq Z<|.cd Z (λh17=>?_) (λh17=>?_)
 ·have q6:op=6:=aQ.1 (by have:=aH h17;show op.toNat=6;omega);obtain ⟨hla,hta⟩:=JP (.inl q6) (hok.resolve_right (by rw [q6];exact (by decide:¬ (6:UInt8)=0)));have h0:0<args.length:=by omega
  obtain ⟨b0,o0,c0,hp0,r0,l0,m0⟩:=hs.elem (kM h0);cases hp0;rw [tm6 q6 h0] at hl;simp only [aG,aJ,aM] at hl

  refine .sq<|.fL 10 [(0,0),(1,0),(2,0),(3,0),(4,0),(5,0),(6,0),(7,0),(8,0),(9,0)]<|.fA Z fT<|.lD Z cZ Hm Z<|.yw (.app Z Z (by (try simp only [aG,aJ,aM]);omega))<|.fA Z eA<|.lD Z dE Hm Z<|.yw (.indexSl dO Z Z (i:=0) Z (by omega) (q:=o0+0 * 4) Z)<|.yw (.loadMW Z dP m0 l0)<|.yw (.call sK Z (λW s=>ih _ (bT h0) _ W r0 (.inl (hta _ (bT h0))) (by omega) s.agr))<|.yw (.app Z Z (by (try simp only [aG,aJ,aM]);omega))<|.yw (.app Z Z (by (try simp only [aG,aJ,aM]);omega))<|.fn (tl:=[_]) Z<|.az Z<|.bR<|.tR<|?_
  refine y9 Z Z λW s=>⟨?_,s.ext⟩
  first
   | (rw [tm1 q1])
   | (rw [tm4 q4];rfl)
   | (rw [tm5 q5])
   | (rw [tm6 q6 h0];rfl)
   | (rw [tm8 q8];rfl)
   | (rw [tm9 q9 h0];rfl)
   | (rw [tmb qB h0 h1];rfl)
   | (rw [tmn q1 q4 q5 q6 q8 q9 qB];rfl)
 have q6:¬ op=6:=λe=>aN h17 (by rw [e];rfl);refine .sr<|.yw (.eql Z Z)<|.aq Z<|.cd Z (λh29=>?_) (λh29=>?_)
 ·have q8:op=8:=aQ.1 (by have:=aH h29;show op.toNat=8;omega);refine .sr<|.fA Z fT<|.lD Z cZ Hm Z<|.yw (.app Z Z (by (try simp only [aG,aJ,aM]);omega))<|.az Z<|.bR<|.tR<|?_
  refine y9 Z Z λW s=>⟨?_,s.ext⟩
  first
   | (rw [tm1 q1])
   | (rw [tm4 q4];rfl)
   | (rw [tm5 q5])
   | (rw [tm6 q6 h0];rfl)
   | (rw [tm8 q8];rfl)
   | (rw [tm9 q9 h0];rfl)
   | (rw [tmb qB h0 h1];rfl)
   | (rw [tmn q1 q4 q5 q6 q8 q9 qB];rfl)
 have q8:¬ op=8:=λe=>aN h29 (by rw [e];rfl);refine .sr<|.yw (.eql Z Z)<|.aq Z<|.cd Z (λh34=>?_) (λh34=>?_)
 ·have q9:op=9:=aQ.1 (by have:=aH h34;show op.toNat=9;omega);obtain ⟨hla,hta⟩:=JP (.inr q9) (hok.resolve_right (by rw [q9];exact (by decide:¬ (9:UInt8)=0)));have h0:0<args.length:=by omega
  obtain ⟨b0,o0,c0,hp0,r0,l0,m0⟩:=hs.elem (kM h0);cases hp0;rw [tm9 q9 h0] at hl;simp only [aG,aJ,aM] at hl;have pl:=kX (decide (tlv args[0].op<6)) (tmT args[0])

  refine .sr<|.fA Z eA<|.lD Z dE Hm Z<|.yw (.indexSl dO Z Z (i:=0) Z (by omega) (q:=o0+0 * 4) Z)<|.yw (.loadMW Z dP m0 l0)<|.yw (.call DV Z (λW s=>uP H _ 6 (ih _ (bT h0)) _ W r0 (.inl (hta _ (bT h0))) (by omega) s.agr))<|.yw (.app Z Z (by (try simp only [aG,aJ,aM]);omega))<|.az Z<|.bR<|.tR<|?_
  refine y9 Z Z λW s=>⟨?_,s.ext⟩
  first
   | (rw [tm1 q1])
   | (rw [tm4 q4];rfl)
   | (rw [tm5 q5])
   | (rw [tm6 q6 h0];rfl)
   | (rw [tm8 q8];rfl)
   | (rw [tm9 q9 h0];rfl)
   | (rw [tmb qB h0 h1];rfl)
   | (rw [tmn q1 q4 q5 q6 q8 q9 qB];rfl)
 have q9:¬ op=9:=λe=>aN h34 (by rw [e];rfl);refine .cu (X:=Bool) [(1,_)] ⟨Z,Jt⟩ (λz=>[(42,.bool z)]) (λz=>H) (λz=>[.box b1 [.int .u8 op.toNat,cH nm,.int .i64 nn.toInt,.slice pp args.length c] 76]) (λz=>z=decide (op=11\/op=12\/op=13\/op=14\/op=15)) ?_ λz hC=>?_
 ·
  refine .sr<|.yw (.eql Z Z)<|.aq Z<|.cr Z (λh42=>?_) (λh42=>?_)
  ·have qb:op=11:=aQ.1 (by have:=aH h42;show op.toNat=11;omega);exact .sk<|.tN<|.me _ ⟨Z,Jt⟩ ⟨Z,Jt⟩ (λ_ s=>s) (by first | (rw [qb];rfl) | (simp only [qb11,qb12,qb13,qb14,false_or];exact k8 (m:=15) (by decide)))
  have qb11:¬ op=11:=λe=>aN h42 (by rw [e];rfl);refine .sr<|.yw (.eql Z Z)<|.aq Z<|.cr Z (λh42=>?_) (λh42=>?_)
  ·have qb:op=12:=aQ.1 (by have:=aH h42;show op.toNat=12;omega);exact .sk<|.tN<|.me _ ⟨Z,Jt⟩ ⟨Z,Jt⟩ (λ_ s=>s) (by first | (rw [qb];rfl) | (simp only [qb11,qb12,qb13,qb14,false_or];exact k8 (m:=15) (by decide)))
  have qb12:¬ op=12:=λe=>aN h42 (by rw [e];rfl);refine .sr<|.yw (.eql Z Z)<|.aq Z<|.cr Z (λh42=>?_) (λh42=>?_)
  ·have qb:op=13:=aQ.1 (by have:=aH h42;show op.toNat=13;omega);exact .sk<|.tN<|.me _ ⟨Z,Jt⟩ ⟨Z,Jt⟩ (λ_ s=>s) (by first | (rw [qb];rfl) | (simp only [qb11,qb12,qb13,qb14,false_or];exact k8 (m:=15) (by decide)))
  have qb13:¬ op=13:=λe=>aN h42 (by rw [e];rfl);refine .sr<|.yw (.eql Z Z)<|.aq Z<|.cr Z (λh42=>?_) (λh42=>?_)
  ·have qb:op=14:=aQ.1 (by have:=aH h42;show op.toNat=14;omega);exact .sk<|.tN<|.me _ ⟨Z,Jt⟩ ⟨Z,Jt⟩ (λ_ s=>s) (by first | (rw [qb];rfl) | (simp only [qb11,qb12,qb13,qb14,false_or];exact k8 (m:=15) (by decide)))
  have qb14:¬ op=14:=λe=>aN h42 (by rw [e];rfl);exact .rg<|.yw (.eql Z Z)<|.aq Z<|.me _ ⟨Z,Jt⟩ ⟨Z,Jt⟩ (λ_ s=>s) (by first | (rw [qb];rfl) | (simp only [qb11,qb12,qb13,qb14,false_or];exact k8 (m:=15) (by decide)))
 have eqB:=hC;refine .cr Z (λh42=>?_) (λh42=>?_)
 ·have qB:(op=11\/op=12\/op=13\/op=14\/op=15):=by rw [h42] at eqB;exact aH eqB.symm
  obtain ⟨hla,hta⟩:=VM qB (hok.resolve_right (by rintro (h:op=0);rw [h] at qB;revert qB;decide));have h0:0<args.length:=by omega
  have h1:1<args.length:=by omega
  obtain ⟨b0,o0,c0,hp0,r0,l0,m0⟩:=hs.elem (kM h0);cases hp0;obtain ⟨b1,o1,c1,hp1,r1,l1,m1⟩:=hs.elem (kM h1);cases hp1;rw [tmb qB h0 h1] at hl;simp only [aG,aJ,aM] at hl;have pl:=kX (decide (tlv args[0].op<tlv op)) (tmT args[0]);have pl1:=kX (decide (tlv args[1].op<tlv op+1)) (tmT args[1]);have psy:=yA op;have htl:=GF op;have hop:op.toNat<=15:=by rcases qB with rfl | rfl | rfl | rfl | rfl <;> decide
  refine .sr<|.fA Z gO<|.lD Z jR Hm Z<|.yw (.call LI Z (λW s=>YF H op W s.agr))<|.aq Z<|.sq<|.fL 21 [(0,0),(1,0),(2,0),(3,0),(4,0),(5,0),(6,0),(7,0),(8,0),(9,0),(10,0),(11,0),(12,0),(13,0),(14,0),(15,0),(16,0),(17,0),(18,0),(19,0),(20,0)]<|.fA Z eA<|.lD Z dE Hm Z<|.yw (.indexSl dO Z Z (i:=0) Z (by omega) (q:=o0+0 * 4) Z)<|.yw (.loadMW Z dP m0 l0)<|.mv Z<|.yw (.call DV Z (λW s=>uP H _ (tlv op) (ih _ (bT h0)) _ W r0 (.inl (hta _ (bT h0))) (by omega) s.agr))<|.yw (.app Z Z (by (try simp only [aG,aJ,aM]);omega))<|.fA Z gO<|.lD Z jR Hm Z<|.yw (.indexArr HN Z Z Z (by omega) (q:=op.toNat) (by omega))<|.yw (.loadM (k:=op.toNat) (v:=cH (wZ op)) Z cZ G.syms (by omega) (by show _=some (cH (lR.getD op.toNat []));exact BQ (by show op.toNat<22;omega) []))<|.yw (.app Z Z (by (try simp only [aG,aJ,aM]);omega))<|.yw (.app Z Z (by (try simp only [aG,aJ,aM]);omega))<|.fA Z eA<|.lD Z dE Hm Z<|.yw (.indexSl dO Z Z (i:=1) Z (by omega) (q:=o0+1 * 4) Z)<|.yw (.loadMW Z dP m1 l1)<|.mv Z<|.yw (.add Z Z w7)<|.yw (.call DV Z (λW s=>uP H _ (tlv op+1) (ih _ (bT h1)) _ W r1 (.inl (hta _ (bT h1))) (by omega) s.agr))<|.yw (.app Z Z (by (try simp only [aG,aJ,aM]);omega))<|.fn (tl:=[_]) Z<|.az Z<|.bR<|.tR<|?_
  refine y9 Z Z λW s=>⟨?_,s.ext⟩
  first
   | (rw [tm1 q1])
   | (rw [tm4 q4];rfl)
   | (rw [tm5 q5])
   | (rw [tm6 q6 h0];rfl)
   | (rw [tm8 q8];rfl)
   | (rw [tm9 q9 h0];rfl)
   | (rw [tmb qB h0 h1];rfl)
   | (rw [tmn q1 q4 q5 q6 q8 q9 qB];rfl)
 have qB:¬ (op=11\/op=12\/op=13\/op=14\/op=15):=by rw [h42] at eqB;exact aN eqB.symm
 refine .sk<|.bN<|.tN<|.sr<|.az Z<|?_
 refine y9 Z Z λW s=>⟨?_,s.ext⟩
 first
  | (rw [tm1 q1])
  | (rw [tm4 q4];rfl)
  | (rw [tm5 q5])
  | (rw [tm6 q6 h0];rfl)
  | (rw [tm8 q8];rfl)
  | (rw [tm9 q9 h0];rfl)
  | (rw [tmb qB h0 h1];rfl)
  | (rw [tmn q1 q4 q5 q6 q8 q9 qB];rfl)
theorem KN (sep:Str):∀ l:List Str,Lib.join l sep=wK sep l
 | []=>rfl
 | [x]=>Lib.join_one x sep
 | x::y::r=>by
  show _=x++sep++wK sep (y::r);rw [<-KN sep (y::r),Lib.join_cons,Lib.join_cons];simp [Lib.joinTail,bD]
theorem QI (sep:Str):∀ l:List Str,(wK sep l).length<=(l.map List.length).sum+l.length * sep.length
 | []=>aO _
 | [x]=>by show x.length<=x.length+0+1 * sep.length;omega
 | x::y::r=>by
  have h:=QI sep (y::r);show (x++sep++wK sep (y::r)).length<=_;rw [aG,aG,dG,List.sum_cons,aJ (a:=x),tF];omega
theorem aS0 (sep:Str):∀ (l:List Str),∀ x∈l,x.length<=(wK sep l).length
 | [y],x,h=>by rw [bV.1 h];exact aY _
 | y::z::r,x,h=>by
  show _<=(y++sep++wK sep (z::r)).length;rw [aG,aG];rcases bQ.1 h with rfl | h
  ·omega
  ·have:=aS0 sep (z::r) x h;omega
section
variable {op:UInt8} {nm fd:Str} {a b:Int64} {ex:List Ex} {args:List Fm} {e0:Ex}
theorem yI (h:Fm.all kY (.mk op nm fd a b ex args)=true):kY (.mk op nm fd a b ex args)=true/\∀ g∈args,Fm.all kY g=true:=by
 rw [rT,aE,aW] at h;exact h
theorem kA (h:kY (.mk op nm fd a b ex args)=true):¬ (cK op).lv=0/\args.length=(cK op).ar/\CI (.mk op nm fd a b ex args)=true/\FN (.mk op nm fd a b ex args)=true:=by
 unfold kY at h;rw [aE,aE,aE,aE,aE,aD,aD] at h;exact ⟨h.1.1.1.1.1,h.1.1.2,h.2,h.1.2⟩
theorem ZI (h:kY (.mk op nm fd a b ex args)=true):op.toNat<=18:=by
 have h1:=(kA h).1;exact Classical.byContradiction λe=>h1 (by unfold cK;rw [List.getD_eq_getElem?_getD,List.getElem?_eq_none (by show 19<=op.toNat;omega)];rfl)
theorem aT1 (h:kY (.mk op nm fd a b ex args)=true) (q:op=7):ex.length<=4/\∀ e∈ex,eL e=true\/e.op=0:=by
 have h1:=(kA h).2.2.1;subst q;unfold CI at h1;rw [aL (show (Fm.mk 7 nm fd a b ex args).op=7 from rfl),aE,aD,aW] at h1;refine ⟨h1.1,λe he=>?_⟩;have h2:=h1.2 e he;rw [bC] at h2;rcases h2 with h2 | h2
 ·obtain ⟨o,n,m,al⟩:=e;unfold HJ at h2;simp only [aE,aD] at h2;exact .inr h2.1.1.1
 ·exact .inl h2
theorem TZ (h:kY (.mk op nm fd a b ex args)=true) (q:¬ op=7):ex.length=(cK op).ex/\(if op=3 then IL (ex.headD (.mk 0 [] 0 [])) else if op=5 then eL (ex.headD (.mk 0 [] 0 [])) else if op=18 then decide ((ex.headD (.mk 0 [] 0 [])).op=1) && eL (ex.headD (.mk 0 [] 0 [])) && decide ((ex.headD (.mk 0 [] 0 [])).n.toInt<=32) else true)=true:=by
 have h1:=(kA h).2.2.1;unfold CI at h1;rw [aF (show ¬ (Fm.mk op nm fd a b ex args).op=7 from q),aE,aD] at h1;exact h1
theorem UA (h:kY (.mk op nm fd a b ex args)=true) (q:op=5\/op=18):∃ e0,ex=[e0]/\eL e0=true:=by
 have h1:=TZ h (by rcases q with rfl | rfl <;> decide);have hl:ex.length=1:=h1.1.trans (by rcases q with rfl | rfl <;> rfl);obtain ⟨e0,rfl⟩:=List.length_eq_one_iff.1 hl;refine ⟨e0,Z,?_⟩;have h2:=h1.2;rcases q with rfl | rfl
 ·exact h2
 ·rw [aF (by decide),aF (by decide),aL rfl,aE,aE] at h2;exact h2.1.2
theorem aT2 (h:kY (.mk op nm fd a b ex args)=true) (q:op=3):∃ op0 nm0 m0 args0,ex=[.mk op0 nm0 m0 args0]/\(16<=op0.toNat/\op0.toNat<=21)/\args0.length=2/\∀ a∈args0,eL a=true:=by
 have h1:=TZ h (by subst q;decide);have hl:ex.length=1:=h1.1.trans (by subst q;rfl);obtain ⟨⟨op0,nm0,m0,args0⟩,rfl⟩:=List.length_eq_one_iff.1 hl;refine ⟨op0,nm0,m0,args0,Z,?_⟩;have h2:=h1.2;rw [aL q] at h2;change IL (.mk op0 nm0 m0 args0)=true at h2;unfold IL at h2;simp only [aE,aD] at h2;rw [rV,aW] at h2;exact ⟨⟨h2.1.1.1.1,h2.1.1.1.2⟩,h2.2.2,h2.2.1⟩
theorem fx3 {op0:UInt8} {nm0:Str} {m0:Int64} {args0:List Ex} (h:op=3) (he:ex=[.mk op0 nm0 m0 args0]) (h0:0<args0.length) (h1:1<args0.length):fmT (.mk op nm fd a b ex args)=(tmT args0[0]++([32]:Str)++wZ op0++([32]:Str)++tmT args0[1]:Str):=by
 match args0,h1 with
 | x::y::r,_=>rw [AF];subst h he;rfl
theorem fx4 (h:op=4):fmT (.mk op nm fd a b ex args)=(nm++([46]:Str)++fd:Str):=by rw [AF];subst h;rfl
theorem fx5 (h:op=5) (he:ex=[e0]):fmT (.mk op nm fd a b ex args)=(iB op++([32]:Str)++nm++([46]:Str)++fd++([91]:Str)++tmT e0++([93]:Str):Str):=by rw [AF];subst h he;rfl
theorem fx6 (h:op=6):fmT (.mk op nm fd a b ex args)=(iB op++([32]:Str)++nm:Str):=by rw [AF];subst h;rfl
theorem fx7 (h:op=7):fmT (.mk op nm fd a b ex args)=(iB op++([32]:Str)++nm++([46]:Str)++fd++([40]:Str)++wK ([44,32]:Str) (ex.map tmT)++([41]:Str):Str):=by rw [AF];subst h;rfl
def pfW (k:Nat) (f:Fm):Str:=yG (decide ((cK f.op).lv<k)) (fmT f)
theorem fxu (h:op=8\/op=12\/op=13\/op=14) (h0:0<args.length):fmT (.mk op nm fd a b ex args)=(iB op++vJ (.mk op nm fd a b ex args)++([32]:Str)++pfW 5 args[0]:Str):=by
 rw [AF];unfold KV pfW;rw [hd0 h0];rcases h with rfl | rfl | rfl | rfl <;> rfl
theorem fxq (h:op=16\/op=17) (h0:0<args.length):fmT (.mk op nm fd a b ex args)=(iB op++FP (.mk op nm fd a b ex args)++([32]:Str)++pfW 5 args[0]:Str):=by
 rw [AF];unfold KV pfW;rw [hd0 h0];rcases h with rfl | rfl <;> rfl
theorem IJ (h:op=18) (he:ex=[e0]) (h0:0<args.length):fmT (.mk op nm fd a b ex args)=(iB op++FP (.mk op nm fd a b ex args)++([32,40]:Str)++fmT args[0]++([41,32,62,61,32]:Str)++tmT e0:Str):=by
 rw [AF];unfold KV;rw [hd0 h0];subst h he;rfl
theorem fxb (h:op=15\/op=9\/op=10\/op=11) (h0:0<args.length) (h1:1<args.length):fmT (.mk op nm fd a b ex args)=(pfW (cK op).lv args[0]++([32]:Str)++iB op++vJ (.mk op nm fd a b ex args)++([32]:Str)++pfW ((cK op).lv+1) args[1]:Str):=by
 rw [AF];unfold KV pfW;rw [hd0 h0,hd1 h1];rcases h with rfl | rfl | rfl | rfl <;> rfl
theorem fxn (h3:¬ op=3) (h4:¬ op=4) (h5:¬ op=5) (h6:¬ op=6) (h7:¬ op=7) (hu:¬ (op=8\/op=12\/op=13\/op=14)) (hq:¬ (op=16\/op=17)) (h18:¬ op=18) (hb:¬ (op=15\/op=9\/op=10\/op=11)):fmT (.mk op nm fd a b ex args)=iB op:=by
 rw [AF];unfold KV;rw [aF (show ¬ (Fm.mk op nm fd a b ex args).op=3 from h3),aF (show ¬ (Fm.mk op nm fd a b ex args).op=4 from h4),aF (show ¬ (Fm.mk op nm fd a b ex args).op=5 from h5),aF (show ¬ (Fm.mk op nm fd a b ex args).op=6 from h6),aF (show ¬ (Fm.mk op nm fd a b ex args).op=7 from h7),aF (show ¬ ((Fm.mk op nm fd a b ex args).op=8\/(Fm.mk op nm fd a b ex args).op=12\/(Fm.mk op nm fd a b ex args).op=13\/(Fm.mk op nm fd a b ex args).op=14) from hu),aF (show ¬ ((Fm.mk op nm fd a b ex args).op=16\/(Fm.mk op nm fd a b ex args).op=17) from hq),aF (show ¬ (Fm.mk op nm fd a b ex args).op=18 from h18),aF (show ¬ ((Fm.mk op nm fd a b ex args).op=15\/(Fm.mk op nm fd a b ex args).op=9\/(Fm.mk op nm fd a b ex args).op=10\/(Fm.mk op nm fd a b ex args).op=11) from hb)]
 rfl
theorem ar1 (h:op=8\/op=12\/op=13\/op=14\/op=16\/op=17\/op=18):(cK op).ar=1:=by rcases h with rfl | rfl | rfl | rfl | rfl | rfl | rfl <;> rfl
theorem ar2 (h:op=15\/op=9\/op=10\/op=11):(cK op).ar=2:=by rcases h with rfl | rfl | rfl | rfl <;> rfl
theorem OI:(vJ (.mk op nm fd a b ex args)).length<=46:=by
 unfold vJ
 split
 ·exact aO _
 ·have h1:=rL (Fm.mk op nm fd a b ex args).a;have h2:=rL (Fm.mk op nm fd a b ex args).b;simp only [aG,aJ,aM];omega
theorem RA:(FP (.mk op nm fd a b ex args)).length<=nm.length+49:=by
 have h1:=rL (Fm.mk op nm fd a b ex args).a;have h2:=rL (Fm.mk op nm fd a b ex args).b;show (([32]:Str)++nm++_++_++_++_).length<=_;simp only [aG,aJ,aM];omega
theorem IY (k:Nat) (f:Fm):(fmT f).length<=(pfW k f).length/\(pfW k f).length<=(fmT f).length+2:=kX _ _
end
def nlF (f:Fm):Bool:=Fm.all (λf=>decide (f.nm.length<=1000000) && decide (f.fd.length<=1000000) && f.ex.all nlE) f
theorem RW:∀ l:List Ex,(∀ e∈l,nlE e=true)->((l.map tmT).map List.length).sum<=1000100 * Ex.counts l
 | [],_=>aO _
 | e::r,h=>by
  rw [dG,dG,List.sum_cons,Ex.counts];have h1:=ED e (h e (aX ..));have h2:=RW r λx hx=>h x (bS _ hx);omega
theorem aL5 (e:Ex) (h:nlE e=true):(tmT (ex0 e)).length+(tmT (ex1 e)).length<=1000100 * e.count:=by
 obtain ⟨op,nm,n,args⟩:=e;unfold nlE at h;rw [nR,mL,aE,aW] at h;rw [lS];have hz:tmT zE=[95]:=vX
 match args,h.2 with
 | [],_=>show (tmT zE).length+(tmT zE).length<=_;rw [hz,Ex.counts];decide
 | [x],h =>
  have:=ED x (h x (aX ..));show (tmT x).length+(tmT zE).length<=_;rw [hz,Ex.counts,Ex.counts];show _+1<=_;omega
 | x::y::r,h =>
  have h1:=ED x (h x (aX ..));have h2:=ED y (h y (bS _ (aX ..)));show (tmT x).length+(tmT y).length<=_;rw [Ex.counts,Ex.counts];omega
theorem aT7 (F:Fm) (l:List (UInt8 × Str)) (C D:Nat) (h1:F.nm.length<=1000000) (h2:F.fd.length<=1000000) (he:(tmT (exH F)).length+(tmT (ex0 (exH F))).length+(tmT (ex1 (exH F))).length<=2000200 * D+3)
 (hj:(wK ([44,32]:Str) (F.ex.map tmT)).length<=1000102 * D) (hx:(l.headD (0,[])).2.length+((l.drop 1).headD (0,[])).2.length<=3000200 * C) (w1:(vJ F).length<=46) (w2:(FP F).length<=F.nm.length+49):(KV F l).length<=3000200 * (D+C+1):=by
 have w3:=GB F.op;have w4:=yA (exH F).op;have p1:=(kX (decide ((cK (l.headD (0,[])).1).lv<5)) (l.headD (0,[])).2).2;have p2:=(kX (decide ((cK (l.headD (0,[])).1).lv<(cK F.op).lv)) (l.headD (0,[])).2).2;have p3:=(kX (decide ((cK ((l.drop 1).headD (0,[])).1).lv<(cK F.op).lv+1)) ((l.drop 1).headD (0,[])).2).2;unfold KV
 repeat' split
 all_goals (try simp only [aG,aJ,aM]);omega
theorem bF4 (f:Fm) (hn:nlF f=true):(fmT f).length<=3000200 * f.count:=by
 induction f using Fm.ind with | _ op nm fd a b ex args ih
 unfold nlF at hn;rw [rT,aE,aE,aE,aD,aD,aW,aW] at hn;obtain ⟨⟨⟨hn,hf⟩,he⟩,ha⟩:=hn;have hn':nm.length<=1000000:=hn;have hf':fd.length<=1000000:=hf;have he':∀ e∈ex,nlE e=true:=he
 have hx:∀ (l:List (UInt8 × Str)),l=args.map (λf=>(f.op,fmT f))->(l.headD (0,[])).2.length+((l.drop 1).headD (0,[])).2.length<=3000200 * Fm.counts args:=by
  rintro l rfl
  match args,ih,ha with
  | [],_,_=>exact aO _
  | [a],ih,ha =>
   have:=ih a (aX ..) (ha a (aX ..));rw [Fm.counts,Fm.counts];show (fmT a).length+0<=_;omega
  | a::b::r,ih,ha =>
   have h1:=ih a (aX ..) (ha a (aX ..));have h2:=ih b (bS _ (aX ..)) (ha b (bS _ (aX ..)));rw [Fm.counts,Fm.counts];show (fmT a).length+(fmT b).length<=_;omega
 have hx:=hx _ rfl
 have he0:(tmT (exH (.mk op nm fd a b ex args))).length+(tmT (ex0 (exH (.mk op nm fd a b ex args)))).length+(tmT (ex1 (exH (.mk op nm fd a b ex args)))).length<=2000200 * Ex.counts ex+3:=by
  have hz:tmT zE=[95]:=vX
  match ex,he' with
  | [],_ =>
   show (tmT zE).length+(tmT zE).length+(tmT zE).length<=_;rw [hz];show 3<=_;omega
  | e::r,h =>
   have h1:=ED e (h e (aX ..));have h2:=aL5 e (h e (aX ..));show (tmT e).length+(tmT (ex0 e)).length+(tmT (ex1 e)).length<=_;rw [Ex.counts];omega
 have hj:=QI ([44,32]:Str) (ex.map tmT);have hs:=RW ex he';have hl2:=XB ex;rw [bJ] at hj;rw [oQ,AF];have e2:([44,32]:Str).length=2:=rfl;rw [e2] at hj;exact aT7 _ _ _ _ hn' hf' he0 (aZ hj (by omega)) hx OI RA
theorem aT8 (s:Fs):∀ W,(Instr.field 157 (.agg (fsC s).toArray) 0).run prg W=.ok (.int .u8 (s.lv:Nat)) W:=λ_=>by kernel_rfl
theorem bO8 (s:Fs):∀ W,(Instr.field 157 (.agg (fsC s).toArray) 3).run prg W=.ok (.bool s.wn) W:=λ_=>by kernel_rfl
section
variable {op:UInt8} {nm fd:Str} {a b:Int64} {ex:List Ex} {args:List Fm}
theorem aK6 (h:(!(cK op).wn)=true):vJ (.mk op nm fd a b ex args)=[]:=by
 unfold vJ;exact aL (show (!(cK op).wn || decide (b.toInt<0))=true by rw [h];rfl)
theorem aK5 (h:(!(cK op).wn)=false) (h2:decide (b.toInt<0)=true):vJ (.mk op nm fd a b ex args)=[]:=by
 unfold vJ;exact aL (show (!(cK op).wn || decide (b.toInt<0))=true by rw [h,h2];rfl)
theorem aK4 (h:(!(cK op).wn)=false) (h2:decide (b.toInt<0)=false):vJ (.mk op nm fd a b ex args)=([91]:Str)++Lib.itoa a.toInt++([44,32]:Str)++Lib.itoa b.toInt++([93]:Str):=by
 unfold vJ;exact aF (show ¬ (!(cK op).wn || decide (b.toInt<0))=true by rw [h,h2];decide)
end
theorem JJ (H:Hp) (G:Gf H) (gq:Gq H) (f:Fm) (cs:List Value) (w:World) (h:Rep H (dFm .u8 f) cs) (hA:Agr H w):Calls prg 91 #[.agg cs.toArray] w λr w'=>r=.returned (cH (vJ f))/\Ext w w':=by
 obtain ⟨op,nm,fd,a,b,ex,args⟩:=f;obtain ⟨p1,c1,p2,c2,rfl,hs1,hs2,hnm,hfd⟩:=iX h;have hi1:=rL a;have hi2:=rL b;refine Sx.enter (H:=H) func91 rfl ntmps91 rfl hA ?_;refine .sr<|.bx Z Z Z λb1=>.aq Z<|.sq<|.sr<|.fA Z eF<|.lD Z hZ Hm Z<|.yw (.call (v:=.agg (fsC (cK op)).toArray) qP Z (λW s=>oK H G op W s.agr))<|.yw (.fld Z (bO8 _))<|.yw (.not Z)<|.mv Z<|.b2 (λh8=>?_) (λh8=>?_)
 ·try simp only [dt] at h8
  refine .gG<|.gG<|.gG<|.yw (.pickT Z Z)<|.nt<|.cT Z<|.sr<|.az Z<|.tR<|?_
  refine y9 Z Z λW s=>⟨?_,s.ext⟩
  first
   | (rw [aK5 h8 h12];rfl)
   | (rw [aK4 h8 h12];rfl)
   | (rw [aK6 h8];rfl)
 try simp only [df] at h8
 refine .gy (.fieldAddr Z eQ)<|.gy (.load Z cR Hm Z)<|.gy (.lss Z Z)<|.yw (.pickF Z Z)<|.nt<|.cd Z (λh12=>?_) (λh12=>?_)
 ·refine .sr<|.az Z<|.tR<|?_
  refine y9 Z Z λW s=>⟨?_,s.ext⟩
  first
   | (rw [aK5 h8 h12];rfl)
   | (rw [aK4 h8 h12];rfl)
   | (rw [aK6 h8];rfl)
 refine .sk<|.tN<|.sq<|.fL 10 [(0,0),(1,0),(2,0),(3,0),(4,0),(5,0),(6,0),(7,0),(8,0),(9,0)]<|.fA Z eU<|.lD Z cR Hm Z<|.yw (.call zY Z (λW s=>FA H gq a W s.agr))<|.yw (.app Z Z (by (try simp only [aG,aJ,aM]);omega))<|.yw (.app Z Z (by (try simp only [aG,aJ,aM]);omega))<|.fA Z eQ<|.lD Z cR Hm Z<|.yw (.call zY Z (λW s=>FA H gq b W s.agr))<|.yw (.app Z Z (by (try simp only [aG,aJ,aM]);omega))<|.yw (.app Z Z (by (try simp only [aG,aJ,aM]);omega))<|.fn (tl:=[_]) Z<|.az Z<|?_
 refine y9 Z Z λW s=>⟨?_,s.ext⟩
 first
  | (rw [aK5 h8 h12];rfl)
  | (rw [aK4 h8 h12];rfl)
  | (rw [aK6 h8];rfl)
theorem NQ (H:Hp) (gq:Gq H) (f:Fm) (cs:List Value) (w:World) (h:Rep H (dFm .u8 f) cs) (hA:Agr H w):Calls prg 93 #[.agg cs.toArray] w λr w'=>r=.returned (cH (FP f))/\Ext w w':=by
 obtain ⟨op,nm,fd,a,b,ex,args⟩:=f;obtain ⟨p1,c1,p2,c2,rfl,hs1,hs2,hnm,hfd⟩:=iX h;have hi1:=rL a;have hi2:=rL b;refine Sx.enter (H:=H) func93 rfl ntmps93 rfl hA ?_;refine .sr<|.bx Z Z Z λb1=>.aq Z<|.sq<|.fL 13 [(0,0),(1,0),(2,0),(3,0),(4,0),(5,0),(6,0),(7,0),(8,0),(9,0),(10,0),(11,0),(12,0)]<|.fA Z fV<|.lD Z cZ Hm Z<|.yw (.app Z Z (by (try simp only [aG,aJ,aM]);omega))<|.yw (.app Z Z (by (try simp only [aG,aJ,aM]);omega))<|.fA Z eU<|.lD Z cR Hm Z<|.yw (.call zY Z (λW s=>FA H gq a W s.agr))<|.yw (.app Z Z (by (try simp only [aG,aJ,aM]);omega))<|.yw (.app Z Z (by (try simp only [aG,aJ,aM]);omega))<|.fA Z eQ<|.lD Z cR Hm Z<|.yw (.call zY Z (λW s=>FA H gq b W s.agr))<|.yw (.app Z Z (by (try simp only [aG,aJ,aM]);omega))<|.fn (tl:=[_]) Z<|.az Z<|?_
 refine y9 Z Z λW s=>⟨?_,s.ext⟩
 first
  | (rfl)
theorem vL (H:Hp) (G:Gf H) {op:UInt8} {nm fd:Str} {b:Int64} {ex:List Ex} {args:List Fm} (i k:Nat) (hk:i<args.length) (ht:(∀ (cs:List Value) (W:World),Rep H (dFm .u8 args[i]) cs->Fm.all kY args[i]=true->(fmT args[i]).length<=1000000000->Agr H W->Calls prg 48 #[.agg cs.toArray] W λr W'=>r=.returned (cH (fmT args[i]))/\Ext W W')) (cs:List Value) (w:World) (h:Rep H (dFm .u8 (.mk op nm fd a b ex args)) cs) (hok:Fm.all kY args[i]=true) (hl:(fmT args[i]).length<=1000000000) (hA:Agr H w) :
 Calls prg 92 #[.agg cs.toArray,iN i,.int .u8 (k:Nat)] w λr w'=>r=.returned (cH (pfW k args[i]))/\Ext w w':=by
 obtain ⟨p1,c1,p2,c2,rfl,hs1,hs2,hnm,hfd⟩:=iX h;have hcap:=hs2.cap;obtain ⟨bE,oE,cE,hpE,rE,lE,mE⟩:=hs2.elem (kM (f:=dFm .u8) hk);cases hpE;generalize ef:args[i]=g at rE ht hok hl|-;obtain ⟨op0,nm0,fd0,a0,b0,ex0,args0⟩:=g;obtain ⟨q1,d1,q2,d2,rfl,g1,g2,gn,gf⟩:=iX rE;clear ef;have ef:=@id True trivial;refine Sx.enter (H:=H) func92 rfl ntmps92 rfl hA ?_;refine .sr<|.bx Z Z Z λb3=>.a Z Z<|.ns<|.fA Z dD<|.lD Z fP Hm Z<|.mv Z<|.yw (.indexSl eR Z Z (i:=i) Z hk (q:=oE+i * 7) Z)<|.yw (.loadMW Z cD mE lE)<|.al eG Z λb7=>.sX .head Z Z cV Z<|.nt<|.sq<|.sr<|.fA Z eF<|.lD Z hZ Hm Z<|.yw (.call (v:=.agg (fsC (cK _)).toArray) qP Z (λW s=>oK H G _ W s.agr))<|.yw (.fld Z (aT8 _))<|.mv Z<|.yw (.lss Z Z)<|.nt<|.cd Z (λh18=>?_) (λh18=>?_)
 ·have h18:(cK op0).lv<k:=by have:=aH h18;omega
  refine .sr<|.yw (.loadW Z cD Hm Z)<|.yw (.call CD Z (λW s=>ht _ W rE hok hl s.agr))<|.yw (.app Z Z (by (try simp only [aG,aJ,aM]);omega))<|.yw (.app Z Z (by (try simp only [aG,aJ,aM]);omega))<|.az Z<|.tR<|?_
  refine y9 Z Z λW s=>⟨?_,s.ext⟩
  first
   | (unfold pfW;rw [show decide ((cK (Fm.op (.mk op0 nm0 fd0 a0 b0 ex0 args0))).lv<k)=true from aS h18];rfl)
   | (unfold pfW;rw [show decide ((cK (Fm.op (.mk op0 nm0 fd0 a0 b0 ex0 args0))).lv<k)=false from aP h18];rfl)
 have h18:¬ (cK op0).lv<k:=λe=>aN h18 (by omega);refine .sk<|.tN<|.sr<|.yw (.loadW Z cD Hm Z)<|.yw (.call CD Z (λW s=>ht _ W rE hok hl s.agr))<|.az Z<|?_
 refine y9 Z Z λW s=>⟨?_,s.ext⟩
 first
  | (unfold pfW;rw [show decide ((cK (Fm.op (.mk op0 nm0 fd0 a0 b0 ex0 args0))).lv<k)=true from aS h18];rfl)
  | (unfold pfW;rw [show decide ((cK (Fm.op (.mk op0 nm0 fd0 a0 b0 ex0 args0))).lv<k)=false from aP h18];rfl)
theorem wu8 (h:n<255):IntKind.u8.wrap ((n:Int)+1)=((n+1:Nat):Int):=by
 have key:∀ i∈List.range 256,IntKind.u8.wrap (i:Int)=(i:Int):=by decide +kernel
 exact key (n+1) (bY.2 (by omega))
theorem VP {l:List Ex} (h:k<l.length):l.take (k+1)=l.take k++[l[k]]:=by rw [List.take_succ,List.getElem?_eq_getElem h];rfl
theorem bN1 (W:World) (b o c:Nat) (xs:List Str) (h:∀ (j:Nat) x,xs[j]? = some x->W.cell? ⟨b,o+j,none⟩=some (cH x)) (hb:b<W.heap.size) (hN:xs.length<=140737488355328) (hc:xs.length<=c) (hl:(wK ([44,32]:Str) xs).length<=140737488355328) :
 Calls prg 90 #[.slice (some ⟨b,o,none⟩) xs.length c,cH [44,32]] W λe w'=>e=.returned (cH (wK ([44,32]:Str) xs))/\Ext W w':=by
 have e1:((xs.map λl=>(⟨l.toArray⟩:ByteArray)).map (·.data.toList))=xs:=by simp [Function.comp_def]
 have h2:=Tryz.strings_Join b o c (xs.map λl=>(⟨l.toArray⟩:ByteArray)) ⟨#[44,32]⟩ W (λj x e=>by
  rw [List.getElem?_map] at e;cases e2:xs[j]? with
  | none=>rw [e2] at e;cases e
  | some y=>rw [e2] at e;cases e;exact h j y e2) hb (by simpa using hN) (by simpa using hc) (by rw [e1,KN];exact hl)
 rw [e1,bJ,KN] at h2;exact h2.mono λe w' ⟨a,k⟩=>⟨a,Ext.of_below k⟩
variable {w0 W:World} {bs:List Res} {T:TypeId}
theorem aR8 {r:Value} (xs:List Str) (hn:xs.length=n) (s:St H w0 bs W) (hm:Res.row T 1 r n (xs.map cH)∈bs) (hN:xs.length<=1000) (hl:(wK ([44,32]:Str) xs).length<=140737488355328) :
 Calls prg 90 #[r,cH [44,32]] W λe w'=>e=.returned (cH (wK ([44,32]:Str) xs))/\Ext W w':=by
 have ho:W.ownsRow w0.heap.size T 1 r n (xs.map cH):=(s.own _ hm).1;subst hn;rcases ho.2 with ⟨hr,h0⟩ | ⟨g,cap,cur,hr,_,hg,hc,_⟩
 ·obtain rfl:=bI h0;subst hr;exact (Tryz.strings_Join_none none 0 ⟨#[44,32]⟩ W).mono λe w' ⟨h1,h2⟩=>⟨h1,h2 ▸ Ext.refl W⟩
 ·subst hr;refine bN1 W g 0 cap xs (λj x e=>?_) ?_ (by omega) hc hl
  ·have:=World.ownsRow.cells ho (g:=g) rfl j (cH x) (by rw [List.getElem?_map,e];rfl);rw [Addr.add_lit,dL] at this;rw [dL];exact this
  ·exact (Array.getElem?_eq_some_iff.1 hg).1
set_option maxHeartbeats 4000000 in
theorem aE4 (H:Hp) (G:Gf H) (gq:Gq H) (f:Fm):(∀ (cs:List Value) (W:World),Rep H (dFm .u8 f) cs->Fm.all kY f=true->(fmT f).length<=1000000000->Agr H W->Calls prg 48 #[.agg cs.toArray] W λr W'=>r=.returned (cH (fmT f))/\Ext W W'):=by
 induction f using Fm.ind with | _ op nm fd a b ex args ih
 intro cs w h hok hl hA;obtain ⟨p1,c1,p2,c2,rfl,hs1,hs2,hnm,hfd⟩:=iX h;have hcap1:=hs1.cap;have hcap2:=hs2.cap;obtain ⟨hF,hG⟩:=yI hok;have hop:=ZI hF;have hwl:=GB op;have hwn:=OI (op:=op) (nm:=nm) (fd:=fd) (a:=a) (b:=b) (ex:=ex) (args:=args);have ham:=RA (op:=op) (nm:=nm) (fd:=fd) (a:=a) (b:=b) (ex:=ex) (args:=args);refine Sx.enter (H:=H) func48 rfl ntmps48 rfl hA ?_;refine .sr<|.bx Z Z Z λb1=>.a Z Z<|.ns<|.fA Z eF<|.lD Z hZ Hm Z<|.yw (.indexArr aJ5 Z Z Z (by omega) (q:=op.toNat) (by omega))<|.yw (.loadM (k:=op.toNat) (v:=cH (iB op)) Z cZ G.words (by omega) (by show _=some (cH (QN.getD op.toNat []));exact BQ (by show op.toNat<19;omega) []))<|.aq Z<|.sq<|.sr<|.fA Z eF<|.lD Z hZ Hm Z<|.nt<|.bk<|.sr<|.yw (.eql Z Z)<|.aq Z<|.cd Z (λh15=>?_) (λh15=>?_)
 ·have q3:op=3:=aQ.1 (by have:=aH h15;show op.toNat=3;omega);obtain ⟨op0,nm0,m0,args0,he,ho0,hla,hta⟩:=aT2 hF q3;have h0:0<args0.length:=by omega
  have h1:1<args0.length:=by omega
  rw [fx3 q3 he h0 h1] at hl;simp only [aG,aJ,aM] at hl;subst he;obtain ⟨bX,oX,cX,hpX,rX,lX,mX⟩:=hs1.elem (i:=0) (d:=dEx .u8 (.mk op0 nm0 m0 args0)) rfl;cases hpX;obtain ⟨p0,c0,rfl,hs0,hn0⟩:=iK rX;have hcap0:=hs0.cap;obtain ⟨bA,oA,cA,hpA,rA,lA,mA⟩:=hs0.elem (kM (f:=dEx .u8) h0);cases hpA;obtain ⟨bB,oB,cB,hpB,rB,lB,mB⟩:=hs0.elem (kM (f:=dEx .u8) h1);cases hpB;have psy:=yA op0;refine .sr<|.fA Z cJ<|.lD Z dE Hm Z<|.yw (.indexSl dO Z Z (i:=0) Z (by first | omega | exact Nat.succ_pos _) (q:=oX+0 * 4) Z)<|.yw (.loadMW Z dP mX Z)<|.al jT Z λb4=>.sX .head Z Z fY Z<|.nt<|.sq<|.fL 18 [(0,0),(1,0),(2,0),(3,0),(4,0),(5,0),(6,0),(7,0),(8,0),(9,0),(10,0),(11,0),(12,0),(13,0),(14,0),(15,0),(16,0),(17,0)]<|.fA Z eA<|.lD Z dE Hm Z<|.yw (.indexSl dO Z Z (i:=0) Z (by first | omega | exact Nat.succ_pos _) (q:=oA+0 * 4) Z)<|.yw (.loadMW Z dP mA lA)<|.yw (.call sK Z (λW s=>sP H G gq _ _ W rA (.inl (hta _ (bT h0))) (by omega) s.agr))<|.yw (.app Z Z (by (try simp only [aG,aJ,aM]);omega))<|.fA Z gO<|.lD Z jR Hm Z<|.yw (.indexArr HN Z Z Z (by omega) (q:=op0.toNat) (by omega))<|.yw (.loadM (k:=op0.toNat) (v:=cH (wZ op0)) Z cZ G.syms (by omega) (by show _=some (cH (lR.getD op0.toNat []));exact BQ (by show op0.toNat<22;omega) []))<|.yw (.app Z Z (by (try simp only [aG,aJ,aM]);omega))<|.yw (.app Z Z (by (try simp only [aG,aJ,aM]);omega))<|.fA Z eA<|.lD Z dE Hm Z<|.yw (.indexSl dO Z Z (i:=1) Z (by first | omega | exact Nat.succ_pos _) (q:=oA+1 * 4) Z)<|.yw (.loadMW Z dP mB lB)<|.yw (.call sK Z (λW s=>sP H G gq _ _ W rB (.inl (hta _ (bT h1))) (by omega) s.agr))<|.yw (.app Z Z (by (try simp only [aG,aJ,aM]);omega))<|.fn (tl:=[_]) Z<|.az Z<|.bR<|.tR<|?_
  refine y9 Z Z λW s=>⟨?_,s.ext⟩
  first
   | (rw [fx3 q3 rfl h0 h1];rfl)
   | (rw [fx4 q4];rfl)
   | (rw [fx5 q5 rfl];rfl)
   | (rw [fx6 q6];rfl)
   | (rw [fx7 q7];rfl)
   | (rw [fxu qU h0];rfl)
   | (rw [fxq qQ h0];rfl)
   | (rw [IJ q18 rfl h0];rfl)
   | (rw [fxb qB h0 h1];rfl)
   | (rw [fxn q3 q4 q5 q6 q7 qU qQ q18 qB])
 have q3:¬ op=3:=λe=>aN h15 (by rw [e];rfl);refine .sr<|.yw (.eql Z Z)<|.aq Z<|.cd Z (λh39=>?_) (λh39=>?_)
 ·have q4:op=4:=aQ.1 (by have:=aH h39;show op.toNat=4;omega);refine .sr<|.fA Z fV<|.lD Z cZ Hm Z<|.yw (.app Z Z (by (try simp only [aG,aJ,aM]);omega))<|.fA Z fU<|.lD Z cZ Hm Z<|.yw (.app Z Z (by (try simp only [aG,aJ,aM]);omega))<|.az Z<|.bR<|.tR<|?_
  refine y9 Z Z λW s=>⟨?_,s.ext⟩
  first
   | (rw [fx3 q3 rfl h0 h1];rfl)
   | (rw [fx4 q4];rfl)
   | (rw [fx5 q5 rfl];rfl)
   | (rw [fx6 q6];rfl)
   | (rw [fx7 q7];rfl)
   | (rw [fxu qU h0];rfl)
   | (rw [fxq qQ h0];rfl)
   | (rw [IJ q18 rfl h0];rfl)
   | (rw [fxb qB h0 h1];rfl)
   | (rw [fxn q3 q4 q5 q6 q7 qU qQ q18 qB])
 have q4:¬ op=4:=λe=>aN h39 (by rw [e];rfl);refine .sr<|.yw (.eql Z Z)<|.aq Z<|.cd Z (λh47=>?_) (λh47=>?_)
 ·have q5:op=5:=aQ.1 (by have:=aH h47;show op.toNat=5;omega);obtain ⟨e0,he,hte⟩:=UA hF (.inl q5);rw [fx5 q5 he] at hl;simp only [aG,aJ,aM] at hl;subst he;obtain ⟨bX,oX,cX,hpX,rX,lX,mX⟩:=hs1.elem (i:=0) (d:=dEx .u8 e0) rfl;cases hpX

  refine .sq<|.fL 17 [(0,0),(1,0),(2,0),(3,0),(4,0),(5,0),(6,0),(7,0),(8,0),(9,0),(10,0),(11,0),(12,0),(13,0),(14,0),(15,0),(16,0)]<|.mv Z<|.yw (.app Z Z (by (try simp only [aG,aJ,aM]);omega))<|.fA Z fV<|.lD Z cZ Hm Z<|.yw (.app Z Z (by (try simp only [aG,aJ,aM]);omega))<|.yw (.app Z Z (by (try simp only [aG,aJ,aM]);omega))<|.fA Z fU<|.lD Z cZ Hm Z<|.yw (.app Z Z (by (try simp only [aG,aJ,aM]);omega))<|.yw (.app Z Z (by (try simp only [aG,aJ,aM]);omega))<|.fA Z cJ<|.lD Z dE Hm Z<|.yw (.indexSl dO Z Z (i:=0) Z (by first | omega | exact Nat.succ_pos _) (q:=oX+0 * 4) Z)<|.yw (.loadMW Z dP mX lX)<|.yw (.call sK Z (λW s=>sP H G gq _ _ W rX (.inl hte) (by omega) s.agr))<|.yw (.app Z Z (by (try simp only [aG,aJ,aM]);omega))<|.yw (.app Z Z (by (try simp only [aG,aJ,aM]);omega))<|.fn (tl:=[_]) Z<|.az Z<|.bR<|.tR<|?_
  refine y9 Z Z λW s=>⟨?_,s.ext⟩
  first
   | (rw [fx3 q3 rfl h0 h1];rfl)
   | (rw [fx4 q4];rfl)
   | (rw [fx5 q5 rfl];rfl)
   | (rw [fx6 q6];rfl)
   | (rw [fx7 q7];rfl)
   | (rw [fxu qU h0];rfl)
   | (rw [fxq qQ h0];rfl)
   | (rw [IJ q18 rfl h0];rfl)
   | (rw [fxb qB h0 h1];rfl)
   | (rw [fxn q3 q4 q5 q6 q7 qU qQ q18 qB])
 have q5:¬ op=5:=λe=>aN h47 (by rw [e];rfl);refine .sr<|.yw (.eql Z Z)<|.aq Z<|.cd Z (λh66=>?_) (λh66=>?_)
 ·have q6:op=6:=aQ.1 (by have:=aH h66;show op.toNat=6;omega);refine .sm Z<|.yw (.app Z Z (by (try simp only [aG,aJ,aM]);omega))<|.fA Z fV<|.lD Z cZ Hm Z<|.yw (.app Z Z (by (try simp only [aG,aJ,aM]);omega))<|.az Z<|.bR<|.tR<|?_
  refine y9 Z Z λW s=>⟨?_,s.ext⟩
  first
   | (rw [fx3 q3 rfl h0 h1];rfl)
   | (rw [fx4 q4];rfl)
   | (rw [fx5 q5 rfl];rfl)
   | (rw [fx6 q6];rfl)
   | (rw [fx7 q7];rfl)
   | (rw [fxu qU h0];rfl)
   | (rw [fxq qQ h0];rfl)
   | (rw [IJ q18 rfl h0];rfl)
   | (rw [fxb qB h0 h1];rfl)
   | (rw [fxn q3 q4 q5 q6 q7 qU qQ q18 qB])
 have q6:¬ op=6:=λe=>aN h66 (by rw [e];rfl);refine .sr<|.yw (.eql Z Z)<|.aq Z<|.cd Z (λh73=>?_) (λh73=>?_)
 ·have q7:op=7:=aQ.1 (by have:=aH h73;show op.toNat=7;omega);obtain ⟨hle,hte⟩:=aT1 hF q7;rw [fx7 q7] at hl;simp only [aG,aJ,aM] at hl

  refine .sq<|?_
  refine Sx.row0 9 1 ?_;refine .rg<|.aq Z<|.sq<|.sr<|.fA Z cJ<|.lD Z dE cO Z<|.yw (.lenSl dO Z)<|.mv Z<|.nt<|.bk<|.lp (X:=Nat × Value × List Value) [(1,_),(3,_),(76,_),(77,_)] ⟨Z,Z,Z,Z,Jt⟩ [_] (λz=>[(5,z.2.1),(78,iN z.1)]) (λz=>H) (λz=>[.row 9 1 z.2.1 z.1 z.2.2]) (λz=>z.1<=ex.length/\z.2.2=((ex.take z.1).map tmT).map cH) (λz=>ex.length - z.1) (0,.slice none 0 0,[]) (λ_ s=>s) ⟨Z,Z,Jt⟩ ⟨aO _,Z⟩ λz hC=>?_
  obtain ⟨k,rv,xs⟩:=z;obtain ⟨hk0,hxs⟩:=hC;dsimp only at hk0 hxs|-;subst hxs;refine .sr<|.yw (.lss Z Z)<|.nt<|.sq<|.ce Z (λh79=>?_) (λh79=>?_)
  ·have hk:k<ex.length:=by omega
   obtain ⟨bX,oX,cX,hpX,rX,lX,mX⟩:=hs1.elem (kM (f:=dEx .u8) hk);cases hpX;have hj:=aS0 ([44,32]:Str) (ex.map tmT) (tmT ex[k]) (kV.2 ⟨_,bT hk,Z⟩);exact .sk<|.tN<|.sq<|.bk<|.sr<|.yw (.indexSl dO Z Z (i:=k) Z hk (q:=oX+k * 4) Z)<|.yw (.loadMW Z dP mX lX)<|.al jT Z λb7=>.sV .head Z Z fY lX rX.one Z<|.nt<|.rg<|.mv Z<|.yw (.loadW Z dP Hm lX)<|.yw (.call sK Z (λW s=>sP H G gq _ _ W rX (hte _ (bT hk)) (by omega) s.agr))<|.bl Z (XX _) Z λb85=>.ap (news:=[cH (tmT ex[k])]) aY7 Z (λ_=>lZ) Z (.box Hm z0) Z (by simp [Value.oneCell',cH]) (by simp [maxLen];omega) (by omega) Z λr86 _=>.a Z Z<|.nl<|.bN<|.tN<|.rg<|.yw (.add Z Z w7)<|.mv Z<|.nt<|.ag (x:=(k,rv,((ex.take k).map tmT).map cH)) (k+1,r86,(((ex.take k).map tmT).map cH)++[cH (tmT ex[k])]) ⟨Z,Z,Jt⟩ ⟨Z,Z,Z,Z,Jt⟩ (λ_ s=>s.pick [2,3] [_,_] Z Z) ⟨hk,by rw [VP hk,bU,bU];rfl⟩ (by omega)
  obtain rfl:k=ex.length:=by omega
  rw [dC];refine .ex<|.eb<|.sq<|.fL 14 [(0,0),(1,0),(2,0),(3,0),(4,0),(5,0),(6,0),(7,0),(8,0),(9,0),(10,0),(11,0),(12,0),(13,0)]<|.mv Z<|.yw (.app Z Z (by (try simp only [aG,aJ,aM]);omega))<|.fA Z fV<|.lD Z cZ cO Z<|.yw (.app Z Z (by (try simp only [aG,aJ,aM]);omega))<|.yw (.app Z Z (by (try simp only [aG,aJ,aM]);omega))<|.fA Z fU<|.lD Z cZ cO Z<|.yw (.app Z Z (by (try simp only [aG,aJ,aM]);omega))<|.yw (.app Z Z (by (try simp only [aG,aJ,aM]);omega))<|.mv Z<|.yw (.call aH3 Z (λW s=>aR8 (ex.map tmT) (bJ ..) s Hm (by rw [bJ];omega) (by omega)))<|.yw (.app Z Z (by (try simp only [aG,aJ,aM]);omega))<|.yw (.app Z Z (by (try simp only [aG,aJ,aM]);omega))<|.fn (tl:=[_]) Z<|.az Z<|.bR<|.tR<|?_
  refine y9 Z Z λW s=>⟨?_,s.ext⟩
  first
   | (rw [fx3 q3 rfl h0 h1];rfl)
   | (rw [fx4 q4];rfl)
   | (rw [fx5 q5 rfl];rfl)
   | (rw [fx6 q6];rfl)
   | (rw [fx7 q7];rfl)
   | (rw [fxu qU h0];rfl)
   | (rw [fxq qQ h0];rfl)
   | (rw [IJ q18 rfl h0];rfl)
   | (rw [fxb qB h0 h1];rfl)
   | (rw [fxn q3 q4 q5 q6 q7 qU qQ q18 qB])
 have q7:¬ op=7:=λe=>aN h73 (by rw [e];rfl);refine .cu (X:=Bool) [(1,_),(3,_),(14,_)] ⟨Z,Z,Z,Jt⟩ (λz=>[(102,.bool z)]) (λz=>H) (λz=>[.box b1 [.int .u8 op.toNat,cH nm,cH fd,.int .i64 a.toInt,.int .i64 b.toInt,.slice p1 ex.length c1,.slice p2 args.length c2] 35]) (λz=>z=decide (op=8\/op=12\/op=13\/op=14)) ?_ λz hC=>?_
 ·
  refine .sr<|.yw (.eql Z Z)<|.aq Z<|.cr Z (λh102=>?_) (λh102=>?_)
  ·have qu:op=8:=aQ.1 (by have:=aH h102;show op.toNat=8;omega);exact .sk<|.tN<|.me _ ⟨Z,Jt⟩ ⟨Z,Z,Z,Jt⟩ (λ_ s=>s) (by first | (rw [qu];rfl) | (simp only [qu8,qu12,qu13,false_or];exact k8 (m:=14) (by decide)))
  have qu8:¬ op=8:=λe=>aN h102 (by rw [e];rfl);refine .sr<|.yw (.eql Z Z)<|.aq Z<|.cr Z (λh102=>?_) (λh102=>?_)
  ·have qu:op=12:=aQ.1 (by have:=aH h102;show op.toNat=12;omega);exact .sk<|.tN<|.me _ ⟨Z,Jt⟩ ⟨Z,Z,Z,Jt⟩ (λ_ s=>s) (by first | (rw [qu];rfl) | (simp only [qu8,qu12,qu13,false_or];exact k8 (m:=14) (by decide)))
  have qu12:¬ op=12:=λe=>aN h102 (by rw [e];rfl);refine .sr<|.yw (.eql Z Z)<|.aq Z<|.cr Z (λh102=>?_) (λh102=>?_)
  ·have qu:op=13:=aQ.1 (by have:=aH h102;show op.toNat=13;omega);exact .sk<|.tN<|.me _ ⟨Z,Jt⟩ ⟨Z,Z,Z,Jt⟩ (λ_ s=>s) (by first | (rw [qu];rfl) | (simp only [qu8,qu12,qu13,false_or];exact k8 (m:=14) (by decide)))
  have qu13:¬ op=13:=λe=>aN h102 (by rw [e];rfl);exact .rg<|.yw (.eql Z Z)<|.aq Z<|.me _ ⟨Z,Jt⟩ ⟨Z,Z,Z,Jt⟩ (λ_ s=>s) (by first | (rw [qu];rfl) | (simp only [qu8,qu12,qu13,false_or];exact k8 (m:=14) (by decide)))
 have eqU:=hC;refine .cr Z (λh102=>?_) (λh102=>?_)
 ·have qU:(op=8\/op=12\/op=13\/op=14):=by rw [h102] at eqU;exact aH eqU.symm
  have har:=(kA hF).2.1;rw [ar1 ((by rcases qU with h | h | h | h <;> simp [h]))] at har;have h0:0<args.length:=by omega
  have hok0:=hG _ (bT h0);rw [fxu qU h0] at hl;simp only [aG,aJ,aM] at hl;have pl:=IY 5 args[0]

  refine .sq<|.fL 8 [(0,0),(1,0),(2,0),(3,0),(4,0),(5,0),(6,0),(7,0)]<|.mv Z<|.yw (.loadW Z cD Hm Z)<|.yw (.call NX Z (λW s=>JJ H G gq _ _ W h s.agr))<|.yw (.app Z Z (by (try simp only [aG,aJ,aM]);omega))<|.yw (.app Z Z (by (try simp only [aG,aJ,aM]);omega))<|.yw (.loadW Z cD Hm Z)<|.yw (.call CB Z (λW s=>vL H G 0 5 h0 (ih _ (bT h0)) _ W h hok0 (by omega) s.agr))<|.yw (.app Z Z (by (try simp only [aG,aJ,aM]);omega))<|.fn (tl:=[_]) Z<|.az Z<|.bR<|.tR<|?_
  refine y9 Z Z λW s=>⟨?_,s.ext⟩
  first
   | (rw [fx3 q3 rfl h0 h1];rfl)
   | (rw [fx4 q4];rfl)
   | (rw [fx5 q5 rfl];rfl)
   | (rw [fx6 q6];rfl)
   | (rw [fx7 q7];rfl)
   | (rw [fxu qU h0];rfl)
   | (rw [fxq qQ h0];rfl)
   | (rw [IJ q18 rfl h0];rfl)
   | (rw [fxb qB h0 h1];rfl)
   | (rw [fxn q3 q4 q5 q6 q7 qU qQ q18 qB])
 have qU:¬ (op=8\/op=12\/op=13\/op=14):=by rw [h102] at eqU;exact aN eqU.symm
 refine .cu (X:=Bool) [(1,_),(3,_),(14,_)] ⟨Z,Z,Z,Jt⟩ (λz=>[(115,.bool z)]) (λz=>H) (λz=>[.box b1 [.int .u8 op.toNat,cH nm,cH fd,.int .i64 a.toInt,.int .i64 b.toInt,.slice p1 ex.length c1,.slice p2 args.length c2] 35]) (λz=>z=decide (op=16\/op=17)) ?_ λz hC=>?_
 ·
  refine .sr<|.yw (.eql Z Z)<|.aq Z<|.cr Z (λh115=>?_) (λh115=>?_)
  ·have qq:op=16:=aQ.1 (by have:=aH h115;show op.toNat=16;omega);exact .sk<|.tN<|.me _ ⟨Z,Jt⟩ ⟨Z,Z,Z,Jt⟩ (λ_ s=>s) (by first | (rw [qq];rfl) | (simp only [qq16,false_or];exact k8 (m:=17) (by decide)))
  have qq16:¬ op=16:=λe=>aN h115 (by rw [e];rfl);exact .rg<|.yw (.eql Z Z)<|.aq Z<|.me _ ⟨Z,Jt⟩ ⟨Z,Z,Z,Jt⟩ (λ_ s=>s) (by first | (rw [qq];rfl) | (simp only [qq16,false_or];exact k8 (m:=17) (by decide)))
 have eqQ:=hC;refine .cr Z (λh115=>?_) (λh115=>?_)
 ·have qQ:(op=16\/op=17):=by rw [h115] at eqQ;exact aH eqQ.symm
  have har:=(kA hF).2.1;rw [ar1 ((by rcases qQ with h | h <;> simp [h]))] at har;have h0:0<args.length:=by omega
  have hok0:=hG _ (bT h0);rw [fxq qQ h0] at hl;simp only [aG,aJ,aM] at hl;have pl:=IY 5 args[0]

  refine .sq<|.fL 8 [(0,0),(1,0),(2,0),(3,0),(4,0),(5,0),(6,0),(7,0)]<|.mv Z<|.yw (.loadW Z cD Hm Z)<|.yw (.call NW Z (λW s=>NQ H gq _ _ W h s.agr))<|.yw (.app Z Z (by (try simp only [aG,aJ,aM]);omega))<|.yw (.app Z Z (by (try simp only [aG,aJ,aM]);omega))<|.yw (.loadW Z cD Hm Z)<|.yw (.call CB Z (λW s=>vL H G 0 5 h0 (ih _ (bT h0)) _ W h hok0 (by omega) s.agr))<|.yw (.app Z Z (by (try simp only [aG,aJ,aM]);omega))<|.fn (tl:=[_]) Z<|.az Z<|.bR<|.tR<|?_
  refine y9 Z Z λW s=>⟨?_,s.ext⟩
  first
   | (rw [fx3 q3 rfl h0 h1];rfl)
   | (rw [fx4 q4];rfl)
   | (rw [fx5 q5 rfl];rfl)
   | (rw [fx6 q6];rfl)
   | (rw [fx7 q7];rfl)
   | (rw [fxu qU h0];rfl)
   | (rw [fxq qQ h0];rfl)
   | (rw [IJ q18 rfl h0];rfl)
   | (rw [fxb qB h0 h1];rfl)
   | (rw [fxn q3 q4 q5 q6 q7 qU qQ q18 qB])
 have qQ:¬ (op=16\/op=17):=by rw [h115] at eqQ;exact aN eqQ.symm
 refine .sr<|.yw (.eql Z Z)<|.aq Z<|.cd Z (λh126=>?_) (λh126=>?_)
 ·have q18:op=18:=aQ.1 (by have:=aH h126;show op.toNat=18;omega);obtain ⟨e0,he,hte⟩:=UA hF (.inr q18);have har:=(kA hF).2.1;rw [ar1 ((by simp [q18]))] at har;have h0:0<args.length:=by omega
  have hok0:=hG _ (bT h0);rw [IJ q18 he h0] at hl;simp only [aG,aJ,aM] at hl;obtain ⟨bE,oE,cE,hpE,rE,lE,mE⟩:=hs2.elem (kM (f:=dFm .u8) h0);cases hpE;subst he;obtain ⟨bX,oX,cX,hpX,rX,lX,mX⟩:=hs1.elem (i:=0) (d:=dEx .u8 e0) rfl;cases hpX

  refine .sq<|.fL 18 [(0,0),(1,0),(2,0),(3,0),(4,0),(5,0),(6,0),(7,0),(8,0),(9,0),(10,0),(11,0),(12,0),(13,0),(14,0),(15,0),(16,0),(17,0)]<|.mv Z<|.yw (.loadW Z cD Hm Z)<|.yw (.call NW Z (λW s=>NQ H gq _ _ W h s.agr))<|.yw (.app Z Z (by (try simp only [aG,aJ,aM]);omega))<|.yw (.app Z Z (by (try simp only [aG,aJ,aM]);omega))<|.fA Z dD<|.lD Z fP Hm Z<|.yw (.indexSl eR Z Z (i:=0) Z (by omega) (q:=oE+0 * 7) Z)<|.yw (.loadMW Z cD mE lE)<|.yw (.call CD Z (λW s=>ih _ (bT h0) _ W rE hok0 (by omega) s.agr))<|.yw (.app Z Z (by (try simp only [aG,aJ,aM]);omega))<|.yw (.app Z Z (by (try simp only [aG,aJ,aM]);omega))<|.fA Z cJ<|.lD Z dE Hm Z<|.yw (.indexSl dO Z Z (i:=0) Z (by first | omega | exact Nat.succ_pos _) (q:=oX+0 * 4) Z)<|.yw (.loadMW Z dP mX lX)<|.yw (.call sK Z (λW s=>sP H G gq _ _ W rX (.inl hte) (by omega) s.agr))<|.yw (.app Z Z (by (try simp only [aG,aJ,aM]);omega))<|.fn (tl:=[_]) Z<|.az Z<|.bR<|.tR<|?_
  refine y9 Z Z λW s=>⟨?_,s.ext⟩
  first
   | (rw [fx3 q3 rfl h0 h1];rfl)
   | (rw [fx4 q4];rfl)
   | (rw [fx5 q5 rfl];rfl)
   | (rw [fx6 q6];rfl)
   | (rw [fx7 q7];rfl)
   | (rw [fxu qU h0];rfl)
   | (rw [fxq qQ h0];rfl)
   | (rw [IJ q18 rfl h0];rfl)
   | (rw [fxb qB h0 h1];rfl)
   | (rw [fxn q3 q4 q5 q6 q7 qU qQ q18 qB])
 have q18:¬ op=18:=λe=>aN h126 (by rw [e];rfl);refine .cu (X:=Bool) [(1,_),(3,_)] ⟨Z,Z,Jt⟩ (λz=>[(146,.bool z)]) (λz=>H) (λz=>[.box b1 [.int .u8 op.toNat,cH nm,cH fd,.int .i64 a.toInt,.int .i64 b.toInt,.slice p1 ex.length c1,.slice p2 args.length c2] 35]) (λz=>z=decide (op=15\/op=9\/op=10\/op=11)) ?_ λz hC=>?_
 ·
  refine .sr<|.yw (.eql Z Z)<|.aq Z<|.cr Z (λh146=>?_) (λh146=>?_)
  ·have qb:op=15:=aQ.1 (by have:=aH h146;show op.toNat=15;omega);exact .sk<|.tN<|.me _ ⟨Z,Jt⟩ ⟨Z,Z,Jt⟩ (λ_ s=>s) (by first | (rw [qb];rfl) | (simp only [qb15,qb9,qb10,false_or];exact k8 (m:=11) (by decide)))
  have qb15:¬ op=15:=λe=>aN h146 (by rw [e];rfl);refine .sr<|.yw (.eql Z Z)<|.aq Z<|.cr Z (λh146=>?_) (λh146=>?_)
  ·have qb:op=9:=aQ.1 (by have:=aH h146;show op.toNat=9;omega);exact .sk<|.tN<|.me _ ⟨Z,Jt⟩ ⟨Z,Z,Jt⟩ (λ_ s=>s) (by first | (rw [qb];rfl) | (simp only [qb15,qb9,qb10,false_or];exact k8 (m:=11) (by decide)))
  have qb9:¬ op=9:=λe=>aN h146 (by rw [e];rfl);refine .sr<|.yw (.eql Z Z)<|.aq Z<|.cr Z (λh146=>?_) (λh146=>?_)
  ·have qb:op=10:=aQ.1 (by have:=aH h146;show op.toNat=10;omega);exact .sk<|.tN<|.me _ ⟨Z,Jt⟩ ⟨Z,Z,Jt⟩ (λ_ s=>s) (by first | (rw [qb];rfl) | (simp only [qb15,qb9,qb10,false_or];exact k8 (m:=11) (by decide)))
  have qb10:¬ op=10:=λe=>aN h146 (by rw [e];rfl);exact .rg<|.yw (.eql Z Z)<|.aq Z<|.me _ ⟨Z,Jt⟩ ⟨Z,Z,Jt⟩ (λ_ s=>s) (by first | (rw [qb];rfl) | (simp only [qb15,qb9,qb10,false_or];exact k8 (m:=11) (by decide)))
 have eqB:=hC;refine .cr Z (λh146=>?_) (λh146=>?_)
 ·have qB:(op=15\/op=9\/op=10\/op=11):=by rw [h146] at eqB;exact aH eqB.symm
  have har:=(kA hF).2.1;rw [ar2 qB] at har;have h0:0<args.length:=by omega
  have h1:1<args.length:=by omega
  have hok0:=hG _ (bT h0);have hok1:=hG _ (bT h1);rw [fxb qB h0 h1] at hl;simp only [aG,aJ,aM] at hl;have pl:=IY (cK op).lv args[0];have pl1:=IY ((cK op).lv+1) args[1];have hlv:(cK op).lv<=4:=by rcases qB with rfl | rfl | rfl | rfl <;> decide
  refine .sr<|.fA Z eF<|.lD Z hZ Hm Z<|.yw (.call (v:=.agg (fsC (cK op)).toArray) qP Z (λW s=>oK H G op W s.agr))<|.yw (.fld Z (aT8 _))<|.aq Z<|.sq<|.fL 15 [(0,0),(1,0),(2,0),(3,0),(4,0),(5,0),(6,0),(7,0),(8,0),(9,0),(10,0),(11,0),(12,0),(13,0),(14,0)]<|.yw (.loadW Z cD Hm Z)<|.mv Z<|.yw (.call CB Z (λW s=>vL H G 0 (cK op).lv h0 (ih _ (bT h0)) _ W h hok0 (by omega) s.agr))<|.yw (.app Z Z (by (try simp only [aG,aJ,aM]);omega))<|.mv Z<|.yw (.app Z Z (by (try simp only [aG,aJ,aM]);omega))<|.yw (.loadW Z cD Hm Z)<|.yw (.call NX Z (λW s=>JJ H G gq _ _ W h s.agr))<|.yw (.app Z Z (by (try simp only [aG,aJ,aM]);omega))<|.yw (.app Z Z (by (try simp only [aG,aJ,aM]);omega))<|.yw (.loadW Z cD Hm Z)<|.mv Z<|.yw (.add Z Z (c:=(((cK op).lv+1:Nat):Int)) (wu8 (by omega)))<|.yw (.call CB Z (λW s=>vL H G 1 ((cK op).lv+1) h1 (ih _ (bT h1)) _ W h hok1 (by omega) s.agr))<|.yw (.app Z Z (by (try simp only [aG,aJ,aM]);omega))<|.fn (tl:=[_]) Z<|.az Z<|.bR<|.tR<|?_
  refine y9 Z Z λW s=>⟨?_,s.ext⟩
  first
   | (rw [fx3 q3 rfl h0 h1];rfl)
   | (rw [fx4 q4];rfl)
   | (rw [fx5 q5 rfl];rfl)
   | (rw [fx6 q6];rfl)
   | (rw [fx7 q7];rfl)
   | (rw [fxu qU h0];rfl)
   | (rw [fxq qQ h0];rfl)
   | (rw [IJ q18 rfl h0];rfl)
   | (rw [fxb qB h0 h1];rfl)
   | (rw [fxn q3 q4 q5 q6 q7 qU qQ q18 qB])
 have qB:¬ (op=15\/op=9\/op=10\/op=11):=by rw [h146] at eqB;exact aN eqB.symm
 refine .sk<|.bN<|.tN<|.sm Z<|.az Z<|?_
 refine y9 Z Z λW s=>⟨?_,s.ext⟩
 first
  | (rw [fx3 q3 rfl h0 h1];rfl)
  | (rw [fx4 q4];rfl)
  | (rw [fx5 q5 rfl];rfl)
  | (rw [fx6 q6];rfl)
  | (rw [fx7 q7];rfl)
  | (rw [fxu qU h0];rfl)
  | (rw [fxq qQ h0];rfl)
  | (rw [IJ q18 rfl h0];rfl)
  | (rw [fxb qB h0 h1];rfl)
  | (rw [fxn q3 q4 q5 q6 q7 qU qQ q18 qB])
theorem bC5 {e:Ex} :∀ {cs:List Value},Rep H (dEx .u8 e) cs->nlE e=true:=by
 induction e using Ex.ind with | _ op nm n args ih
 intro cs h;obtain ⟨p,c,rfl,hs,hn⟩:=iK h;unfold nlE;rw [nR,mL,aE,aD,aW];refine ⟨hn,λa ha=>?_⟩;obtain ⟨i,hi,rfl⟩:=List.getElem_of_mem ha;obtain ⟨bE,oE,cE,hpE,rE,lE,mE⟩:=hs.elem (kM (f:=dEx .u8) hi);exact ih _ (bT hi) rE
variable {f:Fm}
theorem bC4:∀ {cs:List Value},Rep H (dFm .u8 f) cs->nlF f=true:=by
 induction f using Fm.ind with | _ op nm fd a b ex args ih
 intro cs h;obtain ⟨p1,c1,p2,c2,rfl,hs1,hs2,hnm,hfd⟩:=iX h;unfold nlF;rw [rT,aE,aE,aE,aD,aD,aW,aW];refine ⟨⟨⟨hnm,hfd⟩,λe he=>?_⟩,λg hg=>?_⟩
 ·obtain ⟨i,hi,rfl⟩:=List.getElem_of_mem he;obtain ⟨bE,oE,cE,hpE,rE,lE,mE⟩:=hs1.elem (kM (f:=dEx .u8) hi);exact bC5 rE
 ·obtain ⟨i,hi,rfl⟩:=List.getElem_of_mem hg;obtain ⟨bE,oE,cE,hpE,rE,lE,mE⟩:=hs2.elem (kM (f:=dFm .u8) hi);exact ih _ (bT hi) rE
theorem bP3 (h:gT f=0):f.count<=60/\Fm.all kY f=true:=by
 unfold gT at h
 split at h
 ·cases h
 ·rename_i h1
  split at h
  ·cases h
  ·split at h
   ·cases h
   ·rename_i h3;exact ⟨Nat.le_of_not_lt λe=>h1 (.inl e),by simpa using h3⟩
theorem GV (H:Hp) (GL:Gl H) (G:Gf H) (gq:Gq H) (f:Fm) (hb:blF 600000 f=true) (cs:List Value) (w:World) (h:Rep H (dFm .u8 f) cs) (hA:Agr H w):Calls prg 19 #[.agg cs.toArray] w λr w'=>r=.returned (cH (HR f))/\Ext w w':=by
 obtain ⟨op,nm,fd,a,b,ex,args⟩:=f;obtain ⟨p1,c1,p2,c2,rfl,hs1,hs2,hnm,hfd⟩:=iX h;refine Sx.enter (H:=H) func19 rfl ntmps19 rfl hA ?_;refine .sr<|.bx Z Z Z λb1=>.aq Z<|.sq<|.sr<|.yw (.loadW Z cD Hm Z)<|.yw (.call CF Z (λW s=>zJ H GL G (.mk op nm fd a b ex args) hb _ W h s.agr))<|.yw (.neq Z Z)<|.nt<|.cd Z (λh5=>?_) (λh5=>?_)
 ·have hc:¬ gT (.mk op nm fd a b ex args)=0:=λe=>aH h5 (by rw [e];rfl);refine .sr<|.az Z<|.tR<|?_
  refine y9 Z Z λW s=>⟨?_,s.ext⟩
  first
   | (unfold HR;rw [aF hc];rfl)
   | (unfold HR;rw [aL hc])
 have hc:gT (.mk op nm fd a b ex args)=0:=by have:=aN h5;omega
 obtain ⟨hk,hF⟩:=bP3 hc;refine .sk<|.tN<|.sr<|.yw (.loadW Z cD Hm Z)<|.yw (.call CD Z (λW s=>aE4 H G gq (.mk op nm fd a b ex args) _ W h hF (aZ (bF4 _ (bC4 h)) (by omega)) s.agr))<|.az Z<|?_
 refine y9 Z Z λW s=>⟨?_,s.ext⟩
 first
  | (unfold HR;rw [aF hc];rfl)
  | (unfold HR;rw [aL hc])
theorem u8d (c k:UInt8):decide (((c.toNat:Nat):Int)=(k.toNat:Nat))=decide (c=k):=by
 rw [bH,aD,aD];exact ⟨λh=>aQ.1 (by omega),λh=>by rw [h]⟩
theorem aF4 (c:UInt8) (w:World):Calls prg 147 #[IE c] w λr w'=>r=.returned (.bool (mC c))/\Ext w w':=by
 refine y6 func147 Z ntmps147 Z ?_;refine .sr<|.a Z Z<|.ns<|.mv Z<|.yw (.cast (.eql Z Z) (congrArg Value.bool (u8d c 32)))<|.mv Z<|.b2 (λh5=>?_) (λh5=>?_)
 ·refine .gG<|.gG<|.yw (.pickT Z Z)<|.mv Z<|.gG<|.gG<|.yw (.pickT Z Z)<|.mv Z<|.gG<|.gG<|.yw (.pickT Z Z)<|.az Z<|?_
  refine y9 Z Z λW s=>⟨?_,s.ext⟩
  first
   | (unfold mC;rw [h5];rfl)
   | (unfold mC;rw [h5,h9];rfl)
   | (unfold mC;rw [h5,h9,h13];rfl)
 refine .gy (.move Z)<|.gy (.cast (.eql Z Z) (congrArg Value.bool (u8d c 9)))<|.yw (.pickF Z Z)<|.mv Z<|.b2 (λh9=>?_) (λh9=>?_)
 ·refine .gG<|.gG<|.yw (.pickT Z Z)<|.mv Z<|.gG<|.gG<|.yw (.pickT Z Z)<|.az Z<|?_
  refine y9 Z Z λW s=>⟨?_,s.ext⟩
  first
   | (unfold mC;rw [h5];rfl)
   | (unfold mC;rw [h5,h9];rfl)
   | (unfold mC;rw [h5,h9,h13];rfl)
 refine .gy (.move Z)<|.gy (.cast (.eql Z Z) (congrArg Value.bool (u8d c 10)))<|.yw (.pickF Z Z)<|.mv Z<|.b2 (λh13=>?_) (λh13=>?_)
 ·refine .gG<|.gG<|.yw (.pickT Z Z)<|.az Z<|?_
  refine y9 Z Z λW s=>⟨?_,s.ext⟩
  first
   | (unfold mC;rw [h5];rfl)
   | (unfold mC;rw [h5,h9];rfl)
   | (unfold mC;rw [h5,h9,h13];rfl)
 refine .gy (.move Z)<|.gy (.cast (.eql Z Z) (congrArg Value.bool (u8d c 13)))<|.yw (.pickF Z Z)<|.az Z<|?_
 refine y9 Z Z λW s=>⟨?_,s.ext⟩
 first
  | (unfold mC;rw [h5];rfl)
  | (unfold mC;rw [h5,h9];rfl)
  | (unfold mC;rw [h5,h9,h13];rfl)
def AU (c:UInt8):Bool:=!decide (c=10)
theorem u8n (c k:UInt8):decide (¬ ((c.toNat:Nat):Int)=(k.toNat:Nat))=!decide (c=k):=by rw [<-u8d,decide_not]
theorem aB8 (c:UInt8) (w:World):Calls prg 149 #[IE c] w λr w'=>r=.returned (.bool (AU c))/\Ext w w':=by
 refine y6 func149 Z ntmps149 Z ?_;refine .sr<|.a Z Z<|.ns<|.mv Z<|.yw (.cast (.neq Z Z) (congrArg Value.bool (u8n c 10)))<|.az Z<|?_
 exact y9 Z Z λW s=>⟨Z,s.ext⟩
theorem ES (q:UInt8->Bool) (c:UInt8) (r:Str):pre q (c::r)=if q c then pre q r+1 else 0:=by
 unfold pre;rw [dU]
 split <;> simp
theorem VV:∀ (m:Str),gA false (m.drop (pre mC m))=gA false m
 | []=>rfl
 | c::r=>by
  rw [ES]
  split
  ·rename_i h;rw [oO,VV r,MU h]
  ·rfl
theorem aM9:∀ (m:Str),gA false (m.drop (pre AU m))=gA true m
 | []=>by rw [List.drop_nil,yC,yC]
 | c::r=>by
  rw [ES]
  split
  ·rename_i h;unfold AU at h;rw [oO,aM9 r,aB7 (by simpa using h)]
  ·rename_i h;have e:c=10:=by unfold AU at h;simpa using h
   subst e;rw [pQ,aB6]
theorem aO7 (q:UInt8->Bool):∀ (m:Str) (c:UInt8) (r:Str),m.drop (pre q m)=c::r->q c=false
 | [],c,r,h=>by cases h
 | x::m,c,r,h=>by
  rw [ES] at h
  split at h
  ·exact aO7 q m c r (by simpa using h)
  ·rename_i hx;rw [pQ] at h;injection h with h1 _
   subst h1;simpa using hx
theorem aM8 (h:AJ m [47,47]=true):gA false (m.drop (pre AU m))=gA false m/\1<=pre AU m:=by
 rw [AX] at h;obtain ⟨r,rfl⟩:=jB.1 h;refine ⟨?_,?_⟩
 ·rw [aM9];exact (aB5 r).symm
 ·show 1<=pre AU (47::47::r);rw [ES,aL (by decide)];omega
theorem aB4 (h:AJ (m.drop (pre mC m)) [47,47]=false):gA false m=m.drop (pre mC m):=by
 rw [<-VV];cases e:m.drop (pre mC m) with
 | nil=>rw [yC]
 | cons c r =>
  refine pU (aO7 _ _ _ _ e) ?_;rintro ⟨rfl,h2⟩;rw [e] at h;cases r with
  | nil=>cases h2
  | cons d r =>
   obtain rfl:d=47:=bK h2;rw [AX] at h;rw [show ([47,47]:Str).isPrefixOf (47::47::r)=true by simp [List.isPrefixOf]] at h;cases h
theorem aN0 {t:Str} {o:Nat} (ho:o<=t.length) (h:gA false t=t.drop o):uY t=o:=by
 unfold uY;rw [h,cU];omega
theorem NC (t:Str) (hl:t.length<=9223372036854775807) (w:World):Calls prg 96 #[cH t] w λr w'=>r=.returned (iN (uY t))/\Ext w w':=by
 refine y6 func96 Z ntmps96 Z ?_;refine .sr<|.a Z Z<|.ns<|.aq Z<|.bk<|.lp (X:=Nat) [(0,_)] ⟨Z,Jt⟩ [] (λo=>[(3,iN o)]) (λo=>(⟨λ_=>none,0⟩:Hp)) (λo=>[]) (λo=>o<=t.length/\gA false (t.drop o)=gA false t) (λo=>t.length - o) 0 (λ_ s=>s) ⟨Z,Jt⟩ ⟨aO _,Z⟩ λo hC=>?_
 obtain ⟨ho,hs⟩:=hC;have hp1:=AP mC (t.drop o);rw [cU] at hp1;replace hp1:(o+(pre mC (t.drop o)))<=t.length:=by omega
 refine .bk<|.sm Z<|.mv Z<|.mv Z<|.yw (.dropS iL Z Z (lo:=o) Z ho)<|.yw (.call wT Z (λW s=>wD 147 mC XS aF4 _ (by rw [cU];omega) W))<|.yw (.add Z Z (c:=(((o+(pre mC (t.drop o))):Nat):Int)) ((w6 (by omega)).trans (by omega)))<|.aq Z<|.sq<|.sm Z<|.mv Z<|.yw (.dropS iL Z Z (lo:=(o+(pre mC (t.drop o)))) Z hp1)<|.yw (.call LH Z (λW s=>CQ _ [47,47] W))<|.yw (.not Z)<|.nt<|.cd Z (λh14=>?_) (λh14=>?_)
 ·have hh:AJ (t.drop (o+(pre mC (t.drop o)))) [47,47]=false:=by simpa using h14
  refine .sm Z<|.az Z<|.tR<|.bR<|.tR<|.bR<|?_
  exact y9 Z Z λW s=>⟨by rw [aN0 hp1 (by rw [<-hs,<-gS];exact aB4 (by rw [gS];exact hh))],s.ext⟩
 have hh:AJ (t.drop (o+(pre mC (t.drop o)))) [47,47]=true:=by simpa using h14
 obtain ⟨hs2,hg2⟩:=aM8 hh;have hp2:=AP AU (t.drop (o+(pre mC (t.drop o))));rw [cU] at hp2;exact .sk<|.tN<|.rg<|.mv Z<|.mv Z<|.mv Z<|.yw (.dropS iL Z Z (lo:=(o+(pre mC (t.drop o)))) Z hp1)<|.yw (.call wT Z (λW s=>wD 149 AU XR aB8 _ (by rw [cU];omega) W))<|.yw (.add Z Z (c:=(((o+(pre mC (t.drop o)))+(pre AU (t.drop (o+(pre mC (t.drop o))))):Nat):Int)) ((w6 (by omega)).trans (by omega)))<|.a Z Z<|.nl<|.bN<|.tN<|.ag ((o+(pre mC (t.drop o)))+(pre AU (t.drop (o+(pre mC (t.drop o)))))) ⟨Z,Jt⟩ ⟨Z,Jt⟩ (λ_ s=>s) ⟨by omega,by rw [<-gS,hs2,<-gS,VV,hs]⟩ (by omega)
theorem bE7 (H:Hp) (t:Str) (w:World) (hA:Agr H w):Calls prg 54 #[cH t] w λr w'=>∃ (b:Nat) (H':Hp),kZ H' b 0 [cH t]/\r=.returned (.func (.func 95) #[] #[.pointer (some ⟨b,0,none⟩)])/\yM H w H' w':=by
 refine Sx.enter (H:=H) func54 rfl ntmps54 rfl hA ?_;refine .sr<|.bx Z Z Z λb1=>.a Z Z<|.ns<|.yw (.mkF Z Z)<|.az Z<|?_
 refine GO λH1 u1 m1=>?_;exact y9 Z Z λW s=>⟨b1,H1,m1,Z,u1.grow s⟩
abbrev TkS:={x:Tk // x.t.length<=1000000}
theorem bE6 (H:Hp) (G:Gl H) (t:Str) (hl:t.length<=1000000000000000000) (hs:∀ x∈wH t,x.t.length<=1000000) (b:Nat) (hm:kZ H b 0 [cH t]) (w:World) (hA:Agr H w) :
 SeqStopsK Fence.wide 8 prg 95 #[.pointer (some ⟨b,0,none⟩)] (λx:TkS=>#[.agg (cTk .u8 x.1).toArray]) (KpH H) (λxs=>xs.map (·.1)=wH t) (λ_=>True) (t.length+1) w:=by
 refine Sx.seqStops (lb:=[.pointer (some ⟨b,0,none⟩)]) func95 rfl ntmps95 rfl (λW hW=>hA.ext hW) ?_;intro l Jg Jx W hJs hJxs hY hJ0;refine .sr<|.yw (.loadM Z cZ hm (k:=0) Z Z)<|.yw (.call NV Z (λW s=>NC t (by omega) W))<|.aq Z<|.bk<|.lj (X:=Nat × List TkS) (λz=>[(0,.func (.yield l) #[] #[]),(1,.pointer (some ⟨b,0,none⟩)),(3,iN z.1)]) (λz=>Jg z.2) (λz=>z.1<=t.length/\z.2.length<=z.1/\z.2.map (·.1)++toks z.1 (t.drop z.1)=wH t) (λz=>t.length - z.1) (uY t,[]) ⟨SE t,aO _,(aD7 t).symm⟩ ⟨Z,Z,Z,Jt⟩ hJ0 λz w1 hC hJ1=>?_
 obtain ⟨o,pre1⟩:=z;obtain ⟨ho,hpl,htk⟩:=hC;dsimp only at ho hpl htk hJ1|-;refine .sq<|.sm Z<|.yw (.loadM Z cZ hm (k:=0) Z Z)<|.yw (.lenS iL Z)<|.yw (.lss Z Z)<|.nt<|.ce Z (λh11=>?_) (λh11=>?_)
 ·have hlt:o<t.length:=by omega
  have hm0:t.drop o≠[]:=by intro e;have:=congrArg List.length e;rw [cU] at this;simp at this;omega
  have hrk:=vQ hm0;rw [cU] at hrk;have hx5:((t.drop o).take (cI (t.drop o)).2).length<=1000000:=hs ⟨(cI (t.drop o)).1,(t.drop o).take (cI (t.drop o)).2,o⟩ (by rw [<-htk,MP hm0];simp);refine .sk<|.tN<|.sq<|.bk<|.sr<|.yw (.loadM Z cZ hm (k:=0) Z Z)<|.mv Z<|.yw (.dropS iL Z Z (lo:=o) Z (by omega))<|.yw (.call NU Z (λW s=>SK H G (t.drop o) (by rw [cU];omega) hm0 W s.agr))<|.mv Z<|.yw (.extract Z Z)<|.yw (.extract Z Z)<|.a Z Z<|.aq Z<|.sq<|.sq<|.rgW 8<|.mI Z Z<|.mI Z Z<|.yvI (.loadM Z cZ hm (k:=0) Z Z) Z<|.mI Z Z<|.mI Z Z<|.mI Z Z<|.yvI (.add Z Z (c:=((o+(cI (t.drop o)).2:Nat):Int)) ((w6 (by omega)).trans (by omega))) Z<|.yvI (.cast (.midS iL Z Z Z (lo:=o) (hi:=o+(cI (t.drop o)).2) Z Z (by omega) (by omega)) (by rw [xN,jS])) Z<|.mI Z Z<|.yvI (.build Z (IP _ _ _)) Z<|.yd Z Z Z (λW s=>hY pre1 ⟨⟨(cI (t.drop o)).1,(t.drop o).take (cI (t.drop o)).2,o⟩,hx5⟩ W (hJs _ _ _ hJ1 s.ext) (by omega)) (λw2 hj2=>?_) (λw2 hj2=>?_)
  ·have hsd:=SE ((t.drop o).drop (cI (t.drop o)).2);rw [cU,cU] at hsd;exact .yvI (.not Z) Z<|.nlI<|.tN<|.cF Z<|.sk<|.tN<|.rg<|.mv Z<|.mv Z<|.yw (.add Z Z (c:=((o+(cI (t.drop o)).2:Nat):Int)) ((w6 (by omega)).trans (by omega)))<|.a Z Z<|.nl<|.bN<|.tN<|.rg<|.mv Z<|.yw (.loadM Z cZ hm (k:=0) Z Z)<|.mv Z<|.yw (.cast (.dropS iL Z Z (lo:=o+(cI (t.drop o)).2) Z (by omega)) (by rw [<-gS];rfl))<|.yw (.call NV Z (λW s=>NC ((t.drop o).drop (cI (t.drop o)).2) (by rw [cU,cU];omega) W))<|.yw (.add Z Z (c:=((o+(cI (t.drop o)).2+uY ((t.drop o).drop (cI (t.drop o)).2):Nat):Int)) ((w6 (by omega)).trans (by omega)))<|.aq Z<|.aj (x:=(o,pre1)) (o+(cI (t.drop o)).2+uY ((t.drop o).drop (cI (t.drop o)).2),pre1++[⟨⟨(cI (t.drop o)).1,(t.drop o).take (cI (t.drop o)).2,o⟩,hx5⟩]) ⟨by dsimp only;omega,by dsimp only;rw [aG];simp;omega,by dsimp only;rw [<-htk,bU,bD];congr 1;rw [MP hm0,show (t.drop o).drop ((cI (t.drop o)).2+uY ((t.drop o).drop (cI (t.drop o)).2))=t.drop (o+(cI (t.drop o)).2+uY ((t.drop o).drop (cI (t.drop o)).2)) by rw [dN];exact gS];rfl⟩ (by dsimp only;omega) hj2 ⟨Z,Z,Z,Jt⟩
  refine .yvI (.not Z) Z<|.nlI<|.tN<|.cT Z<|.rt<|.tR<|.bR<|.tR<|.tR<|.bR<|?_
  refine y7 Z .nil rfl λW s=>⟨⟨_,Z⟩,.inr ⟨_,Jt,hJxs _ _ _ hj2 s.ext⟩⟩
 have hoe:o=t.length:=by omega
 refine .ex<|.tE<|.tE<|.bE<|?_
 refine jA (.inr Z) rfl .nil rfl λW s=>⟨⟨_,Z⟩,.inl ⟨pre1,?_,hJs _ _ _ hJ1 s.ext⟩⟩;rw [<-htk,hoe,List.drop_length,aK9,dQ]
end Go.Proofs.YtidclioghdbphaaGreatDoor
