/- Texts of the proof, one behind the other. -/
import Derived.Test.YtidclioghdbphaaGreatDoorMd
import Derived.Lib.ItoaNum
set_option linter.all false
set_option maxRecDepth 100000
namespace Go.Proofs.YtidclioghdbphaaGreatDoor
open Go.RowKit Go.Par Go.Sx Tryz
theorem wU:∀ n:Str,(∃ i:Nat,Lib.indexByte n 46=(i:Int)/\i<n.length/\fD n=some (n.take i,n.drop (i+1)))\/(Lib.indexByte n 46=-1/\fD n=none)
 | []=>.inr ⟨Z,Z⟩
 | c::r=>by
  by_cases hc:c=46
  ·refine .inl ⟨0,?_,Nat.succ_pos _,?_⟩
   ·rw [Lib.indexByte,aO (by rw [hc];rfl)];rfl
   ·rw [fD,aO hc];rfl
  ·have hb:¬ (c == 46)=true:=λe=>hc (by simpa using e);rcases wU r with ⟨i,h1,h2,h3⟩ | ⟨h1,h2⟩
   ·refine .inl ⟨i+1,?_,Nat.succ_lt_succ h2,?_⟩
    ·rw [Lib.indexByte,aG hb,h1,aG (by intro e;have:=eq_of_beq e;omega)];omega
    ·rw [fD,aG hc,h3];rfl
   ·refine .inr ⟨?_,?_⟩
    ·rw [Lib.indexByte,aG hb,h1];rfl
    ·rw [fD,aG hc,h2];rfl
def spV (n:Str):Value:=.tuple #[cH (spA n),cH (spB n),.bool (fD n).isSome]
def aL2 (n:Str):Value:=.tuple #[cH (if (fD n).isSome then spA n else n),cH (spB n),.bool (fD n).isSome]
theorem bB7 (n:Str) (hn:n.length<=9223372036854775807) (w:World):Calls prg 94 #[cH n,cH [46]] w λe w'=>e=.returned (aL2 n)/\Ext w w':=by
 refine y6 func94 Z ntmps94 Z ?_;refine .sr<|.a Z Z<|.a Z Z<|.aq Z<|.sq<|.sm Z<|.mv Z<|.yw (.call (v:=.int .i64 (Lib.indexByte n 46)) ZJ Z λW s=>(Tryz.stringslite_Index_one ⟨n.toArray⟩ 46 W).mono λ_ _ h=>⟨h.1,by rw [h.2];exact Ext.refl _⟩)<|.a Z Z<|.ns<|.mv Z<|.yw (.geq Z Z)<|.nt<|.ce Z (λh12=>?_) (λh12=>?_)
 ·obtain ⟨i,hx,hi,hs⟩:∃ i:Nat,Lib.indexByte n 46=(i:Int)/\i<n.length/\fD n=some (n.take i,n.drop (i+1)):=by
   rcases wU n with h | ⟨h,_⟩
   ·exact h
   ·omega
  refine .sq<|.fL 11 [(0,0),(1,0),(2,0),(3,0),(4,0),(5,0),(6,0),(7,0),(8,0),(9,0),(10,0)]<|.mv Z<|.mv Z<|.yw (.takeS dI Z Z (hi:=i) hx (by omega))<|.mv Z<|.mv Z<|.mv Z<|.yw (.lenS dI Z)<|.yw (.add Z Z (c:=((i+1:Nat):Int)) (by rw [hx];exact (w64 (by show _<=(i:Int)+((1:Nat):Int);omega) (by show (i:Int)+((1:Nat):Int)<=_;omega)).trans (by show (i:Int)+((1:Nat):Int)=_;omega)))<|.yw (.dropS dI Z Z (lo:=i+1) Z (by omega))<|.a Z Z<|.a Z Z<|.fn (tl:=[_]) Z<|.az Z<|.tR<|?_
  refine y7 Z (.cons (.tmp Z) (.cons (.tmp Z) (.cons (.tmp Z) .nil))) rfl λW s=>⟨(by unfold aL2 spA spB;rw [hs];rfl),s.ext⟩
 have hs:fD n=none:=by
  rcases wU n with ⟨i,h,_⟩ | ⟨_,h⟩
  ·omega
  ·exact h
 refine .sk<|.tN<|.sm Z<|.a Z Z<|.a Z Z<|.az Z<|?_
 refine y7 Z (.cons (.tmp Z) (.cons (.tmp Z) (.cons (.tmp Z) .nil))) rfl λW s=>⟨(by unfold aL2 spA spB;rw [hs];rfl),s.ext⟩
theorem bL7 (n:Str) (hn:n.length<=9223372036854775807) (w:World):Calls prg 49 #[cH n,cH [46]] w λe w'=>e=.returned (aL2 n)/\Ext w w':=by
 refine y6 func49 Z ntmps49 Z ?_;refine .sr<|.a Z Z<|.a Z Z<|.a Z Z<|.ns<|.mv Z<|.mv Z<|.yw (.call (v:=aL2 n) aN2 Z λW s=>bB7 n hn W)<|.yw (.extract Z Z)<|.yw (.extract Z Z)<|.yw (.extract Z Z)<|.a Z Z<|.a Z Z<|.az Z<|?_
 refine y7 Z (.cons (.tmp Z) (.cons (.tmp Z) (.cons (.tmp Z) .nil))) rfl λW s=>⟨Z,s.ext⟩
theorem OO (n:Str) (hn:n.length<=9223372036854775807) (w:World):Calls prg 20 #[cH n] w λe w'=>e=.returned (spV n)/\Ext w w':=by
 refine y6 func20 Z ntmps20 Z ?_;refine .sr<|.a Z Z<|.a Z Z<|.a Z Z<|.ns<|.mv Z<|.yw (.call (v:=aL2 n) aO2 Z λW s=>bL7 n hn W)<|.mv Z<|.yw (.extract Z Z)<|.yw (.extract Z Z)<|.yw (.extract Z Z)<|.a Z Z<|.a Z Z<|.aq Z<|.sq<|.sm Z<|.yw (.not Z)<|.nt<|.cd Z (λh12=>?_) (λh12=>?_)
 ·have hs:fD n=none:=by cases e:fD n with | none=>rfl | some x=>rw [e] at h12;cases h12
  refine .sr<|.a Z Z<|.a Z Z<|.az Z<|.tR<|?_
  refine y7 Z (.cons (.tmp Z) (.cons (.tmp Z) (.cons (.tmp Z) .nil))) rfl λW s=>⟨(by unfold spV spA spB;rw [hs];rfl),s.ext⟩
 obtain ⟨x,hs⟩:∃ x,fD n=some x:=by cases e:fD n with | some x=>exact ⟨x,rfl⟩ | none=>rw [e] at h12;cases h12
 refine .sk<|.tN<|.sm Z<|.mv Z<|.a Z Z<|.a Z Z<|.az Z<|?_
 refine y7 Z (.cons (.tmp Z) (.cons (.tmp Z) (.cons (.tmp Z) .nil))) rfl λW s=>⟨(by unfold spV spA spB;rw [hs];rfl),s.ext⟩
variable {l:List Value}
theorem bX6 {p:Value->Prop} {t u e0 e1 e2 e3:Value} (h1:∀ x∈t::u::e0::e1::e2::e3::l,p x):∀ x∈[e0,e1,e2,e3],p x:=λx hx=>h1 x (bZ _<|bZ _<|(cV.2 (.inl hx):x∈[e0,e1,e2,e3]++l))
theorem cC6 {p:Value->Prop} {t u e0 e1 e2 e3:Value} (h1:∀ x∈t::u::e0::e1::e2::e3::l,p x):∀ x∈l,p x:=λx hx=>h1 x (bZ _<|bZ _<|(cV.2 (.inr hx):x∈[e0,e1,e2,e3]++l))
variable {k:Nat} {xr:List Value}
variable {H:Hp} {w0 W:World} {bs:List Res} {b tc:Nat} {tp:Option Addr} {ro rv:Value} {bd:Bool} {q:Rq}
theorem yE {l:Tks} {rd dn:Bool} (K:Tkf H l tp tc) (hq:q.i<l.length) {tm wh:Bool} {eop:UInt8} {enm:Str} {e2 e3 f0 f1 f2 f3 f4 f5 f6:Value} (h1:∀ u∈[.bool tm,.bool wh,.int .u8 eop.toNat,cH enm,e2,e3,f0,f1,f2,f3,f4,f5,f6],u.oneCell'=true) (hkm:k<=600001) (hl:xr.length=k * 13) (s:St H w0 (.box b [.slice tp l.length tc,iN q.i,ro,rv,.bool rd,.bool dn,.bool bd,iN q.off,iN q.er] 102::.row 179 13 (rv) (k+1) (xr++[.bool tm,.bool wh,.int .u8 eop.toNat,cH enm,e2,e3,f0,f1,f2,f3,f4,f5,f6])::bs) W) :
 Calls prg 155 #[.pointer (some ⟨b,0,none⟩)] W λe W'=>∃ z:Nat × Nat,(True)/\e=.returned (.agg [.int .u8 eop.toNat,cH enm,e2,e3].toArray)/\St H w0 (.box b [.slice tp l.length tc,iN q.i,ro,(.slice (some ⟨z.1,0,none⟩) k z.2),.bool rd,.bool dn,.bool (bd || !tm),iN q.off,iN q.er] 102::.row 179 13 (.slice (some ⟨z.1,0,none⟩) k z.2) (k) (xr)::bs) W':=by
 have hcap:=K.rep.cap;refine kE func155 rfl ntmps155 rfl s ?_;refine .sr<|.al lI Z λb2=>.ns<|.mv Z<|.cs (X:=Nat × Nat) EX Z (λW s=>aV2 K hq h1 hkm hl (s.p3_3 [1,2,0] Z)) Z λz _=>.al xE Z λb3=>.sW .head Z Z xG h1 Z<|.ns<|.mv Z<|.mv Z<|.nC Z<|.fA Z nN<|.lD Z jO dC Z<|.mv Z<|.b2 (λh11=>?_) (λh11=>?_)
 ·subst h11;refine .gG<|.gG<|.gG<|.yw (.pickT Z Z)<|.nC Z<|.fA Z nN<|.st mD Z Z nG Z (nb Z) Z<|.ns<|.fA Z uY<|.yw (.loadS (vs:=[_,_,_,_]) Z eC Hm Z (aT0 Z))<|.sW qF Z Z gQ (bX6 h1) Z<|.nt<|.rt<|?_
  refine y8 Z (.cell Z eC rY rfl) λW s=>?_;exact ⟨z,Jt,Z,s.p4_2 [1,2] rfl⟩
 subst h11;refine .gy (.fieldAddr Z DV)<|.gy (.load Z jO Hm Z)<|.gy (.not Z)<|.yw (.pickF Z Z)<|.nC Z<|.fA Z nN<|.st mD Z Z nG Z (nb Z) Z<|.ns<|.fA Z uY<|.yw (.loadS (vs:=[_,_,_,_]) Z eC Hm Z (aT0 Z))<|.sW qF Z Z gQ (bX6 h1) Z<|.nt<|.rt<|?_
 refine y8 Z (.cell Z eC rY rfl) λW s=>?_;exact ⟨z,Jt,Z,s.p4_2 [1,2] rfl⟩
def fmC (tm:Bool) (enm:Str) (fs:List Value):List Value:=if tm then [.int .u8 4,cH (spA enm),cH (spB enm),.int .i64 0,.int .i64 0,.slice none 0 0,.slice none 0 0] else fs
theorem wM {l:Tks} {rd dn:Bool} (K:Tkf H l tp tc) (hq:q.i<l.length) {tm wh:Bool} {eop:UInt8} {enm:Str} {e2 e3 f0 f1 f2 f3 f4 f5 f6:Value} (h1:∀ u∈[.bool tm,.bool wh,.int .u8 eop.toNat,cH enm,e2,e3,f0,f1,f2,f3,f4,f5,f6],u.oneCell'=true) (hen:enm.length<=1000000) (hkm:k<=600001) (hl:xr.length=k * 13) (s:St H w0 (.box b [.slice tp l.length tc,iN q.i,ro,rv,.bool rd,.bool dn,.bool bd,iN q.off,iN q.er] 102::.row 179 13 (rv) (k+1) (xr++[.bool tm,.bool wh,.int .u8 eop.toNat,cH enm,e2,e3,f0,f1,f2,f3,f4,f5,f6])::bs) W) :
 Calls prg 57 #[.pointer (some ⟨b,0,none⟩)] W λe W'=>∃ z:Nat × Nat,(True)/\e=.returned (.agg (fmC tm enm [f0,f1,f2,f3,f4,f5,f6]).toArray)/\St H w0 (.box b [.slice tp l.length tc,iN q.i,ro,(.slice (some ⟨z.1,0,none⟩) k z.2),.bool rd,.bool dn,.bool (bd || (tm && (!decide (eop=5) || (fD enm).isNone))),iN q.off,iN q.er] 102::.row 179 13 (.slice (some ⟨z.1,0,none⟩) k z.2) (k) (xr)::bs) W':=by
 have hcap:=K.rep.cap;refine kE func57 rfl ntmps57 rfl s ?_;refine .sr<|.al fV Z λb2=>.ns<|.mv Z<|.cs (X:=Nat × Nat) EX Z (λW s=>aV2 K hq h1 hkm hl (s.p3_3 [1,2,0] Z)) Z λz _=>.al xE Z λb3=>.sW .head Z Z xG h1 Z<|.nt<|.sq<|.sr<|.fA Z DV<|.lD Z jO Hm Z<|.yw (.not Z)<|.nt<|.cd Z (λh11=>?_) (λh11=>?_)
 ·have ht:tm=false:=by simpa using h11
  subst ht;refine .sr<|.fA Z OA<|.yw (.loadS (vs:=[_,_,_,_,_,_,_]) Z cQ Hm Z (aT0 Z))<|.sW qF Z Z dM (cC6 h1) Z<|.nt<|.rt<|.tR<|?_
  refine y8 Z (.cell Z cQ rY rfl) λW s=>?_;rw [aB,Bool.or_false];exact ⟨z,Jt,Z,s.p4_2 [1,2] rfl⟩
 have ht:tm=true:=by simpa using h11
 subst ht;refine .sk<|.tN<|.sr<|.fA Z uY<|.fA Z gM<|.lD Z cP Hm Z<|.yw (.call QU Z λW s=>OO enm (by omega) W)<|.mv Z<|.yw (.extract Z Z)<|.yw (.extract Z Z)<|.yw (.extract Z Z)<|.a Z Z<|.a Z Z<|.aq Z<|.sq<|.sr<|.fA Z uY<|.fA Z iI<|.lD Z kW Hm Z<|.yw (.neq Z Z)<|.mv Z<|.b2 (λh26=>?_) (λh26=>?_)
 ·have e5:¬ eop=5:=λe=>by subst e;simp at h26
  have hb:(!decide (eop=5) || (fD enm).isNone)=true:=by rw [aM e5];rfl
  refine .gG<|.gG<|.yw (.pickT Z Z)<|.nt<|.cT Z<|.rg<|.mv Z<|.nC Z<|.fA Z nN<|.st mD Z Z nG Z (nb Z) Z<|.ns<|.mv Z<|.mv Z<|.yw (.build Z (xL _ _ _))<|.sX qF Z Z dM Z<|.nt<|.rt<|?_
  refine y8 Z (.cell Z cQ rY rfl) λW s=>?_;rw [hb,aA,Bool.or_true];exact ⟨z,Jt,Z,s.p4_2 [1,2] rfl⟩
 have e5:eop=5:=aS.1 (by have:=aP h26;show eop.toNat=5;omega);refine .gy (.move Z)<|.gy (.not Z)<|.yw (.pickF Z Z)<|.nt<|.cd Z (λh29=>?_) (λh29=>?_)
 ·have hb:(!decide (eop=5) || (fD enm).isNone)=true:=by
   rw [aK e5];cases hs:fD enm with
   | none=>rfl
   | some x=>rw [hs] at h29;cases h29
  refine .rg<|.mv Z<|.nC Z<|.fA Z nN<|.st mD Z Z nG Z (nb Z) Z<|.ns<|.mv Z<|.mv Z<|.yw (.build Z (xL _ _ _))<|.sX qF Z Z dM Z<|.nt<|.rt<|?_
  refine y8 Z (.cell Z cQ rY rfl) λW s=>?_;rw [hb,aA,Bool.or_true];exact ⟨z,Jt,Z,s.p4_2 [1,2] rfl⟩
 have hb:(!decide (eop=5) || (fD enm).isNone)=false:=by
  rw [aK e5];cases hs:fD enm with
  | some x=>rfl
  | none=>rw [hs] at h29;cases h29
 refine .sk<|.tN<|.sm Z<|.mv Z<|.yw (.build Z (xL _ _ _))<|.sX qF Z Z dM Z<|.nt<|.rt<|?_
 refine y8 Z (.cell Z cQ rY rfl) λW s=>?_;rw [hb,aA,Bool.or_false];exact ⟨z,Jt,Z,s.p4_2 [1,2] rfl⟩
variable {j:Nat} {v0 v1:Value} {xv:List Value}
theorem xU {l:Tks} {rd dn:Bool} (K:Tkf H l tp tc) (hq:q.i<l.length) {v2 v3 v4 v5 v6 v7 v8 v9 va vb vc:Value} {os:List Value} (h1:∀ u∈[v0,v1,v2,v3,v4,v5,v6,v7,v8,v9,va,vb,vc],u.oneCell'=true) (hkm:k<=600001) (hjm:j<=600001) (hl:xr.length=k * 11) (s:St H w0 (.box b [.slice tp l.length tc,iN q.i,ro,rv,.bool rd,.bool dn,.bool bd,iN q.off,iN q.er] 102::.row 97 11 (ro) (k+1) (xr++os)::.row 179 13 (rv) (j) (xv)::bs) W) :
 Calls prg 156 #[.pointer (some ⟨b,0,none⟩),.agg [v0,v1,v2,v3,v4,v5,v6,v7,v8,v9,va,vb,vc].toArray] W λe W'=>∃ z:(Nat × Nat) × (Option Addr × Nat),(True)/\e=.returned (.tuple #[])/\St H w0 (.box b [.slice tp l.length tc,iN q.i,(.slice (some ⟨z.1.1,0,none⟩) k z.1.2),(.slice z.2.1 (j+1) z.2.2),.bool true,.bool dn,.bool bd,iN q.off,iN q.er] 102::.row 97 11 (.slice (some ⟨z.1.1,0,none⟩) k z.1.2) (k) (xr)::.row 179 13 (.slice z.2.1 (j+1) z.2.2) (j+1) (xv++[v0,v1,v2,v3,v4,v5,v6,v7,v8,v9,va,vb,vc])::bs) W':=by
 have hcap:=K.rep.cap;refine kE func156 rfl ntmps156 rfl s ?_;refine Sx.rowCase (size:=11) (k:=k+1) (r:=ro) (e:=97) dC (by omega) λg c e hkc=>?_;subst e;refine .sr<|.bx Z Z Z λb3=>.nt<|.sq<|.fL 12 [(0,0),(1,0),(2,0),(3,0),(4,0),(5,0),(6,0),(7,0),(8,0),(9,0),(10,0),(11,0)]<|.mv Z<|.mv Z<|.nC Z<|.fA Z iY<|.lD Z vO dC Z<|.mv Z<|.nC Z<|.fA Z iY<|.lD Z vO dC Z<|.yw (.lenSl CT Z)<|.yw (.sub Z Z (c:=((k:Nat):Int)) ((w6 (by omega)).trans (by omega)))<|.yw (.cutHi CT Z Z Z (by omega) (λq e=>by cases e;rfl))<|.fn (tl:=[_,_,_]) Z<|.nC Z<|.fA Z iY<|.st mD Z Z CU Z (nb Z) Z<|?_
 refine Sx.At.rcut (size:=11) (m:=k) (ys:=xr) oV (by omega) (by rw [<-hl,jG]) ?_;refine .nt<|.rg<|.mv Z<|.yw (.loadW Z wQ Hm Z)<|.cs (X:=Option Addr × Nat) fT Z (λW s=>mJ K hq h1 hjm (s.p4_4 [1,3,0,2] Z)) Z λz _=>.nl<|?_
 refine jE (.inr Z) rfl .nil rfl λW s=>⟨((g,c),z),Jt,Z,?_⟩;exact s.p4_3 [0,3,1] rfl
theorem QT:cZ prg 23=true:=by kernel_rfl
theorem QL:cZ prg 50=true:=by kernel_rfl
theorem PR {l:List Ex} (h:k<l.length):Ex.counts (l.take (k+1))=Ex.counts (l.take k)+l[k].count:=by rw [wK h,lU,Ex.counts,Ex.counts,jP]
theorem PQ (l:List Ex) (k:Nat):Ex.counts (l.take k)<=Ex.counts l:=by
 have h:=lU (l.take k) (l.drop k);rw [eF] at h;omega
theorem YQ {l:List Fm} (h:k<l.length):Fm.counts (l.take (k+1))=Fm.counts (l.take k)+l[k].count:=by rw [KW h,pR,Fm.counts,Fm.counts,jP]
theorem YP (l:List Fm) (k:Nat):Fm.counts (l.take k)<=Fm.counts l:=by
 have h:=pR (l.take k) (l.drop k);rw [eF] at h;omega
theorem aI9 (e:Ex):∀ (H:Hp) (cs:List Value) (w:World),Rep H (dEx .i64 e) cs->e.count<=1000000->Agr H w ->
 Calls prg 50 #[.agg cs.toArray] w λr w'=>r=.returned (iN e.count)/\Ext w w':=by
 induction e using Ex.ind with | _ op nm nn args ih
 intro H cs w h hc hA;rw [kC] at hc;obtain ⟨p,c,rfl,hs,hnm⟩:=fX h;have hcap:=hs.cap;refine Sx.enter (H:=H) func50 rfl ntmps50 rfl hA ?_;refine .sr<|.bx Z Z Z λb1=>.a Z Z<|.ns<|.aq Z<|.sq<|.sr<|.fA Z fG<|.lD Z eQ Hm Z<|.yw (.lenSl eL Z)<|.mv Z<|.nt<|.bk<|.lp (X:=Nat) [(7,_),(8,_)] ⟨Z,Z,Jt⟩ [_] (λk=>[(3,iN (1+Ex.counts (args.take k))),(9,iN k)]) (λk=>H) (λk=>[]) (λk=>k<=args.length) (λk=>args.length - k) 0 (λ_ s=>s) ⟨Z,Z,Jt⟩ (aR _) λk hC=>?_
 have hk0:=hC;refine .sr<|.yw (.lss Z Z)<|.nt<|.sq<|.ce Z (λh10=>?_) (λh10=>?_)
 ·have hk:k<args.length:=by omega
  obtain ⟨bE,oE,cE,hpE,rE,lE,mE⟩:=hs.elem (fW (f:=dEx .i64) hk);cases hpE;have h1:=PR hk;have h2:=PQ args (k+1);exact .sk<|.tN<|.sq<|.bk<|.sr<|.yw (.indexSl eL Z Z Z (by omega) (q:=oE+k * 4) Z)<|.yw (.loadMW Z dH mE lE)<|.al iM Z λb5=>.sV .head Z Z gP lE rE.one Z<|.nt<|.rg<|.mv Z<|.yw (.loadW Z dH Hm lE)<|.yw (.call QL Z (λW s=>ih _ (bI hk) H cE W rE (by omega) s.agr))<|.yw (.add Z Z (c:=((1+Ex.counts (args.take (k+1)):Nat):Int)) ((w6 (by omega)).trans (by omega)))<|.a Z Z<|.nl<|.bN<|.tN<|.rg<|.yw (.add Z Z w7)<|.mv Z<|.nt<|.ag (k+1) ⟨Z,Z,Jt⟩ ⟨Z,Z,Jt⟩ (λ_ s=>s.pick [1] [_] Z Z) (by omega) (by omega)
 obtain rfl:k=args.length:=by omega
 rw [aZ];refine .ex<|.eb<|.sm Z<|.az Z<|?_
 exact y9 Z Z λW s=>⟨by rw [kC,Nat.add_comm],s.ext⟩
theorem aU0 (f:Fm):∀ (H:Hp) (cs:List Value) (w:World),Rep H (dFm .i64 f) cs->f.count<=1000000->Agr H w ->
 Calls prg 23 #[.agg cs.toArray] w λr w'=>r=.returned (iN f.count)/\Ext w w':=by
 induction f using Fm.ind with | _ op nm fd a b ex args ih
 intro H cs w h hc hA;rw [pJ] at hc;obtain ⟨p1,c1,p2,c2,rfl,hs1,hs2,hnm,hfd⟩:=gR h;have hcap1:=hs1.cap;have hcap2:=hs2.cap;refine Sx.enter (H:=H) func23 rfl ntmps23 rfl hA ?_;refine .sr<|.bx Z Z Z λb1=>.a Z Z<|.ns<|.aq Z<|.sq<|.sr<|.fA Z eE<|.lD Z eQ Hm Z<|.yw (.lenSl eL Z)<|.mv Z<|.nt<|.bk<|.lp (X:=Nat) [(1,_),(9,_),(10,_)] ⟨Z,Z,Z,Jt⟩ [_] (λk=>[(3,iN (1+Ex.counts (ex.take k))),(11,iN k)]) (λk=>H) (λk=>[]) (λk=>k<=ex.length) (λk=>ex.length - k) 0 (λ_ s=>s) ⟨Z,Z,Jt⟩ (aR _) λk hC=>?_
 have hk0:=hC;refine .sr<|.yw (.lss Z Z)<|.nt<|.sq<|.ce Z (λh12=>?_) (λh12=>?_)
 ·have hk:k<ex.length:=by omega
  obtain ⟨bE,oE,cE,hpE,rE,lE,mE⟩:=hs1.elem (fW (f:=dEx .i64) hk);cases hpE;have h1:=PR hk;have h2:=PQ ex (k+1);exact .sk<|.tN<|.sq<|.bk<|.sr<|.yw (.indexSl eL Z Z Z (by omega) (q:=oE+k * 4) Z)<|.yw (.loadMW Z dH mE lE)<|.al iM Z λb5=>.sV .head Z Z gP lE rE.one Z<|.nt<|.rg<|.mv Z<|.yw (.loadW Z dH Hm lE)<|.yw (.call QL Z (λW s=>aI9 _ H cE W rE (by omega) s.agr))<|.yw (.add Z Z (c:=((1+Ex.counts (ex.take (k+1)):Nat):Int)) ((w6 (by omega)).trans (by omega)))<|.a Z Z<|.nl<|.bN<|.tN<|.rg<|.yw (.add Z Z w7)<|.mv Z<|.nt<|.ag (k+1) ⟨Z,Z,Jt⟩ ⟨Z,Z,Z,Jt⟩ (λ_ s=>s.pick [1] [_] Z Z) (by omega) (by omega)
 obtain rfl:k=ex.length:=by omega
 rw [aZ];refine .ex<|.eb<|.sq<|.sr<|.fA Z iJ<|.lD Z oL Hm Z<|.yw (.lenSl nF Z)<|.mv Z<|.nt<|.bk<|.lp (X:=Nat) [(21,_),(22,_)] ⟨Z,Z,Jt⟩ [_] (λk=>[(3,iN (1+Ex.counts ex+Fm.counts (args.take k))),(23,iN k)]) (λk=>H) (λk=>[]) (λk=>k<=args.length) (λk=>args.length - k) 0 (λ_ s=>s) ⟨Z,Z,Jt⟩ (aR _) λk hC=>?_
 have hk0:=hC;refine .sr<|.yw (.lss Z Z)<|.nt<|.sq<|.ce Z (λh24=>?_) (λh24=>?_)
 ·have hk:k<args.length:=by omega
  obtain ⟨bF,oF,cF,hpF,rF,lF,mF⟩:=hs2.elem (fW (f:=dFm .i64) hk);cases hpF;have h1:=YQ hk;have h2:=YP args (k+1);exact .sk<|.tN<|.sq<|.bk<|.sr<|.yw (.indexSl nF Z Z Z (by omega) (q:=oF+k * 7) Z)<|.yw (.loadMW Z dY mF lF)<|.al lZ Z λb7=>.sV .head Z Z kG lF rF.one Z<|.nt<|.rg<|.mv Z<|.yw (.loadW Z dY Hm lF)<|.yw (.call QT Z (λW s=>ih _ (bI hk) H cF W rF (by omega) s.agr))<|.yw (.add Z Z (c:=((1+Ex.counts ex+Fm.counts (args.take (k+1)):Nat):Int)) ((w6 (by omega)).trans (by omega)))<|.a Z Z<|.nl<|.bN<|.tN<|.rg<|.yw (.add Z Z w7)<|.mv Z<|.nt<|.ag (k+1) ⟨Z,Z,Jt⟩ ⟨Z,Z,Jt⟩ (λ_ s=>s.pick [1] [_] Z Z) (by omega) (by omega)
 obtain rfl:k=args.length:=by omega
 rw [aZ];refine .ex<|.eb<|.sm Z<|.az Z<|?_
 exact y9 Z Z λW s=>⟨by rw [pJ,show Ex.counts ex+Fm.counts args+1=1+Ex.counts ex+Fm.counts args by omega],s.ext⟩
theorem XM {l:Str} (h:k<l.length):l.take (k+1)=l.take k++[l[k]]:=by rw [List.take_succ,List.getElem?_eq_getElem h];rfl
theorem aT2:∀ {l:Str},l.all (λc=>decide (¬ c=46))=true->fD l=none
 | [],_=>rfl
 | c::r,h=>by
  rw [eY,aF,aD] at h;rw [fD,aG h.1,aT2 h.2];rfl
theorem aT3:∀ {l:Str} {k:Nat} (hk:k<l.length),l[k]=46->(l.take k).all (λc=>decide (¬ c=46))=true->fD l=some (l.take k,l.drop (k+1))
 | c::r,0,_,h,_=>by
  have h':c=46:=h;rw [fD,aO h'];rfl
 | c::r,k+1,hk,h,ha=>by
  rw [List.take_succ_cons,eY,aF,aD] at ha;rw [fD,aG ha.1,aT3 (l:=r) (k:=k) (Nat.lt_of_succ_lt_succ hk) h ha.2];rfl
theorem aT5 {n:Str} (hk:k<n.length) (h:n[k]=46) (ha:(n.take k).all (λc=>decide (¬ c=46))=true):spV n=.tuple #[cH (n.take k),cH (n.drop (k+1)),.bool true]:=by
 unfold spV spA spB;rw [aT3 hk h ha];rfl
theorem aT4 {n:Str} (ha:n.all (λc=>decide (¬ c=46))=true):spV n=.tuple #[cH [],cH [],.bool false]:=by
 unfold spV spA spB;rw [aT2 ha];rfl
theorem XQ (H:Hp) (n:Str) (hn:n.length<=9223372036854775807) (w:World) (hA:Agr H w):Calls prg 21 #[cH n] w λe w'=>e=.returned (spV n)/\Ext w w':=by
 refine Sx.enter (H:=H) func21 rfl ntmps21 rfl hA ?_;refine .sr<|.a Z Z<|.a Z Z<|.aq Z<|.sq<|.sr<|.aq Z<|.bk<|.lp (X:=Nat) [(0,_)] ⟨Z,Jt⟩ [] (λk=>[(5,iN k)]) (λk=>H) (λk=>[]) (λk=>k<=n.length/\(n.take k).all (λc=>decide (¬ c=46))=true) (λk=>n.length - k) 0 (λ_ s=>s) ⟨Z,Jt⟩ ⟨aR _,Z⟩ λk hC=>?_
 obtain ⟨hk0,hal⟩:=hC;refine .sq<|.sm Z<|.mv Z<|.yw (.lenS dI Z)<|.yw (.lss Z Z)<|.nt<|.ce Z (λh9=>?_) (λh9=>?_)
 ·have hk:k<n.length:=by omega
  refine .sk<|.tN<|.sq<|.bk<|.sm Z<|.mv Z<|.yw (.idxS dI Z Z (by omega) (List.getElem?_eq_getElem hk))<|.yw (.eql Z Z)<|.nt<|.cd Z (λh15=>?_) (λh15=>?_)
  ·have he:n[k]=46:=aS.1 (by have:=aJ h15;show n[k].toNat=46;omega);refine .sq<|.fL 9 [(0,0),(1,0),(2,0),(3,0),(4,0),(5,0),(6,0),(7,0),(8,0)]<|.mv Z<|.mv Z<|.yw (.takeS dI Z Z (hi:=k) Z (by omega))<|.mv Z<|.mv Z<|.yw (.add Z Z w7)<|.yw (.dropS dI Z Z (lo:=k+1) Z (by omega))<|.a Z Z<|.a Z Z<|.fn (tl:=[_]) Z<|.az Z<|.bR<|.tR<|.tR<|.bR<|.tR<|?_
   refine y7 Z (.cons (.tmp Z) (.cons (.tmp Z) (.cons (.tmp Z) .nil))) rfl λW s=>⟨?_,s.ext⟩
   first
    | (rw [aT5 hk he hal];rfl)
    | (rw [aT4 hal];rfl)
  have hne:¬ n[k]=46:=λe=>aP h15 (by rw [e];rfl);exact .sk<|.bN<|.tN<|.rg<|.mv Z<|.yw (.add Z Z w7)<|.aq Z<|.ag (k+1) ⟨Z,Jt⟩ ⟨Z,Jt⟩ (λ_ s=>s) ⟨by omega,by rw [XM hk,List.all_append,hal,eY,aK hne];rfl⟩ (by omega)
 obtain rfl:k=n.length:=by omega
 rw [aZ] at hal;refine .ex<|.eb<|.sr<|.a Z Z<|.a Z Z<|.az Z<|?_
 refine y7 Z (.cons (.tmp Z) (.cons (.tmp Z) (.cons (.tmp Z) .nil))) rfl λW s=>⟨?_,s.ext⟩
 first
  | (rw [aT5 hk he hal];rfl)
  | (rw [aT4 hal];rfl)
variable {xo:List Value} {AR:List Res}
theorem Ops.inv {o:Ov} {r:List Ov} (h:Ops H (o::r) xo AR) (hk:o.kd≠5):∃ xr s1 s2,xo=xr++oC o s1 s2/\Ops H r xr AR/\FmR H o.f s1 s2:=by
 cases h with
 | cons h k f=>exact ⟨_,_,_,Z,h,f⟩
 | arg h k a b c z s=>exact absurd k hk
theorem VR.inv {v:Vl} {vs:List Vl} (h:VR H (v::vs) xv):∃ xr s0 s1 s2,xv=xr++vC v s0 s1 s2/\VR H vs xr/\VlR H v s0 s1 s2:=by
 cases h with
 | cons h k=>exact ⟨_,_,_,_,Z,h,k⟩
theorem bV3 (r:List Ov):DG r<=r.length:=List.length_filter_le ..
theorem FF {l:Tks} {c:Rq} {o:Ov} {r:List Ov} {x:Vb} {dn:Bool} (h:Fwf l ⟨c,o::r,x,true,dn⟩) (h0:0<o.lv):Fwf l ⟨c,r,zB o x,true,dn⟩:=by
 obtain ⟨r1,e,hr⟩:=h.op;cases r1 with
 | nil =>
  injection e with e1 e2
  subst e1;exact absurd h0 (by decide)
 | cons o1 r1 =>
  injection e with e1 e2
  subst e1;have ho:=hr _ (bD ..);have hv:=h.vs
  have hv':x.1.length=(if cnO o then 1 else 0)+DG r+1:=by
   have:x.1.length=DG (o::r)+1:=hv;rw [sD] at this;exact this
  have hl:=WI ho h0 (x:=x) (by rw [hv'];split <;> omega);refine ⟨h.i,⟨r1,e2,λz hz=>hr z (bZ _ hz)⟩,?_,?_⟩
  ·show (zB o x).1.length=DG r+1;rw [hl,hv'];split <;> omega
  ·have:=h.so;show r.length<=c.i+1;have e3:(o::r).length<=c.i+1:=this;rw [aI] at e3;omega
theorem oU {l:Tks} {q:Ps} (h:Fwf l q) (hn:l.length<=600000):q.op.length<=600000/\q.x.1.length<=600001:=by
 have h1:=h.so;have h2:=h.i;have h3:=h.vs;have h4:=bV3 q.op;refine ⟨by omega,?_⟩;rw [h3]
 split <;> omega
theorem aF6 {o:Ov} {v:Vl} {V:List Vl} {b:Bool} (h:o.kd=10):zB o (v::V,b)=(tmv (.mk 9 [] 0 [v.e])::V,b || !v.tm):=by unfold zB;rw [aO h];rfl
theorem bB9 {o:Ov} {v u:Vl} {V:List Vl} {b:Bool} (h:o.kd=9):zB o (v::u::V,b)=(tmv (.mk o.op [] 0 [u.e,v.e])::V,b || !v.tm || !u.tm):=by
 unfold zB;rw [aG (by rw [h];decide),aO h];rfl
theorem bC0 {o:Ov} {v u:Vl} {V:List Vl} {b:Bool} (h:o.kd=8):zB o (v::u::V,b)=(fmv (.mk 3 [] [] 0 0 [.mk o.op [] 0 [u.e,v.e]] [])::V,b || !v.tm || !u.tm):=by
 unfold zB;rw [aG (by rw [h];decide),aG (by rw [h];decide),aO h];rfl
theorem bC1 {o:Ov} {v:Vl} {V:List Vl} {b:Bool} (h:o.kd=7):zB o (v::V,b)=(fmv (o.f.wAr [v.fm])::V,b || v.noF):=by
 unfold zB;rw [aG (by rw [h];decide),aG (by rw [h];decide),aG (by rw [h];decide),aO h];rfl
theorem bC2 {o:Ov} {v u:Vl} {V:List Vl} {b:Bool} (h:o.kd=6):zB o (v::u::V,b)=(fmv (o.f.wAr [u.fm,v.fm])::V,b || v.noF || u.noF):=by
 unfold zB;rw [aG (by rw [h];decide),aG (by rw [h];decide),aG (by rw [h];decide),aG (by rw [h];decide),aO h];rfl
theorem BQ {α:Type} {l:List α} (h:1<=l.length):∃ a r,l=a::r:=by cases l with | nil=>cases h | cons a r=>exact ⟨a,r,rfl⟩
theorem aW8 {α:Type} {l:List α} (h:2<=l.length):∃ a b r,l=a::b::r:=by
 match l,h with
 | a::b::r,_=>exact ⟨a,b,r,Z⟩
variable {s1 s2:Value}
theorem HM {v:Vl} {s0:Value} (h:VlR H v s0 s1 s2):∃ t1 t2,fmC v.tm v.e.nm (cFm .u8 v.f.op v.f.nm v.f.fd v.f.a v.f.b s1 s2)=cFm .u8 v.fm.op v.fm.nm v.fm.fd v.fm.a v.fm.b t1 t2/\FmR H v.fm t1 t2:=by
 unfold fmC Vl.fm;cases v.tm with
 | true =>
  refine ⟨.slice none 0 0,.slice none 0 0,Z,FmR.zero rfl rfl ?_ ?_⟩
  ·show (spA v.e.nm).length<=1000000;have:=h.e.nm;unfold spA;rcases wU v.e.nm with ⟨i,_,hi,e⟩ | ⟨_,e⟩
   ·rw [e];show (v.e.nm.take i).length<=_;rw [dT];omega
   ·rw [e];exact aR _
  ·show (spB v.e.nm).length<=1000000;have:=h.e.nm;unfold spB;rcases wU v.e.nm with ⟨i,_,hi,e⟩ | ⟨_,e⟩
   ·rw [e];show (v.e.nm.drop (i+1)).length<=_;rw [cM];omega
   ·rw [e];exact aR _
 | false=>exact ⟨s1,s2,Z,h.f⟩
theorem Ops.inv2 {o:Ov} {r:List Ov} (h:Ops H (o::r) (xr++oC o s1 s2) AR) (hk:o.kd≠5):Ops H r xr AR/\FmR H o.f s1 s2:=by
 obtain ⟨xr',t1,t2,e,h1,h2⟩:=h.inv hk;obtain ⟨e1,e2⟩:=List.append_inj' e rfl;subst e1;simp only [gD,qV,true_and] at e2;obtain ⟨rfl,rfl⟩:=e2;exact ⟨h1,h2⟩
theorem tM {l:Tks} {op:List Ov} {x:Vb} {dn:Bool} (K:Tkf H l tp tc) (Wq:Fwf l ⟨q,op,x,true,dn⟩) (S:Sq H ⟨q,op,x,true,dn⟩ xo xv AR) (lv:Nat) (hlv:1<=lv/\lv<=9) (s:St H w0 (.box b [.slice tp l.length tc,iN q.i,ro,rv,.bool true,.bool dn,.bool x.2,iN q.off,iN q.er] 102::.row 97 11 (ro) (op.length) (xo)::.row 179 13 (rv) (x.1.length) (xv)::(AR++bs)) W) :
 Calls prg 102 #[.pointer (some ⟨b,0,none⟩),iN lv] W (Get w0 bs b l tp tc H (qG lv ⟨q,op,x,true,dn⟩)):=by
 have hq:q.i<l.length:=Wq.i;have hcap:=K.rep.cap;refine kE func102 rfl ntmps102 rfl s ?_;refine .bk<|.lp (X:=(Hp × Value × Value × List Value × List Value) × List Ov × Vb) [(0,_),(1,_)] ⟨Z,Z,Jt⟩ ((AR++bs)) (λz=>[]) (λz=>z.1.1) (λz=>[.box b [.slice tp l.length tc,iN q.i,z.1.2.1,z.1.2.2.1,.bool true,.bool dn,.bool z.2.2.2,iN q.off,iN q.er] 102,.row 97 11 (z.1.2.1) (z.2.1.length) (z.1.2.2.2.1),.row 179 13 (z.1.2.2.1) (z.2.2.1.length) (z.1.2.2.2.2)]) (λz=>HUp w0 H z.1.1/\Sq z.1.1 ⟨q,z.2.1,z.2.2,true,dn⟩ z.1.2.2.2.1 z.1.2.2.2.2 AR/\Fwf l ⟨q,z.2.1,z.2.2,true,dn⟩/\BF lv z.2.1 z.2.2=BF lv op x) (λz=>z.2.1.length) ((H,ro,rv,xo,xv),op,x) (λ_ s=>s) trivial ⟨.refl,S,Wq,Z⟩ λz hC=>?_
 obtain ⟨⟨H1,ro1,rv1,xo1,xv1⟩,op1,x1⟩:=z;obtain ⟨u1,S1,W1,e1⟩:=hC;dsimp only at u1 S1 W1 e1|-;have K1:=K.up u1.up;obtain ⟨o,r,rfl⟩:=BQ (l:=op1) (by have:=W1.ne;cases op1 with | nil=>exact absurd rfl this | cons a t=>exact Nat.succ_pos _);obtain ⟨hn1,hn2⟩:=oU W1 K.few;try dsimp only [List.length_cons] at hn1 hn2
 obtain ⟨xr,s1,s2,e2,hlo,ho1,ho2⟩:=Ops.top S1.ops;try dsimp only at e2
 subst e2;refine Sx.rowCase (size:=11) (r:=ro1) (e:=97) dC (Nat.succ_pos _) λg c e hkc=>?_;try dsimp only [List.length_cons] at hkc
 subst e;refine .sq<|.sm Z<|.cs (X:=Unit) mK Z (λW s=>BI K1 hq (g:=g) (k:=r.length) (c:=c) (by omega) (s.pickT (hd:=[_,_,_]) (tl:=(AR++bs)) (hd':=[_,_,_]) [0,1,2] Z Z)) Z λ_ _=>.nC Z<|.fA Z pC<|.yw (.loadR1 Z cC dC (kF hlo Z))<|.mv Z<|.yw (.geq Z Z)<|.nt<|.ce Z (λh17=>?_) (λh17=>?_)
 ·have hle:lv<=o.lv:=by omega
  have h0:0<o.lv:=by omega
  refine .sk<|.tN<|.bk<|.sm Z<|.cs (X:=Unit) mK Z (λW s=>BI K1 hq (g:=g) (k:=r.length) (c:=c) (by omega) (s.pickT (hd:=[_,_,_]) (tl:=(AR++bs)) (hd':=[_,_,_]) [0,1,2] Z Z)) Z λ_ _=>.nC Z<|.yw (.loadR (vs:=oC o s1 s2) Z zH dC Z (λj u h=>kF hlo h))<|.al PY Z λb4=>.sW .head Z Z QB (bS0 ho1 ho2) Z<|.nt<|.sq<|.fL 12 [(0,0),(1,0),(2,0),(3,0),(4,0),(5,0),(6,0),(7,0),(8,0),(9,0),(10,0),(11,0)]<|.mv Z<|.mv Z<|.nC Z<|.fA Z iY<|.lD Z vO dC Z<|.mv Z<|.nC Z<|.fA Z iY<|.lD Z vO dC Z<|.yw (.lenSl CT Z)<|.yw (.sub Z Z (c:=((r.length:Nat):Int)) ((w6 (by omega)).trans (by omega)))<|.yw (.cutHi CT Z Z Z (by omega) (λq e=>by cases e;rfl))<|.fn (tl:=[_,_,_]) Z<|.nC Z<|.fA Z iY<|.st mD Z Z CU Z (nb Z) Z<|?_
  refine Sx.At.rcut (size:=11) (m:=r.length) (ys:=xr) oV (Nat.le_succ _) (by rw [<-hlo,jG]) ?_;refine .ns<|.fA Z gJ<|.lD Z mL Hm Z<|.nt<|.bk<|.sr<|.yw (.eql Z Z)<|.aq Z<|.ce Z (λh38=>?_) (λh38=>?_)
  ·have hk:o.kd=10:=aS.1 (by show o.kd.toNat=10;omega);have hk5:o.kd≠5:=by rw [hk];decide
   have hv1:1<=x1.1.length:=by have:=W1.vs;dsimp only at this;rw [this];exact Nat.le_add_left _ _
   obtain ⟨vs,bd⟩:=x1;try dsimp only at hv1 hn2
   obtain ⟨v,V,rfl⟩:=BQ hv1;obtain ⟨yr,t0,t1,t2,e4,VS1,V1⟩:=VR.inv S1.vls;try dsimp only at e4
   subst e4;have l1:=VS1.len;try dsimp only [List.length_cons] at hn2
   refine .sm Z<|.cs (X:=Nat × Nat) nO Z (λW s=>yE K1 hq V1.one (by omega) l1 (s.pickT (hd:=[_,_,_,_]) (tl:=(AR++bs)) (hd':=[_,_,_,_]) [1,3,0,2] Z Z)) Z λp1 _=>.al lI Z λb5=>.sW .head Z Z gQ (by intro u hu;exact Rep.one V1.e.rep u hu) Z<|.nt<|.rg<|.mv Z<|.yw (.loadW Z eC Hm Z)<|.bl Z (nQ _ _ _ _) Z λb44=>?_
   refine Sx.freezeBoxN λH2 u2 m2=>?_;refine .yw (.build Z (AQ _ _ _ _))<|.yw (.build Z (jN _ _ _ _ _))<|?_
   have VN:VlR H2 (tmv (.mk 9 [] 0 [v.e])) (.slice (some ⟨b44,0,none⟩) 1 1) (.slice none 0 0) (.slice none 0 0):=⟨⟨(Rep.mk m2 (.single (V1.e.up u2.up).rep rfl) rfl (bK _) (by decide)),aR _⟩,FmR.zero rfl rfl (aR _) (aR _)⟩;exact .cs (X:=Option Addr × Nat) fT Z (λW s=>mJ (K1.up u2.up) hq VN.one (by omega) (s.pickT (hd:=[_,_,_,_,_]) (tl:=(AR++bs)) (hd':=[_,_,_,_,_]) [1,2,0,3,4] Z Z)) Z λp9 _=>.nl<|.bN<|.bN<|.tN<|.ag (x:=((H1,Value.slice (some ⟨g,0,none⟩) (o::r).length c,rv1,xr++oC o s1 s2,yr++vC v t0 t1 t2),o::r,(v::V,bd))) (((H2,Value.slice (some ⟨g,0,none⟩) r.length c,Value.slice p9.1 (V.length+1) p9.2,xr,yr++vC (tmv (.mk 9 [] 0 [v.e])) (.slice (some ⟨b44,0,none⟩) 1 1) (.slice none 0 0) (.slice none 0 0)),r,(tmv (.mk 9 [] 0 [v.e])::V,bd || !v.tm))) trivial ⟨rfl,rfl,trivial⟩ (λ_ s=>(s.pickT (hd:=[_,_,_,_,_]) (tl:=(AR++bs)) (hd':=[_,_,_]) [0,4,1] Z Z)) ⟨u1.trans u2,⟨(Ops.inv2 S1.ops hk5).1.up u2.up,.cons (VS1.up u2.up) VN⟩,(by rw [<-aF6 hk];exact FF W1 h0),(by rw [<-aF6 hk,<-e1,BF,aO hle])⟩ (dA _)
  have hk10:¬ o.kd=10:=λe=>by rw [e] at h38;exact h38 rfl
  refine .sq<|.sr<|.yw (.eql Z Z)<|.aq Z<|.cr Z (λh48=>?_) (λh48=>?_)
  ·try simp only [dt] at h48
   have hk:o.kd=9:=aS.1 (by show o.kd.toNat=9;omega);have hk5:o.kd≠5:=by rw [hk];decide
   have hv1:2<=x1.1.length:=by have:=W1.vs;dsimp only at this;rw [this,sD,show cnO o=true by unfold cnO;rw [hk];decide];simp only [aY];omega
   obtain ⟨vs,bd⟩:=x1;try dsimp only at hv1 hn2
   obtain ⟨v,u,V,rfl⟩:=aW8 hv1;obtain ⟨yr,t0,t1,t2,e4,VS1,V1⟩:=VR.inv S1.vls;try dsimp only at e4
   subst e4;have l1:=VS1.len;obtain ⟨yr2,w0_,w1,w2,e5,VS2,V2⟩:=VR.inv VS1;subst e5;have l2:=VS2.len;try dsimp only [List.length_cons] at hn2 l1
   refine .sk<|.tN<|.cT Z<|.sm Z<|.cs (X:=Nat × Nat) nO Z (λW s=>yE K1 hq V1.one (by omega) l1 (s.pickT (hd:=[_,_,_,_]) (tl:=(AR++bs)) (hd':=[_,_,_,_]) [1,3,0,2] Z Z)) Z λp1 _=>.mv Z<|.cs (X:=Nat × Nat) nO Z (λW s=>yE K1 hq V2.one (by omega) l2 (s.pickT (hd:=[_,_,_,_]) (tl:=(AR++bs)) (hd':=[_,_,_,_]) [0,1,2,3] Z Z)) Z λp2 _=>.al lI Z λb6=>.al lI Z λb7=>.sW mD Z Z gQ (by intro a ha;exact Rep.one V1.e.rep a ha) Z<|.sW .head Z Z gQ (by intro a ha;exact Rep.one V2.e.rep a ha) Z<|.ns<|.fA Z AJ<|.lD Z kW vT Z<|.yw (.loadW Z eC Hm Z)<|.yw (.loadW Z eC dC Z)<|.bl Z (NH _ _ _ _ _ _ _ _) Z λb59=>?_
   refine Sx.freezeBoxN λH2 u2 m2=>?_;refine .yw (.build Z (AQ _ _ _ _))<|.al lI Z λb8=>.sX .head Z Z gQ Z<|.ns<|.fA Z gJ<|.lD Z mL aJ2 Z<|.yw (.eql Z Z)<|.nt<|.cd Z (λh63=>?_) (λh63=>?_)
   ·try simp only [dt] at h63
    refine .rg<|.mv Z<|.yw (.loadW Z eC Hm Z)<|.yw (.build Z (jN _ _ _ _ _))<|?_
    have VN:VlR H2 (tmv (.mk o.op [] 0 [u.e,v.e])) (.slice (some ⟨b59,0,none⟩) 2 2) (.slice none 0 0) (.slice none 0 0):=⟨⟨(Rep.mk m2 (.app (.single (V2.e.up u2.up).rep rfl) (.single (V1.e.up u2.up).rep rfl)) rfl (bK _) (by decide)),aR _⟩,FmR.zero rfl rfl (aR _) (aR _)⟩;exact .cs (X:=Option Addr × Nat) fT Z (λW s=>mJ (K1.up u2.up) hq VN.one (by omega) (s.pickT (hd:=[_,_,_,_,_,_,_]) (tl:=(AR++bs)) (hd':=[_,_,_,_,_,_,_]) [3,4,0,1,2,5,6] Z Z)) Z λp9 _=>.nl<|.bN<|.bN<|.tN<|.ag (x:=((H1,Value.slice (some ⟨g,0,none⟩) (o::r).length c,rv1,xr++oC o s1 s2,(yr2++vC u w0_ w1 w2)++vC v t0 t1 t2),o::r,(v::u::V,bd))) (((H2,Value.slice (some ⟨g,0,none⟩) r.length c,Value.slice p9.1 (V.length+1) p9.2,xr,yr2++vC (tmv (.mk o.op [] 0 [u.e,v.e])) (.slice (some ⟨b59,0,none⟩) 2 2) (.slice none 0 0) (.slice none 0 0)),r,(tmv (.mk o.op [] 0 [u.e,v.e])::V,bd || !v.tm || !u.tm))) trivial ⟨rfl,rfl,trivial⟩ (λ_ s=>(s.pickT (hd:=[_,_,_,_,_,_,_]) (tl:=(AR++bs)) (hd':=[_,_,_]) [0,6,1] Z Z)) ⟨u1.trans u2,⟨(Ops.inv2 S1.ops hk5).1.up u2.up,.cons (VS2.up u2.up) VN⟩,(by rw [<-bB9 hk];exact FF W1 h0),(by rw [<-bB9 hk,<-e1,BF,aO hle])⟩ (dA _)
   exact absurd (by rw [hk];rfl) (aP h63)
  try simp only [df] at h48
  have hk9:¬ o.kd=9:=λe=>by rw [e] at h48;exact h48 rfl
  refine .rg<|.yw (.eql Z Z)<|.aq Z<|.cr Z (λh48=>?_) (λh48=>?_)
  ·try simp only [dt] at h48
   have hk:o.kd=8:=aS.1 (by show o.kd.toNat=8;omega);have hk5:o.kd≠5:=by rw [hk];decide
   have hv1:2<=x1.1.length:=by have:=W1.vs;dsimp only at this;rw [this,sD,show cnO o=true by unfold cnO;rw [hk];decide];simp only [aY];omega
   obtain ⟨vs,bd⟩:=x1;try dsimp only at hv1 hn2
   obtain ⟨v,u,V,rfl⟩:=aW8 hv1;obtain ⟨yr,t0,t1,t2,e4,VS1,V1⟩:=VR.inv S1.vls;try dsimp only at e4
   subst e4;have l1:=VS1.len;obtain ⟨yr2,w0_,w1,w2,e5,VS2,V2⟩:=VR.inv VS1;subst e5;have l2:=VS2.len;try dsimp only [List.length_cons] at hn2 l1
   refine .sm Z<|.cs (X:=Nat × Nat) nO Z (λW s=>yE K1 hq V1.one (by omega) l1 (s.pickT (hd:=[_,_,_,_]) (tl:=(AR++bs)) (hd':=[_,_,_,_]) [1,3,0,2] Z Z)) Z λp1 _=>.mv Z<|.cs (X:=Nat × Nat) nO Z (λW s=>yE K1 hq V2.one (by omega) l2 (s.pickT (hd:=[_,_,_,_]) (tl:=(AR++bs)) (hd':=[_,_,_,_]) [0,1,2,3] Z Z)) Z λp2 _=>.al lI Z λb6=>.al lI Z λb7=>.sW mD Z Z gQ (by intro a ha;exact Rep.one V1.e.rep a ha) Z<|.sW .head Z Z gQ (by intro a ha;exact Rep.one V2.e.rep a ha) Z<|.ns<|.fA Z AJ<|.lD Z kW vT Z<|.yw (.loadW Z eC Hm Z)<|.yw (.loadW Z eC dC Z)<|.bl Z (NH _ _ _ _ _ _ _ _) Z λb59=>?_
   refine Sx.freezeBoxN λH2 u2 m2=>?_;refine .yw (.build Z (AQ _ _ _ _))<|.al lI Z λb8=>.sX .head Z Z gQ Z<|.ns<|.fA Z gJ<|.lD Z mL aJ2 Z<|.yw (.eql Z Z)<|.nt<|.cd Z (λh63=>?_) (λh63=>?_)
   ·exact absurd (aJ h63) (by rw [hk];decide)
   try simp only [df] at h63
   refine .rg<|.mv Z<|.yw (.loadW Z eC Hm Z)<|.bl Z (nQ _ _ _ _) Z λb70=>?_
   refine Sx.freezeBoxN λH3 u3 m3=>?_;refine .yw (.build Z (TJ _ _ _ _))<|.yw (.build Z (iT _ _ _ _ _ _ _))<|?_
   have RX:ExR H2 (.mk o.op [] 0 [u.e,v.e]) (.slice (some ⟨b59,0,none⟩) 2 2):=⟨(Rep.mk m2 (.app (.single (V2.e.up u2.up).rep rfl) (.single (V1.e.up u2.up).rep rfl)) rfl (bK _) (by decide)),aR _⟩;have VN:VlR H3 (fmv (.mk 3 [] [] 0 0 [.mk o.op [] 0 [u.e,v.e]] [])) (.slice none 0 0) (.slice (some ⟨b70,0,none⟩) 1 1) (.slice none 0 0):=⟨ExR.zero rfl (aR _),⟨(Rep.mk m3 (.single (RX.up u3.up).rep rfl) rfl (bK _) (by decide)),Rep.nil4,aR _,aR _⟩⟩;exact .cs (X:=Option Addr × Nat) fT Z (λW s=>mJ ((K1.up u2.up).up u3.up) hq VN.one (by omega) (s.pickT (hd:=[_,_,_,_,_,_,_]) (tl:=(AR++bs)) (hd':=[_,_,_,_,_,_,_]) [3,4,0,1,2,5,6] Z Z)) Z λp9 _=>.nl<|.bN<|.bN<|.tN<|.ag (x:=((H1,Value.slice (some ⟨g,0,none⟩) (o::r).length c,rv1,xr++oC o s1 s2,(yr2++vC u w0_ w1 w2)++vC v t0 t1 t2),o::r,(v::u::V,bd))) (((H3,Value.slice (some ⟨g,0,none⟩) r.length c,Value.slice p9.1 (V.length+1) p9.2,xr,yr2++vC (fmv (.mk 3 [] [] 0 0 [.mk o.op [] 0 [u.e,v.e]] [])) (.slice none 0 0) (.slice (some ⟨b70,0,none⟩) 1 1) (.slice none 0 0)),r,(fmv (.mk 3 [] [] 0 0 [.mk o.op [] 0 [u.e,v.e]] [])::V,bd || !v.tm || !u.tm))) trivial ⟨rfl,rfl,trivial⟩ (λ_ s=>(s.pickT (hd:=[_,_,_,_,_,_,_]) (tl:=(AR++bs)) (hd':=[_,_,_]) [0,6,1] Z Z)) ⟨u1.trans (u2.trans u3),⟨(Ops.inv2 S1.ops hk5).1.up (u2.trans u3).up,.cons (VS2.up (u2.trans u3).up) VN⟩,(by rw [<-bC0 hk];exact FF W1 h0),(by rw [<-bC0 hk,<-e1,BF,aO hle])⟩ (dA _)
  try simp only [df] at h48
  have hk8:¬ o.kd=8:=λe=>by rw [e] at h48;exact h48 rfl
  refine .sr<|.yw (.eql Z Z)<|.aq Z<|.ce Z (λh74=>?_) (λh74=>?_)
  ·have hk:o.kd=7:=aS.1 (by show o.kd.toNat=7;omega);have hk5:o.kd≠5:=by rw [hk];decide
   have hv1:1<=x1.1.length:=by have:=W1.vs;dsimp only at this;rw [this];exact Nat.le_add_left _ _
   obtain ⟨vs,bd⟩:=x1;try dsimp only at hv1 hn2
   obtain ⟨v,V,rfl⟩:=BQ hv1;obtain ⟨yr,t0,t1,t2,e4,VS1,V1⟩:=VR.inv S1.vls;try dsimp only at e4
   subst e4;have l1:=VS1.len;try dsimp only [List.length_cons] at hn2
   refine .sm Z<|.cs (X:=Nat × Nat) wP Z (λW s=>wM K1 hq V1.one V1.e.nm (by omega) l1 (s.pickT (hd:=[_,_,_,_]) (tl:=(AR++bs)) (hd':=[_,_,_,_]) [1,3,0,2] Z Z)) Z λp1 _=>?_
   obtain ⟨q1,q2,ef,FR⟩:=HM V1;rw [ef];refine .bl Z (AO _ _ _ _ _ _ _) Z λb78=>?_;refine Sx.freezeBoxN λH2 u2 m2=>?_;refine .fA Z dK<|.fA Z hI<|.st oV Z Z CV Z (nb Z) Z<|.nt<|.rg<|.mv Z<|.fA Z dK<|.yw (.loadS (vs:=[_,_,_,_,_,_,_]) Z cQ nL Z (aT0 Z))<|.yw (.build Z (iT _ _ _ _ _ _ _))<|?_
   have FO:=(Ops.inv2 S1.ops hk5).2;have VN:VlR H2 (fmv (o.f.wAr [v.fm])) (.slice none 0 0) s1 (.slice (some ⟨b78,0,none⟩) 1 1):=⟨ExR.zero rfl (aR _),⟨FO.ex.up u2.up,(Rep.mk m2 (.single (FR.up u2.up).rep rfl) rfl (bK _) (by decide)),FO.nm,FO.fd⟩⟩;exact .cs (X:=Option Addr × Nat) fT Z (λW s=>mJ (K1.up u2.up) hq VN.one (by omega) (s.pickT (hd:=[_,_,_,_]) (tl:=(AR++bs)) (hd':=[_,_,_,_]) [0,1,2,3] Z Z)) Z λp9 _=>.nl<|.bN<|.bN<|.tN<|.ag (x:=((H1,Value.slice (some ⟨g,0,none⟩) (o::r).length c,rv1,xr++oC o s1 s2,yr++vC v t0 t1 t2),o::r,(v::V,bd))) (((H2,Value.slice (some ⟨g,0,none⟩) r.length c,Value.slice p9.1 (V.length+1) p9.2,xr,yr++vC (fmv (o.f.wAr [v.fm])) (.slice none 0 0) s1 (.slice (some ⟨b78,0,none⟩) 1 1)),r,(fmv (o.f.wAr [v.fm])::V,bd || v.noF))) trivial ⟨rfl,rfl,trivial⟩ (λ_ s=>(s.pickT (hd:=[_,_,_,_]) (tl:=(AR++bs)) (hd':=[_,_,_]) [0,3,1] Z Z)) ⟨u1.trans u2,⟨(Ops.inv2 S1.ops hk5).1.up u2.up,.cons (VS1.up u2.up) VN⟩,(by rw [<-bC1 hk];exact FF W1 h0),(by rw [<-bC1 hk,<-e1,BF,aO hle])⟩ (dA _)
  have hk7:¬ o.kd=7:=λe=>by rw [e] at h74;exact h74 rfl
  refine .sr<|.yw (.eql Z Z)<|.aq Z<|.cd Z (λh86=>?_) (λh86=>?_)
  ·try simp only [dt] at h86
   have hk:o.kd=6:=aS.1 (by show o.kd.toNat=6;omega);have hk5:o.kd≠5:=by rw [hk];decide
   have hv1:2<=x1.1.length:=by have:=W1.vs;dsimp only at this;rw [this,sD,show cnO o=true by unfold cnO;rw [hk];decide];simp only [aY];omega
   obtain ⟨vs,bd⟩:=x1;try dsimp only at hv1 hn2
   obtain ⟨v,u,V,rfl⟩:=aW8 hv1;obtain ⟨yr,t0,t1,t2,e4,VS1,V1⟩:=VR.inv S1.vls;try dsimp only at e4
   subst e4;have l1:=VS1.len;obtain ⟨yr2,w0_,w1,w2,e5,VS2,V2⟩:=VR.inv VS1;subst e5;have l2:=VS2.len;try dsimp only [List.length_cons] at hn2 l1
   refine .sm Z<|.cs (X:=Nat × Nat) wP Z (λW s=>wM K1 hq V1.one V1.e.nm (by omega) l1 (s.pickT (hd:=[_,_,_,_]) (tl:=(AR++bs)) (hd':=[_,_,_,_]) [1,3,0,2] Z Z)) Z λp1 _=>?_
   obtain ⟨q1,q2,ef,FR⟩:=HM V1;rw [ef];refine .mv Z<|.cs (X:=Nat × Nat) wP Z (λW s=>wM K1 hq V2.one V2.e.nm (by omega) l2 (s.pickT (hd:=[_,_,_,_]) (tl:=(AR++bs)) (hd':=[_,_,_,_]) [0,1,2,3] Z Z)) Z λp2 _=>?_
   obtain ⟨q3,q4,ef2,FR2⟩:=HM V2;rw [ef2];refine .al fV Z λb9=>.al fV Z λb10=>.sW mD Z Z dM (by intro a ha;exact Rep.one FR.rep a ha) Z<|.sW .head Z Z dM (by intro a ha;exact Rep.one FR2.rep a ha) Z<|.ns<|.yw (.loadW Z cQ Hm Z)<|.yw (.loadW Z cQ dC Z)<|.bl Z (ZT _ _ _ _ _ _ _ _ _ _ _ _ _ _) Z λb94=>?_
   refine Sx.freezeBoxN λH2 u2 m2=>?_;refine .fA Z dK<|.fA Z hI<|.st XE Z Z CV Z (nb Z) Z<|.nt<|.rg<|.mv Z<|.fA Z dK<|.yw (.loadS (vs:=[_,_,_,_,_,_,_]) Z cQ vT Z (aT0 Z))<|.yw (.build Z (iT _ _ _ _ _ _ _))<|?_
   have FO:=(Ops.inv2 S1.ops hk5).2;have VN:VlR H2 (fmv (o.f.wAr [u.fm,v.fm])) (.slice none 0 0) s1 (.slice (some ⟨b94,0,none⟩) 2 2):=⟨ExR.zero rfl (aR _),⟨FO.ex.up u2.up,(Rep.mk m2 (.app (.single (FR2.up u2.up).rep rfl) (.single (FR.up u2.up).rep rfl)) rfl (bK _) (by decide)),FO.nm,FO.fd⟩⟩;exact .cs (X:=Option Addr × Nat) fT Z (λW s=>mJ (K1.up u2.up) hq VN.one (by omega) (s.pickT (hd:=[_,_,_,_,_,_]) (tl:=(AR++bs)) (hd':=[_,_,_,_,_,_]) [2,3,0,1,4,5] Z Z)) Z λp9 _=>.nl<|.bN<|.bN<|.tN<|.ag (x:=((H1,Value.slice (some ⟨g,0,none⟩) (o::r).length c,rv1,xr++oC o s1 s2,(yr2++vC u w0_ w1 w2)++vC v t0 t1 t2),o::r,(v::u::V,bd))) (((H2,Value.slice (some ⟨g,0,none⟩) r.length c,Value.slice p9.1 (V.length+1) p9.2,xr,yr2++vC (fmv (o.f.wAr [u.fm,v.fm])) (.slice none 0 0) s1 (.slice (some ⟨b94,0,none⟩) 2 2)),r,(fmv (o.f.wAr [u.fm,v.fm])::V,bd || v.noF || u.noF))) trivial ⟨rfl,rfl,trivial⟩ (λ_ s=>(s.pickT (hd:=[_,_,_,_,_,_]) (tl:=(AR++bs)) (hd':=[_,_,_]) [0,5,1] Z Z)) ⟨u1.trans u2,⟨(Ops.inv2 S1.ops hk5).1.up u2.up,.cons (VS2.up u2.up) VN⟩,(by rw [<-bC2 hk];exact FF W1 h0),(by rw [<-bC2 hk,<-e1,BF,aO hle])⟩ (dA _)
  exact absurd ((aV6 (by obtain ⟨r1,e7,hr1⟩:=W1.op;cases r1 with | nil=>(injection e7 with e7 _;subst e7;exact absurd h0 (by decide)) | cons a r1=>(injection e7 with e7 _;subst e7;exact hr1 _ (bD ..)))).2 h0) (by rintro (e | e | e | e | e) <;> first | exact hk10 e | exact hk9 e | exact hk8 e | exact hk7 e | exact (aP h86) (by rw [e];rfl))
 have e6:qG lv ⟨q,op,x,true,dn⟩=⟨q,o::r,x1,true,dn⟩:=by unfold qG;dsimp only;rw [<-e1,BF,aG (show ¬ lv<=o.lv by omega)]
 refine .ex<|.tE<|.tE<|.bE<|?_
 refine jE (.inr Z) rfl .nil rfl λW s=>?_;rw [e6];exact ⟨(H1,_,rv1,_,xv1,AR),⟨u1,S1⟩,Z,s.pickT (hd:=[_,_,_]) (tl:=(AR++bs)) (hd':=[_,_,_]) [0,1,2] rfl rfl⟩
def cE1 (w0:World) (bs:List Res) (b:Nat) (l:Tks) (tp:Option Addr) (tc:Nat) (H:Hp) (v:Value) (q:Ps) (e:Ending) (W:World):Prop :=
 ∃ z:Hp × Value × Value × List Value × List Value × List Res,(HUp w0 H z.1/\Sq z.1 q z.2.2.2.1 z.2.2.2.2.1 z.2.2.2.2.2)/\e=.returned v/\StP z.1 w0 bs W b l tp tc q z.2.1 z.2.2.1 z.2.2.2.1 z.2.2.2.2.1 z.2.2.2.2.2
theorem Ops.tm {op:List Ov} (h:Ops H op xo AR) (hn:op≠[]):∃ k1,op.length=k1+1/\xo[k1 * 11+2]? = some (.bool (op.headD bO).tm):=by
 cases op with
 | nil=>exact absurd rfl hn
 | cons o r =>
  obtain ⟨xr,s1,s2,e,hl,_⟩:=h.top;subst e;exact ⟨r.length,Z,kF hl rfl⟩
set_option maxHeartbeats 1000000 in
theorem aU9 {l:Tks} {op:List Ov} {x:Vb} {dn:Bool} (K:Tkf H l tp tc) (Wq:Fwf l ⟨q,op,x,false,dn⟩) (S:Sq H ⟨q,op,x,false,dn⟩ xo xv AR) (s:St H w0 (.box b [.slice tp l.length tc,iN q.i,ro,rv,.bool false,.bool dn,.bool x.2,iN q.off,iN q.er] 102::.row 97 11 (ro) (op.length) (xo)::.row 179 13 (rv) (x.1.length) (xv)::(AR++bs)) W) :
 Calls prg 106 #[.pointer (some ⟨b,0,none⟩)] W (cE1 w0 bs b l tp tc H (.bool (mT l ⟨q,op,x,false,dn⟩).isSome) ((mT l ⟨q,op,x,false,dn⟩).getD ⟨q,op,x,false,dn⟩)):=by
 have hq:q.i<l.length:=Wq.i;have hne:op≠[]:=Wq.ne;obtain ⟨hn1,hn2⟩:=oU Wq K.few;dsimp only at hn1 hn2;have hcap:=K.rep.cap;refine kE func106 rfl ntmps106 rfl s ?_;refine .sr<|.a Z Z<|.ns<|.al fV Z λb3=>.nt<|.sq<|.bk<|.sm Z<|.cs (X:=Unit) dG Z (λW s=>eI K hq [110,111,116] (s.pickT (hd:=[_,_,_,_]) (tl:=(AR++bs)) (hd':=[_,_,_,_]) [1,0,2,3] Z Z)) Z λ_ _=>.aq Z<|.cd Z (λh4=>?_) (λh4=>?_)
 ·have a4:Rq.ac l [110,111,116] q=true:=h4;rw [kT a4];refine .rg<|.yw (.build Z (pF _))<|.sX mD Z Z dM Z<|.nl<|.bN<|.tN<|.sm Z<|.yw (.loadW Z cQ dC Z)<|.yw (.build Z (jM _ _ _ _ _ _ _ _ _))<|.cs (X:=Option Addr × Nat) fY Z (λW s=>mO K (dB K.gd.last hq a4) (by simp [Value.oneCell',cH]) (bH hn1 (by decide)) (λ_=>S.ops.tm hne) (s.pickT (hd:=[_,_,_,_]) (tl:=(AR++bs)) (hd':=[_,_,_,_]) [0,2,1,3] Z Z)) Z λp9 _=>.ns<|.az Z<|?_
  refine y9 Z Z λW s=>?_;rw [CL (q:=⟨q,op,x,false,dn⟩) (op:=8) a4 (by decide)];exact ⟨(_,_,_,_,_,AR),⟨.refl,⟨.cons S.ops (by show ¬ (7:UInt8)=5;decide) (FmR.zero rfl rfl (aR _) (aR _)),S.vls⟩⟩,Z,s.pickT (hd:=[_,_,_,_]) (tl:=(AR++bs)) (hd':=[_,_,_]) [0,1,3] rfl rfl⟩
 have a4:Rq.ac l [110,111,116] q=false:=h4;rw [lH a4];refine .sm Z<|.cs (X:=Unit) dG Z (λW s=>eI K hq [112,114,101,118,105,111,117,115] (s.pickT (hd:=[_,_,_,_]) (tl:=(AR++bs)) (hd':=[_,_,_,_]) [0,1,2,3] Z Z)) Z λ_ _=>.aq Z<|.cd Z (λh8=>?_) (λh8=>?_)
 ·have a8:Rq.ac l [112,114,101,118,105,111,117,115] q=true:=h8;rw [kT a8];refine .rg<|.yw (.build Z (pF _))<|.sX mD Z Z dM Z<|.nl<|.bN<|.tN<|.sm Z<|.yw (.loadW Z cQ dC Z)<|.yw (.build Z (jM _ _ _ _ _ _ _ _ _))<|.cs (X:=Option Addr × Nat) fY Z (λW s=>mO K (dB K.gd.last hq a8) (by simp [Value.oneCell',cH]) (bH hn1 (by decide)) (λ_=>S.ops.tm hne) (s.pickT (hd:=[_,_,_,_]) (tl:=(AR++bs)) (hd':=[_,_,_,_]) [0,2,1,3] Z Z)) Z λp9 _=>.ns<|.az Z<|?_
  refine y9 Z Z λW s=>?_;rw [CL (q:=⟨q,op,x,false,dn⟩) (op:=12) a8 (by decide)];exact ⟨(_,_,_,_,_,AR),⟨.refl,⟨.cons S.ops (by show ¬ (7:UInt8)=5;decide) (FmR.zero rfl rfl (aR _) (aR _)),S.vls⟩⟩,Z,s.pickT (hd:=[_,_,_,_]) (tl:=(AR++bs)) (hd':=[_,_,_]) [0,1,3] rfl rfl⟩
 have a8:Rq.ac l [112,114,101,118,105,111,117,115] q=false:=h8;rw [lH a8];refine .sm Z<|.cs (X:=Unit) dG Z (λW s=>eI K hq [111,110,99,101] (s.pickT (hd:=[_,_,_,_]) (tl:=(AR++bs)) (hd':=[_,_,_,_]) [0,1,2,3] Z Z)) Z λ_ _=>.aq Z<|.cd Z (λh12=>?_) (λh12=>?_)
 ·have a12:Rq.ac l [111,110,99,101] q=true:=h12;rw [kT a12];refine .rg<|.mv Z<|.cs (X:=Unit) EU Z (λW s=>KO K (dB K.gd.last hq a12) 13 (s.pickT (hd:=[_,_,_,_]) (tl:=(AR++bs)) (hd':=[_,_,_,_]) [0,1,2,3] Z Z)) Z λ_ _=>.sX mD Z Z dM Z<|.nl<|.bN<|.tN<|.sm Z<|.yw (.loadW Z cQ dC Z)<|.yw (.build Z (jM _ _ _ _ _ _ _ _ _))<|.cs (X:=Option Addr × Nat) fY Z (λW s=>mO K (KQ K.gd.last (dB K.gd.last hq a12)) (by simp [Value.oneCell',cH]) (bH hn1 (by decide)) (λ_=>S.ops.tm hne) (s.pickT (hd:=[_,_,_,_]) (tl:=(AR++bs)) (hd':=[_,_,_,_]) [0,2,1,3] Z Z)) Z λp9 _=>.ns<|.az Z<|?_
  refine y9 Z Z λW s=>?_;rw [CL (q:=⟨q,op,x,false,dn⟩) (op:=13) a12 (by decide)];exact ⟨(_,_,_,_,_,AR),⟨.refl,⟨.cons S.ops (by show ¬ (7:UInt8)=5;decide) (FmR.zero rfl rfl (aR _) (aR _)),S.vls⟩⟩,Z,s.pickT (hd:=[_,_,_,_]) (tl:=(AR++bs)) (hd':=[_,_,_]) [0,1,3] rfl rfl⟩
 have a12:Rq.ac l [111,110,99,101] q=false:=h12;rw [lH a12];refine .sm Z<|.cs (X:=Unit) dG Z (λW s=>eI K hq [97,108,119,97,121,115] (s.pickT (hd:=[_,_,_,_]) (tl:=(AR++bs)) (hd':=[_,_,_,_]) [0,1,2,3] Z Z)) Z λ_ _=>.aq Z<|.cd Z (λh17=>?_) (λh17=>?_)
 ·have a17:Rq.ac l [97,108,119,97,121,115] q=true:=h17;rw [kT a17];refine .rg<|.mv Z<|.cs (X:=Unit) EU Z (λW s=>KO K (dB K.gd.last hq a17) 14 (s.pickT (hd:=[_,_,_,_]) (tl:=(AR++bs)) (hd':=[_,_,_,_]) [0,1,2,3] Z Z)) Z λ_ _=>.sX mD Z Z dM Z<|.nl<|.bN<|.tN<|.sm Z<|.yw (.loadW Z cQ dC Z)<|.yw (.build Z (jM _ _ _ _ _ _ _ _ _))<|.cs (X:=Option Addr × Nat) fY Z (λW s=>mO K (KQ K.gd.last (dB K.gd.last hq a17)) (by simp [Value.oneCell',cH]) (bH hn1 (by decide)) (λ_=>S.ops.tm hne) (s.pickT (hd:=[_,_,_,_]) (tl:=(AR++bs)) (hd':=[_,_,_,_]) [0,2,1,3] Z Z)) Z λp9 _=>.ns<|.az Z<|?_
  refine y9 Z Z λW s=>?_;rw [CL (q:=⟨q,op,x,false,dn⟩) (op:=14) a17 (by decide)];exact ⟨(_,_,_,_,_,AR),⟨.refl,⟨.cons S.ops (by show ¬ (7:UInt8)=5;decide) (FmR.zero rfl rfl (aR _) (aR _)),S.vls⟩⟩,Z,s.pickT (hd:=[_,_,_,_]) (tl:=(AR++bs)) (hd':=[_,_,_]) [0,1,3] rfl rfl⟩
 have a17:Rq.ac l [97,108,119,97,121,115] q=false:=h17;rw [lH a17];refine .sm Z<|.cs (X:=Unit) dG Z (λW s=>eI K hq [102,111,114,97,108,108] (s.pickT (hd:=[_,_,_,_]) (tl:=(AR++bs)) (hd':=[_,_,_,_]) [0,1,2,3] Z Z)) Z λ_ _=>.aq Z<|.cd Z (λh22=>?_) (λh22=>?_)
 ·have a22:Rq.ac l [102,111,114,97,108,108] q=true:=h22;rw [kT a22];refine .rg<|.mv Z<|.cs (X:=Unit) ET Z (λW s=>TB K (dB K.gd.last hq a22) 16 (s.pickT (hd:=[_,_,_,_]) (tl:=(AR++bs)) (hd':=[_,_,_,_]) [0,1,2,3] Z Z)) Z λ_ _=>.sX mD Z Z dM Z<|.nl<|.bN<|.tN<|.sm Z<|.yw (.loadW Z cQ dC Z)<|.yw (.build Z (jM _ _ _ _ _ _ _ _ _))<|.cs (X:=Option Addr × Nat) fY Z (λW s=>mO K (KR K.gd.last (dB K.gd.last hq a22)) (by simp [Value.oneCell',cH]) (bH hn1 (by decide)) (λ_=>S.ops.tm hne) (s.pickT (hd:=[_,_,_,_]) (tl:=(AR++bs)) (hd':=[_,_,_,_]) [0,2,1,3] Z Z)) Z λp9 _=>.ns<|.az Z<|?_
  refine y9 Z Z λW s=>?_;rw [CL (q:=⟨q,op,x,false,dn⟩) (op:=16) a22 (by decide)];exact ⟨(_,_,_,_,_,AR),⟨.refl,⟨.cons S.ops (by show ¬ (7:UInt8)=5;decide) (FmR.zero rfl rfl (bH (gH K (dB K.gd.last hq a22)) (by decide)) (aR _)),S.vls⟩⟩,Z,s.pickT (hd:=[_,_,_,_]) (tl:=(AR++bs)) (hd':=[_,_,_]) [0,1,3] rfl rfl⟩
 have a22:Rq.ac l [102,111,114,97,108,108] q=false:=h22;rw [lH a22];refine .sm Z<|.cs (X:=Unit) dG Z (λW s=>eI K hq [101,120,105,115,116,115] (s.pickT (hd:=[_,_,_,_]) (tl:=(AR++bs)) (hd':=[_,_,_,_]) [0,1,2,3] Z Z)) Z λ_ _=>.aq Z<|.cd Z (λh27=>?_) (λh27=>?_)
 ·have a27:Rq.ac l [101,120,105,115,116,115] q=true:=h27;rw [kT a27];refine .rg<|.mv Z<|.cs (X:=Unit) ET Z (λW s=>TB K (dB K.gd.last hq a27) 17 (s.pickT (hd:=[_,_,_,_]) (tl:=(AR++bs)) (hd':=[_,_,_,_]) [0,1,2,3] Z Z)) Z λ_ _=>.sX mD Z Z dM Z<|.nl<|.bN<|.tN<|.sm Z<|.yw (.loadW Z cQ dC Z)<|.yw (.build Z (jM _ _ _ _ _ _ _ _ _))<|.cs (X:=Option Addr × Nat) fY Z (λW s=>mO K (KR K.gd.last (dB K.gd.last hq a27)) (by simp [Value.oneCell',cH]) (bH hn1 (by decide)) (λ_=>S.ops.tm hne) (s.pickT (hd:=[_,_,_,_]) (tl:=(AR++bs)) (hd':=[_,_,_,_]) [0,2,1,3] Z Z)) Z λp9 _=>.ns<|.az Z<|?_
  refine y9 Z Z λW s=>?_;rw [CL (q:=⟨q,op,x,false,dn⟩) (op:=17) a27 (by decide)];exact ⟨(_,_,_,_,_,AR),⟨.refl,⟨.cons S.ops (by show ¬ (7:UInt8)=5;decide) (FmR.zero rfl rfl (bH (gH K (dB K.gd.last hq a27)) (by decide)) (aR _)),S.vls⟩⟩,Z,s.pickT (hd:=[_,_,_,_]) (tl:=(AR++bs)) (hd':=[_,_,_]) [0,1,3] rfl rfl⟩
 have a27:Rq.ac l [101,120,105,115,116,115] q=false:=h27;rw [lH a27];refine .sm Z<|.cs (X:=Unit) dG Z (λW s=>eI K hq [99,111,117,110,116] (s.pickT (hd:=[_,_,_,_]) (tl:=(AR++bs)) (hd':=[_,_,_,_]) [0,1,2,3] Z Z)) Z λ_ _=>.aq Z<|.cd Z (λh32=>?_) (λh32=>?_)
 ·have a32:Rq.ac l [99,111,117,110,116] q=true:=h32;rw [kT a32];refine .sm Z<|.cs (X:=Unit) ET Z (λW s=>TB K (dB K.gd.last hq a32) 18 (s.pickT (hd:=[_,_,_,_]) (tl:=(AR++bs)) (hd':=[_,_,_,_]) [0,1,2,3] Z Z)) Z λ_ _=>.sX mD Z Z dM Z<|.ns<|.mv Z<|.cs (X:=Unit) nP Z (λW s=>sC K (KR K.gd.last (dB K.gd.last hq a32)) [40] (s.pickT (hd:=[_,_,_,_]) (tl:=(AR++bs)) (hd':=[_,_,_,_]) [0,1,2,3] Z Z)) Z λ_ _=>.ns<|.mv Z<|.yw (.loadW Z cQ dC Z)<|.yw (.build Z (TH _ _ _ _ _ _ _ _))<|.cs (X:=Option Addr × Nat) fY Z (λW s=>mO K (kQ K.gd.last (KR K.gd.last (dB K.gd.last hq a32))) (by simp [Value.oneCell',cH]) (bH hn1 (by decide)) (t':=false) (λh=>absurd h (Nat.lt_irrefl 0)) (s.pickT (hd:=[_,_,_,_]) (tl:=(AR++bs)) (hd':=[_,_,_,_]) [0,2,1,3] Z Z)) Z λp9 _=>.ns<|.az Z<|.bR<|.tR<|?_
  refine y9 Z Z λW s=>?_;rw [aV0 (q:=⟨q,op,x,false,dn⟩) a32];exact ⟨(_,_,_,_,_,AR),⟨.refl,⟨.cons S.ops (by show ¬ (3:UInt8)=5;decide) (FmR.zero rfl rfl (bH (gH K (dB K.gd.last hq a32)) (by decide)) (aR _)),S.vls⟩⟩,Z,s.pickT (hd:=[_,_,_,_]) (tl:=(AR++bs)) (hd':=[_,_,_]) [0,1,3] rfl rfl⟩
 have a32:Rq.ac l [99,111,117,110,116] q=false:=h32;rw [lH a32];refine .sr<|.az Z<|.bR<|.tR<|?_
 refine y9 Z Z λW s=>?_
 have e0:mT l ⟨q,op,x,false,dn⟩=none:=bG9 (λw op hp=>by
  simp only [RM,bV,jC,List.not_mem_nil,or_false] at hp;rcases hp with ⟨rfl,rfl⟩ | ⟨rfl,rfl⟩ | ⟨rfl,rfl⟩ | ⟨rfl,rfl⟩ | ⟨rfl,rfl⟩ | ⟨rfl,rfl⟩
  ·exact a4
  ·exact a8
  ·exact a12
  ·exact a17
  ·exact a22
  ·exact a27) a32
 rw [e0];exact ⟨(_,_,_,_,_,AR),⟨.refl,⟨S.ops,S.vls⟩⟩,Z,s.pickT (hd:=[_,_,_,_]) (tl:=(AR++bs)) (hd':=[_,_,_]) [0,2,3] rfl rfl⟩
theorem KU {l:Tks} {op:List Ov} {x:Vb} {dn:Bool} (K:Tkf H l tp tc) (Wq:Fwf l ⟨q,op,x,false,dn⟩) (S:Sq H ⟨q,op,x,false,dn⟩ xo xv AR) (s:St H w0 (.box b [.slice tp l.length tc,iN q.i,ro,rv,.bool false,.bool dn,.bool x.2,iN q.off,iN q.er] 102::.row 97 11 (ro) (op.length) (xo)::.row 179 13 (rv) (x.1.length) (xv)::(AR++bs)) W) :
 Calls prg 111 #[.pointer (some ⟨b,0,none⟩)] W (Get w0 bs b l tp tc H (BD l ⟨q,op,x,false,dn⟩)):=by
 have hq:q.i<l.length:=Wq.i;have hne:op≠[]:=Wq.ne;obtain ⟨hn1,hn2⟩:=oU Wq K.few;dsimp only at hn1 hn2;have hcap:=K.rep.cap;refine kE func111 rfl ntmps111 rfl s ?_;refine .sm Z<|.cs (X:=Unit) sL Z (λW s=>EI K hq  (s.pickT (hd:=[_,_,_]) (tl:=(AR++bs)) (hd':=[_,_,_]) [0,1,2] Z Z)) Z λ_ _=>.aq Z<|.sq<|.sm Z<|.cs (X:=Unit) dG Z (λW s=>eI K (kH K.gd.last hq) [46] (s.pickT (hd:=[_,_,_]) (tl:=(AR++bs)) (hd':=[_,_,_]) [0,1,2] Z Z)) Z λ_ _=>.nt<|.cd Z (λh6=>?_) (λh6=>?_)
 ·have a6:Rq.ac l [46] (Rq.nmS l q)=true:=h6;rw [kT a6];refine .sm Z<|.mv Z<|.cs (X:=Unit) sL Z (λW s=>EI K (dB K.gd.last (kH K.gd.last hq) a6)  (s.pickT (hd:=[_,_,_]) (tl:=(AR++bs)) (hd':=[_,_,_]) [0,1,2] Z Z)) Z λ_ _=>.yw (.app Z Z (by have h1:=gH K hq;have h2:=gH K (dB K.gd.last (kH K.gd.last hq) a6);simp only [aH,aI,aL];omega))<|.yw (.cast (.app Z Z (by have h1:=gH K hq;have h2:=gH K (dB K.gd.last (kH K.gd.last hq) a6);simp only [aH,aI,aL];omega)) (congrArg cH (aX _ _ _).symm))<|.a Z Z<|.ns<|.mv Z<|.cs (X:=Unit) dG Z (λW s=>eI K (kH K.gd.last (dB K.gd.last (kH K.gd.last hq) a6)) [91] (s.pickT (hd:=[_,_,_]) (tl:=(AR++bs)) (hd':=[_,_,_]) [0,1,2] Z Z)) Z λ_ _=>.nt<|.cd Z (λh13=>?_) (λh13=>?_)
  ·have a13:Rq.ac l [91] (Rq.nmS l (Rq.nmS l q).nx)=true:=h13;rw [kT a13];refine .sm Z<|.mv Z<|.yw (.build Z (ZW _))<|.yw (.build Z (IJ _ _ _ _ _ _ _ _ _ _))<|.cs (X:=Option Addr × Nat) fY Z (λW s=>mO K (dB K.gd.last (kH K.gd.last (dB K.gd.last (kH K.gd.last hq) a6)) a13) (by simp [Value.oneCell',cH]) (bH hn1 (by decide)) (t':=false) (λh=>absurd h (Nat.lt_irrefl 0)) (s.pickT (hd:=[_,_,_]) (tl:=(AR++bs)) (hd':=[_,_,_]) [0,1,2] Z Z)) Z λp9 _=>.nt<|.rt<|.tR<|?_
   refine y7 Z .nil rfl λW s=>?_;have e0:BD l ⟨q,op,x,false,dn⟩=jK ⟨4,0,true,6,.mk 0 (q.ful l) [] 0 0 [] []⟩ ((⟨q,op,x,false,dn⟩:Ps).at ((q.nmS l).nx.nmS l).nx):=by unfold BD;exact (aO a6).trans (aO a13)
   rw [e0];exact ⟨(_,_,_,_,_,AR),⟨.refl,⟨.cons S.ops (by show ¬ (4:UInt8)=5;decide) (FmR.zero rfl rfl (by have h1:=gH K hq;have h2:=gH K (dB K.gd.last (kH K.gd.last hq) a6);show (Rq.ful l q).length<=1000000;unfold Rq.ful;simp only [aH,aI,aL];omega) (aR _)),S.vls⟩⟩,Z,s.pickT (hd:=[_,_,_]) (tl:=(AR++bs)) (hd':=[_,_,_]) [0,1,2] rfl rfl⟩
  have a13:Rq.ac l [91] (Rq.nmS l (Rq.nmS l q).nx)=false:=h13;rw [lH a13];refine .sk<|.tN<|.rg<|.mv Z<|.mv Z<|.yw (.build Z (wI _ _))<|.yw (.build Z (jN _ _ _ _ _))<|.cs (X:=Option Addr × Nat) fT Z (λW s=>mJ K (kH K.gd.last (dB K.gd.last (kH K.gd.last hq) a6)) (by simp [Value.oneCell',cH]) hn2 (s.pickT (hd:=[_,_,_]) (tl:=(AR++bs)) (hd':=[_,_,_]) [0,2,1] Z Z)) Z λp9 _=>.nl<|?_
  refine jE (.inr Z) rfl .nil rfl λW s=>?_;have e0:BD l ⟨q,op,x,false,dn⟩=jZ (tmv (.mk 5 (q.ful l) 0 [])) ((⟨q,op,x,false,dn⟩:Ps).at ((q.nmS l).nx.nmS l)):=by unfold BD;exact (aO a6).trans (aG (by rw [a13];decide))
  rw [e0];exact ⟨(_,_,_,_,_,AR),⟨.refl,⟨S.ops,.cons S.vls ⟨ExR.zero rfl (by have h1:=gH K hq;have h2:=gH K (dB K.gd.last (kH K.gd.last hq) a6);show (Rq.ful l q).length<=1000000;unfold Rq.ful;simp only [aH,aI,aL];omega),FmR.zero rfl rfl (aR _) (aR _)⟩⟩⟩,Z,s.pickT (hd:=[_,_,_]) (tl:=(AR++bs)) (hd':=[_,_,_]) [0,2,1] rfl rfl⟩
 have a6:Rq.ac l [46] (Rq.nmS l q)=false:=h6;rw [lH a6];refine .sk<|.tN<|.rg<|.mv Z<|.mv Z<|.yw (.build Z (wI _ _))<|.yw (.build Z (jN _ _ _ _ _))<|.cs (X:=Option Addr × Nat) fT Z (λW s=>mJ K (kH K.gd.last hq) (by simp [Value.oneCell',cH]) hn2 (s.pickT (hd:=[_,_,_]) (tl:=(AR++bs)) (hd':=[_,_,_]) [0,2,1] Z Z)) Z λp9 _=>.nl<|?_
 refine jE (.inr Z) rfl .nil rfl λW s=>?_;have e0:BD l ⟨q,op,x,false,dn⟩=jZ (tmv (.mk 5 (q.nmV l) 0 [])) ((⟨q,op,x,false,dn⟩:Ps).at (q.nmS l)):=by unfold BD;exact aG (by rw [a6];decide)
 rw [e0];exact ⟨(_,_,_,_,_,AR),⟨.refl,⟨S.ops,.cons S.vls ⟨ExR.zero rfl (bH (gH K hq) (by decide)),FmR.zero rfl rfl (aR _) (aR _)⟩⟩⟩,Z,s.pickT (hd:=[_,_,_]) (tl:=(AR++bs)) (hd':=[_,_,_]) [0,2,1] rfl rfl⟩
theorem PV {l:Tks} {op:List Ov} {x:Vb} {dn:Bool} (K:Tkf H l tp tc) (Wq:Fwf l ⟨q,op,x,false,dn⟩) (S:Sq H ⟨q,op,x,false,dn⟩ xo xv AR) (s:St H w0 (.box b [.slice tp l.length tc,iN q.i,ro,rv,.bool false,.bool dn,.bool x.2,iN q.off,iN q.er] 102::.row 97 11 (ro) (op.length) (xo)::.row 179 13 (rv) (x.1.length) (xv)::(AR++bs)) W) :
 Calls prg 115 #[.pointer (some ⟨b,0,none⟩)] W (Get w0 bs b l tp tc H (DH l ⟨q,op,x,false,dn⟩)):=by
 have hq:q.i<l.length:=Wq.i;have hne:op≠[]:=Wq.ne;obtain ⟨hn1,hn2⟩:=oU Wq K.few;dsimp only at hn1 hn2;have hcap:=K.rep.cap;refine kE func115 rfl ntmps115 rfl s ?_;refine .sm Z<|.cs (X:=Unit) xJ Z (λW s=>LH K hq 7 (s.pickT (hd:=[_,_,_]) (tl:=(AR++bs)) (hd':=[_,_,_]) [0,1,2] Z Z)) Z λ_ _=>.al fV Z λb2=>.sX .head Z Z dM Z<|.ns<|.mv Z<|.cs (X:=Unit) nP Z (λW s=>sC K (yL K.gd.last hq) [40] (s.pickT (hd:=[_,_,_,_]) (tl:=(AR++bs)) (hd':=[_,_,_,_]) [1,0,2,3] Z Z)) Z λ_ _=>.nt<|.sq<|.sm Z<|.cs (X:=Unit) dG Z (λW s=>eI K (kQ K.gd.last (yL K.gd.last hq)) [41] (s.pickT (hd:=[_,_,_,_]) (tl:=(AR++bs)) (hd':=[_,_,_,_]) [0,1,2,3] Z Z)) Z λ_ _=>.nt<|.cd Z (λh8=>?_) (λh8=>?_)
 ·have a8:Rq.ac l [41] (Rq.exS l [40] (Rq.paS l q))=true:=h8;rw [kT a8];refine .sm Z<|.yw (.loadW Z cQ dC Z)<|.yw (.build Z (iT _ _ _ _ _ _ _))<|.cs (X:=Option Addr × Nat) fT Z (λW s=>mJ K (dB K.gd.last (kQ K.gd.last (yL K.gd.last hq)) a8) (by simp [Value.oneCell',cH]) hn2 (s.pickT (hd:=[_,_,_,_]) (tl:=(AR++bs)) (hd':=[_,_,_,_]) [0,3,1,2] Z Z)) Z λp9 _=>.nt<|.rt<|.tR<|?_
  refine y7 Z .nil rfl λW s=>?_;have e0:DH l ⟨q,op,x,false,dn⟩=jZ (fmv (q.paV l 7)) ((⟨q,op,x,false,dn⟩:Ps).at ((q.paS l).exS l [40]).nx):=by unfold DH;exact aO a8
  rw [e0];exact ⟨(_,_,_,_,_,AR),⟨.refl,⟨S.ops,.cons S.vls ⟨ExR.zero rfl (aR _),FmR.zero rfl rfl (bH (gH K hq) (by decide)) (bH (gH K (kQ K.gd.last (kH K.gd.last hq))) (by decide))⟩⟩⟩,Z,s.pickT (hd:=[_,_,_,_]) (tl:=(AR++bs)) (hd':=[_,_,_]) [0,3,1] rfl rfl⟩
 have a8:Rq.ac l [41] (Rq.exS l [40] (Rq.paS l q))=false:=h8;rw [lH a8];refine .sk<|.tN<|.rg<|.mv Z<|.yw (.loadW Z cQ dC Z)<|.yw (.build Z (xK _ _ _ _ _ _ _ _ _))<|.cs (X:=Option Addr × Nat) fY Z (λW s=>mO K (kQ K.gd.last (yL K.gd.last hq)) (by simp [Value.oneCell',cH]) (bH hn1 (by decide)) (t':=false) (λh=>absurd h (Nat.lt_irrefl 0)) (s.pickT (hd:=[_,_,_,_]) (tl:=(AR++bs)) (hd':=[_,_,_,_]) [0,2,1,3] Z Z)) Z λp9 _=>.nl<|?_
 refine Sx.row0 76 4 ?_;refine jE (.inr Z) rfl .nil rfl λW s=>?_;have e0:DH l ⟨q,op,x,false,dn⟩=jK ⟨5,0,true,0,q.paV l 7⟩ ((⟨q,op,x,false,dn⟩:Ps).at ((q.paS l).exS l [40])):=by unfold DH;exact aG (by show ¬ ((q.paS l).exS l [40]).ac l [41]=true;rw [a8];decide)
 rw [e0];exact ⟨(_,_,_,_,_,_),⟨.refl,⟨.arg S.ops rfl rfl (bH (gH K hq) (by decide)) (bH (gH K (kQ K.gd.last (kH K.gd.last hq))) (by decide)) eR.nil rfl,S.vls⟩⟩,Z,s.pickT (hd:=[_,_,_,_,_]) (tl:=(AR++bs)) (hd':=[_,_,_,_]) [1,2,4,0] rfl rfl⟩
theorem aC6 {l:Tks} {q:Ps} (hf:HL q=false\/mT l q=none) (hk:(fP q).kd=5) (ha:q.c.ac l [95]=true):eH l q=jZ ⟨true,true,zE,zF⟩ (q.at q.c.nx):=by
 have e:(if HL q then mT l q else none)=none:=by
  rcases hf with e | e
  ·rw [e];rfl
  ·rw [e];split <;> rfl
 unfold eH;rw [e];show yS l q=_;unfold yS;rw [aO ⟨hk,ha⟩]
set_option maxHeartbeats 4000000 in
theorem aI3 {l:Tks} {op:List Ov} {x:Vb} {dn:Bool} (K:Tkf H l tp tc) (Wq:Fwf l ⟨q,op,x,false,dn⟩) (S:Sq H ⟨q,op,x,false,dn⟩ xo xv AR) (s:St H w0 (.box b [.slice tp l.length tc,iN q.i,ro,rv,.bool false,.bool dn,.bool x.2,iN q.off,iN q.er] 102::.row 97 11 (ro) (op.length) (xo)::.row 179 13 (rv) (x.1.length) (xv)::(AR++bs)) W) :
 Calls prg 56 #[.pointer (some ⟨b,0,none⟩)] W (Get w0 bs b l tp tc H (eH l ⟨q,op,x,false,dn⟩)):=by
 have hq:q.i<l.length:=Wq.i;have hne:op≠[]:=Wq.ne;obtain ⟨hn1,hn2⟩:=oU Wq K.few;dsimp only at hn1 hn2;have hcap:=K.rep.cap;refine kE func56 rfl ntmps56 rfl s ?_;obtain ⟨o,r,rfl⟩:=BQ (l:=op) (by cases op with | nil=>exact absurd rfl hne | cons a t=>exact Nat.succ_pos _);dsimp only [List.length_cons] at hn1;obtain ⟨xr,s1,s2,e2,hlo,ho1,ho2⟩:=Ops.top S.ops;try dsimp only at e2
 subst e2;refine Sx.rowCase (size:=11) (r:=ro) (e:=97) dC (Nat.succ_pos _) λg c e hkc=>?_;subst e;refine .sm Z<|.cs (X:=Unit) sY Z (λW s=>xQ K hq  (s.pickT (hd:=[_,_,_]) (tl:=(AR++bs)) (hd':=[_,_,_]) [0,1,2] Z Z)) Z λ_ _=>.al xF Z λb2=>.sW .head Z Z xH (by simp [cTk,Value.oneCell',cH]) Z<|.nt<|.cu (X:=Bool) [(0,_),(2,_)] ⟨Z,Z,Jt⟩ (λz=>[(3,.bool z)]) (λz=>H) (λz=>(.box b2 (cTk .u8 (tkf l q.i)) 108::.box b [.slice tp l.length tc,iN q.i,(.slice (some ⟨g,0,none⟩) (o::r).length c),rv,.bool false,.bool dn,.bool x.2,iN q.off,iN q.er] 102::.row 97 11 ((.slice (some ⟨g,0,none⟩) (o::r).length c)) ((o::r).length) ((xr++oC o s1 s2))::.row 179 13 (rv) (x.1.length) (xv)::(AR++bs))) (λz=>z=HL ⟨q,o::r,x,false,dn⟩) ?_ λz hC=>?_
 ·
  refine .rg<|.mv Z<|.cs (X:=Unit) mK Z (λW s=>BI K hq (g:=g) (k:=r.length) (c:=c) (by omega) (s.pickT (hd:=[_,_,_,_]) (tl:=(AR++bs)) (hd':=[_,_,_,_]) [1,0,2,3] Z Z)) Z λ_ _=>.nC Z<|.fA Z tZ<|.yw (.loadR1 Z jO nL (kF hlo Z))<|.yw (.not Z)<|.mv Z<|.b2 (λh14=>?_) (λh14=>?_)
  ·exact .gy (.move Z)<|.gd Z Z<|.cs (X:=Unit) mK Z (λW s=>BI K hq (g:=g) (k:=r.length) (c:=c) (by omega) (s.pickT (hd:=[_,_,_,_]) (tl:=(AR++bs)) (hd':=[_,_,_,_]) [0,1,2,3] Z Z)) Z λ_ _=>.gy (.nilCheck Z)<|.gy (.fieldAddr Z pC)<|.gy (.loadR1 Z cC nL (kF hlo Z))<|.gy (.leq Z Z)<|.yw (.pickT Z Z)<|.aq Z<|.me _ ⟨Z,Jt⟩ ⟨Z,Z,Jt⟩ (λ_ s=>(s.pickT (hd:=[_,_,_,_]) (tl:=(AR++bs)) (hd':=[_,_,_,_]) [1,0,2,3] Z Z)) (by first | (show _=(!o.tm && decide (o.lv<=5));rw [h14,aA,aU,aD,aD];omega) | (show _=(!o.tm && decide (o.lv<=5));rw [h14,aB]))
  exact .gG<|.gG<|.gG<|.gG<|.gG<|.gG<|.yw (.pickF Z Z)<|.aq Z<|.me _ ⟨Z,Jt⟩ ⟨Z,Z,Jt⟩ (λ_ s=>(s.pickT (hd:=[_,_,_,_]) (tl:=(AR++bs)) (hd':=[_,_,_,_]) [1,0,2,3] Z Z)) (by first | (show _=(!o.tm && decide (o.lv<=5));rw [h14,aA,aU,aD,aD];omega) | (show _=(!o.tm && decide (o.lv<=5));rw [h14,aB]))
 have ef:=hC;refine .bk<|.sm Z<|.mv Z<|.b2 (λh26=>?_) (λh26=>?_)
 ·have hff:HL ⟨q,o::r,x,false,dn⟩=true:=by rw [<-ef];exact h26
  refine .gy (.move Z)<|.gd Z Z<|.cs (X:=Hp × Value × Value × List Value × List Value × List Res) ZP Z (λW s=>aU9 K Wq S (St.mid (a:=[_,_,_]) (d:=[_]) (s.pickT (hd:=[_,_,_,_]) (tl:=(AR++bs)) (hd':=[_,_,_,_]) [1,2,3,0] Z Z))) Z λz9 hz9=>?_
  obtain ⟨H1,ro,rv,xo,xv,AR⟩:=z9;obtain ⟨u1,S⟩:=hz9;dsimp only at u1 S|-;refine Sx.reSt (λW s=>St.mid (a:=[_,_,_]) (d:=AR) (c:=[_]) s) ?_;refine .yw (.pickT Z Z)<|.aq Z<|.cd Z (λh24=>?_) (λh24=>?_)
  ·obtain ⟨q9,hp⟩:=qE.1 h24;rw [hp] at S|-;dsimp only [Option.getD] at S|-;refine .sk<|.bN<|?_
   refine jE (.inr Z) rfl .nil rfl λW s=>?_;have e0:eH l ⟨q,o::r,x,false,dn⟩=q9:=by unfold eH;rw [hff,aO rfl,hp]
   rw [e0];exact ⟨(_,_,_,_,_,AR),⟨u1,⟨S.ops,S.vls⟩⟩,Z,s.pickT (hd:=[_,_,_,_]) (tl:=(AR++bs)) (hd':=[_,_,_]) [0,1,2] rfl rfl⟩
  have hp:mT l ⟨q,o::r,x,false,dn⟩=none:=by
   cases e:mT l ⟨q,o::r,x,false,dn⟩ with
   | none=>rfl
   | some x=>rw [e] at h24;cases h24
  rw [hp] at S|-;dsimp only [Option.getD] at S|-;have hff:HL ⟨q,o::r,x,false,dn⟩=false\/mT l ⟨q,o::r,x,false,dn⟩=none:=.inr hp;obtain ⟨xr,s1,s2,e2,hlo,ho1,ho2⟩:=Ops.top S.ops;try dsimp only at e2
  subst e2;refine Sx.rowCase (size:=11) (r:=ro) (e:=97) dC (Nat.succ_pos _) λg c e hkc=>?_;subst e;refine .cu (X:=Bool) [(0,_),(2,_)] ⟨Z,Z,Jt⟩ (λz=>[(30,.bool z)]) (λz=>H1) (λz=>(.box b2 (cTk .u8 (tkf l q.i)) 108::.box b [.slice tp l.length tc,iN ((if z then Rq.nx q else q).i),(.slice (some ⟨g,0,none⟩) (o::r).length c),rv,.bool false,.bool dn,.bool x.2,iN ((if z then Rq.nx q else q).off),iN ((if z then Rq.nx q else q).er)] 102::.row 97 11 ((.slice (some ⟨g,0,none⟩) (o::r).length c)) ((o::r).length) ((xr++oC o s1 s2))::.row 179 13 (rv) (x.1.length) (xv)::(AR++bs))) (λz=>z=(decide (o.kd=5) && Rq.ac l [95] q)) ?_ λz hC=>?_
  ·
   refine .rg<|.mv Z<|.cs (X:=Unit) mK Z (λW s=>BI (K.up u1.up) hq (g:=g) (k:=r.length) (c:=c) (by omega) (s.pickT (hd:=[_,_,_,_]) (tl:=(AR++bs)) (hd':=[_,_,_,_]) [0,1,2,3] Z Z)) Z λ_ _=>.nC Z<|.fA Z gJ<|.yw (.loadR1 Z mL dC (kF hlo Z))<|.yw (.eql Z Z)<|.mv Z<|.b2 (λh37=>?_) (λh37=>?_)
   ·have hk5:o.kd=5:=aS.1 (by have:=aJ h37;show o.kd.toNat=5;omega);exact .gy (.move Z)<|.gd Z Z<|.cs (X:=Unit) dG Z (λW s=>eI (K.up u1.up) hq [95] (s.pickT (hd:=[_,_,_,_]) (tl:=(AR++bs)) (hd':=[_,_,_,_]) [0,1,2,3] Z Z)) Z λ_ _=>.yw (.pickT Z Z)<|.aq Z<|.me _ ⟨Z,Jt⟩ ⟨Z,Z,Jt⟩ (λ_ s=>(s.pickT (hd:=[_,_,_,_]) (tl:=(AR++bs)) (hd':=[_,_,_,_]) [3,0,1,2] Z Z)) (by first | rw [aK hk5,aA] | (rw [aM hk5];rfl))
   have hk5:¬ o.kd=5:=λe=>aP h37 (by rw [e];rfl);exact .gG<|.gG<|.yw (.pickF Z Z)<|.aq Z<|.me _ ⟨Z,Jt⟩ ⟨Z,Z,Jt⟩ (λ_ s=>(s.pickT (hd:=[_,_,_,_]) (tl:=(AR++bs)) (hd':=[_,_,_,_]) [3,0,1,2] Z Z)) (by first | rw [aK hk5,aA] | (rw [aM hk5];rfl))
  have ez:=hC;refine .cd Z (λh30=>?_) (λh30=>?_)
  ·rw [h30] at ez;have ez2:=aF _ _ |>.mp ez.symm
   rw [aO h30];refine .rg<|.mv Z<|.yw (.build Z (EC _ _))<|.cs (X:=Option Addr × Nat) fT Z (λW s=>mJ (K.up u1.up) (dB K.gd.last hq ez2.2) (by simp [Value.oneCell',cH]) hn2 (s.pickT (hd:=[_,_,_,_]) (tl:=(AR++bs)) (hd':=[_,_,_,_]) [1,3,0,2] Z Z)) Z λp9 _=>.nl<|.bN<|?_
   refine jE (.inr Z) rfl .nil rfl λW s=>?_;have e0:eH l ⟨q,o::r,x,false,dn⟩=jZ ⟨true,true,zE,zF⟩ (((⟨q,o::r,x,false,dn⟩:Ps)).at q.nx):=aC6 hff (aJ ez2.1) ez2.2;rw [e0];exact ⟨(_,_,_,_,_,AR),⟨u1,⟨S.ops,.cons S.vls ⟨ExR.zero rfl (aR _),FmR.zero rfl rfl (aR _) (aR _)⟩⟩⟩,Z,s.pickT (hd:=[_,_,_,_]) (tl:=(AR++bs)) (hd':=[_,_,_]) [0,3,1] rfl rfl⟩
  rw [h30] at ez
  have hno:(fP (⟨q,o::r,x,false,dn⟩:Ps)).kd=5->Rq.ac l [95] q=false:=λe=>by
   have e3:(false:Bool)=(decide (o.kd=5) && Rq.ac l [95] q):=ez;rw [aK (show o.kd=5 from e),aA] at e3;exact e3.symm
  rw [aG (by rw [h30];decide)];refine .sm Z<|.cs (X:=Unit) dG Z (λW s=>eI (K.up u1.up) hq [45] (s.pickT (hd:=[_,_,_,_]) (tl:=(AR++bs)) (hd':=[_,_,_,_]) [1,0,2,3] Z Z)) Z λ_ _=>.aq Z<|.cd Z (λh44=>?_) (λh44=>?_)
  ·have a44:Rq.ac l [45] q=true:=h44;rw [kT a44];refine .rg<|.mv Z<|.yw (.build Z (GV _ _))<|.cs (X:=Option Addr × Nat) fY Z (λW s=>mO (K.up u1.up) (dB K.gd.last hq a44) (by simp [Value.oneCell',cH]) (bH hn1 (by decide)) (λ_=>S.ops.tm hne) (s.pickT (hd:=[_,_,_,_]) (tl:=(AR++bs)) (hd':=[_,_,_,_]) [0,2,1,3] Z Z)) Z λp9 _=>.nl<|.bN<|?_
   refine jE (.inr Z) rfl .nil rfl λW s=>?_;have e0:eH l ⟨q,o::r,x,false,dn⟩=jK ⟨10,9,false,0,zF⟩ (((⟨q,o::r,x,false,dn⟩:Ps)).at q.nx):=(lQ hff hno).trans (aB6 a44);rw [e0];exact ⟨(_,_,_,_,_,AR),⟨u1,⟨.cons S.ops (by show ¬ (10:UInt8)=5;decide) (FmR.zero rfl rfl (aR _) (aR _)),S.vls⟩⟩,Z,s.pickT (hd:=[_,_,_,_]) (tl:=(AR++bs)) (hd':=[_,_,_]) [0,1,3] rfl rfl⟩
  have a44:Rq.ac l [45] q=false:=h44;rw [lH a44];refine .sm Z<|.cs (X:=Unit) dG Z (λW s=>eI (K.up u1.up) hq [40] (s.pickT (hd:=[_,_,_,_]) (tl:=(AR++bs)) (hd':=[_,_,_,_]) [0,1,2,3] Z Z)) Z λ_ _=>.aq Z<|.cd Z (λh50=>?_) (λh50=>?_)
  ·have a50:Rq.ac l [40] q=true:=h50;rw [kT a50];refine .rg<|.mv Z<|.yw (.build Z (EZ _))<|.cs (X:=Option Addr × Nat) fY Z (λW s=>mO (K.up u1.up) (dB K.gd.last hq a50) (by simp [Value.oneCell',cH]) (bH hn1 (by decide)) (t':=false) (λh=>absurd h (Nat.lt_irrefl 0)) (s.pickT (hd:=[_,_,_,_]) (tl:=(AR++bs)) (hd':=[_,_,_,_]) [0,2,1,3] Z Z)) Z λp9 _=>.nl<|.bN<|?_
   refine jE (.inr Z) rfl .nil rfl λW s=>?_;have e0:eH l ⟨q,o::r,x,false,dn⟩=jK ⟨2,0,false,0,zF⟩ (((⟨q,o::r,x,false,dn⟩:Ps)).at q.nx):=(lQ hff hno).trans (aB2 a50);rw [e0];exact ⟨(_,_,_,_,_,AR),⟨u1,⟨.cons S.ops (by show ¬ (2:UInt8)=5;decide) (FmR.zero rfl rfl (aR _) (aR _)),S.vls⟩⟩,Z,s.pickT (hd:=[_,_,_,_]) (tl:=(AR++bs)) (hd':=[_,_,_]) [0,1,3] rfl rfl⟩
  have a50:Rq.ac l [40] q=false:=h50;rw [lH a50];refine .sr<|.fA Z jL<|.lD Z oM dC Z<|.yw (.eql Z Z)<|.aq Z<|.cd Z (λh56=>?_) (λh56=>?_)
  ·have hk3:(tkf l q.i).k=3:=aS.1 (by have:=aJ h56;show (tkf l q.i).k.toNat=3;omega);refine .rg<|.mv Z<|.mv Z<|.cs (X:=Unit) sM Z (λW s=>wX (K.up u1.up) hq  (s.pickT (hd:=[_,_,_,_]) (tl:=(AR++bs)) (hd':=[_,_,_,_]) [0,1,2,3] Z Z)) Z λ_ _=>.yw (.build Z (AS _ _))<|.yw (.build Z (jN _ _ _ _ _))<|.cs (X:=Option Addr × Nat) fT Z (λW s=>mJ (K.up u1.up) (xP K.gd.last hq) (by simp [Value.oneCell',cH]) hn2 (s.pickT (hd:=[_,_,_,_]) (tl:=(AR++bs)) (hd':=[_,_,_,_]) [0,3,1,2] Z Z)) Z λp9 _=>.nl<|.bN<|?_
   refine jE (.inr Z) rfl .nil rfl λW s=>?_;have e0:eH l ⟨q,o::r,x,false,dn⟩=jZ (tmv (.mk 1 [] (q.nbV l) [])) (((⟨q,o::r,x,false,dn⟩:Ps)).at (q.nbS l)):=(lQ hff hno).trans (aB3 hk3);rw [e0];exact ⟨(_,_,_,_,_,AR),⟨u1,⟨S.ops,.cons S.vls ⟨ExR.zero rfl (aR _),FmR.zero rfl rfl (aR _) (aR _)⟩⟩⟩,Z,s.pickT (hd:=[_,_,_,_]) (tl:=(AR++bs)) (hd':=[_,_,_]) [0,3,1] rfl rfl⟩
  have hk3:¬ (tkf l q.i).k=3:=λe=>aP h56 (by rw [e];rfl);refine .sr<|.fA Z jL<|.lD Z oM dC Z<|.yw (.eql Z Z)<|.aq Z<|.cd Z (λh66=>?_) (λh66=>?_)
  ·have hk1:(tkf l q.i).k=1:=aS.1 (by have:=aJ h66;show (tkf l q.i).k.toNat=1;omega);refine .rg<|.mv Z<|.cs (X:=Hp × Value × Value × List Value × List Value × List Res) ND Z (λW s=>KU (K.up u1.up) Wq S (St.mid (a:=[_,_,_]) (d:=[_]) (s.pickT (hd:=[_,_,_,_]) (tl:=(AR++bs)) (hd':=[_,_,_,_]) [0,2,3,1] Z Z))) Z λz9 hz9=>?_
   obtain ⟨H2,ro,rv,xo,xv,AR⟩:=z9;obtain ⟨u2,S⟩:=hz9;dsimp only at u2 S|-;refine Sx.reSt (λW s=>St.mid (a:=[_,_,_]) (d:=AR) (c:=[_]) s) ?_;refine .nl<|.bN<|?_
   refine jE (.inr Z) rfl .nil rfl λW s=>?_;have e0:eH l ⟨q,o::r,x,false,dn⟩=BD l ⟨q,o::r,x,false,dn⟩:=(lQ hff hno).trans (aB7 hk1);rw [e0];exact ⟨(_,_,_,_,_,AR),⟨(u1.trans u2),⟨S.ops,S.vls⟩⟩,Z,s.pickT (hd:=[_,_,_,_]) (tl:=(AR++bs)) (hd':=[_,_,_]) [0,1,2] rfl rfl⟩
  have hk1:¬ (tkf l q.i).k=1:=λe=>aP h66 (by rw [e];rfl);refine .sm Z<|.cs (X:=Unit) dG Z (λW s=>eI (K.up u1.up) hq [110,111,119] (s.pickT (hd:=[_,_,_,_]) (tl:=(AR++bs)) (hd':=[_,_,_,_]) [0,1,2,3] Z Z)) Z λ_ _=>.aq Z<|.cd Z (λh72=>?_) (λh72=>?_)
  ·have a72:Rq.ac l [110,111,119] q=true:=h72;rw [kT a72];refine .rg<|.mv Z<|.yw (.build Z (NM _))<|.yw (.build Z (jN _ _ _ _ _))<|.cs (X:=Option Addr × Nat) fT Z (λW s=>mJ (K.up u1.up) (dB K.gd.last hq a72) (by simp [Value.oneCell',cH]) hn2 (s.pickT (hd:=[_,_,_,_]) (tl:=(AR++bs)) (hd':=[_,_,_,_]) [0,3,1,2] Z Z)) Z λp9 _=>.nl<|.bN<|?_
   refine jE (.inr Z) rfl .nil rfl λW s=>?_;have e0:eH l ⟨q,o::r,x,false,dn⟩=jZ (tmv (.mk 4 [] 0 [])) (((⟨q,o::r,x,false,dn⟩:Ps)).at q.nx):=(lQ hff hno).trans (aB4 a72);rw [e0];exact ⟨(_,_,_,_,_,AR),⟨u1,⟨S.ops,.cons S.vls ⟨ExR.zero rfl (aR _),FmR.zero rfl rfl (aR _) (aR _)⟩⟩⟩,Z,s.pickT (hd:=[_,_,_,_]) (tl:=(AR++bs)) (hd':=[_,_,_]) [0,3,1] rfl rfl⟩
  have a72:Rq.ac l [110,111,119] q=false:=h72;rw [lH a72];refine .sm Z<|.cs (X:=Unit) dG Z (λW s=>eI (K.up u1.up) hq [115,105,122,101] (s.pickT (hd:=[_,_,_,_]) (tl:=(AR++bs)) (hd':=[_,_,_,_]) [0,1,2,3] Z Z)) Z λ_ _=>.aq Z<|.cd Z (λh79=>?_) (λh79=>?_)
  ·have a79:Rq.ac l [115,105,122,101] q=true:=h79;rw [kT a79];refine .sm Z<|.cs (X:=Unit) xJ Z (λW s=>LH (K.up u1.up) (dB K.gd.last hq a79) 0 (s.pickT (hd:=[_,_,_,_]) (tl:=(AR++bs)) (hd':=[_,_,_,_]) [0,1,2,3] Z Z)) Z λ_ _=>.al fV Z λb4=>.sX .head Z Z dM Z<|.nt<|.rg<|.mv Z<|.fA Z kJ<|.lD Z cP Hm Z<|.yw (.app Z Z (by have h1:=gH K (dB K.gd.last hq a79);have h2:=gH K (kQ K.gd.last (kH K.gd.last (dB K.gd.last hq a79)) (w:=[46]));show (Rq.nmV l q.nx).length+1<=_;omega))<|.fA Z kI<|.lD Z cP Hm Z<|.yw (.app Z Z (by have h1:=gH K (dB K.gd.last hq a79);have h2:=gH K (kQ K.gd.last (kH K.gd.last (dB K.gd.last hq a79)) (w:=[46]));simp only [aH,aI,aL];unfold Rq.paN Rq.paF;omega))<|.yw (.build Z (wI _ _))<|.yw (.build Z (jN _ _ _ _ _))<|.cs (X:=Option Addr × Nat) fT Z (λW s=>mJ (K.up u1.up) (yL K.gd.last (dB K.gd.last hq a79)) (by simp [Value.oneCell',cH]) hn2 (s.pickT (hd:=[_,_,_,_,_]) (tl:=(AR++bs)) (hd':=[_,_,_,_,_]) [1,4,0,2,3] Z Z)) Z λp9 _=>.nl<|.bN<|?_
   refine jE (.inr Z) rfl .nil rfl λW s=>?_;have e0:eH l ⟨q,o::r,x,false,dn⟩=jZ (tmv (.mk 8 (q.nx.paN l++[46]++q.nx.paF l) 0 [])) (((⟨q,o::r,x,false,dn⟩:Ps)).at (q.nx.paS l)):=(lQ hff hno).trans (aB1 a79);rw [e0];exact ⟨(_,_,_,_,_,AR),⟨u1,⟨S.ops,.cons S.vls ⟨ExR.zero rfl (by have h1:=gH K (dB K.gd.last hq a79);have h2:=gH K (kQ K.gd.last (kH K.gd.last (dB K.gd.last hq a79)) (w:=[46]));show (Rq.paN l q.nx++[46]++Rq.paF l q.nx).length<=1000000;unfold Rq.paN Rq.paF;simp only [aH,aI,aL];omega),FmR.zero rfl rfl (aR _) (aR _)⟩⟩⟩,Z,s.pickT (hd:=[_,_,_,_,_]) (tl:=(AR++bs)) (hd':=[_,_,_]) [0,4,1] rfl rfl⟩
  have a79:Rq.ac l [115,105,122,101] q=false:=h79;rw [lH a79];refine .sm Z<|.cs (X:=Unit) dG Z (λW s=>eI (K.up u1.up) hq [116,114,117,101] (s.pickT (hd:=[_,_,_,_]) (tl:=(AR++bs)) (hd':=[_,_,_,_]) [0,1,2,3] Z Z)) Z λ_ _=>.aq Z<|.cd Z (λh94=>?_) (λh94=>?_)
  ·have a94:Rq.ac l [116,114,117,101] q=true:=h94;rw [kT a94];refine .rg<|.mv Z<|.yw (.build Z (pF _))<|.yw (.build Z (iT _ _ _ _ _ _ _))<|.cs (X:=Option Addr × Nat) fT Z (λW s=>mJ (K.up u1.up) (dB K.gd.last hq a94) (by simp [Value.oneCell',cH]) hn2 (s.pickT (hd:=[_,_,_,_]) (tl:=(AR++bs)) (hd':=[_,_,_,_]) [0,3,1,2] Z Z)) Z λp9 _=>.nl<|.bN<|?_
   refine jE (.inr Z) rfl .nil rfl λW s=>?_;have e0:eH l ⟨q,o::r,x,false,dn⟩=jZ (fmv (.mk 1 [] [] 0 0 [] [])) (((⟨q,o::r,x,false,dn⟩:Ps)).at q.nx):=(lQ hff hno).trans (aB0 a94);rw [e0];exact ⟨(_,_,_,_,_,AR),⟨u1,⟨S.ops,.cons S.vls ⟨ExR.zero rfl (aR _),FmR.zero rfl rfl (aR _) (aR _)⟩⟩⟩,Z,s.pickT (hd:=[_,_,_,_]) (tl:=(AR++bs)) (hd':=[_,_,_]) [0,3,1] rfl rfl⟩
  have a94:Rq.ac l [116,114,117,101] q=false:=h94;rw [lH a94];refine .sm Z<|.cs (X:=Unit) dG Z (λW s=>eI (K.up u1.up) hq [102,97,108,115,101] (s.pickT (hd:=[_,_,_,_]) (tl:=(AR++bs)) (hd':=[_,_,_,_]) [0,1,2,3] Z Z)) Z λ_ _=>.aq Z<|.cd Z (λh101=>?_) (λh101=>?_)
  ·have a101:Rq.ac l [102,97,108,115,101] q=true:=h101;rw [kT a101];refine .rg<|.mv Z<|.yw (.build Z (pF _))<|.yw (.build Z (iT _ _ _ _ _ _ _))<|.cs (X:=Option Addr × Nat) fT Z (λW s=>mJ (K.up u1.up) (dB K.gd.last hq a101) (by simp [Value.oneCell',cH]) hn2 (s.pickT (hd:=[_,_,_,_]) (tl:=(AR++bs)) (hd':=[_,_,_,_]) [0,3,1,2] Z Z)) Z λp9 _=>.nl<|.bN<|?_
   refine jE (.inr Z) rfl .nil rfl λW s=>?_;have e0:eH l ⟨q,o::r,x,false,dn⟩=jZ (fmv (.mk 2 [] [] 0 0 [] [])) (((⟨q,o::r,x,false,dn⟩:Ps)).at q.nx):=(lQ hff hno).trans (aC0 a101);rw [e0];exact ⟨(_,_,_,_,_,AR),⟨u1,⟨S.ops,.cons S.vls ⟨ExR.zero rfl (aR _),FmR.zero rfl rfl (aR _) (aR _)⟩⟩⟩,Z,s.pickT (hd:=[_,_,_,_]) (tl:=(AR++bs)) (hd':=[_,_,_]) [0,3,1] rfl rfl⟩
  have a101:Rq.ac l [102,97,108,115,101] q=false:=h101;rw [lH a101];refine .sm Z<|.cs (X:=Unit) dG Z (λW s=>eI (K.up u1.up) hq [102,108,97,103] (s.pickT (hd:=[_,_,_,_]) (tl:=(AR++bs)) (hd':=[_,_,_,_]) [0,1,2,3] Z Z)) Z λ_ _=>.aq Z<|.cd Z (λh108=>?_) (λh108=>?_)
  ·have a108:Rq.ac l [102,108,97,103] q=true:=h108;rw [kT a108];refine .rg<|.mv Z<|.mv Z<|.cs (X:=Unit) sL Z (λW s=>EI (K.up u1.up) (dB K.gd.last hq a108)  (s.pickT (hd:=[_,_,_,_]) (tl:=(AR++bs)) (hd':=[_,_,_,_]) [0,1,2,3] Z Z)) Z λ_ _=>.yw (.build Z (wJ _ _))<|.yw (.build Z (iT _ _ _ _ _ _ _))<|.cs (X:=Option Addr × Nat) fT Z (λW s=>mJ (K.up u1.up) (kH K.gd.last (dB K.gd.last hq a108)) (by simp [Value.oneCell',cH]) hn2 (s.pickT (hd:=[_,_,_,_]) (tl:=(AR++bs)) (hd':=[_,_,_,_]) [0,3,1,2] Z Z)) Z λp9 _=>.nl<|.bN<|?_
   refine jE (.inr Z) rfl .nil rfl λW s=>?_;have e0:eH l ⟨q,o::r,x,false,dn⟩=jZ (fmv (.mk 6 (q.nx.nmV l) [] 0 0 [] [])) (((⟨q,o::r,x,false,dn⟩:Ps)).at (q.nx.nmS l)):=(lQ hff hno).trans (aB9 a108);rw [e0];exact ⟨(_,_,_,_,_,AR),⟨u1,⟨S.ops,.cons S.vls ⟨ExR.zero rfl (aR _),FmR.zero rfl rfl (bH (gH K (dB K.gd.last hq a108)) (by decide)) (aR _)⟩⟩⟩,Z,s.pickT (hd:=[_,_,_,_]) (tl:=(AR++bs)) (hd':=[_,_,_]) [0,3,1] rfl rfl⟩
  have a108:Rq.ac l [102,108,97,103] q=false:=h108;rw [lH a108];refine .sm Z<|.cs (X:=Unit) dG Z (λW s=>eI (K.up u1.up) hq [104,97,115] (s.pickT (hd:=[_,_,_,_]) (tl:=(AR++bs)) (hd':=[_,_,_,_]) [0,1,2,3] Z Z)) Z λ_ _=>.aq Z<|.cd Z (λh117=>?_) (λh117=>?_)
  ·have a117:Rq.ac l [104,97,115] q=true:=h117;rw [kT a117];refine .sm Z<|.cs (X:=Unit) xJ Z (λW s=>LH (K.up u1.up) (dB K.gd.last hq a117) 5 (s.pickT (hd:=[_,_,_,_]) (tl:=(AR++bs)) (hd':=[_,_,_,_]) [0,1,2,3] Z Z)) Z λ_ _=>.al fV Z λb5=>.sX .head Z Z dM Z<|.ns<|.mv Z<|.cs (X:=Unit) nP Z (λW s=>sC (K.up u1.up) (yL K.gd.last (dB K.gd.last hq a117)) [91] (s.pickT (hd:=[_,_,_,_,_]) (tl:=(AR++bs)) (hd':=[_,_,_,_,_]) [1,0,2,3,4] Z Z)) Z λ_ _=>.nt<|.rg<|.mv Z<|.yw (.loadW Z cQ dC Z)<|.yw (.build Z (xK _ _ _ _ _ _ _ _ _))<|.cs (X:=Option Addr × Nat) fY Z (λW s=>mO (K.up u1.up) (kQ K.gd.last (yL K.gd.last (dB K.gd.last hq a117))) (by simp [Value.oneCell',cH]) (bH hn1 (by decide)) (t':=false) (λh=>absurd h (Nat.lt_irrefl 0)) (s.pickT (hd:=[_,_,_,_,_]) (tl:=(AR++bs)) (hd':=[_,_,_,_,_]) [0,3,1,2,4] Z Z)) Z λp9 _=>.nl<|.bN<|?_
   refine jE (.inr Z) rfl .nil rfl λW s=>?_;have e0:eH l ⟨q,o::r,x,false,dn⟩=jK ⟨4,0,true,0,q.nx.paV l 5⟩ (((⟨q,o::r,x,false,dn⟩:Ps)).at ((q.nx.paS l).exS l [91])):=(lQ hff hno).trans (aB8 a117);rw [e0];exact ⟨(_,_,_,_,_,AR),⟨u1,⟨.cons S.ops (by show ¬ (4:UInt8)=5;decide) (FmR.zero rfl rfl (bH (gH K (dB K.gd.last hq a117)) (by decide)) (bH (gH K (kQ K.gd.last (kH K.gd.last (dB K.gd.last hq a117)))) (by decide))),S.vls⟩⟩,Z,s.pickT (hd:=[_,_,_,_,_]) (tl:=(AR++bs)) (hd':=[_,_,_]) [0,1,4] rfl rfl⟩
  have a117:Rq.ac l [104,97,115] q=false:=h117;rw [lH a117];refine .sm Z<|.cs (X:=Unit) dG Z (λW s=>eI (K.up u1.up) hq [97,114,114,105,118,101,115] (s.pickT (hd:=[_,_,_,_]) (tl:=(AR++bs)) (hd':=[_,_,_,_]) [0,1,2,3] Z Z)) Z λ_ _=>.aq Z<|.cd Z (λh128=>?_) (λh128=>?_)
  ·have a128:Rq.ac l [97,114,114,105,118,101,115] q=true:=h128;rw [kT a128];refine .rg<|.mv Z<|.cs (X:=Hp × Value × Value × List Value × List Value × List Res) NC Z (λW s=>PV (K.up u1.up) (KS (q:=⟨q,o::r,x,false,dn⟩) (c:=q.nx) Wq (dB K.gd.last hq a128) (Nat.le_succ _)) S.at (St.mid (a:=[_,_,_]) (d:=[_]) (s.pickT (hd:=[_,_,_,_]) (tl:=(AR++bs)) (hd':=[_,_,_,_]) [0,2,3,1] Z Z))) Z λz9 hz9=>?_
   obtain ⟨H2,ro,rv,xo,xv,AR⟩:=z9;obtain ⟨u2,S⟩:=hz9;dsimp only at u2 S|-;refine Sx.reSt (λW s=>St.mid (a:=[_,_,_]) (d:=AR) (c:=[_]) s) ?_;refine .nl<|.bN<|?_
   refine jE (.inr Z) rfl .nil rfl λW s=>?_;have e0:eH l ⟨q,o::r,x,false,dn⟩=DH l (((⟨q,o::r,x,false,dn⟩:Ps)).at q.nx):=(lQ hff hno).trans (aC1 a128);rw [e0];exact ⟨(_,_,_,_,_,AR),⟨(u1.trans u2),⟨S.ops,S.vls⟩⟩,Z,s.pickT (hd:=[_,_,_,_]) (tl:=(AR++bs)) (hd':=[_,_,_]) [0,1,2] rfl rfl⟩
  have a128:Rq.ac l [97,114,114,105,118,101,115] q=false:=h128;rw [lH a128];refine .rg<|.mv Z<|.cs (X:=Unit) iS Z (λW s=>qN (K.up u1.up) hq 8 (s.pickT (hd:=[_,_,_,_]) (tl:=(AR++bs)) (hd':=[_,_,_,_]) [0,1,2,3] Z Z)) Z λ_ _=>.nl<|.bN<|?_
  refine jE (.inr Z) rfl .nil rfl λW s=>?_
  have e0:eH l ⟨q,o::r,x,false,dn⟩=(((⟨q,o::r,x,false,dn⟩:Ps)).at (q.fail l 8)):=(lQ hff hno).trans (aB5 a44 hk3 hk1 (λw hw=>by
   simp only [aU8,bV,List.not_mem_nil,or_false] at hw;rcases hw with rfl | rfl | rfl | rfl | rfl | rfl | rfl | rfl
   ·exact a72
   ·exact a94
   ·exact a101
   ·exact a108
   ·exact a117
   ·exact a128
   ·exact a79
   ·exact a50))
  rw [e0];exact ⟨(_,_,_,_,_,AR),⟨u1,⟨S.ops,S.vls⟩⟩,Z,s.pickT (hd:=[_,_,_,_]) (tl:=(AR++bs)) (hd':=[_,_,_]) [0,2,3] rfl rfl⟩
 have hff:HL ⟨q,o::r,x,false,dn⟩=false\/mT l ⟨q,o::r,x,false,dn⟩=none:=.inl (by rw [<-ef];exact h26);refine .gG<|.gG<|.yw (.pickF Z Z)<|.aq Z<|.cF Z<|.cu (X:=Bool) [(0,_),(2,_)] ⟨Z,Z,Jt⟩ (λz=>[(30,.bool z)]) (λz=>H) (λz=>(.box b2 (cTk .u8 (tkf l q.i)) 108::.box b [.slice tp l.length tc,iN ((if z then Rq.nx q else q).i),(.slice (some ⟨g,0,none⟩) (o::r).length c),rv,.bool false,.bool dn,.bool x.2,iN ((if z then Rq.nx q else q).off),iN ((if z then Rq.nx q else q).er)] 102::.row 97 11 ((.slice (some ⟨g,0,none⟩) (o::r).length c)) ((o::r).length) ((xr++oC o s1 s2))::.row 179 13 (rv) (x.1.length) (xv)::(AR++bs))) (λz=>z=(decide (o.kd=5) && Rq.ac l [95] q)) ?_ λz hC=>?_
 ·
  refine .rg<|.mv Z<|.cs (X:=Unit) mK Z (λW s=>BI K hq (g:=g) (k:=r.length) (c:=c) (by omega) (s.pickT (hd:=[_,_,_,_]) (tl:=(AR++bs)) (hd':=[_,_,_,_]) [1,0,2,3] Z Z)) Z λ_ _=>.nC Z<|.fA Z gJ<|.yw (.loadR1 Z mL nL (kF hlo Z))<|.yw (.eql Z Z)<|.mv Z<|.b2 (λh37=>?_) (λh37=>?_)
  ·have hk5:o.kd=5:=aS.1 (by have:=aJ h37;show o.kd.toNat=5;omega);exact .gy (.move Z)<|.gd Z Z<|.cs (X:=Unit) dG Z (λW s=>eI K hq [95] (s.pickT (hd:=[_,_,_,_]) (tl:=(AR++bs)) (hd':=[_,_,_,_]) [0,1,2,3] Z Z)) Z λ_ _=>.yw (.pickT Z Z)<|.aq Z<|.me _ ⟨Z,Jt⟩ ⟨Z,Z,Jt⟩ (λ_ s=>(s.pickT (hd:=[_,_,_,_]) (tl:=(AR++bs)) (hd':=[_,_,_,_]) [1,0,2,3] Z Z)) (by first | rw [aK hk5,aA] | (rw [aM hk5];rfl))
  have hk5:¬ o.kd=5:=λe=>aP h37 (by rw [e];rfl);exact .gG<|.gG<|.yw (.pickF Z Z)<|.aq Z<|.me _ ⟨Z,Jt⟩ ⟨Z,Z,Jt⟩ (λ_ s=>(s.pickT (hd:=[_,_,_,_]) (tl:=(AR++bs)) (hd':=[_,_,_,_]) [1,0,2,3] Z Z)) (by first | rw [aK hk5,aA] | (rw [aM hk5];rfl))
 have ez:=hC;refine .cd Z (λh30=>?_) (λh30=>?_)
 ·rw [h30] at ez;have ez2:=aF _ _ |>.mp ez.symm
  rw [aO h30];refine .rg<|.mv Z<|.yw (.build Z (EC _ _))<|.cs (X:=Option Addr × Nat) fT Z (λW s=>mJ K (dB K.gd.last hq ez2.2) (by simp [Value.oneCell',cH]) hn2 (s.pickT (hd:=[_,_,_,_]) (tl:=(AR++bs)) (hd':=[_,_,_,_]) [1,3,0,2] Z Z)) Z λp9 _=>.nl<|.bN<|?_
  refine jE (.inr Z) rfl .nil rfl λW s=>?_;have e0:eH l ⟨q,o::r,x,false,dn⟩=jZ ⟨true,true,zE,zF⟩ (((⟨q,o::r,x,false,dn⟩:Ps)).at q.nx):=aC6 hff (aJ ez2.1) ez2.2;rw [e0];exact ⟨(_,_,_,_,_,AR),⟨.refl,⟨S.ops,.cons S.vls ⟨ExR.zero rfl (aR _),FmR.zero rfl rfl (aR _) (aR _)⟩⟩⟩,Z,s.pickT (hd:=[_,_,_,_]) (tl:=(AR++bs)) (hd':=[_,_,_]) [0,3,1] rfl rfl⟩
 rw [h30] at ez
 have hno:(fP (⟨q,o::r,x,false,dn⟩:Ps)).kd=5->Rq.ac l [95] q=false:=λe=>by
  have e3:(false:Bool)=(decide (o.kd=5) && Rq.ac l [95] q):=ez;rw [aK (show o.kd=5 from e),aA] at e3;exact e3.symm
 rw [aG (by rw [h30];decide)];refine .sm Z<|.cs (X:=Unit) dG Z (λW s=>eI K hq [45] (s.pickT (hd:=[_,_,_,_]) (tl:=(AR++bs)) (hd':=[_,_,_,_]) [1,0,2,3] Z Z)) Z λ_ _=>.aq Z<|.cd Z (λh44=>?_) (λh44=>?_)
 ·have a44:Rq.ac l [45] q=true:=h44;rw [kT a44];refine .rg<|.mv Z<|.yw (.build Z (GV _ _))<|.cs (X:=Option Addr × Nat) fY Z (λW s=>mO K (dB K.gd.last hq a44) (by simp [Value.oneCell',cH]) (bH hn1 (by decide)) (λ_=>S.ops.tm hne) (s.pickT (hd:=[_,_,_,_]) (tl:=(AR++bs)) (hd':=[_,_,_,_]) [0,2,1,3] Z Z)) Z λp9 _=>.nl<|.bN<|?_
  refine jE (.inr Z) rfl .nil rfl λW s=>?_;have e0:eH l ⟨q,o::r,x,false,dn⟩=jK ⟨10,9,false,0,zF⟩ (((⟨q,o::r,x,false,dn⟩:Ps)).at q.nx):=(lQ hff hno).trans (aB6 a44);rw [e0];exact ⟨(_,_,_,_,_,AR),⟨.refl,⟨.cons S.ops (by show ¬ (10:UInt8)=5;decide) (FmR.zero rfl rfl (aR _) (aR _)),S.vls⟩⟩,Z,s.pickT (hd:=[_,_,_,_]) (tl:=(AR++bs)) (hd':=[_,_,_]) [0,1,3] rfl rfl⟩
 have a44:Rq.ac l [45] q=false:=h44;rw [lH a44];refine .sm Z<|.cs (X:=Unit) dG Z (λW s=>eI K hq [40] (s.pickT (hd:=[_,_,_,_]) (tl:=(AR++bs)) (hd':=[_,_,_,_]) [0,1,2,3] Z Z)) Z λ_ _=>.aq Z<|.cd Z (λh50=>?_) (λh50=>?_)
 ·have a50:Rq.ac l [40] q=true:=h50;rw [kT a50];refine .rg<|.mv Z<|.yw (.build Z (EZ _))<|.cs (X:=Option Addr × Nat) fY Z (λW s=>mO K (dB K.gd.last hq a50) (by simp [Value.oneCell',cH]) (bH hn1 (by decide)) (t':=false) (λh=>absurd h (Nat.lt_irrefl 0)) (s.pickT (hd:=[_,_,_,_]) (tl:=(AR++bs)) (hd':=[_,_,_,_]) [0,2,1,3] Z Z)) Z λp9 _=>.nl<|.bN<|?_
  refine jE (.inr Z) rfl .nil rfl λW s=>?_;have e0:eH l ⟨q,o::r,x,false,dn⟩=jK ⟨2,0,false,0,zF⟩ (((⟨q,o::r,x,false,dn⟩:Ps)).at q.nx):=(lQ hff hno).trans (aB2 a50);rw [e0];exact ⟨(_,_,_,_,_,AR),⟨.refl,⟨.cons S.ops (by show ¬ (2:UInt8)=5;decide) (FmR.zero rfl rfl (aR _) (aR _)),S.vls⟩⟩,Z,s.pickT (hd:=[_,_,_,_]) (tl:=(AR++bs)) (hd':=[_,_,_]) [0,1,3] rfl rfl⟩
 have a50:Rq.ac l [40] q=false:=h50;rw [lH a50];refine .sr<|.fA Z jL<|.lD Z oM dC Z<|.yw (.eql Z Z)<|.aq Z<|.cd Z (λh56=>?_) (λh56=>?_)
 ·have hk3:(tkf l q.i).k=3:=aS.1 (by have:=aJ h56;show (tkf l q.i).k.toNat=3;omega);refine .rg<|.mv Z<|.mv Z<|.cs (X:=Unit) sM Z (λW s=>wX K hq  (s.pickT (hd:=[_,_,_,_]) (tl:=(AR++bs)) (hd':=[_,_,_,_]) [0,1,2,3] Z Z)) Z λ_ _=>.yw (.build Z (AS _ _))<|.yw (.build Z (jN _ _ _ _ _))<|.cs (X:=Option Addr × Nat) fT Z (λW s=>mJ K (xP K.gd.last hq) (by simp [Value.oneCell',cH]) hn2 (s.pickT (hd:=[_,_,_,_]) (tl:=(AR++bs)) (hd':=[_,_,_,_]) [0,3,1,2] Z Z)) Z λp9 _=>.nl<|.bN<|?_
  refine jE (.inr Z) rfl .nil rfl λW s=>?_;have e0:eH l ⟨q,o::r,x,false,dn⟩=jZ (tmv (.mk 1 [] (q.nbV l) [])) (((⟨q,o::r,x,false,dn⟩:Ps)).at (q.nbS l)):=(lQ hff hno).trans (aB3 hk3);rw [e0];exact ⟨(_,_,_,_,_,AR),⟨.refl,⟨S.ops,.cons S.vls ⟨ExR.zero rfl (aR _),FmR.zero rfl rfl (aR _) (aR _)⟩⟩⟩,Z,s.pickT (hd:=[_,_,_,_]) (tl:=(AR++bs)) (hd':=[_,_,_]) [0,3,1] rfl rfl⟩
 have hk3:¬ (tkf l q.i).k=3:=λe=>aP h56 (by rw [e];rfl);refine .sr<|.fA Z jL<|.lD Z oM dC Z<|.yw (.eql Z Z)<|.aq Z<|.cd Z (λh66=>?_) (λh66=>?_)
 ·have hk1:(tkf l q.i).k=1:=aS.1 (by have:=aJ h66;show (tkf l q.i).k.toNat=1;omega);refine .rg<|.mv Z<|.cs (X:=Hp × Value × Value × List Value × List Value × List Res) ND Z (λW s=>KU K Wq S (St.mid (a:=[_,_,_]) (d:=[_]) (s.pickT (hd:=[_,_,_,_]) (tl:=(AR++bs)) (hd':=[_,_,_,_]) [0,2,3,1] Z Z))) Z λz9 hz9=>?_
  obtain ⟨H1,ro,rv,xo,xv,AR⟩:=z9;obtain ⟨u1,S⟩:=hz9;dsimp only at u1 S|-;refine Sx.reSt (λW s=>St.mid (a:=[_,_,_]) (d:=AR) (c:=[_]) s) ?_;refine .nl<|.bN<|?_
  refine jE (.inr Z) rfl .nil rfl λW s=>?_;have e0:eH l ⟨q,o::r,x,false,dn⟩=BD l ⟨q,o::r,x,false,dn⟩:=(lQ hff hno).trans (aB7 hk1);rw [e0];exact ⟨(_,_,_,_,_,AR),⟨u1,⟨S.ops,S.vls⟩⟩,Z,s.pickT (hd:=[_,_,_,_]) (tl:=(AR++bs)) (hd':=[_,_,_]) [0,1,2] rfl rfl⟩
 have hk1:¬ (tkf l q.i).k=1:=λe=>aP h66 (by rw [e];rfl);refine .sm Z<|.cs (X:=Unit) dG Z (λW s=>eI K hq [110,111,119] (s.pickT (hd:=[_,_,_,_]) (tl:=(AR++bs)) (hd':=[_,_,_,_]) [0,1,2,3] Z Z)) Z λ_ _=>.aq Z<|.cd Z (λh72=>?_) (λh72=>?_)
 ·have a72:Rq.ac l [110,111,119] q=true:=h72;rw [kT a72];refine .rg<|.mv Z<|.yw (.build Z (NM _))<|.yw (.build Z (jN _ _ _ _ _))<|.cs (X:=Option Addr × Nat) fT Z (λW s=>mJ K (dB K.gd.last hq a72) (by simp [Value.oneCell',cH]) hn2 (s.pickT (hd:=[_,_,_,_]) (tl:=(AR++bs)) (hd':=[_,_,_,_]) [0,3,1,2] Z Z)) Z λp9 _=>.nl<|.bN<|?_
  refine jE (.inr Z) rfl .nil rfl λW s=>?_;have e0:eH l ⟨q,o::r,x,false,dn⟩=jZ (tmv (.mk 4 [] 0 [])) (((⟨q,o::r,x,false,dn⟩:Ps)).at q.nx):=(lQ hff hno).trans (aB4 a72);rw [e0];exact ⟨(_,_,_,_,_,AR),⟨.refl,⟨S.ops,.cons S.vls ⟨ExR.zero rfl (aR _),FmR.zero rfl rfl (aR _) (aR _)⟩⟩⟩,Z,s.pickT (hd:=[_,_,_,_]) (tl:=(AR++bs)) (hd':=[_,_,_]) [0,3,1] rfl rfl⟩
 have a72:Rq.ac l [110,111,119] q=false:=h72;rw [lH a72];refine .sm Z<|.cs (X:=Unit) dG Z (λW s=>eI K hq [115,105,122,101] (s.pickT (hd:=[_,_,_,_]) (tl:=(AR++bs)) (hd':=[_,_,_,_]) [0,1,2,3] Z Z)) Z λ_ _=>.aq Z<|.cd Z (λh79=>?_) (λh79=>?_)
 ·have a79:Rq.ac l [115,105,122,101] q=true:=h79;rw [kT a79];refine .sm Z<|.cs (X:=Unit) xJ Z (λW s=>LH K (dB K.gd.last hq a79) 0 (s.pickT (hd:=[_,_,_,_]) (tl:=(AR++bs)) (hd':=[_,_,_,_]) [0,1,2,3] Z Z)) Z λ_ _=>.al fV Z λb4=>.sX .head Z Z dM Z<|.nt<|.rg<|.mv Z<|.fA Z kJ<|.lD Z cP Hm Z<|.yw (.app Z Z (by have h1:=gH K (dB K.gd.last hq a79);have h2:=gH K (kQ K.gd.last (kH K.gd.last (dB K.gd.last hq a79)) (w:=[46]));show (Rq.nmV l q.nx).length+1<=_;omega))<|.fA Z kI<|.lD Z cP Hm Z<|.yw (.app Z Z (by have h1:=gH K (dB K.gd.last hq a79);have h2:=gH K (kQ K.gd.last (kH K.gd.last (dB K.gd.last hq a79)) (w:=[46]));simp only [aH,aI,aL];unfold Rq.paN Rq.paF;omega))<|.yw (.build Z (wI _ _))<|.yw (.build Z (jN _ _ _ _ _))<|.cs (X:=Option Addr × Nat) fT Z (λW s=>mJ K (yL K.gd.last (dB K.gd.last hq a79)) (by simp [Value.oneCell',cH]) hn2 (s.pickT (hd:=[_,_,_,_,_]) (tl:=(AR++bs)) (hd':=[_,_,_,_,_]) [1,4,0,2,3] Z Z)) Z λp9 _=>.nl<|.bN<|?_
  refine jE (.inr Z) rfl .nil rfl λW s=>?_;have e0:eH l ⟨q,o::r,x,false,dn⟩=jZ (tmv (.mk 8 (q.nx.paN l++[46]++q.nx.paF l) 0 [])) (((⟨q,o::r,x,false,dn⟩:Ps)).at (q.nx.paS l)):=(lQ hff hno).trans (aB1 a79);rw [e0];exact ⟨(_,_,_,_,_,AR),⟨.refl,⟨S.ops,.cons S.vls ⟨ExR.zero rfl (by have h1:=gH K (dB K.gd.last hq a79);have h2:=gH K (kQ K.gd.last (kH K.gd.last (dB K.gd.last hq a79)) (w:=[46]));show (Rq.paN l q.nx++[46]++Rq.paF l q.nx).length<=1000000;unfold Rq.paN Rq.paF;simp only [aH,aI,aL];omega),FmR.zero rfl rfl (aR _) (aR _)⟩⟩⟩,Z,s.pickT (hd:=[_,_,_,_,_]) (tl:=(AR++bs)) (hd':=[_,_,_]) [0,4,1] rfl rfl⟩
 have a79:Rq.ac l [115,105,122,101] q=false:=h79;rw [lH a79];refine .sm Z<|.cs (X:=Unit) dG Z (λW s=>eI K hq [116,114,117,101] (s.pickT (hd:=[_,_,_,_]) (tl:=(AR++bs)) (hd':=[_,_,_,_]) [0,1,2,3] Z Z)) Z λ_ _=>.aq Z<|.cd Z (λh94=>?_) (λh94=>?_)
 ·have a94:Rq.ac l [116,114,117,101] q=true:=h94;rw [kT a94];refine .rg<|.mv Z<|.yw (.build Z (pF _))<|.yw (.build Z (iT _ _ _ _ _ _ _))<|.cs (X:=Option Addr × Nat) fT Z (λW s=>mJ K (dB K.gd.last hq a94) (by simp [Value.oneCell',cH]) hn2 (s.pickT (hd:=[_,_,_,_]) (tl:=(AR++bs)) (hd':=[_,_,_,_]) [0,3,1,2] Z Z)) Z λp9 _=>.nl<|.bN<|?_
  refine jE (.inr Z) rfl .nil rfl λW s=>?_;have e0:eH l ⟨q,o::r,x,false,dn⟩=jZ (fmv (.mk 1 [] [] 0 0 [] [])) (((⟨q,o::r,x,false,dn⟩:Ps)).at q.nx):=(lQ hff hno).trans (aB0 a94);rw [e0];exact ⟨(_,_,_,_,_,AR),⟨.refl,⟨S.ops,.cons S.vls ⟨ExR.zero rfl (aR _),FmR.zero rfl rfl (aR _) (aR _)⟩⟩⟩,Z,s.pickT (hd:=[_,_,_,_]) (tl:=(AR++bs)) (hd':=[_,_,_]) [0,3,1] rfl rfl⟩
 have a94:Rq.ac l [116,114,117,101] q=false:=h94;rw [lH a94];refine .sm Z<|.cs (X:=Unit) dG Z (λW s=>eI K hq [102,97,108,115,101] (s.pickT (hd:=[_,_,_,_]) (tl:=(AR++bs)) (hd':=[_,_,_,_]) [0,1,2,3] Z Z)) Z λ_ _=>.aq Z<|.cd Z (λh101=>?_) (λh101=>?_)
 ·have a101:Rq.ac l [102,97,108,115,101] q=true:=h101;rw [kT a101];refine .rg<|.mv Z<|.yw (.build Z (pF _))<|.yw (.build Z (iT _ _ _ _ _ _ _))<|.cs (X:=Option Addr × Nat) fT Z (λW s=>mJ K (dB K.gd.last hq a101) (by simp [Value.oneCell',cH]) hn2 (s.pickT (hd:=[_,_,_,_]) (tl:=(AR++bs)) (hd':=[_,_,_,_]) [0,3,1,2] Z Z)) Z λp9 _=>.nl<|.bN<|?_
  refine jE (.inr Z) rfl .nil rfl λW s=>?_;have e0:eH l ⟨q,o::r,x,false,dn⟩=jZ (fmv (.mk 2 [] [] 0 0 [] [])) (((⟨q,o::r,x,false,dn⟩:Ps)).at q.nx):=(lQ hff hno).trans (aC0 a101);rw [e0];exact ⟨(_,_,_,_,_,AR),⟨.refl,⟨S.ops,.cons S.vls ⟨ExR.zero rfl (aR _),FmR.zero rfl rfl (aR _) (aR _)⟩⟩⟩,Z,s.pickT (hd:=[_,_,_,_]) (tl:=(AR++bs)) (hd':=[_,_,_]) [0,3,1] rfl rfl⟩
 have a101:Rq.ac l [102,97,108,115,101] q=false:=h101;rw [lH a101];refine .sm Z<|.cs (X:=Unit) dG Z (λW s=>eI K hq [102,108,97,103] (s.pickT (hd:=[_,_,_,_]) (tl:=(AR++bs)) (hd':=[_,_,_,_]) [0,1,2,3] Z Z)) Z λ_ _=>.aq Z<|.cd Z (λh108=>?_) (λh108=>?_)
 ·have a108:Rq.ac l [102,108,97,103] q=true:=h108;rw [kT a108];refine .rg<|.mv Z<|.mv Z<|.cs (X:=Unit) sL Z (λW s=>EI K (dB K.gd.last hq a108)  (s.pickT (hd:=[_,_,_,_]) (tl:=(AR++bs)) (hd':=[_,_,_,_]) [0,1,2,3] Z Z)) Z λ_ _=>.yw (.build Z (wJ _ _))<|.yw (.build Z (iT _ _ _ _ _ _ _))<|.cs (X:=Option Addr × Nat) fT Z (λW s=>mJ K (kH K.gd.last (dB K.gd.last hq a108)) (by simp [Value.oneCell',cH]) hn2 (s.pickT (hd:=[_,_,_,_]) (tl:=(AR++bs)) (hd':=[_,_,_,_]) [0,3,1,2] Z Z)) Z λp9 _=>.nl<|.bN<|?_
  refine jE (.inr Z) rfl .nil rfl λW s=>?_;have e0:eH l ⟨q,o::r,x,false,dn⟩=jZ (fmv (.mk 6 (q.nx.nmV l) [] 0 0 [] [])) (((⟨q,o::r,x,false,dn⟩:Ps)).at (q.nx.nmS l)):=(lQ hff hno).trans (aB9 a108);rw [e0];exact ⟨(_,_,_,_,_,AR),⟨.refl,⟨S.ops,.cons S.vls ⟨ExR.zero rfl (aR _),FmR.zero rfl rfl (bH (gH K (dB K.gd.last hq a108)) (by decide)) (aR _)⟩⟩⟩,Z,s.pickT (hd:=[_,_,_,_]) (tl:=(AR++bs)) (hd':=[_,_,_]) [0,3,1] rfl rfl⟩
 have a108:Rq.ac l [102,108,97,103] q=false:=h108;rw [lH a108];refine .sm Z<|.cs (X:=Unit) dG Z (λW s=>eI K hq [104,97,115] (s.pickT (hd:=[_,_,_,_]) (tl:=(AR++bs)) (hd':=[_,_,_,_]) [0,1,2,3] Z Z)) Z λ_ _=>.aq Z<|.cd Z (λh117=>?_) (λh117=>?_)
 ·have a117:Rq.ac l [104,97,115] q=true:=h117;rw [kT a117];refine .sm Z<|.cs (X:=Unit) xJ Z (λW s=>LH K (dB K.gd.last hq a117) 5 (s.pickT (hd:=[_,_,_,_]) (tl:=(AR++bs)) (hd':=[_,_,_,_]) [0,1,2,3] Z Z)) Z λ_ _=>.al fV Z λb5=>.sX .head Z Z dM Z<|.ns<|.mv Z<|.cs (X:=Unit) nP Z (λW s=>sC K (yL K.gd.last (dB K.gd.last hq a117)) [91] (s.pickT (hd:=[_,_,_,_,_]) (tl:=(AR++bs)) (hd':=[_,_,_,_,_]) [1,0,2,3,4] Z Z)) Z λ_ _=>.nt<|.rg<|.mv Z<|.yw (.loadW Z cQ dC Z)<|.yw (.build Z (xK _ _ _ _ _ _ _ _ _))<|.cs (X:=Option Addr × Nat) fY Z (λW s=>mO K (kQ K.gd.last (yL K.gd.last (dB K.gd.last hq a117))) (by simp [Value.oneCell',cH]) (bH hn1 (by decide)) (t':=false) (λh=>absurd h (Nat.lt_irrefl 0)) (s.pickT (hd:=[_,_,_,_,_]) (tl:=(AR++bs)) (hd':=[_,_,_,_,_]) [0,3,1,2,4] Z Z)) Z λp9 _=>.nl<|.bN<|?_
  refine jE (.inr Z) rfl .nil rfl λW s=>?_;have e0:eH l ⟨q,o::r,x,false,dn⟩=jK ⟨4,0,true,0,q.nx.paV l 5⟩ (((⟨q,o::r,x,false,dn⟩:Ps)).at ((q.nx.paS l).exS l [91])):=(lQ hff hno).trans (aB8 a117);rw [e0];exact ⟨(_,_,_,_,_,AR),⟨.refl,⟨.cons S.ops (by show ¬ (4:UInt8)=5;decide) (FmR.zero rfl rfl (bH (gH K (dB K.gd.last hq a117)) (by decide)) (bH (gH K (kQ K.gd.last (kH K.gd.last (dB K.gd.last hq a117)))) (by decide))),S.vls⟩⟩,Z,s.pickT (hd:=[_,_,_,_,_]) (tl:=(AR++bs)) (hd':=[_,_,_]) [0,1,4] rfl rfl⟩
 have a117:Rq.ac l [104,97,115] q=false:=h117;rw [lH a117];refine .sm Z<|.cs (X:=Unit) dG Z (λW s=>eI K hq [97,114,114,105,118,101,115] (s.pickT (hd:=[_,_,_,_]) (tl:=(AR++bs)) (hd':=[_,_,_,_]) [0,1,2,3] Z Z)) Z λ_ _=>.aq Z<|.cd Z (λh128=>?_) (λh128=>?_)
 ·have a128:Rq.ac l [97,114,114,105,118,101,115] q=true:=h128;rw [kT a128];refine .rg<|.mv Z<|.cs (X:=Hp × Value × Value × List Value × List Value × List Res) NC Z (λW s=>PV K (KS (q:=⟨q,o::r,x,false,dn⟩) (c:=q.nx) Wq (dB K.gd.last hq a128) (Nat.le_succ _)) S.at (St.mid (a:=[_,_,_]) (d:=[_]) (s.pickT (hd:=[_,_,_,_]) (tl:=(AR++bs)) (hd':=[_,_,_,_]) [0,2,3,1] Z Z))) Z λz9 hz9=>?_
  obtain ⟨H1,ro,rv,xo,xv,AR⟩:=z9;obtain ⟨u1,S⟩:=hz9;dsimp only at u1 S|-;refine Sx.reSt (λW s=>St.mid (a:=[_,_,_]) (d:=AR) (c:=[_]) s) ?_;refine .nl<|.bN<|?_
  refine jE (.inr Z) rfl .nil rfl λW s=>?_;have e0:eH l ⟨q,o::r,x,false,dn⟩=DH l (((⟨q,o::r,x,false,dn⟩:Ps)).at q.nx):=(lQ hff hno).trans (aC1 a128);rw [e0];exact ⟨(_,_,_,_,_,AR),⟨u1,⟨S.ops,S.vls⟩⟩,Z,s.pickT (hd:=[_,_,_,_]) (tl:=(AR++bs)) (hd':=[_,_,_]) [0,1,2] rfl rfl⟩
 have a128:Rq.ac l [97,114,114,105,118,101,115] q=false:=h128;rw [lH a128];refine .rg<|.mv Z<|.cs (X:=Unit) iS Z (λW s=>qN K hq 8 (s.pickT (hd:=[_,_,_,_]) (tl:=(AR++bs)) (hd':=[_,_,_,_]) [0,1,2,3] Z Z)) Z λ_ _=>.nl<|.bN<|?_
 refine jE (.inr Z) rfl .nil rfl λW s=>?_
 have e0:eH l ⟨q,o::r,x,false,dn⟩=(((⟨q,o::r,x,false,dn⟩:Ps)).at (q.fail l 8)):=(lQ hff hno).trans (aB5 a44 hk3 hk1 (λw hw=>by
  simp only [aU8,bV,List.not_mem_nil,or_false] at hw;rcases hw with rfl | rfl | rfl | rfl | rfl | rfl | rfl | rfl
  ·exact a72
  ·exact a94
  ·exact a101
  ·exact a108
  ·exact a117
  ·exact a128
  ·exact a79
  ·exact a50))
 rw [e0];exact ⟨(_,_,_,_,_,AR),⟨.refl,⟨S.ops,S.vls⟩⟩,Z,s.pickT (hd:=[_,_,_,_]) (tl:=(AR++bs)) (hd':=[_,_,_]) [0,2,3] rfl rfl⟩
def SK:List Str:=[[],[116,114,117,101],[102,97,108,115,101],[],[],[104,97,115],[102,108,97,103],[97,114,114,105,118,101,115],[110,111,116],[97,110,100],[111,114],[105,109,112,108,105,101,115],[112,114,101,118,105,111,117,115],[111,110,99,101],[97,108,119,97,121,115],[115,105,110,99,101],[102,111,114,97,108,108],[101,120,105,115,116,115],[99,111,117,110,116]]
def uF (op:UInt8):Str:=SK.getD op.toNat []
def JI (op:UInt8):Str:=xB.getD op.toNat []
def tlv (op:UInt8):Nat:=if op=14\/op=15 then 4 else if op=11\/op=12\/op=13 then 5 else if op=9 then 6 else 7
def yF (b:Bool) (s:Str):Str:=if b then [40]++s++[41] else s
def aG8 (op:UInt8) (nm:Str) (n:Int64) (l:List (UInt8 × Str)):Str :=
 if op=1 then Lib.itoa n.toInt
 else if op=4 then [110,111,119]
 else if op=5 then nm
 else if op=6 then nm++[91]++(l.headD (0,[])).2++[93]
 else if op=8 then [115,105,122,101,32]++nm
 else if op=9 then [45]++yF (decide (tlv (l.headD (0,[])).1<6)) (l.headD (0,[])).2
 else if op=11\/op=12\/op=13\/op=14\/op=15 then
  yF (decide (tlv (l.headD (0,[])).1<tlv op)) (l.headD (0,[])).2++[32]++JI op++[32]++yF (decide (tlv ((l.drop 1).headD (0,[])).1<tlv op+1)) ((l.drop 1).headD (0,[])).2
 else [95]
mutual
def tmT:Ex->Str
 | .mk op nm n args=>aG8 op nm n (aS1 args)
def aS1:List Ex->List (UInt8 × Str)
 | []=>[]
 | e::r=>(e.op,tmT e)::aS1 r
end
def BH (f:Fm):Str:=if !(cS f.op).wn || decide (f.b.toInt<0) then [] else [91]++Lib.itoa f.a.toInt++[44,32]++Lib.itoa f.b.toInt++[93]
def MP (f:Fm):Str:=[32]++f.nm++[32,105,110,32]++Lib.itoa f.a.toInt++[46,46]++Lib.itoa f.b.toInt
def tF (sep:Str):List Str->Str
 | []=>[]
 | [x]=>x
 | x::r=>x++sep++tF sep r
def exH (f:Fm):Ex:=f.ex.headD zE
def ex0 (e:Ex):Ex:=e.args.headD zE
def ex1 (e:Ex):Ex:=(e.args.drop 1).headD zE
def MG (f:Fm) (l:List (UInt8 × Str)):Str :=
 if f.op=3 then tmT (ex0 (exH f))++[32]++JI (exH f).op++[32]++tmT (ex1 (exH f))
 else if f.op=4 then f.nm++[46]++f.fd
 else if f.op=5 then uF f.op++[32]++f.nm++[46]++f.fd++[91]++tmT (exH f)++[93]
 else if f.op=6 then uF f.op++[32]++f.nm
 else if f.op=7 then uF f.op++[32]++f.nm++[46]++f.fd++[40]++tF [44,32] (f.ex.map tmT)++[41]
 else if f.op=8\/f.op=12\/f.op=13\/f.op=14 then uF f.op++BH f++[32]++yF (decide ((cS (l.headD (0,[])).1).lv<5)) (l.headD (0,[])).2
 else if f.op=16\/f.op=17 then uF f.op++MP f++[32]++yF (decide ((cS (l.headD (0,[])).1).lv<5)) (l.headD (0,[])).2
 else if f.op=18 then uF f.op++MP f++[32,40]++(l.headD (0,[])).2++[41,32,62,61,32]++tmT (exH f)
 else if f.op=15\/f.op=9\/f.op=10\/f.op=11 then
  yF (decide ((cS (l.headD (0,[])).1).lv<(cS f.op).lv)) (l.headD (0,[])).2++[32]++uF f.op++BH f++[32]++yF (decide ((cS ((l.drop 1).headD (0,[])).1).lv<(cS f.op).lv+1)) ((l.drop 1).headD (0,[])).2
 else uF f.op
mutual
def fmT:Fm->Str
 | .mk op nm fd a b ex args=>MG (.mk op nm fd a b ex args) (aZ4 args)
def aZ4:List Fm->List (UInt8 × Str)
 | []=>[]
 | f::r=>(f.op,fmT f)::aZ4 r
end
def IR (f:Fm):Str:=if fO f=0 then fmT f else []
def fsC (s:Fs):List Value:=[.int .u8 (s.lv:Nat),.bool s.nm,.bool s.fd,.bool s.wn,.bool s.am,.int .u8 (s.ex:Nat),.int .u8 (s.ar:Nat)]
structure Gf (H:Hp):Prop where
 words:kU H 0 0 (SK.map cH)
 syms:kU H 1 0 (xB.map cH)
 shapes:kU H 2 0 (KD.flatMap fsC)
variable {H':Hp}
theorem Gf.up (g:Gf H) (u:Up H H'):Gf H':=⟨g.words.up u,g.syms.up u,g.shapes.up u⟩
theorem oY (H:Hp) (G:Gf H) (op:UInt8) (w:World) (hA:Agr H w):Calls prg 74 #[.int .u8 op.toNat] w λr w'=>r=.returned (.agg (fsC (cS op)).toArray)/\Ext w w':=by
 refine Sx.enter (H:=H) func74 rfl ntmps74 rfl hA ?_;refine .sr<|.al ES Z λb2=>.nt<|.sq<|.sm Z<|.yw (.conv Z lJ lT (c:=((op.toNat:Nat):Int)) (w64 (by have:=op.toNat_lt;omega) (by have:=op.toNat_lt;omega)))<|.yw (.geq Z Z)<|.nt<|.ce Z (λh5=>?_) (λh5=>?_)
 ·refine .sr<|.yw (.build Z aP3)<|.sX .head Z Z AI Z<|.nt<|.rt<|.tR<|?_
  refine y8 Z (.cell Z IL Hm rfl) λW s=>⟨?_,s.ext⟩
  first
   | (rw [show cS op=zFs from (by unfold cS;rw [List.getD_eq_getElem?_getD,List.getElem?_eq_none (by show 19<=op.toNat;omega)];rfl)];rfl)
   | rfl
 refine .sk<|.tN<|.sm Z<|.yw (.indexArr aP6 Z Z Z (by omega) (q:=op.toNat * 7) (by omega))<|.yw (.loadMS (k:=op.toNat * 7) (vs:=fsC (KD.getD op.toNat zFs)) Z IL G.shapes (by omega) Z (aE9 (f:=fsC) (z:=7) (l:=KD) (i:=op.toNat) (λ_=>rfl) _ (by show op.toNat<19;omega)))<|.sV .head Z Z AI Z (by simp [fsC,Value.oneCell',cH]) Z<|.nt<|.rt<|?_
 refine y8 Z (.cell Z IL Hm rfl) λW s=>⟨?_,s.ext⟩
 first
  | (rw [show cS op=zFs from (by unfold cS;rw [List.getD_eq_getElem?_getD,List.getElem?_eq_none (by show 19<=op.toNat;omega)];rfl)];rfl)
  | rfl
set_option maxHeartbeats 2000000 in
theorem aL8 {l:Tks} {op:List Ov} {x:Vb} {dn:Bool} (K:Tkf H l tp tc) (Wq:Fwf l ⟨q,op,x,true,dn⟩) (S:Sq H ⟨q,op,x,true,dn⟩ xo xv AR) (op8:UInt8) (hnx:q.nx.i<l.length) (s:St H w0 (.box b [.slice tp l.length tc,iN q.i,ro,rv,.bool true,.bool dn,.bool x.2,iN q.off,iN q.er] 102::.row 97 11 (ro) (op.length) (xo)::.row 179 13 (rv) (x.1.length) (xv)::(AR++bs)) W) :
 Calls prg 99 #[.pointer (some ⟨b,0,none⟩),.int .u8 op8.toNat] W (Get w0 bs b l tp tc H (uP l op8 ⟨q,op,x,true,dn⟩)):=by
 have hq:q.i<l.length:=Wq.i;have hnx2:q.i+1<l.length:=hnx;have hcap:=K.rep.cap;obtain ⟨hn1,hn2⟩:=oU Wq K.few;dsimp only at hn1 hn2;have hv1:1<=x.1.length:=by have:=Wq.vs;dsimp only at this;rw [this];exact Nat.le_add_left _ _
 obtain ⟨vs,bd⟩:=x;dsimp only at hv1 hn2;obtain ⟨v,V,rfl⟩:=BQ hv1;dsimp only [List.length_cons] at hn2;obtain ⟨yr,t0,t1,t2,e4,VS1,V1⟩:=VR.inv S.vls;try dsimp only at e4
 subst e4;have hlv:=VS1.len;refine kE func99 rfl ntmps99 rfl s ?_;refine Sx.rowCase (size:=13) (r:=rv) (e:=179) nL (Nat.succ_pos _) λg2 c2 e hkc2=>?_;subst e;try dsimp only [List.length_cons] at hkc2
 dsimp only [List.length_cons];refine .sm Z<|.yw (.build Z (NI _ _ _))<|.al PY Z λb4=>.sX .head Z Z QB Z<|.nt<|.sq<|.bk<|.sm Z<|.yw (.leq Z Z)<|.aq Z<|.cd Z (λh8=>?_) (λh8=>?_)
 ·have h13:op8<=13:=by rw [UInt8.le_iff_toNat_le];have:=aJ h8;show op8.toNat<=13;omega
  have h16:¬ (16:UInt8)<=op8:=λe=>by rw [UInt8.le_iff_toNat_le] at e h13;have e1:(16:UInt8).toNat=16:=rfl;have e2:(13:UInt8).toNat=13:=rfl;omega
  refine .rg<|.fA Z pC<|.st .head Z Z iH Z (nb Z) Z<|.nl<|.bN<|.tN<|.sq<|.fL 13 [(0,0),(1,0),(2,0),(3,0),(4,0),(5,0),(6,0),(7,0),(8,0),(9,0),(10,0),(11,0),(12,0)]<|.mv Z<|.nC Z<|.fA Z iX<|.lD Z pU dC Z<|.mv Z<|.nC Z<|.fA Z iX<|.lD Z pU dC Z<|.yw (.lenSl tY Z)<|.yw (.sub Z Z (c:=((V.length:Nat):Int)) ((w6 (by omega)).trans (by omega)))<|.yw (.indexSl tY Z Z (i:=V.length) Z (by omega) (q:=V.length * 13) (by omega))<|.fA Z uZ<|.yw (.loadR1 Z jO rY (kF hlv Z))<|.fn (tl:=[_]) Z<|.aq Z<|.sq<|.sr<|.fA Z gJ<|.lD Z mL Hm Z<|.yw (.cast (.eql Z Z) (congrArg Value.bool (aM (by decide))))<|.nt<|.cF Z<|.rg<|.mv Z<|.fA Z pC<|.lD Z cC Hm Z<|.cs (X:=Hp × Value × Value × List Value × List Value × List Res) pD Z (λW s=>tM K Wq S 8 (by omega) (St.mid (a:=[_,_,_]) (d:=[_]) (s.pickT (hd:=[_,_,_,_]) (tl:=(AR++bs)) (hd':=[_,_,_,_]) [1,2,3,0] Z Z))) Z λz9 hz9=>?_
  obtain ⟨H1,ro,rv,xo,xv,AR⟩:=z9;obtain ⟨u1,S⟩:=hz9;dsimp only at u1 S|-;refine Sx.reSt (λW s=>St.mid (a:=[_,_,_]) (d:=AR) (c:=[_]) s) ?_;obtain ⟨op7,x7,e7⟩:∃ op7 x7,qG 8 (⟨q,op,(v::V,bd),true,dn⟩:Ps)=⟨q,op7,x7,true,dn⟩:=⟨_,_,Z⟩;rw [e7] at S|-;dsimp only at S|-;have W7:Fwf l ⟨q,op7,x7,true,dn⟩:=by rw [<-e7];exact uI (by omega) Wq rfl
  obtain ⟨hm1,hm2⟩:=oU W7 K.few;dsimp only at hm1 hm2;have hne7:op7≠[]:=W7.ne;refine .nt<|.sq<|.sm Z<|.nt<|.cd Z (λh55=>?_) (λh55=>?_)
  ·have hwh:v.wh=true:=h55;refine .sm Z<|.cs (X:=Unit) iS Z (λW s=>qN (K.up u1.up) hq 8 (s.pickT (hd:=[_,_,_,_]) (tl:=(AR++bs)) (hd':=[_,_,_,_]) [0,1,2,3] Z Z)) Z λ_ _=>.nt<|.rt<|.tR<|?_
   refine y7 Z .nil rfl λW s=>?_
   have e0:uP l op8 ⟨q,op,(v::V,bd),true,dn⟩=(⟨q,op7,x7,true,dn⟩:Ps).at (q.fail l 8):=by
    unfold uP;rw [aG h16,aO h13,e7,aO];exact hwh
   rw [e0];exact ⟨(_,_,_,_,_,AR),⟨u1,⟨S.ops,S.vls⟩⟩,Z,s.pickT (hd:=[_,_,_,_]) (tl:=(AR++bs)) (hd':=[_,_,_]) [0,1,2] rfl rfl⟩
  have hwh:v.wh=false:=h55;refine .sk<|.tN<|.sm Z<|.nC Z<|.fA Z gS<|.lD Z cC Hm Z<|.yw (.add Z Z (c:=((q.nx.i:Nat):Int)) ((w6 (by omega)).trans (by show _=((q.i+1:Nat):Int);omega)))<|.nC Z<|.fA Z gS<|.st .head Z Z iH Z (nb Z) Z<|.nt<|.rg<|.mv Z<|.yw (.loadW Z zH rY Z)<|.cs (X:=Option Addr × Nat) fY Z (λW s=>mO (K.up u1.up) hnx (by simp [Value.oneCell',cH]) (bH hm1 (by decide)) (λ_=>S.ops.tm hne7) (s.pickT (hd:=[_,_,_,_]) (tl:=(AR++bs)) (hd':=[_,_,_,_]) [0,1,2,3] Z Z)) Z λp9 _=>.nl<|?_
  refine jE (.inr Z) rfl .nil rfl λW s=>?_
  have e0:uP l op8 ⟨q,op,(v::V,bd),true,dn⟩=jK ⟨9,8,false,op8,zF⟩ ((⟨q,op7,x7,true,dn⟩:Ps).at q.nx):=by
   unfold uP;rw [aG h16,aO h13,e7,aG];show ¬ (vG (v::V,bd)).wh=true;rw [show (vG (v::V,bd)).wh=false from hwh];decide
  rw [e0];exact ⟨(_,_,_,_,_,AR),⟨u1,⟨.cons S.ops (by show ¬ (9:UInt8)=5;decide) (FmR.zero rfl rfl (aR _) (aR _)),S.vls⟩⟩,Z,s.pickT (hd:=[_,_,_,_]) (tl:=(AR++bs)) (hd':=[_,_,_]) [0,1,2] rfl rfl⟩
 have h13:¬ op8<=13:=λe=>aP h8 (by rw [UInt8.le_iff_toNat_le] at e;have e2:(13:UInt8).toNat=13:=rfl;omega);refine .sm Z<|.yw (.geq Z Z)<|.aq Z<|.cd Z (λh12=>?_) (λh12=>?_)
 ·have h16:(16:UInt8)<=op8:=by rw [UInt8.le_iff_toNat_le];have:=aJ h12;show 16<=op8.toNat;omega
  refine .rg<|.fA Z gJ<|.st .head Z Z aM5 Z (nb Z) Z<|.fA Z pC<|.st .head Z Z iH Z (nb Z) Z<|.nl<|.bN<|.tN<|.sq<|.fL 13 [(0,0),(1,0),(2,0),(3,0),(4,0),(5,0),(6,0),(7,0),(8,0),(9,0),(10,0),(11,0),(12,0)]<|.mv Z<|.nC Z<|.fA Z iX<|.lD Z pU dC Z<|.mv Z<|.nC Z<|.fA Z iX<|.lD Z pU dC Z<|.yw (.lenSl tY Z)<|.yw (.sub Z Z (c:=((V.length:Nat):Int)) ((w6 (by omega)).trans (by omega)))<|.yw (.indexSl tY Z Z (i:=V.length) Z (by omega) (q:=V.length * 13) (by omega))<|.fA Z uZ<|.yw (.loadR1 Z jO rY (kF hlv Z))<|.fn (tl:=[_]) Z<|.aq Z<|.sq<|.sr<|.fA Z gJ<|.lD Z mL Hm Z<|.yw (.cast (.eql Z Z) (congrArg Value.bool (aK (by decide))))<|.nt<|.cT Z<|.sm Z<|.cs (X:=Hp × Value × Value × List Value × List Value × List Res) pD Z (λW s=>tM K Wq S 7 (by omega) (St.mid (a:=[_,_,_]) (d:=[_]) (s.pickT (hd:=[_,_,_,_]) (tl:=(AR++bs)) (hd':=[_,_,_,_]) [1,2,3,0] Z Z))) Z λz9 hz9=>?_
  obtain ⟨H1,ro,rv,xo,xv,AR⟩:=z9;obtain ⟨u1,S⟩:=hz9;dsimp only at u1 S|-;refine Sx.reSt (λW s=>St.mid (a:=[_,_,_]) (d:=AR) (c:=[_]) s) ?_;obtain ⟨op7,x7,e7⟩:∃ op7 x7,qG 7 (⟨q,op,(v::V,bd),true,dn⟩:Ps)=⟨q,op7,x7,true,dn⟩:=⟨_,_,Z⟩;rw [e7] at S|-;dsimp only at S|-;have W7:Fwf l ⟨q,op7,x7,true,dn⟩:=by rw [<-e7];exact uI (by omega) Wq rfl
  obtain ⟨hm1,hm2⟩:=oU W7 K.few;dsimp only at hm1 hm2;have hne7:op7≠[]:=W7.ne;refine .nt<|.rg<|.mv Z<|.mv Z<|.b2 (λh36=>?_) (λh36=>?_)
  ·have hwh:v.wh=true:=h36;refine .gG<|.gG<|.gG<|.gG<|.gG<|.yw (.pickT Z Z)<|.mv Z<|.gG<|.gG<|.gG<|.gG<|.gG<|.gG<|.yw (.pickT Z Z)<|.aq Z<|.sq<|.sm Z<|.nt<|.cT Z<|.sm Z<|.cs (X:=Unit) iS Z (λW s=>qN (K.up u1.up) hq 8 (s.pickT (hd:=[_,_,_,_]) (tl:=(AR++bs)) (hd':=[_,_,_,_]) [0,1,2,3] Z Z)) Z λ_ _=>.nt<|.rt<|.tR<|?_
   refine y7 Z .nil rfl λW s=>?_
   have e0:uP l op8 ⟨q,op,(v::V,bd),true,dn⟩=(⟨q,op7,x7,true,dn⟩:Ps).at (q.fail l 8):=by
    unfold uP;rw [aO h16,e7,aO];show ((vG (v::V,bd)).wh || _ || _)=true;rw [show (vG (v::V,bd)).wh=true from hwh];rfl
   rw [e0];exact ⟨(_,_,_,_,_,AR),⟨u1,⟨S.ops,S.vls⟩⟩,Z,s.pickT (hd:=[_,_,_,_]) (tl:=(AR++bs)) (hd':=[_,_,_]) [0,1,2] rfl rfl⟩
  have hwh:v.wh=false:=h36;obtain ⟨o7,r7,rfl⟩:=BQ (l:=op7) (by cases op7 with | nil=>exact (hne7 rfl).elim | cons a t=>exact Nat.succ_pos _);dsimp only [List.length_cons] at hm1;obtain ⟨xr,s1,s2,e2,hlo,ho1,ho2⟩:=Ops.top S.ops;try dsimp only at e2
  subst e2;refine Sx.rowCase (size:=11) (r:=ro) (e:=97) dC (Nat.succ_pos _) λg c e hkc=>?_;subst e;refine .gy (.move Z)<|.gd Z Z<|.cs (X:=Unit) mK Z (λW s=>BI (K.up u1.up) hq (g:=g) (k:=r7.length) (c:=c) (by omega) (s.pickT (hd:=[_,_,_,_]) (tl:=(AR++bs)) (hd':=[_,_,_,_]) [0,1,2,3] Z Z)) Z λ_ _=>.gy (.nilCheck Z)<|.gy (.fieldAddr Z tZ)<|.gy (.loadR1 Z jO dC (kF hlo Z))<|.yw (.pickF Z Z)<|.mv Z<|.b2 (λh43=>?_) (λh43=>?_)
  ·have htm:o7.tm=true:=h43;refine .gG<|.gG<|.gG<|.gG<|.gG<|.gG<|.yw (.pickT Z Z)<|.aq Z<|.sq<|.sm Z<|.nt<|.cT Z<|.sm Z<|.cs (X:=Unit) iS Z (λW s=>qN (K.up u1.up) hq 8 (s.pickT (hd:=[_,_,_,_]) (tl:=(AR++bs)) (hd':=[_,_,_,_]) [0,1,2,3] Z Z)) Z λ_ _=>.nt<|.rt<|.tR<|?_
   refine y7 Z .nil rfl λW s=>?_
   have e0:uP l op8 ⟨q,op,(v::V,bd),true,dn⟩=(⟨q,o7::r7,x7,true,dn⟩:Ps).at (q.fail l 8):=by
    unfold uP;rw [aO h16,e7,aO];show (_ || (fP (⟨q,o7::r7,x7,true,dn⟩:Ps)).tm || _)=true;rw [show (fP (⟨q,o7::r7,x7,true,dn⟩:Ps)).tm=true from htm,Bool.or_true];rfl
   rw [e0];exact ⟨(_,_,_,_,_,AR),⟨u1,⟨S.ops,S.vls⟩⟩,Z,s.pickT (hd:=[_,_,_,_]) (tl:=(AR++bs)) (hd':=[_,_,_]) [0,1,2] rfl rfl⟩
  have htm:o7.tm=false:=h43;refine .gy (.move Z)<|.gd Z Z<|.cs (X:=Unit) mK Z (λW s=>BI (K.up u1.up) hq (g:=g) (k:=r7.length) (c:=c) (by omega) (s.pickT (hd:=[_,_,_,_]) (tl:=(AR++bs)) (hd':=[_,_,_,_]) [0,1,2,3] Z Z)) Z λ_ _=>.gy (.nilCheck Z)<|.gy (.fieldAddr Z gJ)<|.gy (.loadR1 Z mL dC (kF hlo Z))<|.gy (.eql Z Z)<|.yw (.pickF Z Z)<|.aq Z<|.sq<|.sm Z<|.nt<|.cd Z (λh55=>?_) (λh55=>?_)
  ·have hk8:o7.kd=8:=aS.1 (by have:=aJ h55;show o7.kd.toNat=8;omega);refine .sm Z<|.cs (X:=Unit) iS Z (λW s=>qN (K.up u1.up) hq 8 (s.pickT (hd:=[_,_,_,_]) (tl:=(AR++bs)) (hd':=[_,_,_,_]) [0,1,2,3] Z Z)) Z λ_ _=>.nt<|.rt<|.tR<|?_
   refine y7 Z .nil rfl λW s=>?_
   have e0:uP l op8 ⟨q,op,(v::V,bd),true,dn⟩=(⟨q,o7::r7,x7,true,dn⟩:Ps).at (q.fail l 8):=by
    unfold uP;rw [aO h16,e7,aO];show (_ || _ || decide ((fP (⟨q,o7::r7,x7,true,dn⟩:Ps)).kd=8))=true;rw [aK (show (fP (⟨q,o7::r7,x7,true,dn⟩:Ps)).kd=8 from hk8),Bool.or_true]
   rw [e0];exact ⟨(_,_,_,_,_,AR),⟨u1,⟨S.ops,S.vls⟩⟩,Z,s.pickT (hd:=[_,_,_,_]) (tl:=(AR++bs)) (hd':=[_,_,_]) [0,1,2] rfl rfl⟩
  have hk8:¬ o7.kd=8:=λe=>aP h55 (by rw [e];rfl);refine .sk<|.tN<|.sm Z<|.nC Z<|.fA Z gS<|.lD Z cC Hm Z<|.yw (.add Z Z (c:=((q.nx.i:Nat):Int)) ((w6 (by omega)).trans (by show _=((q.i+1:Nat):Int);omega)))<|.nC Z<|.fA Z gS<|.st .head Z Z iH Z (nb Z) Z<|.nt<|.rg<|.mv Z<|.yw (.loadW Z zH rY Z)<|.cs (X:=Option Addr × Nat) fY Z (λW s=>mO (K.up u1.up) hnx (by simp [Value.oneCell',cH]) (by show r7.length+1<=600001;omega) (λ_=>S.ops.tm hne7) (s.pickT (hd:=[_,_,_,_]) (tl:=(AR++bs)) (hd':=[_,_,_,_]) [0,1,2,3] Z Z)) Z λp9 _=>.nl<|?_
  refine jE (.inr Z) rfl .nil rfl λW s=>?_
  have e0:uP l op8 ⟨q,op,(v::V,bd),true,dn⟩=jK ⟨8,6,false,op8,zF⟩ ((⟨q,o7::r7,x7,true,dn⟩:Ps).at q.nx):=by
   unfold uP;rw [aO h16,e7,aG];show ¬ ((vG (v::V,bd)).wh || (fP (⟨q,o7::r7,x7,true,dn⟩:Ps)).tm || decide ((fP (⟨q,o7::r7,x7,true,dn⟩:Ps)).kd=8))=true;rw [show (vG (v::V,bd)).wh=false from hwh,show (fP (⟨q,o7::r7,x7,true,dn⟩:Ps)).tm=false from htm,aM (show ¬ (fP (⟨q,o7::r7,x7,true,dn⟩:Ps)).kd=8 from hk8)]
   decide
  rw [e0];exact ⟨(_,_,_,_,_,AR),⟨u1,⟨.cons S.ops (by show ¬ (8:UInt8)=5;decide) (FmR.zero rfl rfl (aR _) (aR _)),S.vls⟩⟩,Z,s.pickT (hd:=[_,_,_,_]) (tl:=(AR++bs)) (hd':=[_,_,_]) [0,1,2] rfl rfl⟩
 have h16:¬ (16:UInt8)<=op8:=λe=>aP h12 (by rw [UInt8.le_iff_toNat_le] at e;have e2:(16:UInt8).toNat=16:=rfl;omega);refine .sk<|.bN<|.tN<|.sq<|.fL 13 [(0,0),(1,0),(2,0),(3,0),(4,0),(5,0),(6,0),(7,0),(8,0),(9,0),(10,0),(11,0),(12,0)]<|.mv Z<|.nC Z<|.fA Z iX<|.lD Z pU dC Z<|.mv Z<|.nC Z<|.fA Z iX<|.lD Z pU dC Z<|.yw (.lenSl tY Z)<|.yw (.sub Z Z (c:=((V.length:Nat):Int)) ((w6 (by omega)).trans (by omega)))<|.yw (.indexSl tY Z Z (i:=V.length) Z (by omega) (q:=V.length * 13) (by omega))<|.fA Z uZ<|.yw (.loadR1 Z jO rY (kF hlv Z))<|.fn (tl:=[_]) Z<|.aq Z<|.sq<|.sr<|.fA Z gJ<|.lD Z mL Hm Z<|.yw (.cast (.eql Z Z) (congrArg Value.bool (aM (by decide))))<|.nt<|.cF Z<|.rg<|.mv Z<|.fA Z pC<|.lD Z cC Hm Z<|.cs (X:=Hp × Value × Value × List Value × List Value × List Res) pD Z (λW s=>tM K Wq S 7 (by omega) (St.mid (a:=[_,_,_]) (d:=[_]) (s.pickT (hd:=[_,_,_,_]) (tl:=(AR++bs)) (hd':=[_,_,_,_]) [1,2,3,0] Z Z))) Z λz9 hz9=>?_
 obtain ⟨H1,ro,rv,xo,xv,AR⟩:=z9;obtain ⟨u1,S⟩:=hz9;dsimp only at u1 S|-;refine Sx.reSt (λW s=>St.mid (a:=[_,_,_]) (d:=AR) (c:=[_]) s) ?_;obtain ⟨op7,x7,e7⟩:∃ op7 x7,qG 7 (⟨q,op,(v::V,bd),true,dn⟩:Ps)=⟨q,op7,x7,true,dn⟩:=⟨_,_,Z⟩;rw [e7] at S|-;dsimp only at S|-;have W7:Fwf l ⟨q,op7,x7,true,dn⟩:=by rw [<-e7];exact uI (by omega) Wq rfl
 obtain ⟨hm1,hm2⟩:=oU W7 K.few;dsimp only at hm1 hm2;have hne7:op7≠[]:=W7.ne;refine .nt<|.sq<|.sm Z<|.nt<|.cd Z (λh55=>?_) (λh55=>?_)
 ·have hwh:v.wh=true:=h55;refine .sm Z<|.cs (X:=Unit) iS Z (λW s=>qN (K.up u1.up) hq 8 (s.pickT (hd:=[_,_,_,_]) (tl:=(AR++bs)) (hd':=[_,_,_,_]) [0,1,2,3] Z Z)) Z λ_ _=>.nt<|.rt<|.tR<|?_
  refine y7 Z .nil rfl λW s=>?_
  have e0:uP l op8 ⟨q,op,(v::V,bd),true,dn⟩=(⟨q,op7,x7,true,dn⟩:Ps).at (q.fail l 8):=by
   unfold uP;rw [aG h16,aG h13,e7,aO];exact hwh
  rw [e0];exact ⟨(_,_,_,_,_,AR),⟨u1,⟨S.ops,S.vls⟩⟩,Z,s.pickT (hd:=[_,_,_,_]) (tl:=(AR++bs)) (hd':=[_,_,_]) [0,1,2] rfl rfl⟩
 have hwh:v.wh=false:=h55;refine .sk<|.tN<|.sm Z<|.nC Z<|.fA Z gS<|.lD Z cC Hm Z<|.yw (.add Z Z (c:=((q.nx.i:Nat):Int)) ((w6 (by omega)).trans (by show _=((q.i+1:Nat):Int);omega)))<|.nC Z<|.fA Z gS<|.st .head Z Z iH Z (nb Z) Z<|.nt<|.rg<|.mv Z<|.yw (.loadW Z zH rY Z)<|.cs (X:=Option Addr × Nat) fY Z (λW s=>mO (K.up u1.up) hnx (by simp [Value.oneCell',cH]) (bH hm1 (by decide)) (λ_=>S.ops.tm hne7) (s.pickT (hd:=[_,_,_,_]) (tl:=(AR++bs)) (hd':=[_,_,_,_]) [0,1,2,3] Z Z)) Z λp9 _=>.nl<|?_
 refine jE (.inr Z) rfl .nil rfl λW s=>?_
 have e0:uP l op8 ⟨q,op,(v::V,bd),true,dn⟩=jK ⟨9,7,false,op8,zF⟩ ((⟨q,op7,x7,true,dn⟩:Ps).at q.nx):=by
  unfold uP;rw [aG h16,aG h13,e7,aG];show ¬ (vG (v::V,bd)).wh=true;rw [show (vG (v::V,bd)).wh=false from hwh];decide
 rw [e0];exact ⟨(_,_,_,_,_,AR),⟨u1,⟨.cons S.ops (by show ¬ (9:UInt8)=5;decide) (FmR.zero rfl rfl (aR _) (aR _)),S.vls⟩⟩,Z,s.pickT (hd:=[_,_,_,_]) (tl:=(AR++bs)) (hd':=[_,_,_]) [0,1,2] rfl rfl⟩
theorem i0 {n:Int64} :decide (n.toInt=0)=decide (n=0):=by
 rw [aU,aD,aD];exact ⟨λh=>jY.1 h,λh=>by rw [h];rfl⟩
variable {n:Nat}
theorem n0:decide (((n:Nat):Int)=((k:Nat):Int))=decide (n=k):=by rw [aU,aD,aD];omega
theorem CD {l:List Ex} {p:Ex->Bool} (hk:k<l.length) (h:(l.take k).any p=false) (hp:p l[k]=false):(l.take (k+1)).any p=false:=by
 rw [List.take_succ,List.any_append,h,List.getElem?_eq_getElem hk];simp [hp]
theorem CE {l:List Ex} {p:Ex->Bool} (hk:k<l.length) (hp:p l[k]=true):l.any p=true:=fM.2 ⟨_,bI hk,hp⟩
def ixV (l:List Ex) (p:Ex->Bool):Int:=match l.findIdx? p with | some i=>(i:Int) | none=>-1
theorem bO0 {l:List Ex} {p:Ex->Bool} (hk:k<l.length) (h:(l.take k).any p=false) (hp:p l[k]=true):ixV l p=(k:Int):=by
 unfold ixV
 rw [List.findIdx?_eq_some_iff_getElem.2 ⟨hk,hp,λj hj=>by
  have hm:l[j]∈l.take k:=List.mem_take_iff_getElem.2 ⟨j,by omega,Z⟩;have:=List.any_eq_false.1 h _ hm;exact this⟩]
theorem bN9 {l:List Ex} {p:Ex->Bool} (h:l.any p=false):ixV l p=-1:=by
 unfold ixV;rw [List.findIdx?_eq_none_iff.2 λx hx=>by have:=List.any_eq_false.1 h x hx;simpa using this]
theorem bT1 {l:List Ex} {p:Ex->Bool} :decide (0<=ixV l p)=l.any p:=by
 unfold ixV;cases h:l.findIdx? p with
 | some i =>
  obtain ⟨hi,hp,_⟩:=List.findIdx?_eq_some_iff_getElem.1 h;rw [fM.2 ⟨_,bI hi,hp⟩];exact aK (by show (0:Int)<=(i:Int);omega)
 | none =>
  rw [List.any_eq_false.2 λx hx=>by have:=List.findIdx?_eq_none_iff.1 h x hx;rw [this];decide];rfl
theorem rQ {op:UInt8} {nm:Str} {n:Int64} {args:List Ex} :BG (.mk op nm n args)=(decide (op=0) && decide (nm=[]) && decide (n=0) && decide (args.length=0)):=rfl
def EFn (H:Hp) (gf:FuncId) (ca:List Value) (p:Ex->Bool) (e:Ex):Prop:=∀ (cs:List Value) (W:World),Rep H (dEx .u8 e) cs->Agr H W->Calls prg gf (.agg cs.toArray::ca).toArray W λr W'=>r=.returned (.bool (p e))/\Ext W W'
variable {c:Nat}
theorem aJ8 (H:Hp) (gf:FuncId) (ca:List Value) (p:Ex->Bool) (l:List Ex) {pp:Option Addr} (hs:Rep H (.seq 4 (l.map (dEx .u8))) [.slice pp l.length c]) (hf:cZ prg gf=true) (hg:∀ e∈l,EFn H gf ca p e) (w:World) (hA:Agr H w) :
 Calls prg 131 #[.slice pp l.length c,.func (.func gf) #[] ca.toArray] w λr w'=>r=.returned (.int .i64 (ixV l p))/\Ext w w':=by
 have hcap:=hs.cap;refine Sx.enter (H:=H) func131 rfl ntmps131 rfl hA ?_;refine .sr<|.aq Z<|.sq<|.sm Z<|.yw (.lenSl dW Z)<|.mv Z<|.nt<|.bk<|.lp (X:=Nat) [(0,_),(1,_),(7,_)] ⟨Z,Z,Z,Jt⟩ [] (λk=>[(8,iN k)]) (λk=>H) (λk=>[]) (λk=>k<=l.length/\(l.take k).any p=false) (λk=>l.length - k) 0 (λ_ s=>s) ⟨Z,Jt⟩ ⟨aR _,Z⟩ λk hC=>?_
 obtain ⟨hk0,hal⟩:=hC;refine .sr<|.yw (.lss Z Z)<|.nt<|.sq<|.ce Z (λh9=>?_) (λh9=>?_)
 ·have hk:k<l.length:=by omega
  obtain ⟨bE,oE,cE,hpE,rE,lE,mE⟩:=hs.elem (fW (f:=dEx .u8) hk);cases hpE;refine .sk<|.tN<|.sq<|.bk<|.sm Z<|.a Z Z<|.ns<|.mv Z<|.mv Z<|.mv Z<|.yw (.indexSl dW Z Z Z (by omega) (q:=oE+k * 4) Z)<|.yw (.loadMW Z eC mE lE)<|.yw (.callV (fi:=[]) Z hf Z (λW s=>hg _ (bI hk) cE W rE s.agr))<|.nt<|.cd Z (λh16=>?_) (λh16=>?_)
  ·refine .sm Z<|.az Z<|.bR<|.tR<|.tR<|.bR<|.tR<|?_
   refine y9 Z Z λW s=>⟨?_,s.ext⟩
   first
    | (rw [bO0 hk hal h16])
    | (rw [bN9 hal])
  exact .sk<|.bN<|.tN<|.rg<|.yw (.add Z Z w7)<|.mv Z<|.nt<|.ag (k+1) ⟨Z,Jt⟩ ⟨Z,Z,Z,Jt⟩ (λ_ s=>s) ⟨by omega,CD hk hal h16⟩ (by omega)
 obtain rfl:k=l.length:=by omega
 rw [aZ] at hal;refine .ex<|.eb<|.sr<|.az Z<|?_
 refine y9 Z Z λW s=>⟨?_,s.ext⟩
 first
  | (rw [bO0 hk hal h16])
  | (rw [bN9 hal])
theorem lR (H:Hp) (gf:FuncId) (ca:List Value) (p:Ex->Bool) (l:List Ex) {pp:Option Addr} (hs:Rep H (.seq 4 (l.map (dEx .u8))) [.slice pp l.length c]) (hf:cZ prg gf=true) (hg:∀ e∈l,EFn H gf ca p e) (w:World) (hA:Agr H w) :
 Calls prg 71 #[.slice pp l.length c,.func (.func gf) #[] ca.toArray] w λr w'=>r=.returned (.bool (l.any p))/\Ext w w':=by
 refine Sx.enter (H:=H) func71 rfl ntmps71 rfl hA ?_;refine .sr<|.a Z Z<|.ns<|.mv Z<|.mv Z<|.yw (.call (v:=.int .i64 (ixV l p)) ZM Z (λW s=>aJ8 H gf ca p l hs hf hg W s.agr))<|.yw (.cast (.geq Z Z) (congrArg Value.bool bT1))<|.az Z<|?_
 exact y9 Z Z λW s=>⟨Z,s.ext⟩
theorem aJ7 (H:Hp) (e:Ex) (cs:List Value) (w:World) (h:Rep H (dEx .u8 e) cs) (hA:Agr H w):Calls prg 78 #[.agg cs.toArray] w λr w'=>r=.returned (.bool (BG e))/\Ext w w':=by
 obtain ⟨op,nm,nn,args⟩:=e;obtain ⟨pp,c,rfl,hs,hnm⟩:=fX h;refine Sx.enter (H:=H) func78 rfl ntmps78 rfl hA ?_;refine .sr<|.bx Z Z Z λb1=>.a Z Z<|.ns<|.fA Z iI<|.lD Z kW Hm Z<|.yw (.cast (.eql Z Z) (congrArg Value.bool k80))<|.mv Z<|.b2 (λh6=>?_) (λh6=>?_)
 ·refine .gy (.fieldAddr Z gM)<|.gy (.load Z cP Hm Z)<|.gy (.eqS Z Z)<|.yw (.pickT Z Z)<|.mv Z<|.b2 (λh11=>?_) (λh11=>?_)
  ·refine .gy (.fieldAddr Z gZ)<|.gy (.load Z eS Hm Z)<|.gy (.cast (.eql Z Z) (congrArg Value.bool i0))<|.yw (.pickT Z Z)<|.mv Z<|.b2 (λh16=>?_) (λh16=>?_)
   ·refine .gy (.fieldAddr Z eJ)<|.gy (.load Z dQ Hm Z)<|.gy (.lenSl dW Z)<|.gy (.cast (.eql Z Z) (congrArg Value.bool er0))<|.yw (.pickT Z Z)<|.az Z<|?_
    refine y9 Z Z λW s=>⟨?_,s.ext⟩
    first
     | (rw [rQ,h6,h11,h16,aA,aA,aA])
     | (rw [rQ,h6,h11,h16];rfl)
     | (rw [rQ,h6,h11];rfl)
     | (rw [rQ,h6];rfl)
   refine .gG<|.gG<|.gG<|.gG<|.yw (.pickF Z Z)<|.az Z<|?_
   refine y9 Z Z λW s=>⟨?_,s.ext⟩
   first
    | (rw [rQ,h6,h11,h16,aA,aA,aA])
    | (rw [rQ,h6,h11,h16];rfl)
    | (rw [rQ,h6,h11];rfl)
    | (rw [rQ,h6];rfl)
  refine .gG<|.gG<|.gG<|.yw (.pickF Z Z)<|.mv Z<|.gG<|.gG<|.gG<|.gG<|.yw (.pickF Z Z)<|.az Z<|?_
  refine y9 Z Z λW s=>⟨?_,s.ext⟩
  first
   | (rw [rQ,h6,h11,h16,aA,aA,aA])
   | (rw [rQ,h6,h11,h16];rfl)
   | (rw [rQ,h6,h11];rfl)
   | (rw [rQ,h6];rfl)
 refine .gG<|.gG<|.gG<|.yw (.pickF Z Z)<|.mv Z<|.gG<|.gG<|.gG<|.yw (.pickF Z Z)<|.mv Z<|.gG<|.gG<|.gG<|.gG<|.yw (.pickF Z Z)<|.az Z<|?_
 refine y9 Z Z λW s=>⟨?_,s.ext⟩
 first
  | (rw [rQ,h6,h11,h16,aA,aA,aA])
  | (rw [rQ,h6,h11,h16];rfl)
  | (rw [rQ,h6,h11];rfl)
  | (rw [rQ,h6];rfl)
end Go.Proofs.YtidclioghdbphaaGreatDoor
