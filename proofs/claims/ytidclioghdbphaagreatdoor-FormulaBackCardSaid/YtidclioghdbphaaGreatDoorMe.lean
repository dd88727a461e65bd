/- Texts of the proof, one behind the other. -/
import Derived.Test.YtidclioghdbphaaGreatDoorMd
import Derived.Lib.ItoaNum
set_option linter.all false
set_option maxRecDepth 100000
namespace Go.Proofs.YtidclioghdbphaaGreatDoor
open Go.RowKit Go.Par Go.Sx Tryz
theorem YS {l:Tks} {q:Ps} (hf:xS q=false\/mD l q=none) (hk:(dM q).kd=5) (ha:q.c.ac l [95]=true):dV l q=iD ⟨true,true,zE,zF⟩ (q.at q.c.nx):=by
 have e:(if xS q then mD l q else none)=none:=by
  rcases hf with e | e
  ·rw [e];rfl
  ·rw [e];split <;> rfl
 unfold dV;rw [e];show wB l q=_;unfold wB;rw [aL ⟨hk,ha⟩]
variable {H:Hp} {w0 W:World} {bs AR:List Res} {b tc:Nat} {tp:Option Addr} {ro rv:Value} {xo xv:List Value} {q:Rq}
set_option maxHeartbeats 4000000 in
theorem aC8 {l:Tks} {op:List Ov} {x:Vb} {dn:Bool} (K:Tkf H l tp tc) (Wq:Fwf l ⟨q,op,x,false,dn⟩) (S:Sq H ⟨q,op,x,false,dn⟩ xo xv AR) (s:St H w0 (.box b [.slice tp l.length tc,iN q.i,ro,rv,.bool false,.bool dn,.bool x.2,iN q.off,iN q.er] 102::.row 97 11 (ro) (op.length) (xo)::.row 179 13 (rv) (x.1.length) (xv)::(AR++bs)) W) :
 Calls prg 56 #[.pointer (some ⟨b,0,none⟩)] W (Get w0 bs b l tp tc H (dV l ⟨q,op,x,false,dn⟩)):=by
 have hq:q.i<l.length:=Wq.i;have hne:op≠[]:=Wq.ne;obtain ⟨hn1,hn2⟩:=oH Wq K.few;dsimp only at hn1 hn2;have hcap:=K.rep.cap;refine kB func56 rfl ntmps56 rfl s ?_;obtain ⟨o,r,rfl⟩:=AV (l:=op) (by cases op with | nil=>exact absurd rfl hne | cons a t=>exact Nat.succ_pos _);dsimp only [List.length_cons] at hn1;obtain ⟨xr,s1,s2,e2,hlo,ho1,ho2⟩:=Ops.top S.ops;try dsimp only at e2
 subst e2;refine Sx.rowCase (size:=11) (r:=ro) (e:=97) cO (Nat.succ_pos _) λg c e hkc=>?_;subst e;refine .sm Z<|.cs (X:=Unit) sJ Z (λW s=>xC K hq  (s.pickT (hd:=[_,_,_]) (tl:=(AR++bs)) (hd':=[_,_,_]) [0,1,2] Z Z)) Z λ_ _=>.al wQ Z λb2=>.sW .head Z Z wS (by simp [cTk,Value.oneCell',cH]) Z<|.nt<|.cu (X:=Bool) [(0,_),(2,_)] ⟨Z,Z,Jt⟩ (λz=>[(3,.bool z)]) (λz=>H) (λz=>(.box b2 (cTk .u8 (tkf l q.i)) 108::.box b [.slice tp l.length tc,iN q.i,(.slice (some ⟨g,0,none⟩) (o::r).length c),rv,.bool false,.bool dn,.bool x.2,iN q.off,iN q.er] 102::.row 97 11 ((.slice (some ⟨g,0,none⟩) (o::r).length c)) ((o::r).length) ((xr++oC o s1 s2))::.row 179 13 (rv) (x.1.length) (xv)::(AR++bs))) (λz=>z=xS ⟨q,o::r,x,false,dn⟩) ?_ λz hC=>?_
 ·
  refine .rg<|.mv Z<|.cs (X:=Unit) lU Z (λW s=>AL K hq (g:=g) (k:=r.length) (c:=c) (by omega) (s.pickT (hd:=[_,_,_,_]) (tl:=(AR++bs)) (hd':=[_,_,_,_]) [1,0,2,3] Z Z)) Z λ_ _=>.nC Z<|.fA Z tC<|.yw (.loadR1 Z jI mY (kC hlo Z))<|.yw (.not Z)<|.mv Z<|.b2 (λh14=>?_) (λh14=>?_)
  ·exact .gy (.move Z)<|.gd Z Z<|.cs (X:=Unit) lU Z (λW s=>AL K hq (g:=g) (k:=r.length) (c:=c) (by omega) (s.pickT (hd:=[_,_,_,_]) (tl:=(AR++bs)) (hd':=[_,_,_,_]) [0,1,2,3] Z Z)) Z λ_ _=>.gy (.nilCheck Z)<|.gy (.fieldAddr Z oL)<|.gy (.loadR1 Z cR mY (kC hlo Z))<|.gy (.leq Z Z)<|.yw (.pickT Z Z)<|.aq Z<|.me _ ⟨Z,Jt⟩ ⟨Z,Z,Jt⟩ (λ_ s=>(s.pickT (hd:=[_,_,_,_]) (tl:=(AR++bs)) (hd':=[_,_,_,_]) [1,0,2,3] Z Z)) (by first | (show _=(!o.tm && decide (o.lv<=5));rw [h14,aA,bH,aD,aD];omega) | (show _=(!o.tm && decide (o.lv<=5));rw [h14,aB]))
  exact .gG<|.gG<|.gG<|.gG<|.gG<|.gG<|.yw (.pickF Z Z)<|.aq Z<|.me _ ⟨Z,Jt⟩ ⟨Z,Z,Jt⟩ (λ_ s=>(s.pickT (hd:=[_,_,_,_]) (tl:=(AR++bs)) (hd':=[_,_,_,_]) [1,0,2,3] Z Z)) (by first | (show _=(!o.tm && decide (o.lv<=5));rw [h14,aA,bH,aD,aD];omega) | (show _=(!o.tm && decide (o.lv<=5));rw [h14,aB]))
 have ef:=hC;refine .bk<|.sm Z<|.mv Z<|.b2 (λh26=>?_) (λh26=>?_)
 ·have hff:xS ⟨q,o::r,x,false,dn⟩=true:=by rw [<-ef];exact h26
  refine .gy (.move Z)<|.gd Z Z<|.cs (X:=Hp × Value × Value × List Value × List Value × List Res) XW Z (λW s=>aO6 K Wq S (St.mid (a:=[_,_,_]) (d:=[_]) (s.pickT (hd:=[_,_,_,_]) (tl:=(AR++bs)) (hd':=[_,_,_,_]) [1,2,3,0] Z Z))) Z λz9 hz9=>?_
  obtain ⟨H1,ro,rv,xo,xv,AR⟩:=z9;obtain ⟨u1,S⟩:=hz9;dsimp only at u1 S|-;refine Sx.reSt (λW s=>St.mid (a:=[_,_,_]) (d:=AR) (c:=[_]) s) ?_;refine .yw (.pickT Z Z)<|.aq Z<|.cd Z (λh24=>?_) (λh24=>?_)
  ·obtain ⟨q9,hp⟩:=pP.1 h24;rw [hp] at S|-;dsimp only [Option.getD] at S|-;refine .sk<|.bN<|?_
   refine jA (.inr Z) rfl .nil rfl λW s=>?_;have e0:dV l ⟨q,o::r,x,false,dn⟩=q9:=by unfold dV;rw [hff,aL rfl,hp]
   rw [e0];exact ⟨(_,_,_,_,_,AR),⟨u1,⟨S.ops,S.vls⟩⟩,Z,s.pickT (hd:=[_,_,_,_]) (tl:=(AR++bs)) (hd':=[_,_,_]) [0,1,2] rfl rfl⟩
  have hp:mD l ⟨q,o::r,x,false,dn⟩=none:=by
   cases e:mD l ⟨q,o::r,x,false,dn⟩ with
   | none=>rfl
   | some x=>rw [e] at h24;cases h24
  rw [hp] at S|-;dsimp only [Option.getD] at S|-;have hff:xS ⟨q,o::r,x,false,dn⟩=false\/mD l ⟨q,o::r,x,false,dn⟩=none:=.inr hp;obtain ⟨xr,s1,s2,e2,hlo,ho1,ho2⟩:=Ops.top S.ops;try dsimp only at e2
  subst e2;refine Sx.rowCase (size:=11) (r:=ro) (e:=97) cO (Nat.succ_pos _) λg c e hkc=>?_;subst e;refine .cu (X:=Bool) [(0,_),(2,_)] ⟨Z,Z,Jt⟩ (λz=>[(30,.bool z)]) (λz=>H1) (λz=>(.box b2 (cTk .u8 (tkf l q.i)) 108::.box b [.slice tp l.length tc,iN ((if z then Rq.nx q else q).i),(.slice (some ⟨g,0,none⟩) (o::r).length c),rv,.bool false,.bool dn,.bool x.2,iN ((if z then Rq.nx q else q).off),iN ((if z then Rq.nx q else q).er)] 102::.row 97 11 ((.slice (some ⟨g,0,none⟩) (o::r).length c)) ((o::r).length) ((xr++oC o s1 s2))::.row 179 13 (rv) (x.1.length) (xv)::(AR++bs))) (λz=>z=(decide (o.kd=5) && Rq.ac l [95] q)) ?_ λz hC=>?_
  ·
   refine .rg<|.mv Z<|.cs (X:=Unit) lU Z (λW s=>AL (K.up u1.up) hq (g:=g) (k:=r.length) (c:=c) (by omega) (s.pickT (hd:=[_,_,_,_]) (tl:=(AR++bs)) (hd':=[_,_,_,_]) [0,1,2,3] Z Z)) Z λ_ _=>.nC Z<|.fA Z gN<|.yw (.loadR1 Z lV cO (kC hlo Z))<|.yw (.eql Z Z)<|.mv Z<|.b2 (λh37=>?_) (λh37=>?_)
   ·have hk5:o.kd=5:=aQ.1 (by have:=aH h37;show o.kd.toNat=5;omega);exact .gy (.move Z)<|.gd Z Z<|.cs (X:=Unit) dH Z (λW s=>eH (K.up u1.up) hq [95] (s.pickT (hd:=[_,_,_,_]) (tl:=(AR++bs)) (hd':=[_,_,_,_]) [0,1,2,3] Z Z)) Z λ_ _=>.yw (.pickT Z Z)<|.aq Z<|.me _ ⟨Z,Jt⟩ ⟨Z,Z,Jt⟩ (λ_ s=>(s.pickT (hd:=[_,_,_,_]) (tl:=(AR++bs)) (hd':=[_,_,_,_]) [3,0,1,2] Z Z)) (by first | rw [aS hk5,aA] | (rw [aP hk5];rfl))
   have hk5:¬ o.kd=5:=λe=>aN h37 (by rw [e];rfl);exact .gG<|.gG<|.yw (.pickF Z Z)<|.aq Z<|.me _ ⟨Z,Jt⟩ ⟨Z,Z,Jt⟩ (λ_ s=>(s.pickT (hd:=[_,_,_,_]) (tl:=(AR++bs)) (hd':=[_,_,_,_]) [3,0,1,2] Z Z)) (by first | rw [aS hk5,aA] | (rw [aP hk5];rfl))
  have ez:=hC;refine .cd Z (λh30=>?_) (λh30=>?_)
  ·rw [h30] at ez;have ez2:=aE _ _ |>.mp ez.symm
   rw [aL h30];refine .rg<|.mv Z<|.yw (.build Z (DA _ _))<|.cs (X:=Option Addr × Nat) fO Z (λW s=>lQ (K.up u1.up) (dA K.gd.last hq ez2.2) (by simp [Value.oneCell',cH]) hn2 (s.pickT (hd:=[_,_,_,_]) (tl:=(AR++bs)) (hd':=[_,_,_,_]) [1,3,0,2] Z Z)) Z λp9 _=>.nl<|.bN<|?_
   refine jA (.inr Z) rfl .nil rfl λW s=>?_;have e0:dV l ⟨q,o::r,x,false,dn⟩=iD ⟨true,true,zE,zF⟩ (((⟨q,o::r,x,false,dn⟩:Ps)).at q.nx):=YS hff (aH ez2.1) ez2.2;rw [e0];exact ⟨(_,_,_,_,_,AR),⟨u1,⟨S.ops,.cons S.vls ⟨ExR.zero rfl (aO _),FmR.zero rfl rfl (aO _) (aO _)⟩⟩⟩,Z,s.pickT (hd:=[_,_,_,_]) (tl:=(AR++bs)) (hd':=[_,_,_]) [0,3,1] rfl rfl⟩
  rw [h30] at ez
  have hno:(dM (⟨q,o::r,x,false,dn⟩:Ps)).kd=5->Rq.ac l [95] q=false:=λe=>by
   have e3:(false:Bool)=(decide (o.kd=5) && Rq.ac l [95] q):=ez;rw [aS (show o.kd=5 from e),aA] at e3;exact e3.symm
  rw [aF (by rw [h30];decide)];refine .sm Z<|.cs (X:=Unit) dH Z (λW s=>eH (K.up u1.up) hq [45] (s.pickT (hd:=[_,_,_,_]) (tl:=(AR++bs)) (hd':=[_,_,_,_]) [1,0,2,3] Z Z)) Z λ_ _=>.aq Z<|.cd Z (λh44=>?_) (λh44=>?_)
  ·have a44:Rq.ac l [45] q=true:=h44;rw [kN a44];refine .rg<|.mv Z<|.yw (.build Z (FY _ _))<|.cs (X:=Option Addr × Nat) fX Z (λW s=>mH (K.up u1.up) (dA K.gd.last hq a44) (by simp [Value.oneCell',cH]) (aZ hn1 (by decide)) (λ_=>S.ops.tm hne) (s.pickT (hd:=[_,_,_,_]) (tl:=(AR++bs)) (hd':=[_,_,_,_]) [0,2,1,3] Z Z)) Z λp9 _=>.nl<|.bN<|?_
   refine jA (.inr Z) rfl .nil rfl λW s=>?_;have e0:dV l ⟨q,o::r,x,false,dn⟩=fH ⟨10,9,false,0,zF⟩ (((⟨q,o::r,x,false,dn⟩:Ps)).at q.nx):=(jZ hff hno).trans (PK a44);rw [e0];exact ⟨(_,_,_,_,_,AR),⟨u1,⟨.cons S.ops (by show ¬ (10:UInt8)=5;decide) (FmR.zero rfl rfl (aO _) (aO _)),S.vls⟩⟩,Z,s.pickT (hd:=[_,_,_,_]) (tl:=(AR++bs)) (hd':=[_,_,_]) [0,1,3] rfl rfl⟩
  have a44:Rq.ac l [45] q=false:=h44;rw [kR a44];refine .sm Z<|.cs (X:=Unit) dH Z (λW s=>eH (K.up u1.up) hq [40] (s.pickT (hd:=[_,_,_,_]) (tl:=(AR++bs)) (hd':=[_,_,_,_]) [0,1,2,3] Z Z)) Z λ_ _=>.aq Z<|.cd Z (λh50=>?_) (λh50=>?_)
  ·have a50:Rq.ac l [40] q=true:=h50;rw [kN a50];refine .rg<|.mv Z<|.yw (.build Z (DY _))<|.cs (X:=Option Addr × Nat) fX Z (λW s=>mH (K.up u1.up) (dA K.gd.last hq a50) (by simp [Value.oneCell',cH]) (aZ hn1 (by decide)) (t':=false) (λh=>absurd h (Nat.lt_irrefl 0)) (s.pickT (hd:=[_,_,_,_]) (tl:=(AR++bs)) (hd':=[_,_,_,_]) [0,2,1,3] Z Z)) Z λp9 _=>.nl<|.bN<|?_
   refine jA (.inr Z) rfl .nil rfl λW s=>?_;have e0:dV l ⟨q,o::r,x,false,dn⟩=fH ⟨2,0,false,0,zF⟩ (((⟨q,o::r,x,false,dn⟩:Ps)).at q.nx):=(jZ hff hno).trans (PG a50);rw [e0];exact ⟨(_,_,_,_,_,AR),⟨u1,⟨.cons S.ops (by show ¬ (2:UInt8)=5;decide) (FmR.zero rfl rfl (aO _) (aO _)),S.vls⟩⟩,Z,s.pickT (hd:=[_,_,_,_]) (tl:=(AR++bs)) (hd':=[_,_,_]) [0,1,3] rfl rfl⟩
  have a50:Rq.ac l [40] q=false:=h50;rw [kR a50];refine .sr<|.fA Z jF<|.lD Z nS cO Z<|.yw (.eql Z Z)<|.aq Z<|.cd Z (λh56=>?_) (λh56=>?_)
  ·have hk3:(tkf l q.i).k=3:=aQ.1 (by have:=aH h56;show (tkf l q.i).k.toNat=3;omega);refine .rg<|.mv Z<|.mv Z<|.cs (X:=Unit) sA Z (λW s=>wE (K.up u1.up) hq  (s.pickT (hd:=[_,_,_,_]) (tl:=(AR++bs)) (hd':=[_,_,_,_]) [0,1,2,3] Z Z)) Z λ_ _=>.yw (.build Z (AB _ _))<|.yw (.build Z (jH _ _ _ _ _))<|.cs (X:=Option Addr × Nat) fO Z (λW s=>lQ (K.up u1.up) (xB K.gd.last hq) (by simp [Value.oneCell',cH]) hn2 (s.pickT (hd:=[_,_,_,_]) (tl:=(AR++bs)) (hd':=[_,_,_,_]) [0,3,1,2] Z Z)) Z λp9 _=>.nl<|.bN<|?_
   refine jA (.inr Z) rfl .nil rfl λW s=>?_;have e0:dV l ⟨q,o::r,x,false,dn⟩=iD (tmv (.mk 1 [] (q.nbV l) [])) (((⟨q,o::r,x,false,dn⟩:Ps)).at (q.nbS l)):=(jZ hff hno).trans (PH hk3);rw [e0];exact ⟨(_,_,_,_,_,AR),⟨u1,⟨S.ops,.cons S.vls ⟨ExR.zero rfl (aO _),FmR.zero rfl rfl (aO _) (aO _)⟩⟩⟩,Z,s.pickT (hd:=[_,_,_,_]) (tl:=(AR++bs)) (hd':=[_,_,_]) [0,3,1] rfl rfl⟩
  have hk3:¬ (tkf l q.i).k=3:=λe=>aN h56 (by rw [e];rfl);refine .sr<|.fA Z jF<|.lD Z nS cO Z<|.yw (.eql Z Z)<|.aq Z<|.cd Z (λh66=>?_) (λh66=>?_)
  ·have hk1:(tkf l q.i).k=1:=aQ.1 (by have:=aH h66;show (tkf l q.i).k.toNat=1;omega);refine .rg<|.mv Z<|.cs (X:=Hp × Value × Value × List Value × List Value × List Res) LM Z (λW s=>JO (K.up u1.up) Wq S (St.mid (a:=[_,_,_]) (d:=[_]) (s.pickT (hd:=[_,_,_,_]) (tl:=(AR++bs)) (hd':=[_,_,_,_]) [0,2,3,1] Z Z))) Z λz9 hz9=>?_
   obtain ⟨H2,ro,rv,xo,xv,AR⟩:=z9;obtain ⟨u2,S⟩:=hz9;dsimp only at u2 S|-;refine Sx.reSt (λW s=>St.mid (a:=[_,_,_]) (d:=AR) (c:=[_]) s) ?_;refine .nl<|.bN<|?_
   refine jA (.inr Z) rfl .nil rfl λW s=>?_;have e0:dV l ⟨q,o::r,x,false,dn⟩=vK l ⟨q,o::r,x,false,dn⟩:=(jZ hff hno).trans (EQ hk1);rw [e0];exact ⟨(_,_,_,_,_,AR),⟨(u1.trans u2),⟨S.ops,S.vls⟩⟩,Z,s.pickT (hd:=[_,_,_,_]) (tl:=(AR++bs)) (hd':=[_,_,_]) [0,1,2] rfl rfl⟩
  have hk1:¬ (tkf l q.i).k=1:=λe=>aN h66 (by rw [e];rfl);refine .sm Z<|.cs (X:=Unit) dH Z (λW s=>eH (K.up u1.up) hq [110,111,119] (s.pickT (hd:=[_,_,_,_]) (tl:=(AR++bs)) (hd':=[_,_,_,_]) [0,1,2,3] Z Z)) Z λ_ _=>.aq Z<|.cd Z (λh72=>?_) (λh72=>?_)
  ·have a72:Rq.ac l [110,111,119] q=true:=h72;rw [kN a72];refine .rg<|.mv Z<|.yw (.build Z (LV _))<|.yw (.build Z (jH _ _ _ _ _))<|.cs (X:=Option Addr × Nat) fO Z (λW s=>lQ (K.up u1.up) (dA K.gd.last hq a72) (by simp [Value.oneCell',cH]) hn2 (s.pickT (hd:=[_,_,_,_]) (tl:=(AR++bs)) (hd':=[_,_,_,_]) [0,3,1,2] Z Z)) Z λp9 _=>.nl<|.bN<|?_
   refine jA (.inr Z) rfl .nil rfl λW s=>?_;have e0:dV l ⟨q,o::r,x,false,dn⟩=iD (tmv (.mk 4 [] 0 [])) (((⟨q,o::r,x,false,dn⟩:Ps)).at q.nx):=(jZ hff hno).trans (PI a72);rw [e0];exact ⟨(_,_,_,_,_,AR),⟨u1,⟨S.ops,.cons S.vls ⟨ExR.zero rfl (aO _),FmR.zero rfl rfl (aO _) (aO _)⟩⟩⟩,Z,s.pickT (hd:=[_,_,_,_]) (tl:=(AR++bs)) (hd':=[_,_,_]) [0,3,1] rfl rfl⟩
  have a72:Rq.ac l [110,111,119] q=false:=h72;rw [kR a72];refine .sm Z<|.cs (X:=Unit) dH Z (λW s=>eH (K.up u1.up) hq [115,105,122,101] (s.pickT (hd:=[_,_,_,_]) (tl:=(AR++bs)) (hd':=[_,_,_,_]) [0,1,2,3] Z Z)) Z λ_ _=>.aq Z<|.cd Z (λh79=>?_) (λh79=>?_)
  ·have a79:Rq.ac l [115,105,122,101] q=true:=h79;rw [kN a79];refine .sm Z<|.cs (X:=Unit) wU Z (λW s=>KC (K.up u1.up) (dA K.gd.last hq a79) 0 (s.pickT (hd:=[_,_,_,_]) (tl:=(AR++bs)) (hd':=[_,_,_,_]) [0,1,2,3] Z Z)) Z λ_ _=>.al eG Z λb4=>.sX .head Z Z cV Z<|.nt<|.rg<|.mv Z<|.fA Z fV<|.lD Z cZ Hm Z<|.yw (.app Z Z (by have h1:=gJ K (dA K.gd.last hq a79);have h2:=gJ K (kK K.gd.last (kD K.gd.last (dA K.gd.last hq a79)) (w:=[46]));show (Rq.nmV l q.nx).length+1<=_;omega))<|.fA Z fU<|.lD Z cZ Hm Z<|.yw (.app Z Z (by have h1:=gJ K (dA K.gd.last hq a79);have h2:=gJ K (kK K.gd.last (kD K.gd.last (dA K.gd.last hq a79)) (w:=[46]));simp only [aG,aJ,aM];unfold Rq.paN Rq.paF;omega))<|.yw (.build Z (vM _ _))<|.yw (.build Z (jH _ _ _ _ _))<|.cs (X:=Option Addr × Nat) fO Z (λW s=>lQ (K.up u1.up) (xZ K.gd.last (dA K.gd.last hq a79)) (by simp [Value.oneCell',cH]) hn2 (s.pickT (hd:=[_,_,_,_,_]) (tl:=(AR++bs)) (hd':=[_,_,_,_,_]) [1,4,0,2,3] Z Z)) Z λp9 _=>.nl<|.bN<|?_
   refine jA (.inr Z) rfl .nil rfl λW s=>?_;have e0:dV l ⟨q,o::r,x,false,dn⟩=iD (tmv (.mk 8 (q.nx.paN l++[46]++q.nx.paF l) 0 [])) (((⟨q,o::r,x,false,dn⟩:Ps)).at (q.nx.paS l)):=(jZ hff hno).trans (PF a79);rw [e0];exact ⟨(_,_,_,_,_,AR),⟨u1,⟨S.ops,.cons S.vls ⟨ExR.zero rfl (by have h1:=gJ K (dA K.gd.last hq a79);have h2:=gJ K (kK K.gd.last (kD K.gd.last (dA K.gd.last hq a79)) (w:=[46]));show (Rq.paN l q.nx++[46]++Rq.paF l q.nx).length<=1000000;unfold Rq.paN Rq.paF;simp only [aG,aJ,aM];omega),FmR.zero rfl rfl (aO _) (aO _)⟩⟩⟩,Z,s.pickT (hd:=[_,_,_,_,_]) (tl:=(AR++bs)) (hd':=[_,_,_]) [0,4,1] rfl rfl⟩
  have a79:Rq.ac l [115,105,122,101] q=false:=h79;rw [kR a79];refine .sm Z<|.cs (X:=Unit) dH Z (λW s=>eH (K.up u1.up) hq [116,114,117,101] (s.pickT (hd:=[_,_,_,_]) (tl:=(AR++bs)) (hd':=[_,_,_,_]) [0,1,2,3] Z Z)) Z λ_ _=>.aq Z<|.cd Z (λh94=>?_) (λh94=>?_)
  ·have a94:Rq.ac l [116,114,117,101] q=true:=h94;rw [kN a94];refine .rg<|.mv Z<|.yw (.build Z (oN _))<|.yw (.build Z (iR _ _ _ _ _ _ _))<|.cs (X:=Option Addr × Nat) fO Z (λW s=>lQ (K.up u1.up) (dA K.gd.last hq a94) (by simp [Value.oneCell',cH]) hn2 (s.pickT (hd:=[_,_,_,_]) (tl:=(AR++bs)) (hd':=[_,_,_,_]) [0,3,1,2] Z Z)) Z λp9 _=>.nl<|.bN<|?_
   refine jA (.inr Z) rfl .nil rfl λW s=>?_;have e0:dV l ⟨q,o::r,x,false,dn⟩=iD (fmv (.mk 1 [] [] 0 0 [] [])) (((⟨q,o::r,x,false,dn⟩:Ps)).at q.nx):=(jZ hff hno).trans (PD a94);rw [e0];exact ⟨(_,_,_,_,_,AR),⟨u1,⟨S.ops,.cons S.vls ⟨ExR.zero rfl (aO _),FmR.zero rfl rfl (aO _) (aO _)⟩⟩⟩,Z,s.pickT (hd:=[_,_,_,_]) (tl:=(AR++bs)) (hd':=[_,_,_]) [0,3,1] rfl rfl⟩
  have a94:Rq.ac l [116,114,117,101] q=false:=h94;rw [kR a94];refine .sm Z<|.cs (X:=Unit) dH Z (λW s=>eH (K.up u1.up) hq [102,97,108,115,101] (s.pickT (hd:=[_,_,_,_]) (tl:=(AR++bs)) (hd':=[_,_,_,_]) [0,1,2,3] Z Z)) Z λ_ _=>.aq Z<|.cd Z (λh101=>?_) (λh101=>?_)
  ·have a101:Rq.ac l [102,97,108,115,101] q=true:=h101;rw [kN a101];refine .rg<|.mv Z<|.yw (.build Z (oN _))<|.yw (.build Z (iR _ _ _ _ _ _ _))<|.cs (X:=Option Addr × Nat) fO Z (λW s=>lQ (K.up u1.up) (dA K.gd.last hq a101) (by simp [Value.oneCell',cH]) hn2 (s.pickT (hd:=[_,_,_,_]) (tl:=(AR++bs)) (hd':=[_,_,_,_]) [0,3,1,2] Z Z)) Z λp9 _=>.nl<|.bN<|?_
   refine jA (.inr Z) rfl .nil rfl λW s=>?_;have e0:dV l ⟨q,o::r,x,false,dn⟩=iD (fmv (.mk 2 [] [] 0 0 [] [])) (((⟨q,o::r,x,false,dn⟩:Ps)).at q.nx):=(jZ hff hno).trans (PN a101);rw [e0];exact ⟨(_,_,_,_,_,AR),⟨u1,⟨S.ops,.cons S.vls ⟨ExR.zero rfl (aO _),FmR.zero rfl rfl (aO _) (aO _)⟩⟩⟩,Z,s.pickT (hd:=[_,_,_,_]) (tl:=(AR++bs)) (hd':=[_,_,_]) [0,3,1] rfl rfl⟩
  have a101:Rq.ac l [102,97,108,115,101] q=false:=h101;rw [kR a101];refine .sm Z<|.cs (X:=Unit) dH Z (λW s=>eH (K.up u1.up) hq [102,108,97,103] (s.pickT (hd:=[_,_,_,_]) (tl:=(AR++bs)) (hd':=[_,_,_,_]) [0,1,2,3] Z Z)) Z λ_ _=>.aq Z<|.cd Z (λh108=>?_) (λh108=>?_)
  ·have a108:Rq.ac l [102,108,97,103] q=true:=h108;rw [kN a108];refine .rg<|.mv Z<|.mv Z<|.cs (X:=Unit) rZ Z (λW s=>DF (K.up u1.up) (dA K.gd.last hq a108)  (s.pickT (hd:=[_,_,_,_]) (tl:=(AR++bs)) (hd':=[_,_,_,_]) [0,1,2,3] Z Z)) Z λ_ _=>.yw (.build Z (vN _ _))<|.yw (.build Z (iR _ _ _ _ _ _ _))<|.cs (X:=Option Addr × Nat) fO Z (λW s=>lQ (K.up u1.up) (kD K.gd.last (dA K.gd.last hq a108)) (by simp [Value.oneCell',cH]) hn2 (s.pickT (hd:=[_,_,_,_]) (tl:=(AR++bs)) (hd':=[_,_,_,_]) [0,3,1,2] Z Z)) Z λp9 _=>.nl<|.bN<|?_
   refine jA (.inr Z) rfl .nil rfl λW s=>?_;have e0:dV l ⟨q,o::r,x,false,dn⟩=iD (fmv (.mk 6 (q.nx.nmV l) [] 0 0 [] [])) (((⟨q,o::r,x,false,dn⟩:Ps)).at (q.nx.nmS l)):=(jZ hff hno).trans (PM a108);rw [e0];exact ⟨(_,_,_,_,_,AR),⟨u1,⟨S.ops,.cons S.vls ⟨ExR.zero rfl (aO _),FmR.zero rfl rfl (aZ (gJ K (dA K.gd.last hq a108)) (by decide)) (aO _)⟩⟩⟩,Z,s.pickT (hd:=[_,_,_,_]) (tl:=(AR++bs)) (hd':=[_,_,_]) [0,3,1] rfl rfl⟩
  have a108:Rq.ac l [102,108,97,103] q=false:=h108;rw [kR a108];refine .sm Z<|.cs (X:=Unit) dH Z (λW s=>eH (K.up u1.up) hq [104,97,115] (s.pickT (hd:=[_,_,_,_]) (tl:=(AR++bs)) (hd':=[_,_,_,_]) [0,1,2,3] Z Z)) Z λ_ _=>.aq Z<|.cd Z (λh117=>?_) (λh117=>?_)
  ·have a117:Rq.ac l [104,97,115] q=true:=h117;rw [kN a117];refine .sm Z<|.cs (X:=Unit) wU Z (λW s=>KC (K.up u1.up) (dA K.gd.last hq a117) 5 (s.pickT (hd:=[_,_,_,_]) (tl:=(AR++bs)) (hd':=[_,_,_,_]) [0,1,2,3] Z Z)) Z λ_ _=>.al eG Z λb5=>.sX .head Z Z cV Z<|.ns<|.mv Z<|.cs (X:=Unit) nD Z (λW s=>rO (K.up u1.up) (xZ K.gd.last (dA K.gd.last hq a117)) [91] (s.pickT (hd:=[_,_,_,_,_]) (tl:=(AR++bs)) (hd':=[_,_,_,_,_]) [1,0,2,3,4] Z Z)) Z λ_ _=>.nt<|.rg<|.mv Z<|.yw (.loadW Z cD cO Z)<|.yw (.build Z (wV _ _ _ _ _ _ _ _ _))<|.cs (X:=Option Addr × Nat) fX Z (λW s=>mH (K.up u1.up) (kK K.gd.last (xZ K.gd.last (dA K.gd.last hq a117))) (by simp [Value.oneCell',cH]) (aZ hn1 (by decide)) (t':=false) (λh=>absurd h (Nat.lt_irrefl 0)) (s.pickT (hd:=[_,_,_,_,_]) (tl:=(AR++bs)) (hd':=[_,_,_,_,_]) [0,3,1,2,4] Z Z)) Z λp9 _=>.nl<|.bN<|?_
   refine jA (.inr Z) rfl .nil rfl λW s=>?_;have e0:dV l ⟨q,o::r,x,false,dn⟩=fH ⟨4,0,true,0,q.nx.paV l 5⟩ (((⟨q,o::r,x,false,dn⟩:Ps)).at ((q.nx.paS l).exS l [91])):=(jZ hff hno).trans (PL a117);rw [e0];exact ⟨(_,_,_,_,_,AR),⟨u1,⟨.cons S.ops (by show ¬ (4:UInt8)=5;decide) (FmR.zero rfl rfl (aZ (gJ K (dA K.gd.last hq a117)) (by decide)) (aZ (gJ K (kK K.gd.last (kD K.gd.last (dA K.gd.last hq a117)))) (by decide))),S.vls⟩⟩,Z,s.pickT (hd:=[_,_,_,_,_]) (tl:=(AR++bs)) (hd':=[_,_,_]) [0,1,4] rfl rfl⟩
  have a117:Rq.ac l [104,97,115] q=false:=h117;rw [kR a117];refine .sm Z<|.cs (X:=Unit) dH Z (λW s=>eH (K.up u1.up) hq [97,114,114,105,118,101,115] (s.pickT (hd:=[_,_,_,_]) (tl:=(AR++bs)) (hd':=[_,_,_,_]) [0,1,2,3] Z Z)) Z λ_ _=>.aq Z<|.cd Z (λh128=>?_) (λh128=>?_)
  ·have a128:Rq.ac l [97,114,114,105,118,101,115] q=true:=h128;rw [kN a128];refine .rg<|.mv Z<|.cs (X:=Hp × Value × Value × List Value × List Value × List Res) LL Z (λW s=>NP (K.up u1.up) (JM (q:=⟨q,o::r,x,false,dn⟩) (c:=q.nx) Wq (dA K.gd.last hq a128) (Nat.le_succ _)) S.at (St.mid (a:=[_,_,_]) (d:=[_]) (s.pickT (hd:=[_,_,_,_]) (tl:=(AR++bs)) (hd':=[_,_,_,_]) [0,2,3,1] Z Z))) Z λz9 hz9=>?_
   obtain ⟨H2,ro,rv,xo,xv,AR⟩:=z9;obtain ⟨u2,S⟩:=hz9;dsimp only at u2 S|-;refine Sx.reSt (λW s=>St.mid (a:=[_,_,_]) (d:=AR) (c:=[_]) s) ?_;refine .nl<|.bN<|?_
   refine jA (.inr Z) rfl .nil rfl λW s=>?_;have e0:dV l ⟨q,o::r,x,false,dn⟩=yL l (((⟨q,o::r,x,false,dn⟩:Ps)).at q.nx):=(jZ hff hno).trans (IW a128);rw [e0];exact ⟨(_,_,_,_,_,AR),⟨(u1.trans u2),⟨S.ops,S.vls⟩⟩,Z,s.pickT (hd:=[_,_,_,_]) (tl:=(AR++bs)) (hd':=[_,_,_]) [0,1,2] rfl rfl⟩
  have a128:Rq.ac l [97,114,114,105,118,101,115] q=false:=h128;rw [kR a128];refine .rg<|.mv Z<|.cs (X:=Unit) iQ Z (λW s=>pY (K.up u1.up) hq 8 (s.pickT (hd:=[_,_,_,_]) (tl:=(AR++bs)) (hd':=[_,_,_,_]) [0,1,2,3] Z Z)) Z λ_ _=>.nl<|.bN<|?_
  refine jA (.inr Z) rfl .nil rfl λW s=>?_
  have e0:dV l ⟨q,o::r,x,false,dn⟩=(((⟨q,o::r,x,false,dn⟩:Ps)).at (q.fail l 8)):=(jZ hff hno).trans (PJ a44 hk3 hk1 (λw hw=>by
   simp only [aO5,bQ,List.not_mem_nil,or_false] at hw;rcases hw with rfl | rfl | rfl | rfl | rfl | rfl | rfl | rfl
   ·exact a72
   ·exact a94
   ·exact a101
   ·exact a108
   ·exact a117
   ·exact a128
   ·exact a79
   ·exact a50))
  rw [e0];exact ⟨(_,_,_,_,_,AR),⟨u1,⟨S.ops,S.vls⟩⟩,Z,s.pickT (hd:=[_,_,_,_]) (tl:=(AR++bs)) (hd':=[_,_,_]) [0,2,3] rfl rfl⟩
 have hff:xS ⟨q,o::r,x,false,dn⟩=false\/mD l ⟨q,o::r,x,false,dn⟩=none:=.inl (by rw [<-ef];exact h26);refine .gG<|.gG<|.yw (.pickF Z Z)<|.aq Z<|.cF Z<|.cu (X:=Bool) [(0,_),(2,_)] ⟨Z,Z,Jt⟩ (λz=>[(30,.bool z)]) (λz=>H) (λz=>(.box b2 (cTk .u8 (tkf l q.i)) 108::.box b [.slice tp l.length tc,iN ((if z then Rq.nx q else q).i),(.slice (some ⟨g,0,none⟩) (o::r).length c),rv,.bool false,.bool dn,.bool x.2,iN ((if z then Rq.nx q else q).off),iN ((if z then Rq.nx q else q).er)] 102::.row 97 11 ((.slice (some ⟨g,0,none⟩) (o::r).length c)) ((o::r).length) ((xr++oC o s1 s2))::.row 179 13 (rv) (x.1.length) (xv)::(AR++bs))) (λz=>z=(decide (o.kd=5) && Rq.ac l [95] q)) ?_ λz hC=>?_
 ·
  refine .rg<|.mv Z<|.cs (X:=Unit) lU Z (λW s=>AL K hq (g:=g) (k:=r.length) (c:=c) (by omega) (s.pickT (hd:=[_,_,_,_]) (tl:=(AR++bs)) (hd':=[_,_,_,_]) [1,0,2,3] Z Z)) Z λ_ _=>.nC Z<|.fA Z gN<|.yw (.loadR1 Z lV mY (kC hlo Z))<|.yw (.eql Z Z)<|.mv Z<|.b2 (λh37=>?_) (λh37=>?_)
  ·have hk5:o.kd=5:=aQ.1 (by have:=aH h37;show o.kd.toNat=5;omega);exact .gy (.move Z)<|.gd Z Z<|.cs (X:=Unit) dH Z (λW s=>eH K hq [95] (s.pickT (hd:=[_,_,_,_]) (tl:=(AR++bs)) (hd':=[_,_,_,_]) [0,1,2,3] Z Z)) Z λ_ _=>.yw (.pickT Z Z)<|.aq Z<|.me _ ⟨Z,Jt⟩ ⟨Z,Z,Jt⟩ (λ_ s=>(s.pickT (hd:=[_,_,_,_]) (tl:=(AR++bs)) (hd':=[_,_,_,_]) [1,0,2,3] Z Z)) (by first | rw [aS hk5,aA] | (rw [aP hk5];rfl))
  have hk5:¬ o.kd=5:=λe=>aN h37 (by rw [e];rfl);exact .gG<|.gG<|.yw (.pickF Z Z)<|.aq Z<|.me _ ⟨Z,Jt⟩ ⟨Z,Z,Jt⟩ (λ_ s=>(s.pickT (hd:=[_,_,_,_]) (tl:=(AR++bs)) (hd':=[_,_,_,_]) [1,0,2,3] Z Z)) (by first | rw [aS hk5,aA] | (rw [aP hk5];rfl))
 have ez:=hC;refine .cd Z (λh30=>?_) (λh30=>?_)
 ·rw [h30] at ez;have ez2:=aE _ _ |>.mp ez.symm
  rw [aL h30];refine .rg<|.mv Z<|.yw (.build Z (DA _ _))<|.cs (X:=Option Addr × Nat) fO Z (λW s=>lQ K (dA K.gd.last hq ez2.2) (by simp [Value.oneCell',cH]) hn2 (s.pickT (hd:=[_,_,_,_]) (tl:=(AR++bs)) (hd':=[_,_,_,_]) [1,3,0,2] Z Z)) Z λp9 _=>.nl<|.bN<|?_
  refine jA (.inr Z) rfl .nil rfl λW s=>?_;have e0:dV l ⟨q,o::r,x,false,dn⟩=iD ⟨true,true,zE,zF⟩ (((⟨q,o::r,x,false,dn⟩:Ps)).at q.nx):=YS hff (aH ez2.1) ez2.2;rw [e0];exact ⟨(_,_,_,_,_,AR),⟨.refl,⟨S.ops,.cons S.vls ⟨ExR.zero rfl (aO _),FmR.zero rfl rfl (aO _) (aO _)⟩⟩⟩,Z,s.pickT (hd:=[_,_,_,_]) (tl:=(AR++bs)) (hd':=[_,_,_]) [0,3,1] rfl rfl⟩
 rw [h30] at ez
 have hno:(dM (⟨q,o::r,x,false,dn⟩:Ps)).kd=5->Rq.ac l [95] q=false:=λe=>by
  have e3:(false:Bool)=(decide (o.kd=5) && Rq.ac l [95] q):=ez;rw [aS (show o.kd=5 from e),aA] at e3;exact e3.symm
 rw [aF (by rw [h30];decide)];refine .sm Z<|.cs (X:=Unit) dH Z (λW s=>eH K hq [45] (s.pickT (hd:=[_,_,_,_]) (tl:=(AR++bs)) (hd':=[_,_,_,_]) [1,0,2,3] Z Z)) Z λ_ _=>.aq Z<|.cd Z (λh44=>?_) (λh44=>?_)
 ·have a44:Rq.ac l [45] q=true:=h44;rw [kN a44];refine .rg<|.mv Z<|.yw (.build Z (FY _ _))<|.cs (X:=Option Addr × Nat) fX Z (λW s=>mH K (dA K.gd.last hq a44) (by simp [Value.oneCell',cH]) (aZ hn1 (by decide)) (λ_=>S.ops.tm hne) (s.pickT (hd:=[_,_,_,_]) (tl:=(AR++bs)) (hd':=[_,_,_,_]) [0,2,1,3] Z Z)) Z λp9 _=>.nl<|.bN<|?_
  refine jA (.inr Z) rfl .nil rfl λW s=>?_;have e0:dV l ⟨q,o::r,x,false,dn⟩=fH ⟨10,9,false,0,zF⟩ (((⟨q,o::r,x,false,dn⟩:Ps)).at q.nx):=(jZ hff hno).trans (PK a44);rw [e0];exact ⟨(_,_,_,_,_,AR),⟨.refl,⟨.cons S.ops (by show ¬ (10:UInt8)=5;decide) (FmR.zero rfl rfl (aO _) (aO _)),S.vls⟩⟩,Z,s.pickT (hd:=[_,_,_,_]) (tl:=(AR++bs)) (hd':=[_,_,_]) [0,1,3] rfl rfl⟩
 have a44:Rq.ac l [45] q=false:=h44;rw [kR a44];refine .sm Z<|.cs (X:=Unit) dH Z (λW s=>eH K hq [40] (s.pickT (hd:=[_,_,_,_]) (tl:=(AR++bs)) (hd':=[_,_,_,_]) [0,1,2,3] Z Z)) Z λ_ _=>.aq Z<|.cd Z (λh50=>?_) (λh50=>?_)
 ·have a50:Rq.ac l [40] q=true:=h50;rw [kN a50];refine .rg<|.mv Z<|.yw (.build Z (DY _))<|.cs (X:=Option Addr × Nat) fX Z (λW s=>mH K (dA K.gd.last hq a50) (by simp [Value.oneCell',cH]) (aZ hn1 (by decide)) (t':=false) (λh=>absurd h (Nat.lt_irrefl 0)) (s.pickT (hd:=[_,_,_,_]) (tl:=(AR++bs)) (hd':=[_,_,_,_]) [0,2,1,3] Z Z)) Z λp9 _=>.nl<|.bN<|?_
  refine jA (.inr Z) rfl .nil rfl λW s=>?_;have e0:dV l ⟨q,o::r,x,false,dn⟩=fH ⟨2,0,false,0,zF⟩ (((⟨q,o::r,x,false,dn⟩:Ps)).at q.nx):=(jZ hff hno).trans (PG a50);rw [e0];exact ⟨(_,_,_,_,_,AR),⟨.refl,⟨.cons S.ops (by show ¬ (2:UInt8)=5;decide) (FmR.zero rfl rfl (aO _) (aO _)),S.vls⟩⟩,Z,s.pickT (hd:=[_,_,_,_]) (tl:=(AR++bs)) (hd':=[_,_,_]) [0,1,3] rfl rfl⟩
 have a50:Rq.ac l [40] q=false:=h50;rw [kR a50];refine .sr<|.fA Z jF<|.lD Z nS cO Z<|.yw (.eql Z Z)<|.aq Z<|.cd Z (λh56=>?_) (λh56=>?_)
 ·have hk3:(tkf l q.i).k=3:=aQ.1 (by have:=aH h56;show (tkf l q.i).k.toNat=3;omega);refine .rg<|.mv Z<|.mv Z<|.cs (X:=Unit) sA Z (λW s=>wE K hq  (s.pickT (hd:=[_,_,_,_]) (tl:=(AR++bs)) (hd':=[_,_,_,_]) [0,1,2,3] Z Z)) Z λ_ _=>.yw (.build Z (AB _ _))<|.yw (.build Z (jH _ _ _ _ _))<|.cs (X:=Option Addr × Nat) fO Z (λW s=>lQ K (xB K.gd.last hq) (by simp [Value.oneCell',cH]) hn2 (s.pickT (hd:=[_,_,_,_]) (tl:=(AR++bs)) (hd':=[_,_,_,_]) [0,3,1,2] Z Z)) Z λp9 _=>.nl<|.bN<|?_
  refine jA (.inr Z) rfl .nil rfl λW s=>?_;have e0:dV l ⟨q,o::r,x,false,dn⟩=iD (tmv (.mk 1 [] (q.nbV l) [])) (((⟨q,o::r,x,false,dn⟩:Ps)).at (q.nbS l)):=(jZ hff hno).trans (PH hk3);rw [e0];exact ⟨(_,_,_,_,_,AR),⟨.refl,⟨S.ops,.cons S.vls ⟨ExR.zero rfl (aO _),FmR.zero rfl rfl (aO _) (aO _)⟩⟩⟩,Z,s.pickT (hd:=[_,_,_,_]) (tl:=(AR++bs)) (hd':=[_,_,_]) [0,3,1] rfl rfl⟩
 have hk3:¬ (tkf l q.i).k=3:=λe=>aN h56 (by rw [e];rfl);refine .sr<|.fA Z jF<|.lD Z nS cO Z<|.yw (.eql Z Z)<|.aq Z<|.cd Z (λh66=>?_) (λh66=>?_)
 ·have hk1:(tkf l q.i).k=1:=aQ.1 (by have:=aH h66;show (tkf l q.i).k.toNat=1;omega);refine .rg<|.mv Z<|.cs (X:=Hp × Value × Value × List Value × List Value × List Res) LM Z (λW s=>JO K Wq S (St.mid (a:=[_,_,_]) (d:=[_]) (s.pickT (hd:=[_,_,_,_]) (tl:=(AR++bs)) (hd':=[_,_,_,_]) [0,2,3,1] Z Z))) Z λz9 hz9=>?_
  obtain ⟨H1,ro,rv,xo,xv,AR⟩:=z9;obtain ⟨u1,S⟩:=hz9;dsimp only at u1 S|-;refine Sx.reSt (λW s=>St.mid (a:=[_,_,_]) (d:=AR) (c:=[_]) s) ?_;refine .nl<|.bN<|?_
  refine jA (.inr Z) rfl .nil rfl λW s=>?_;have e0:dV l ⟨q,o::r,x,false,dn⟩=vK l ⟨q,o::r,x,false,dn⟩:=(jZ hff hno).trans (EQ hk1);rw [e0];exact ⟨(_,_,_,_,_,AR),⟨u1,⟨S.ops,S.vls⟩⟩,Z,s.pickT (hd:=[_,_,_,_]) (tl:=(AR++bs)) (hd':=[_,_,_]) [0,1,2] rfl rfl⟩
 have hk1:¬ (tkf l q.i).k=1:=λe=>aN h66 (by rw [e];rfl);refine .sm Z<|.cs (X:=Unit) dH Z (λW s=>eH K hq [110,111,119] (s.pickT (hd:=[_,_,_,_]) (tl:=(AR++bs)) (hd':=[_,_,_,_]) [0,1,2,3] Z Z)) Z λ_ _=>.aq Z<|.cd Z (λh72=>?_) (λh72=>?_)
 ·have a72:Rq.ac l [110,111,119] q=true:=h72;rw [kN a72];refine .rg<|.mv Z<|.yw (.build Z (LV _))<|.yw (.build Z (jH _ _ _ _ _))<|.cs (X:=Option Addr × Nat) fO Z (λW s=>lQ K (dA K.gd.last hq a72) (by simp [Value.oneCell',cH]) hn2 (s.pickT (hd:=[_,_,_,_]) (tl:=(AR++bs)) (hd':=[_,_,_,_]) [0,3,1,2] Z Z)) Z λp9 _=>.nl<|.bN<|?_
  refine jA (.inr Z) rfl .nil rfl λW s=>?_;have e0:dV l ⟨q,o::r,x,false,dn⟩=iD (tmv (.mk 4 [] 0 [])) (((⟨q,o::r,x,false,dn⟩:Ps)).at q.nx):=(jZ hff hno).trans (PI a72);rw [e0];exact ⟨(_,_,_,_,_,AR),⟨.refl,⟨S.ops,.cons S.vls ⟨ExR.zero rfl (aO _),FmR.zero rfl rfl (aO _) (aO _)⟩⟩⟩,Z,s.pickT (hd:=[_,_,_,_]) (tl:=(AR++bs)) (hd':=[_,_,_]) [0,3,1] rfl rfl⟩
 have a72:Rq.ac l [110,111,119] q=false:=h72;rw [kR a72];refine .sm Z<|.cs (X:=Unit) dH Z (λW s=>eH K hq [115,105,122,101] (s.pickT (hd:=[_,_,_,_]) (tl:=(AR++bs)) (hd':=[_,_,_,_]) [0,1,2,3] Z Z)) Z λ_ _=>.aq Z<|.cd Z (λh79=>?_) (λh79=>?_)
 ·have a79:Rq.ac l [115,105,122,101] q=true:=h79;rw [kN a79];refine .sm Z<|.cs (X:=Unit) wU Z (λW s=>KC K (dA K.gd.last hq a79) 0 (s.pickT (hd:=[_,_,_,_]) (tl:=(AR++bs)) (hd':=[_,_,_,_]) [0,1,2,3] Z Z)) Z λ_ _=>.al eG Z λb4=>.sX .head Z Z cV Z<|.nt<|.rg<|.mv Z<|.fA Z fV<|.lD Z cZ Hm Z<|.yw (.app Z Z (by have h1:=gJ K (dA K.gd.last hq a79);have h2:=gJ K (kK K.gd.last (kD K.gd.last (dA K.gd.last hq a79)) (w:=[46]));show (Rq.nmV l q.nx).length+1<=_;omega))<|.fA Z fU<|.lD Z cZ Hm Z<|.yw (.app Z Z (by have h1:=gJ K (dA K.gd.last hq a79);have h2:=gJ K (kK K.gd.last (kD K.gd.last (dA K.gd.last hq a79)) (w:=[46]));simp only [aG,aJ,aM];unfold Rq.paN Rq.paF;omega))<|.yw (.build Z (vM _ _))<|.yw (.build Z (jH _ _ _ _ _))<|.cs (X:=Option Addr × Nat) fO Z (λW s=>lQ K (xZ K.gd.last (dA K.gd.last hq a79)) (by simp [Value.oneCell',cH]) hn2 (s.pickT (hd:=[_,_,_,_,_]) (tl:=(AR++bs)) (hd':=[_,_,_,_,_]) [1,4,0,2,3] Z Z)) Z λp9 _=>.nl<|.bN<|?_
  refine jA (.inr Z) rfl .nil rfl λW s=>?_;have e0:dV l ⟨q,o::r,x,false,dn⟩=iD (tmv (.mk 8 (q.nx.paN l++[46]++q.nx.paF l) 0 [])) (((⟨q,o::r,x,false,dn⟩:Ps)).at (q.nx.paS l)):=(jZ hff hno).trans (PF a79);rw [e0];exact ⟨(_,_,_,_,_,AR),⟨.refl,⟨S.ops,.cons S.vls ⟨ExR.zero rfl (by have h1:=gJ K (dA K.gd.last hq a79);have h2:=gJ K (kK K.gd.last (kD K.gd.last (dA K.gd.last hq a79)) (w:=[46]));show (Rq.paN l q.nx++[46]++Rq.paF l q.nx).length<=1000000;unfold Rq.paN Rq.paF;simp only [aG,aJ,aM];omega),FmR.zero rfl rfl (aO _) (aO _)⟩⟩⟩,Z,s.pickT (hd:=[_,_,_,_,_]) (tl:=(AR++bs)) (hd':=[_,_,_]) [0,4,1] rfl rfl⟩
 have a79:Rq.ac l [115,105,122,101] q=false:=h79;rw [kR a79];refine .sm Z<|.cs (X:=Unit) dH Z (λW s=>eH K hq [116,114,117,101] (s.pickT (hd:=[_,_,_,_]) (tl:=(AR++bs)) (hd':=[_,_,_,_]) [0,1,2,3] Z Z)) Z λ_ _=>.aq Z<|.cd Z (λh94=>?_) (λh94=>?_)
 ·have a94:Rq.ac l [116,114,117,101] q=true:=h94;rw [kN a94];refine .rg<|.mv Z<|.yw (.build Z (oN _))<|.yw (.build Z (iR _ _ _ _ _ _ _))<|.cs (X:=Option Addr × Nat) fO Z (λW s=>lQ K (dA K.gd.last hq a94) (by simp [Value.oneCell',cH]) hn2 (s.pickT (hd:=[_,_,_,_]) (tl:=(AR++bs)) (hd':=[_,_,_,_]) [0,3,1,2] Z Z)) Z λp9 _=>.nl<|.bN<|?_
  refine jA (.inr Z) rfl .nil rfl λW s=>?_;have e0:dV l ⟨q,o::r,x,false,dn⟩=iD (fmv (.mk 1 [] [] 0 0 [] [])) (((⟨q,o::r,x,false,dn⟩:Ps)).at q.nx):=(jZ hff hno).trans (PD a94);rw [e0];exact ⟨(_,_,_,_,_,AR),⟨.refl,⟨S.ops,.cons S.vls ⟨ExR.zero rfl (aO _),FmR.zero rfl rfl (aO _) (aO _)⟩⟩⟩,Z,s.pickT (hd:=[_,_,_,_]) (tl:=(AR++bs)) (hd':=[_,_,_]) [0,3,1] rfl rfl⟩
 have a94:Rq.ac l [116,114,117,101] q=false:=h94;rw [kR a94];refine .sm Z<|.cs (X:=Unit) dH Z (λW s=>eH K hq [102,97,108,115,101] (s.pickT (hd:=[_,_,_,_]) (tl:=(AR++bs)) (hd':=[_,_,_,_]) [0,1,2,3] Z Z)) Z λ_ _=>.aq Z<|.cd Z (λh101=>?_) (λh101=>?_)
 ·have a101:Rq.ac l [102,97,108,115,101] q=true:=h101;rw [kN a101];refine .rg<|.mv Z<|.yw (.build Z (oN _))<|.yw (.build Z (iR _ _ _ _ _ _ _))<|.cs (X:=Option Addr × Nat) fO Z (λW s=>lQ K (dA K.gd.last hq a101) (by simp [Value.oneCell',cH]) hn2 (s.pickT (hd:=[_,_,_,_]) (tl:=(AR++bs)) (hd':=[_,_,_,_]) [0,3,1,2] Z Z)) Z λp9 _=>.nl<|.bN<|?_
  refine jA (.inr Z) rfl .nil rfl λW s=>?_;have e0:dV l ⟨q,o::r,x,false,dn⟩=iD (fmv (.mk 2 [] [] 0 0 [] [])) (((⟨q,o::r,x,false,dn⟩:Ps)).at q.nx):=(jZ hff hno).trans (PN a101);rw [e0];exact ⟨(_,_,_,_,_,AR),⟨.refl,⟨S.ops,.cons S.vls ⟨ExR.zero rfl (aO _),FmR.zero rfl rfl (aO _) (aO _)⟩⟩⟩,Z,s.pickT (hd:=[_,_,_,_]) (tl:=(AR++bs)) (hd':=[_,_,_]) [0,3,1] rfl rfl⟩
 have a101:Rq.ac l [102,97,108,115,101] q=false:=h101;rw [kR a101];refine .sm Z<|.cs (X:=Unit) dH Z (λW s=>eH K hq [102,108,97,103] (s.pickT (hd:=[_,_,_,_]) (tl:=(AR++bs)) (hd':=[_,_,_,_]) [0,1,2,3] Z Z)) Z λ_ _=>.aq Z<|.cd Z (λh108=>?_) (λh108=>?_)
 ·have a108:Rq.ac l [102,108,97,103] q=true:=h108;rw [kN a108];refine .rg<|.mv Z<|.mv Z<|.cs (X:=Unit) rZ Z (λW s=>DF K (dA K.gd.last hq a108)  (s.pickT (hd:=[_,_,_,_]) (tl:=(AR++bs)) (hd':=[_,_,_,_]) [0,1,2,3] Z Z)) Z λ_ _=>.yw (.build Z (vN _ _))<|.yw (.build Z (iR _ _ _ _ _ _ _))<|.cs (X:=Option Addr × Nat) fO Z (λW s=>lQ K (kD K.gd.last (dA K.gd.last hq a108)) (by simp [Value.oneCell',cH]) hn2 (s.pickT (hd:=[_,_,_,_]) (tl:=(AR++bs)) (hd':=[_,_,_,_]) [0,3,1,2] Z Z)) Z λp9 _=>.nl<|.bN<|?_
  refine jA (.inr Z) rfl .nil rfl λW s=>?_;have e0:dV l ⟨q,o::r,x,false,dn⟩=iD (fmv (.mk 6 (q.nx.nmV l) [] 0 0 [] [])) (((⟨q,o::r,x,false,dn⟩:Ps)).at (q.nx.nmS l)):=(jZ hff hno).trans (PM a108);rw [e0];exact ⟨(_,_,_,_,_,AR),⟨.refl,⟨S.ops,.cons S.vls ⟨ExR.zero rfl (aO _),FmR.zero rfl rfl (aZ (gJ K (dA K.gd.last hq a108)) (by decide)) (aO _)⟩⟩⟩,Z,s.pickT (hd:=[_,_,_,_]) (tl:=(AR++bs)) (hd':=[_,_,_]) [0,3,1] rfl rfl⟩
 have a108:Rq.ac l [102,108,97,103] q=false:=h108;rw [kR a108];refine .sm Z<|.cs (X:=Unit) dH Z (λW s=>eH K hq [104,97,115] (s.pickT (hd:=[_,_,_,_]) (tl:=(AR++bs)) (hd':=[_,_,_,_]) [0,1,2,3] Z Z)) Z λ_ _=>.aq Z<|.cd Z (λh117=>?_) (λh117=>?_)
 ·have a117:Rq.ac l [104,97,115] q=true:=h117;rw [kN a117];refine .sm Z<|.cs (X:=Unit) wU Z (λW s=>KC K (dA K.gd.last hq a117) 5 (s.pickT (hd:=[_,_,_,_]) (tl:=(AR++bs)) (hd':=[_,_,_,_]) [0,1,2,3] Z Z)) Z λ_ _=>.al eG Z λb5=>.sX .head Z Z cV Z<|.ns<|.mv Z<|.cs (X:=Unit) nD Z (λW s=>rO K (xZ K.gd.last (dA K.gd.last hq a117)) [91] (s.pickT (hd:=[_,_,_,_,_]) (tl:=(AR++bs)) (hd':=[_,_,_,_,_]) [1,0,2,3,4] Z Z)) Z λ_ _=>.nt<|.rg<|.mv Z<|.yw (.loadW Z cD cO Z)<|.yw (.build Z (wV _ _ _ _ _ _ _ _ _))<|.cs (X:=Option Addr × Nat) fX Z (λW s=>mH K (kK K.gd.last (xZ K.gd.last (dA K.gd.last hq a117))) (by simp [Value.oneCell',cH]) (aZ hn1 (by decide)) (t':=false) (λh=>absurd h (Nat.lt_irrefl 0)) (s.pickT (hd:=[_,_,_,_,_]) (tl:=(AR++bs)) (hd':=[_,_,_,_,_]) [0,3,1,2,4] Z Z)) Z λp9 _=>.nl<|.bN<|?_
  refine jA (.inr Z) rfl .nil rfl λW s=>?_;have e0:dV l ⟨q,o::r,x,false,dn⟩=fH ⟨4,0,true,0,q.nx.paV l 5⟩ (((⟨q,o::r,x,false,dn⟩:Ps)).at ((q.nx.paS l).exS l [91])):=(jZ hff hno).trans (PL a117);rw [e0];exact ⟨(_,_,_,_,_,AR),⟨.refl,⟨.cons S.ops (by show ¬ (4:UInt8)=5;decide) (FmR.zero rfl rfl (aZ (gJ K (dA K.gd.last hq a117)) (by decide)) (aZ (gJ K (kK K.gd.last (kD K.gd.last (dA K.gd.last hq a117)))) (by decide))),S.vls⟩⟩,Z,s.pickT (hd:=[_,_,_,_,_]) (tl:=(AR++bs)) (hd':=[_,_,_]) [0,1,4] rfl rfl⟩
 have a117:Rq.ac l [104,97,115] q=false:=h117;rw [kR a117];refine .sm Z<|.cs (X:=Unit) dH Z (λW s=>eH K hq [97,114,114,105,118,101,115] (s.pickT (hd:=[_,_,_,_]) (tl:=(AR++bs)) (hd':=[_,_,_,_]) [0,1,2,3] Z Z)) Z λ_ _=>.aq Z<|.cd Z (λh128=>?_) (λh128=>?_)
 ·have a128:Rq.ac l [97,114,114,105,118,101,115] q=true:=h128;rw [kN a128];refine .rg<|.mv Z<|.cs (X:=Hp × Value × Value × List Value × List Value × List Res) LL Z (λW s=>NP K (JM (q:=⟨q,o::r,x,false,dn⟩) (c:=q.nx) Wq (dA K.gd.last hq a128) (Nat.le_succ _)) S.at (St.mid (a:=[_,_,_]) (d:=[_]) (s.pickT (hd:=[_,_,_,_]) (tl:=(AR++bs)) (hd':=[_,_,_,_]) [0,2,3,1] Z Z))) Z λz9 hz9=>?_
  obtain ⟨H1,ro,rv,xo,xv,AR⟩:=z9;obtain ⟨u1,S⟩:=hz9;dsimp only at u1 S|-;refine Sx.reSt (λW s=>St.mid (a:=[_,_,_]) (d:=AR) (c:=[_]) s) ?_;refine .nl<|.bN<|?_
  refine jA (.inr Z) rfl .nil rfl λW s=>?_;have e0:dV l ⟨q,o::r,x,false,dn⟩=yL l (((⟨q,o::r,x,false,dn⟩:Ps)).at q.nx):=(jZ hff hno).trans (IW a128);rw [e0];exact ⟨(_,_,_,_,_,AR),⟨u1,⟨S.ops,S.vls⟩⟩,Z,s.pickT (hd:=[_,_,_,_]) (tl:=(AR++bs)) (hd':=[_,_,_]) [0,1,2] rfl rfl⟩
 have a128:Rq.ac l [97,114,114,105,118,101,115] q=false:=h128;rw [kR a128];refine .rg<|.mv Z<|.cs (X:=Unit) iQ Z (λW s=>pY K hq 8 (s.pickT (hd:=[_,_,_,_]) (tl:=(AR++bs)) (hd':=[_,_,_,_]) [0,1,2,3] Z Z)) Z λ_ _=>.nl<|.bN<|?_
 refine jA (.inr Z) rfl .nil rfl λW s=>?_
 have e0:dV l ⟨q,o::r,x,false,dn⟩=(((⟨q,o::r,x,false,dn⟩:Ps)).at (q.fail l 8)):=(jZ hff hno).trans (PJ a44 hk3 hk1 (λw hw=>by
  simp only [aO5,bQ,List.not_mem_nil,or_false] at hw;rcases hw with rfl | rfl | rfl | rfl | rfl | rfl | rfl | rfl
  ·exact a72
  ·exact a94
  ·exact a101
  ·exact a108
  ·exact a117
  ·exact a128
  ·exact a79
  ·exact a50))
 rw [e0];exact ⟨(_,_,_,_,_,AR),⟨.refl,⟨S.ops,S.vls⟩⟩,Z,s.pickT (hd:=[_,_,_,_]) (tl:=(AR++bs)) (hd':=[_,_,_]) [0,2,3] rfl rfl⟩
def QN:List Str:=[[],[116,114,117,101],[102,97,108,115,101],[],[],[104,97,115],[102,108,97,103],[97,114,114,105,118,101,115],[110,111,116],[97,110,100],[111,114],[105,109,112,108,105,101,115],[112,114,101,118,105,111,117,115],[111,110,99,101],[97,108,119,97,121,115],[115,105,110,99,101],[102,111,114,97,108,108],[101,120,105,115,116,115],[99,111,117,110,116]]
def iB (op:UInt8):Str:=QN.getD op.toNat []
def wZ (op:UInt8):Str:=lR.getD op.toNat []
def tlv (op:UInt8):Nat:=if op=14\/op=15 then 4 else if op=11\/op=12\/op=13 then 5 else if op=9 then 6 else 7
def yG (b:Bool) (s:Str):Str:=if b then [40]++s++[41] else s
def VI (op:UInt8) (nm:Str) (n:Int64) (l:List (UInt8 × Str)):Str :=
 if op=1 then Lib.itoa n.toInt
 else if op=4 then [110,111,119]
 else if op=5 then nm
 else if op=6 then nm++[91]++(l.headD (0,[])).2++[93]
 else if op=8 then [115,105,122,101,32]++nm
 else if op=9 then [45]++yG (decide (tlv (l.headD (0,[])).1<6)) (l.headD (0,[])).2
 else if op=11\/op=12\/op=13\/op=14\/op=15 then
  yG (decide (tlv (l.headD (0,[])).1<tlv op)) (l.headD (0,[])).2++[32]++wZ op++[32]++yG (decide (tlv ((l.drop 1).headD (0,[])).1<tlv op+1)) ((l.drop 1).headD (0,[])).2
 else [95]
mutual
def tmT:Ex->Str
 | .mk op nm n args=>VI op nm n (aL4 args)
def aL4:List Ex->List (UInt8 × Str)
 | []=>[]
 | e::r=>(e.op,tmT e)::aL4 r
end
def vJ (f:Fm):Str:=if !(cK f.op).wn || decide (f.b.toInt<0) then [] else [91]++Lib.itoa f.a.toInt++[44,32]++Lib.itoa f.b.toInt++[93]
def FP (f:Fm):Str:=[32]++f.nm++[32,105,110,32]++Lib.itoa f.a.toInt++[46,46]++Lib.itoa f.b.toInt
def wK (sep:Str):List Str->Str
 | []=>[]
 | [x]=>x
 | x::r=>x++sep++wK sep r
def exH (f:Fm):Ex:=f.ex.headD zE
def ex0 (e:Ex):Ex:=e.args.headD zE
def ex1 (e:Ex):Ex:=(e.args.drop 1).headD zE
def KV (f:Fm) (l:List (UInt8 × Str)):Str :=
 if f.op=3 then tmT (ex0 (exH f))++[32]++wZ (exH f).op++[32]++tmT (ex1 (exH f))
 else if f.op=4 then f.nm++[46]++f.fd
 else if f.op=5 then iB f.op++[32]++f.nm++[46]++f.fd++[91]++tmT (exH f)++[93]
 else if f.op=6 then iB f.op++[32]++f.nm
 else if f.op=7 then iB f.op++[32]++f.nm++[46]++f.fd++[40]++wK [44,32] (f.ex.map tmT)++[41]
 else if f.op=8\/f.op=12\/f.op=13\/f.op=14 then iB f.op++vJ f++[32]++yG (decide ((cK (l.headD (0,[])).1).lv<5)) (l.headD (0,[])).2
 else if f.op=16\/f.op=17 then iB f.op++FP f++[32]++yG (decide ((cK (l.headD (0,[])).1).lv<5)) (l.headD (0,[])).2
 else if f.op=18 then iB f.op++FP f++[32,40]++(l.headD (0,[])).2++[41,32,62,61,32]++tmT (exH f)
 else if f.op=15\/f.op=9\/f.op=10\/f.op=11 then
  yG (decide ((cK (l.headD (0,[])).1).lv<(cK f.op).lv)) (l.headD (0,[])).2++[32]++iB f.op++vJ f++[32]++yG (decide ((cK ((l.drop 1).headD (0,[])).1).lv<(cK f.op).lv+1)) ((l.drop 1).headD (0,[])).2
 else iB f.op
mutual
def fmT:Fm->Str
 | .mk op nm fd a b ex args=>KV (.mk op nm fd a b ex args) (aT5 args)
def aT5:List Fm->List (UInt8 × Str)
 | []=>[]
 | f::r=>(f.op,fmT f)::aT5 r
end
def HR (f:Fm):Str:=if gT f=0 then fmT f else []
theorem HO:kP prg 157=some (some 7):=by kernel_rfl
theorem aJ4:ME prg 200=some (19,7):=by kernel_rfl
theorem oM:dK prg 102=true:=by kernel_rfl
theorem uD:dY prg 179 1=some 1:=by kernel_rfl
theorem aG5:hO prg 95=some 1:=by kernel_rfl
theorem zO:hO prg 157=some 7:=by kernel_rfl
theorem DQ:pO prg 157=some
 [Go.Value.int Go.IntKind.u8 (Int.ofNat 0),Go.Value.bool false,Go.Value.bool false,
  Go.Value.bool false,Go.Value.bool false,Go.Value.int Go.IntKind.u8 (Int.ofNat 0),
  Go.Value.int Go.IntKind.u8 (Int.ofNat 0)]:=by kernel_rfl
theorem aJ1  : iH prg 157 []=some [.int .u8 0,.bool false,.bool false,.bool false,.bool false,.int .u8 0,.int .u8 0]:=by kernel_rfl
theorem LR (x0 x1 x3:Int):iH prg 97 [(0,.int .u8 x0),(1,.int .i64 x1),(3,.int .u8 x3)]=some [.int .u8 x0,.int .i64 x1,.bool false,.int .u8 x3,.int .u8 0,.string ⟨#[]⟩,.string ⟨#[]⟩,.int .i64 0,.int .i64 0,.slice none 0 0,.slice none 0 0]:=by kernel_rfl
def fsC (s:Fs):List Value:=[.int .u8 (s.lv:Nat),.bool s.nm,.bool s.fd,.bool s.wn,.bool s.am,.int .u8 (s.ex:Nat),.int .u8 (s.ar:Nat)]
structure Gf (H:Hp):Prop where
 words:kZ H 0 0 (QN.map cH)
 syms:kZ H 1 0 (lR.map cH)
 shapes:kZ H 2 0 (IZ.flatMap fsC)
variable {H':Hp}
theorem Gf.up (g:Gf H) (u:Up H H'):Gf H':=⟨g.words.up u,g.syms.up u,g.shapes.up u⟩
theorem oK (H:Hp) (G:Gf H) (op:UInt8) (w:World) (hA:Agr H w):Calls prg 74 #[.int .u8 op.toNat] w λr w'=>r=.returned (.agg (fsC (cK op)).toArray)/\Ext w w':=by
 refine Sx.enter (H:=H) func74 rfl ntmps74 rfl hA ?_;refine .sr<|.al DQ Z λb2=>.nt<|.sq<|.sm Z<|.yw (.conv Z kS lH (c:=((op.toNat:Nat):Int)) (w64 (by have:=op.toNat_lt;omega) (by have:=op.toNat_lt;omega)))<|.yw (.geq Z Z)<|.nt<|.ce Z (λh5=>?_) (λh5=>?_)
 ·refine .sr<|.yw (.build Z aJ1)<|.sX .head Z Z zO Z<|.nt<|.rt<|.tR<|?_
  refine y8 Z (.cell Z HO Hm rfl) λW s=>⟨?_,s.ext⟩
  first
   | (rw [show cK op=zFs from (by unfold cK;rw [List.getD_eq_getElem?_getD,List.getElem?_eq_none (by show 19<=op.toNat;omega)];rfl)];rfl)
   | rfl
 refine .sk<|.tN<|.sm Z<|.yw (.indexArr aJ4 Z Z Z (by omega) (q:=op.toNat * 7) (by omega))<|.yw (.loadMS (k:=op.toNat * 7) (vs:=fsC (IZ.getD op.toNat zFs)) Z HO G.shapes (by omega) Z (ZL (f:=fsC) (z:=7) (l:=IZ) (i:=op.toNat) (λ_=>rfl) _ (by show op.toNat<19;omega)))<|.sV .head Z Z zO Z (by simp [fsC,Value.oneCell',cH]) Z<|.nt<|.rt<|?_
 refine y8 Z (.cell Z HO Hm rfl) λW s=>⟨?_,s.ext⟩
 first
  | (rw [show cK op=zFs from (by unfold cK;rw [List.getD_eq_getElem?_getD,List.getElem?_eq_none (by show 19<=op.toNat;omega)];rfl)];rfl)
  | rfl
set_option maxHeartbeats 2000000 in
theorem aF6 {l:Tks} {op:List Ov} {x:Vb} {dn:Bool} (K:Tkf H l tp tc) (Wq:Fwf l ⟨q,op,x,true,dn⟩) (S:Sq H ⟨q,op,x,true,dn⟩ xo xv AR) (op8:UInt8) (hnx:q.nx.i<l.length) (s:St H w0 (.box b [.slice tp l.length tc,iN q.i,ro,rv,.bool true,.bool dn,.bool x.2,iN q.off,iN q.er] 102::.row 97 11 (ro) (op.length) (xo)::.row 179 13 (rv) (x.1.length) (xv)::(AR++bs)) W) :
 Calls prg 99 #[.pointer (some ⟨b,0,none⟩),.int .u8 op8.toNat] W (Get w0 bs b l tp tc H (qZ l op8 ⟨q,op,x,true,dn⟩)):=by
 have hq:q.i<l.length:=Wq.i;have hnx2:q.i+1<l.length:=hnx;have hcap:=K.rep.cap;obtain ⟨hn1,hn2⟩:=oH Wq K.few;dsimp only at hn1 hn2;have hv1:1<=x.1.length:=by have:=Wq.vs;dsimp only at this;rw [this];exact Nat.le_add_left _ _
 obtain ⟨vs,bd⟩:=x;dsimp only at hv1 hn2;obtain ⟨v,V,rfl⟩:=AV hv1;dsimp only [List.length_cons] at hn2;obtain ⟨yr,t0,t1,t2,e4,VS1,V1⟩:=VR.inv S.vls;try dsimp only at e4
 subst e4;have hlv:=VS1.len;refine kB func99 rfl ntmps99 rfl s ?_;refine Sx.rowCase (size:=13) (r:=rv) (e:=179) mY (Nat.succ_pos _) λg2 c2 e hkc2=>?_;subst e;try dsimp only [List.length_cons] at hkc2
 dsimp only [List.length_cons];refine .sm Z<|.yw (.build Z (LR _ _ _))<|.al NR Z λb4=>.sX .head Z Z NT Z<|.nt<|.sq<|.bk<|.sm Z<|.yw (.leq Z Z)<|.aq Z<|.cd Z (λh8=>?_) (λh8=>?_)
 ·have h13:op8<=13:=by rw [UInt8.le_iff_toNat_le];have:=aH h8;show op8.toNat<=13;omega
  have h16:¬ (16:UInt8)<=op8:=λe=>by rw [UInt8.le_iff_toNat_le] at e h13;have e1:(16:UInt8).toNat=16:=rfl;have e2:(13:UInt8).toNat=13:=rfl;omega
  refine .rg<|.fA Z oL<|.st .head Z Z iF Z (nb Z) Z<|.nl<|.bN<|.tN<|.sq<|.fL 13 [(0,0),(1,0),(2,0),(3,0),(4,0),(5,0),(6,0),(7,0),(8,0),(9,0),(10,0),(11,0),(12,0)]<|.mv Z<|.nC Z<|.fA Z iT<|.lD Z pD cO Z<|.mv Z<|.nC Z<|.fA Z iT<|.lD Z pD cO Z<|.yw (.lenSl tB Z)<|.yw (.sub Z Z (c:=((V.length:Nat):Int)) ((w6 (by omega)).trans (by omega)))<|.yw (.indexSl tB Z Z (i:=V.length) Z (by omega) (q:=V.length * 13) (by omega))<|.fA Z uD<|.yw (.loadR1 Z jI pT (kC hlv Z))<|.fn (tl:=[_]) Z<|.aq Z<|.sq<|.sr<|.fA Z gN<|.lD Z lV Hm Z<|.yw (.cast (.eql Z Z) (congrArg Value.bool (aP (by decide))))<|.nt<|.cF Z<|.rg<|.mv Z<|.fA Z oL<|.lD Z cR Hm Z<|.cs (X:=Hp × Value × Value × List Value × List Value × List Res) oM Z (λW s=>sY K Wq S 8 (by omega) (St.mid (a:=[_,_,_]) (d:=[_]) (s.pickT (hd:=[_,_,_,_]) (tl:=(AR++bs)) (hd':=[_,_,_,_]) [1,2,3,0] Z Z))) Z λz9 hz9=>?_
  obtain ⟨H1,ro,rv,xo,xv,AR⟩:=z9;obtain ⟨u1,S⟩:=hz9;dsimp only at u1 S|-;refine Sx.reSt (λW s=>St.mid (a:=[_,_,_]) (d:=AR) (c:=[_]) s) ?_;obtain ⟨op7,x7,e7⟩:∃ op7 x7,jP 8 (⟨q,op,(v::V,bd),true,dn⟩:Ps)=⟨q,op7,x7,true,dn⟩:=⟨_,_,Z⟩;rw [e7] at S|-;dsimp only at S|-;have W7:Fwf l ⟨q,op7,x7,true,dn⟩:=by rw [<-e7];exact tL (by omega) Wq rfl
  obtain ⟨hm1,hm2⟩:=oH W7 K.few;dsimp only at hm1 hm2;have hne7:op7≠[]:=W7.ne;refine .nt<|.sq<|.sm Z<|.nt<|.cd Z (λh55=>?_) (λh55=>?_)
  ·have hwh:v.wh=true:=h55;refine .sm Z<|.cs (X:=Unit) iQ Z (λW s=>pY (K.up u1.up) hq 8 (s.pickT (hd:=[_,_,_,_]) (tl:=(AR++bs)) (hd':=[_,_,_,_]) [0,1,2,3] Z Z)) Z λ_ _=>.nt<|.rt<|.tR<|?_
   refine y7 Z .nil rfl λW s=>?_
   have e0:qZ l op8 ⟨q,op,(v::V,bd),true,dn⟩=(⟨q,op7,x7,true,dn⟩:Ps).at (q.fail l 8):=by
    unfold qZ;rw [aF h16,aL h13,e7,aL];exact hwh
   rw [e0];exact ⟨(_,_,_,_,_,AR),⟨u1,⟨S.ops,S.vls⟩⟩,Z,s.pickT (hd:=[_,_,_,_]) (tl:=(AR++bs)) (hd':=[_,_,_]) [0,1,2] rfl rfl⟩
  have hwh:v.wh=false:=h55;refine .sk<|.tN<|.sm Z<|.nC Z<|.fA Z gR<|.lD Z cR Hm Z<|.yw (.add Z Z (c:=((q.nx.i:Nat):Int)) ((w6 (by omega)).trans (by show _=((q.i+1:Nat):Int);omega)))<|.nC Z<|.fA Z gR<|.st .head Z Z iF Z (nb Z) Z<|.nt<|.rg<|.mv Z<|.yw (.loadW Z yQ pT Z)<|.cs (X:=Option Addr × Nat) fX Z (λW s=>mH (K.up u1.up) hnx (by simp [Value.oneCell',cH]) (aZ hm1 (by decide)) (λ_=>S.ops.tm hne7) (s.pickT (hd:=[_,_,_,_]) (tl:=(AR++bs)) (hd':=[_,_,_,_]) [0,1,2,3] Z Z)) Z λp9 _=>.nl<|?_
  refine jA (.inr Z) rfl .nil rfl λW s=>?_
  have e0:qZ l op8 ⟨q,op,(v::V,bd),true,dn⟩=fH ⟨9,8,false,op8,zF⟩ ((⟨q,op7,x7,true,dn⟩:Ps).at q.nx):=by
   unfold qZ;rw [aF h16,aL h13,e7,aF];show ¬ (qV (v::V,bd)).wh=true;rw [show (qV (v::V,bd)).wh=false from hwh];decide
  rw [e0];exact ⟨(_,_,_,_,_,AR),⟨u1,⟨.cons S.ops (by show ¬ (9:UInt8)=5;decide) (FmR.zero rfl rfl (aO _) (aO _)),S.vls⟩⟩,Z,s.pickT (hd:=[_,_,_,_]) (tl:=(AR++bs)) (hd':=[_,_,_]) [0,1,2] rfl rfl⟩
 have h13:¬ op8<=13:=λe=>aN h8 (by rw [UInt8.le_iff_toNat_le] at e;have e2:(13:UInt8).toNat=13:=rfl;omega);refine .sm Z<|.yw (.geq Z Z)<|.aq Z<|.cd Z (λh12=>?_) (λh12=>?_)
 ·have h16:(16:UInt8)<=op8:=by rw [UInt8.le_iff_toNat_le];have:=aH h12;show 16<=op8.toNat;omega
  refine .rg<|.fA Z gN<|.st .head Z Z aG5 Z (nb Z) Z<|.fA Z oL<|.st .head Z Z iF Z (nb Z) Z<|.nl<|.bN<|.tN<|.sq<|.fL 13 [(0,0),(1,0),(2,0),(3,0),(4,0),(5,0),(6,0),(7,0),(8,0),(9,0),(10,0),(11,0),(12,0)]<|.mv Z<|.nC Z<|.fA Z iT<|.lD Z pD cO Z<|.mv Z<|.nC Z<|.fA Z iT<|.lD Z pD cO Z<|.yw (.lenSl tB Z)<|.yw (.sub Z Z (c:=((V.length:Nat):Int)) ((w6 (by omega)).trans (by omega)))<|.yw (.indexSl tB Z Z (i:=V.length) Z (by omega) (q:=V.length * 13) (by omega))<|.fA Z uD<|.yw (.loadR1 Z jI pT (kC hlv Z))<|.fn (tl:=[_]) Z<|.aq Z<|.sq<|.sr<|.fA Z gN<|.lD Z lV Hm Z<|.yw (.cast (.eql Z Z) (congrArg Value.bool (aS (by decide))))<|.nt<|.cT Z<|.sm Z<|.cs (X:=Hp × Value × Value × List Value × List Value × List Res) oM Z (λW s=>sY K Wq S 7 (by omega) (St.mid (a:=[_,_,_]) (d:=[_]) (s.pickT (hd:=[_,_,_,_]) (tl:=(AR++bs)) (hd':=[_,_,_,_]) [1,2,3,0] Z Z))) Z λz9 hz9=>?_
  obtain ⟨H1,ro,rv,xo,xv,AR⟩:=z9;obtain ⟨u1,S⟩:=hz9;dsimp only at u1 S|-;refine Sx.reSt (λW s=>St.mid (a:=[_,_,_]) (d:=AR) (c:=[_]) s) ?_;obtain ⟨op7,x7,e7⟩:∃ op7 x7,jP 7 (⟨q,op,(v::V,bd),true,dn⟩:Ps)=⟨q,op7,x7,true,dn⟩:=⟨_,_,Z⟩;rw [e7] at S|-;dsimp only at S|-;have W7:Fwf l ⟨q,op7,x7,true,dn⟩:=by rw [<-e7];exact tL (by omega) Wq rfl
  obtain ⟨hm1,hm2⟩:=oH W7 K.few;dsimp only at hm1 hm2;have hne7:op7≠[]:=W7.ne;refine .nt<|.rg<|.mv Z<|.mv Z<|.b2 (λh36=>?_) (λh36=>?_)
  ·have hwh:v.wh=true:=h36;refine .gG<|.gG<|.gG<|.gG<|.gG<|.yw (.pickT Z Z)<|.mv Z<|.gG<|.gG<|.gG<|.gG<|.gG<|.gG<|.yw (.pickT Z Z)<|.aq Z<|.sq<|.sm Z<|.nt<|.cT Z<|.sm Z<|.cs (X:=Unit) iQ Z (λW s=>pY (K.up u1.up) hq 8 (s.pickT (hd:=[_,_,_,_]) (tl:=(AR++bs)) (hd':=[_,_,_,_]) [0,1,2,3] Z Z)) Z λ_ _=>.nt<|.rt<|.tR<|?_
   refine y7 Z .nil rfl λW s=>?_
   have e0:qZ l op8 ⟨q,op,(v::V,bd),true,dn⟩=(⟨q,op7,x7,true,dn⟩:Ps).at (q.fail l 8):=by
    unfold qZ;rw [aL h16,e7,aL];show ((qV (v::V,bd)).wh || _ || _)=true;rw [show (qV (v::V,bd)).wh=true from hwh];rfl
   rw [e0];exact ⟨(_,_,_,_,_,AR),⟨u1,⟨S.ops,S.vls⟩⟩,Z,s.pickT (hd:=[_,_,_,_]) (tl:=(AR++bs)) (hd':=[_,_,_]) [0,1,2] rfl rfl⟩
  have hwh:v.wh=false:=h36;obtain ⟨o7,r7,rfl⟩:=AV (l:=op7) (by cases op7 with | nil=>exact (hne7 rfl).elim | cons a t=>exact Nat.succ_pos _);dsimp only [List.length_cons] at hm1;obtain ⟨xr,s1,s2,e2,hlo,ho1,ho2⟩:=Ops.top S.ops;try dsimp only at e2
  subst e2;refine Sx.rowCase (size:=11) (r:=ro) (e:=97) cO (Nat.succ_pos _) λg c e hkc=>?_;subst e;refine .gy (.move Z)<|.gd Z Z<|.cs (X:=Unit) lU Z (λW s=>AL (K.up u1.up) hq (g:=g) (k:=r7.length) (c:=c) (by omega) (s.pickT (hd:=[_,_,_,_]) (tl:=(AR++bs)) (hd':=[_,_,_,_]) [0,1,2,3] Z Z)) Z λ_ _=>.gy (.nilCheck Z)<|.gy (.fieldAddr Z tC)<|.gy (.loadR1 Z jI cO (kC hlo Z))<|.yw (.pickF Z Z)<|.mv Z<|.b2 (λh43=>?_) (λh43=>?_)
  ·have htm:o7.tm=true:=h43;refine .gG<|.gG<|.gG<|.gG<|.gG<|.gG<|.yw (.pickT Z Z)<|.aq Z<|.sq<|.sm Z<|.nt<|.cT Z<|.sm Z<|.cs (X:=Unit) iQ Z (λW s=>pY (K.up u1.up) hq 8 (s.pickT (hd:=[_,_,_,_]) (tl:=(AR++bs)) (hd':=[_,_,_,_]) [0,1,2,3] Z Z)) Z λ_ _=>.nt<|.rt<|.tR<|?_
   refine y7 Z .nil rfl λW s=>?_
   have e0:qZ l op8 ⟨q,op,(v::V,bd),true,dn⟩=(⟨q,o7::r7,x7,true,dn⟩:Ps).at (q.fail l 8):=by
    unfold qZ;rw [aL h16,e7,aL];show (_ || (dM (⟨q,o7::r7,x7,true,dn⟩:Ps)).tm || _)=true;rw [show (dM (⟨q,o7::r7,x7,true,dn⟩:Ps)).tm=true from htm,Bool.or_true];rfl
   rw [e0];exact ⟨(_,_,_,_,_,AR),⟨u1,⟨S.ops,S.vls⟩⟩,Z,s.pickT (hd:=[_,_,_,_]) (tl:=(AR++bs)) (hd':=[_,_,_]) [0,1,2] rfl rfl⟩
  have htm:o7.tm=false:=h43;refine .gy (.move Z)<|.gd Z Z<|.cs (X:=Unit) lU Z (λW s=>AL (K.up u1.up) hq (g:=g) (k:=r7.length) (c:=c) (by omega) (s.pickT (hd:=[_,_,_,_]) (tl:=(AR++bs)) (hd':=[_,_,_,_]) [0,1,2,3] Z Z)) Z λ_ _=>.gy (.nilCheck Z)<|.gy (.fieldAddr Z gN)<|.gy (.loadR1 Z lV cO (kC hlo Z))<|.gy (.eql Z Z)<|.yw (.pickF Z Z)<|.aq Z<|.sq<|.sm Z<|.nt<|.cd Z (λh55=>?_) (λh55=>?_)
  ·have hk8:o7.kd=8:=aQ.1 (by have:=aH h55;show o7.kd.toNat=8;omega);refine .sm Z<|.cs (X:=Unit) iQ Z (λW s=>pY (K.up u1.up) hq 8 (s.pickT (hd:=[_,_,_,_]) (tl:=(AR++bs)) (hd':=[_,_,_,_]) [0,1,2,3] Z Z)) Z λ_ _=>.nt<|.rt<|.tR<|?_
   refine y7 Z .nil rfl λW s=>?_
   have e0:qZ l op8 ⟨q,op,(v::V,bd),true,dn⟩=(⟨q,o7::r7,x7,true,dn⟩:Ps).at (q.fail l 8):=by
    unfold qZ;rw [aL h16,e7,aL];show (_ || _ || decide ((dM (⟨q,o7::r7,x7,true,dn⟩:Ps)).kd=8))=true;rw [aS (show (dM (⟨q,o7::r7,x7,true,dn⟩:Ps)).kd=8 from hk8),Bool.or_true]
   rw [e0];exact ⟨(_,_,_,_,_,AR),⟨u1,⟨S.ops,S.vls⟩⟩,Z,s.pickT (hd:=[_,_,_,_]) (tl:=(AR++bs)) (hd':=[_,_,_]) [0,1,2] rfl rfl⟩
  have hk8:¬ o7.kd=8:=λe=>aN h55 (by rw [e];rfl);refine .sk<|.tN<|.sm Z<|.nC Z<|.fA Z gR<|.lD Z cR Hm Z<|.yw (.add Z Z (c:=((q.nx.i:Nat):Int)) ((w6 (by omega)).trans (by show _=((q.i+1:Nat):Int);omega)))<|.nC Z<|.fA Z gR<|.st .head Z Z iF Z (nb Z) Z<|.nt<|.rg<|.mv Z<|.yw (.loadW Z yQ pT Z)<|.cs (X:=Option Addr × Nat) fX Z (λW s=>mH (K.up u1.up) hnx (by simp [Value.oneCell',cH]) (by show r7.length+1<=600001;omega) (λ_=>S.ops.tm hne7) (s.pickT (hd:=[_,_,_,_]) (tl:=(AR++bs)) (hd':=[_,_,_,_]) [0,1,2,3] Z Z)) Z λp9 _=>.nl<|?_
  refine jA (.inr Z) rfl .nil rfl λW s=>?_
  have e0:qZ l op8 ⟨q,op,(v::V,bd),true,dn⟩=fH ⟨8,6,false,op8,zF⟩ ((⟨q,o7::r7,x7,true,dn⟩:Ps).at q.nx):=by
   unfold qZ;rw [aL h16,e7,aF];show ¬ ((qV (v::V,bd)).wh || (dM (⟨q,o7::r7,x7,true,dn⟩:Ps)).tm || decide ((dM (⟨q,o7::r7,x7,true,dn⟩:Ps)).kd=8))=true;rw [show (qV (v::V,bd)).wh=false from hwh,show (dM (⟨q,o7::r7,x7,true,dn⟩:Ps)).tm=false from htm,aP (show ¬ (dM (⟨q,o7::r7,x7,true,dn⟩:Ps)).kd=8 from hk8)]
   decide
  rw [e0];exact ⟨(_,_,_,_,_,AR),⟨u1,⟨.cons S.ops (by show ¬ (8:UInt8)=5;decide) (FmR.zero rfl rfl (aO _) (aO _)),S.vls⟩⟩,Z,s.pickT (hd:=[_,_,_,_]) (tl:=(AR++bs)) (hd':=[_,_,_]) [0,1,2] rfl rfl⟩
 have h16:¬ (16:UInt8)<=op8:=λe=>aN h12 (by rw [UInt8.le_iff_toNat_le] at e;have e2:(16:UInt8).toNat=16:=rfl;omega);refine .sk<|.bN<|.tN<|.sq<|.fL 13 [(0,0),(1,0),(2,0),(3,0),(4,0),(5,0),(6,0),(7,0),(8,0),(9,0),(10,0),(11,0),(12,0)]<|.mv Z<|.nC Z<|.fA Z iT<|.lD Z pD cO Z<|.mv Z<|.nC Z<|.fA Z iT<|.lD Z pD cO Z<|.yw (.lenSl tB Z)<|.yw (.sub Z Z (c:=((V.length:Nat):Int)) ((w6 (by omega)).trans (by omega)))<|.yw (.indexSl tB Z Z (i:=V.length) Z (by omega) (q:=V.length * 13) (by omega))<|.fA Z uD<|.yw (.loadR1 Z jI pT (kC hlv Z))<|.fn (tl:=[_]) Z<|.aq Z<|.sq<|.sr<|.fA Z gN<|.lD Z lV Hm Z<|.yw (.cast (.eql Z Z) (congrArg Value.bool (aP (by decide))))<|.nt<|.cF Z<|.rg<|.mv Z<|.fA Z oL<|.lD Z cR Hm Z<|.cs (X:=Hp × Value × Value × List Value × List Value × List Res) oM Z (λW s=>sY K Wq S 7 (by omega) (St.mid (a:=[_,_,_]) (d:=[_]) (s.pickT (hd:=[_,_,_,_]) (tl:=(AR++bs)) (hd':=[_,_,_,_]) [1,2,3,0] Z Z))) Z λz9 hz9=>?_
 obtain ⟨H1,ro,rv,xo,xv,AR⟩:=z9;obtain ⟨u1,S⟩:=hz9;dsimp only at u1 S|-;refine Sx.reSt (λW s=>St.mid (a:=[_,_,_]) (d:=AR) (c:=[_]) s) ?_;obtain ⟨op7,x7,e7⟩:∃ op7 x7,jP 7 (⟨q,op,(v::V,bd),true,dn⟩:Ps)=⟨q,op7,x7,true,dn⟩:=⟨_,_,Z⟩;rw [e7] at S|-;dsimp only at S|-;have W7:Fwf l ⟨q,op7,x7,true,dn⟩:=by rw [<-e7];exact tL (by omega) Wq rfl
 obtain ⟨hm1,hm2⟩:=oH W7 K.few;dsimp only at hm1 hm2;have hne7:op7≠[]:=W7.ne;refine .nt<|.sq<|.sm Z<|.nt<|.cd Z (λh55=>?_) (λh55=>?_)
 ·have hwh:v.wh=true:=h55;refine .sm Z<|.cs (X:=Unit) iQ Z (λW s=>pY (K.up u1.up) hq 8 (s.pickT (hd:=[_,_,_,_]) (tl:=(AR++bs)) (hd':=[_,_,_,_]) [0,1,2,3] Z Z)) Z λ_ _=>.nt<|.rt<|.tR<|?_
  refine y7 Z .nil rfl λW s=>?_
  have e0:qZ l op8 ⟨q,op,(v::V,bd),true,dn⟩=(⟨q,op7,x7,true,dn⟩:Ps).at (q.fail l 8):=by
   unfold qZ;rw [aF h16,aF h13,e7,aL];exact hwh
  rw [e0];exact ⟨(_,_,_,_,_,AR),⟨u1,⟨S.ops,S.vls⟩⟩,Z,s.pickT (hd:=[_,_,_,_]) (tl:=(AR++bs)) (hd':=[_,_,_]) [0,1,2] rfl rfl⟩
 have hwh:v.wh=false:=h55;refine .sk<|.tN<|.sm Z<|.nC Z<|.fA Z gR<|.lD Z cR Hm Z<|.yw (.add Z Z (c:=((q.nx.i:Nat):Int)) ((w6 (by omega)).trans (by show _=((q.i+1:Nat):Int);omega)))<|.nC Z<|.fA Z gR<|.st .head Z Z iF Z (nb Z) Z<|.nt<|.rg<|.mv Z<|.yw (.loadW Z yQ pT Z)<|.cs (X:=Option Addr × Nat) fX Z (λW s=>mH (K.up u1.up) hnx (by simp [Value.oneCell',cH]) (aZ hm1 (by decide)) (λ_=>S.ops.tm hne7) (s.pickT (hd:=[_,_,_,_]) (tl:=(AR++bs)) (hd':=[_,_,_,_]) [0,1,2,3] Z Z)) Z λp9 _=>.nl<|?_
 refine jA (.inr Z) rfl .nil rfl λW s=>?_
 have e0:qZ l op8 ⟨q,op,(v::V,bd),true,dn⟩=fH ⟨9,7,false,op8,zF⟩ ((⟨q,op7,x7,true,dn⟩:Ps).at q.nx):=by
  unfold qZ;rw [aF h16,aF h13,e7,aF];show ¬ (qV (v::V,bd)).wh=true;rw [show (qV (v::V,bd)).wh=false from hwh];decide
 rw [e0];exact ⟨(_,_,_,_,_,AR),⟨u1,⟨.cons S.ops (by show ¬ (9:UInt8)=5;decide) (FmR.zero rfl rfl (aO _) (aO _)),S.vls⟩⟩,Z,s.pickT (hd:=[_,_,_,_]) (tl:=(AR++bs)) (hd':=[_,_,_]) [0,1,2] rfl rfl⟩
theorem hZ:kP prg 31=some none:=by kernel_rfl
theorem qP:dK prg 74=true:=by kernel_rfl
theorem eF:dY prg 35 0=some 0:=by kernel_rfl
theorem qA:dK prg 156=true:=by kernel_rfl
theorem cJ:dY prg 35 5=some 5:=by kernel_rfl
theorem CZ:dY prg 102 5=some 5:=by kernel_rfl
theorem MO (x1:Bool) (x30 x31 x32 x33 x34 x35 x36:Value):iH prg 179 [(1,.bool x1),(3,.agg [x30,x31,x32,x33,x34,x35,x36].toArray)]=some [.bool false,.bool x1,.int .u8 0,.string ⟨#[]⟩,.int .i64 0,.slice none 0 0,x30,x31,x32,x33,x34,x35,x36]:=by kernel_rfl
theorem LT (x0:Int) (x1:ByteArray) (x3p:Option Addr) (x3n x3c:Nat):iH prg 76 [(0,.int .u8 x0),(1,.string x1),(3,.slice x3p x3n x3c)]=some [.int .u8 x0,.string x1,.int .i64 0,.slice x3p x3n x3c]:=by kernel_rfl
theorem aK2:kP prg 165=some (some 22):=by kernel_rfl
theorem aJ8:aX5 prg 165=true:=by kernel_rfl
theorem HN:ME prg 165=some (22,1):=by kernel_rfl
theorem aH0:dK prg 99=true:=by kernel_rfl
theorem LO:dK prg 101=true:=by kernel_rfl
theorem LN:dK prg 103=true:=by kernel_rfl
theorem XV:dK prg 131=true:=by kernel_rfl
theorem i0 {n:Int64} :decide (n.toInt=0)=decide (n=0):=by
 rw [bH,aD,aD];exact ⟨λh=>dR.1 h,λh=>by rw [h];rfl⟩
variable {n k:Nat}
theorem n0:decide (((n:Nat):Int)=((k:Nat):Int))=decide (n=k):=by rw [bH,aD,aD];omega
theorem aX7 {l:List Ex} {p:Ex->Bool} (hk:k<l.length) (h:(l.take k).any p=false) (hp:p l[k]=false):(l.take (k+1)).any p=false:=by
 rw [List.take_succ,List.any_append,h,List.getElem?_eq_getElem hk];simp [hp]
def ixV (l:List Ex) (p:Ex->Bool):Int:=match l.findIdx? p with | some i=>(i:Int) | none=>-1
theorem bJ6 {l:List Ex} {p:Ex->Bool} (hk:k<l.length) (h:(l.take k).any p=false) (hp:p l[k]=true):ixV l p=(k:Int):=by
 unfold ixV
 rw [List.findIdx?_eq_some_iff_getElem.2 ⟨hk,hp,λj hj=>by
  have hm:l[j]∈l.take k:=List.mem_take_iff_getElem.2 ⟨j,by omega,Z⟩;have:=List.any_eq_false.1 h _ hm;exact this⟩]
theorem bJ5 {l:List Ex} {p:Ex->Bool} (h:l.any p=false):ixV l p=-1:=by
 unfold ixV;rw [List.findIdx?_eq_none_iff.2 λx hx=>by have:=List.any_eq_false.1 h x hx;simpa using this]
theorem bN5 {l:List Ex} {p:Ex->Bool} :decide (0<=ixV l p)=l.any p:=by
 unfold ixV;cases h:l.findIdx? p with
 | some i =>
  obtain ⟨hi,hp,_⟩:=List.findIdx?_eq_some_iff_getElem.1 h;rw [fW.2 ⟨_,bT hi,hp⟩];exact aS (by show (0:Int)<=(i:Int);omega)
 | none =>
  rw [List.any_eq_false.2 λx hx=>by have:=List.findIdx?_eq_none_iff.1 h x hx;rw [this];decide];rfl
theorem rC {op:UInt8} {nm:Str} {n:Int64} {args:List Ex} :HJ (.mk op nm n args)=(decide (op=0) && decide (nm=[]) && decide (n=0) && decide (args.length=0)):=rfl
def EFn (H:Hp) (gf:FuncId) (ca:List Value) (p:Ex->Bool) (e:Ex):Prop:=∀ (cs:List Value) (W:World),Rep H (dEx .u8 e) cs->Agr H W->Calls prg gf (.agg cs.toArray::ca).toArray W λr W'=>r=.returned (.bool (p e))/\Ext W W'
variable {c:Nat}
theorem aE1 (H:Hp) (gf:FuncId) (ca:List Value) (p:Ex->Bool) (l:List Ex) {pp:Option Addr} (hs:Rep H (.seq 4 (l.map (dEx .u8))) [.slice pp l.length c]) (hf:dK prg gf=true) (hg:∀ e∈l,EFn H gf ca p e) (w:World) (hA:Agr H w) :
 Calls prg 131 #[.slice pp l.length c,.func (.func gf) #[] ca.toArray] w λr w'=>r=.returned (.int .i64 (ixV l p))/\Ext w w':=by
 have hcap:=hs.cap;refine Sx.enter (H:=H) func131 rfl ntmps131 rfl hA ?_;refine .sr<|.aq Z<|.sq<|.sm Z<|.yw (.lenSl dO Z)<|.mv Z<|.nt<|.bk<|.lp (X:=Nat) [(0,_),(1,_),(7,_)] ⟨Z,Z,Z,Jt⟩ [] (λk=>[(8,iN k)]) (λk=>H) (λk=>[]) (λk=>k<=l.length/\(l.take k).any p=false) (λk=>l.length - k) 0 (λ_ s=>s) ⟨Z,Jt⟩ ⟨aO _,Z⟩ λk hC=>?_
 obtain ⟨hk0,hal⟩:=hC;refine .sr<|.yw (.lss Z Z)<|.nt<|.sq<|.ce Z (λh9=>?_) (λh9=>?_)
 ·have hk:k<l.length:=by omega
  obtain ⟨bE,oE,cE,hpE,rE,lE,mE⟩:=hs.elem (kM (f:=dEx .u8) hk);cases hpE;refine .sk<|.tN<|.sq<|.bk<|.sm Z<|.a Z Z<|.ns<|.mv Z<|.mv Z<|.mv Z<|.yw (.indexSl dO Z Z Z (by omega) (q:=oE+k * 4) Z)<|.yw (.loadMW Z dP mE lE)<|.yw (.callV (fi:=[]) Z hf Z (λW s=>hg _ (bT hk) cE W rE s.agr))<|.nt<|.cd Z (λh16=>?_) (λh16=>?_)
  ·refine .sm Z<|.az Z<|.bR<|.tR<|.tR<|.bR<|.tR<|?_
   refine y9 Z Z λW s=>⟨?_,s.ext⟩
   first
    | (rw [bJ6 hk hal h16])
    | (rw [bJ5 hal])
  exact .sk<|.bN<|.tN<|.rg<|.yw (.add Z Z w7)<|.mv Z<|.nt<|.ag (k+1) ⟨Z,Jt⟩ ⟨Z,Z,Z,Jt⟩ (λ_ s=>s) ⟨by omega,aX7 hk hal h16⟩ (by omega)
 obtain rfl:k=l.length:=by omega
 rw [dC] at hal;refine .ex<|.eb<|.sr<|.az Z<|?_
 refine y9 Z Z λW s=>⟨?_,s.ext⟩
 first
  | (rw [bJ6 hk hal h16])
  | (rw [bJ5 hal])
theorem lC (H:Hp) (gf:FuncId) (ca:List Value) (p:Ex->Bool) (l:List Ex) {pp:Option Addr} (hs:Rep H (.seq 4 (l.map (dEx .u8))) [.slice pp l.length c]) (hf:dK prg gf=true) (hg:∀ e∈l,EFn H gf ca p e) (w:World) (hA:Agr H w) :
 Calls prg 71 #[.slice pp l.length c,.func (.func gf) #[] ca.toArray] w λr w'=>r=.returned (.bool (l.any p))/\Ext w w':=by
 refine Sx.enter (H:=H) func71 rfl ntmps71 rfl hA ?_;refine .sr<|.a Z Z<|.ns<|.mv Z<|.mv Z<|.yw (.call (v:=.int .i64 (ixV l p)) XV Z (λW s=>aE1 H gf ca p l hs hf hg W s.agr))<|.yw (.cast (.geq Z Z) (congrArg Value.bool bN5))<|.az Z<|?_
 exact y9 Z Z λW s=>⟨Z,s.ext⟩
theorem aE0 (H:Hp) (e:Ex) (cs:List Value) (w:World) (h:Rep H (dEx .u8 e) cs) (hA:Agr H w):Calls prg 78 #[.agg cs.toArray] w λr w'=>r=.returned (.bool (HJ e))/\Ext w w':=by
 obtain ⟨op,nm,nn,args⟩:=e;obtain ⟨pp,c,rfl,hs,hnm⟩:=iK h;refine Sx.enter (H:=H) func78 rfl ntmps78 rfl hA ?_;refine .sr<|.bx Z Z Z λb1=>.a Z Z<|.ns<|.fA Z gO<|.lD Z jR Hm Z<|.yw (.cast (.eql Z Z) (congrArg Value.bool k80))<|.mv Z<|.b2 (λh6=>?_) (λh6=>?_)
 ·refine .gy (.fieldAddr Z fT)<|.gy (.load Z cZ Hm Z)<|.gy (.eqS Z Z)<|.yw (.pickT Z Z)<|.mv Z<|.b2 (λh11=>?_) (λh11=>?_)
  ·refine .gy (.fieldAddr Z gD)<|.gy (.load Z fC Hm Z)<|.gy (.cast (.eql Z Z) (congrArg Value.bool i0))<|.yw (.pickT Z Z)<|.mv Z<|.b2 (λh16=>?_) (λh16=>?_)
   ·refine .gy (.fieldAddr Z eA)<|.gy (.load Z dE Hm Z)<|.gy (.lenSl dO Z)<|.gy (.cast (.eql Z Z) (congrArg Value.bool er0))<|.yw (.pickT Z Z)<|.az Z<|?_
    refine y9 Z Z λW s=>⟨?_,s.ext⟩
    first
     | (rw [rC,h6,h11,h16,aA,aA,aA])
     | (rw [rC,h6,h11,h16];rfl)
     | (rw [rC,h6,h11];rfl)
     | (rw [rC,h6];rfl)
   refine .gG<|.gG<|.gG<|.gG<|.yw (.pickF Z Z)<|.az Z<|?_
   refine y9 Z Z λW s=>⟨?_,s.ext⟩
   first
    | (rw [rC,h6,h11,h16,aA,aA,aA])
    | (rw [rC,h6,h11,h16];rfl)
    | (rw [rC,h6,h11];rfl)
    | (rw [rC,h6];rfl)
  refine .gG<|.gG<|.gG<|.yw (.pickF Z Z)<|.mv Z<|.gG<|.gG<|.gG<|.gG<|.yw (.pickF Z Z)<|.az Z<|?_
  refine y9 Z Z λW s=>⟨?_,s.ext⟩
  first
   | (rw [rC,h6,h11,h16,aA,aA,aA])
   | (rw [rC,h6,h11,h16];rfl)
   | (rw [rC,h6,h11];rfl)
   | (rw [rC,h6];rfl)
 refine .gG<|.gG<|.gG<|.yw (.pickF Z Z)<|.mv Z<|.gG<|.gG<|.gG<|.yw (.pickF Z Z)<|.mv Z<|.gG<|.gG<|.gG<|.gG<|.yw (.pickF Z Z)<|.az Z<|?_
 refine y9 Z Z λW s=>⟨?_,s.ext⟩
 first
  | (rw [rC,h6,h11,h16,aA,aA,aA])
  | (rw [rC,h6,h11,h16];rfl)
  | (rw [rC,h6,h11];rfl)
  | (rw [rC,h6];rfl)
theorem aH6:dK prg 78=true:=by kernel_rfl
theorem CC:dK prg 79=true:=by kernel_rfl
theorem qC:dK prg 132=true:=by kernel_rfl
theorem aY0 {l:List Ex} {p:Ex->Bool} (hk:k<l.length) (h:(l.take k).all p=true) (hp:p l[k]=true):(l.take (k+1)).all p=true:=by
 rw [List.take_succ,List.all_append,h,List.getElem?_eq_getElem hk];simp [hp]
theorem aY1 {l:List Ex} {p:Ex->Bool} (hk:k<l.length) (hp:p l[k]=false):l.all p=false:=List.all_eq_false.2 ⟨_,bT hk,by rw [hp];decide⟩
theorem uG:∀ l,yX l=l.all eL
 | []=>rfl
 | e::r=>by rw [yX,fZ,uG r]
theorem mP (H:Hp) (op:UInt8) (nm:Str) (nn:Int64) (args:List Ex) (n:Nat) (cs:List Value) (w:World) (h:Rep H (dEx .u8 (.mk op nm nn args)) cs) (ht:∀ a∈args,(∀ (cs:List Value) (W:World),Rep H (dEx .u8 a) cs->Agr H W->Calls prg 79 #[.agg cs.toArray] W λr W'=>r=.returned (.bool (eL a))/\Ext W W')) (hA:Agr H w) :
 Calls prg 132 #[.agg cs.toArray,iN n] w λr w'=>r=.returned (.bool (args.all eL && decide (args.length=n)))/\Ext w w':=by
 obtain ⟨pp,c,rfl,hs,hnm⟩:=iK h;have hcap:=hs.cap;refine Sx.enter (H:=H) func132 rfl ntmps132 rfl hA ?_;refine .sr<|.bx Z Z Z λb2=>.aq Z<|.sq<|.sr<|.fA Z eA<|.lD Z dE Hm Z<|.yw (.lenSl dO Z)<|.mv Z<|.nt<|.bk<|.lp (X:=Nat) [(1,_),(2,_),(8,_),(9,_)] ⟨Z,Z,Z,Z,Jt⟩ [_] (λk=>[(10,iN k)]) (λk=>H) (λk=>[]) (λk=>k<=args.length/\(args.take k).all eL=true) (λk=>args.length - k) 0 (λ_ s=>s) ⟨Z,Jt⟩ ⟨aO _,Z⟩ λk hC=>?_
 obtain ⟨hk0,hal⟩:=hC;refine .sr<|.yw (.lss Z Z)<|.nt<|.sq<|.ce Z (λh11=>?_) (λh11=>?_)
 ·have hk:k<args.length:=by omega
  obtain ⟨bE,oE,cE,hpE,rE,lE,mE⟩:=hs.elem (kM (f:=dEx .u8) hk);cases hpE;refine .sk<|.tN<|.sq<|.bk<|.sr<|.yw (.indexSl dO Z Z Z (by omega) (q:=oE+k * 4) Z)<|.yw (.loadMW Z dP mE lE)<|.al jT Z λb6=>.sV .head Z Z fY lE rE.one Z<|.ns<|.yw (.loadW Z dP Hm lE)<|.yw (.call CC Z (λW s=>ht _ (bT hk) cE W rE s.agr))<|.yw (.not Z)<|.nt<|.cd Z (λh16=>?_) (λh16=>?_)
  ·refine .sr<|.az Z<|.bR<|.tR<|.tR<|.bR<|.tR<|?_
   refine y9 Z Z λW s=>⟨?_,s.ext⟩
   first
    | (rw [aY1 hk (by simpa using h16)];rfl)
    | (rw [hal,aA])
  exact .sk<|.bN<|.tN<|.rg<|.yw (.add Z Z w7)<|.mv Z<|.nt<|.ag (k+1) ⟨Z,Jt⟩ ⟨Z,Z,Z,Z,Jt⟩ (λ_ s=>s.pick [1] [_] Z Z) ⟨by omega,aY0 hk hal (by simpa using h16)⟩ (by omega)
 obtain rfl:k=args.length:=by omega
 rw [dC] at hal;refine .ex<|.eb<|.sr<|.fA Z eA<|.lD Z dE Hm Z<|.yw (.lenSl dO Z)<|.mv Z<|.yw (.cast (.eql Z Z) (congrArg Value.bool n0))<|.az Z<|?_
 refine y9 Z Z λW s=>⟨?_,s.ext⟩
 first
  | (rw [aY1 hk (by simpa using h16)];rfl)
  | (rw [hal,aA])
theorem tb1 {op:UInt8} {nm:Str} {n:Int64} {args:List Ex} (h:op=1):eL (.mk op nm n args)=(decide (nm=[]) && decide (0<=n.toInt) && decide (args.length=0)):=by rw [eL,aL h]
theorem tb4 {op:UInt8} {nm:Str} {n:Int64} {args:List Ex} (h:op=4):eL (.mk op nm n args)=(decide (nm=[]) && decide (n=0) && decide (args.length=0)):=by subst h;rw [eL,aF (by decide),aL rfl]
theorem tb5 {op:UInt8} {nm:Str} {n:Int64} {args:List Ex} (h:op=5\/op=8):eL (.mk op nm n args)=(decide (n=0) && decide (args.length=0)):=by
 rw [eL,aF (by rcases h with rfl | rfl <;> decide),aF (by rcases h with rfl | rfl <;> decide),aL h]
theorem tb6 {op:UInt8} {nm:Str} {n:Int64} {args:List Ex} (h:op=6):eL (.mk op nm n args)=(decide (n=0) && (args.all eL && decide (args.length=1))):=by
 subst h;rw [eL,aF (by decide),aF (by decide),aF (by decide),aL rfl,uG]
theorem tb9 {op:UInt8} {nm:Str} {n:Int64} {args:List Ex} (h:op=9):eL (.mk op nm n args)=(decide (nm=[]) && decide (n=0) && (args.all eL && decide (args.length=1))):=by
 subst h;rw [eL,aF (by decide),aF (by decide),aF (by decide),aF (by decide),aL rfl,uG]
theorem tbb {op:UInt8} {nm:Str} {n:Int64} {args:List Ex} (h:op=11\/op=12\/op=13\/op=14\/op=15):eL (.mk op nm n args)=(decide (nm=[]) && decide (n=0) && (args.all eL && decide (args.length=2))):=by
 have e:∀ k:UInt8,k<11->¬ op=k:=by
  intro k hk e;subst e;rcases h with rfl | rfl | rfl | rfl | rfl <;> exact absurd hk (by decide)
 rw [eL,aF (e 1 (by decide)),aF (e 4 (by decide)),aF (by rintro (h | h);exact e 5 (by decide) h;exact e 8 (by decide) h),aF (e 6 (by decide)),aF (e 9 (by decide)),aL h,uG]
theorem tbn {op:UInt8} {nm:Str} {n:Int64} {args:List Ex} (h1:¬ op=1) (h4:¬ op=4) (h5:¬ op=5) (h8:¬ op=8) (h6:¬ op=6) (h9:¬ op=9) (a:¬ op=11) (b:¬ op=12) (c:¬ op=13) (d:¬ op=14) (e:¬ op=15):eL (.mk op nm n args)=false:=by
 rw [eL,aF h1,aF h4,aF (tV.2 ⟨h5,h8⟩),aF h6,aF h9,aF (by rintro (h | h | h | h | h);exact a h;exact b h;exact c h;exact d h;exact e h)]
set_option maxHeartbeats 1000000 in
theorem zC (H:Hp) (e:Ex):(∀ (cs:List Value) (W:World),Rep H (dEx .u8 e) cs->Agr H W->Calls prg 79 #[.agg cs.toArray] W λr W'=>r=.returned (.bool (eL e))/\Ext W W'):=by
 induction e using Ex.ind with | _ op nm nn args ih
 intro cs w h hA;obtain ⟨pp,c,rfl,hs,hnm⟩:=iK h;refine Sx.enter (H:=H) func79 rfl ntmps79 rfl hA ?_;refine .sr<|.bx Z Z Z λb1=>.aq Z<|.sq<|.sr<|.fA Z gO<|.lD Z jR Hm Z<|.nt<|.bk<|.sr<|.yw (.eql Z Z)<|.aq Z<|.cd Z (λh5=>?_) (λh5=>?_)
 ·have q1:op=1:=aQ.1 (by have:=aH h5;show op.toNat=1;omega);refine .sr<|.fA Z fT<|.lD Z cZ Hm Z<|.yw (.eqS Z Z)<|.mv Z<|.b2 (λh10=>?_) (λh10=>?_)
  ·refine .gy (.fieldAddr Z gD)<|.gy (.load Z fC Hm Z)<|.gy (.geq Z Z)<|.yw (.pickT Z Z)<|.mv Z<|.b2 (λh15=>?_) (λh15=>?_)
   ·refine .gy (.fieldAddr Z eA)<|.gy (.load Z dE Hm Z)<|.gy (.lenSl dO Z)<|.gy (.cast (.eql Z Z) (congrArg Value.bool er0))<|.yw (.pickT Z Z)<|.az Z<|.bR<|.tR<|?_
    refine y9 Z Z λW s=>⟨?_,s.ext⟩
    first
     | (rw [tb1 q1,h10,h15];simp only [aA,aB,aC,Bool.and_false])
     | (rw [tb1 q1,h10,h15];rfl)
     | (rw [tb1 q1,h10];simp only [aA,aB,aC,Bool.and_false])
     | (rw [tb1 q1,h10];rfl)
     | (rw [tb4 q4,h26,h31];simp only [aA,aB,aC,Bool.and_false])
     | (rw [tb4 q4,h26,h31];rfl)
     | (rw [tb4 q4,h26];simp only [aA,aB,aC,Bool.and_false])
     | (rw [tb4 q4,h26];rfl)
     | (rw [tb5 (.inl q58),h43];simp only [aA,aB,aC,Bool.and_false])
     | (rw [tb5 (.inl q58),h43];rfl)
     | (rw [tb5 (.inr q58),h43];simp only [aA,aB,aC,Bool.and_false])
     | (rw [tb5 (.inr q58),h43];rfl)
     | (rw [tb6 q6,h54];simp only [aA,aB,aC,Bool.and_false])
     | (rw [tb6 q6,h54];rfl)
     | (rw [tb9 q9,h63,h68];simp only [aA,aB,aC,Bool.and_false])
     | (rw [tb9 q9,h63,h68];rfl)
     | (rw [tb9 q9,h63];simp only [aA,aB,aC,Bool.and_false])
     | (rw [tb9 q9,h63];rfl)
     | (rw [tbb (.inl qb),h81,h86];simp only [aA,aB,aC,Bool.and_false])
     | (rw [tbb (.inl qb),h81,h86];rfl)
     | (rw [tbb (.inl qb),h81];simp only [aA,aB,aC,Bool.and_false])
     | (rw [tbb (.inl qb),h81];rfl)
     | (rw [tbb (.inr (.inl qb)),h81,h86];simp only [aA,aB,aC,Bool.and_false])
     | (rw [tbb (.inr (.inl qb)),h81,h86];rfl)
     | (rw [tbb (.inr (.inl qb)),h81];simp only [aA,aB,aC,Bool.and_false])
     | (rw [tbb (.inr (.inl qb)),h81];rfl)
     | (rw [tbb (.inr (.inr (.inl qb))),h81,h86];simp only [aA,aB,aC,Bool.and_false])
     | (rw [tbb (.inr (.inr (.inl qb))),h81,h86];rfl)
     | (rw [tbb (.inr (.inr (.inl qb))),h81];simp only [aA,aB,aC,Bool.and_false])
     | (rw [tbb (.inr (.inr (.inl qb))),h81];rfl)
     | (rw [tbb (.inr (.inr (.inr (.inl qb)))),h81,h86];simp only [aA,aB,aC,Bool.and_false])
     | (rw [tbb (.inr (.inr (.inr (.inl qb)))),h81,h86];rfl)
     | (rw [tbb (.inr (.inr (.inr (.inl qb)))),h81];simp only [aA,aB,aC,Bool.and_false])
     | (rw [tbb (.inr (.inr (.inr (.inl qb)))),h81];rfl)
     | (rw [tbb (.inr (.inr (.inr (.inr qb)))),h81,h86];simp only [aA,aB,aC,Bool.and_false])
     | (rw [tbb (.inr (.inr (.inr (.inr qb)))),h81,h86];rfl)
     | (rw [tbb (.inr (.inr (.inr (.inr qb)))),h81];simp only [aA,aB,aC,Bool.and_false])
     | (rw [tbb (.inr (.inr (.inr (.inr qb)))),h81];rfl)
     | (rw [tbn q1 q4 q585 q588 q6 q9 qb11 qb12 qb13 qb14 qb15])
   refine .gG<|.gG<|.gG<|.gG<|.yw (.pickF Z Z)<|.az Z<|.bR<|.tR<|?_
   refine y9 Z Z λW s=>⟨?_,s.ext⟩
   first
    | (rw [tb1 q1,h10,h15];simp only [aA,aB,aC,Bool.and_false])
    | (rw [tb1 q1,h10,h15];rfl)
    | (rw [tb1 q1,h10];simp only [aA,aB,aC,Bool.and_false])
    | (rw [tb1 q1,h10];rfl)
    | (rw [tb4 q4,h26,h31];simp only [aA,aB,aC,Bool.and_false])
    | (rw [tb4 q4,h26,h31];rfl)
    | (rw [tb4 q4,h26];simp only [aA,aB,aC,Bool.and_false])
    | (rw [tb4 q4,h26];rfl)
    | (rw [tb5 (.inl q58),h43];simp only [aA,aB,aC,Bool.and_false])
    | (rw [tb5 (.inl q58),h43];rfl)
    | (rw [tb5 (.inr q58),h43];simp only [aA,aB,aC,Bool.and_false])
    | (rw [tb5 (.inr q58),h43];rfl)
    | (rw [tb6 q6,h54];simp only [aA,aB,aC,Bool.and_false])
    | (rw [tb6 q6,h54];rfl)
    | (rw [tb9 q9,h63,h68];simp only [aA,aB,aC,Bool.and_false])
    | (rw [tb9 q9,h63,h68];rfl)
    | (rw [tb9 q9,h63];simp only [aA,aB,aC,Bool.and_false])
    | (rw [tb9 q9,h63];rfl)
    | (rw [tbb (.inl qb),h81,h86];simp only [aA,aB,aC,Bool.and_false])
    | (rw [tbb (.inl qb),h81,h86];rfl)
    | (rw [tbb (.inl qb),h81];simp only [aA,aB,aC,Bool.and_false])
    | (rw [tbb (.inl qb),h81];rfl)
    | (rw [tbb (.inr (.inl qb)),h81,h86];simp only [aA,aB,aC,Bool.and_false])
    | (rw [tbb (.inr (.inl qb)),h81,h86];rfl)
    | (rw [tbb (.inr (.inl qb)),h81];simp only [aA,aB,aC,Bool.and_false])
    | (rw [tbb (.inr (.inl qb)),h81];rfl)
    | (rw [tbb (.inr (.inr (.inl qb))),h81,h86];simp only [aA,aB,aC,Bool.and_false])
    | (rw [tbb (.inr (.inr (.inl qb))),h81,h86];rfl)
    | (rw [tbb (.inr (.inr (.inl qb))),h81];simp only [aA,aB,aC,Bool.and_false])
    | (rw [tbb (.inr (.inr (.inl qb))),h81];rfl)
    | (rw [tbb (.inr (.inr (.inr (.inl qb)))),h81,h86];simp only [aA,aB,aC,Bool.and_false])
    | (rw [tbb (.inr (.inr (.inr (.inl qb)))),h81,h86];rfl)
    | (rw [tbb (.inr (.inr (.inr (.inl qb)))),h81];simp only [aA,aB,aC,Bool.and_false])
    | (rw [tbb (.inr (.inr (.inr (.inl qb)))),h81];rfl)
    | (rw [tbb (.inr (.inr (.inr (.inr qb)))),h81,h86];simp only [aA,aB,aC,Bool.and_false])
    | (rw [tbb (.inr (.inr (.inr (.inr qb)))),h81,h86];rfl)
    | (rw [tbb (.inr (.inr (.inr (.inr qb)))),h81];simp only [aA,aB,aC,Bool.and_false])
    | (rw [tbb (.inr (.inr (.inr (.inr qb)))),h81];rfl)
    | (rw [tbn q1 q4 q585 q588 q6 q9 qb11 qb12 qb13 qb14 qb15])
  refine .gG<|.gG<|.gG<|.yw (.pickF Z Z)<|.mv Z<|.gG<|.gG<|.gG<|.gG<|.yw (.pickF Z Z)<|.az Z<|.bR<|.tR<|?_
  refine y9 Z Z λW s=>⟨?_,s.ext⟩
  first
   | (rw [tb1 q1,h10,h15];simp only [aA,aB,aC,Bool.and_false])
   | (rw [tb1 q1,h10,h15];rfl)
   | (rw [tb1 q1,h10];simp only [aA,aB,aC,Bool.and_false])
   | (rw [tb1 q1,h10];rfl)
   | (rw [tb4 q4,h26,h31];simp only [aA,aB,aC,Bool.and_false])
   | (rw [tb4 q4,h26,h31];rfl)
   | (rw [tb4 q4,h26];simp only [aA,aB,aC,Bool.and_false])
   | (rw [tb4 q4,h26];rfl)
   | (rw [tb5 (.inl q58),h43];simp only [aA,aB,aC,Bool.and_false])
   | (rw [tb5 (.inl q58),h43];rfl)
   | (rw [tb5 (.inr q58),h43];simp only [aA,aB,aC,Bool.and_false])
   | (rw [tb5 (.inr q58),h43];rfl)
   | (rw [tb6 q6,h54];simp only [aA,aB,aC,Bool.and_false])
   | (rw [tb6 q6,h54];rfl)
   | (rw [tb9 q9,h63,h68];simp only [aA,aB,aC,Bool.and_false])
   | (rw [tb9 q9,h63,h68];rfl)
   | (rw [tb9 q9,h63];simp only [aA,aB,aC,Bool.and_false])
   | (rw [tb9 q9,h63];rfl)
   | (rw [tbb (.inl qb),h81,h86];simp only [aA,aB,aC,Bool.and_false])
   | (rw [tbb (.inl qb),h81,h86];rfl)
   | (rw [tbb (.inl qb),h81];simp only [aA,aB,aC,Bool.and_false])
   | (rw [tbb (.inl qb),h81];rfl)
   | (rw [tbb (.inr (.inl qb)),h81,h86];simp only [aA,aB,aC,Bool.and_false])
   | (rw [tbb (.inr (.inl qb)),h81,h86];rfl)
   | (rw [tbb (.inr (.inl qb)),h81];simp only [aA,aB,aC,Bool.and_false])
   | (rw [tbb (.inr (.inl qb)),h81];rfl)
   | (rw [tbb (.inr (.inr (.inl qb))),h81,h86];simp only [aA,aB,aC,Bool.and_false])
   | (rw [tbb (.inr (.inr (.inl qb))),h81,h86];rfl)
   | (rw [tbb (.inr (.inr (.inl qb))),h81];simp only [aA,aB,aC,Bool.and_false])
   | (rw [tbb (.inr (.inr (.inl qb))),h81];rfl)
   | (rw [tbb (.inr (.inr (.inr (.inl qb)))),h81,h86];simp only [aA,aB,aC,Bool.and_false])
   | (rw [tbb (.inr (.inr (.inr (.inl qb)))),h81,h86];rfl)
   | (rw [tbb (.inr (.inr (.inr (.inl qb)))),h81];simp only [aA,aB,aC,Bool.and_false])
   | (rw [tbb (.inr (.inr (.inr (.inl qb)))),h81];rfl)
   | (rw [tbb (.inr (.inr (.inr (.inr qb)))),h81,h86];simp only [aA,aB,aC,Bool.and_false])
   | (rw [tbb (.inr (.inr (.inr (.inr qb)))),h81,h86];rfl)
   | (rw [tbb (.inr (.inr (.inr (.inr qb)))),h81];simp only [aA,aB,aC,Bool.and_false])
   | (rw [tbb (.inr (.inr (.inr (.inr qb)))),h81];rfl)
   | (rw [tbn q1 q4 q585 q588 q6 q9 qb11 qb12 qb13 qb14 qb15])
 have q1:¬ op=1:=λe=>aN h5 (by rw [e];rfl);refine .sr<|.yw (.eql Z Z)<|.aq Z<|.cd Z (λh21=>?_) (λh21=>?_)
 ·have q4:op=4:=aQ.1 (by have:=aH h21;show op.toNat=4;omega);refine .sr<|.fA Z fT<|.lD Z cZ Hm Z<|.yw (.eqS Z Z)<|.mv Z<|.b2 (λh26=>?_) (λh26=>?_)
  ·refine .gy (.fieldAddr Z gD)<|.gy (.load Z fC Hm Z)<|.gy (.cast (.eql Z Z) (congrArg Value.bool i0))<|.yw (.pickT Z Z)<|.mv Z<|.b2 (λh31=>?_) (λh31=>?_)
   ·refine .gy (.fieldAddr Z eA)<|.gy (.load Z dE Hm Z)<|.gy (.lenSl dO Z)<|.gy (.cast (.eql Z Z) (congrArg Value.bool er0))<|.yw (.pickT Z Z)<|.az Z<|.bR<|.tR<|?_
    refine y9 Z Z λW s=>⟨?_,s.ext⟩
    first
     | (rw [tb1 q1,h10,h15];simp only [aA,aB,aC,Bool.and_false])
     | (rw [tb1 q1,h10,h15];rfl)
     | (rw [tb1 q1,h10];simp only [aA,aB,aC,Bool.and_false])
     | (rw [tb1 q1,h10];rfl)
     | (rw [tb4 q4,h26,h31];simp only [aA,aB,aC,Bool.and_false])
     | (rw [tb4 q4,h26,h31];rfl)
     | (rw [tb4 q4,h26];simp only [aA,aB,aC,Bool.and_false])
     | (rw [tb4 q4,h26];rfl)
     | (rw [tb5 (.inl q58),h43];simp only [aA,aB,aC,Bool.and_false])
     | (rw [tb5 (.inl q58),h43];rfl)
     | (rw [tb5 (.inr q58),h43];simp only [aA,aB,aC,Bool.and_false])
     | (rw [tb5 (.inr q58),h43];rfl)
     | (rw [tb6 q6,h54];simp only [aA,aB,aC,Bool.and_false])
     | (rw [tb6 q6,h54];rfl)
     | (rw [tb9 q9,h63,h68];simp only [aA,aB,aC,Bool.and_false])
     | (rw [tb9 q9,h63,h68];rfl)
     | (rw [tb9 q9,h63];simp only [aA,aB,aC,Bool.and_false])
     | (rw [tb9 q9,h63];rfl)
     | (rw [tbb (.inl qb),h81,h86];simp only [aA,aB,aC,Bool.and_false])
     | (rw [tbb (.inl qb),h81,h86];rfl)
     | (rw [tbb (.inl qb),h81];simp only [aA,aB,aC,Bool.and_false])
     | (rw [tbb (.inl qb),h81];rfl)
     | (rw [tbb (.inr (.inl qb)),h81,h86];simp only [aA,aB,aC,Bool.and_false])
     | (rw [tbb (.inr (.inl qb)),h81,h86];rfl)
     | (rw [tbb (.inr (.inl qb)),h81];simp only [aA,aB,aC,Bool.and_false])
     | (rw [tbb (.inr (.inl qb)),h81];rfl)
     | (rw [tbb (.inr (.inr (.inl qb))),h81,h86];simp only [aA,aB,aC,Bool.and_false])
     | (rw [tbb (.inr (.inr (.inl qb))),h81,h86];rfl)
     | (rw [tbb (.inr (.inr (.inl qb))),h81];simp only [aA,aB,aC,Bool.and_false])
     | (rw [tbb (.inr (.inr (.inl qb))),h81];rfl)
     | (rw [tbb (.inr (.inr (.inr (.inl qb)))),h81,h86];simp only [aA,aB,aC,Bool.and_false])
     | (rw [tbb (.inr (.inr (.inr (.inl qb)))),h81,h86];rfl)
     | (rw [tbb (.inr (.inr (.inr (.inl qb)))),h81];simp only [aA,aB,aC,Bool.and_false])
     | (rw [tbb (.inr (.inr (.inr (.inl qb)))),h81];rfl)
     | (rw [tbb (.inr (.inr (.inr (.inr qb)))),h81,h86];simp only [aA,aB,aC,Bool.and_false])
     | (rw [tbb (.inr (.inr (.inr (.inr qb)))),h81,h86];rfl)
     | (rw [tbb (.inr (.inr (.inr (.inr qb)))),h81];simp only [aA,aB,aC,Bool.and_false])
     | (rw [tbb (.inr (.inr (.inr (.inr qb)))),h81];rfl)
     | (rw [tbn q1 q4 q585 q588 q6 q9 qb11 qb12 qb13 qb14 qb15])
   refine .gG<|.gG<|.gG<|.gG<|.yw (.pickF Z Z)<|.az Z<|.bR<|.tR<|?_
   refine y9 Z Z λW s=>⟨?_,s.ext⟩
   first
    | (rw [tb1 q1,h10,h15];simp only [aA,aB,aC,Bool.and_false])
    | (rw [tb1 q1,h10,h15];rfl)
    | (rw [tb1 q1,h10];simp only [aA,aB,aC,Bool.and_false])
    | (rw [tb1 q1,h10];rfl)
    | (rw [tb4 q4,h26,h31];simp only [aA,aB,aC,Bool.and_false])
    | (rw [tb4 q4,h26,h31];rfl)
    | (rw [tb4 q4,h26];simp only [aA,aB,aC,Bool.and_false])
    | (rw [tb4 q4,h26];rfl)
    | (rw [tb5 (.inl q58),h43];simp only [aA,aB,aC,Bool.and_false])
    | (rw [tb5 (.inl q58),h43];rfl)
    | (rw [tb5 (.inr q58),h43];simp only [aA,aB,aC,Bool.and_false])
    | (rw [tb5 (.inr q58),h43];rfl)
    | (rw [tb6 q6,h54];simp only [aA,aB,aC,Bool.and_false])
    | (rw [tb6 q6,h54];rfl)
    | (rw [tb9 q9,h63,h68];simp only [aA,aB,aC,Bool.and_false])
    | (rw [tb9 q9,h63,h68];rfl)
    | (rw [tb9 q9,h63];simp only [aA,aB,aC,Bool.and_false])
    | (rw [tb9 q9,h63];rfl)
    | (rw [tbb (.inl qb),h81,h86];simp only [aA,aB,aC,Bool.and_false])
    | (rw [tbb (.inl qb),h81,h86];rfl)
    | (rw [tbb (.inl qb),h81];simp only [aA,aB,aC,Bool.and_false])
    | (rw [tbb (.inl qb),h81];rfl)
    | (rw [tbb (.inr (.inl qb)),h81,h86];simp only [aA,aB,aC,Bool.and_false])
    | (rw [tbb (.inr (.inl qb)),h81,h86];rfl)
    | (rw [tbb (.inr (.inl qb)),h81];simp only [aA,aB,aC,Bool.and_false])
    | (rw [tbb (.inr (.inl qb)),h81];rfl)
    | (rw [tbb (.inr (.inr (.inl qb))),h81,h86];simp only [aA,aB,aC,Bool.and_false])
    | (rw [tbb (.inr (.inr (.inl qb))),h81,h86];rfl)
    | (rw [tbb (.inr (.inr (.inl qb))),h81];simp only [aA,aB,aC,Bool.and_false])
    | (rw [tbb (.inr (.inr (.inl qb))),h81];rfl)
    | (rw [tbb (.inr (.inr (.inr (.inl qb)))),h81,h86];simp only [aA,aB,aC,Bool.and_false])
    | (rw [tbb (.inr (.inr (.inr (.inl qb)))),h81,h86];rfl)
    | (rw [tbb (.inr (.inr (.inr (.inl qb)))),h81];simp only [aA,aB,aC,Bool.and_false])
    | (rw [tbb (.inr (.inr (.inr (.inl qb)))),h81];rfl)
    | (rw [tbb (.inr (.inr (.inr (.inr qb)))),h81,h86];simp only [aA,aB,aC,Bool.and_false])
    | (rw [tbb (.inr (.inr (.inr (.inr qb)))),h81,h86];rfl)
    | (rw [tbb (.inr (.inr (.inr (.inr qb)))),h81];simp only [aA,aB,aC,Bool.and_false])
    | (rw [tbb (.inr (.inr (.inr (.inr qb)))),h81];rfl)
    | (rw [tbn q1 q4 q585 q588 q6 q9 qb11 qb12 qb13 qb14 qb15])
  refine .gG<|.gG<|.gG<|.yw (.pickF Z Z)<|.mv Z<|.gG<|.gG<|.gG<|.gG<|.yw (.pickF Z Z)<|.az Z<|.bR<|.tR<|?_
  refine y9 Z Z λW s=>⟨?_,s.ext⟩
  first
   | (rw [tb1 q1,h10,h15];simp only [aA,aB,aC,Bool.and_false])
   | (rw [tb1 q1,h10,h15];rfl)
   | (rw [tb1 q1,h10];simp only [aA,aB,aC,Bool.and_false])
   | (rw [tb1 q1,h10];rfl)
   | (rw [tb4 q4,h26,h31];simp only [aA,aB,aC,Bool.and_false])
   | (rw [tb4 q4,h26,h31];rfl)
   | (rw [tb4 q4,h26];simp only [aA,aB,aC,Bool.and_false])
   | (rw [tb4 q4,h26];rfl)
   | (rw [tb5 (.inl q58),h43];simp only [aA,aB,aC,Bool.and_false])
   | (rw [tb5 (.inl q58),h43];rfl)
   | (rw [tb5 (.inr q58),h43];simp only [aA,aB,aC,Bool.and_false])
   | (rw [tb5 (.inr q58),h43];rfl)
   | (rw [tb6 q6,h54];simp only [aA,aB,aC,Bool.and_false])
   | (rw [tb6 q6,h54];rfl)
   | (rw [tb9 q9,h63,h68];simp only [aA,aB,aC,Bool.and_false])
   | (rw [tb9 q9,h63,h68];rfl)
   | (rw [tb9 q9,h63];simp only [aA,aB,aC,Bool.and_false])
   | (rw [tb9 q9,h63];rfl)
   | (rw [tbb (.inl qb),h81,h86];simp only [aA,aB,aC,Bool.and_false])
   | (rw [tbb (.inl qb),h81,h86];rfl)
   | (rw [tbb (.inl qb),h81];simp only [aA,aB,aC,Bool.and_false])
   | (rw [tbb (.inl qb),h81];rfl)
   | (rw [tbb (.inr (.inl qb)),h81,h86];simp only [aA,aB,aC,Bool.and_false])
   | (rw [tbb (.inr (.inl qb)),h81,h86];rfl)
   | (rw [tbb (.inr (.inl qb)),h81];simp only [aA,aB,aC,Bool.and_false])
   | (rw [tbb (.inr (.inl qb)),h81];rfl)
   | (rw [tbb (.inr (.inr (.inl qb))),h81,h86];simp only [aA,aB,aC,Bool.and_false])
   | (rw [tbb (.inr (.inr (.inl qb))),h81,h86];rfl)
   | (rw [tbb (.inr (.inr (.inl qb))),h81];simp only [aA,aB,aC,Bool.and_false])
   | (rw [tbb (.inr (.inr (.inl qb))),h81];rfl)
   | (rw [tbb (.inr (.inr (.inr (.inl qb)))),h81,h86];simp only [aA,aB,aC,Bool.and_false])
   | (rw [tbb (.inr (.inr (.inr (.inl qb)))),h81,h86];rfl)
   | (rw [tbb (.inr (.inr (.inr (.inl qb)))),h81];simp only [aA,aB,aC,Bool.and_false])
   | (rw [tbb (.inr (.inr (.inr (.inl qb)))),h81];rfl)
   | (rw [tbb (.inr (.inr (.inr (.inr qb)))),h81,h86];simp only [aA,aB,aC,Bool.and_false])
   | (rw [tbb (.inr (.inr (.inr (.inr qb)))),h81,h86];rfl)
   | (rw [tbb (.inr (.inr (.inr (.inr qb)))),h81];simp only [aA,aB,aC,Bool.and_false])
   | (rw [tbb (.inr (.inr (.inr (.inr qb)))),h81];rfl)
   | (rw [tbn q1 q4 q585 q588 q6 q9 qb11 qb12 qb13 qb14 qb15])
 have q4:¬ op=4:=λe=>aN h21 (by rw [e];rfl);refine .sq<|.sr<|.yw (.eql Z Z)<|.aq Z<|.cr Z (λh37=>?_) (λh37=>?_)
 ·have q58:op=5:=aQ.1 (by have:=aH h37;show op.toNat=5;omega);refine .sk<|.tN<|.cT Z<|.sr<|.fA Z gD<|.lD Z fC Hm Z<|.yw (.cast (.eql Z Z) (congrArg Value.bool i0))<|.mv Z<|.b2 (λh43=>?_) (λh43=>?_)
  ·refine .gy (.fieldAddr Z eA)<|.gy (.load Z dE Hm Z)<|.gy (.lenSl dO Z)<|.gy (.cast (.eql Z Z) (congrArg Value.bool er0))<|.yw (.pickT Z Z)<|.az Z<|.bR<|.tR<|?_
   refine y9 Z Z λW s=>⟨?_,s.ext⟩
   first
    | (rw [tb1 q1,h10,h15];simp only [aA,aB,aC,Bool.and_false])
    | (rw [tb1 q1,h10,h15];rfl)
    | (rw [tb1 q1,h10];simp only [aA,aB,aC,Bool.and_false])
    | (rw [tb1 q1,h10];rfl)
    | (rw [tb4 q4,h26,h31];simp only [aA,aB,aC,Bool.and_false])
    | (rw [tb4 q4,h26,h31];rfl)
    | (rw [tb4 q4,h26];simp only [aA,aB,aC,Bool.and_false])
    | (rw [tb4 q4,h26];rfl)
    | (rw [tb5 (.inl q58),h43];simp only [aA,aB,aC,Bool.and_false])
    | (rw [tb5 (.inl q58),h43];rfl)
    | (rw [tb5 (.inr q58),h43];simp only [aA,aB,aC,Bool.and_false])
    | (rw [tb5 (.inr q58),h43];rfl)
    | (rw [tb6 q6,h54];simp only [aA,aB,aC,Bool.and_false])
    | (rw [tb6 q6,h54];rfl)
    | (rw [tb9 q9,h63,h68];simp only [aA,aB,aC,Bool.and_false])
    | (rw [tb9 q9,h63,h68];rfl)
    | (rw [tb9 q9,h63];simp only [aA,aB,aC,Bool.and_false])
    | (rw [tb9 q9,h63];rfl)
    | (rw [tbb (.inl qb),h81,h86];simp only [aA,aB,aC,Bool.and_false])
    | (rw [tbb (.inl qb),h81,h86];rfl)
    | (rw [tbb (.inl qb),h81];simp only [aA,aB,aC,Bool.and_false])
    | (rw [tbb (.inl qb),h81];rfl)
    | (rw [tbb (.inr (.inl qb)),h81,h86];simp only [aA,aB,aC,Bool.and_false])
    | (rw [tbb (.inr (.inl qb)),h81,h86];rfl)
    | (rw [tbb (.inr (.inl qb)),h81];simp only [aA,aB,aC,Bool.and_false])
    | (rw [tbb (.inr (.inl qb)),h81];rfl)
    | (rw [tbb (.inr (.inr (.inl qb))),h81,h86];simp only [aA,aB,aC,Bool.and_false])
    | (rw [tbb (.inr (.inr (.inl qb))),h81,h86];rfl)
    | (rw [tbb (.inr (.inr (.inl qb))),h81];simp only [aA,aB,aC,Bool.and_false])
    | (rw [tbb (.inr (.inr (.inl qb))),h81];rfl)
    | (rw [tbb (.inr (.inr (.inr (.inl qb)))),h81,h86];simp only [aA,aB,aC,Bool.and_false])
    | (rw [tbb (.inr (.inr (.inr (.inl qb)))),h81,h86];rfl)
    | (rw [tbb (.inr (.inr (.inr (.inl qb)))),h81];simp only [aA,aB,aC,Bool.and_false])
    | (rw [tbb (.inr (.inr (.inr (.inl qb)))),h81];rfl)
    | (rw [tbb (.inr (.inr (.inr (.inr qb)))),h81,h86];simp only [aA,aB,aC,Bool.and_false])
    | (rw [tbb (.inr (.inr (.inr (.inr qb)))),h81,h86];rfl)
    | (rw [tbb (.inr (.inr (.inr (.inr qb)))),h81];simp only [aA,aB,aC,Bool.and_false])
    | (rw [tbb (.inr (.inr (.inr (.inr qb)))),h81];rfl)
    | (rw [tbn q1 q4 q585 q588 q6 q9 qb11 qb12 qb13 qb14 qb15])
  refine .gG<|.gG<|.gG<|.gG<|.yw (.pickF Z Z)<|.az Z<|.bR<|.tR<|?_
  refine y9 Z Z λW s=>⟨?_,s.ext⟩
  first
   | (rw [tb1 q1,h10,h15];simp only [aA,aB,aC,Bool.and_false])
   | (rw [tb1 q1,h10,h15];rfl)
   | (rw [tb1 q1,h10];simp only [aA,aB,aC,Bool.and_false])
   | (rw [tb1 q1,h10];rfl)
   | (rw [tb4 q4,h26,h31];simp only [aA,aB,aC,Bool.and_false])
   | (rw [tb4 q4,h26,h31];rfl)
   | (rw [tb4 q4,h26];simp only [aA,aB,aC,Bool.and_false])
   | (rw [tb4 q4,h26];rfl)
   | (rw [tb5 (.inl q58),h43];simp only [aA,aB,aC,Bool.and_false])
   | (rw [tb5 (.inl q58),h43];rfl)
   | (rw [tb5 (.inr q58),h43];simp only [aA,aB,aC,Bool.and_false])
   | (rw [tb5 (.inr q58),h43];rfl)
   | (rw [tb6 q6,h54];simp only [aA,aB,aC,Bool.and_false])
   | (rw [tb6 q6,h54];rfl)
   | (rw [tb9 q9,h63,h68];simp only [aA,aB,aC,Bool.and_false])
   | (rw [tb9 q9,h63,h68];rfl)
   | (rw [tb9 q9,h63];simp only [aA,aB,aC,Bool.and_false])
   | (rw [tb9 q9,h63];rfl)
   | (rw [tbb (.inl qb),h81,h86];simp only [aA,aB,aC,Bool.and_false])
   | (rw [tbb (.inl qb),h81,h86];rfl)
   | (rw [tbb (.inl qb),h81];simp only [aA,aB,aC,Bool.and_false])
   | (rw [tbb (.inl qb),h81];rfl)
   | (rw [tbb (.inr (.inl qb)),h81,h86];simp only [aA,aB,aC,Bool.and_false])
   | (rw [tbb (.inr (.inl qb)),h81,h86];rfl)
   | (rw [tbb (.inr (.inl qb)),h81];simp only [aA,aB,aC,Bool.and_false])
   | (rw [tbb (.inr (.inl qb)),h81];rfl)
   | (rw [tbb (.inr (.inr (.inl qb))),h81,h86];simp only [aA,aB,aC,Bool.and_false])
   | (rw [tbb (.inr (.inr (.inl qb))),h81,h86];rfl)
   | (rw [tbb (.inr (.inr (.inl qb))),h81];simp only [aA,aB,aC,Bool.and_false])
   | (rw [tbb (.inr (.inr (.inl qb))),h81];rfl)
   | (rw [tbb (.inr (.inr (.inr (.inl qb)))),h81,h86];simp only [aA,aB,aC,Bool.and_false])
   | (rw [tbb (.inr (.inr (.inr (.inl qb)))),h81,h86];rfl)
   | (rw [tbb (.inr (.inr (.inr (.inl qb)))),h81];simp only [aA,aB,aC,Bool.and_false])
   | (rw [tbb (.inr (.inr (.inr (.inl qb)))),h81];rfl)
   | (rw [tbb (.inr (.inr (.inr (.inr qb)))),h81,h86];simp only [aA,aB,aC,Bool.and_false])
   | (rw [tbb (.inr (.inr (.inr (.inr qb)))),h81,h86];rfl)
   | (rw [tbb (.inr (.inr (.inr (.inr qb)))),h81];simp only [aA,aB,aC,Bool.and_false])
   | (rw [tbb (.inr (.inr (.inr (.inr qb)))),h81];rfl)
   | (rw [tbn q1 q4 q585 q588 q6 q9 qb11 qb12 qb13 qb14 qb15])
 have q585:¬ op=5:=λe=>aN h37 (by rw [e];rfl);refine .rg<|.yw (.eql Z Z)<|.aq Z<|.cr Z (λh37=>?_) (λh37=>?_)
 ·have q58:op=8:=aQ.1 (by have:=aH h37;show op.toNat=8;omega);refine .sr<|.fA Z gD<|.lD Z fC Hm Z<|.yw (.cast (.eql Z Z) (congrArg Value.bool i0))<|.mv Z<|.b2 (λh43=>?_) (λh43=>?_)
  ·refine .gy (.fieldAddr Z eA)<|.gy (.load Z dE Hm Z)<|.gy (.lenSl dO Z)<|.gy (.cast (.eql Z Z) (congrArg Value.bool er0))<|.yw (.pickT Z Z)<|.az Z<|.bR<|.tR<|?_
   refine y9 Z Z λW s=>⟨?_,s.ext⟩
   first
    | (rw [tb1 q1,h10,h15];simp only [aA,aB,aC,Bool.and_false])
    | (rw [tb1 q1,h10,h15];rfl)
    | (rw [tb1 q1,h10];simp only [aA,aB,aC,Bool.and_false])
    | (rw [tb1 q1,h10];rfl)
    | (rw [tb4 q4,h26,h31];simp only [aA,aB,aC,Bool.and_false])
    | (rw [tb4 q4,h26,h31];rfl)
    | (rw [tb4 q4,h26];simp only [aA,aB,aC,Bool.and_false])
    | (rw [tb4 q4,h26];rfl)
    | (rw [tb5 (.inl q58),h43];simp only [aA,aB,aC,Bool.and_false])
    | (rw [tb5 (.inl q58),h43];rfl)
    | (rw [tb5 (.inr q58),h43];simp only [aA,aB,aC,Bool.and_false])
    | (rw [tb5 (.inr q58),h43];rfl)
    | (rw [tb6 q6,h54];simp only [aA,aB,aC,Bool.and_false])
    | (rw [tb6 q6,h54];rfl)
    | (rw [tb9 q9,h63,h68];simp only [aA,aB,aC,Bool.and_false])
    | (rw [tb9 q9,h63,h68];rfl)
    | (rw [tb9 q9,h63];simp only [aA,aB,aC,Bool.and_false])
    | (rw [tb9 q9,h63];rfl)
    | (rw [tbb (.inl qb),h81,h86];simp only [aA,aB,aC,Bool.and_false])
    | (rw [tbb (.inl qb),h81,h86];rfl)
    | (rw [tbb (.inl qb),h81];simp only [aA,aB,aC,Bool.and_false])
    | (rw [tbb (.inl qb),h81];rfl)
    | (rw [tbb (.inr (.inl qb)),h81,h86];simp only [aA,aB,aC,Bool.and_false])
    | (rw [tbb (.inr (.inl qb)),h81,h86];rfl)
    | (rw [tbb (.inr (.inl qb)),h81];simp only [aA,aB,aC,Bool.and_false])
    | (rw [tbb (.inr (.inl qb)),h81];rfl)
    | (rw [tbb (.inr (.inr (.inl qb))),h81,h86];simp only [aA,aB,aC,Bool.and_false])
    | (rw [tbb (.inr (.inr (.inl qb))),h81,h86];rfl)
    | (rw [tbb (.inr (.inr (.inl qb))),h81];simp only [aA,aB,aC,Bool.and_false])
    | (rw [tbb (.inr (.inr (.inl qb))),h81];rfl)
    | (rw [tbb (.inr (.inr (.inr (.inl qb)))),h81,h86];simp only [aA,aB,aC,Bool.and_false])
    | (rw [tbb (.inr (.inr (.inr (.inl qb)))),h81,h86];rfl)
    | (rw [tbb (.inr (.inr (.inr (.inl qb)))),h81];simp only [aA,aB,aC,Bool.and_false])
    | (rw [tbb (.inr (.inr (.inr (.inl qb)))),h81];rfl)
    | (rw [tbb (.inr (.inr (.inr (.inr qb)))),h81,h86];simp only [aA,aB,aC,Bool.and_false])
    | (rw [tbb (.inr (.inr (.inr (.inr qb)))),h81,h86];rfl)
    | (rw [tbb (.inr (.inr (.inr (.inr qb)))),h81];simp only [aA,aB,aC,Bool.and_false])
    | (rw [tbb (.inr (.inr (.inr (.inr qb)))),h81];rfl)
    | (rw [tbn q1 q4 q585 q588 q6 q9 qb11 qb12 qb13 qb14 qb15])
  refine .gG<|.gG<|.gG<|.gG<|.yw (.pickF Z Z)<|.az Z<|.bR<|.tR<|?_
  refine y9 Z Z λW s=>⟨?_,s.ext⟩
  first
   | (rw [tb1 q1,h10,h15];simp only [aA,aB,aC,Bool.and_false])
   | (rw [tb1 q1,h10,h15];rfl)
   | (rw [tb1 q1,h10];simp only [aA,aB,aC,Bool.and_false])
   | (rw [tb1 q1,h10];rfl)
   | (rw [tb4 q4,h26,h31];simp only [aA,aB,aC,Bool.and_false])
   | (rw [tb4 q4,h26,h31];rfl)
   | (rw [tb4 q4,h26];simp only [aA,aB,aC,Bool.and_false])
   | (rw [tb4 q4,h26];rfl)
   | (rw [tb5 (.inl q58),h43];simp only [aA,aB,aC,Bool.and_false])
   | (rw [tb5 (.inl q58),h43];rfl)
   | (rw [tb5 (.inr q58),h43];simp only [aA,aB,aC,Bool.and_false])
   | (rw [tb5 (.inr q58),h43];rfl)
   | (rw [tb6 q6,h54];simp only [aA,aB,aC,Bool.and_false])
   | (rw [tb6 q6,h54];rfl)
   | (rw [tb9 q9,h63,h68];simp only [aA,aB,aC,Bool.and_false])
   | (rw [tb9 q9,h63,h68];rfl)
   | (rw [tb9 q9,h63];simp only [aA,aB,aC,Bool.and_false])
   | (rw [tb9 q9,h63];rfl)
   | (rw [tbb (.inl qb),h81,h86];simp only [aA,aB,aC,Bool.and_false])
   | (rw [tbb (.inl qb),h81,h86];rfl)
   | (rw [tbb (.inl qb),h81];simp only [aA,aB,aC,Bool.and_false])
   | (rw [tbb (.inl qb),h81];rfl)
   | (rw [tbb (.inr (.inl qb)),h81,h86];simp only [aA,aB,aC,Bool.and_false])
   | (rw [tbb (.inr (.inl qb)),h81,h86];rfl)
   | (rw [tbb (.inr (.inl qb)),h81];simp only [aA,aB,aC,Bool.and_false])
   | (rw [tbb (.inr (.inl qb)),h81];rfl)
   | (rw [tbb (.inr (.inr (.inl qb))),h81,h86];simp only [aA,aB,aC,Bool.and_false])
   | (rw [tbb (.inr (.inr (.inl qb))),h81,h86];rfl)
   | (rw [tbb (.inr (.inr (.inl qb))),h81];simp only [aA,aB,aC,Bool.and_false])
   | (rw [tbb (.inr (.inr (.inl qb))),h81];rfl)
   | (rw [tbb (.inr (.inr (.inr (.inl qb)))),h81,h86];simp only [aA,aB,aC,Bool.and_false])
   | (rw [tbb (.inr (.inr (.inr (.inl qb)))),h81,h86];rfl)
   | (rw [tbb (.inr (.inr (.inr (.inl qb)))),h81];simp only [aA,aB,aC,Bool.and_false])
   | (rw [tbb (.inr (.inr (.inr (.inl qb)))),h81];rfl)
   | (rw [tbb (.inr (.inr (.inr (.inr qb)))),h81,h86];simp only [aA,aB,aC,Bool.and_false])
   | (rw [tbb (.inr (.inr (.inr (.inr qb)))),h81,h86];rfl)
   | (rw [tbb (.inr (.inr (.inr (.inr qb)))),h81];simp only [aA,aB,aC,Bool.and_false])
   | (rw [tbb (.inr (.inr (.inr (.inr qb)))),h81];rfl)
   | (rw [tbn q1 q4 q585 q588 q6 q9 qb11 qb12 qb13 qb14 qb15])
 have q588:¬ op=8:=λe=>aN h37 (by rw [e];rfl);refine .sr<|.yw (.eql Z Z)<|.aq Z<|.cd Z (λh49=>?_) (λh49=>?_)
 ·have q6:op=6:=aQ.1 (by have:=aH h49;show op.toNat=6;omega);refine .sr<|.fA Z gD<|.lD Z fC Hm Z<|.yw (.cast (.eql Z Z) (congrArg Value.bool i0))<|.mv Z<|.b2 (λh54=>?_) (λh54=>?_)
  ·refine .gy (.loadW Z dP Hm Z)<|.gy (.call qC Z (λW s=>mP H op nm nn args 1 _ W h (λa ha=>ih a ha) s.agr))<|.yw (.pickT Z Z)<|.az Z<|.bR<|.tR<|?_
   refine y9 Z Z λW s=>⟨?_,s.ext⟩
   first
    | (rw [tb1 q1,h10,h15];simp only [aA,aB,aC,Bool.and_false])
    | (rw [tb1 q1,h10,h15];rfl)
    | (rw [tb1 q1,h10];simp only [aA,aB,aC,Bool.and_false])
    | (rw [tb1 q1,h10];rfl)
    | (rw [tb4 q4,h26,h31];simp only [aA,aB,aC,Bool.and_false])
    | (rw [tb4 q4,h26,h31];rfl)
    | (rw [tb4 q4,h26];simp only [aA,aB,aC,Bool.and_false])
    | (rw [tb4 q4,h26];rfl)
    | (rw [tb5 (.inl q58),h43];simp only [aA,aB,aC,Bool.and_false])
    | (rw [tb5 (.inl q58),h43];rfl)
    | (rw [tb5 (.inr q58),h43];simp only [aA,aB,aC,Bool.and_false])
    | (rw [tb5 (.inr q58),h43];rfl)
    | (rw [tb6 q6,h54];simp only [aA,aB,aC,Bool.and_false])
    | (rw [tb6 q6,h54];rfl)
    | (rw [tb9 q9,h63,h68];simp only [aA,aB,aC,Bool.and_false])
    | (rw [tb9 q9,h63,h68];rfl)
    | (rw [tb9 q9,h63];simp only [aA,aB,aC,Bool.and_false])
    | (rw [tb9 q9,h63];rfl)
    | (rw [tbb (.inl qb),h81,h86];simp only [aA,aB,aC,Bool.and_false])
    | (rw [tbb (.inl qb),h81,h86];rfl)
    | (rw [tbb (.inl qb),h81];simp only [aA,aB,aC,Bool.and_false])
    | (rw [tbb (.inl qb),h81];rfl)
    | (rw [tbb (.inr (.inl qb)),h81,h86];simp only [aA,aB,aC,Bool.and_false])
    | (rw [tbb (.inr (.inl qb)),h81,h86];rfl)
    | (rw [tbb (.inr (.inl qb)),h81];simp only [aA,aB,aC,Bool.and_false])
    | (rw [tbb (.inr (.inl qb)),h81];rfl)
    | (rw [tbb (.inr (.inr (.inl qb))),h81,h86];simp only [aA,aB,aC,Bool.and_false])
    | (rw [tbb (.inr (.inr (.inl qb))),h81,h86];rfl)
    | (rw [tbb (.inr (.inr (.inl qb))),h81];simp only [aA,aB,aC,Bool.and_false])
    | (rw [tbb (.inr (.inr (.inl qb))),h81];rfl)
    | (rw [tbb (.inr (.inr (.inr (.inl qb)))),h81,h86];simp only [aA,aB,aC,Bool.and_false])
    | (rw [tbb (.inr (.inr (.inr (.inl qb)))),h81,h86];rfl)
    | (rw [tbb (.inr (.inr (.inr (.inl qb)))),h81];simp only [aA,aB,aC,Bool.and_false])
    | (rw [tbb (.inr (.inr (.inr (.inl qb)))),h81];rfl)
    | (rw [tbb (.inr (.inr (.inr (.inr qb)))),h81,h86];simp only [aA,aB,aC,Bool.and_false])
    | (rw [tbb (.inr (.inr (.inr (.inr qb)))),h81,h86];rfl)
    | (rw [tbb (.inr (.inr (.inr (.inr qb)))),h81];simp only [aA,aB,aC,Bool.and_false])
    | (rw [tbb (.inr (.inr (.inr (.inr qb)))),h81];rfl)
    | (rw [tbn q1 q4 q585 q588 q6 q9 qb11 qb12 qb13 qb14 qb15])
  refine .gG<|.gG<|.yw (.pickF Z Z)<|.az Z<|.bR<|.tR<|?_
  refine y9 Z Z λW s=>⟨?_,s.ext⟩
  first
   | (rw [tb1 q1,h10,h15];simp only [aA,aB,aC,Bool.and_false])
   | (rw [tb1 q1,h10,h15];rfl)
   | (rw [tb1 q1,h10];simp only [aA,aB,aC,Bool.and_false])
   | (rw [tb1 q1,h10];rfl)
   | (rw [tb4 q4,h26,h31];simp only [aA,aB,aC,Bool.and_false])
   | (rw [tb4 q4,h26,h31];rfl)
   | (rw [tb4 q4,h26];simp only [aA,aB,aC,Bool.and_false])
   | (rw [tb4 q4,h26];rfl)
   | (rw [tb5 (.inl q58),h43];simp only [aA,aB,aC,Bool.and_false])
   | (rw [tb5 (.inl q58),h43];rfl)
   | (rw [tb5 (.inr q58),h43];simp only [aA,aB,aC,Bool.and_false])
   | (rw [tb5 (.inr q58),h43];rfl)
   | (rw [tb6 q6,h54];simp only [aA,aB,aC,Bool.and_false])
   | (rw [tb6 q6,h54];rfl)
   | (rw [tb9 q9,h63,h68];simp only [aA,aB,aC,Bool.and_false])
   | (rw [tb9 q9,h63,h68];rfl)
   | (rw [tb9 q9,h63];simp only [aA,aB,aC,Bool.and_false])
   | (rw [tb9 q9,h63];rfl)
   | (rw [tbb (.inl qb),h81,h86];simp only [aA,aB,aC,Bool.and_false])
   | (rw [tbb (.inl qb),h81,h86];rfl)
   | (rw [tbb (.inl qb),h81];simp only [aA,aB,aC,Bool.and_false])
   | (rw [tbb (.inl qb),h81];rfl)
   | (rw [tbb (.inr (.inl qb)),h81,h86];simp only [aA,aB,aC,Bool.and_false])
   | (rw [tbb (.inr (.inl qb)),h81,h86];rfl)
   | (rw [tbb (.inr (.inl qb)),h81];simp only [aA,aB,aC,Bool.and_false])
   | (rw [tbb (.inr (.inl qb)),h81];rfl)
   | (rw [tbb (.inr (.inr (.inl qb))),h81,h86];simp only [aA,aB,aC,Bool.and_false])
   | (rw [tbb (.inr (.inr (.inl qb))),h81,h86];rfl)
   | (rw [tbb (.inr (.inr (.inl qb))),h81];simp only [aA,aB,aC,Bool.and_false])
   | (rw [tbb (.inr (.inr (.inl qb))),h81];rfl)
   | (rw [tbb (.inr (.inr (.inr (.inl qb)))),h81,h86];simp only [aA,aB,aC,Bool.and_false])
   | (rw [tbb (.inr (.inr (.inr (.inl qb)))),h81,h86];rfl)
   | (rw [tbb (.inr (.inr (.inr (.inl qb)))),h81];simp only [aA,aB,aC,Bool.and_false])
   | (rw [tbb (.inr (.inr (.inr (.inl qb)))),h81];rfl)
   | (rw [tbb (.inr (.inr (.inr (.inr qb)))),h81,h86];simp only [aA,aB,aC,Bool.and_false])
   | (rw [tbb (.inr (.inr (.inr (.inr qb)))),h81,h86];rfl)
   | (rw [tbb (.inr (.inr (.inr (.inr qb)))),h81];simp only [aA,aB,aC,Bool.and_false])
   | (rw [tbb (.inr (.inr (.inr (.inr qb)))),h81];rfl)
   | (rw [tbn q1 q4 q585 q588 q6 q9 qb11 qb12 qb13 qb14 qb15])
 have q6:¬ op=6:=λe=>aN h49 (by rw [e];rfl);refine .sr<|.yw (.eql Z Z)<|.aq Z<|.cd Z (λh58=>?_) (λh58=>?_)
 ·have q9:op=9:=aQ.1 (by have:=aH h58;show op.toNat=9;omega);refine .sr<|.fA Z fT<|.lD Z cZ Hm Z<|.yw (.eqS Z Z)<|.mv Z<|.b2 (λh63=>?_) (λh63=>?_)
  ·refine .gy (.fieldAddr Z gD)<|.gy (.load Z fC Hm Z)<|.gy (.cast (.eql Z Z) (congrArg Value.bool i0))<|.yw (.pickT Z Z)<|.mv Z<|.b2 (λh68=>?_) (λh68=>?_)
   ·refine .gy (.loadW Z dP Hm Z)<|.gy (.call qC Z (λW s=>mP H op nm nn args 1 _ W h (λa ha=>ih a ha) s.agr))<|.yw (.pickT Z Z)<|.az Z<|.bR<|.tR<|?_
    refine y9 Z Z λW s=>⟨?_,s.ext⟩
    first
     | (rw [tb1 q1,h10,h15];simp only [aA,aB,aC,Bool.and_false])
     | (rw [tb1 q1,h10,h15];rfl)
     | (rw [tb1 q1,h10];simp only [aA,aB,aC,Bool.and_false])
     | (rw [tb1 q1,h10];rfl)
     | (rw [tb4 q4,h26,h31];simp only [aA,aB,aC,Bool.and_false])
     | (rw [tb4 q4,h26,h31];rfl)
     | (rw [tb4 q4,h26];simp only [aA,aB,aC,Bool.and_false])
     | (rw [tb4 q4,h26];rfl)
     | (rw [tb5 (.inl q58),h43];simp only [aA,aB,aC,Bool.and_false])
     | (rw [tb5 (.inl q58),h43];rfl)
     | (rw [tb5 (.inr q58),h43];simp only [aA,aB,aC,Bool.and_false])
     | (rw [tb5 (.inr q58),h43];rfl)
     | (rw [tb6 q6,h54];simp only [aA,aB,aC,Bool.and_false])
     | (rw [tb6 q6,h54];rfl)
     | (rw [tb9 q9,h63,h68];simp only [aA,aB,aC,Bool.and_false])
     | (rw [tb9 q9,h63,h68];rfl)
     | (rw [tb9 q9,h63];simp only [aA,aB,aC,Bool.and_false])
     | (rw [tb9 q9,h63];rfl)
     | (rw [tbb (.inl qb),h81,h86];simp only [aA,aB,aC,Bool.and_false])
     | (rw [tbb (.inl qb),h81,h86];rfl)
     | (rw [tbb (.inl qb),h81];simp only [aA,aB,aC,Bool.and_false])
     | (rw [tbb (.inl qb),h81];rfl)
     | (rw [tbb (.inr (.inl qb)),h81,h86];simp only [aA,aB,aC,Bool.and_false])
     | (rw [tbb (.inr (.inl qb)),h81,h86];rfl)
     | (rw [tbb (.inr (.inl qb)),h81];simp only [aA,aB,aC,Bool.and_false])
     | (rw [tbb (.inr (.inl qb)),h81];rfl)
     | (rw [tbb (.inr (.inr (.inl qb))),h81,h86];simp only [aA,aB,aC,Bool.and_false])
     | (rw [tbb (.inr (.inr (.inl qb))),h81,h86];rfl)
     | (rw [tbb (.inr (.inr (.inl qb))),h81];simp only [aA,aB,aC,Bool.and_false])
     | (rw [tbb (.inr (.inr (.inl qb))),h81];rfl)
     | (rw [tbb (.inr (.inr (.inr (.inl qb)))),h81,h86];simp only [aA,aB,aC,Bool.and_false])
     | (rw [tbb (.inr (.inr (.inr (.inl qb)))),h81,h86];rfl)
     | (rw [tbb (.inr (.inr (.inr (.inl qb)))),h81];simp only [aA,aB,aC,Bool.and_false])
     | (rw [tbb (.inr (.inr (.inr (.inl qb)))),h81];rfl)
     | (rw [tbb (.inr (.inr (.inr (.inr qb)))),h81,h86];simp only [aA,aB,aC,Bool.and_false])
     | (rw [tbb (.inr (.inr (.inr (.inr qb)))),h81,h86];rfl)
     | (rw [tbb (.inr (.inr (.inr (.inr qb)))),h81];simp only [aA,aB,aC,Bool.and_false])
     | (rw [tbb (.inr (.inr (.inr (.inr qb)))),h81];rfl)
     | (rw [tbn q1 q4 q585 q588 q6 q9 qb11 qb12 qb13 qb14 qb15])
   refine .gG<|.gG<|.yw (.pickF Z Z)<|.az Z<|.bR<|.tR<|?_
   refine y9 Z Z λW s=>⟨?_,s.ext⟩
   first
    | (rw [tb1 q1,h10,h15];simp only [aA,aB,aC,Bool.and_false])
    | (rw [tb1 q1,h10,h15];rfl)
    | (rw [tb1 q1,h10];simp only [aA,aB,aC,Bool.and_false])
    | (rw [tb1 q1,h10];rfl)
    | (rw [tb4 q4,h26,h31];simp only [aA,aB,aC,Bool.and_false])
    | (rw [tb4 q4,h26,h31];rfl)
    | (rw [tb4 q4,h26];simp only [aA,aB,aC,Bool.and_false])
    | (rw [tb4 q4,h26];rfl)
    | (rw [tb5 (.inl q58),h43];simp only [aA,aB,aC,Bool.and_false])
    | (rw [tb5 (.inl q58),h43];rfl)
    | (rw [tb5 (.inr q58),h43];simp only [aA,aB,aC,Bool.and_false])
    | (rw [tb5 (.inr q58),h43];rfl)
    | (rw [tb6 q6,h54];simp only [aA,aB,aC,Bool.and_false])
    | (rw [tb6 q6,h54];rfl)
    | (rw [tb9 q9,h63,h68];simp only [aA,aB,aC,Bool.and_false])
    | (rw [tb9 q9,h63,h68];rfl)
    | (rw [tb9 q9,h63];simp only [aA,aB,aC,Bool.and_false])
    | (rw [tb9 q9,h63];rfl)
    | (rw [tbb (.inl qb),h81,h86];simp only [aA,aB,aC,Bool.and_false])
    | (rw [tbb (.inl qb),h81,h86];rfl)
    | (rw [tbb (.inl qb),h81];simp only [aA,aB,aC,Bool.and_false])
    | (rw [tbb (.inl qb),h81];rfl)
    | (rw [tbb (.inr (.inl qb)),h81,h86];simp only [aA,aB,aC,Bool.and_false])
    | (rw [tbb (.inr (.inl qb)),h81,h86];rfl)
    | (rw [tbb (.inr (.inl qb)),h81];simp only [aA,aB,aC,Bool.and_false])
    | (rw [tbb (.inr (.inl qb)),h81];rfl)
    | (rw [tbb (.inr (.inr (.inl qb))),h81,h86];simp only [aA,aB,aC,Bool.and_false])
    | (rw [tbb (.inr (.inr (.inl qb))),h81,h86];rfl)
    | (rw [tbb (.inr (.inr (.inl qb))),h81];simp only [aA,aB,aC,Bool.and_false])
    | (rw [tbb (.inr (.inr (.inl qb))),h81];rfl)
    | (rw [tbb (.inr (.inr (.inr (.inl qb)))),h81,h86];simp only [aA,aB,aC,Bool.and_false])
    | (rw [tbb (.inr (.inr (.inr (.inl qb)))),h81,h86];rfl)
    | (rw [tbb (.inr (.inr (.inr (.inl qb)))),h81];simp only [aA,aB,aC,Bool.and_false])
    | (rw [tbb (.inr (.inr (.inr (.inl qb)))),h81];rfl)
    | (rw [tbb (.inr (.inr (.inr (.inr qb)))),h81,h86];simp only [aA,aB,aC,Bool.and_false])
    | (rw [tbb (.inr (.inr (.inr (.inr qb)))),h81,h86];rfl)
    | (rw [tbb (.inr (.inr (.inr (.inr qb)))),h81];simp only [aA,aB,aC,Bool.and_false])
    | (rw [tbb (.inr (.inr (.inr (.inr qb)))),h81];rfl)
    | (rw [tbn q1 q4 q585 q588 q6 q9 qb11 qb12 qb13 qb14 qb15])
  refine .gG<|.gG<|.gG<|.yw (.pickF Z Z)<|.mv Z<|.gG<|.gG<|.yw (.pickF Z Z)<|.az Z<|.bR<|.tR<|?_
  refine y9 Z Z λW s=>⟨?_,s.ext⟩
  first
   | (rw [tb1 q1,h10,h15];simp only [aA,aB,aC,Bool.and_false])
   | (rw [tb1 q1,h10,h15];rfl)
   | (rw [tb1 q1,h10];simp only [aA,aB,aC,Bool.and_false])
   | (rw [tb1 q1,h10];rfl)
   | (rw [tb4 q4,h26,h31];simp only [aA,aB,aC,Bool.and_false])
   | (rw [tb4 q4,h26,h31];rfl)
   | (rw [tb4 q4,h26];simp only [aA,aB,aC,Bool.and_false])
   | (rw [tb4 q4,h26];rfl)
   | (rw [tb5 (.inl q58),h43];simp only [aA,aB,aC,Bool.and_false])
   | (rw [tb5 (.inl q58),h43];rfl)
   | (rw [tb5 (.inr q58),h43];simp only [aA,aB,aC,Bool.and_false])
   | (rw [tb5 (.inr q58),h43];rfl)
   | (rw [tb6 q6,h54];simp only [aA,aB,aC,Bool.and_false])
   | (rw [tb6 q6,h54];rfl)
   | (rw [tb9 q9,h63,h68];simp only [aA,aB,aC,Bool.and_false])
   | (rw [tb9 q9,h63,h68];rfl)
   | (rw [tb9 q9,h63];simp only [aA,aB,aC,Bool.and_false])
   | (rw [tb9 q9,h63];rfl)
   | (rw [tbb (.inl qb),h81,h86];simp only [aA,aB,aC,Bool.and_false])
   | (rw [tbb (.inl qb),h81,h86];rfl)
   | (rw [tbb (.inl qb),h81];simp only [aA,aB,aC,Bool.and_false])
   | (rw [tbb (.inl qb),h81];rfl)
   | (rw [tbb (.inr (.inl qb)),h81,h86];simp only [aA,aB,aC,Bool.and_false])
   | (rw [tbb (.inr (.inl qb)),h81,h86];rfl)
   | (rw [tbb (.inr (.inl qb)),h81];simp only [aA,aB,aC,Bool.and_false])
   | (rw [tbb (.inr (.inl qb)),h81];rfl)
   | (rw [tbb (.inr (.inr (.inl qb))),h81,h86];simp only [aA,aB,aC,Bool.and_false])
   | (rw [tbb (.inr (.inr (.inl qb))),h81,h86];rfl)
   | (rw [tbb (.inr (.inr (.inl qb))),h81];simp only [aA,aB,aC,Bool.and_false])
   | (rw [tbb (.inr (.inr (.inl qb))),h81];rfl)
   | (rw [tbb (.inr (.inr (.inr (.inl qb)))),h81,h86];simp only [aA,aB,aC,Bool.and_false])
   | (rw [tbb (.inr (.inr (.inr (.inl qb)))),h81,h86];rfl)
   | (rw [tbb (.inr (.inr (.inr (.inl qb)))),h81];simp only [aA,aB,aC,Bool.and_false])
   | (rw [tbb (.inr (.inr (.inr (.inl qb)))),h81];rfl)
   | (rw [tbb (.inr (.inr (.inr (.inr qb)))),h81,h86];simp only [aA,aB,aC,Bool.and_false])
   | (rw [tbb (.inr (.inr (.inr (.inr qb)))),h81,h86];rfl)
   | (rw [tbb (.inr (.inr (.inr (.inr qb)))),h81];simp only [aA,aB,aC,Bool.and_false])
   | (rw [tbb (.inr (.inr (.inr (.inr qb)))),h81];rfl)
   | (rw [tbn q1 q4 q585 q588 q6 q9 qb11 qb12 qb13 qb14 qb15])
 have q9:¬ op=9:=λe=>aN h58 (by rw [e];rfl);refine .sq<|.sr<|.yw (.eql Z Z)<|.aq Z<|.cr Z (λh72=>?_) (λh72=>?_)
 ·have qb:op=11:=aQ.1 (by have:=aH h72;show op.toNat=11;omega);refine .sk<|.tN<|.cT Z<|.sr<|.fA Z fT<|.lD Z cZ Hm Z<|.yw (.eqS Z Z)<|.mv Z<|.b2 (λh81=>?_) (λh81=>?_)
  ·refine .gy (.fieldAddr Z gD)<|.gy (.load Z fC Hm Z)<|.gy (.cast (.eql Z Z) (congrArg Value.bool i0))<|.yw (.pickT Z Z)<|.mv Z<|.b2 (λh86=>?_) (λh86=>?_)
   ·refine .gy (.loadW Z dP Hm Z)<|.gy (.call qC Z (λW s=>mP H op nm nn args 2 _ W h (λa ha=>ih a ha) s.agr))<|.yw (.pickT Z Z)<|.az Z<|.bR<|.tR<|?_
    refine y9 Z Z λW s=>⟨?_,s.ext⟩
    first
     | (rw [tb1 q1,h10,h15];simp only [aA,aB,aC,Bool.and_false])
     | (rw [tb1 q1,h10,h15];rfl)
     | (rw [tb1 q1,h10];simp only [aA,aB,aC,Bool.and_false])
     | (rw [tb1 q1,h10];rfl)
     | (rw [tb4 q4,h26,h31];simp only [aA,aB,aC,Bool.and_false])
     | (rw [tb4 q4,h26,h31];rfl)
     | (rw [tb4 q4,h26];simp only [aA,aB,aC,Bool.and_false])
     | (rw [tb4 q4,h26];rfl)
     | (rw [tb5 (.inl q58),h43];simp only [aA,aB,aC,Bool.and_false])
     | (rw [tb5 (.inl q58),h43];rfl)
     | (rw [tb5 (.inr q58),h43];simp only [aA,aB,aC,Bool.and_false])
     | (rw [tb5 (.inr q58),h43];rfl)
     | (rw [tb6 q6,h54];simp only [aA,aB,aC,Bool.and_false])
     | (rw [tb6 q6,h54];rfl)
     | (rw [tb9 q9,h63,h68];simp only [aA,aB,aC,Bool.and_false])
     | (rw [tb9 q9,h63,h68];rfl)
     | (rw [tb9 q9,h63];simp only [aA,aB,aC,Bool.and_false])
     | (rw [tb9 q9,h63];rfl)
     | (rw [tbb (.inl qb),h81,h86];simp only [aA,aB,aC,Bool.and_false])
     | (rw [tbb (.inl qb),h81,h86];rfl)
     | (rw [tbb (.inl qb),h81];simp only [aA,aB,aC,Bool.and_false])
     | (rw [tbb (.inl qb),h81];rfl)
     | (rw [tbb (.inr (.inl qb)),h81,h86];simp only [aA,aB,aC,Bool.and_false])
     | (rw [tbb (.inr (.inl qb)),h81,h86];rfl)
     | (rw [tbb (.inr (.inl qb)),h81];simp only [aA,aB,aC,Bool.and_false])
     | (rw [tbb (.inr (.inl qb)),h81];rfl)
     | (rw [tbb (.inr (.inr (.inl qb))),h81,h86];simp only [aA,aB,aC,Bool.and_false])
     | (rw [tbb (.inr (.inr (.inl qb))),h81,h86];rfl)
     | (rw [tbb (.inr (.inr (.inl qb))),h81];simp only [aA,aB,aC,Bool.and_false])
     | (rw [tbb (.inr (.inr (.inl qb))),h81];rfl)
     | (rw [tbb (.inr (.inr (.inr (.inl qb)))),h81,h86];simp only [aA,aB,aC,Bool.and_false])
     | (rw [tbb (.inr (.inr (.inr (.inl qb)))),h81,h86];rfl)
     | (rw [tbb (.inr (.inr (.inr (.inl qb)))),h81];simp only [aA,aB,aC,Bool.and_false])
     | (rw [tbb (.inr (.inr (.inr (.inl qb)))),h81];rfl)
     | (rw [tbb (.inr (.inr (.inr (.inr qb)))),h81,h86];simp only [aA,aB,aC,Bool.and_false])
     | (rw [tbb (.inr (.inr (.inr (.inr qb)))),h81,h86];rfl)
     | (rw [tbb (.inr (.inr (.inr (.inr qb)))),h81];simp only [aA,aB,aC,Bool.and_false])
     | (rw [tbb (.inr (.inr (.inr (.inr qb)))),h81];rfl)
     | (rw [tbn q1 q4 q585 q588 q6 q9 qb11 qb12 qb13 qb14 qb15])
   refine .gG<|.gG<|.yw (.pickF Z Z)<|.az Z<|.bR<|.tR<|?_
   refine y9 Z Z λW s=>⟨?_,s.ext⟩
   first
    | (rw [tb1 q1,h10,h15];simp only [aA,aB,aC,Bool.and_false])
    | (rw [tb1 q1,h10,h15];rfl)
    | (rw [tb1 q1,h10];simp only [aA,aB,aC,Bool.and_false])
    | (rw [tb1 q1,h10];rfl)
    | (rw [tb4 q4,h26,h31];simp only [aA,aB,aC,Bool.and_false])
    | (rw [tb4 q4,h26,h31];rfl)
    | (rw [tb4 q4,h26];simp only [aA,aB,aC,Bool.and_false])
    | (rw [tb4 q4,h26];rfl)
    | (rw [tb5 (.inl q58),h43];simp only [aA,aB,aC,Bool.and_false])
    | (rw [tb5 (.inl q58),h43];rfl)
    | (rw [tb5 (.inr q58),h43];simp only [aA,aB,aC,Bool.and_false])
    | (rw [tb5 (.inr q58),h43];rfl)
    | (rw [tb6 q6,h54];simp only [aA,aB,aC,Bool.and_false])
    | (rw [tb6 q6,h54];rfl)
    | (rw [tb9 q9,h63,h68];simp only [aA,aB,aC,Bool.and_false])
    | (rw [tb9 q9,h63,h68];rfl)
    | (rw [tb9 q9,h63];simp only [aA,aB,aC,Bool.and_false])
    | (rw [tb9 q9,h63];rfl)
    | (rw [tbb (.inl qb),h81,h86];simp only [aA,aB,aC,Bool.and_false])
    | (rw [tbb (.inl qb),h81,h86];rfl)
    | (rw [tbb (.inl qb),h81];simp only [aA,aB,aC,Bool.and_false])
    | (rw [tbb (.inl qb),h81];rfl)
    | (rw [tbb (.inr (.inl qb)),h81,h86];simp only [aA,aB,aC,Bool.and_false])
    | (rw [tbb (.inr (.inl qb)),h81,h86];rfl)
    | (rw [tbb (.inr (.inl qb)),h81];simp only [aA,aB,aC,Bool.and_false])
    | (rw [tbb (.inr (.inl qb)),h81];rfl)
    | (rw [tbb (.inr (.inr (.inl qb))),h81,h86];simp only [aA,aB,aC,Bool.and_false])
    | (rw [tbb (.inr (.inr (.inl qb))),h81,h86];rfl)
    | (rw [tbb (.inr (.inr (.inl qb))),h81];simp only [aA,aB,aC,Bool.and_false])
    | (rw [tbb (.inr (.inr (.inl qb))),h81];rfl)
    | (rw [tbb (.inr (.inr (.inr (.inl qb)))),h81,h86];simp only [aA,aB,aC,Bool.and_false])
    | (rw [tbb (.inr (.inr (.inr (.inl qb)))),h81,h86];rfl)
    | (rw [tbb (.inr (.inr (.inr (.inl qb)))),h81];simp only [aA,aB,aC,Bool.and_false])
    | (rw [tbb (.inr (.inr (.inr (.inl qb)))),h81];rfl)
    | (rw [tbb (.inr (.inr (.inr (.inr qb)))),h81,h86];simp only [aA,aB,aC,Bool.and_false])
    | (rw [tbb (.inr (.inr (.inr (.inr qb)))),h81,h86];rfl)
    | (rw [tbb (.inr (.inr (.inr (.inr qb)))),h81];simp only [aA,aB,aC,Bool.and_false])
    | (rw [tbb (.inr (.inr (.inr (.inr qb)))),h81];rfl)
    | (rw [tbn q1 q4 q585 q588 q6 q9 qb11 qb12 qb13 qb14 qb15])
  refine .gG<|.gG<|.gG<|.yw (.pickF Z Z)<|.mv Z<|.gG<|.gG<|.yw (.pickF Z Z)<|.az Z<|.bR<|.tR<|?_
  refine y9 Z Z λW s=>⟨?_,s.ext⟩
  first
   | (rw [tb1 q1,h10,h15];simp only [aA,aB,aC,Bool.and_false])
   | (rw [tb1 q1,h10,h15];rfl)
   | (rw [tb1 q1,h10];simp only [aA,aB,aC,Bool.and_false])
   | (rw [tb1 q1,h10];rfl)
   | (rw [tb4 q4,h26,h31];simp only [aA,aB,aC,Bool.and_false])
   | (rw [tb4 q4,h26,h31];rfl)
   | (rw [tb4 q4,h26];simp only [aA,aB,aC,Bool.and_false])
   | (rw [tb4 q4,h26];rfl)
   | (rw [tb5 (.inl q58),h43];simp only [aA,aB,aC,Bool.and_false])
   | (rw [tb5 (.inl q58),h43];rfl)
   | (rw [tb5 (.inr q58),h43];simp only [aA,aB,aC,Bool.and_false])
   | (rw [tb5 (.inr q58),h43];rfl)
   | (rw [tb6 q6,h54];simp only [aA,aB,aC,Bool.and_false])
   | (rw [tb6 q6,h54];rfl)
   | (rw [tb9 q9,h63,h68];simp only [aA,aB,aC,Bool.and_false])
   | (rw [tb9 q9,h63,h68];rfl)
   | (rw [tb9 q9,h63];simp only [aA,aB,aC,Bool.and_false])
   | (rw [tb9 q9,h63];rfl)
   | (rw [tbb (.inl qb),h81,h86];simp only [aA,aB,aC,Bool.and_false])
   | (rw [tbb (.inl qb),h81,h86];rfl)
   | (rw [tbb (.inl qb),h81];simp only [aA,aB,aC,Bool.and_false])
   | (rw [tbb (.inl qb),h81];rfl)
   | (rw [tbb (.inr (.inl qb)),h81,h86];simp only [aA,aB,aC,Bool.and_false])
   | (rw [tbb (.inr (.inl qb)),h81,h86];rfl)
   | (rw [tbb (.inr (.inl qb)),h81];simp only [aA,aB,aC,Bool.and_false])
   | (rw [tbb (.inr (.inl qb)),h81];rfl)
   | (rw [tbb (.inr (.inr (.inl qb))),h81,h86];simp only [aA,aB,aC,Bool.and_false])
   | (rw [tbb (.inr (.inr (.inl qb))),h81,h86];rfl)
   | (rw [tbb (.inr (.inr (.inl qb))),h81];simp only [aA,aB,aC,Bool.and_false])
   | (rw [tbb (.inr (.inr (.inl qb))),h81];rfl)
   | (rw [tbb (.inr (.inr (.inr (.inl qb)))),h81,h86];simp only [aA,aB,aC,Bool.and_false])
   | (rw [tbb (.inr (.inr (.inr (.inl qb)))),h81,h86];rfl)
   | (rw [tbb (.inr (.inr (.inr (.inl qb)))),h81];simp only [aA,aB,aC,Bool.and_false])
   | (rw [tbb (.inr (.inr (.inr (.inl qb)))),h81];rfl)
   | (rw [tbb (.inr (.inr (.inr (.inr qb)))),h81,h86];simp only [aA,aB,aC,Bool.and_false])
   | (rw [tbb (.inr (.inr (.inr (.inr qb)))),h81,h86];rfl)
   | (rw [tbb (.inr (.inr (.inr (.inr qb)))),h81];simp only [aA,aB,aC,Bool.and_false])
   | (rw [tbb (.inr (.inr (.inr (.inr qb)))),h81];rfl)
   | (rw [tbn q1 q4 q585 q588 q6 q9 qb11 qb12 qb13 qb14 qb15])
 have qb11:¬ op=11:=λe=>aN h72 (by rw [e];rfl);refine .sr<|.yw (.eql Z Z)<|.aq Z<|.cr Z (λh72=>?_) (λh72=>?_)
 ·have qb:op=12:=aQ.1 (by have:=aH h72;show op.toNat=12;omega);refine .sk<|.tN<|.cT Z<|.sr<|.fA Z fT<|.lD Z cZ Hm Z<|.yw (.eqS Z Z)<|.mv Z<|.b2 (λh81=>?_) (λh81=>?_)
  ·refine .gy (.fieldAddr Z gD)<|.gy (.load Z fC Hm Z)<|.gy (.cast (.eql Z Z) (congrArg Value.bool i0))<|.yw (.pickT Z Z)<|.mv Z<|.b2 (λh86=>?_) (λh86=>?_)
   ·refine .gy (.loadW Z dP Hm Z)<|.gy (.call qC Z (λW s=>mP H op nm nn args 2 _ W h (λa ha=>ih a ha) s.agr))<|.yw (.pickT Z Z)<|.az Z<|.bR<|.tR<|?_
    refine y9 Z Z λW s=>⟨?_,s.ext⟩
    first
     | (rw [tb1 q1,h10,h15];simp only [aA,aB,aC,Bool.and_false])
     | (rw [tb1 q1,h10,h15];rfl)
     | (rw [tb1 q1,h10];simp only [aA,aB,aC,Bool.and_false])
     | (rw [tb1 q1,h10];rfl)
     | (rw [tb4 q4,h26,h31];simp only [aA,aB,aC,Bool.and_false])
     | (rw [tb4 q4,h26,h31];rfl)
     | (rw [tb4 q4,h26];simp only [aA,aB,aC,Bool.and_false])
     | (rw [tb4 q4,h26];rfl)
     | (rw [tb5 (.inl q58),h43];simp only [aA,aB,aC,Bool.and_false])
     | (rw [tb5 (.inl q58),h43];rfl)
     | (rw [tb5 (.inr q58),h43];simp only [aA,aB,aC,Bool.and_false])
     | (rw [tb5 (.inr q58),h43];rfl)
     | (rw [tb6 q6,h54];simp only [aA,aB,aC,Bool.and_false])
     | (rw [tb6 q6,h54];rfl)
     | (rw [tb9 q9,h63,h68];simp only [aA,aB,aC,Bool.and_false])
     | (rw [tb9 q9,h63,h68];rfl)
     | (rw [tb9 q9,h63];simp only [aA,aB,aC,Bool.and_false])
     | (rw [tb9 q9,h63];rfl)
     | (rw [tbb (.inl qb),h81,h86];simp only [aA,aB,aC,Bool.and_false])
     | (rw [tbb (.inl qb),h81,h86];rfl)
     | (rw [tbb (.inl qb),h81];simp only [aA,aB,aC,Bool.and_false])
     | (rw [tbb (.inl qb),h81];rfl)
     | (rw [tbb (.inr (.inl qb)),h81,h86];simp only [aA,aB,aC,Bool.and_false])
     | (rw [tbb (.inr (.inl qb)),h81,h86];rfl)
     | (rw [tbb (.inr (.inl qb)),h81];simp only [aA,aB,aC,Bool.and_false])
     | (rw [tbb (.inr (.inl qb)),h81];rfl)
     | (rw [tbb (.inr (.inr (.inl qb))),h81,h86];simp only [aA,aB,aC,Bool.and_false])
     | (rw [tbb (.inr (.inr (.inl qb))),h81,h86];rfl)
     | (rw [tbb (.inr (.inr (.inl qb))),h81];simp only [aA,aB,aC,Bool.and_false])
     | (rw [tbb (.inr (.inr (.inl qb))),h81];rfl)
     | (rw [tbb (.inr (.inr (.inr (.inl qb)))),h81,h86];simp only [aA,aB,aC,Bool.and_false])
     | (rw [tbb (.inr (.inr (.inr (.inl qb)))),h81,h86];rfl)
     | (rw [tbb (.inr (.inr (.inr (.inl qb)))),h81];simp only [aA,aB,aC,Bool.and_false])
     | (rw [tbb (.inr (.inr (.inr (.inl qb)))),h81];rfl)
     | (rw [tbb (.inr (.inr (.inr (.inr qb)))),h81,h86];simp only [aA,aB,aC,Bool.and_false])
     | (rw [tbb (.inr (.inr (.inr (.inr qb)))),h81,h86];rfl)
     | (rw [tbb (.inr (.inr (.inr (.inr qb)))),h81];simp only [aA,aB,aC,Bool.and_false])
     | (rw [tbb (.inr (.inr (.inr (.inr qb)))),h81];rfl)
     | (rw [tbn q1 q4 q585 q588 q6 q9 qb11 qb12 qb13 qb14 qb15])
   refine .gG<|.gG<|.yw (.pickF Z Z)<|.az Z<|.bR<|.tR<|?_
   refine y9 Z Z λW s=>⟨?_,s.ext⟩
   first
    | (rw [tb1 q1,h10,h15];simp only [aA,aB,aC,Bool.and_false])
    | (rw [tb1 q1,h10,h15];rfl)
    | (rw [tb1 q1,h10];simp only [aA,aB,aC,Bool.and_false])
    | (rw [tb1 q1,h10];rfl)
    | (rw [tb4 q4,h26,h31];simp only [aA,aB,aC,Bool.and_false])
    | (rw [tb4 q4,h26,h31];rfl)
    | (rw [tb4 q4,h26];simp only [aA,aB,aC,Bool.and_false])
    | (rw [tb4 q4,h26];rfl)
    | (rw [tb5 (.inl q58),h43];simp only [aA,aB,aC,Bool.and_false])
    | (rw [tb5 (.inl q58),h43];rfl)
    | (rw [tb5 (.inr q58),h43];simp only [aA,aB,aC,Bool.and_false])
    | (rw [tb5 (.inr q58),h43];rfl)
    | (rw [tb6 q6,h54];simp only [aA,aB,aC,Bool.and_false])
    | (rw [tb6 q6,h54];rfl)
    | (rw [tb9 q9,h63,h68];simp only [aA,aB,aC,Bool.and_false])
    | (rw [tb9 q9,h63,h68];rfl)
    | (rw [tb9 q9,h63];simp only [aA,aB,aC,Bool.and_false])
    | (rw [tb9 q9,h63];rfl)
    | (rw [tbb (.inl qb),h81,h86];simp only [aA,aB,aC,Bool.and_false])
    | (rw [tbb (.inl qb),h81,h86];rfl)
    | (rw [tbb (.inl qb),h81];simp only [aA,aB,aC,Bool.and_false])
    | (rw [tbb (.inl qb),h81];rfl)
    | (rw [tbb (.inr (.inl qb)),h81,h86];simp only [aA,aB,aC,Bool.and_false])
    | (rw [tbb (.inr (.inl qb)),h81,h86];rfl)
    | (rw [tbb (.inr (.inl qb)),h81];simp only [aA,aB,aC,Bool.and_false])
    | (rw [tbb (.inr (.inl qb)),h81];rfl)
    | (rw [tbb (.inr (.inr (.inl qb))),h81,h86];simp only [aA,aB,aC,Bool.and_false])
    | (rw [tbb (.inr (.inr (.inl qb))),h81,h86];rfl)
    | (rw [tbb (.inr (.inr (.inl qb))),h81];simp only [aA,aB,aC,Bool.and_false])
    | (rw [tbb (.inr (.inr (.inl qb))),h81];rfl)
    | (rw [tbb (.inr (.inr (.inr (.inl qb)))),h81,h86];simp only [aA,aB,aC,Bool.and_false])
    | (rw [tbb (.inr (.inr (.inr (.inl qb)))),h81,h86];rfl)
    | (rw [tbb (.inr (.inr (.inr (.inl qb)))),h81];simp only [aA,aB,aC,Bool.and_false])
    | (rw [tbb (.inr (.inr (.inr (.inl qb)))),h81];rfl)
    | (rw [tbb (.inr (.inr (.inr (.inr qb)))),h81,h86];simp only [aA,aB,aC,Bool.and_false])
    | (rw [tbb (.inr (.inr (.inr (.inr qb)))),h81,h86];rfl)
    | (rw [tbb (.inr (.inr (.inr (.inr qb)))),h81];simp only [aA,aB,aC,Bool.and_false])
    | (rw [tbb (.inr (.inr (.inr (.inr qb)))),h81];rfl)
    | (rw [tbn q1 q4 q585 q588 q6 q9 qb11 qb12 qb13 qb14 qb15])
  refine .gG<|.gG<|.gG<|.yw (.pickF Z Z)<|.mv Z<|.gG<|.gG<|.yw (.pickF Z Z)<|.az Z<|.bR<|.tR<|?_
  refine y9 Z Z λW s=>⟨?_,s.ext⟩
  first
   | (rw [tb1 q1,h10,h15];simp only [aA,aB,aC,Bool.and_false])
   | (rw [tb1 q1,h10,h15];rfl)
   | (rw [tb1 q1,h10];simp only [aA,aB,aC,Bool.and_false])
   | (rw [tb1 q1,h10];rfl)
   | (rw [tb4 q4,h26,h31];simp only [aA,aB,aC,Bool.and_false])
   | (rw [tb4 q4,h26,h31];rfl)
   | (rw [tb4 q4,h26];simp only [aA,aB,aC,Bool.and_false])
   | (rw [tb4 q4,h26];rfl)
   | (rw [tb5 (.inl q58),h43];simp only [aA,aB,aC,Bool.and_false])
   | (rw [tb5 (.inl q58),h43];rfl)
   | (rw [tb5 (.inr q58),h43];simp only [aA,aB,aC,Bool.and_false])
   | (rw [tb5 (.inr q58),h43];rfl)
   | (rw [tb6 q6,h54];simp only [aA,aB,aC,Bool.and_false])
   | (rw [tb6 q6,h54];rfl)
   | (rw [tb9 q9,h63,h68];simp only [aA,aB,aC,Bool.and_false])
   | (rw [tb9 q9,h63,h68];rfl)
   | (rw [tb9 q9,h63];simp only [aA,aB,aC,Bool.and_false])
   | (rw [tb9 q9,h63];rfl)
   | (rw [tbb (.inl qb),h81,h86];simp only [aA,aB,aC,Bool.and_false])
   | (rw [tbb (.inl qb),h81,h86];rfl)
   | (rw [tbb (.inl qb),h81];simp only [aA,aB,aC,Bool.and_false])
   | (rw [tbb (.inl qb),h81];rfl)
   | (rw [tbb (.inr (.inl qb)),h81,h86];simp only [aA,aB,aC,Bool.and_false])
   | (rw [tbb (.inr (.inl qb)),h81,h86];rfl)
   | (rw [tbb (.inr (.inl qb)),h81];simp only [aA,aB,aC,Bool.and_false])
   | (rw [tbb (.inr (.inl qb)),h81];rfl)
   | (rw [tbb (.inr (.inr (.inl qb))),h81,h86];simp only [aA,aB,aC,Bool.and_false])
   | (rw [tbb (.inr (.inr (.inl qb))),h81,h86];rfl)
   | (rw [tbb (.inr (.inr (.inl qb))),h81];simp only [aA,aB,aC,Bool.and_false])
   | (rw [tbb (.inr (.inr (.inl qb))),h81];rfl)
   | (rw [tbb (.inr (.inr (.inr (.inl qb)))),h81,h86];simp only [aA,aB,aC,Bool.and_false])
   | (rw [tbb (.inr (.inr (.inr (.inl qb)))),h81,h86];rfl)
   | (rw [tbb (.inr (.inr (.inr (.inl qb)))),h81];simp only [aA,aB,aC,Bool.and_false])
   | (rw [tbb (.inr (.inr (.inr (.inl qb)))),h81];rfl)
   | (rw [tbb (.inr (.inr (.inr (.inr qb)))),h81,h86];simp only [aA,aB,aC,Bool.and_false])
   | (rw [tbb (.inr (.inr (.inr (.inr qb)))),h81,h86];rfl)
   | (rw [tbb (.inr (.inr (.inr (.inr qb)))),h81];simp only [aA,aB,aC,Bool.and_false])
   | (rw [tbb (.inr (.inr (.inr (.inr qb)))),h81];rfl)
   | (rw [tbn q1 q4 q585 q588 q6 q9 qb11 qb12 qb13 qb14 qb15])
 have qb12:¬ op=12:=λe=>aN h72 (by rw [e];rfl);refine .sr<|.yw (.eql Z Z)<|.aq Z<|.cr Z (λh72=>?_) (λh72=>?_)
 ·have qb:op=13:=aQ.1 (by have:=aH h72;show op.toNat=13;omega);refine .sk<|.tN<|.cT Z<|.sr<|.fA Z fT<|.lD Z cZ Hm Z<|.yw (.eqS Z Z)<|.mv Z<|.b2 (λh81=>?_) (λh81=>?_)
  ·refine .gy (.fieldAddr Z gD)<|.gy (.load Z fC Hm Z)<|.gy (.cast (.eql Z Z) (congrArg Value.bool i0))<|.yw (.pickT Z Z)<|.mv Z<|.b2 (λh86=>?_) (λh86=>?_)
   ·refine .gy (.loadW Z dP Hm Z)<|.gy (.call qC Z (λW s=>mP H op nm nn args 2 _ W h (λa ha=>ih a ha) s.agr))<|.yw (.pickT Z Z)<|.az Z<|.bR<|.tR<|?_
    refine y9 Z Z λW s=>⟨?_,s.ext⟩
    first
     | (rw [tb1 q1,h10,h15];simp only [aA,aB,aC,Bool.and_false])
     | (rw [tb1 q1,h10,h15];rfl)
     | (rw [tb1 q1,h10];simp only [aA,aB,aC,Bool.and_false])
     | (rw [tb1 q1,h10];rfl)
     | (rw [tb4 q4,h26,h31];simp only [aA,aB,aC,Bool.and_false])
     | (rw [tb4 q4,h26,h31];rfl)
     | (rw [tb4 q4,h26];simp only [aA,aB,aC,Bool.and_false])
     | (rw [tb4 q4,h26];rfl)
     | (rw [tb5 (.inl q58),h43];simp only [aA,aB,aC,Bool.and_false])
     | (rw [tb5 (.inl q58),h43];rfl)
     | (rw [tb5 (.inr q58),h43];simp only [aA,aB,aC,Bool.and_false])
     | (rw [tb5 (.inr q58),h43];rfl)
     | (rw [tb6 q6,h54];simp only [aA,aB,aC,Bool.and_false])
     | (rw [tb6 q6,h54];rfl)
     | (rw [tb9 q9,h63,h68];simp only [aA,aB,aC,Bool.and_false])
     | (rw [tb9 q9,h63,h68];rfl)
     | (rw [tb9 q9,h63];simp only [aA,aB,aC,Bool.and_false])
     | (rw [tb9 q9,h63];rfl)
     | (rw [tbb (.inl qb),h81,h86];simp only [aA,aB,aC,Bool.and_false])
     | (rw [tbb (.inl qb),h81,h86];rfl)
     | (rw [tbb (.inl qb),h81];simp only [aA,aB,aC,Bool.and_false])
     | (rw [tbb (.inl qb),h81];rfl)
     | (rw [tbb (.inr (.inl qb)),h81,h86];simp only [aA,aB,aC,Bool.and_false])
     | (rw [tbb (.inr (.inl qb)),h81,h86];rfl)
     | (rw [tbb (.inr (.inl qb)),h81];simp only [aA,aB,aC,Bool.and_false])
     | (rw [tbb (.inr (.inl qb)),h81];rfl)
     | (rw [tbb (.inr (.inr (.inl qb))),h81,h86];simp only [aA,aB,aC,Bool.and_false])
     | (rw [tbb (.inr (.inr (.inl qb))),h81,h86];rfl)
     | (rw [tbb (.inr (.inr (.inl qb))),h81];simp only [aA,aB,aC,Bool.and_false])
     | (rw [tbb (.inr (.inr (.inl qb))),h81];rfl)
     | (rw [tbb (.inr (.inr (.inr (.inl qb)))),h81,h86];simp only [aA,aB,aC,Bool.and_false])
     | (rw [tbb (.inr (.inr (.inr (.inl qb)))),h81,h86];rfl)
     | (rw [tbb (.inr (.inr (.inr (.inl qb)))),h81];simp only [aA,aB,aC,Bool.and_false])
     | (rw [tbb (.inr (.inr (.inr (.inl qb)))),h81];rfl)
     | (rw [tbb (.inr (.inr (.inr (.inr qb)))),h81,h86];simp only [aA,aB,aC,Bool.and_false])
     | (rw [tbb (.inr (.inr (.inr (.inr qb)))),h81,h86];rfl)
     | (rw [tbb (.inr (.inr (.inr (.inr qb)))),h81];simp only [aA,aB,aC,Bool.and_false])
     | (rw [tbb (.inr (.inr (.inr (.inr qb)))),h81];rfl)
     | (rw [tbn q1 q4 q585 q588 q6 q9 qb11 qb12 qb13 qb14 qb15])
   refine .gG<|.gG<|.yw (.pickF Z Z)<|.az Z<|.bR<|.tR<|?_
   refine y9 Z Z λW s=>⟨?_,s.ext⟩
   first
    | (rw [tb1 q1,h10,h15];simp only [aA,aB,aC,Bool.and_false])
    | (rw [tb1 q1,h10,h15];rfl)
    | (rw [tb1 q1,h10];simp only [aA,aB,aC,Bool.and_false])
    | (rw [tb1 q1,h10];rfl)
    | (rw [tb4 q4,h26,h31];simp only [aA,aB,aC,Bool.and_false])
    | (rw [tb4 q4,h26,h31];rfl)
    | (rw [tb4 q4,h26];simp only [aA,aB,aC,Bool.and_false])
    | (rw [tb4 q4,h26];rfl)
    | (rw [tb5 (.inl q58),h43];simp only [aA,aB,aC,Bool.and_false])
    | (rw [tb5 (.inl q58),h43];rfl)
    | (rw [tb5 (.inr q58),h43];simp only [aA,aB,aC,Bool.and_false])
    | (rw [tb5 (.inr q58),h43];rfl)
    | (rw [tb6 q6,h54];simp only [aA,aB,aC,Bool.and_false])
    | (rw [tb6 q6,h54];rfl)
    | (rw [tb9 q9,h63,h68];simp only [aA,aB,aC,Bool.and_false])
    | (rw [tb9 q9,h63,h68];rfl)
    | (rw [tb9 q9,h63];simp only [aA,aB,aC,Bool.and_false])
    | (rw [tb9 q9,h63];rfl)
    | (rw [tbb (.inl qb),h81,h86];simp only [aA,aB,aC,Bool.and_false])
    | (rw [tbb (.inl qb),h81,h86];rfl)
    | (rw [tbb (.inl qb),h81];simp only [aA,aB,aC,Bool.and_false])
    | (rw [tbb (.inl qb),h81];rfl)
    | (rw [tbb (.inr (.inl qb)),h81,h86];simp only [aA,aB,aC,Bool.and_false])
    | (rw [tbb (.inr (.inl qb)),h81,h86];rfl)
    | (rw [tbb (.inr (.inl qb)),h81];simp only [aA,aB,aC,Bool.and_false])
    | (rw [tbb (.inr (.inl qb)),h81];rfl)
    | (rw [tbb (.inr (.inr (.inl qb))),h81,h86];simp only [aA,aB,aC,Bool.and_false])
    | (rw [tbb (.inr (.inr (.inl qb))),h81,h86];rfl)
    | (rw [tbb (.inr (.inr (.inl qb))),h81];simp only [aA,aB,aC,Bool.and_false])
    | (rw [tbb (.inr (.inr (.inl qb))),h81];rfl)
    | (rw [tbb (.inr (.inr (.inr (.inl qb)))),h81,h86];simp only [aA,aB,aC,Bool.and_false])
    | (rw [tbb (.inr (.inr (.inr (.inl qb)))),h81,h86];rfl)
    | (rw [tbb (.inr (.inr (.inr (.inl qb)))),h81];simp only [aA,aB,aC,Bool.and_false])
    | (rw [tbb (.inr (.inr (.inr (.inl qb)))),h81];rfl)
    | (rw [tbb (.inr (.inr (.inr (.inr qb)))),h81,h86];simp only [aA,aB,aC,Bool.and_false])
    | (rw [tbb (.inr (.inr (.inr (.inr qb)))),h81,h86];rfl)
    | (rw [tbb (.inr (.inr (.inr (.inr qb)))),h81];simp only [aA,aB,aC,Bool.and_false])
    | (rw [tbb (.inr (.inr (.inr (.inr qb)))),h81];rfl)
    | (rw [tbn q1 q4 q585 q588 q6 q9 qb11 qb12 qb13 qb14 qb15])
  refine .gG<|.gG<|.gG<|.yw (.pickF Z Z)<|.mv Z<|.gG<|.gG<|.yw (.pickF Z Z)<|.az Z<|.bR<|.tR<|?_
  refine y9 Z Z λW s=>⟨?_,s.ext⟩
  first
   | (rw [tb1 q1,h10,h15];simp only [aA,aB,aC,Bool.and_false])
   | (rw [tb1 q1,h10,h15];rfl)
   | (rw [tb1 q1,h10];simp only [aA,aB,aC,Bool.and_false])
   | (rw [tb1 q1,h10];rfl)
   | (rw [tb4 q4,h26,h31];simp only [aA,aB,aC,Bool.and_false])
   | (rw [tb4 q4,h26,h31];rfl)
   | (rw [tb4 q4,h26];simp only [aA,aB,aC,Bool.and_false])
   | (rw [tb4 q4,h26];rfl)
   | (rw [tb5 (.inl q58),h43];simp only [aA,aB,aC,Bool.and_false])
   | (rw [tb5 (.inl q58),h43];rfl)
   | (rw [tb5 (.inr q58),h43];simp only [aA,aB,aC,Bool.and_false])
   | (rw [tb5 (.inr q58),h43];rfl)
   | (rw [tb6 q6,h54];simp only [aA,aB,aC,Bool.and_false])
   | (rw [tb6 q6,h54];rfl)
   | (rw [tb9 q9,h63,h68];simp only [aA,aB,aC,Bool.and_false])
   | (rw [tb9 q9,h63,h68];rfl)
   | (rw [tb9 q9,h63];simp only [aA,aB,aC,Bool.and_false])
   | (rw [tb9 q9,h63];rfl)
   | (rw [tbb (.inl qb),h81,h86];simp only [aA,aB,aC,Bool.and_false])
   | (rw [tbb (.inl qb),h81,h86];rfl)
   | (rw [tbb (.inl qb),h81];simp only [aA,aB,aC,Bool.and_false])
   | (rw [tbb (.inl qb),h81];rfl)
   | (rw [tbb (.inr (.inl qb)),h81,h86];simp only [aA,aB,aC,Bool.and_false])
   | (rw [tbb (.inr (.inl qb)),h81,h86];rfl)
   | (rw [tbb (.inr (.inl qb)),h81];simp only [aA,aB,aC,Bool.and_false])
   | (rw [tbb (.inr (.inl qb)),h81];rfl)
   | (rw [tbb (.inr (.inr (.inl qb))),h81,h86];simp only [aA,aB,aC,Bool.and_false])
   | (rw [tbb (.inr (.inr (.inl qb))),h81,h86];rfl)
   | (rw [tbb (.inr (.inr (.inl qb))),h81];simp only [aA,aB,aC,Bool.and_false])
   | (rw [tbb (.inr (.inr (.inl qb))),h81];rfl)
   | (rw [tbb (.inr (.inr (.inr (.inl qb)))),h81,h86];simp only [aA,aB,aC,Bool.and_false])
   | (rw [tbb (.inr (.inr (.inr (.inl qb)))),h81,h86];rfl)
   | (rw [tbb (.inr (.inr (.inr (.inl qb)))),h81];simp only [aA,aB,aC,Bool.and_false])
   | (rw [tbb (.inr (.inr (.inr (.inl qb)))),h81];rfl)
   | (rw [tbb (.inr (.inr (.inr (.inr qb)))),h81,h86];simp only [aA,aB,aC,Bool.and_false])
   | (rw [tbb (.inr (.inr (.inr (.inr qb)))),h81,h86];rfl)
   | (rw [tbb (.inr (.inr (.inr (.inr qb)))),h81];simp only [aA,aB,aC,Bool.and_false])
   | (rw [tbb (.inr (.inr (.inr (.inr qb)))),h81];rfl)
   | (rw [tbn q1 q4 q585 q588 q6 q9 qb11 qb12 qb13 qb14 qb15])
 have qb13:¬ op=13:=λe=>aN h72 (by rw [e];rfl);refine .sr<|.yw (.eql Z Z)<|.aq Z<|.cr Z (λh72=>?_) (λh72=>?_)
 ·have qb:op=14:=aQ.1 (by have:=aH h72;show op.toNat=14;omega);refine .sk<|.tN<|.cT Z<|.sr<|.fA Z fT<|.lD Z cZ Hm Z<|.yw (.eqS Z Z)<|.mv Z<|.b2 (λh81=>?_) (λh81=>?_)
  ·refine .gy (.fieldAddr Z gD)<|.gy (.load Z fC Hm Z)<|.gy (.cast (.eql Z Z) (congrArg Value.bool i0))<|.yw (.pickT Z Z)<|.mv Z<|.b2 (λh86=>?_) (λh86=>?_)
   ·refine .gy (.loadW Z dP Hm Z)<|.gy (.call qC Z (λW s=>mP H op nm nn args 2 _ W h (λa ha=>ih a ha) s.agr))<|.yw (.pickT Z Z)<|.az Z<|.bR<|.tR<|?_
    refine y9 Z Z λW s=>⟨?_,s.ext⟩
    first
     | (rw [tb1 q1,h10,h15];simp only [aA,aB,aC,Bool.and_false])
     | (rw [tb1 q1,h10,h15];rfl)
     | (rw [tb1 q1,h10];simp only [aA,aB,aC,Bool.and_false])
     | (rw [tb1 q1,h10];rfl)
     | (rw [tb4 q4,h26,h31];simp only [aA,aB,aC,Bool.and_false])
     | (rw [tb4 q4,h26,h31];rfl)
     | (rw [tb4 q4,h26];simp only [aA,aB,aC,Bool.and_false])
     | (rw [tb4 q4,h26];rfl)
     | (rw [tb5 (.inl q58),h43];simp only [aA,aB,aC,Bool.and_false])
     | (rw [tb5 (.inl q58),h43];rfl)
     | (rw [tb5 (.inr q58),h43];simp only [aA,aB,aC,Bool.and_false])
     | (rw [tb5 (.inr q58),h43];rfl)
     | (rw [tb6 q6,h54];simp only [aA,aB,aC,Bool.and_false])
     | (rw [tb6 q6,h54];rfl)
     | (rw [tb9 q9,h63,h68];simp only [aA,aB,aC,Bool.and_false])
     | (rw [tb9 q9,h63,h68];rfl)
     | (rw [tb9 q9,h63];simp only [aA,aB,aC,Bool.and_false])
     | (rw [tb9 q9,h63];rfl)
     | (rw [tbb (.inl qb),h81,h86];simp only [aA,aB,aC,Bool.and_false])
     | (rw [tbb (.inl qb),h81,h86];rfl)
     | (rw [tbb (.inl qb),h81];simp only [aA,aB,aC,Bool.and_false])
     | (rw [tbb (.inl qb),h81];rfl)
     | (rw [tbb (.inr (.inl qb)),h81,h86];simp only [aA,aB,aC,Bool.and_false])
     | (rw [tbb (.inr (.inl qb)),h81,h86];rfl)
     | (rw [tbb (.inr (.inl qb)),h81];simp only [aA,aB,aC,Bool.and_false])
     | (rw [tbb (.inr (.inl qb)),h81];rfl)
     | (rw [tbb (.inr (.inr (.inl qb))),h81,h86];simp only [aA,aB,aC,Bool.and_false])
     | (rw [tbb (.inr (.inr (.inl qb))),h81,h86];rfl)
     | (rw [tbb (.inr (.inr (.inl qb))),h81];simp only [aA,aB,aC,Bool.and_false])
     | (rw [tbb (.inr (.inr (.inl qb))),h81];rfl)
     | (rw [tbb (.inr (.inr (.inr (.inl qb)))),h81,h86];simp only [aA,aB,aC,Bool.and_false])
     | (rw [tbb (.inr (.inr (.inr (.inl qb)))),h81,h86];rfl)
     | (rw [tbb (.inr (.inr (.inr (.inl qb)))),h81];simp only [aA,aB,aC,Bool.and_false])
     | (rw [tbb (.inr (.inr (.inr (.inl qb)))),h81];rfl)
     | (rw [tbb (.inr (.inr (.inr (.inr qb)))),h81,h86];simp only [aA,aB,aC,Bool.and_false])
     | (rw [tbb (.inr (.inr (.inr (.inr qb)))),h81,h86];rfl)
     | (rw [tbb (.inr (.inr (.inr (.inr qb)))),h81];simp only [aA,aB,aC,Bool.and_false])
     | (rw [tbb (.inr (.inr (.inr (.inr qb)))),h81];rfl)
     | (rw [tbn q1 q4 q585 q588 q6 q9 qb11 qb12 qb13 qb14 qb15])
   refine .gG<|.gG<|.yw (.pickF Z Z)<|.az Z<|.bR<|.tR<|?_
   refine y9 Z Z λW s=>⟨?_,s.ext⟩
   first
    | (rw [tb1 q1,h10,h15];simp only [aA,aB,aC,Bool.and_false])
    | (rw [tb1 q1,h10,h15];rfl)
    | (rw [tb1 q1,h10];simp only [aA,aB,aC,Bool.and_false])
    | (rw [tb1 q1,h10];rfl)
    | (rw [tb4 q4,h26,h31];simp only [aA,aB,aC,Bool.and_false])
    | (rw [tb4 q4,h26,h31];rfl)
    | (rw [tb4 q4,h26];simp only [aA,aB,aC,Bool.and_false])
    | (rw [tb4 q4,h26];rfl)
    | (rw [tb5 (.inl q58),h43];simp only [aA,aB,aC,Bool.and_false])
    | (rw [tb5 (.inl q58),h43];rfl)
    | (rw [tb5 (.inr q58),h43];simp only [aA,aB,aC,Bool.and_false])
    | (rw [tb5 (.inr q58),h43];rfl)
    | (rw [tb6 q6,h54];simp only [aA,aB,aC,Bool.and_false])
    | (rw [tb6 q6,h54];rfl)
    | (rw [tb9 q9,h63,h68];simp only [aA,aB,aC,Bool.and_false])
    | (rw [tb9 q9,h63,h68];rfl)
    | (rw [tb9 q9,h63];simp only [aA,aB,aC,Bool.and_false])
    | (rw [tb9 q9,h63];rfl)
    | (rw [tbb (.inl qb),h81,h86];simp only [aA,aB,aC,Bool.and_false])
    | (rw [tbb (.inl qb),h81,h86];rfl)
    | (rw [tbb (.inl qb),h81];simp only [aA,aB,aC,Bool.and_false])
    | (rw [tbb (.inl qb),h81];rfl)
    | (rw [tbb (.inr (.inl qb)),h81,h86];simp only [aA,aB,aC,Bool.and_false])
    | (rw [tbb (.inr (.inl qb)),h81,h86];rfl)
    | (rw [tbb (.inr (.inl qb)),h81];simp only [aA,aB,aC,Bool.and_false])
    | (rw [tbb (.inr (.inl qb)),h81];rfl)
    | (rw [tbb (.inr (.inr (.inl qb))),h81,h86];simp only [aA,aB,aC,Bool.and_false])
    | (rw [tbb (.inr (.inr (.inl qb))),h81,h86];rfl)
    | (rw [tbb (.inr (.inr (.inl qb))),h81];simp only [aA,aB,aC,Bool.and_false])
    | (rw [tbb (.inr (.inr (.inl qb))),h81];rfl)
    | (rw [tbb (.inr (.inr (.inr (.inl qb)))),h81,h86];simp only [aA,aB,aC,Bool.and_false])
    | (rw [tbb (.inr (.inr (.inr (.inl qb)))),h81,h86];rfl)
    | (rw [tbb (.inr (.inr (.inr (.inl qb)))),h81];simp only [aA,aB,aC,Bool.and_false])
    | (rw [tbb (.inr (.inr (.inr (.inl qb)))),h81];rfl)
    | (rw [tbb (.inr (.inr (.inr (.inr qb)))),h81,h86];simp only [aA,aB,aC,Bool.and_false])
    | (rw [tbb (.inr (.inr (.inr (.inr qb)))),h81,h86];rfl)
    | (rw [tbb (.inr (.inr (.inr (.inr qb)))),h81];simp only [aA,aB,aC,Bool.and_false])
    | (rw [tbb (.inr (.inr (.inr (.inr qb)))),h81];rfl)
    | (rw [tbn q1 q4 q585 q588 q6 q9 qb11 qb12 qb13 qb14 qb15])
  refine .gG<|.gG<|.gG<|.yw (.pickF Z Z)<|.mv Z<|.gG<|.gG<|.yw (.pickF Z Z)<|.az Z<|.bR<|.tR<|?_
  refine y9 Z Z λW s=>⟨?_,s.ext⟩
  first
   | (rw [tb1 q1,h10,h15];simp only [aA,aB,aC,Bool.and_false])
   | (rw [tb1 q1,h10,h15];rfl)
   | (rw [tb1 q1,h10];simp only [aA,aB,aC,Bool.and_false])
   | (rw [tb1 q1,h10];rfl)
   | (rw [tb4 q4,h26,h31];simp only [aA,aB,aC,Bool.and_false])
   | (rw [tb4 q4,h26,h31];rfl)
   | (rw [tb4 q4,h26];simp only [aA,aB,aC,Bool.and_false])
   | (rw [tb4 q4,h26];rfl)
   | (rw [tb5 (.inl q58),h43];simp only [aA,aB,aC,Bool.and_false])
   | (rw [tb5 (.inl q58),h43];rfl)
   | (rw [tb5 (.inr q58),h43];simp only [aA,aB,aC,Bool.and_false])
   | (rw [tb5 (.inr q58),h43];rfl)
   | (rw [tb6 q6,h54];simp only [aA,aB,aC,Bool.and_false])
   | (rw [tb6 q6,h54];rfl)
   | (rw [tb9 q9,h63,h68];simp only [aA,aB,aC,Bool.and_false])
   | (rw [tb9 q9,h63,h68];rfl)
   | (rw [tb9 q9,h63];simp only [aA,aB,aC,Bool.and_false])
   | (rw [tb9 q9,h63];rfl)
   | (rw [tbb (.inl qb),h81,h86];simp only [aA,aB,aC,Bool.and_false])
   | (rw [tbb (.inl qb),h81,h86];rfl)
   | (rw [tbb (.inl qb),h81];simp only [aA,aB,aC,Bool.and_false])
   | (rw [tbb (.inl qb),h81];rfl)
   | (rw [tbb (.inr (.inl qb)),h81,h86];simp only [aA,aB,aC,Bool.and_false])
   | (rw [tbb (.inr (.inl qb)),h81,h86];rfl)
   | (rw [tbb (.inr (.inl qb)),h81];simp only [aA,aB,aC,Bool.and_false])
   | (rw [tbb (.inr (.inl qb)),h81];rfl)
   | (rw [tbb (.inr (.inr (.inl qb))),h81,h86];simp only [aA,aB,aC,Bool.and_false])
   | (rw [tbb (.inr (.inr (.inl qb))),h81,h86];rfl)
   | (rw [tbb (.inr (.inr (.inl qb))),h81];simp only [aA,aB,aC,Bool.and_false])
   | (rw [tbb (.inr (.inr (.inl qb))),h81];rfl)
   | (rw [tbb (.inr (.inr (.inr (.inl qb)))),h81,h86];simp only [aA,aB,aC,Bool.and_false])
   | (rw [tbb (.inr (.inr (.inr (.inl qb)))),h81,h86];rfl)
   | (rw [tbb (.inr (.inr (.inr (.inl qb)))),h81];simp only [aA,aB,aC,Bool.and_false])
   | (rw [tbb (.inr (.inr (.inr (.inl qb)))),h81];rfl)
   | (rw [tbb (.inr (.inr (.inr (.inr qb)))),h81,h86];simp only [aA,aB,aC,Bool.and_false])
   | (rw [tbb (.inr (.inr (.inr (.inr qb)))),h81,h86];rfl)
   | (rw [tbb (.inr (.inr (.inr (.inr qb)))),h81];simp only [aA,aB,aC,Bool.and_false])
   | (rw [tbb (.inr (.inr (.inr (.inr qb)))),h81];rfl)
   | (rw [tbn q1 q4 q585 q588 q6 q9 qb11 qb12 qb13 qb14 qb15])
 have qb14:¬ op=14:=λe=>aN h72 (by rw [e];rfl);refine .rg<|.yw (.eql Z Z)<|.aq Z<|.cr Z (λh72=>?_) (λh72=>?_)
 ·have qb:op=15:=aQ.1 (by have:=aH h72;show op.toNat=15;omega);refine .sr<|.fA Z fT<|.lD Z cZ Hm Z<|.yw (.eqS Z Z)<|.mv Z<|.b2 (λh81=>?_) (λh81=>?_)
  ·refine .gy (.fieldAddr Z gD)<|.gy (.load Z fC Hm Z)<|.gy (.cast (.eql Z Z) (congrArg Value.bool i0))<|.yw (.pickT Z Z)<|.mv Z<|.b2 (λh86=>?_) (λh86=>?_)
   ·refine .gy (.loadW Z dP Hm Z)<|.gy (.call qC Z (λW s=>mP H op nm nn args 2 _ W h (λa ha=>ih a ha) s.agr))<|.yw (.pickT Z Z)<|.az Z<|.bR<|.tR<|?_
    refine y9 Z Z λW s=>⟨?_,s.ext⟩
    first
     | (rw [tb1 q1,h10,h15];simp only [aA,aB,aC,Bool.and_false])
     | (rw [tb1 q1,h10,h15];rfl)
     | (rw [tb1 q1,h10];simp only [aA,aB,aC,Bool.and_false])
     | (rw [tb1 q1,h10];rfl)
     | (rw [tb4 q4,h26,h31];simp only [aA,aB,aC,Bool.and_false])
     | (rw [tb4 q4,h26,h31];rfl)
     | (rw [tb4 q4,h26];simp only [aA,aB,aC,Bool.and_false])
     | (rw [tb4 q4,h26];rfl)
     | (rw [tb5 (.inl q58),h43];simp only [aA,aB,aC,Bool.and_false])
     | (rw [tb5 (.inl q58),h43];rfl)
     | (rw [tb5 (.inr q58),h43];simp only [aA,aB,aC,Bool.and_false])
     | (rw [tb5 (.inr q58),h43];rfl)
     | (rw [tb6 q6,h54];simp only [aA,aB,aC,Bool.and_false])
     | (rw [tb6 q6,h54];rfl)
     | (rw [tb9 q9,h63,h68];simp only [aA,aB,aC,Bool.and_false])
     | (rw [tb9 q9,h63,h68];rfl)
     | (rw [tb9 q9,h63];simp only [aA,aB,aC,Bool.and_false])
     | (rw [tb9 q9,h63];rfl)
     | (rw [tbb (.inl qb),h81,h86];simp only [aA,aB,aC,Bool.and_false])
     | (rw [tbb (.inl qb),h81,h86];rfl)
     | (rw [tbb (.inl qb),h81];simp only [aA,aB,aC,Bool.and_false])
     | (rw [tbb (.inl qb),h81];rfl)
     | (rw [tbb (.inr (.inl qb)),h81,h86];simp only [aA,aB,aC,Bool.and_false])
     | (rw [tbb (.inr (.inl qb)),h81,h86];rfl)
     | (rw [tbb (.inr (.inl qb)),h81];simp only [aA,aB,aC,Bool.and_false])
     | (rw [tbb (.inr (.inl qb)),h81];rfl)
     | (rw [tbb (.inr (.inr (.inl qb))),h81,h86];simp only [aA,aB,aC,Bool.and_false])
     | (rw [tbb (.inr (.inr (.inl qb))),h81,h86];rfl)
     | (rw [tbb (.inr (.inr (.inl qb))),h81];simp only [aA,aB,aC,Bool.and_false])
     | (rw [tbb (.inr (.inr (.inl qb))),h81];rfl)
     | (rw [tbb (.inr (.inr (.inr (.inl qb)))),h81,h86];simp only [aA,aB,aC,Bool.and_false])
     | (rw [tbb (.inr (.inr (.inr (.inl qb)))),h81,h86];rfl)
     | (rw [tbb (.inr (.inr (.inr (.inl qb)))),h81];simp only [aA,aB,aC,Bool.and_false])
     | (rw [tbb (.inr (.inr (.inr (.inl qb)))),h81];rfl)
     | (rw [tbb (.inr (.inr (.inr (.inr qb)))),h81,h86];simp only [aA,aB,aC,Bool.and_false])
     | (rw [tbb (.inr (.inr (.inr (.inr qb)))),h81,h86];rfl)
     | (rw [tbb (.inr (.inr (.inr (.inr qb)))),h81];simp only [aA,aB,aC,Bool.and_false])
     | (rw [tbb (.inr (.inr (.inr (.inr qb)))),h81];rfl)
     | (rw [tbn q1 q4 q585 q588 q6 q9 qb11 qb12 qb13 qb14 qb15])
   refine .gG<|.gG<|.yw (.pickF Z Z)<|.az Z<|.bR<|.tR<|?_
   refine y9 Z Z λW s=>⟨?_,s.ext⟩
   first
    | (rw [tb1 q1,h10,h15];simp only [aA,aB,aC,Bool.and_false])
    | (rw [tb1 q1,h10,h15];rfl)
    | (rw [tb1 q1,h10];simp only [aA,aB,aC,Bool.and_false])
    | (rw [tb1 q1,h10];rfl)
    | (rw [tb4 q4,h26,h31];simp only [aA,aB,aC,Bool.and_false])
    | (rw [tb4 q4,h26,h31];rfl)
    | (rw [tb4 q4,h26];simp only [aA,aB,aC,Bool.and_false])
    | (rw [tb4 q4,h26];rfl)
    | (rw [tb5 (.inl q58),h43];simp only [aA,aB,aC,Bool.and_false])
    | (rw [tb5 (.inl q58),h43];rfl)
    | (rw [tb5 (.inr q58),h43];simp only [aA,aB,aC,Bool.and_false])
    | (rw [tb5 (.inr q58),h43];rfl)
    | (rw [tb6 q6,h54];simp only [aA,aB,aC,Bool.and_false])
    | (rw [tb6 q6,h54];rfl)
    | (rw [tb9 q9,h63,h68];simp only [aA,aB,aC,Bool.and_false])
    | (rw [tb9 q9,h63,h68];rfl)
    | (rw [tb9 q9,h63];simp only [aA,aB,aC,Bool.and_false])
    | (rw [tb9 q9,h63];rfl)
    | (rw [tbb (.inl qb),h81,h86];simp only [aA,aB,aC,Bool.and_false])
    | (rw [tbb (.inl qb),h81,h86];rfl)
    | (rw [tbb (.inl qb),h81];simp only [aA,aB,aC,Bool.and_false])
    | (rw [tbb (.inl qb),h81];rfl)
    | (rw [tbb (.inr (.inl qb)),h81,h86];simp only [aA,aB,aC,Bool.and_false])
    | (rw [tbb (.inr (.inl qb)),h81,h86];rfl)
    | (rw [tbb (.inr (.inl qb)),h81];simp only [aA,aB,aC,Bool.and_false])
    | (rw [tbb (.inr (.inl qb)),h81];rfl)
    | (rw [tbb (.inr (.inr (.inl qb))),h81,h86];simp only [aA,aB,aC,Bool.and_false])
    | (rw [tbb (.inr (.inr (.inl qb))),h81,h86];rfl)
    | (rw [tbb (.inr (.inr (.inl qb))),h81];simp only [aA,aB,aC,Bool.and_false])
    | (rw [tbb (.inr (.inr (.inl qb))),h81];rfl)
    | (rw [tbb (.inr (.inr (.inr (.inl qb)))),h81,h86];simp only [aA,aB,aC,Bool.and_false])
    | (rw [tbb (.inr (.inr (.inr (.inl qb)))),h81,h86];rfl)
    | (rw [tbb (.inr (.inr (.inr (.inl qb)))),h81];simp only [aA,aB,aC,Bool.and_false])
    | (rw [tbb (.inr (.inr (.inr (.inl qb)))),h81];rfl)
    | (rw [tbb (.inr (.inr (.inr (.inr qb)))),h81,h86];simp only [aA,aB,aC,Bool.and_false])
    | (rw [tbb (.inr (.inr (.inr (.inr qb)))),h81,h86];rfl)
    | (rw [tbb (.inr (.inr (.inr (.inr qb)))),h81];simp only [aA,aB,aC,Bool.and_false])
    | (rw [tbb (.inr (.inr (.inr (.inr qb)))),h81];rfl)
    | (rw [tbn q1 q4 q585 q588 q6 q9 qb11 qb12 qb13 qb14 qb15])
  refine .gG<|.gG<|.gG<|.yw (.pickF Z Z)<|.mv Z<|.gG<|.gG<|.yw (.pickF Z Z)<|.az Z<|.bR<|.tR<|?_
  refine y9 Z Z λW s=>⟨?_,s.ext⟩
  first
   | (rw [tb1 q1,h10,h15];simp only [aA,aB,aC,Bool.and_false])
   | (rw [tb1 q1,h10,h15];rfl)
   | (rw [tb1 q1,h10];simp only [aA,aB,aC,Bool.and_false])
   | (rw [tb1 q1,h10];rfl)
   | (rw [tb4 q4,h26,h31];simp only [aA,aB,aC,Bool.and_false])
   | (rw [tb4 q4,h26,h31];rfl)
   | (rw [tb4 q4,h26];simp only [aA,aB,aC,Bool.and_false])
   | (rw [tb4 q4,h26];rfl)
   | (rw [tb5 (.inl q58),h43];simp only [aA,aB,aC,Bool.and_false])
   | (rw [tb5 (.inl q58),h43];rfl)
   | (rw [tb5 (.inr q58),h43];simp only [aA,aB,aC,Bool.and_false])
   | (rw [tb5 (.inr q58),h43];rfl)
   | (rw [tb6 q6,h54];simp only [aA,aB,aC,Bool.and_false])
   | (rw [tb6 q6,h54];rfl)
   | (rw [tb9 q9,h63,h68];simp only [aA,aB,aC,Bool.and_false])
   | (rw [tb9 q9,h63,h68];rfl)
   | (rw [tb9 q9,h63];simp only [aA,aB,aC,Bool.and_false])
   | (rw [tb9 q9,h63];rfl)
   | (rw [tbb (.inl qb),h81,h86];simp only [aA,aB,aC,Bool.and_false])
   | (rw [tbb (.inl qb),h81,h86];rfl)
   | (rw [tbb (.inl qb),h81];simp only [aA,aB,aC,Bool.and_false])
   | (rw [tbb (.inl qb),h81];rfl)
   | (rw [tbb (.inr (.inl qb)),h81,h86];simp only [aA,aB,aC,Bool.and_false])
   | (rw [tbb (.inr (.inl qb)),h81,h86];rfl)
   | (rw [tbb (.inr (.inl qb)),h81];simp only [aA,aB,aC,Bool.and_false])
   | (rw [tbb (.inr (.inl qb)),h81];rfl)
   | (rw [tbb (.inr (.inr (.inl qb))),h81,h86];simp only [aA,aB,aC,Bool.and_false])
   | (rw [tbb (.inr (.inr (.inl qb))),h81,h86];rfl)
   | (rw [tbb (.inr (.inr (.inl qb))),h81];simp only [aA,aB,aC,Bool.and_false])
   | (rw [tbb (.inr (.inr (.inl qb))),h81];rfl)
   | (rw [tbb (.inr (.inr (.inr (.inl qb)))),h81,h86];simp only [aA,aB,aC,Bool.and_false])
   | (rw [tbb (.inr (.inr (.inr (.inl qb)))),h81,h86];rfl)
   | (rw [tbb (.inr (.inr (.inr (.inl qb)))),h81];simp only [aA,aB,aC,Bool.and_false])
   | (rw [tbb (.inr (.inr (.inr (.inl qb)))),h81];rfl)
   | (rw [tbb (.inr (.inr (.inr (.inr qb)))),h81,h86];simp only [aA,aB,aC,Bool.and_false])
   | (rw [tbb (.inr (.inr (.inr (.inr qb)))),h81,h86];rfl)
   | (rw [tbb (.inr (.inr (.inr (.inr qb)))),h81];simp only [aA,aB,aC,Bool.and_false])
   | (rw [tbb (.inr (.inr (.inr (.inr qb)))),h81];rfl)
   | (rw [tbn q1 q4 q585 q588 q6 q9 qb11 qb12 qb13 qb14 qb15])
 have qb15:¬ op=15:=λe=>aN h72 (by rw [e];rfl);refine .sk<|.bN<|.tN<|.sr<|.az Z<|?_
 refine y9 Z Z λW s=>⟨?_,s.ext⟩
 first
  | (rw [tb1 q1,h10,h15];simp only [aA,aB,aC,Bool.and_false])
  | (rw [tb1 q1,h10,h15];rfl)
  | (rw [tb1 q1,h10];simp only [aA,aB,aC,Bool.and_false])
  | (rw [tb1 q1,h10];rfl)
  | (rw [tb4 q4,h26,h31];simp only [aA,aB,aC,Bool.and_false])
  | (rw [tb4 q4,h26,h31];rfl)
  | (rw [tb4 q4,h26];simp only [aA,aB,aC,Bool.and_false])
  | (rw [tb4 q4,h26];rfl)
  | (rw [tb5 (.inl q58),h43];simp only [aA,aB,aC,Bool.and_false])
  | (rw [tb5 (.inl q58),h43];rfl)
  | (rw [tb5 (.inr q58),h43];simp only [aA,aB,aC,Bool.and_false])
  | (rw [tb5 (.inr q58),h43];rfl)
  | (rw [tb6 q6,h54];simp only [aA,aB,aC,Bool.and_false])
  | (rw [tb6 q6,h54];rfl)
  | (rw [tb9 q9,h63,h68];simp only [aA,aB,aC,Bool.and_false])
  | (rw [tb9 q9,h63,h68];rfl)
  | (rw [tb9 q9,h63];simp only [aA,aB,aC,Bool.and_false])
  | (rw [tb9 q9,h63];rfl)
  | (rw [tbb (.inl qb),h81,h86];simp only [aA,aB,aC,Bool.and_false])
  | (rw [tbb (.inl qb),h81,h86];rfl)
  | (rw [tbb (.inl qb),h81];simp only [aA,aB,aC,Bool.and_false])
  | (rw [tbb (.inl qb),h81];rfl)
  | (rw [tbb (.inr (.inl qb)),h81,h86];simp only [aA,aB,aC,Bool.and_false])
  | (rw [tbb (.inr (.inl qb)),h81,h86];rfl)
  | (rw [tbb (.inr (.inl qb)),h81];simp only [aA,aB,aC,Bool.and_false])
  | (rw [tbb (.inr (.inl qb)),h81];rfl)
  | (rw [tbb (.inr (.inr (.inl qb))),h81,h86];simp only [aA,aB,aC,Bool.and_false])
  | (rw [tbb (.inr (.inr (.inl qb))),h81,h86];rfl)
  | (rw [tbb (.inr (.inr (.inl qb))),h81];simp only [aA,aB,aC,Bool.and_false])
  | (rw [tbb (.inr (.inr (.inl qb))),h81];rfl)
  | (rw [tbb (.inr (.inr (.inr (.inl qb)))),h81,h86];simp only [aA,aB,aC,Bool.and_false])
  | (rw [tbb (.inr (.inr (.inr (.inl qb)))),h81,h86];rfl)
  | (rw [tbb (.inr (.inr (.inr (.inl qb)))),h81];simp only [aA,aB,aC,Bool.and_false])
  | (rw [tbb (.inr (.inr (.inr (.inl qb)))),h81];rfl)
  | (rw [tbb (.inr (.inr (.inr (.inr qb)))),h81,h86];simp only [aA,aB,aC,Bool.and_false])
  | (rw [tbb (.inr (.inr (.inr (.inr qb)))),h81,h86];rfl)
  | (rw [tbb (.inr (.inr (.inr (.inr qb)))),h81];simp only [aA,aB,aC,Bool.and_false])
  | (rw [tbb (.inr (.inr (.inr (.inr qb)))),h81];rfl)
  | (rw [tbn q1 q4 q585 q588 q6 q9 qb11 qb12 qb13 qb14 qb15])
theorem bY4 {op:UInt8} :decide ((16:Int)<=((op.toNat:Nat):Int))=decide (16<=op.toNat):=by rw [bH,aD,aD];omega
theorem bY2 {op:UInt8} :decide (((op.toNat:Nat):Int)<=21)=decide (op.toNat<=21):=by rw [bH,aD,aD];omega
theorem gW {op:UInt8} {nm:Str} {n:Int64} {args:List Ex} :IL (.mk op nm n args)=(decide (16<=op.toNat) && decide (op.toNat<=21) && decide (nm=[]) && decide (n=0) && (args.all eL && decide (args.length=2))):=by rw [<-uG];rfl
theorem aD9 (H:Hp) (e:Ex) (cs:List Value) (w:World) (h:Rep H (dEx .u8 e) cs) (hA:Agr H w):Calls prg 80 #[.agg cs.toArray] w λr w'=>r=.returned (.bool (IL e))/\Ext w w':=by
 obtain ⟨op,nm,nn,args⟩:=e;obtain ⟨pp,c,rfl,hs,hnm⟩:=iK h;refine Sx.enter (H:=H) func80 rfl ntmps80 rfl hA ?_;refine .sr<|.bx Z Z Z λb1=>.a Z Z<|.ns<|.fA Z gO<|.lD Z jR Hm Z<|.yw (.cast (.geq Z Z) (congrArg Value.bool (bY4)))<|.mv Z<|.b2 (λh6=>?_) (λh6=>?_)
 ·refine .gy (.fieldAddr Z gO)<|.gy (.load Z jR Hm Z)<|.gy (.cast (.leq Z Z) (congrArg Value.bool (bY2)))<|.yw (.pickT Z Z)<|.mv Z<|.b2 (λh11=>?_) (λh11=>?_)
  ·refine .gy (.fieldAddr Z fT)<|.gy (.load Z cZ Hm Z)<|.gy (.eqS Z Z)<|.yw (.pickT Z Z)<|.mv Z<|.b2 (λh16=>?_) (λh16=>?_)
   ·refine .gy (.fieldAddr Z gD)<|.gy (.load Z fC Hm Z)<|.gy (.cast (.eql Z Z) (congrArg Value.bool i0))<|.yw (.pickT Z Z)<|.mv Z<|.b2 (λh21=>?_) (λh21=>?_)
    ·refine .gy (.loadW Z dP Hm Z)<|.gy (.call qC Z (λW s=>mP H op nm nn args 2 _ W h (λa _=>zC H a) s.agr))<|.yw (.pickT Z Z)<|.az Z<|?_
     refine y9 Z Z λW s=>⟨?_,s.ext⟩
     first
      | (rw [gW,h6,h11,h16,h21];simp only [aA,aB,aC,Bool.and_false])
      | (rw [gW,h6,h11,h16,h21];rfl)
      | (rw [gW,h6,h11,h16];simp only [aA,aB,aC,Bool.and_false])
      | (rw [gW,h6,h11,h16];rfl)
      | (rw [gW,h6,h11];simp only [aA,aB,aC,Bool.and_false])
      | (rw [gW,h6,h11];rfl)
      | (rw [gW,h6];simp only [aA,aB,aC,Bool.and_false])
      | (rw [gW,h6];rfl)
    refine .gG<|.gG<|.yw (.pickF Z Z)<|.az Z<|?_
    refine y9 Z Z λW s=>⟨?_,s.ext⟩
    first
     | (rw [gW,h6,h11,h16,h21];simp only [aA,aB,aC,Bool.and_false])
     | (rw [gW,h6,h11,h16,h21];rfl)
     | (rw [gW,h6,h11,h16];simp only [aA,aB,aC,Bool.and_false])
     | (rw [gW,h6,h11,h16];rfl)
     | (rw [gW,h6,h11];simp only [aA,aB,aC,Bool.and_false])
     | (rw [gW,h6,h11];rfl)
     | (rw [gW,h6];simp only [aA,aB,aC,Bool.and_false])
     | (rw [gW,h6];rfl)
   refine .gG<|.gG<|.gG<|.yw (.pickF Z Z)<|.mv Z<|.gG<|.gG<|.yw (.pickF Z Z)<|.az Z<|?_
   refine y9 Z Z λW s=>⟨?_,s.ext⟩
   first
    | (rw [gW,h6,h11,h16,h21];simp only [aA,aB,aC,Bool.and_false])
    | (rw [gW,h6,h11,h16,h21];rfl)
    | (rw [gW,h6,h11,h16];simp only [aA,aB,aC,Bool.and_false])
    | (rw [gW,h6,h11,h16];rfl)
    | (rw [gW,h6,h11];simp only [aA,aB,aC,Bool.and_false])
    | (rw [gW,h6,h11];rfl)
    | (rw [gW,h6];simp only [aA,aB,aC,Bool.and_false])
    | (rw [gW,h6];rfl)
  refine .gG<|.gG<|.gG<|.yw (.pickF Z Z)<|.mv Z<|.gG<|.gG<|.gG<|.yw (.pickF Z Z)<|.mv Z<|.gG<|.gG<|.yw (.pickF Z Z)<|.az Z<|?_
  refine y9 Z Z λW s=>⟨?_,s.ext⟩
  first
   | (rw [gW,h6,h11,h16,h21];simp only [aA,aB,aC,Bool.and_false])
   | (rw [gW,h6,h11,h16,h21];rfl)
   | (rw [gW,h6,h11,h16];simp only [aA,aB,aC,Bool.and_false])
   | (rw [gW,h6,h11,h16];rfl)
   | (rw [gW,h6,h11];simp only [aA,aB,aC,Bool.and_false])
   | (rw [gW,h6,h11];rfl)
   | (rw [gW,h6];simp only [aA,aB,aC,Bool.and_false])
   | (rw [gW,h6];rfl)
 refine .gG<|.gG<|.gG<|.yw (.pickF Z Z)<|.mv Z<|.gG<|.gG<|.gG<|.yw (.pickF Z Z)<|.mv Z<|.gG<|.gG<|.gG<|.yw (.pickF Z Z)<|.mv Z<|.gG<|.gG<|.yw (.pickF Z Z)<|.az Z<|?_
 refine y9 Z Z λW s=>⟨?_,s.ext⟩
 first
  | (rw [gW,h6,h11,h16,h21];simp only [aA,aB,aC,Bool.and_false])
  | (rw [gW,h6,h11,h16,h21];rfl)
  | (rw [gW,h6,h11,h16];simp only [aA,aB,aC,Bool.and_false])
  | (rw [gW,h6,h11,h16];rfl)
  | (rw [gW,h6,h11];simp only [aA,aB,aC,Bool.and_false])
  | (rw [gW,h6,h11];rfl)
  | (rw [gW,h6];simp only [aA,aB,aC,Bool.and_false])
  | (rw [gW,h6];rfl)
def ZG (e:Ex):Bool:=!HJ e && !eL e
theorem aT0 {e:Ex} :ZG e=(!HJ e && !eL e):=rfl
theorem TY (H:Hp) (e:Ex):EFn H 77 [] ZG e:=by
 intro cs w h hA;obtain ⟨op,nm,nn,args⟩:=e;obtain ⟨pp,c,rfl,hs,hnm⟩:=iK h;refine Sx.enter (H:=H) func77 rfl ntmps77 rfl hA ?_;refine .sr<|.bx Z Z Z λb1=>.a Z Z<|.ns<|.yw (.loadW Z dP Hm Z)<|.yw (.call aH6 Z (λW s=>aE0 H _ _ W h s.agr))<|.yw (.not Z)<|.mv Z<|.b2 (λh6=>?_) (λh6=>?_)
 ·refine .gy (.loadW Z dP Hm Z)<|.gy (.call CC Z (λW s=>zC H _ _ W h s.agr))<|.gy (.not Z)<|.yw (.pickT Z Z)<|.az Z<|?_
  refine y9 Z Z λW s=>⟨?_,s.ext⟩
  first
   | (rw [aT0,h6,aA])
   | (rw [aT0,h6];rfl)
 refine .gG<|.gG<|.gG<|.yw (.pickF Z Z)<|.az Z<|?_
 refine y9 Z Z λW s=>⟨?_,s.ext⟩
 first
  | (rw [aT0,h6,aA])
  | (rw [aT0,h6];rfl)
theorem gtn:decide (((k:Nat):Int)<((n:Nat):Int))=decide (k<n):=by rw [bH,aD,aD];omega
theorem EL (H:Hp) (e:Ex) (n b:Nat) (hd:e.depth<=1000000) (hm:kZ H b 0 [iN n]):EFn H 72 [.pointer (some ⟨b,0,none⟩)] (λe=>decide (n<e.depth)) e:=by
 intro cs w h hA;obtain ⟨op,nm,nn,args⟩:=e;obtain ⟨pp,c,rfl,hs,hnm⟩:=iK h;refine Sx.enter (H:=H) func72 rfl ntmps72 rfl hA ?_;refine .sr<|.bx Z Z Z λb2=>.aq Z<|.sq<|.fL 4 [(0,0),(1,0),(2,0),(3,0)]<|.yw (.loadW Z dP Hm Z)<|.yw (.call NY Z (λW s=>MC _ H _ W h hd s.agr))<|.yw (.loadM Z cR hm (k:=0) Z Z)<|.yw (.cast (.gtr Z Z) (congrArg Value.bool gtn))<|.fn (tl:=[_]) Z<|.az Z<|?_
 exact y9 Z Z λW s=>⟨Z,s.ext⟩
theorem fP:kP prg 33=some none:=by kernel_rfl
theorem CE:dK prg 35=true:=by kernel_rfl
theorem qR:dK prg 71=true:=by kernel_rfl
theorem NZ:dK prg 72=true:=by kernel_rfl
theorem vT:dK prg 75=true:=by kernel_rfl
theorem vS:dK prg 76=true:=by kernel_rfl
theorem CU:dY prg 157 1=some 1:=by kernel_rfl
theorem uF:dY prg 157 2=some 2:=by kernel_rfl
theorem eR:slN prg 33=some 7:=by kernel_rfl
theorem aY6:pO prg 3=some [Go.Value.int Go.IntKind.i64 (Int.ofNat 0)]:=by kernel_rfl
end Go.Proofs.YtidclioghdbphaaGreatDoor
