/- Texts of the proof, one behind the other. -/
import Derived.Test.YtidclioghdbphaaGreatDoorMd
import Derived.Lib.ItoaNum
set_option linter.all false
set_option maxRecDepth 100000
namespace Go.Proofs.YtidclioghdbphaaGreatDoor
open Go.RowKit Go.Par Go.Sx Tryz
theorem split_ix:∀ n:Str,(∃ i:Nat,Lib.indexByte n 46=(i:Int)/\i<n.length/\splitF n=some (n.take i,n.drop (i+1)))\/(Lib.indexByte n 46=-1/\splitF n=none)
 | []=>.inr ⟨Z,Z⟩
 | c::r=>by
  by_cases hc:c=46
  ·refine .inl ⟨0,?_,Nat.succ_pos _,?_⟩
   ·rw [Lib.indexByte,Al_if_pos (by rw [hc];rfl)];rfl
   ·rw [splitF,Al_if_pos hc];rfl
  ·have hb:¬ (c == 46)=true:=λe=>hc (by simpa using e);rcases split_ix r with ⟨i,h1,h2,h3⟩ | ⟨h1,h2⟩
   ·refine .inl ⟨i+1,?_,Nat.succ_lt_succ h2,?_⟩
    ·rw [Lib.indexByte,Al_if_neg hb,h1,Al_if_neg (by intro e;have:=eq_of_beq e;omega)];omega
    ·rw [splitF,Al_if_neg hc,h3];rfl
   ·refine .inr ⟨?_,?_⟩
    ·rw [Lib.indexByte,Al_if_neg hb,h1];rfl
    ·rw [splitF,Al_if_neg hc,h2];rfl
def spV (n:Str):Value:=.tuple #[strV (spA n),strV (spB n),.bool (splitF n).isSome]
def cutV (n:Str):Value:=.tuple #[strV (if (splitF n).isSome then spA n else n),strV (spB n),.bool (splitF n).isSome]
theorem cutL_any (n:Str) (hn:n.length<=9223372036854775807) (w:World):Calls prg 94 #[strV n,strV [46]] w λe w'=>e=.returned (cutV n)/\Ext w w':=by
 refine y6 func94 Z ntmps94 Z ?_;refine .sr<|.a Z Z<|.a Z Z<|.aq Z<|.sq<|.sm Z<|.mv Z<|.yw (.call (v:=.int .i64 (Lib.indexByte n 46)) Fx.call145 Z λW s=>(Tryz.stringslite_Index_one ⟨n.toArray⟩ 46 W).mono λ_ _ h=>⟨h.1,by rw [h.2];exact Ext.refl _⟩)<|.a Z Z<|.ns<|.mv Z<|.yw (.geq Z Z)<|.nt<|.ce Z (λh12=>?_) (λh12=>?_)
 ·obtain ⟨i,hx,hi,hs⟩:∃ i:Nat,Lib.indexByte n 46=(i:Int)/\i<n.length/\splitF n=some (n.take i,n.drop (i+1)):=by
   rcases split_ix n with h | ⟨h,_⟩
   ·exact h
   ·omega
  refine .sq<|.fL 11 [(0,0),(1,0),(2,0),(3,0),(4,0),(5,0),(6,0),(7,0),(8,0),(9,0),(10,0)]<|.mv Z<|.mv Z<|.yw (.takeS Fx.str9 Z Z (hi:=i) hx (by omega))<|.mv Z<|.mv Z<|.mv Z<|.yw (.lenS Fx.str9 Z)<|.yw (.add Z Z (c:=((i+1:Nat):Int)) (by rw [hx];exact (w64 (by show _<=(i:Int)+((1:Nat):Int);omega) (by show (i:Int)+((1:Nat):Int)<=_;omega)).trans (by show (i:Int)+((1:Nat):Int)=_;omega)))<|.yw (.dropS Fx.str9 Z Z (lo:=i+1) Z (by omega))<|.a Z Z<|.a Z Z<|.fn (tl:=[_]) Z<|.az Z<|.tR<|?_
  refine y7 Z (.cons (.tmp Z) (.cons (.tmp Z) (.cons (.tmp Z) .nil))) rfl λW s=>⟨(by unfold cutV spA spB;rw [hs];rfl),s.ext⟩
 have hs:splitF n=none:=by
  rcases split_ix n with ⟨i,h,_⟩ | ⟨_,h⟩
  ·omega
  ·exact h
 refine .sk<|.tN<|.sm Z<|.a Z Z<|.a Z Z<|.az Z<|?_
 refine y7 Z (.cons (.tmp Z) (.cons (.tmp Z) (.cons (.tmp Z) .nil))) rfl λW s=>⟨(by unfold cutV spA spB;rw [hs];rfl),s.ext⟩
theorem cut_any (n:Str) (hn:n.length<=9223372036854775807) (w:World):Calls prg 49 #[strV n,strV [46]] w λe w'=>e=.returned (cutV n)/\Ext w w':=by
 refine y6 func49 Z ntmps49 Z ?_;refine .sr<|.a Z Z<|.a Z Z<|.a Z Z<|.ns<|.mv Z<|.mv Z<|.yw (.call (v:=cutV n) Fx.call94 Z λW s=>cutL_any n hn W)<|.yw (.extract Z Z)<|.yw (.extract Z Z)<|.yw (.extract Z Z)<|.a Z Z<|.a Z Z<|.az Z<|?_
 refine y7 Z (.cons (.tmp Z) (.cons (.tmp Z) (.cons (.tmp Z) .nil))) rfl λW s=>⟨Z,s.ext⟩
theorem split_any (n:Str) (hn:n.length<=9223372036854775807) (w:World):Calls prg 20 #[strV n] w λe w'=>e=.returned (spV n)/\Ext w w':=by
 refine y6 func20 Z ntmps20 Z ?_;refine .sr<|.a Z Z<|.a Z Z<|.a Z Z<|.ns<|.mv Z<|.yw (.call (v:=cutV n) Fx.call49 Z λW s=>cut_any n hn W)<|.mv Z<|.yw (.extract Z Z)<|.yw (.extract Z Z)<|.yw (.extract Z Z)<|.a Z Z<|.a Z Z<|.aq Z<|.sq<|.sm Z<|.yw (.not Z)<|.nt<|.cd Z (λh12=>?_) (λh12=>?_)
 ·have hs:splitF n=none:=by cases e:splitF n with | none=>rfl | some x=>rw [e] at h12;cases h12
  refine .sr<|.a Z Z<|.a Z Z<|.az Z<|.tR<|?_
  refine y7 Z (.cons (.tmp Z) (.cons (.tmp Z) (.cons (.tmp Z) .nil))) rfl λW s=>⟨(by unfold spV spA spB;rw [hs];rfl),s.ext⟩
 obtain ⟨x,hs⟩:∃ x,splitF n=some x:=by cases e:splitF n with | some x=>exact ⟨x,rfl⟩ | none=>rw [e] at h12;cases h12
 refine .sk<|.tN<|.sm Z<|.mv Z<|.a Z Z<|.a Z Z<|.az Z<|?_
 refine y7 Z (.cons (.tmp Z) (.cons (.tmp Z) (.cons (.tmp Z) .nil))) rfl λW s=>⟨(by unfold spV spA spB;rw [hs];rfl),s.ext⟩
variable {l:List Value}
theorem oneE {p:Value->Prop} {t u e0 e1 e2 e3:Value} (h1:∀ x∈t::u::e0::e1::e2::e3::l,p x):∀ x∈[e0,e1,e2,e3],p x:=λx hx=>h1 x (Al_List_mem_cons_of_mem _<|Al_List_mem_cons_of_mem _<|(Al_List_mem_append.2 (.inl hx):x∈[e0,e1,e2,e3]++l))
theorem oneF {p:Value->Prop} {t u e0 e1 e2 e3:Value} (h1:∀ x∈t::u::e0::e1::e2::e3::l,p x):∀ x∈l,p x:=λx hx=>h1 x (Al_List_mem_cons_of_mem _<|Al_List_mem_cons_of_mem _<|(Al_List_mem_append.2 (.inr hx):x∈[e0,e1,e2,e3]++l))
variable {k:Nat} {xr:List Value}
variable {H:Hp} {w0 W:World} {bs:List Res} {b tc:Nat} {tp:Option Addr} {ro rv:Value} {bd:Bool} {q:Rq}
theorem term_f {l:Tks} {rd dn:Bool} (K:Tkf H l tp tc) (hq:q.i<l.length) {tm wh:Bool} {eop:UInt8} {enm:Str} {e2 e3 f0 f1 f2 f3 f4 f5 f6:Value} (h1:∀ u∈[.bool tm,.bool wh,.int .u8 eop.toNat,strV enm,e2,e3,f0,f1,f2,f3,f4,f5,f6],u.oneCell'=true) (hkm:k<=600001) (hl:xr.length=k * 13) (s:St H w0 (.box b [.slice tp l.length tc,iN q.i,ro,rv,.bool rd,.bool dn,.bool bd,iN q.off,iN q.er] 102::.row 179 13 (rv) (k+1) (xr++[.bool tm,.bool wh,.int .u8 eop.toNat,strV enm,e2,e3,f0,f1,f2,f3,f4,f5,f6])::bs) W) :
 Calls prg 155 #[.pointer (some ⟨b,0,none⟩)] W λe W'=>∃ z:Nat × Nat,(True)/\e=.returned (.agg [.int .u8 eop.toNat,strV enm,e2,e3].toArray)/\St H w0 (.box b [.slice tp l.length tc,iN q.i,ro,(.slice (some ⟨z.1,0,none⟩) k z.2),.bool rd,.bool dn,.bool (bd || !tm),iN q.off,iN q.er] 102::.row 179 13 (.slice (some ⟨z.1,0,none⟩) k z.2) (k) (xr)::bs) W':=by
 have hcap:=K.rep.cap;refine enterS func155 rfl ntmps155 rfl s ?_;refine .sr<|.al Fx.zero76 Z λb2=>.ns<|.mv Z<|.cs (X:=Nat × Nat) Fx.call116 Z (λW s=>pop_f K hq h1 hkm hl (s.p3_3 [1,2,0] Z)) Z λz _=>.al Fx.zero179 Z λb3=>.sW .head Z Z Fx.size179 h1 Z<|.ns<|.mv Z<|.mv Z<|.nC Z<|.fA Z Fx.field102_6<|.lD Z Fx.agg4 mem1 Z<|.mv Z<|.b2 (λh11=>?_) (λh11=>?_)
 ·subst h11;refine .gG<|.gG<|.gG<|.yw (.pickT Z Z)<|.nC Z<|.fA Z Fx.field102_6<|.st upd1 Z Z Fx.size4 Z (nb Z) Z<|.ns<|.fA Z Fx.field179_2<|.yw (.loadS (vs:=[_,_,_,_]) Z Fx.agg76 Hm Z (subL Z))<|.sW upd3 Z Z Fx.size76 (oneE h1) Z<|.nt<|.rt<|?_
  refine y8 Z (.cell Z Fx.agg76 mem3 rfl) λW s=>?_;exact ⟨z,Jt,Z,s.p4_2 [1,2] rfl⟩
 subst h11;refine .gy (.fieldAddr Z Fx.field179_0)<|.gy (.load Z Fx.agg4 Hm Z)<|.gy (.not Z)<|.yw (.pickF Z Z)<|.nC Z<|.fA Z Fx.field102_6<|.st upd1 Z Z Fx.size4 Z (nb Z) Z<|.ns<|.fA Z Fx.field179_2<|.yw (.loadS (vs:=[_,_,_,_]) Z Fx.agg76 Hm Z (subL Z))<|.sW upd3 Z Z Fx.size76 (oneE h1) Z<|.nt<|.rt<|?_
 refine y8 Z (.cell Z Fx.agg76 mem3 rfl) λW s=>?_;exact ⟨z,Jt,Z,s.p4_2 [1,2] rfl⟩
def fmC (tm:Bool) (enm:Str) (fs:List Value):List Value:=if tm then [.int .u8 4,strV (spA enm),strV (spB enm),.int .i64 0,.int .i64 0,.slice none 0 0,.slice none 0 0] else fs
theorem formula_f {l:Tks} {rd dn:Bool} (K:Tkf H l tp tc) (hq:q.i<l.length) {tm wh:Bool} {eop:UInt8} {enm:Str} {e2 e3 f0 f1 f2 f3 f4 f5 f6:Value} (h1:∀ u∈[.bool tm,.bool wh,.int .u8 eop.toNat,strV enm,e2,e3,f0,f1,f2,f3,f4,f5,f6],u.oneCell'=true) (hen:enm.length<=1000000) (hkm:k<=600001) (hl:xr.length=k * 13) (s:St H w0 (.box b [.slice tp l.length tc,iN q.i,ro,rv,.bool rd,.bool dn,.bool bd,iN q.off,iN q.er] 102::.row 179 13 (rv) (k+1) (xr++[.bool tm,.bool wh,.int .u8 eop.toNat,strV enm,e2,e3,f0,f1,f2,f3,f4,f5,f6])::bs) W) :
 Calls prg 57 #[.pointer (some ⟨b,0,none⟩)] W λe W'=>∃ z:Nat × Nat,(True)/\e=.returned (.agg (fmC tm enm [f0,f1,f2,f3,f4,f5,f6]).toArray)/\St H w0 (.box b [.slice tp l.length tc,iN q.i,ro,(.slice (some ⟨z.1,0,none⟩) k z.2),.bool rd,.bool dn,.bool (bd || (tm && (!decide (eop=5) || (splitF enm).isNone))),iN q.off,iN q.er] 102::.row 179 13 (.slice (some ⟨z.1,0,none⟩) k z.2) (k) (xr)::bs) W':=by
 have hcap:=K.rep.cap;refine enterS func57 rfl ntmps57 rfl s ?_;refine .sr<|.al Fx.zero35 Z λb2=>.ns<|.mv Z<|.cs (X:=Nat × Nat) Fx.call116 Z (λW s=>pop_f K hq h1 hkm hl (s.p3_3 [1,2,0] Z)) Z λz _=>.al Fx.zero179 Z λb3=>.sW .head Z Z Fx.size179 h1 Z<|.nt<|.sq<|.sr<|.fA Z Fx.field179_0<|.lD Z Fx.agg4 Hm Z<|.yw (.not Z)<|.nt<|.cd Z (λh11=>?_) (λh11=>?_)
 ·have ht:tm=false:=by simpa using h11
  subst ht;refine .sr<|.fA Z Fx.field179_3<|.yw (.loadS (vs:=[_,_,_,_,_,_,_]) Z Fx.agg35 Hm Z (subL Z))<|.sW upd3 Z Z Fx.size35 (oneF h1) Z<|.nt<|.rt<|.tR<|?_
  refine y8 Z (.cell Z Fx.agg35 mem3 rfl) λW s=>?_;rw [Al_Bool_false_and,Bool.or_false];exact ⟨z,Jt,Z,s.p4_2 [1,2] rfl⟩
 have ht:tm=true:=by simpa using h11
 subst ht;refine .sk<|.tN<|.sr<|.fA Z Fx.field179_2<|.fA Z Fx.field76_1<|.lD Z Fx.agg9 Hm Z<|.yw (.call Fx.call20 Z λW s=>split_any enm (by omega) W)<|.mv Z<|.yw (.extract Z Z)<|.yw (.extract Z Z)<|.yw (.extract Z Z)<|.a Z Z<|.a Z Z<|.aq Z<|.sq<|.sr<|.fA Z Fx.field179_2<|.fA Z Fx.field76_0<|.lD Z Fx.agg74 Hm Z<|.yw (.neq Z Z)<|.mv Z<|.b2 (λh26=>?_) (λh26=>?_)
 ·have e5:¬ eop=5:=λe=>by subst e;simp at h26
  have hb:(!decide (eop=5) || (splitF enm).isNone)=true:=by rw [Al_decide_eq_false e5];rfl
  refine .gG<|.gG<|.yw (.pickT Z Z)<|.nt<|.cT Z<|.rg<|.mv Z<|.nC Z<|.fA Z Fx.field102_6<|.st upd1 Z Z Fx.size4 Z (nb Z) Z<|.ns<|.mv Z<|.mv Z<|.yw (.build Z (Fx.bld35_0_1_2 _ _ _))<|.sX upd3 Z Z Fx.size35 Z<|.nt<|.rt<|?_
  refine y8 Z (.cell Z Fx.agg35 mem3 rfl) λW s=>?_;rw [hb,Al_Bool_true_and,Bool.or_true];exact ⟨z,Jt,Z,s.p4_2 [1,2] rfl⟩
 have e5:eop=5:=Al_UInt8_toNat_inj.1 (by have:=Al_of_decide_eq_false h26;show eop.toNat=5;omega);refine .gy (.move Z)<|.gy (.not Z)<|.yw (.pickF Z Z)<|.nt<|.cd Z (λh29=>?_) (λh29=>?_)
 ·have hb:(!decide (eop=5) || (splitF enm).isNone)=true:=by
   rw [Al_decide_eq_true e5];cases hs:splitF enm with
   | none=>rfl
   | some x=>rw [hs] at h29;cases h29
  refine .rg<|.mv Z<|.nC Z<|.fA Z Fx.field102_6<|.st upd1 Z Z Fx.size4 Z (nb Z) Z<|.ns<|.mv Z<|.mv Z<|.yw (.build Z (Fx.bld35_0_1_2 _ _ _))<|.sX upd3 Z Z Fx.size35 Z<|.nt<|.rt<|?_
  refine y8 Z (.cell Z Fx.agg35 mem3 rfl) λW s=>?_;rw [hb,Al_Bool_true_and,Bool.or_true];exact ⟨z,Jt,Z,s.p4_2 [1,2] rfl⟩
 have hb:(!decide (eop=5) || (splitF enm).isNone)=false:=by
  rw [Al_decide_eq_true e5];cases hs:splitF enm with
  | some x=>rfl
  | none=>rw [hs] at h29;cases h29
 refine .sk<|.tN<|.sm Z<|.mv Z<|.yw (.build Z (Fx.bld35_0_1_2 _ _ _))<|.sX upd3 Z Z Fx.size35 Z<|.nt<|.rt<|?_
 refine y8 Z (.cell Z Fx.agg35 mem3 rfl) λW s=>?_;rw [hb,Al_Bool_true_and,Bool.or_false];exact ⟨z,Jt,Z,s.p4_2 [1,2] rfl⟩
variable {j:Nat} {v0 v1:Value} {xv:List Value}
theorem close_f {l:Tks} {rd dn:Bool} (K:Tkf H l tp tc) (hq:q.i<l.length) {v2 v3 v4 v5 v6 v7 v8 v9 va vb vc:Value} {os:List Value} (h1:∀ u∈[v0,v1,v2,v3,v4,v5,v6,v7,v8,v9,va,vb,vc],u.oneCell'=true) (hkm:k<=600001) (hjm:j<=600001) (hl:xr.length=k * 11) (s:St H w0 (.box b [.slice tp l.length tc,iN q.i,ro,rv,.bool rd,.bool dn,.bool bd,iN q.off,iN q.er] 102::.row 97 11 (ro) (k+1) (xr++os)::.row 179 13 (rv) (j) (xv)::bs) W) :
 Calls prg 156 #[.pointer (some ⟨b,0,none⟩),.agg [v0,v1,v2,v3,v4,v5,v6,v7,v8,v9,va,vb,vc].toArray] W λe W'=>∃ z:(Nat × Nat) × (Option Addr × Nat),(True)/\e=.returned (.tuple #[])/\St H w0 (.box b [.slice tp l.length tc,iN q.i,(.slice (some ⟨z.1.1,0,none⟩) k z.1.2),(.slice z.2.1 (j+1) z.2.2),.bool true,.bool dn,.bool bd,iN q.off,iN q.er] 102::.row 97 11 (.slice (some ⟨z.1.1,0,none⟩) k z.1.2) (k) (xr)::.row 179 13 (.slice z.2.1 (j+1) z.2.2) (j+1) (xv++[v0,v1,v2,v3,v4,v5,v6,v7,v8,v9,va,vb,vc])::bs) W':=by
 have hcap:=K.rep.cap;refine enterS func156 rfl ntmps156 rfl s ?_;refine Sx.rowCase (size:=11) (k:=k+1) (r:=ro) (e:=97) mem1 (by omega) λg c e hkc=>?_;subst e;refine .sr<|.bx Z Z Z λb3=>.nt<|.sq<|.fL 12 [(0,0),(1,0),(2,0),(3,0),(4,0),(5,0),(6,0),(7,0),(8,0),(9,0),(10,0),(11,0)]<|.mv Z<|.mv Z<|.nC Z<|.fA Z Fx.field102_2<|.lD Z Fx.agg98 mem1 Z<|.mv Z<|.nC Z<|.fA Z Fx.field102_2<|.lD Z Fx.agg98 mem1 Z<|.yw (.lenSl Fx.sl98 Z)<|.yw (.sub Z Z (c:=((k:Nat):Int)) ((w6 (by omega)).trans (by omega)))<|.yw (.cutHi Fx.sl98 Z Z Z (by omega) (λq e=>by cases e;rfl))<|.fn (tl:=[_,_,_]) Z<|.nC Z<|.fA Z Fx.field102_2<|.st upd1 Z Z Fx.size98 Z (nb Z) Z<|?_
 refine Sx.At.rcut (size:=11) (m:=k) (ys:=xr) upd2 (by omega) (by rw [<-hl,Al_List_take_left]) ?_;refine .nt<|.rg<|.mv Z<|.yw (.loadW Z Fx.agg179 Hm Z)<|.cs (X:=Option Addr × Nat) Fx.call108 Z (λW s=>give_f K hq h1 hjm (s.p4_4 [1,3,0,2] Z)) Z λz _=>.nl<|?_
 refine retN (.inr Z) rfl .nil rfl λW s=>⟨((g,c),z),Jt,Z,?_⟩;exact s.p4_3 [0,3,1] rfl
theorem Fx.call23:callN prg 23=true:=by kernel_rfl
theorem Fx.call50:callN prg 50=true:=by kernel_rfl
theorem counts_at {l:List Ex} (h:k<l.length):Ex.counts (l.take (k+1))=Ex.counts (l.take k)+l[k].count:=by rw [take_snoc h,ex_counts_app,Ex.counts,Ex.counts,Al_Nat_add_zero]
theorem counts_le (l:List Ex) (k:Nat):Ex.counts (l.take k)<=Ex.counts l:=by
 have h:=ex_counts_app (l.take k) (l.drop k);rw [Al_List_take_append_drop] at h;omega
theorem countsF_at {l:List Fm} (h:k<l.length):Fm.counts (l.take (k+1))=Fm.counts (l.take k)+l[k].count:=by rw [takeF_snoc h,fm_counts_app,Fm.counts,Fm.counts,Al_Nat_add_zero]
theorem countsF_le (l:List Fm) (k:Nat):Fm.counts (l.take k)<=Fm.counts l:=by
 have h:=fm_counts_app (l.take k) (l.drop k);rw [Al_List_take_append_drop] at h;omega
theorem nodes_any (e:Ex):∀ (H:Hp) (cs:List Value) (w:World),Rep H (dEx .i64 e) cs->e.count<=1000000->Agr H w ->
 Calls prg 50 #[.agg cs.toArray] w λr w'=>r=.returned (iN e.count)/\Ext w w':=by
 induction e using Ex.ind with | _ op nm nn args ih
 intro H cs w h hc hA;rw [ex_count] at hc;obtain ⟨p,c,rfl,hs,hnm⟩:=ex_open h;have hcap:=hs.cap;refine Sx.enter (H:=H) func50 rfl ntmps50 rfl hA ?_;refine .sr<|.bx Z Z Z λb1=>.a Z Z<|.ns<|.aq Z<|.sq<|.sr<|.fA Z Fx.field83_3<|.lD Z Fx.agg24 Hm Z<|.yw (.lenSl Fx.sl24 Z)<|.mv Z<|.nt<|.bk<|.lp (X:=Nat) [(7,_),(8,_)] ⟨Z,Z,Jt⟩ [_] (λk=>[(3,iN (1+Ex.counts (args.take k))),(9,iN k)]) (λk=>H) (λk=>[]) (λk=>k<=args.length) (λk=>args.length - k) 0 (λ_ s=>s) ⟨Z,Z,Jt⟩ (Al_Nat_zero_le _) λk hC=>?_
 have hk0:=hC;refine .sr<|.yw (.lss Z Z)<|.nt<|.sq<|.ce Z (λh10=>?_) (λh10=>?_)
 ·have hk:k<args.length:=by omega
  obtain ⟨bE,oE,cE,hpE,rE,lE,mE⟩:=hs.elem (map_at (f:=dEx .i64) hk);cases hpE;have h1:=counts_at hk;have h2:=counts_le args (k+1);exact .sk<|.tN<|.sq<|.bk<|.sr<|.yw (.indexSl Fx.sl24 Z Z Z (by omega) (q:=oE+k * 4) Z)<|.yw (.loadMW Z Fx.agg83 mE lE)<|.al Fx.zero83 Z λb5=>.sV .head Z Z Fx.size83 lE rE.one Z<|.nt<|.rg<|.mv Z<|.yw (.loadW Z Fx.agg83 Hm lE)<|.yw (.call Fx.call50 Z (λW s=>ih _ (Al_List_getElem_mem hk) H cE W rE (by omega) s.agr))<|.yw (.add Z Z (c:=((1+Ex.counts (args.take (k+1)):Nat):Int)) ((w6 (by omega)).trans (by omega)))<|.a Z Z<|.nl<|.bN<|.tN<|.rg<|.yw (.add Z Z w7)<|.mv Z<|.nt<|.ag (k+1) ⟨Z,Z,Jt⟩ ⟨Z,Z,Jt⟩ (λ_ s=>s.pick [1] [_] Z Z) (by omega) (by omega)
 obtain rfl:k=args.length:=by omega
 rw [Al_List_take_length];refine .ex<|.eb<|.sm Z<|.az Z<|?_
 exact y9 Z Z λW s=>⟨by rw [ex_count,Nat.add_comm],s.ext⟩
theorem size_any (f:Fm):∀ (H:Hp) (cs:List Value) (w:World),Rep H (dFm .i64 f) cs->f.count<=1000000->Agr H w ->
 Calls prg 23 #[.agg cs.toArray] w λr w'=>r=.returned (iN f.count)/\Ext w w':=by
 induction f using Fm.ind with | _ op nm fd a b ex args ih
 intro H cs w h hc hA;rw [fm_count] at hc;obtain ⟨p1,c1,p2,c2,rfl,hs1,hs2,hnm,hfd⟩:=fm_open h;have hcap1:=hs1.cap;have hcap2:=hs2.cap;refine Sx.enter (H:=H) func23 rfl ntmps23 rfl hA ?_;refine .sr<|.bx Z Z Z λb1=>.a Z Z<|.ns<|.aq Z<|.sq<|.sr<|.fA Z Fx.field27_5<|.lD Z Fx.agg24 Hm Z<|.yw (.lenSl Fx.sl24 Z)<|.mv Z<|.nt<|.bk<|.lp (X:=Nat) [(1,_),(9,_),(10,_)] ⟨Z,Z,Z,Jt⟩ [_] (λk=>[(3,iN (1+Ex.counts (ex.take k))),(11,iN k)]) (λk=>H) (λk=>[]) (λk=>k<=ex.length) (λk=>ex.length - k) 0 (λ_ s=>s) ⟨Z,Z,Jt⟩ (Al_Nat_zero_le _) λk hC=>?_
 have hk0:=hC;refine .sr<|.yw (.lss Z Z)<|.nt<|.sq<|.ce Z (λh12=>?_) (λh12=>?_)
 ·have hk:k<ex.length:=by omega
  obtain ⟨bE,oE,cE,hpE,rE,lE,mE⟩:=hs1.elem (map_at (f:=dEx .i64) hk);cases hpE;have h1:=counts_at hk;have h2:=counts_le ex (k+1);exact .sk<|.tN<|.sq<|.bk<|.sr<|.yw (.indexSl Fx.sl24 Z Z Z (by omega) (q:=oE+k * 4) Z)<|.yw (.loadMW Z Fx.agg83 mE lE)<|.al Fx.zero83 Z λb5=>.sV .head Z Z Fx.size83 lE rE.one Z<|.nt<|.rg<|.mv Z<|.yw (.loadW Z Fx.agg83 Hm lE)<|.yw (.call Fx.call50 Z (λW s=>nodes_any _ H cE W rE (by omega) s.agr))<|.yw (.add Z Z (c:=((1+Ex.counts (ex.take (k+1)):Nat):Int)) ((w6 (by omega)).trans (by omega)))<|.a Z Z<|.nl<|.bN<|.tN<|.rg<|.yw (.add Z Z w7)<|.mv Z<|.nt<|.ag (k+1) ⟨Z,Z,Jt⟩ ⟨Z,Z,Z,Jt⟩ (λ_ s=>s.pick [1] [_] Z Z) (by omega) (by omega)
 obtain rfl:k=ex.length:=by omega
 rw [Al_List_take_length];refine .ex<|.eb<|.sq<|.sr<|.fA Z Fx.field27_6<|.lD Z Fx.agg25 Hm Z<|.yw (.lenSl Fx.sl25 Z)<|.mv Z<|.nt<|.bk<|.lp (X:=Nat) [(21,_),(22,_)] ⟨Z,Z,Jt⟩ [_] (λk=>[(3,iN (1+Ex.counts ex+Fm.counts (args.take k))),(23,iN k)]) (λk=>H) (λk=>[]) (λk=>k<=args.length) (λk=>args.length - k) 0 (λ_ s=>s) ⟨Z,Z,Jt⟩ (Al_Nat_zero_le _) λk hC=>?_
 have hk0:=hC;refine .sr<|.yw (.lss Z Z)<|.nt<|.sq<|.ce Z (λh24=>?_) (λh24=>?_)
 ·have hk:k<args.length:=by omega
  obtain ⟨bF,oF,cF,hpF,rF,lF,mF⟩:=hs2.elem (map_at (f:=dFm .i64) hk);cases hpF;have h1:=countsF_at hk;have h2:=countsF_le args (k+1);exact .sk<|.tN<|.sq<|.bk<|.sr<|.yw (.indexSl Fx.sl25 Z Z Z (by omega) (q:=oF+k * 7) Z)<|.yw (.loadMW Z Fx.agg27 mF lF)<|.al Fx.zero27 Z λb7=>.sV .head Z Z Fx.size27 lF rF.one Z<|.nt<|.rg<|.mv Z<|.yw (.loadW Z Fx.agg27 Hm lF)<|.yw (.call Fx.call23 Z (λW s=>ih _ (Al_List_getElem_mem hk) H cF W rF (by omega) s.agr))<|.yw (.add Z Z (c:=((1+Ex.counts ex+Fm.counts (args.take (k+1)):Nat):Int)) ((w6 (by omega)).trans (by omega)))<|.a Z Z<|.nl<|.bN<|.tN<|.rg<|.yw (.add Z Z w7)<|.mv Z<|.nt<|.ag (k+1) ⟨Z,Z,Jt⟩ ⟨Z,Z,Jt⟩ (λ_ s=>s.pick [1] [_] Z Z) (by omega) (by omega)
 obtain rfl:k=args.length:=by omega
 rw [Al_List_take_length];refine .ex<|.eb<|.sm Z<|.az Z<|?_
 exact y9 Z Z λW s=>⟨by rw [fm_count,show Ex.counts ex+Fm.counts args+1=1+Ex.counts ex+Fm.counts args by omega],s.ext⟩
theorem takeS_snoc {l:Str} (h:k<l.length):l.take (k+1)=l.take k++[l[k]]:=by rw [List.take_succ,List.getElem?_eq_getElem h];rfl
theorem spl_no:∀ {l:Str},l.all (λc=>decide (¬ c=46))=true->splitF l=none
 | [],_=>rfl
 | c::r,h=>by
  rw [Al_List_all_cons,Al_Bool_and_eq_true,Al_decide_eq_true_eq] at h;rw [splitF,Al_if_neg h.1,spl_no h.2];rfl
theorem spl_at:∀ {l:Str} {k:Nat} (hk:k<l.length),l[k]=46->(l.take k).all (λc=>decide (¬ c=46))=true->splitF l=some (l.take k,l.drop (k+1))
 | c::r,0,_,h,_=>by
  have h':c=46:=h;rw [splitF,Al_if_pos h'];rfl
 | c::r,k+1,hk,h,ha=>by
  rw [List.take_succ_cons,Al_List_all_cons,Al_Bool_and_eq_true,Al_decide_eq_true_eq] at ha;rw [splitF,Al_if_neg ha.1,spl_at (l:=r) (k:=k) (Nat.lt_of_succ_lt_succ hk) h ha.2];rfl
theorem spV_at {n:Str} (hk:k<n.length) (h:n[k]=46) (ha:(n.take k).all (λc=>decide (¬ c=46))=true):spV n=.tuple #[strV (n.take k),strV (n.drop (k+1)),.bool true]:=by
 unfold spV spA spB;rw [spl_at hk h ha];rfl
theorem spV_no {n:Str} (ha:n.all (λc=>decide (¬ c=46))=true):spV n=.tuple #[strV [],strV [],.bool false]:=by
 unfold spV spA spB;rw [spl_no ha];rfl
theorem rsplit_any (H:Hp) (n:Str) (hn:n.length<=9223372036854775807) (w:World) (hA:Agr H w):Calls prg 21 #[strV n] w λe w'=>e=.returned (spV n)/\Ext w w':=by
 refine Sx.enter (H:=H) func21 rfl ntmps21 rfl hA ?_;refine .sr<|.a Z Z<|.a Z Z<|.aq Z<|.sq<|.sr<|.aq Z<|.bk<|.lp (X:=Nat) [(0,_)] ⟨Z,Jt⟩ [] (λk=>[(5,iN k)]) (λk=>H) (λk=>[]) (λk=>k<=n.length/\(n.take k).all (λc=>decide (¬ c=46))=true) (λk=>n.length - k) 0 (λ_ s=>s) ⟨Z,Jt⟩ ⟨Al_Nat_zero_le _,Z⟩ λk hC=>?_
 obtain ⟨hk0,hal⟩:=hC;refine .sq<|.sm Z<|.mv Z<|.yw (.lenS Fx.str9 Z)<|.yw (.lss Z Z)<|.nt<|.ce Z (λh9=>?_) (λh9=>?_)
 ·have hk:k<n.length:=by omega
  refine .sk<|.tN<|.sq<|.bk<|.sm Z<|.mv Z<|.yw (.idxS Fx.str9 Z Z (by omega) (List.getElem?_eq_getElem hk))<|.yw (.eql Z Z)<|.nt<|.cd Z (λh15=>?_) (λh15=>?_)
  ·have he:n[k]=46:=Al_UInt8_toNat_inj.1 (by have:=Al_of_decide_eq_true h15;show n[k].toNat=46;omega);refine .sq<|.fL 9 [(0,0),(1,0),(2,0),(3,0),(4,0),(5,0),(6,0),(7,0),(8,0)]<|.mv Z<|.mv Z<|.yw (.takeS Fx.str9 Z Z (hi:=k) Z (by omega))<|.mv Z<|.mv Z<|.yw (.add Z Z w7)<|.yw (.dropS Fx.str9 Z Z (lo:=k+1) Z (by omega))<|.a Z Z<|.a Z Z<|.fn (tl:=[_]) Z<|.az Z<|.bR<|.tR<|.tR<|.bR<|.tR<|?_
   refine y7 Z (.cons (.tmp Z) (.cons (.tmp Z) (.cons (.tmp Z) .nil))) rfl λW s=>⟨?_,s.ext⟩
   first
    | (rw [spV_at hk he hal];rfl)
    | (rw [spV_no hal];rfl)
  have hne:¬ n[k]=46:=λe=>Al_of_decide_eq_false h15 (by rw [e];rfl);exact .sk<|.bN<|.tN<|.rg<|.mv Z<|.yw (.add Z Z w7)<|.aq Z<|.ag (k+1) ⟨Z,Jt⟩ ⟨Z,Jt⟩ (λ_ s=>s) ⟨by omega,by rw [takeS_snoc hk,List.all_append,hal,Al_List_all_cons,Al_decide_eq_true hne];rfl⟩ (by omega)
 obtain rfl:k=n.length:=by omega
 rw [Al_List_take_length] at hal;refine .ex<|.eb<|.sr<|.a Z Z<|.a Z Z<|.az Z<|?_
 refine y7 Z (.cons (.tmp Z) (.cons (.tmp Z) (.cons (.tmp Z) .nil))) rfl λW s=>⟨?_,s.ext⟩
 first
  | (rw [spV_at hk he hal];rfl)
  | (rw [spV_no hal];rfl)
variable {xo:List Value} {AR:List Res}
theorem Ops.inv {o:Ov} {r:List Ov} (h:Ops H (o::r) xo AR) (hk:o.kd≠5):∃ xr s1 s2,xo=xr++oC o s1 s2/\Ops H r xr AR/\FmR H o.f s1 s2:=by
 cases h with
 | cons h k f=>exact ⟨_,_,_,Z,h,f⟩
 | arg h k a b c z s=>exact absurd k hk
theorem VR.inv {v:Vl} {vs:List Vl} (h:VR H (v::vs) xv):∃ xr s0 s1 s2,xv=xr++vC v s0 s1 s2/\VR H vs xr/\VlR H v s0 s1 s2:=by
 cases h with
 | cons h k=>exact ⟨_,_,_,_,Z,h,k⟩
theorem cnt_le (r:List Ov):cntB r<=r.length:=List.length_filter_le ..
theorem wf_comb {l:Tks} {c:Rq} {o:Ov} {r:List Ov} {x:Vb} {dn:Bool} (h:Fwf l ⟨c,o::r,x,true,dn⟩) (h0:0<o.lv):Fwf l ⟨c,r,comb o x,true,dn⟩:=by
 obtain ⟨r1,e,hr⟩:=h.op;cases r1 with
 | nil =>
  injection e with e1 e2
  subst e1;exact absurd h0 (by decide)
 | cons o1 r1 =>
  injection e with e1 e2
  subst e1;have ho:=hr _ (Al_List_mem_cons_self ..);have hv:=h.vs
  have hv':x.1.length=(if cnO o then 1 else 0)+cntB r+1:=by
   have:x.1.length=cntB (o::r)+1:=hv;rw [cnt_cons] at this;exact this
  have hl:=comb_len ho h0 (x:=x) (by rw [hv'];split <;> omega);refine ⟨h.i,⟨r1,e2,λz hz=>hr z (Al_List_mem_cons_of_mem _ hz)⟩,?_,?_⟩
  ·show (comb o x).1.length=cntB r+1;rw [hl,hv'];split <;> omega
  ·have:=h.so;show r.length<=c.i+1;have e3:(o::r).length<=c.i+1:=this;rw [Al_List_length_cons] at e3;omega
theorem wf_len {l:Tks} {q:Ps} (h:Fwf l q) (hn:l.length<=600000):q.op.length<=600000/\q.x.1.length<=600001:=by
 have h1:=h.so;have h2:=h.i;have h3:=h.vs;have h4:=cnt_le q.op;refine ⟨by omega,?_⟩;rw [h3]
 split <;> omega
theorem comb_10 {o:Ov} {v:Vl} {V:List Vl} {b:Bool} (h:o.kd=10):comb o (v::V,b)=(tmv (.mk 9 [] 0 [v.e])::V,b || !v.tm):=by unfold comb;rw [Al_if_pos h];rfl
theorem comb_9 {o:Ov} {v u:Vl} {V:List Vl} {b:Bool} (h:o.kd=9):comb o (v::u::V,b)=(tmv (.mk o.op [] 0 [u.e,v.e])::V,b || !v.tm || !u.tm):=by
 unfold comb;rw [Al_if_neg (by rw [h];decide),Al_if_pos h];rfl
theorem comb_8 {o:Ov} {v u:Vl} {V:List Vl} {b:Bool} (h:o.kd=8):comb o (v::u::V,b)=(fmv (.mk 3 [] [] 0 0 [.mk o.op [] 0 [u.e,v.e]] [])::V,b || !v.tm || !u.tm):=by
 unfold comb;rw [Al_if_neg (by rw [h];decide),Al_if_neg (by rw [h];decide),Al_if_pos h];rfl
theorem comb_7 {o:Ov} {v:Vl} {V:List Vl} {b:Bool} (h:o.kd=7):comb o (v::V,b)=(fmv (o.f.wAr [v.fm])::V,b || v.noF):=by
 unfold comb;rw [Al_if_neg (by rw [h];decide),Al_if_neg (by rw [h];decide),Al_if_neg (by rw [h];decide),Al_if_pos h];rfl
theorem comb_6 {o:Ov} {v u:Vl} {V:List Vl} {b:Bool} (h:o.kd=6):comb o (v::u::V,b)=(fmv (o.f.wAr [u.fm,v.fm])::V,b || v.noF || u.noF):=by
 unfold comb;rw [Al_if_neg (by rw [h];decide),Al_if_neg (by rw [h];decide),Al_if_neg (by rw [h];decide),Al_if_neg (by rw [h];decide),Al_if_pos h];rfl
theorem list1 {α:Type} {l:List α} (h:1<=l.length):∃ a r,l=a::r:=by cases l with | nil=>cases h | cons a r=>exact ⟨a,r,rfl⟩
theorem list2 {α:Type} {l:List α} (h:2<=l.length):∃ a b r,l=a::b::r:=by
 match l,h with
 | a::b::r,_=>exact ⟨a,b,r,Z⟩
variable {s1 s2:Value}
theorem fm_lay {v:Vl} {s0:Value} (h:VlR H v s0 s1 s2):∃ t1 t2,fmC v.tm v.e.nm (cFm .u8 v.f.op v.f.nm v.f.fd v.f.a v.f.b s1 s2)=cFm .u8 v.fm.op v.fm.nm v.fm.fd v.fm.a v.fm.b t1 t2/\FmR H v.fm t1 t2:=by
 unfold fmC Vl.fm;cases v.tm with
 | true =>
  refine ⟨.slice none 0 0,.slice none 0 0,Z,FmR.zero rfl rfl ?_ ?_⟩
  ·show (spA v.e.nm).length<=1000000;have:=h.e.nm;unfold spA;rcases split_ix v.e.nm with ⟨i,_,hi,e⟩ | ⟨_,e⟩
   ·rw [e];show (v.e.nm.take i).length<=_;rw [Al_List_length_take];omega
   ·rw [e];exact Al_Nat_zero_le _
  ·show (spB v.e.nm).length<=1000000;have:=h.e.nm;unfold spB;rcases split_ix v.e.nm with ⟨i,_,hi,e⟩ | ⟨_,e⟩
   ·rw [e];show (v.e.nm.drop (i+1)).length<=_;rw [Al_List_length_drop];omega
   ·rw [e];exact Al_Nat_zero_le _
 | false=>exact ⟨s1,s2,Z,h.f⟩
theorem Ops.inv2 {o:Ov} {r:List Ov} (h:Ops H (o::r) (xr++oC o s1 s2) AR) (hk:o.kd≠5):Ops H r xr AR/\FmR H o.f s1 s2:=by
 obtain ⟨xr',t1,t2,e,h1,h2⟩:=h.inv hk;obtain ⟨e1,e2⟩:=List.append_inj' e rfl;subst e1;simp only [Al_List_cons_injEq,Al_and_true,true_and] at e2;obtain ⟨rfl,rfl⟩:=e2;exact ⟨h1,h2⟩
theorem reduce_f {l:Tks} {op:List Ov} {x:Vb} {dn:Bool} (K:Tkf H l tp tc) (Wq:Fwf l ⟨q,op,x,true,dn⟩) (S:Sq H ⟨q,op,x,true,dn⟩ xo xv AR) (lv:Nat) (hlv:1<=lv/\lv<=9) (s:St H w0 (.box b [.slice tp l.length tc,iN q.i,ro,rv,.bool true,.bool dn,.bool x.2,iN q.off,iN q.er] 102::.row 97 11 (ro) (op.length) (xo)::.row 179 13 (rv) (x.1.length) (xv)::(AR++bs)) W) :
 Calls prg 102 #[.pointer (some ⟨b,0,none⟩),iN lv] W (Get w0 bs b l tp tc H (redP lv ⟨q,op,x,true,dn⟩)):=by
 have hq:q.i<l.length:=Wq.i;have hcap:=K.rep.cap;refine enterS func102 rfl ntmps102 rfl s ?_;refine .bk<|.lp (X:=(Hp × Value × Value × List Value × List Value) × List Ov × Vb) [(0,_),(1,_)] ⟨Z,Z,Jt⟩ ((AR++bs)) (λz=>[]) (λz=>z.1.1) (λz=>[.box b [.slice tp l.length tc,iN q.i,z.1.2.1,z.1.2.2.1,.bool true,.bool dn,.bool z.2.2.2,iN q.off,iN q.er] 102,.row 97 11 (z.1.2.1) (z.2.1.length) (z.1.2.2.2.1),.row 179 13 (z.1.2.2.1) (z.2.2.1.length) (z.1.2.2.2.2)]) (λz=>HUp w0 H z.1.1/\Sq z.1.1 ⟨q,z.2.1,z.2.2,true,dn⟩ z.1.2.2.2.1 z.1.2.2.2.2 AR/\Fwf l ⟨q,z.2.1,z.2.2,true,dn⟩/\redL lv z.2.1 z.2.2=redL lv op x) (λz=>z.2.1.length) ((H,ro,rv,xo,xv),op,x) (λ_ s=>s) trivial ⟨.refl,S,Wq,Z⟩ λz hC=>?_
 obtain ⟨⟨H1,ro1,rv1,xo1,xv1⟩,op1,x1⟩:=z;obtain ⟨u1,S1,W1,e1⟩:=hC;dsimp only at u1 S1 W1 e1|-;have K1:=K.up u1.up;obtain ⟨o,r,rfl⟩:=list1 (l:=op1) (by have:=W1.ne;cases op1 with | nil=>exact absurd rfl this | cons a t=>exact Nat.succ_pos _);obtain ⟨hn1,hn2⟩:=wf_len W1 K.few;try dsimp only [List.length_cons] at hn1 hn2
 obtain ⟨xr,s1,s2,e2,hlo,ho1,ho2⟩:=Ops.top S1.ops;try dsimp only at e2
 subst e2;refine Sx.rowCase (size:=11) (r:=ro1) (e:=97) mem1 (Nat.succ_pos _) λg c e hkc=>?_;try dsimp only [List.length_cons] at hkc
 subst e;refine .sq<|.sm Z<|.cs (X:=Unit) Fx.call105 Z (λW s=>top_f K1 hq (g:=g) (k:=r.length) (c:=c) (by omega) (s.pickT (hd:=[_,_,_]) (tl:=(AR++bs)) (hd':=[_,_,_]) [0,1,2] Z Z)) Z λ_ _=>.nC Z<|.fA Z Fx.field97_1<|.yw (.loadR1 Z Fx.agg3 mem1 (app_at hlo Z))<|.mv Z<|.yw (.geq Z Z)<|.nt<|.ce Z (λh17=>?_) (λh17=>?_)
 ·have hle:lv<=o.lv:=by omega
  have h0:0<o.lv:=by omega
  refine .sk<|.tN<|.bk<|.sm Z<|.cs (X:=Unit) Fx.call105 Z (λW s=>top_f K1 hq (g:=g) (k:=r.length) (c:=c) (by omega) (s.pickT (hd:=[_,_,_]) (tl:=(AR++bs)) (hd':=[_,_,_]) [0,1,2] Z Z)) Z λ_ _=>.nC Z<|.yw (.loadR (vs:=oC o s1 s2) Z Fx.agg97 mem1 Z (λj u h=>app_at hlo h))<|.al Fx.zero97 Z λb4=>.sW .head Z Z Fx.size97 (oC_one ho1 ho2) Z<|.nt<|.sq<|.fL 12 [(0,0),(1,0),(2,0),(3,0),(4,0),(5,0),(6,0),(7,0),(8,0),(9,0),(10,0),(11,0)]<|.mv Z<|.mv Z<|.nC Z<|.fA Z Fx.field102_2<|.lD Z Fx.agg98 mem1 Z<|.mv Z<|.nC Z<|.fA Z Fx.field102_2<|.lD Z Fx.agg98 mem1 Z<|.yw (.lenSl Fx.sl98 Z)<|.yw (.sub Z Z (c:=((r.length:Nat):Int)) ((w6 (by omega)).trans (by omega)))<|.yw (.cutHi Fx.sl98 Z Z Z (by omega) (λq e=>by cases e;rfl))<|.fn (tl:=[_,_,_]) Z<|.nC Z<|.fA Z Fx.field102_2<|.st upd1 Z Z Fx.size98 Z (nb Z) Z<|?_
  refine Sx.At.rcut (size:=11) (m:=r.length) (ys:=xr) upd2 (Nat.le_succ _) (by rw [<-hlo,Al_List_take_left]) ?_;refine .ns<|.fA Z Fx.field97_0<|.lD Z Fx.agg95 Hm Z<|.nt<|.bk<|.sr<|.yw (.eql Z Z)<|.aq Z<|.ce Z (λh38=>?_) (λh38=>?_)
  ·have hk:o.kd=10:=Al_UInt8_toNat_inj.1 (by show o.kd.toNat=10;omega);have hk5:o.kd≠5:=by rw [hk];decide
   have hv1:1<=x1.1.length:=by have:=W1.vs;dsimp only at this;rw [this];exact Nat.le_add_left _ _
   obtain ⟨vs,bd⟩:=x1;try dsimp only at hv1 hn2
   obtain ⟨v,V,rfl⟩:=list1 hv1;obtain ⟨yr,t0,t1,t2,e4,VS1,V1⟩:=VR.inv S1.vls;try dsimp only at e4
   subst e4;have l1:=VS1.len;try dsimp only [List.length_cons] at hn2
   refine .sm Z<|.cs (X:=Nat × Nat) Fx.call155 Z (λW s=>term_f K1 hq V1.one (by omega) l1 (s.pickT (hd:=[_,_,_,_]) (tl:=(AR++bs)) (hd':=[_,_,_,_]) [1,3,0,2] Z Z)) Z λp1 _=>.al Fx.zero76 Z λb5=>.sW .head Z Z Fx.size76 (by intro u hu;exact Rep.one V1.e.rep u hu) Z<|.nt<|.rg<|.mv Z<|.yw (.loadW Z Fx.agg76 Hm Z)<|.bl Z (Fx.bsl32_1 _ _ _ _) Z λb44=>?_
   refine Sx.freezeBoxN λH2 u2 m2=>?_;refine .yw (.build Z (Fx.bld76_0_3 _ _ _ _))<|.yw (.build Z (Fx.bld179_0_2 _ _ _ _ _))<|?_
   have VN:VlR H2 (tmv (.mk 9 [] 0 [v.e])) (.slice (some ⟨b44,0,none⟩) 1 1) (.slice none 0 0) (.slice none 0 0):=⟨⟨(Rep.mk m2 (.single (V1.e.up u2.up).rep rfl) rfl (Al_Nat_le_refl _) (by decide)),Al_Nat_zero_le _⟩,FmR.zero rfl rfl (Al_Nat_zero_le _) (Al_Nat_zero_le _)⟩;exact .cs (X:=Option Addr × Nat) Fx.call108 Z (λW s=>give_f (K1.up u2.up) hq VN.one (by omega) (s.pickT (hd:=[_,_,_,_,_]) (tl:=(AR++bs)) (hd':=[_,_,_,_,_]) [1,2,0,3,4] Z Z)) Z λp9 _=>.nl<|.bN<|.bN<|.tN<|.ag (x:=((H1,Value.slice (some ⟨g,0,none⟩) (o::r).length c,rv1,xr++oC o s1 s2,yr++vC v t0 t1 t2),o::r,(v::V,bd))) (((H2,Value.slice (some ⟨g,0,none⟩) r.length c,Value.slice p9.1 (V.length+1) p9.2,xr,yr++vC (tmv (.mk 9 [] 0 [v.e])) (.slice (some ⟨b44,0,none⟩) 1 1) (.slice none 0 0) (.slice none 0 0)),r,(tmv (.mk 9 [] 0 [v.e])::V,bd || !v.tm))) trivial ⟨rfl,rfl,trivial⟩ (λ_ s=>(s.pickT (hd:=[_,_,_,_,_]) (tl:=(AR++bs)) (hd':=[_,_,_]) [0,4,1] Z Z)) ⟨u1.trans u2,⟨(Ops.inv2 S1.ops hk5).1.up u2.up,.cons (VS1.up u2.up) VN⟩,(by rw [<-comb_10 hk];exact wf_comb W1 h0),(by rw [<-comb_10 hk,<-e1,redL,Al_if_pos hle])⟩ (Al_Nat_lt_succ_self _)
  have hk10:¬ o.kd=10:=λe=>by rw [e] at h38;exact h38 rfl
  refine .sq<|.sr<|.yw (.eql Z Z)<|.aq Z<|.cr Z (λh48=>?_) (λh48=>?_)
  ·try simp only [dt] at h48
   have hk:o.kd=9:=Al_UInt8_toNat_inj.1 (by show o.kd.toNat=9;omega);have hk5:o.kd≠5:=by rw [hk];decide
   have hv1:2<=x1.1.length:=by have:=W1.vs;dsimp only at this;rw [this,cnt_cons,show cnO o=true by unfold cnO;rw [hk];decide];simp only [Al_if_true];omega
   obtain ⟨vs,bd⟩:=x1;try dsimp only at hv1 hn2
   obtain ⟨v,u,V,rfl⟩:=list2 hv1;obtain ⟨yr,t0,t1,t2,e4,VS1,V1⟩:=VR.inv S1.vls;try dsimp only at e4
   subst e4;have l1:=VS1.len;obtain ⟨yr2,w0_,w1,w2,e5,VS2,V2⟩:=VR.inv VS1;subst e5;have l2:=VS2.len;try dsimp only [List.length_cons] at hn2 l1
   refine .sk<|.tN<|.cT Z<|.sm Z<|.cs (X:=Nat × Nat) Fx.call155 Z (λW s=>term_f K1 hq V1.one (by omega) l1 (s.pickT (hd:=[_,_,_,_]) (tl:=(AR++bs)) (hd':=[_,_,_,_]) [1,3,0,2] Z Z)) Z λp1 _=>.mv Z<|.cs (X:=Nat × Nat) Fx.call155 Z (λW s=>term_f K1 hq V2.one (by omega) l2 (s.pickT (hd:=[_,_,_,_]) (tl:=(AR++bs)) (hd':=[_,_,_,_]) [0,1,2,3] Z Z)) Z λp2 _=>.al Fx.zero76 Z λb6=>.al Fx.zero76 Z λb7=>.sW upd1 Z Z Fx.size76 (by intro a ha;exact Rep.one V1.e.rep a ha) Z<|.sW .head Z Z Fx.size76 (by intro a ha;exact Rep.one V2.e.rep a ha) Z<|.ns<|.fA Z Fx.field97_3<|.lD Z Fx.agg74 mem4 Z<|.yw (.loadW Z Fx.agg76 Hm Z)<|.yw (.loadW Z Fx.agg76 mem1 Z)<|.bl Z (Fx.bsl32_2 _ _ _ _ _ _ _ _) Z λb59=>?_
   refine Sx.freezeBoxN λH2 u2 m2=>?_;refine .yw (.build Z (Fx.bld76_0_3 _ _ _ _))<|.al Fx.zero76 Z λb8=>.sX .head Z Z Fx.size76 Z<|.ns<|.fA Z Fx.field97_0<|.lD Z Fx.agg95 mem5 Z<|.yw (.eql Z Z)<|.nt<|.cd Z (λh63=>?_) (λh63=>?_)
   ·try simp only [dt] at h63
    refine .rg<|.mv Z<|.yw (.loadW Z Fx.agg76 Hm Z)<|.yw (.build Z (Fx.bld179_0_2 _ _ _ _ _))<|?_
    have VN:VlR H2 (tmv (.mk o.op [] 0 [u.e,v.e])) (.slice (some ⟨b59,0,none⟩) 2 2) (.slice none 0 0) (.slice none 0 0):=⟨⟨(Rep.mk m2 (.app (.single (V2.e.up u2.up).rep rfl) (.single (V1.e.up u2.up).rep rfl)) rfl (Al_Nat_le_refl _) (by decide)),Al_Nat_zero_le _⟩,FmR.zero rfl rfl (Al_Nat_zero_le _) (Al_Nat_zero_le _)⟩;exact .cs (X:=Option Addr × Nat) Fx.call108 Z (λW s=>give_f (K1.up u2.up) hq VN.one (by omega) (s.pickT (hd:=[_,_,_,_,_,_,_]) (tl:=(AR++bs)) (hd':=[_,_,_,_,_,_,_]) [3,4,0,1,2,5,6] Z Z)) Z λp9 _=>.nl<|.bN<|.bN<|.tN<|.ag (x:=((H1,Value.slice (some ⟨g,0,none⟩) (o::r).length c,rv1,xr++oC o s1 s2,(yr2++vC u w0_ w1 w2)++vC v t0 t1 t2),o::r,(v::u::V,bd))) (((H2,Value.slice (some ⟨g,0,none⟩) r.length c,Value.slice p9.1 (V.length+1) p9.2,xr,yr2++vC (tmv (.mk o.op [] 0 [u.e,v.e])) (.slice (some ⟨b59,0,none⟩) 2 2) (.slice none 0 0) (.slice none 0 0)),r,(tmv (.mk o.op [] 0 [u.e,v.e])::V,bd || !v.tm || !u.tm))) trivial ⟨rfl,rfl,trivial⟩ (λ_ s=>(s.pickT (hd:=[_,_,_,_,_,_,_]) (tl:=(AR++bs)) (hd':=[_,_,_]) [0,6,1] Z Z)) ⟨u1.trans u2,⟨(Ops.inv2 S1.ops hk5).1.up u2.up,.cons (VS2.up u2.up) VN⟩,(by rw [<-comb_9 hk];exact wf_comb W1 h0),(by rw [<-comb_9 hk,<-e1,redL,Al_if_pos hle])⟩ (Al_Nat_lt_succ_self _)
   exact absurd (by rw [hk];rfl) (Al_of_decide_eq_false h63)
  try simp only [df] at h48
  have hk9:¬ o.kd=9:=λe=>by rw [e] at h48;exact h48 rfl
  refine .rg<|.yw (.eql Z Z)<|.aq Z<|.cr Z (λh48=>?_) (λh48=>?_)
  ·try simp only [dt] at h48
   have hk:o.kd=8:=Al_UInt8_toNat_inj.1 (by show o.kd.toNat=8;omega);have hk5:o.kd≠5:=by rw [hk];decide
   have hv1:2<=x1.1.length:=by have:=W1.vs;dsimp only at this;rw [this,cnt_cons,show cnO o=true by unfold cnO;rw [hk];decide];simp only [Al_if_true];omega
   obtain ⟨vs,bd⟩:=x1;try dsimp only at hv1 hn2
   obtain ⟨v,u,V,rfl⟩:=list2 hv1;obtain ⟨yr,t0,t1,t2,e4,VS1,V1⟩:=VR.inv S1.vls;try dsimp only at e4
   subst e4;have l1:=VS1.len;obtain ⟨yr2,w0_,w1,w2,e5,VS2,V2⟩:=VR.inv VS1;subst e5;have l2:=VS2.len;try dsimp only [List.length_cons] at hn2 l1
   refine .sm Z<|.cs (X:=Nat × Nat) Fx.call155 Z (λW s=>term_f K1 hq V1.one (by omega) l1 (s.pickT (hd:=[_,_,_,_]) (tl:=(AR++bs)) (hd':=[_,_,_,_]) [1,3,0,2] Z Z)) Z λp1 _=>.mv Z<|.cs (X:=Nat × Nat) Fx.call155 Z (λW s=>term_f K1 hq V2.one (by omega) l2 (s.pickT (hd:=[_,_,_,_]) (tl:=(AR++bs)) (hd':=[_,_,_,_]) [0,1,2,3] Z Z)) Z λp2 _=>.al Fx.zero76 Z λb6=>.al Fx.zero76 Z λb7=>.sW upd1 Z Z Fx.size76 (by intro a ha;exact Rep.one V1.e.rep a ha) Z<|.sW .head Z Z Fx.size76 (by intro a ha;exact Rep.one V2.e.rep a ha) Z<|.ns<|.fA Z Fx.field97_3<|.lD Z Fx.agg74 mem4 Z<|.yw (.loadW Z Fx.agg76 Hm Z)<|.yw (.loadW Z Fx.agg76 mem1 Z)<|.bl Z (Fx.bsl32_2 _ _ _ _ _ _ _ _) Z λb59=>?_
   refine Sx.freezeBoxN λH2 u2 m2=>?_;refine .yw (.build Z (Fx.bld76_0_3 _ _ _ _))<|.al Fx.zero76 Z λb8=>.sX .head Z Z Fx.size76 Z<|.ns<|.fA Z Fx.field97_0<|.lD Z Fx.agg95 mem5 Z<|.yw (.eql Z Z)<|.nt<|.cd Z (λh63=>?_) (λh63=>?_)
   ·exact absurd (Al_of_decide_eq_true h63) (by rw [hk];decide)
   try simp only [df] at h63
   refine .rg<|.mv Z<|.yw (.loadW Z Fx.agg76 Hm Z)<|.bl Z (Fx.bsl32_1 _ _ _ _) Z λb70=>?_
   refine Sx.freezeBoxN λH3 u3 m3=>?_;refine .yw (.build Z (Fx.bld35_0_5 _ _ _ _))<|.yw (.build Z (Fx.bld179_3 _ _ _ _ _ _ _))<|?_
   have RX:ExR H2 (.mk o.op [] 0 [u.e,v.e]) (.slice (some ⟨b59,0,none⟩) 2 2):=⟨(Rep.mk m2 (.app (.single (V2.e.up u2.up).rep rfl) (.single (V1.e.up u2.up).rep rfl)) rfl (Al_Nat_le_refl _) (by decide)),Al_Nat_zero_le _⟩;have VN:VlR H3 (fmv (.mk 3 [] [] 0 0 [.mk o.op [] 0 [u.e,v.e]] [])) (.slice none 0 0) (.slice (some ⟨b70,0,none⟩) 1 1) (.slice none 0 0):=⟨ExR.zero rfl (Al_Nat_zero_le _),⟨(Rep.mk m3 (.single (RX.up u3.up).rep rfl) rfl (Al_Nat_le_refl _) (by decide)),Rep.nil4,Al_Nat_zero_le _,Al_Nat_zero_le _⟩⟩;exact .cs (X:=Option Addr × Nat) Fx.call108 Z (λW s=>give_f ((K1.up u2.up).up u3.up) hq VN.one (by omega) (s.pickT (hd:=[_,_,_,_,_,_,_]) (tl:=(AR++bs)) (hd':=[_,_,_,_,_,_,_]) [3,4,0,1,2,5,6] Z Z)) Z λp9 _=>.nl<|.bN<|.bN<|.tN<|.ag (x:=((H1,Value.slice (some ⟨g,0,none⟩) (o::r).length c,rv1,xr++oC o s1 s2,(yr2++vC u w0_ w1 w2)++vC v t0 t1 t2),o::r,(v::u::V,bd))) (((H3,Value.slice (some ⟨g,0,none⟩) r.length c,Value.slice p9.1 (V.length+1) p9.2,xr,yr2++vC (fmv (.mk 3 [] [] 0 0 [.mk o.op [] 0 [u.e,v.e]] [])) (.slice none 0 0) (.slice (some ⟨b70,0,none⟩) 1 1) (.slice none 0 0)),r,(fmv (.mk 3 [] [] 0 0 [.mk o.op [] 0 [u.e,v.e]] [])::V,bd || !v.tm || !u.tm))) trivial ⟨rfl,rfl,trivial⟩ (λ_ s=>(s.pickT (hd:=[_,_,_,_,_,_,_]) (tl:=(AR++bs)) (hd':=[_,_,_]) [0,6,1] Z Z)) ⟨u1.trans (u2.trans u3),⟨(Ops.inv2 S1.ops hk5).1.up (u2.trans u3).up,.cons (VS2.up (u2.trans u3).up) VN⟩,(by rw [<-comb_8 hk];exact wf_comb W1 h0),(by rw [<-comb_8 hk,<-e1,redL,Al_if_pos hle])⟩ (Al_Nat_lt_succ_self _)
  try simp only [df] at h48
  have hk8:¬ o.kd=8:=λe=>by rw [e] at h48;exact h48 rfl
  refine .sr<|.yw (.eql Z Z)<|.aq Z<|.ce Z (λh74=>?_) (λh74=>?_)
  ·have hk:o.kd=7:=Al_UInt8_toNat_inj.1 (by show o.kd.toNat=7;omega);have hk5:o.kd≠5:=by rw [hk];decide
   have hv1:1<=x1.1.length:=by have:=W1.vs;dsimp only at this;rw [this];exact Nat.le_add_left _ _
   obtain ⟨vs,bd⟩:=x1;try dsimp only at hv1 hn2
   obtain ⟨v,V,rfl⟩:=list1 hv1;obtain ⟨yr,t0,t1,t2,e4,VS1,V1⟩:=VR.inv S1.vls;try dsimp only at e4
   subst e4;have l1:=VS1.len;try dsimp only [List.length_cons] at hn2
   refine .sm Z<|.cs (X:=Nat × Nat) Fx.call57 Z (λW s=>formula_f K1 hq V1.one V1.e.nm (by omega) l1 (s.pickT (hd:=[_,_,_,_]) (tl:=(AR++bs)) (hd':=[_,_,_,_]) [1,3,0,2] Z Z)) Z λp1 _=>?_
   obtain ⟨q1,q2,ef,FR⟩:=fm_lay V1;rw [ef];refine .bl Z (Fx.bsl33_1 _ _ _ _ _ _ _) Z λb78=>?_;refine Sx.freezeBoxN λH2 u2 m2=>?_;refine .fA Z Fx.field97_4<|.fA Z Fx.field35_6<|.st upd2 Z Z Fx.size33 Z (nb Z) Z<|.nt<|.rg<|.mv Z<|.fA Z Fx.field97_4<|.yw (.loadS (vs:=[_,_,_,_,_,_,_]) Z Fx.agg35 mem2 Z (subL Z))<|.yw (.build Z (Fx.bld179_3 _ _ _ _ _ _ _))<|?_
   have FO:=(Ops.inv2 S1.ops hk5).2;have VN:VlR H2 (fmv (o.f.wAr [v.fm])) (.slice none 0 0) s1 (.slice (some ⟨b78,0,none⟩) 1 1):=⟨ExR.zero rfl (Al_Nat_zero_le _),⟨FO.ex.up u2.up,(Rep.mk m2 (.single (FR.up u2.up).rep rfl) rfl (Al_Nat_le_refl _) (by decide)),FO.nm,FO.fd⟩⟩;exact .cs (X:=Option Addr × Nat) Fx.call108 Z (λW s=>give_f (K1.up u2.up) hq VN.one (by omega) (s.pickT (hd:=[_,_,_,_]) (tl:=(AR++bs)) (hd':=[_,_,_,_]) [0,1,2,3] Z Z)) Z λp9 _=>.nl<|.bN<|.bN<|.tN<|.ag (x:=((H1,Value.slice (some ⟨g,0,none⟩) (o::r).length c,rv1,xr++oC o s1 s2,yr++vC v t0 t1 t2),o::r,(v::V,bd))) (((H2,Value.slice (some ⟨g,0,none⟩) r.length c,Value.slice p9.1 (V.length+1) p9.2,xr,yr++vC (fmv (o.f.wAr [v.fm])) (.slice none 0 0) s1 (.slice (some ⟨b78,0,none⟩) 1 1)),r,(fmv (o.f.wAr [v.fm])::V,bd || v.noF))) trivial ⟨rfl,rfl,trivial⟩ (λ_ s=>(s.pickT (hd:=[_,_,_,_]) (tl:=(AR++bs)) (hd':=[_,_,_]) [0,3,1] Z Z)) ⟨u1.trans u2,⟨(Ops.inv2 S1.ops hk5).1.up u2.up,.cons (VS1.up u2.up) VN⟩,(by rw [<-comb_7 hk];exact wf_comb W1 h0),(by rw [<-comb_7 hk,<-e1,redL,Al_if_pos hle])⟩ (Al_Nat_lt_succ_self _)
  have hk7:¬ o.kd=7:=λe=>by rw [e] at h74;exact h74 rfl
  refine .sr<|.yw (.eql Z Z)<|.aq Z<|.cd Z (λh86=>?_) (λh86=>?_)
  ·try simp only [dt] at h86
   have hk:o.kd=6:=Al_UInt8_toNat_inj.1 (by show o.kd.toNat=6;omega);have hk5:o.kd≠5:=by rw [hk];decide
   have hv1:2<=x1.1.length:=by have:=W1.vs;dsimp only at this;rw [this,cnt_cons,show cnO o=true by unfold cnO;rw [hk];decide];simp only [Al_if_true];omega
   obtain ⟨vs,bd⟩:=x1;try dsimp only at hv1 hn2
   obtain ⟨v,u,V,rfl⟩:=list2 hv1;obtain ⟨yr,t0,t1,t2,e4,VS1,V1⟩:=VR.inv S1.vls;try dsimp only at e4
   subst e4;have l1:=VS1.len;obtain ⟨yr2,w0_,w1,w2,e5,VS2,V2⟩:=VR.inv VS1;subst e5;have l2:=VS2.len;try dsimp only [List.length_cons] at hn2 l1
   refine .sm Z<|.cs (X:=Nat × Nat) Fx.call57 Z (λW s=>formula_f K1 hq V1.one V1.e.nm (by omega) l1 (s.pickT (hd:=[_,_,_,_]) (tl:=(AR++bs)) (hd':=[_,_,_,_]) [1,3,0,2] Z Z)) Z λp1 _=>?_
   obtain ⟨q1,q2,ef,FR⟩:=fm_lay V1;rw [ef];refine .mv Z<|.cs (X:=Nat × Nat) Fx.call57 Z (λW s=>formula_f K1 hq V2.one V2.e.nm (by omega) l2 (s.pickT (hd:=[_,_,_,_]) (tl:=(AR++bs)) (hd':=[_,_,_,_]) [0,1,2,3] Z Z)) Z λp2 _=>?_
   obtain ⟨q3,q4,ef2,FR2⟩:=fm_lay V2;rw [ef2];refine .al Fx.zero35 Z λb9=>.al Fx.zero35 Z λb10=>.sW upd1 Z Z Fx.size35 (by intro a ha;exact Rep.one FR.rep a ha) Z<|.sW .head Z Z Fx.size35 (by intro a ha;exact Rep.one FR2.rep a ha) Z<|.ns<|.yw (.loadW Z Fx.agg35 Hm Z)<|.yw (.loadW Z Fx.agg35 mem1 Z)<|.bl Z (Fx.bsl33_2 _ _ _ _ _ _ _ _ _ _ _ _ _ _) Z λb94=>?_
   refine Sx.freezeBoxN λH2 u2 m2=>?_;refine .fA Z Fx.field97_4<|.fA Z Fx.field35_6<|.st upd4 Z Z Fx.size33 Z (nb Z) Z<|.nt<|.rg<|.mv Z<|.fA Z Fx.field97_4<|.yw (.loadS (vs:=[_,_,_,_,_,_,_]) Z Fx.agg35 mem4 Z (subL Z))<|.yw (.build Z (Fx.bld179_3 _ _ _ _ _ _ _))<|?_
   have FO:=(Ops.inv2 S1.ops hk5).2;have VN:VlR H2 (fmv (o.f.wAr [u.fm,v.fm])) (.slice none 0 0) s1 (.slice (some ⟨b94,0,none⟩) 2 2):=⟨ExR.zero rfl (Al_Nat_zero_le _),⟨FO.ex.up u2.up,(Rep.mk m2 (.app (.single (FR2.up u2.up).rep rfl) (.single (FR.up u2.up).rep rfl)) rfl (Al_Nat_le_refl _) (by decide)),FO.nm,FO.fd⟩⟩;exact .cs (X:=Option Addr × Nat) Fx.call108 Z (λW s=>give_f (K1.up u2.up) hq VN.one (by omega) (s.pickT (hd:=[_,_,_,_,_,_]) (tl:=(AR++bs)) (hd':=[_,_,_,_,_,_]) [2,3,0,1,4,5] Z Z)) Z λp9 _=>.nl<|.bN<|.bN<|.tN<|.ag (x:=((H1,Value.slice (some ⟨g,0,none⟩) (o::r).length c,rv1,xr++oC o s1 s2,(yr2++vC u w0_ w1 w2)++vC v t0 t1 t2),o::r,(v::u::V,bd))) (((H2,Value.slice (some ⟨g,0,none⟩) r.length c,Value.slice p9.1 (V.length+1) p9.2,xr,yr2++vC (fmv (o.f.wAr [u.fm,v.fm])) (.slice none 0 0) s1 (.slice (some ⟨b94,0,none⟩) 2 2)),r,(fmv (o.f.wAr [u.fm,v.fm])::V,bd || v.noF || u.noF))) trivial ⟨rfl,rfl,trivial⟩ (λ_ s=>(s.pickT (hd:=[_,_,_,_,_,_]) (tl:=(AR++bs)) (hd':=[_,_,_]) [0,5,1] Z Z)) ⟨u1.trans u2,⟨(Ops.inv2 S1.ops hk5).1.up u2.up,.cons (VS2.up u2.up) VN⟩,(by rw [<-comb_6 hk];exact wf_comb W1 h0),(by rw [<-comb_6 hk,<-e1,redL,Al_if_pos hle])⟩ (Al_Nat_lt_succ_self _)
  exact absurd ((okO_lv (by obtain ⟨r1,e7,hr1⟩:=W1.op;cases r1 with | nil=>(injection e7 with e7 _;subst e7;exact absurd h0 (by decide)) | cons a r1=>(injection e7 with e7 _;subst e7;exact hr1 _ (Al_List_mem_cons_self ..)))).2 h0) (by rintro (e | e | e | e | e) <;> first | exact hk10 e | exact hk9 e | exact hk8 e | exact hk7 e | exact (Al_of_decide_eq_false h86) (by rw [e];rfl))
 have e6:redP lv ⟨q,op,x,true,dn⟩=⟨q,o::r,x1,true,dn⟩:=by unfold redP;dsimp only;rw [<-e1,redL,Al_if_neg (show ¬ lv<=o.lv by omega)]
 refine .ex<|.tE<|.tE<|.bE<|?_
 refine retN (.inr Z) rfl .nil rfl λW s=>?_;rw [e6];exact ⟨(H1,_,rv1,_,xv1,AR),⟨u1,S1⟩,Z,s.pickT (hd:=[_,_,_]) (tl:=(AR++bs)) (hd':=[_,_,_]) [0,1,2] rfl rfl⟩
def GetV (w0:World) (bs:List Res) (b:Nat) (l:Tks) (tp:Option Addr) (tc:Nat) (H:Hp) (v:Value) (q:Ps) (e:Ending) (W:World):Prop :=
 ∃ z:Hp × Value × Value × List Value × List Value × List Res,(HUp w0 H z.1/\Sq z.1 q z.2.2.2.1 z.2.2.2.2.1 z.2.2.2.2.2)/\e=.returned v/\StP z.1 w0 bs W b l tp tc q z.2.1 z.2.2.1 z.2.2.2.1 z.2.2.2.2.1 z.2.2.2.2.2
theorem Ops.tm {op:List Ov} (h:Ops H op xo AR) (hn:op≠[]):∃ k1,op.length=k1+1/\xo[k1 * 11+2]? = some (.bool (op.headD bO).tm):=by
 cases op with
 | nil=>exact absurd rfl hn
 | cons o r =>
  obtain ⟨xr,s1,s2,e,hl,_⟩:=h.top;subst e;exact ⟨r.length,Z,app_at hl rfl⟩
set_option maxHeartbeats 1000000 in
theorem prefix_f {l:Tks} {op:List Ov} {x:Vb} {dn:Bool} (K:Tkf H l tp tc) (Wq:Fwf l ⟨q,op,x,false,dn⟩) (S:Sq H ⟨q,op,x,false,dn⟩ xo xv AR) (s:St H w0 (.box b [.slice tp l.length tc,iN q.i,ro,rv,.bool false,.bool dn,.bool x.2,iN q.off,iN q.er] 102::.row 97 11 (ro) (op.length) (xo)::.row 179 13 (rv) (x.1.length) (xv)::(AR++bs)) W) :
 Calls prg 106 #[.pointer (some ⟨b,0,none⟩)] W (GetV w0 bs b l tp tc H (.bool (prefS l ⟨q,op,x,false,dn⟩).isSome) ((prefS l ⟨q,op,x,false,dn⟩).getD ⟨q,op,x,false,dn⟩)):=by
 have hq:q.i<l.length:=Wq.i;have hne:op≠[]:=Wq.ne;obtain ⟨hn1,hn2⟩:=wf_len Wq K.few;dsimp only at hn1 hn2;have hcap:=K.rep.cap;refine enterS func106 rfl ntmps106 rfl s ?_;refine .sr<|.a Z Z<|.ns<|.al Fx.zero35 Z λb3=>.nt<|.sq<|.bk<|.sm Z<|.cs (X:=Unit) Fx.call107 Z (λW s=>accept_f K hq [110,111,116] (s.pickT (hd:=[_,_,_,_]) (tl:=(AR++bs)) (hd':=[_,_,_,_]) [1,0,2,3] Z Z)) Z λ_ _=>.aq Z<|.cd Z (λh4=>?_) (λh4=>?_)
 ·have a4:Rq.ac l [110,111,116] q=true:=h4;rw [acF_T a4];refine .rg<|.yw (.build Z (Fx.bld35_0 _))<|.sX upd1 Z Z Fx.size35 Z<|.nl<|.bN<|.tN<|.sm Z<|.yw (.loadW Z Fx.agg35 mem1 Z)<|.yw (.build Z (Fx.bld97_0_1_4 _ _ _ _ _ _ _ _ _))<|.cs (X:=Option Addr × Nat) Fx.call109 Z (λW s=>push_f K (wi_ac K.gd.last hq a4) (by simp [Value.oneCell',strV]) (Al_Nat_le_trans hn1 (by decide)) (λ_=>S.ops.tm hne) (s.pickT (hd:=[_,_,_,_]) (tl:=(AR++bs)) (hd':=[_,_,_,_]) [0,2,1,3] Z Z)) Z λp9 _=>.ns<|.az Z<|?_
  refine y9 Z Z λW s=>?_;rw [pref_of (q:=⟨q,op,x,false,dn⟩) (op:=8) a4 (by decide)];exact ⟨(_,_,_,_,_,AR),⟨.refl,⟨.cons S.ops (by show ¬ (7:UInt8)=5;decide) (FmR.zero rfl rfl (Al_Nat_zero_le _) (Al_Nat_zero_le _)),S.vls⟩⟩,Z,s.pickT (hd:=[_,_,_,_]) (tl:=(AR++bs)) (hd':=[_,_,_]) [0,1,3] rfl rfl⟩
 have a4:Rq.ac l [110,111,116] q=false:=h4;rw [acF_F a4];refine .sm Z<|.cs (X:=Unit) Fx.call107 Z (λW s=>accept_f K hq [112,114,101,118,105,111,117,115] (s.pickT (hd:=[_,_,_,_]) (tl:=(AR++bs)) (hd':=[_,_,_,_]) [0,1,2,3] Z Z)) Z λ_ _=>.aq Z<|.cd Z (λh8=>?_) (λh8=>?_)
 ·have a8:Rq.ac l [112,114,101,118,105,111,117,115] q=true:=h8;rw [acF_T a8];refine .rg<|.yw (.build Z (Fx.bld35_0 _))<|.sX upd1 Z Z Fx.size35 Z<|.nl<|.bN<|.tN<|.sm Z<|.yw (.loadW Z Fx.agg35 mem1 Z)<|.yw (.build Z (Fx.bld97_0_1_4 _ _ _ _ _ _ _ _ _))<|.cs (X:=Option Addr × Nat) Fx.call109 Z (λW s=>push_f K (wi_ac K.gd.last hq a8) (by simp [Value.oneCell',strV]) (Al_Nat_le_trans hn1 (by decide)) (λ_=>S.ops.tm hne) (s.pickT (hd:=[_,_,_,_]) (tl:=(AR++bs)) (hd':=[_,_,_,_]) [0,2,1,3] Z Z)) Z λp9 _=>.ns<|.az Z<|?_
  refine y9 Z Z λW s=>?_;rw [pref_of (q:=⟨q,op,x,false,dn⟩) (op:=12) a8 (by decide)];exact ⟨(_,_,_,_,_,AR),⟨.refl,⟨.cons S.ops (by show ¬ (7:UInt8)=5;decide) (FmR.zero rfl rfl (Al_Nat_zero_le _) (Al_Nat_zero_le _)),S.vls⟩⟩,Z,s.pickT (hd:=[_,_,_,_]) (tl:=(AR++bs)) (hd':=[_,_,_]) [0,1,3] rfl rfl⟩
 have a8:Rq.ac l [112,114,101,118,105,111,117,115] q=false:=h8;rw [acF_F a8];refine .sm Z<|.cs (X:=Unit) Fx.call107 Z (λW s=>accept_f K hq [111,110,99,101] (s.pickT (hd:=[_,_,_,_]) (tl:=(AR++bs)) (hd':=[_,_,_,_]) [0,1,2,3] Z Z)) Z λ_ _=>.aq Z<|.cd Z (λh12=>?_) (λh12=>?_)
 ·have a12:Rq.ac l [111,110,99,101] q=true:=h12;rw [acF_T a12];refine .rg<|.mv Z<|.cs (X:=Unit) Fx.call154 Z (λW s=>window_f K (wi_ac K.gd.last hq a12) 13 (s.pickT (hd:=[_,_,_,_]) (tl:=(AR++bs)) (hd':=[_,_,_,_]) [0,1,2,3] Z Z)) Z λ_ _=>.sX upd1 Z Z Fx.size35 Z<|.nl<|.bN<|.tN<|.sm Z<|.yw (.loadW Z Fx.agg35 mem1 Z)<|.yw (.build Z (Fx.bld97_0_1_4 _ _ _ _ _ _ _ _ _))<|.cs (X:=Option Addr × Nat) Fx.call109 Z (λW s=>push_f K (wi_wi K.gd.last (wi_ac K.gd.last hq a12)) (by simp [Value.oneCell',strV]) (Al_Nat_le_trans hn1 (by decide)) (λ_=>S.ops.tm hne) (s.pickT (hd:=[_,_,_,_]) (tl:=(AR++bs)) (hd':=[_,_,_,_]) [0,2,1,3] Z Z)) Z λp9 _=>.ns<|.az Z<|?_
  refine y9 Z Z λW s=>?_;rw [pref_of (q:=⟨q,op,x,false,dn⟩) (op:=13) a12 (by decide)];exact ⟨(_,_,_,_,_,AR),⟨.refl,⟨.cons S.ops (by show ¬ (7:UInt8)=5;decide) (FmR.zero rfl rfl (Al_Nat_zero_le _) (Al_Nat_zero_le _)),S.vls⟩⟩,Z,s.pickT (hd:=[_,_,_,_]) (tl:=(AR++bs)) (hd':=[_,_,_]) [0,1,3] rfl rfl⟩
 have a12:Rq.ac l [111,110,99,101] q=false:=h12;rw [acF_F a12];refine .sm Z<|.cs (X:=Unit) Fx.call107 Z (λW s=>accept_f K hq [97,108,119,97,121,115] (s.pickT (hd:=[_,_,_,_]) (tl:=(AR++bs)) (hd':=[_,_,_,_]) [0,1,2,3] Z Z)) Z λ_ _=>.aq Z<|.cd Z (λh17=>?_) (λh17=>?_)
 ·have a17:Rq.ac l [97,108,119,97,121,115] q=true:=h17;rw [acF_T a17];refine .rg<|.mv Z<|.cs (X:=Unit) Fx.call154 Z (λW s=>window_f K (wi_ac K.gd.last hq a17) 14 (s.pickT (hd:=[_,_,_,_]) (tl:=(AR++bs)) (hd':=[_,_,_,_]) [0,1,2,3] Z Z)) Z λ_ _=>.sX upd1 Z Z Fx.size35 Z<|.nl<|.bN<|.tN<|.sm Z<|.yw (.loadW Z Fx.agg35 mem1 Z)<|.yw (.build Z (Fx.bld97_0_1_4 _ _ _ _ _ _ _ _ _))<|.cs (X:=Option Addr × Nat) Fx.call109 Z (λW s=>push_f K (wi_wi K.gd.last (wi_ac K.gd.last hq a17)) (by simp [Value.oneCell',strV]) (Al_Nat_le_trans hn1 (by decide)) (λ_=>S.ops.tm hne) (s.pickT (hd:=[_,_,_,_]) (tl:=(AR++bs)) (hd':=[_,_,_,_]) [0,2,1,3] Z Z)) Z λp9 _=>.ns<|.az Z<|?_
  refine y9 Z Z λW s=>?_;rw [pref_of (q:=⟨q,op,x,false,dn⟩) (op:=14) a17 (by decide)];exact ⟨(_,_,_,_,_,AR),⟨.refl,⟨.cons S.ops (by show ¬ (7:UInt8)=5;decide) (FmR.zero rfl rfl (Al_Nat_zero_le _) (Al_Nat_zero_le _)),S.vls⟩⟩,Z,s.pickT (hd:=[_,_,_,_]) (tl:=(AR++bs)) (hd':=[_,_,_]) [0,1,3] rfl rfl⟩
 have a17:Rq.ac l [97,108,119,97,121,115] q=false:=h17;rw [acF_F a17];refine .sm Z<|.cs (X:=Unit) Fx.call107 Z (λW s=>accept_f K hq [102,111,114,97,108,108] (s.pickT (hd:=[_,_,_,_]) (tl:=(AR++bs)) (hd':=[_,_,_,_]) [0,1,2,3] Z Z)) Z λ_ _=>.aq Z<|.cd Z (λh22=>?_) (λh22=>?_)
 ·have a22:Rq.ac l [102,111,114,97,108,108] q=true:=h22;rw [acF_T a22];refine .rg<|.mv Z<|.cs (X:=Unit) Fx.call157 Z (λW s=>among_f K (wi_ac K.gd.last hq a22) 16 (s.pickT (hd:=[_,_,_,_]) (tl:=(AR++bs)) (hd':=[_,_,_,_]) [0,1,2,3] Z Z)) Z λ_ _=>.sX upd1 Z Z Fx.size35 Z<|.nl<|.bN<|.tN<|.sm Z<|.yw (.loadW Z Fx.agg35 mem1 Z)<|.yw (.build Z (Fx.bld97_0_1_4 _ _ _ _ _ _ _ _ _))<|.cs (X:=Option Addr × Nat) Fx.call109 Z (λW s=>push_f K (wi_am K.gd.last (wi_ac K.gd.last hq a22)) (by simp [Value.oneCell',strV]) (Al_Nat_le_trans hn1 (by decide)) (λ_=>S.ops.tm hne) (s.pickT (hd:=[_,_,_,_]) (tl:=(AR++bs)) (hd':=[_,_,_,_]) [0,2,1,3] Z Z)) Z λp9 _=>.ns<|.az Z<|?_
  refine y9 Z Z λW s=>?_;rw [pref_of (q:=⟨q,op,x,false,dn⟩) (op:=16) a22 (by decide)];exact ⟨(_,_,_,_,_,AR),⟨.refl,⟨.cons S.ops (by show ¬ (7:UInt8)=5;decide) (FmR.zero rfl rfl (Al_Nat_le_trans (nmV_len K (wi_ac K.gd.last hq a22)) (by decide)) (Al_Nat_zero_le _)),S.vls⟩⟩,Z,s.pickT (hd:=[_,_,_,_]) (tl:=(AR++bs)) (hd':=[_,_,_]) [0,1,3] rfl rfl⟩
 have a22:Rq.ac l [102,111,114,97,108,108] q=false:=h22;rw [acF_F a22];refine .sm Z<|.cs (X:=Unit) Fx.call107 Z (λW s=>accept_f K hq [101,120,105,115,116,115] (s.pickT (hd:=[_,_,_,_]) (tl:=(AR++bs)) (hd':=[_,_,_,_]) [0,1,2,3] Z Z)) Z λ_ _=>.aq Z<|.cd Z (λh27=>?_) (λh27=>?_)
 ·have a27:Rq.ac l [101,120,105,115,116,115] q=true:=h27;rw [acF_T a27];refine .rg<|.mv Z<|.cs (X:=Unit) Fx.call157 Z (λW s=>among_f K (wi_ac K.gd.last hq a27) 17 (s.pickT (hd:=[_,_,_,_]) (tl:=(AR++bs)) (hd':=[_,_,_,_]) [0,1,2,3] Z Z)) Z λ_ _=>.sX upd1 Z Z Fx.size35 Z<|.nl<|.bN<|.tN<|.sm Z<|.yw (.loadW Z Fx.agg35 mem1 Z)<|.yw (.build Z (Fx.bld97_0_1_4 _ _ _ _ _ _ _ _ _))<|.cs (X:=Option Addr × Nat) Fx.call109 Z (λW s=>push_f K (wi_am K.gd.last (wi_ac K.gd.last hq a27)) (by simp [Value.oneCell',strV]) (Al_Nat_le_trans hn1 (by decide)) (λ_=>S.ops.tm hne) (s.pickT (hd:=[_,_,_,_]) (tl:=(AR++bs)) (hd':=[_,_,_,_]) [0,2,1,3] Z Z)) Z λp9 _=>.ns<|.az Z<|?_
  refine y9 Z Z λW s=>?_;rw [pref_of (q:=⟨q,op,x,false,dn⟩) (op:=17) a27 (by decide)];exact ⟨(_,_,_,_,_,AR),⟨.refl,⟨.cons S.ops (by show ¬ (7:UInt8)=5;decide) (FmR.zero rfl rfl (Al_Nat_le_trans (nmV_len K (wi_ac K.gd.last hq a27)) (by decide)) (Al_Nat_zero_le _)),S.vls⟩⟩,Z,s.pickT (hd:=[_,_,_,_]) (tl:=(AR++bs)) (hd':=[_,_,_]) [0,1,3] rfl rfl⟩
 have a27:Rq.ac l [101,120,105,115,116,115] q=false:=h27;rw [acF_F a27];refine .sm Z<|.cs (X:=Unit) Fx.call107 Z (λW s=>accept_f K hq [99,111,117,110,116] (s.pickT (hd:=[_,_,_,_]) (tl:=(AR++bs)) (hd':=[_,_,_,_]) [0,1,2,3] Z Z)) Z λ_ _=>.aq Z<|.cd Z (λh32=>?_) (λh32=>?_)
 ·have a32:Rq.ac l [99,111,117,110,116] q=true:=h32;rw [acF_T a32];refine .sm Z<|.cs (X:=Unit) Fx.call157 Z (λW s=>among_f K (wi_ac K.gd.last hq a32) 18 (s.pickT (hd:=[_,_,_,_]) (tl:=(AR++bs)) (hd':=[_,_,_,_]) [0,1,2,3] Z Z)) Z λ_ _=>.sX upd1 Z Z Fx.size35 Z<|.ns<|.mv Z<|.cs (X:=Unit) Fx.call114 Z (λW s=>expect_f K (wi_am K.gd.last (wi_ac K.gd.last hq a32)) [40] (s.pickT (hd:=[_,_,_,_]) (tl:=(AR++bs)) (hd':=[_,_,_,_]) [0,1,2,3] Z Z)) Z λ_ _=>.ns<|.mv Z<|.yw (.loadW Z Fx.agg35 mem1 Z)<|.yw (.build Z (Fx.bld97_0_4 _ _ _ _ _ _ _ _))<|.cs (X:=Option Addr × Nat) Fx.call109 Z (λW s=>push_f K (wi_ex K.gd.last (wi_am K.gd.last (wi_ac K.gd.last hq a32))) (by simp [Value.oneCell',strV]) (Al_Nat_le_trans hn1 (by decide)) (t':=false) (λh=>absurd h (Nat.lt_irrefl 0)) (s.pickT (hd:=[_,_,_,_]) (tl:=(AR++bs)) (hd':=[_,_,_,_]) [0,2,1,3] Z Z)) Z λp9 _=>.ns<|.az Z<|.bR<|.tR<|?_
  refine y9 Z Z λW s=>?_;rw [pref_cnt (q:=⟨q,op,x,false,dn⟩) a32];exact ⟨(_,_,_,_,_,AR),⟨.refl,⟨.cons S.ops (by show ¬ (3:UInt8)=5;decide) (FmR.zero rfl rfl (Al_Nat_le_trans (nmV_len K (wi_ac K.gd.last hq a32)) (by decide)) (Al_Nat_zero_le _)),S.vls⟩⟩,Z,s.pickT (hd:=[_,_,_,_]) (tl:=(AR++bs)) (hd':=[_,_,_]) [0,1,3] rfl rfl⟩
 have a32:Rq.ac l [99,111,117,110,116] q=false:=h32;rw [acF_F a32];refine .sr<|.az Z<|.bR<|.tR<|?_
 refine y9 Z Z λW s=>?_
 have e0:prefS l ⟨q,op,x,false,dn⟩=none:=pref_no (λw op hp=>by
  simp only [preW,Al_List_mem_cons,Al_Prod_mk_injEq,List.not_mem_nil,or_false] at hp;rcases hp with ⟨rfl,rfl⟩ | ⟨rfl,rfl⟩ | ⟨rfl,rfl⟩ | ⟨rfl,rfl⟩ | ⟨rfl,rfl⟩ | ⟨rfl,rfl⟩
  ·exact a4
  ·exact a8
  ·exact a12
  ·exact a17
  ·exact a22
  ·exact a27) a32
 rw [e0];exact ⟨(_,_,_,_,_,AR),⟨.refl,⟨S.ops,S.vls⟩⟩,Z,s.pickT (hd:=[_,_,_,_]) (tl:=(AR++bs)) (hd':=[_,_,_]) [0,2,3] rfl rfl⟩
theorem variable_f {l:Tks} {op:List Ov} {x:Vb} {dn:Bool} (K:Tkf H l tp tc) (Wq:Fwf l ⟨q,op,x,false,dn⟩) (S:Sq H ⟨q,op,x,false,dn⟩ xo xv AR) (s:St H w0 (.box b [.slice tp l.length tc,iN q.i,ro,rv,.bool false,.bool dn,.bool x.2,iN q.off,iN q.er] 102::.row 97 11 (ro) (op.length) (xo)::.row 179 13 (rv) (x.1.length) (xv)::(AR++bs)) W) :
 Calls prg 111 #[.pointer (some ⟨b,0,none⟩)] W (Get w0 bs b l tp tc H (varP l ⟨q,op,x,false,dn⟩)):=by
 have hq:q.i<l.length:=Wq.i;have hne:op≠[]:=Wq.ne;obtain ⟨hn1,hn2⟩:=wf_len Wq K.few;dsimp only at hn1 hn2;have hcap:=K.rep.cap;refine enterS func111 rfl ntmps111 rfl s ?_;refine .sm Z<|.cs (X:=Unit) Fx.call113 Z (λW s=>name_f K hq  (s.pickT (hd:=[_,_,_]) (tl:=(AR++bs)) (hd':=[_,_,_]) [0,1,2] Z Z)) Z λ_ _=>.aq Z<|.sq<|.sm Z<|.cs (X:=Unit) Fx.call107 Z (λW s=>accept_f K (wi_nm K.gd.last hq) [46] (s.pickT (hd:=[_,_,_]) (tl:=(AR++bs)) (hd':=[_,_,_]) [0,1,2] Z Z)) Z λ_ _=>.nt<|.cd Z (λh6=>?_) (λh6=>?_)
 ·have a6:Rq.ac l [46] (Rq.nmS l q)=true:=h6;rw [acF_T a6];refine .sm Z<|.mv Z<|.cs (X:=Unit) Fx.call113 Z (λW s=>name_f K (wi_ac K.gd.last (wi_nm K.gd.last hq) a6)  (s.pickT (hd:=[_,_,_]) (tl:=(AR++bs)) (hd':=[_,_,_]) [0,1,2] Z Z)) Z λ_ _=>.yw (.app Z Z (by have h1:=nmV_len K hq;have h2:=nmV_len K (wi_ac K.gd.last (wi_nm K.gd.last hq) a6);simp only [Al_List_length_append,Al_List_length_cons,Al_List_length_nil];omega))<|.yw (.cast (.app Z Z (by have h1:=nmV_len K hq;have h2:=nmV_len K (wi_ac K.gd.last (wi_nm K.gd.last hq) a6);simp only [Al_List_length_append,Al_List_length_cons,Al_List_length_nil];omega)) (congrArg strV (Al_List_append_assoc _ _ _).symm))<|.a Z Z<|.ns<|.mv Z<|.cs (X:=Unit) Fx.call107 Z (λW s=>accept_f K (wi_nm K.gd.last (wi_ac K.gd.last (wi_nm K.gd.last hq) a6)) [91] (s.pickT (hd:=[_,_,_]) (tl:=(AR++bs)) (hd':=[_,_,_]) [0,1,2] Z Z)) Z λ_ _=>.nt<|.cd Z (λh13=>?_) (λh13=>?_)
  ·have a13:Rq.ac l [91] (Rq.nmS l (Rq.nmS l q).nx)=true:=h13;rw [acF_T a13];refine .sm Z<|.mv Z<|.yw (.build Z (Fx.bld35_1 _))<|.yw (.build Z (Fx.bld97_0_2_3_4 _ _ _ _ _ _ _ _ _ _))<|.cs (X:=Option Addr × Nat) Fx.call109 Z (λW s=>push_f K (wi_ac K.gd.last (wi_nm K.gd.last (wi_ac K.gd.last (wi_nm K.gd.last hq) a6)) a13) (by simp [Value.oneCell',strV]) (Al_Nat_le_trans hn1 (by decide)) (t':=false) (λh=>absurd h (Nat.lt_irrefl 0)) (s.pickT (hd:=[_,_,_]) (tl:=(AR++bs)) (hd':=[_,_,_]) [0,1,2] Z Z)) Z λp9 _=>.nt<|.rt<|.tR<|?_
   refine y7 Z .nil rfl λW s=>?_;have e0:varP l ⟨q,op,x,false,dn⟩=pushS ⟨4,0,true,6,.mk 0 (q.ful l) [] 0 0 [] []⟩ ((⟨q,op,x,false,dn⟩:Ps).at ((q.nmS l).nx.nmS l).nx):=by unfold varP;exact (Al_if_pos a6).trans (Al_if_pos a13)
   rw [e0];exact ⟨(_,_,_,_,_,AR),⟨.refl,⟨.cons S.ops (by show ¬ (4:UInt8)=5;decide) (FmR.zero rfl rfl (by have h1:=nmV_len K hq;have h2:=nmV_len K (wi_ac K.gd.last (wi_nm K.gd.last hq) a6);show (Rq.ful l q).length<=1000000;unfold Rq.ful;simp only [Al_List_length_append,Al_List_length_cons,Al_List_length_nil];omega) (Al_Nat_zero_le _)),S.vls⟩⟩,Z,s.pickT (hd:=[_,_,_]) (tl:=(AR++bs)) (hd':=[_,_,_]) [0,1,2] rfl rfl⟩
  have a13:Rq.ac l [91] (Rq.nmS l (Rq.nmS l q).nx)=false:=h13;rw [acF_F a13];refine .sk<|.tN<|.rg<|.mv Z<|.mv Z<|.yw (.build Z (Fx.bld76_0_1 _ _))<|.yw (.build Z (Fx.bld179_0_2 _ _ _ _ _))<|.cs (X:=Option Addr × Nat) Fx.call108 Z (λW s=>give_f K (wi_nm K.gd.last (wi_ac K.gd.last (wi_nm K.gd.last hq) a6)) (by simp [Value.oneCell',strV]) hn2 (s.pickT (hd:=[_,_,_]) (tl:=(AR++bs)) (hd':=[_,_,_]) [0,2,1] Z Z)) Z λp9 _=>.nl<|?_
  refine retN (.inr Z) rfl .nil rfl λW s=>?_;have e0:varP l ⟨q,op,x,false,dn⟩=giveS (tmv (.mk 5 (q.ful l) 0 [])) ((⟨q,op,x,false,dn⟩:Ps).at ((q.nmS l).nx.nmS l)):=by unfold varP;exact (Al_if_pos a6).trans (Al_if_neg (by rw [a13];decide))
  rw [e0];exact ⟨(_,_,_,_,_,AR),⟨.refl,⟨S.ops,.cons S.vls ⟨ExR.zero rfl (by have h1:=nmV_len K hq;have h2:=nmV_len K (wi_ac K.gd.last (wi_nm K.gd.last hq) a6);show (Rq.ful l q).length<=1000000;unfold Rq.ful;simp only [Al_List_length_append,Al_List_length_cons,Al_List_length_nil];omega),FmR.zero rfl rfl (Al_Nat_zero_le _) (Al_Nat_zero_le _)⟩⟩⟩,Z,s.pickT (hd:=[_,_,_]) (tl:=(AR++bs)) (hd':=[_,_,_]) [0,2,1] rfl rfl⟩
 have a6:Rq.ac l [46] (Rq.nmS l q)=false:=h6;rw [acF_F a6];refine .sk<|.tN<|.rg<|.mv Z<|.mv Z<|.yw (.build Z (Fx.bld76_0_1 _ _))<|.yw (.build Z (Fx.bld179_0_2 _ _ _ _ _))<|.cs (X:=Option Addr × Nat) Fx.call108 Z (λW s=>give_f K (wi_nm K.gd.last hq) (by simp [Value.oneCell',strV]) hn2 (s.pickT (hd:=[_,_,_]) (tl:=(AR++bs)) (hd':=[_,_,_]) [0,2,1] Z Z)) Z λp9 _=>.nl<|?_
 refine retN (.inr Z) rfl .nil rfl λW s=>?_;have e0:varP l ⟨q,op,x,false,dn⟩=giveS (tmv (.mk 5 (q.nmV l) 0 [])) ((⟨q,op,x,false,dn⟩:Ps).at (q.nmS l)):=by unfold varP;exact Al_if_neg (by rw [a6];decide)
 rw [e0];exact ⟨(_,_,_,_,_,AR),⟨.refl,⟨S.ops,.cons S.vls ⟨ExR.zero rfl (Al_Nat_le_trans (nmV_len K hq) (by decide)),FmR.zero rfl rfl (Al_Nat_zero_le _) (Al_Nat_zero_le _)⟩⟩⟩,Z,s.pickT (hd:=[_,_,_]) (tl:=(AR++bs)) (hd':=[_,_,_]) [0,2,1] rfl rfl⟩
theorem arrives_f {l:Tks} {op:List Ov} {x:Vb} {dn:Bool} (K:Tkf H l tp tc) (Wq:Fwf l ⟨q,op,x,false,dn⟩) (S:Sq H ⟨q,op,x,false,dn⟩ xo xv AR) (s:St H w0 (.box b [.slice tp l.length tc,iN q.i,ro,rv,.bool false,.bool dn,.bool x.2,iN q.off,iN q.er] 102::.row 97 11 (ro) (op.length) (xo)::.row 179 13 (rv) (x.1.length) (xv)::(AR++bs)) W) :
 Calls prg 115 #[.pointer (some ⟨b,0,none⟩)] W (Get w0 bs b l tp tc H (arrP l ⟨q,op,x,false,dn⟩)):=by
 have hq:q.i<l.length:=Wq.i;have hne:op≠[]:=Wq.ne;obtain ⟨hn1,hn2⟩:=wf_len Wq K.few;dsimp only at hn1 hn2;have hcap:=K.rep.cap;refine enterS func115 rfl ntmps115 rfl s ?_;refine .sm Z<|.cs (X:=Unit) Fx.call112 Z (λW s=>pair_f K hq 7 (s.pickT (hd:=[_,_,_]) (tl:=(AR++bs)) (hd':=[_,_,_]) [0,1,2] Z Z)) Z λ_ _=>.al Fx.zero35 Z λb2=>.sX .head Z Z Fx.size35 Z<|.ns<|.mv Z<|.cs (X:=Unit) Fx.call114 Z (λW s=>expect_f K (wi_pa K.gd.last hq) [40] (s.pickT (hd:=[_,_,_,_]) (tl:=(AR++bs)) (hd':=[_,_,_,_]) [1,0,2,3] Z Z)) Z λ_ _=>.nt<|.sq<|.sm Z<|.cs (X:=Unit) Fx.call107 Z (λW s=>accept_f K (wi_ex K.gd.last (wi_pa K.gd.last hq)) [41] (s.pickT (hd:=[_,_,_,_]) (tl:=(AR++bs)) (hd':=[_,_,_,_]) [0,1,2,3] Z Z)) Z λ_ _=>.nt<|.cd Z (λh8=>?_) (λh8=>?_)
 ·have a8:Rq.ac l [41] (Rq.exS l [40] (Rq.paS l q))=true:=h8;rw [acF_T a8];refine .sm Z<|.yw (.loadW Z Fx.agg35 mem1 Z)<|.yw (.build Z (Fx.bld179_3 _ _ _ _ _ _ _))<|.cs (X:=Option Addr × Nat) Fx.call108 Z (λW s=>give_f K (wi_ac K.gd.last (wi_ex K.gd.last (wi_pa K.gd.last hq)) a8) (by simp [Value.oneCell',strV]) hn2 (s.pickT (hd:=[_,_,_,_]) (tl:=(AR++bs)) (hd':=[_,_,_,_]) [0,3,1,2] Z Z)) Z λp9 _=>.nt<|.rt<|.tR<|?_
  refine y7 Z .nil rfl λW s=>?_;have e0:arrP l ⟨q,op,x,false,dn⟩=giveS (fmv (q.paV l 7)) ((⟨q,op,x,false,dn⟩:Ps).at ((q.paS l).exS l [40]).nx):=by unfold arrP;exact Al_if_pos a8
  rw [e0];exact ⟨(_,_,_,_,_,AR),⟨.refl,⟨S.ops,.cons S.vls ⟨ExR.zero rfl (Al_Nat_zero_le _),FmR.zero rfl rfl (Al_Nat_le_trans (nmV_len K hq) (by decide)) (Al_Nat_le_trans (nmV_len K (wi_ex K.gd.last (wi_nm K.gd.last hq))) (by decide))⟩⟩⟩,Z,s.pickT (hd:=[_,_,_,_]) (tl:=(AR++bs)) (hd':=[_,_,_]) [0,3,1] rfl rfl⟩
 have a8:Rq.ac l [41] (Rq.exS l [40] (Rq.paS l q))=false:=h8;rw [acF_F a8];refine .sk<|.tN<|.rg<|.mv Z<|.yw (.loadW Z Fx.agg35 mem1 Z)<|.yw (.build Z (Fx.bld97_0_2_4 _ _ _ _ _ _ _ _ _))<|.cs (X:=Option Addr × Nat) Fx.call109 Z (λW s=>push_f K (wi_ex K.gd.last (wi_pa K.gd.last hq)) (by simp [Value.oneCell',strV]) (Al_Nat_le_trans hn1 (by decide)) (t':=false) (λh=>absurd h (Nat.lt_irrefl 0)) (s.pickT (hd:=[_,_,_,_]) (tl:=(AR++bs)) (hd':=[_,_,_,_]) [0,2,1,3] Z Z)) Z λp9 _=>.nl<|?_
 refine Sx.row0 76 4 ?_;refine retN (.inr Z) rfl .nil rfl λW s=>?_;have e0:arrP l ⟨q,op,x,false,dn⟩=pushS ⟨5,0,true,0,q.paV l 7⟩ ((⟨q,op,x,false,dn⟩:Ps).at ((q.paS l).exS l [40])):=by unfold arrP;exact Al_if_neg (by show ¬ ((q.paS l).exS l [40]).ac l [41]=true;rw [a8];decide)
 rw [e0];exact ⟨(_,_,_,_,_,_),⟨.refl,⟨.arg S.ops rfl rfl (Al_Nat_le_trans (nmV_len K hq) (by decide)) (Al_Nat_le_trans (nmV_len K (wi_ex K.gd.last (wi_nm K.gd.last hq))) (by decide)) RepZ.nil rfl,S.vls⟩⟩,Z,s.pickT (hd:=[_,_,_,_,_]) (tl:=(AR++bs)) (hd':=[_,_,_,_]) [1,2,4,0] rfl rfl⟩
theorem opd_any {l:Tks} {q:Ps} (hf:fmsB q=false\/prefS l q=none) (hk:(topO q).kd=5) (ha:q.c.ac l [95]=true):operandP l q=giveS ⟨true,true,zE,zF⟩ (q.at q.c.nx):=by
 have e:(if fmsB q then prefS l q else none)=none:=by
  rcases hf with e | e
  ·rw [e];rfl
  ·rw [e];split <;> rfl
 unfold operandP;rw [e];show restP l q=_;unfold restP;rw [Al_if_pos ⟨hk,ha⟩]
set_option maxHeartbeats 4000000 in
theorem operand_f {l:Tks} {op:List Ov} {x:Vb} {dn:Bool} (K:Tkf H l tp tc) (Wq:Fwf l ⟨q,op,x,false,dn⟩) (S:Sq H ⟨q,op,x,false,dn⟩ xo xv AR) (s:St H w0 (.box b [.slice tp l.length tc,iN q.i,ro,rv,.bool false,.bool dn,.bool x.2,iN q.off,iN q.er] 102::.row 97 11 (ro) (op.length) (xo)::.row 179 13 (rv) (x.1.length) (xv)::(AR++bs)) W) :
 Calls prg 56 #[.pointer (some ⟨b,0,none⟩)] W (Get w0 bs b l tp tc H (operandP l ⟨q,op,x,false,dn⟩)):=by
 have hq:q.i<l.length:=Wq.i;have hne:op≠[]:=Wq.ne;obtain ⟨hn1,hn2⟩:=wf_len Wq K.few;dsimp only at hn1 hn2;have hcap:=K.rep.cap;refine enterS func56 rfl ntmps56 rfl s ?_;obtain ⟨o,r,rfl⟩:=list1 (l:=op) (by cases op with | nil=>exact absurd rfl hne | cons a t=>exact Nat.succ_pos _);dsimp only [List.length_cons] at hn1;obtain ⟨xr,s1,s2,e2,hlo,ho1,ho2⟩:=Ops.top S.ops;try dsimp only at e2
 subst e2;refine Sx.rowCase (size:=11) (r:=ro) (e:=97) mem1 (Nat.succ_pos _) λg c e hkc=>?_;subst e;refine .sm Z<|.cs (X:=Unit) Fx.call98 Z (λW s=>token_f K hq  (s.pickT (hd:=[_,_,_]) (tl:=(AR++bs)) (hd':=[_,_,_]) [0,1,2] Z Z)) Z λ_ _=>.al Fx.zero108 Z λb2=>.sW .head Z Z Fx.size108 (by simp [cTk,Value.oneCell',strV]) Z<|.nt<|.cu (X:=Bool) [(0,_),(2,_)] ⟨Z,Z,Jt⟩ (λz=>[(3,.bool z)]) (λz=>H) (λz=>(.box b2 (cTk .u8 (tkf l q.i)) 108::.box b [.slice tp l.length tc,iN q.i,(.slice (some ⟨g,0,none⟩) (o::r).length c),rv,.bool false,.bool dn,.bool x.2,iN q.off,iN q.er] 102::.row 97 11 ((.slice (some ⟨g,0,none⟩) (o::r).length c)) ((o::r).length) ((xr++oC o s1 s2))::.row 179 13 (rv) (x.1.length) (xv)::(AR++bs))) (λz=>z=fmsB ⟨q,o::r,x,false,dn⟩) ?_ λz hC=>?_
 ·
  refine .rg<|.mv Z<|.cs (X:=Unit) Fx.call105 Z (λW s=>top_f K hq (g:=g) (k:=r.length) (c:=c) (by omega) (s.pickT (hd:=[_,_,_,_]) (tl:=(AR++bs)) (hd':=[_,_,_,_]) [1,0,2,3] Z Z)) Z λ_ _=>.nC Z<|.fA Z Fx.field97_2<|.yw (.loadR1 Z Fx.agg4 mem2 (app_at hlo Z))<|.yw (.not Z)<|.mv Z<|.b2 (λh14=>?_) (λh14=>?_)
  ·exact .gy (.move Z)<|.gd Z Z<|.cs (X:=Unit) Fx.call105 Z (λW s=>top_f K hq (g:=g) (k:=r.length) (c:=c) (by omega) (s.pickT (hd:=[_,_,_,_]) (tl:=(AR++bs)) (hd':=[_,_,_,_]) [0,1,2,3] Z Z)) Z λ_ _=>.gy (.nilCheck Z)<|.gy (.fieldAddr Z Fx.field97_1)<|.gy (.loadR1 Z Fx.agg3 mem2 (app_at hlo Z))<|.gy (.leq Z Z)<|.yw (.pickT Z Z)<|.aq Z<|.me _ ⟨Z,Jt⟩ ⟨Z,Z,Jt⟩ (λ_ s=>(s.pickT (hd:=[_,_,_,_]) (tl:=(AR++bs)) (hd':=[_,_,_,_]) [1,0,2,3] Z Z)) (by first | (show _=(!o.tm && decide (o.lv<=5));rw [h14,Al_Bool_true_and,Al_Bool_eq_iff_iff,Al_decide_eq_true_eq,Al_decide_eq_true_eq];omega) | (show _=(!o.tm && decide (o.lv<=5));rw [h14,Al_Bool_false_and]))
  exact .gG<|.gG<|.gG<|.gG<|.gG<|.gG<|.yw (.pickF Z Z)<|.aq Z<|.me _ ⟨Z,Jt⟩ ⟨Z,Z,Jt⟩ (λ_ s=>(s.pickT (hd:=[_,_,_,_]) (tl:=(AR++bs)) (hd':=[_,_,_,_]) [1,0,2,3] Z Z)) (by first | (show _=(!o.tm && decide (o.lv<=5));rw [h14,Al_Bool_true_and,Al_Bool_eq_iff_iff,Al_decide_eq_true_eq,Al_decide_eq_true_eq];omega) | (show _=(!o.tm && decide (o.lv<=5));rw [h14,Al_Bool_false_and]))
 have ef:=hC;refine .bk<|.sm Z<|.mv Z<|.b2 (λh26=>?_) (λh26=>?_)
 ·have hff:fmsB ⟨q,o::r,x,false,dn⟩=true:=by rw [<-ef];exact h26
  refine .gy (.move Z)<|.gd Z Z<|.cs (X:=Hp × Value × Value × List Value × List Value × List Res) Fx.call106 Z (λW s=>prefix_f K Wq S (St.mid (a:=[_,_,_]) (d:=[_]) (s.pickT (hd:=[_,_,_,_]) (tl:=(AR++bs)) (hd':=[_,_,_,_]) [1,2,3,0] Z Z))) Z λz9 hz9=>?_
  obtain ⟨H1,ro,rv,xo,xv,AR⟩:=z9;obtain ⟨u1,S⟩:=hz9;dsimp only at u1 S|-;refine Sx.reSt (λW s=>St.mid (a:=[_,_,_]) (d:=AR) (c:=[_]) s) ?_;refine .yw (.pickT Z Z)<|.aq Z<|.cd Z (λh24=>?_) (λh24=>?_)
  ·obtain ⟨q9,hp⟩:=Al_Option_isSome_iff_exists.1 h24;rw [hp] at S|-;dsimp only [Option.getD] at S|-;refine .sk<|.bN<|?_
   refine retN (.inr Z) rfl .nil rfl λW s=>?_;have e0:operandP l ⟨q,o::r,x,false,dn⟩=q9:=by unfold operandP;rw [hff,Al_if_pos rfl,hp]
   rw [e0];exact ⟨(_,_,_,_,_,AR),⟨u1,⟨S.ops,S.vls⟩⟩,Z,s.pickT (hd:=[_,_,_,_]) (tl:=(AR++bs)) (hd':=[_,_,_]) [0,1,2] rfl rfl⟩
  have hp:prefS l ⟨q,o::r,x,false,dn⟩=none:=by
   cases e:prefS l ⟨q,o::r,x,false,dn⟩ with
   | none=>rfl
   | some x=>rw [e] at h24;cases h24
  rw [hp] at S|-;dsimp only [Option.getD] at S|-;have hff:fmsB ⟨q,o::r,x,false,dn⟩=false\/prefS l ⟨q,o::r,x,false,dn⟩=none:=.inr hp;obtain ⟨xr,s1,s2,e2,hlo,ho1,ho2⟩:=Ops.top S.ops;try dsimp only at e2
  subst e2;refine Sx.rowCase (size:=11) (r:=ro) (e:=97) mem1 (Nat.succ_pos _) λg c e hkc=>?_;subst e;refine .cu (X:=Bool) [(0,_),(2,_)] ⟨Z,Z,Jt⟩ (λz=>[(30,.bool z)]) (λz=>H1) (λz=>(.box b2 (cTk .u8 (tkf l q.i)) 108::.box b [.slice tp l.length tc,iN ((if z then Rq.nx q else q).i),(.slice (some ⟨g,0,none⟩) (o::r).length c),rv,.bool false,.bool dn,.bool x.2,iN ((if z then Rq.nx q else q).off),iN ((if z then Rq.nx q else q).er)] 102::.row 97 11 ((.slice (some ⟨g,0,none⟩) (o::r).length c)) ((o::r).length) ((xr++oC o s1 s2))::.row 179 13 (rv) (x.1.length) (xv)::(AR++bs))) (λz=>z=(decide (o.kd=5) && Rq.ac l [95] q)) ?_ λz hC=>?_
  ·
   refine .rg<|.mv Z<|.cs (X:=Unit) Fx.call105 Z (λW s=>top_f (K.up u1.up) hq (g:=g) (k:=r.length) (c:=c) (by omega) (s.pickT (hd:=[_,_,_,_]) (tl:=(AR++bs)) (hd':=[_,_,_,_]) [0,1,2,3] Z Z)) Z λ_ _=>.nC Z<|.fA Z Fx.field97_0<|.yw (.loadR1 Z Fx.agg95 mem1 (app_at hlo Z))<|.yw (.eql Z Z)<|.mv Z<|.b2 (λh37=>?_) (λh37=>?_)
   ·have hk5:o.kd=5:=Al_UInt8_toNat_inj.1 (by have:=Al_of_decide_eq_true h37;show o.kd.toNat=5;omega);exact .gy (.move Z)<|.gd Z Z<|.cs (X:=Unit) Fx.call107 Z (λW s=>accept_f (K.up u1.up) hq [95] (s.pickT (hd:=[_,_,_,_]) (tl:=(AR++bs)) (hd':=[_,_,_,_]) [0,1,2,3] Z Z)) Z λ_ _=>.yw (.pickT Z Z)<|.aq Z<|.me _ ⟨Z,Jt⟩ ⟨Z,Z,Jt⟩ (λ_ s=>(s.pickT (hd:=[_,_,_,_]) (tl:=(AR++bs)) (hd':=[_,_,_,_]) [3,0,1,2] Z Z)) (by first | rw [Al_decide_eq_true hk5,Al_Bool_true_and] | (rw [Al_decide_eq_false hk5];rfl))
   have hk5:¬ o.kd=5:=λe=>Al_of_decide_eq_false h37 (by rw [e];rfl);exact .gG<|.gG<|.yw (.pickF Z Z)<|.aq Z<|.me _ ⟨Z,Jt⟩ ⟨Z,Z,Jt⟩ (λ_ s=>(s.pickT (hd:=[_,_,_,_]) (tl:=(AR++bs)) (hd':=[_,_,_,_]) [3,0,1,2] Z Z)) (by first | rw [Al_decide_eq_true hk5,Al_Bool_true_and] | (rw [Al_decide_eq_false hk5];rfl))
  have ez:=hC;refine .cd Z (λh30=>?_) (λh30=>?_)
  ·rw [h30] at ez;have ez2:=Al_Bool_and_eq_true _ _ |>.mp ez.symm
   rw [Al_if_pos h30];refine .rg<|.mv Z<|.yw (.build Z (Fx.bld179_0_1 _ _))<|.cs (X:=Option Addr × Nat) Fx.call108 Z (λW s=>give_f (K.up u1.up) (wi_ac K.gd.last hq ez2.2) (by simp [Value.oneCell',strV]) hn2 (s.pickT (hd:=[_,_,_,_]) (tl:=(AR++bs)) (hd':=[_,_,_,_]) [1,3,0,2] Z Z)) Z λp9 _=>.nl<|.bN<|?_
   refine retN (.inr Z) rfl .nil rfl λW s=>?_;have e0:operandP l ⟨q,o::r,x,false,dn⟩=giveS ⟨true,true,zE,zF⟩ (((⟨q,o::r,x,false,dn⟩:Ps)).at q.nx):=opd_any hff (Al_of_decide_eq_true ez2.1) ez2.2;rw [e0];exact ⟨(_,_,_,_,_,AR),⟨u1,⟨S.ops,.cons S.vls ⟨ExR.zero rfl (Al_Nat_zero_le _),FmR.zero rfl rfl (Al_Nat_zero_le _) (Al_Nat_zero_le _)⟩⟩⟩,Z,s.pickT (hd:=[_,_,_,_]) (tl:=(AR++bs)) (hd':=[_,_,_]) [0,3,1] rfl rfl⟩
  rw [h30] at ez
  have hno:(topO (⟨q,o::r,x,false,dn⟩:Ps)).kd=5->Rq.ac l [95] q=false:=λe=>by
   have e3:(false:Bool)=(decide (o.kd=5) && Rq.ac l [95] q):=ez;rw [Al_decide_eq_true (show o.kd=5 from e),Al_Bool_true_and] at e3;exact e3.symm
  rw [Al_if_neg (by rw [h30];decide)];refine .sm Z<|.cs (X:=Unit) Fx.call107 Z (λW s=>accept_f (K.up u1.up) hq [45] (s.pickT (hd:=[_,_,_,_]) (tl:=(AR++bs)) (hd':=[_,_,_,_]) [1,0,2,3] Z Z)) Z λ_ _=>.aq Z<|.cd Z (λh44=>?_) (λh44=>?_)
  ·have a44:Rq.ac l [45] q=true:=h44;rw [acF_T a44];refine .rg<|.mv Z<|.yw (.build Z (Fx.bld97_0_1 _ _))<|.cs (X:=Option Addr × Nat) Fx.call109 Z (λW s=>push_f (K.up u1.up) (wi_ac K.gd.last hq a44) (by simp [Value.oneCell',strV]) (Al_Nat_le_trans hn1 (by decide)) (λ_=>S.ops.tm hne) (s.pickT (hd:=[_,_,_,_]) (tl:=(AR++bs)) (hd':=[_,_,_,_]) [0,2,1,3] Z Z)) Z λp9 _=>.nl<|.bN<|?_
   refine retN (.inr Z) rfl .nil rfl λW s=>?_;have e0:operandP l ⟨q,o::r,x,false,dn⟩=pushS ⟨10,9,false,0,zF⟩ (((⟨q,o::r,x,false,dn⟩:Ps)).at q.nx):=(opd_no hff hno).trans (re2_neg a44);rw [e0];exact ⟨(_,_,_,_,_,AR),⟨u1,⟨.cons S.ops (by show ¬ (10:UInt8)=5;decide) (FmR.zero rfl rfl (Al_Nat_zero_le _) (Al_Nat_zero_le _)),S.vls⟩⟩,Z,s.pickT (hd:=[_,_,_,_]) (tl:=(AR++bs)) (hd':=[_,_,_]) [0,1,3] rfl rfl⟩
  have a44:Rq.ac l [45] q=false:=h44;rw [acF_F a44];refine .sm Z<|.cs (X:=Unit) Fx.call107 Z (λW s=>accept_f (K.up u1.up) hq [40] (s.pickT (hd:=[_,_,_,_]) (tl:=(AR++bs)) (hd':=[_,_,_,_]) [0,1,2,3] Z Z)) Z λ_ _=>.aq Z<|.cd Z (λh50=>?_) (λh50=>?_)
  ·have a50:Rq.ac l [40] q=true:=h50;rw [acF_T a50];refine .rg<|.mv Z<|.yw (.build Z (Fx.bld97_0 _))<|.cs (X:=Option Addr × Nat) Fx.call109 Z (λW s=>push_f (K.up u1.up) (wi_ac K.gd.last hq a50) (by simp [Value.oneCell',strV]) (Al_Nat_le_trans hn1 (by decide)) (t':=false) (λh=>absurd h (Nat.lt_irrefl 0)) (s.pickT (hd:=[_,_,_,_]) (tl:=(AR++bs)) (hd':=[_,_,_,_]) [0,2,1,3] Z Z)) Z λp9 _=>.nl<|.bN<|?_
   refine retN (.inr Z) rfl .nil rfl λW s=>?_;have e0:operandP l ⟨q,o::r,x,false,dn⟩=pushS ⟨2,0,false,0,zF⟩ (((⟨q,o::r,x,false,dn⟩:Ps)).at q.nx):=(opd_no hff hno).trans (re2_par a50);rw [e0];exact ⟨(_,_,_,_,_,AR),⟨u1,⟨.cons S.ops (by show ¬ (2:UInt8)=5;decide) (FmR.zero rfl rfl (Al_Nat_zero_le _) (Al_Nat_zero_le _)),S.vls⟩⟩,Z,s.pickT (hd:=[_,_,_,_]) (tl:=(AR++bs)) (hd':=[_,_,_]) [0,1,3] rfl rfl⟩
  have a50:Rq.ac l [40] q=false:=h50;rw [acF_F a50];refine .sr<|.fA Z Fx.field108_0<|.lD Z Fx.agg106 mem1 Z<|.yw (.eql Z Z)<|.aq Z<|.cd Z (λh56=>?_) (λh56=>?_)
  ·have hk3:(tkf l q.i).k=3:=Al_UInt8_toNat_inj.1 (by have:=Al_of_decide_eq_true h56;show (tkf l q.i).k.toNat=3;omega);refine .rg<|.mv Z<|.mv Z<|.cs (X:=Unit) Fx.call110 Z (λW s=>number_f (K.up u1.up) hq  (s.pickT (hd:=[_,_,_,_]) (tl:=(AR++bs)) (hd':=[_,_,_,_]) [0,1,2,3] Z Z)) Z λ_ _=>.yw (.build Z (Fx.bld76_0_2 _ _))<|.yw (.build Z (Fx.bld179_0_2 _ _ _ _ _))<|.cs (X:=Option Addr × Nat) Fx.call108 Z (λW s=>give_f (K.up u1.up) (wi_nb K.gd.last hq) (by simp [Value.oneCell',strV]) hn2 (s.pickT (hd:=[_,_,_,_]) (tl:=(AR++bs)) (hd':=[_,_,_,_]) [0,3,1,2] Z Z)) Z λp9 _=>.nl<|.bN<|?_
   refine retN (.inr Z) rfl .nil rfl λW s=>?_;have e0:operandP l ⟨q,o::r,x,false,dn⟩=giveS (tmv (.mk 1 [] (q.nbV l) [])) (((⟨q,o::r,x,false,dn⟩:Ps)).at (q.nbS l)):=(opd_no hff hno).trans (re2_num hk3);rw [e0];exact ⟨(_,_,_,_,_,AR),⟨u1,⟨S.ops,.cons S.vls ⟨ExR.zero rfl (Al_Nat_zero_le _),FmR.zero rfl rfl (Al_Nat_zero_le _) (Al_Nat_zero_le _)⟩⟩⟩,Z,s.pickT (hd:=[_,_,_,_]) (tl:=(AR++bs)) (hd':=[_,_,_]) [0,3,1] rfl rfl⟩
  have hk3:¬ (tkf l q.i).k=3:=λe=>Al_of_decide_eq_false h56 (by rw [e];rfl);refine .sr<|.fA Z Fx.field108_0<|.lD Z Fx.agg106 mem1 Z<|.yw (.eql Z Z)<|.aq Z<|.cd Z (λh66=>?_) (λh66=>?_)
  ·have hk1:(tkf l q.i).k=1:=Al_UInt8_toNat_inj.1 (by have:=Al_of_decide_eq_true h66;show (tkf l q.i).k.toNat=1;omega);refine .rg<|.mv Z<|.cs (X:=Hp × Value × Value × List Value × List Value × List Res) Fx.call111 Z (λW s=>variable_f (K.up u1.up) Wq S (St.mid (a:=[_,_,_]) (d:=[_]) (s.pickT (hd:=[_,_,_,_]) (tl:=(AR++bs)) (hd':=[_,_,_,_]) [0,2,3,1] Z Z))) Z λz9 hz9=>?_
   obtain ⟨H2,ro,rv,xo,xv,AR⟩:=z9;obtain ⟨u2,S⟩:=hz9;dsimp only at u2 S|-;refine Sx.reSt (λW s=>St.mid (a:=[_,_,_]) (d:=AR) (c:=[_]) s) ?_;refine .nl<|.bN<|?_
   refine retN (.inr Z) rfl .nil rfl λW s=>?_;have e0:operandP l ⟨q,o::r,x,false,dn⟩=varP l ⟨q,o::r,x,false,dn⟩:=(opd_no hff hno).trans (re2_nam hk1);rw [e0];exact ⟨(_,_,_,_,_,AR),⟨(u1.trans u2),⟨S.ops,S.vls⟩⟩,Z,s.pickT (hd:=[_,_,_,_]) (tl:=(AR++bs)) (hd':=[_,_,_]) [0,1,2] rfl rfl⟩
  have hk1:¬ (tkf l q.i).k=1:=λe=>Al_of_decide_eq_false h66 (by rw [e];rfl);refine .sm Z<|.cs (X:=Unit) Fx.call107 Z (λW s=>accept_f (K.up u1.up) hq [110,111,119] (s.pickT (hd:=[_,_,_,_]) (tl:=(AR++bs)) (hd':=[_,_,_,_]) [0,1,2,3] Z Z)) Z λ_ _=>.aq Z<|.cd Z (λh72=>?_) (λh72=>?_)
  ·have a72:Rq.ac l [110,111,119] q=true:=h72;rw [acF_T a72];refine .rg<|.mv Z<|.yw (.build Z (Fx.bld76_0 _))<|.yw (.build Z (Fx.bld179_0_2 _ _ _ _ _))<|.cs (X:=Option Addr × Nat) Fx.call108 Z (λW s=>give_f (K.up u1.up) (wi_ac K.gd.last hq a72) (by simp [Value.oneCell',strV]) hn2 (s.pickT (hd:=[_,_,_,_]) (tl:=(AR++bs)) (hd':=[_,_,_,_]) [0,3,1,2] Z Z)) Z λp9 _=>.nl<|.bN<|?_
   refine retN (.inr Z) rfl .nil rfl λW s=>?_;have e0:operandP l ⟨q,o::r,x,false,dn⟩=giveS (tmv (.mk 4 [] 0 [])) (((⟨q,o::r,x,false,dn⟩:Ps)).at q.nx):=(opd_no hff hno).trans (re2_now a72);rw [e0];exact ⟨(_,_,_,_,_,AR),⟨u1,⟨S.ops,.cons S.vls ⟨ExR.zero rfl (Al_Nat_zero_le _),FmR.zero rfl rfl (Al_Nat_zero_le _) (Al_Nat_zero_le _)⟩⟩⟩,Z,s.pickT (hd:=[_,_,_,_]) (tl:=(AR++bs)) (hd':=[_,_,_]) [0,3,1] rfl rfl⟩
  have a72:Rq.ac l [110,111,119] q=false:=h72;rw [acF_F a72];refine .sm Z<|.cs (X:=Unit) Fx.call107 Z (λW s=>accept_f (K.up u1.up) hq [115,105,122,101] (s.pickT (hd:=[_,_,_,_]) (tl:=(AR++bs)) (hd':=[_,_,_,_]) [0,1,2,3] Z Z)) Z λ_ _=>.aq Z<|.cd Z (λh79=>?_) (λh79=>?_)
  ·have a79:Rq.ac l [115,105,122,101] q=true:=h79;rw [acF_T a79];refine .sm Z<|.cs (X:=Unit) Fx.call112 Z (λW s=>pair_f (K.up u1.up) (wi_ac K.gd.last hq a79) 0 (s.pickT (hd:=[_,_,_,_]) (tl:=(AR++bs)) (hd':=[_,_,_,_]) [0,1,2,3] Z Z)) Z λ_ _=>.al Fx.zero35 Z λb4=>.sX .head Z Z Fx.size35 Z<|.nt<|.rg<|.mv Z<|.fA Z Fx.field35_1<|.lD Z Fx.agg9 Hm Z<|.yw (.app Z Z (by have h1:=nmV_len K (wi_ac K.gd.last hq a79);have h2:=nmV_len K (wi_ex K.gd.last (wi_nm K.gd.last (wi_ac K.gd.last hq a79)) (w:=[46]));show (Rq.nmV l q.nx).length+1<=_;omega))<|.fA Z Fx.field35_2<|.lD Z Fx.agg9 Hm Z<|.yw (.app Z Z (by have h1:=nmV_len K (wi_ac K.gd.last hq a79);have h2:=nmV_len K (wi_ex K.gd.last (wi_nm K.gd.last (wi_ac K.gd.last hq a79)) (w:=[46]));simp only [Al_List_length_append,Al_List_length_cons,Al_List_length_nil];unfold Rq.paN Rq.paF;omega))<|.yw (.build Z (Fx.bld76_0_1 _ _))<|.yw (.build Z (Fx.bld179_0_2 _ _ _ _ _))<|.cs (X:=Option Addr × Nat) Fx.call108 Z (λW s=>give_f (K.up u1.up) (wi_pa K.gd.last (wi_ac K.gd.last hq a79)) (by simp [Value.oneCell',strV]) hn2 (s.pickT (hd:=[_,_,_,_,_]) (tl:=(AR++bs)) (hd':=[_,_,_,_,_]) [1,4,0,2,3] Z Z)) Z λp9 _=>.nl<|.bN<|?_
   refine retN (.inr Z) rfl .nil rfl λW s=>?_;have e0:operandP l ⟨q,o::r,x,false,dn⟩=giveS (tmv (.mk 8 (q.nx.paN l++[46]++q.nx.paF l) 0 [])) (((⟨q,o::r,x,false,dn⟩:Ps)).at (q.nx.paS l)):=(opd_no hff hno).trans (re2_siz a79);rw [e0];exact ⟨(_,_,_,_,_,AR),⟨u1,⟨S.ops,.cons S.vls ⟨ExR.zero rfl (by have h1:=nmV_len K (wi_ac K.gd.last hq a79);have h2:=nmV_len K (wi_ex K.gd.last (wi_nm K.gd.last (wi_ac K.gd.last hq a79)) (w:=[46]));show (Rq.paN l q.nx++[46]++Rq.paF l q.nx).length<=1000000;unfold Rq.paN Rq.paF;simp only [Al_List_length_append,Al_List_length_cons,Al_List_length_nil];omega),FmR.zero rfl rfl (Al_Nat_zero_le _) (Al_Nat_zero_le _)⟩⟩⟩,Z,s.pickT (hd:=[_,_,_,_,_]) (tl:=(AR++bs)) (hd':=[_,_,_]) [0,4,1] rfl rfl⟩
  have a79:Rq.ac l [115,105,122,101] q=false:=h79;rw [acF_F a79];refine .sm Z<|.cs (X:=Unit) Fx.call107 Z (λW s=>accept_f (K.up u1.up) hq [116,114,117,101] (s.pickT (hd:=[_,_,_,_]) (tl:=(AR++bs)) (hd':=[_,_,_,_]) [0,1,2,3] Z Z)) Z λ_ _=>.aq Z<|.cd Z (λh94=>?_) (λh94=>?_)
  ·have a94:Rq.ac l [116,114,117,101] q=true:=h94;rw [acF_T a94];refine .rg<|.mv Z<|.yw (.build Z (Fx.bld35_0 _))<|.yw (.build Z (Fx.bld179_3 _ _ _ _ _ _ _))<|.cs (X:=Option Addr × Nat) Fx.call108 Z (λW s=>give_f (K.up u1.up) (wi_ac K.gd.last hq a94) (by simp [Value.oneCell',strV]) hn2 (s.pickT (hd:=[_,_,_,_]) (tl:=(AR++bs)) (hd':=[_,_,_,_]) [0,3,1,2] Z Z)) Z λp9 _=>.nl<|.bN<|?_
   refine retN (.inr Z) rfl .nil rfl λW s=>?_;have e0:operandP l ⟨q,o::r,x,false,dn⟩=giveS (fmv (.mk 1 [] [] 0 0 [] [])) (((⟨q,o::r,x,false,dn⟩:Ps)).at q.nx):=(opd_no hff hno).trans (re2_tru a94);rw [e0];exact ⟨(_,_,_,_,_,AR),⟨u1,⟨S.ops,.cons S.vls ⟨ExR.zero rfl (Al_Nat_zero_le _),FmR.zero rfl rfl (Al_Nat_zero_le _) (Al_Nat_zero_le _)⟩⟩⟩,Z,s.pickT (hd:=[_,_,_,_]) (tl:=(AR++bs)) (hd':=[_,_,_]) [0,3,1] rfl rfl⟩
  have a94:Rq.ac l [116,114,117,101] q=false:=h94;rw [acF_F a94];refine .sm Z<|.cs (X:=Unit) Fx.call107 Z (λW s=>accept_f (K.up u1.up) hq [102,97,108,115,101] (s.pickT (hd:=[_,_,_,_]) (tl:=(AR++bs)) (hd':=[_,_,_,_]) [0,1,2,3] Z Z)) Z λ_ _=>.aq Z<|.cd Z (λh101=>?_) (λh101=>?_)
  ·have a101:Rq.ac l [102,97,108,115,101] q=true:=h101;rw [acF_T a101];refine .rg<|.mv Z<|.yw (.build Z (Fx.bld35_0 _))<|.yw (.build Z (Fx.bld179_3 _ _ _ _ _ _ _))<|.cs (X:=Option Addr × Nat) Fx.call108 Z (λW s=>give_f (K.up u1.up) (wi_ac K.gd.last hq a101) (by simp [Value.oneCell',strV]) hn2 (s.pickT (hd:=[_,_,_,_]) (tl:=(AR++bs)) (hd':=[_,_,_,_]) [0,3,1,2] Z Z)) Z λp9 _=>.nl<|.bN<|?_
   refine retN (.inr Z) rfl .nil rfl λW s=>?_;have e0:operandP l ⟨q,o::r,x,false,dn⟩=giveS (fmv (.mk 2 [] [] 0 0 [] [])) (((⟨q,o::r,x,false,dn⟩:Ps)).at q.nx):=(opd_no hff hno).trans (re2_fal a101);rw [e0];exact ⟨(_,_,_,_,_,AR),⟨u1,⟨S.ops,.cons S.vls ⟨ExR.zero rfl (Al_Nat_zero_le _),FmR.zero rfl rfl (Al_Nat_zero_le _) (Al_Nat_zero_le _)⟩⟩⟩,Z,s.pickT (hd:=[_,_,_,_]) (tl:=(AR++bs)) (hd':=[_,_,_]) [0,3,1] rfl rfl⟩
  have a101:Rq.ac l [102,97,108,115,101] q=false:=h101;rw [acF_F a101];refine .sm Z<|.cs (X:=Unit) Fx.call107 Z (λW s=>accept_f (K.up u1.up) hq [102,108,97,103] (s.pickT (hd:=[_,_,_,_]) (tl:=(AR++bs)) (hd':=[_,_,_,_]) [0,1,2,3] Z Z)) Z λ_ _=>.aq Z<|.cd Z (λh108=>?_) (λh108=>?_)
  ·have a108:Rq.ac l [102,108,97,103] q=true:=h108;rw [acF_T a108];refine .rg<|.mv Z<|.mv Z<|.cs (X:=Unit) Fx.call113 Z (λW s=>name_f (K.up u1.up) (wi_ac K.gd.last hq a108)  (s.pickT (hd:=[_,_,_,_]) (tl:=(AR++bs)) (hd':=[_,_,_,_]) [0,1,2,3] Z Z)) Z λ_ _=>.yw (.build Z (Fx.bld35_0_1 _ _))<|.yw (.build Z (Fx.bld179_3 _ _ _ _ _ _ _))<|.cs (X:=Option Addr × Nat) Fx.call108 Z (λW s=>give_f (K.up u1.up) (wi_nm K.gd.last (wi_ac K.gd.last hq a108)) (by simp [Value.oneCell',strV]) hn2 (s.pickT (hd:=[_,_,_,_]) (tl:=(AR++bs)) (hd':=[_,_,_,_]) [0,3,1,2] Z Z)) Z λp9 _=>.nl<|.bN<|?_
   refine retN (.inr Z) rfl .nil rfl λW s=>?_;have e0:operandP l ⟨q,o::r,x,false,dn⟩=giveS (fmv (.mk 6 (q.nx.nmV l) [] 0 0 [] [])) (((⟨q,o::r,x,false,dn⟩:Ps)).at (q.nx.nmS l)):=(opd_no hff hno).trans (re2_flg a108);rw [e0];exact ⟨(_,_,_,_,_,AR),⟨u1,⟨S.ops,.cons S.vls ⟨ExR.zero rfl (Al_Nat_zero_le _),FmR.zero rfl rfl (Al_Nat_le_trans (nmV_len K (wi_ac K.gd.last hq a108)) (by decide)) (Al_Nat_zero_le _)⟩⟩⟩,Z,s.pickT (hd:=[_,_,_,_]) (tl:=(AR++bs)) (hd':=[_,_,_]) [0,3,1] rfl rfl⟩
  have a108:Rq.ac l [102,108,97,103] q=false:=h108;rw [acF_F a108];refine .sm Z<|.cs (X:=Unit) Fx.call107 Z (λW s=>accept_f (K.up u1.up) hq [104,97,115] (s.pickT (hd:=[_,_,_,_]) (tl:=(AR++bs)) (hd':=[_,_,_,_]) [0,1,2,3] Z Z)) Z λ_ _=>.aq Z<|.cd Z (λh117=>?_) (λh117=>?_)
  ·have a117:Rq.ac l [104,97,115] q=true:=h117;rw [acF_T a117];refine .sm Z<|.cs (X:=Unit) Fx.call112 Z (λW s=>pair_f (K.up u1.up) (wi_ac K.gd.last hq a117) 5 (s.pickT (hd:=[_,_,_,_]) (tl:=(AR++bs)) (hd':=[_,_,_,_]) [0,1,2,3] Z Z)) Z λ_ _=>.al Fx.zero35 Z λb5=>.sX .head Z Z Fx.size35 Z<|.ns<|.mv Z<|.cs (X:=Unit) Fx.call114 Z (λW s=>expect_f (K.up u1.up) (wi_pa K.gd.last (wi_ac K.gd.last hq a117)) [91] (s.pickT (hd:=[_,_,_,_,_]) (tl:=(AR++bs)) (hd':=[_,_,_,_,_]) [1,0,2,3,4] Z Z)) Z λ_ _=>.nt<|.rg<|.mv Z<|.yw (.loadW Z Fx.agg35 mem1 Z)<|.yw (.build Z (Fx.bld97_0_2_4 _ _ _ _ _ _ _ _ _))<|.cs (X:=Option Addr × Nat) Fx.call109 Z (λW s=>push_f (K.up u1.up) (wi_ex K.gd.last (wi_pa K.gd.last (wi_ac K.gd.last hq a117))) (by simp [Value.oneCell',strV]) (Al_Nat_le_trans hn1 (by decide)) (t':=false) (λh=>absurd h (Nat.lt_irrefl 0)) (s.pickT (hd:=[_,_,_,_,_]) (tl:=(AR++bs)) (hd':=[_,_,_,_,_]) [0,3,1,2,4] Z Z)) Z λp9 _=>.nl<|.bN<|?_
   refine retN (.inr Z) rfl .nil rfl λW s=>?_;have e0:operandP l ⟨q,o::r,x,false,dn⟩=pushS ⟨4,0,true,0,q.nx.paV l 5⟩ (((⟨q,o::r,x,false,dn⟩:Ps)).at ((q.nx.paS l).exS l [91])):=(opd_no hff hno).trans (re2_has a117);rw [e0];exact ⟨(_,_,_,_,_,AR),⟨u1,⟨.cons S.ops (by show ¬ (4:UInt8)=5;decide) (FmR.zero rfl rfl (Al_Nat_le_trans (nmV_len K (wi_ac K.gd.last hq a117)) (by decide)) (Al_Nat_le_trans (nmV_len K (wi_ex K.gd.last (wi_nm K.gd.last (wi_ac K.gd.last hq a117)))) (by decide))),S.vls⟩⟩,Z,s.pickT (hd:=[_,_,_,_,_]) (tl:=(AR++bs)) (hd':=[_,_,_]) [0,1,4] rfl rfl⟩
  have a117:Rq.ac l [104,97,115] q=false:=h117;rw [acF_F a117];refine .sm Z<|.cs (X:=Unit) Fx.call107 Z (λW s=>accept_f (K.up u1.up) hq [97,114,114,105,118,101,115] (s.pickT (hd:=[_,_,_,_]) (tl:=(AR++bs)) (hd':=[_,_,_,_]) [0,1,2,3] Z Z)) Z λ_ _=>.aq Z<|.cd Z (λh128=>?_) (λh128=>?_)
  ·have a128:Rq.ac l [97,114,114,105,118,101,115] q=true:=h128;rw [acF_T a128];refine .rg<|.mv Z<|.cs (X:=Hp × Value × Value × List Value × List Value × List Res) Fx.call115 Z (λW s=>arrives_f (K.up u1.up) (wf_at (q:=⟨q,o::r,x,false,dn⟩) (c:=q.nx) Wq (wi_ac K.gd.last hq a128) (Nat.le_succ _)) S.at (St.mid (a:=[_,_,_]) (d:=[_]) (s.pickT (hd:=[_,_,_,_]) (tl:=(AR++bs)) (hd':=[_,_,_,_]) [0,2,3,1] Z Z))) Z λz9 hz9=>?_
   obtain ⟨H2,ro,rv,xo,xv,AR⟩:=z9;obtain ⟨u2,S⟩:=hz9;dsimp only at u2 S|-;refine Sx.reSt (λW s=>St.mid (a:=[_,_,_]) (d:=AR) (c:=[_]) s) ?_;refine .nl<|.bN<|?_
   refine retN (.inr Z) rfl .nil rfl λW s=>?_;have e0:operandP l ⟨q,o::r,x,false,dn⟩=arrP l (((⟨q,o::r,x,false,dn⟩:Ps)).at q.nx):=(opd_no hff hno).trans (re2_arr a128);rw [e0];exact ⟨(_,_,_,_,_,AR),⟨(u1.trans u2),⟨S.ops,S.vls⟩⟩,Z,s.pickT (hd:=[_,_,_,_]) (tl:=(AR++bs)) (hd':=[_,_,_]) [0,1,2] rfl rfl⟩
  have a128:Rq.ac l [97,114,114,105,118,101,115] q=false:=h128;rw [acF_F a128];refine .rg<|.mv Z<|.cs (X:=Unit) Fx.call104 Z (λW s=>fail_f (K.up u1.up) hq 8 (s.pickT (hd:=[_,_,_,_]) (tl:=(AR++bs)) (hd':=[_,_,_,_]) [0,1,2,3] Z Z)) Z λ_ _=>.nl<|.bN<|?_
  refine retN (.inr Z) rfl .nil rfl λW s=>?_
  have e0:operandP l ⟨q,o::r,x,false,dn⟩=(((⟨q,o::r,x,false,dn⟩:Ps)).at (q.fail l 8)):=(opd_no hff hno).trans (re2_non a44 hk3 hk1 (λw hw=>by
   simp only [priW,Al_List_mem_cons,List.not_mem_nil,or_false] at hw;rcases hw with rfl | rfl | rfl | rfl | rfl | rfl | rfl | rfl
   ·exact a72
   ·exact a94
   ·exact a101
   ·exact a108
   ·exact a117
   ·exact a128
   ·exact a79
   ·exact a50))
  rw [e0];exact ⟨(_,_,_,_,_,AR),⟨u1,⟨S.ops,S.vls⟩⟩,Z,s.pickT (hd:=[_,_,_,_]) (tl:=(AR++bs)) (hd':=[_,_,_]) [0,2,3] rfl rfl⟩
 have hff:fmsB ⟨q,o::r,x,false,dn⟩=false\/prefS l ⟨q,o::r,x,false,dn⟩=none:=.inl (by rw [<-ef];exact h26);refine .gG<|.gG<|.yw (.pickF Z Z)<|.aq Z<|.cF Z<|.cu (X:=Bool) [(0,_),(2,_)] ⟨Z,Z,Jt⟩ (λz=>[(30,.bool z)]) (λz=>H) (λz=>(.box b2 (cTk .u8 (tkf l q.i)) 108::.box b [.slice tp l.length tc,iN ((if z then Rq.nx q else q).i),(.slice (some ⟨g,0,none⟩) (o::r).length c),rv,.bool false,.bool dn,.bool x.2,iN ((if z then Rq.nx q else q).off),iN ((if z then Rq.nx q else q).er)] 102::.row 97 11 ((.slice (some ⟨g,0,none⟩) (o::r).length c)) ((o::r).length) ((xr++oC o s1 s2))::.row 179 13 (rv) (x.1.length) (xv)::(AR++bs))) (λz=>z=(decide (o.kd=5) && Rq.ac l [95] q)) ?_ λz hC=>?_
 ·
  refine .rg<|.mv Z<|.cs (X:=Unit) Fx.call105 Z (λW s=>top_f K hq (g:=g) (k:=r.length) (c:=c) (by omega) (s.pickT (hd:=[_,_,_,_]) (tl:=(AR++bs)) (hd':=[_,_,_,_]) [1,0,2,3] Z Z)) Z λ_ _=>.nC Z<|.fA Z Fx.field97_0<|.yw (.loadR1 Z Fx.agg95 mem2 (app_at hlo Z))<|.yw (.eql Z Z)<|.mv Z<|.b2 (λh37=>?_) (λh37=>?_)
  ·have hk5:o.kd=5:=Al_UInt8_toNat_inj.1 (by have:=Al_of_decide_eq_true h37;show o.kd.toNat=5;omega);exact .gy (.move Z)<|.gd Z Z<|.cs (X:=Unit) Fx.call107 Z (λW s=>accept_f K hq [95] (s.pickT (hd:=[_,_,_,_]) (tl:=(AR++bs)) (hd':=[_,_,_,_]) [0,1,2,3] Z Z)) Z λ_ _=>.yw (.pickT Z Z)<|.aq Z<|.me _ ⟨Z,Jt⟩ ⟨Z,Z,Jt⟩ (λ_ s=>(s.pickT (hd:=[_,_,_,_]) (tl:=(AR++bs)) (hd':=[_,_,_,_]) [1,0,2,3] Z Z)) (by first | rw [Al_decide_eq_true hk5,Al_Bool_true_and] | (rw [Al_decide_eq_false hk5];rfl))
  have hk5:¬ o.kd=5:=λe=>Al_of_decide_eq_false h37 (by rw [e];rfl);exact .gG<|.gG<|.yw (.pickF Z Z)<|.aq Z<|.me _ ⟨Z,Jt⟩ ⟨Z,Z,Jt⟩ (λ_ s=>(s.pickT (hd:=[_,_,_,_]) (tl:=(AR++bs)) (hd':=[_,_,_,_]) [1,0,2,3] Z Z)) (by first | rw [Al_decide_eq_true hk5,Al_Bool_true_and] | (rw [Al_decide_eq_false hk5];rfl))
 have ez:=hC;refine .cd Z (λh30=>?_) (λh30=>?_)
 ·rw [h30] at ez;have ez2:=Al_Bool_and_eq_true _ _ |>.mp ez.symm
  rw [Al_if_pos h30];refine .rg<|.mv Z<|.yw (.build Z (Fx.bld179_0_1 _ _))<|.cs (X:=Option Addr × Nat) Fx.call108 Z (λW s=>give_f K (wi_ac K.gd.last hq ez2.2) (by simp [Value.oneCell',strV]) hn2 (s.pickT (hd:=[_,_,_,_]) (tl:=(AR++bs)) (hd':=[_,_,_,_]) [1,3,0,2] Z Z)) Z λp9 _=>.nl<|.bN<|?_
  refine retN (.inr Z) rfl .nil rfl λW s=>?_;have e0:operandP l ⟨q,o::r,x,false,dn⟩=giveS ⟨true,true,zE,zF⟩ (((⟨q,o::r,x,false,dn⟩:Ps)).at q.nx):=opd_any hff (Al_of_decide_eq_true ez2.1) ez2.2;rw [e0];exact ⟨(_,_,_,_,_,AR),⟨.refl,⟨S.ops,.cons S.vls ⟨ExR.zero rfl (Al_Nat_zero_le _),FmR.zero rfl rfl (Al_Nat_zero_le _) (Al_Nat_zero_le _)⟩⟩⟩,Z,s.pickT (hd:=[_,_,_,_]) (tl:=(AR++bs)) (hd':=[_,_,_]) [0,3,1] rfl rfl⟩
 rw [h30] at ez
 have hno:(topO (⟨q,o::r,x,false,dn⟩:Ps)).kd=5->Rq.ac l [95] q=false:=λe=>by
  have e3:(false:Bool)=(decide (o.kd=5) && Rq.ac l [95] q):=ez;rw [Al_decide_eq_true (show o.kd=5 from e),Al_Bool_true_and] at e3;exact e3.symm
 rw [Al_if_neg (by rw [h30];decide)];refine .sm Z<|.cs (X:=Unit) Fx.call107 Z (λW s=>accept_f K hq [45] (s.pickT (hd:=[_,_,_,_]) (tl:=(AR++bs)) (hd':=[_,_,_,_]) [1,0,2,3] Z Z)) Z λ_ _=>.aq Z<|.cd Z (λh44=>?_) (λh44=>?_)
 ·have a44:Rq.ac l [45] q=true:=h44;rw [acF_T a44];refine .rg<|.mv Z<|.yw (.build Z (Fx.bld97_0_1 _ _))<|.cs (X:=Option Addr × Nat) Fx.call109 Z (λW s=>push_f K (wi_ac K.gd.last hq a44) (by simp [Value.oneCell',strV]) (Al_Nat_le_trans hn1 (by decide)) (λ_=>S.ops.tm hne) (s.pickT (hd:=[_,_,_,_]) (tl:=(AR++bs)) (hd':=[_,_,_,_]) [0,2,1,3] Z Z)) Z λp9 _=>.nl<|.bN<|?_
  refine retN (.inr Z) rfl .nil rfl λW s=>?_;have e0:operandP l ⟨q,o::r,x,false,dn⟩=pushS ⟨10,9,false,0,zF⟩ (((⟨q,o::r,x,false,dn⟩:Ps)).at q.nx):=(opd_no hff hno).trans (re2_neg a44);rw [e0];exact ⟨(_,_,_,_,_,AR),⟨.refl,⟨.cons S.ops (by show ¬ (10:UInt8)=5;decide) (FmR.zero rfl rfl (Al_Nat_zero_le _) (Al_Nat_zero_le _)),S.vls⟩⟩,Z,s.pickT (hd:=[_,_,_,_]) (tl:=(AR++bs)) (hd':=[_,_,_]) [0,1,3] rfl rfl⟩
 have a44:Rq.ac l [45] q=false:=h44;rw [acF_F a44];refine .sm Z<|.cs (X:=Unit) Fx.call107 Z (λW s=>accept_f K hq [40] (s.pickT (hd:=[_,_,_,_]) (tl:=(AR++bs)) (hd':=[_,_,_,_]) [0,1,2,3] Z Z)) Z λ_ _=>.aq Z<|.cd Z (λh50=>?_) (λh50=>?_)
 ·have a50:Rq.ac l [40] q=true:=h50;rw [acF_T a50];refine .rg<|.mv Z<|.yw (.build Z (Fx.bld97_0 _))<|.cs (X:=Option Addr × Nat) Fx.call109 Z (λW s=>push_f K (wi_ac K.gd.last hq a50) (by simp [Value.oneCell',strV]) (Al_Nat_le_trans hn1 (by decide)) (t':=false) (λh=>absurd h (Nat.lt_irrefl 0)) (s.pickT (hd:=[_,_,_,_]) (tl:=(AR++bs)) (hd':=[_,_,_,_]) [0,2,1,3] Z Z)) Z λp9 _=>.nl<|.bN<|?_
  refine retN (.inr Z) rfl .nil rfl λW s=>?_;have e0:operandP l ⟨q,o::r,x,false,dn⟩=pushS ⟨2,0,false,0,zF⟩ (((⟨q,o::r,x,false,dn⟩:Ps)).at q.nx):=(opd_no hff hno).trans (re2_par a50);rw [e0];exact ⟨(_,_,_,_,_,AR),⟨.refl,⟨.cons S.ops (by show ¬ (2:UInt8)=5;decide) (FmR.zero rfl rfl (Al_Nat_zero_le _) (Al_Nat_zero_le _)),S.vls⟩⟩,Z,s.pickT (hd:=[_,_,_,_]) (tl:=(AR++bs)) (hd':=[_,_,_]) [0,1,3] rfl rfl⟩
 have a50:Rq.ac l [40] q=false:=h50;rw [acF_F a50];refine .sr<|.fA Z Fx.field108_0<|.lD Z Fx.agg106 mem1 Z<|.yw (.eql Z Z)<|.aq Z<|.cd Z (λh56=>?_) (λh56=>?_)
 ·have hk3:(tkf l q.i).k=3:=Al_UInt8_toNat_inj.1 (by have:=Al_of_decide_eq_true h56;show (tkf l q.i).k.toNat=3;omega);refine .rg<|.mv Z<|.mv Z<|.cs (X:=Unit) Fx.call110 Z (λW s=>number_f K hq  (s.pickT (hd:=[_,_,_,_]) (tl:=(AR++bs)) (hd':=[_,_,_,_]) [0,1,2,3] Z Z)) Z λ_ _=>.yw (.build Z (Fx.bld76_0_2 _ _))<|.yw (.build Z (Fx.bld179_0_2 _ _ _ _ _))<|.cs (X:=Option Addr × Nat) Fx.call108 Z (λW s=>give_f K (wi_nb K.gd.last hq) (by simp [Value.oneCell',strV]) hn2 (s.pickT (hd:=[_,_,_,_]) (tl:=(AR++bs)) (hd':=[_,_,_,_]) [0,3,1,2] Z Z)) Z λp9 _=>.nl<|.bN<|?_
  refine retN (.inr Z) rfl .nil rfl λW s=>?_;have e0:operandP l ⟨q,o::r,x,false,dn⟩=giveS (tmv (.mk 1 [] (q.nbV l) [])) (((⟨q,o::r,x,false,dn⟩:Ps)).at (q.nbS l)):=(opd_no hff hno).trans (re2_num hk3);rw [e0];exact ⟨(_,_,_,_,_,AR),⟨.refl,⟨S.ops,.cons S.vls ⟨ExR.zero rfl (Al_Nat_zero_le _),FmR.zero rfl rfl (Al_Nat_zero_le _) (Al_Nat_zero_le _)⟩⟩⟩,Z,s.pickT (hd:=[_,_,_,_]) (tl:=(AR++bs)) (hd':=[_,_,_]) [0,3,1] rfl rfl⟩
 have hk3:¬ (tkf l q.i).k=3:=λe=>Al_of_decide_eq_false h56 (by rw [e];rfl);refine .sr<|.fA Z Fx.field108_0<|.lD Z Fx.agg106 mem1 Z<|.yw (.eql Z Z)<|.aq Z<|.cd Z (λh66=>?_) (λh66=>?_)
 ·have hk1:(tkf l q.i).k=1:=Al_UInt8_toNat_inj.1 (by have:=Al_of_decide_eq_true h66;show (tkf l q.i).k.toNat=1;omega);refine .rg<|.mv Z<|.cs (X:=Hp × Value × Value × List Value × List Value × List Res) Fx.call111 Z (λW s=>variable_f K Wq S (St.mid (a:=[_,_,_]) (d:=[_]) (s.pickT (hd:=[_,_,_,_]) (tl:=(AR++bs)) (hd':=[_,_,_,_]) [0,2,3,1] Z Z))) Z λz9 hz9=>?_
  obtain ⟨H1,ro,rv,xo,xv,AR⟩:=z9;obtain ⟨u1,S⟩:=hz9;dsimp only at u1 S|-;refine Sx.reSt (λW s=>St.mid (a:=[_,_,_]) (d:=AR) (c:=[_]) s) ?_;refine .nl<|.bN<|?_
  refine retN (.inr Z) rfl .nil rfl λW s=>?_;have e0:operandP l ⟨q,o::r,x,false,dn⟩=varP l ⟨q,o::r,x,false,dn⟩:=(opd_no hff hno).trans (re2_nam hk1);rw [e0];exact ⟨(_,_,_,_,_,AR),⟨u1,⟨S.ops,S.vls⟩⟩,Z,s.pickT (hd:=[_,_,_,_]) (tl:=(AR++bs)) (hd':=[_,_,_]) [0,1,2] rfl rfl⟩
 have hk1:¬ (tkf l q.i).k=1:=λe=>Al_of_decide_eq_false h66 (by rw [e];rfl);refine .sm Z<|.cs (X:=Unit) Fx.call107 Z (λW s=>accept_f K hq [110,111,119] (s.pickT (hd:=[_,_,_,_]) (tl:=(AR++bs)) (hd':=[_,_,_,_]) [0,1,2,3] Z Z)) Z λ_ _=>.aq Z<|.cd Z (λh72=>?_) (λh72=>?_)
 ·have a72:Rq.ac l [110,111,119] q=true:=h72;rw [acF_T a72];refine .rg<|.mv Z<|.yw (.build Z (Fx.bld76_0 _))<|.yw (.build Z (Fx.bld179_0_2 _ _ _ _ _))<|.cs (X:=Option Addr × Nat) Fx.call108 Z (λW s=>give_f K (wi_ac K.gd.last hq a72) (by simp [Value.oneCell',strV]) hn2 (s.pickT (hd:=[_,_,_,_]) (tl:=(AR++bs)) (hd':=[_,_,_,_]) [0,3,1,2] Z Z)) Z λp9 _=>.nl<|.bN<|?_
  refine retN (.inr Z) rfl .nil rfl λW s=>?_;have e0:operandP l ⟨q,o::r,x,false,dn⟩=giveS (tmv (.mk 4 [] 0 [])) (((⟨q,o::r,x,false,dn⟩:Ps)).at q.nx):=(opd_no hff hno).trans (re2_now a72);rw [e0];exact ⟨(_,_,_,_,_,AR),⟨.refl,⟨S.ops,.cons S.vls ⟨ExR.zero rfl (Al_Nat_zero_le _),FmR.zero rfl rfl (Al_Nat_zero_le _) (Al_Nat_zero_le _)⟩⟩⟩,Z,s.pickT (hd:=[_,_,_,_]) (tl:=(AR++bs)) (hd':=[_,_,_]) [0,3,1] rfl rfl⟩
 have a72:Rq.ac l [110,111,119] q=false:=h72;rw [acF_F a72];refine .sm Z<|.cs (X:=Unit) Fx.call107 Z (λW s=>accept_f K hq [115,105,122,101] (s.pickT (hd:=[_,_,_,_]) (tl:=(AR++bs)) (hd':=[_,_,_,_]) [0,1,2,3] Z Z)) Z λ_ _=>.aq Z<|.cd Z (λh79=>?_) (λh79=>?_)
 ·have a79:Rq.ac l [115,105,122,101] q=true:=h79;rw [acF_T a79];refine .sm Z<|.cs (X:=Unit) Fx.call112 Z (λW s=>pair_f K (wi_ac K.gd.last hq a79) 0 (s.pickT (hd:=[_,_,_,_]) (tl:=(AR++bs)) (hd':=[_,_,_,_]) [0,1,2,3] Z Z)) Z λ_ _=>.al Fx.zero35 Z λb4=>.sX .head Z Z Fx.size35 Z<|.nt<|.rg<|.mv Z<|.fA Z Fx.field35_1<|.lD Z Fx.agg9 Hm Z<|.yw (.app Z Z (by have h1:=nmV_len K (wi_ac K.gd.last hq a79);have h2:=nmV_len K (wi_ex K.gd.last (wi_nm K.gd.last (wi_ac K.gd.last hq a79)) (w:=[46]));show (Rq.nmV l q.nx).length+1<=_;omega))<|.fA Z Fx.field35_2<|.lD Z Fx.agg9 Hm Z<|.yw (.app Z Z (by have h1:=nmV_len K (wi_ac K.gd.last hq a79);have h2:=nmV_len K (wi_ex K.gd.last (wi_nm K.gd.last (wi_ac K.gd.last hq a79)) (w:=[46]));simp only [Al_List_length_append,Al_List_length_cons,Al_List_length_nil];unfold Rq.paN Rq.paF;omega))<|.yw (.build Z (Fx.bld76_0_1 _ _))<|.yw (.build Z (Fx.bld179_0_2 _ _ _ _ _))<|.cs (X:=Option Addr × Nat) Fx.call108 Z (λW s=>give_f K (wi_pa K.gd.last (wi_ac K.gd.last hq a79)) (by simp [Value.oneCell',strV]) hn2 (s.pickT (hd:=[_,_,_,_,_]) (tl:=(AR++bs)) (hd':=[_,_,_,_,_]) [1,4,0,2,3] Z Z)) Z λp9 _=>.nl<|.bN<|?_
  refine retN (.inr Z) rfl .nil rfl λW s=>?_;have e0:operandP l ⟨q,o::r,x,false,dn⟩=giveS (tmv (.mk 8 (q.nx.paN l++[46]++q.nx.paF l) 0 [])) (((⟨q,o::r,x,false,dn⟩:Ps)).at (q.nx.paS l)):=(opd_no hff hno).trans (re2_siz a79);rw [e0];exact ⟨(_,_,_,_,_,AR),⟨.refl,⟨S.ops,.cons S.vls ⟨ExR.zero rfl (by have h1:=nmV_len K (wi_ac K.gd.last hq a79);have h2:=nmV_len K (wi_ex K.gd.last (wi_nm K.gd.last (wi_ac K.gd.last hq a79)) (w:=[46]));show (Rq.paN l q.nx++[46]++Rq.paF l q.nx).length<=1000000;unfold Rq.paN Rq.paF;simp only [Al_List_length_append,Al_List_length_cons,Al_List_length_nil];omega),FmR.zero rfl rfl (Al_Nat_zero_le _) (Al_Nat_zero_le _)⟩⟩⟩,Z,s.pickT (hd:=[_,_,_,_,_]) (tl:=(AR++bs)) (hd':=[_,_,_]) [0,4,1] rfl rfl⟩
 have a79:Rq.ac l [115,105,122,101] q=false:=h79;rw [acF_F a79];refine .sm Z<|.cs (X:=Unit) Fx.call107 Z (λW s=>accept_f K hq [116,114,117,101] (s.pickT (hd:=[_,_,_,_]) (tl:=(AR++bs)) (hd':=[_,_,_,_]) [0,1,2,3] Z Z)) Z λ_ _=>.aq Z<|.cd Z (λh94=>?_) (λh94=>?_)
 ·have a94:Rq.ac l [116,114,117,101] q=true:=h94;rw [acF_T a94];refine .rg<|.mv Z<|.yw (.build Z (Fx.bld35_0 _))<|.yw (.build Z (Fx.bld179_3 _ _ _ _ _ _ _))<|.cs (X:=Option Addr × Nat) Fx.call108 Z (λW s=>give_f K (wi_ac K.gd.last hq a94) (by simp [Value.oneCell',strV]) hn2 (s.pickT (hd:=[_,_,_,_]) (tl:=(AR++bs)) (hd':=[_,_,_,_]) [0,3,1,2] Z Z)) Z λp9 _=>.nl<|.bN<|?_
  refine retN (.inr Z) rfl .nil rfl λW s=>?_;have e0:operandP l ⟨q,o::r,x,false,dn⟩=giveS (fmv (.mk 1 [] [] 0 0 [] [])) (((⟨q,o::r,x,false,dn⟩:Ps)).at q.nx):=(opd_no hff hno).trans (re2_tru a94);rw [e0];exact ⟨(_,_,_,_,_,AR),⟨.refl,⟨S.ops,.cons S.vls ⟨ExR.zero rfl (Al_Nat_zero_le _),FmR.zero rfl rfl (Al_Nat_zero_le _) (Al_Nat_zero_le _)⟩⟩⟩,Z,s.pickT (hd:=[_,_,_,_]) (tl:=(AR++bs)) (hd':=[_,_,_]) [0,3,1] rfl rfl⟩
 have a94:Rq.ac l [116,114,117,101] q=false:=h94;rw [acF_F a94];refine .sm Z<|.cs (X:=Unit) Fx.call107 Z (λW s=>accept_f K hq [102,97,108,115,101] (s.pickT (hd:=[_,_,_,_]) (tl:=(AR++bs)) (hd':=[_,_,_,_]) [0,1,2,3] Z Z)) Z λ_ _=>.aq Z<|.cd Z (λh101=>?_) (λh101=>?_)
 ·have a101:Rq.ac l [102,97,108,115,101] q=true:=h101;rw [acF_T a101];refine .rg<|.mv Z<|.yw (.build Z (Fx.bld35_0 _))<|.yw (.build Z (Fx.bld179_3 _ _ _ _ _ _ _))<|.cs (X:=Option Addr × Nat) Fx.call108 Z (λW s=>give_f K (wi_ac K.gd.last hq a101) (by simp [Value.oneCell',strV]) hn2 (s.pickT (hd:=[_,_,_,_]) (tl:=(AR++bs)) (hd':=[_,_,_,_]) [0,3,1,2] Z Z)) Z λp9 _=>.nl<|.bN<|?_
  refine retN (.inr Z) rfl .nil rfl λW s=>?_;have e0:operandP l ⟨q,o::r,x,false,dn⟩=giveS (fmv (.mk 2 [] [] 0 0 [] [])) (((⟨q,o::r,x,false,dn⟩:Ps)).at q.nx):=(opd_no hff hno).trans (re2_fal a101);rw [e0];exact ⟨(_,_,_,_,_,AR),⟨.refl,⟨S.ops,.cons S.vls ⟨ExR.zero rfl (Al_Nat_zero_le _),FmR.zero rfl rfl (Al_Nat_zero_le _) (Al_Nat_zero_le _)⟩⟩⟩,Z,s.pickT (hd:=[_,_,_,_]) (tl:=(AR++bs)) (hd':=[_,_,_]) [0,3,1] rfl rfl⟩
 have a101:Rq.ac l [102,97,108,115,101] q=false:=h101;rw [acF_F a101];refine .sm Z<|.cs (X:=Unit) Fx.call107 Z (λW s=>accept_f K hq [102,108,97,103] (s.pickT (hd:=[_,_,_,_]) (tl:=(AR++bs)) (hd':=[_,_,_,_]) [0,1,2,3] Z Z)) Z λ_ _=>.aq Z<|.cd Z (λh108=>?_) (λh108=>?_)
 ·have a108:Rq.ac l [102,108,97,103] q=true:=h108;rw [acF_T a108];refine .rg<|.mv Z<|.mv Z<|.cs (X:=Unit) Fx.call113 Z (λW s=>name_f K (wi_ac K.gd.last hq a108)  (s.pickT (hd:=[_,_,_,_]) (tl:=(AR++bs)) (hd':=[_,_,_,_]) [0,1,2,3] Z Z)) Z λ_ _=>.yw (.build Z (Fx.bld35_0_1 _ _))<|.yw (.build Z (Fx.bld179_3 _ _ _ _ _ _ _))<|.cs (X:=Option Addr × Nat) Fx.call108 Z (λW s=>give_f K (wi_nm K.gd.last (wi_ac K.gd.last hq a108)) (by simp [Value.oneCell',strV]) hn2 (s.pickT (hd:=[_,_,_,_]) (tl:=(AR++bs)) (hd':=[_,_,_,_]) [0,3,1,2] Z Z)) Z λp9 _=>.nl<|.bN<|?_
  refine retN (.inr Z) rfl .nil rfl λW s=>?_;have e0:operandP l ⟨q,o::r,x,false,dn⟩=giveS (fmv (.mk 6 (q.nx.nmV l) [] 0 0 [] [])) (((⟨q,o::r,x,false,dn⟩:Ps)).at (q.nx.nmS l)):=(opd_no hff hno).trans (re2_flg a108);rw [e0];exact ⟨(_,_,_,_,_,AR),⟨.refl,⟨S.ops,.cons S.vls ⟨ExR.zero rfl (Al_Nat_zero_le _),FmR.zero rfl rfl (Al_Nat_le_trans (nmV_len K (wi_ac K.gd.last hq a108)) (by decide)) (Al_Nat_zero_le _)⟩⟩⟩,Z,s.pickT (hd:=[_,_,_,_]) (tl:=(AR++bs)) (hd':=[_,_,_]) [0,3,1] rfl rfl⟩
 have a108:Rq.ac l [102,108,97,103] q=false:=h108;rw [acF_F a108];refine .sm Z<|.cs (X:=Unit) Fx.call107 Z (λW s=>accept_f K hq [104,97,115] (s.pickT (hd:=[_,_,_,_]) (tl:=(AR++bs)) (hd':=[_,_,_,_]) [0,1,2,3] Z Z)) Z λ_ _=>.aq Z<|.cd Z (λh117=>?_) (λh117=>?_)
 ·have a117:Rq.ac l [104,97,115] q=true:=h117;rw [acF_T a117];refine .sm Z<|.cs (X:=Unit) Fx.call112 Z (λW s=>pair_f K (wi_ac K.gd.last hq a117) 5 (s.pickT (hd:=[_,_,_,_]) (tl:=(AR++bs)) (hd':=[_,_,_,_]) [0,1,2,3] Z Z)) Z λ_ _=>.al Fx.zero35 Z λb5=>.sX .head Z Z Fx.size35 Z<|.ns<|.mv Z<|.cs (X:=Unit) Fx.call114 Z (λW s=>expect_f K (wi_pa K.gd.last (wi_ac K.gd.last hq a117)) [91] (s.pickT (hd:=[_,_,_,_,_]) (tl:=(AR++bs)) (hd':=[_,_,_,_,_]) [1,0,2,3,4] Z Z)) Z λ_ _=>.nt<|.rg<|.mv Z<|.yw (.loadW Z Fx.agg35 mem1 Z)<|.yw (.build Z (Fx.bld97_0_2_4 _ _ _ _ _ _ _ _ _))<|.cs (X:=Option Addr × Nat) Fx.call109 Z (λW s=>push_f K (wi_ex K.gd.last (wi_pa K.gd.last (wi_ac K.gd.last hq a117))) (by simp [Value.oneCell',strV]) (Al_Nat_le_trans hn1 (by decide)) (t':=false) (λh=>absurd h (Nat.lt_irrefl 0)) (s.pickT (hd:=[_,_,_,_,_]) (tl:=(AR++bs)) (hd':=[_,_,_,_,_]) [0,3,1,2,4] Z Z)) Z λp9 _=>.nl<|.bN<|?_
  refine retN (.inr Z) rfl .nil rfl λW s=>?_;have e0:operandP l ⟨q,o::r,x,false,dn⟩=pushS ⟨4,0,true,0,q.nx.paV l 5⟩ (((⟨q,o::r,x,false,dn⟩:Ps)).at ((q.nx.paS l).exS l [91])):=(opd_no hff hno).trans (re2_has a117);rw [e0];exact ⟨(_,_,_,_,_,AR),⟨.refl,⟨.cons S.ops (by show ¬ (4:UInt8)=5;decide) (FmR.zero rfl rfl (Al_Nat_le_trans (nmV_len K (wi_ac K.gd.last hq a117)) (by decide)) (Al_Nat_le_trans (nmV_len K (wi_ex K.gd.last (wi_nm K.gd.last (wi_ac K.gd.last hq a117)))) (by decide))),S.vls⟩⟩,Z,s.pickT (hd:=[_,_,_,_,_]) (tl:=(AR++bs)) (hd':=[_,_,_]) [0,1,4] rfl rfl⟩
 have a117:Rq.ac l [104,97,115] q=false:=h117;rw [acF_F a117];refine .sm Z<|.cs (X:=Unit) Fx.call107 Z (λW s=>accept_f K hq [97,114,114,105,118,101,115] (s.pickT (hd:=[_,_,_,_]) (tl:=(AR++bs)) (hd':=[_,_,_,_]) [0,1,2,3] Z Z)) Z λ_ _=>.aq Z<|.cd Z (λh128=>?_) (λh128=>?_)
 ·have a128:Rq.ac l [97,114,114,105,118,101,115] q=true:=h128;rw [acF_T a128];refine .rg<|.mv Z<|.cs (X:=Hp × Value × Value × List Value × List Value × List Res) Fx.call115 Z (λW s=>arrives_f K (wf_at (q:=⟨q,o::r,x,false,dn⟩) (c:=q.nx) Wq (wi_ac K.gd.last hq a128) (Nat.le_succ _)) S.at (St.mid (a:=[_,_,_]) (d:=[_]) (s.pickT (hd:=[_,_,_,_]) (tl:=(AR++bs)) (hd':=[_,_,_,_]) [0,2,3,1] Z Z))) Z λz9 hz9=>?_
  obtain ⟨H1,ro,rv,xo,xv,AR⟩:=z9;obtain ⟨u1,S⟩:=hz9;dsimp only at u1 S|-;refine Sx.reSt (λW s=>St.mid (a:=[_,_,_]) (d:=AR) (c:=[_]) s) ?_;refine .nl<|.bN<|?_
  refine retN (.inr Z) rfl .nil rfl λW s=>?_;have e0:operandP l ⟨q,o::r,x,false,dn⟩=arrP l (((⟨q,o::r,x,false,dn⟩:Ps)).at q.nx):=(opd_no hff hno).trans (re2_arr a128);rw [e0];exact ⟨(_,_,_,_,_,AR),⟨u1,⟨S.ops,S.vls⟩⟩,Z,s.pickT (hd:=[_,_,_,_]) (tl:=(AR++bs)) (hd':=[_,_,_]) [0,1,2] rfl rfl⟩
 have a128:Rq.ac l [97,114,114,105,118,101,115] q=false:=h128;rw [acF_F a128];refine .rg<|.mv Z<|.cs (X:=Unit) Fx.call104 Z (λW s=>fail_f K hq 8 (s.pickT (hd:=[_,_,_,_]) (tl:=(AR++bs)) (hd':=[_,_,_,_]) [0,1,2,3] Z Z)) Z λ_ _=>.nl<|.bN<|?_
 refine retN (.inr Z) rfl .nil rfl λW s=>?_
 have e0:operandP l ⟨q,o::r,x,false,dn⟩=(((⟨q,o::r,x,false,dn⟩:Ps)).at (q.fail l 8)):=(opd_no hff hno).trans (re2_non a44 hk3 hk1 (λw hw=>by
  simp only [priW,Al_List_mem_cons,List.not_mem_nil,or_false] at hw;rcases hw with rfl | rfl | rfl | rfl | rfl | rfl | rfl | rfl
  ·exact a72
  ·exact a94
  ·exact a101
  ·exact a108
  ·exact a117
  ·exact a128
  ·exact a79
  ·exact a50))
 rw [e0];exact ⟨(_,_,_,_,_,AR),⟨.refl,⟨S.ops,S.vls⟩⟩,Z,s.pickT (hd:=[_,_,_,_]) (tl:=(AR++bs)) (hd':=[_,_,_]) [0,2,3] rfl rfl⟩
def fwords:List Str:=[[],[116,114,117,101],[102,97,108,115,101],[],[],[104,97,115],[102,108,97,103],[97,114,114,105,118,101,115],[110,111,116],[97,110,100],[111,114],[105,109,112,108,105,101,115],[112,114,101,118,105,111,117,115],[111,110,99,101],[97,108,119,97,121,115],[115,105,110,99,101],[102,111,114,97,108,108],[101,120,105,115,116,115],[99,111,117,110,116]]
def wordF (op:UInt8):Str:=fwords.getD op.toNat []
def symT (op:UInt8):Str:=fsyms.getD op.toNat []
def tlv (op:UInt8):Nat:=if op=14\/op=15 then 4 else if op=11\/op=12\/op=13 then 5 else if op=9 then 6 else 7
def prnT (b:Bool) (s:Str):Str:=if b then [40]++s++[41] else s
def tmOp (op:UInt8) (nm:Str) (n:Int64) (l:List (UInt8 × Str)):Str :=
 if op=1 then Lib.itoa n.toInt
 else if op=4 then [110,111,119]
 else if op=5 then nm
 else if op=6 then nm++[91]++(l.headD (0,[])).2++[93]
 else if op=8 then [115,105,122,101,32]++nm
 else if op=9 then [45]++prnT (decide (tlv (l.headD (0,[])).1<6)) (l.headD (0,[])).2
 else if op=11\/op=12\/op=13\/op=14\/op=15 then
  prnT (decide (tlv (l.headD (0,[])).1<tlv op)) (l.headD (0,[])).2++[32]++symT op++[32]++prnT (decide (tlv ((l.drop 1).headD (0,[])).1<tlv op+1)) ((l.drop 1).headD (0,[])).2
 else [95]
mutual
def tmT:Ex->Str
 | .mk op nm n args=>tmOp op nm n (tmTs args)
def tmTs:List Ex->List (UInt8 × Str)
 | []=>[]
 | e::r=>(e.op,tmT e)::tmTs r
end
def winT (f:Fm):Str:=if !(fsOf f.op).wn || decide (f.b.toInt<0) then [] else [91]++Lib.itoa f.a.toInt++[44,32]++Lib.itoa f.b.toInt++[93]
def amoT (f:Fm):Str:=[32]++f.nm++[32,105,110,32]++Lib.itoa f.a.toInt++[46,46]++Lib.itoa f.b.toInt
def joiT (sep:Str):List Str->Str
 | []=>[]
 | [x]=>x
 | x::r=>x++sep++joiT sep r
def exH (f:Fm):Ex:=f.ex.headD zE
def ex0 (e:Ex):Ex:=e.args.headD zE
def ex1 (e:Ex):Ex:=(e.args.drop 1).headD zE
def fmOp (f:Fm) (l:List (UInt8 × Str)):Str :=
 if f.op=3 then tmT (ex0 (exH f))++[32]++symT (exH f).op++[32]++tmT (ex1 (exH f))
 else if f.op=4 then f.nm++[46]++f.fd
 else if f.op=5 then wordF f.op++[32]++f.nm++[46]++f.fd++[91]++tmT (exH f)++[93]
 else if f.op=6 then wordF f.op++[32]++f.nm
 else if f.op=7 then wordF f.op++[32]++f.nm++[46]++f.fd++[40]++joiT [44,32] (f.ex.map tmT)++[41]
 else if f.op=8\/f.op=12\/f.op=13\/f.op=14 then wordF f.op++winT f++[32]++prnT (decide ((fsOf (l.headD (0,[])).1).lv<5)) (l.headD (0,[])).2
 else if f.op=16\/f.op=17 then wordF f.op++amoT f++[32]++prnT (decide ((fsOf (l.headD (0,[])).1).lv<5)) (l.headD (0,[])).2
 else if f.op=18 then wordF f.op++amoT f++[32,40]++(l.headD (0,[])).2++[41,32,62,61,32]++tmT (exH f)
 else if f.op=15\/f.op=9\/f.op=10\/f.op=11 then
  prnT (decide ((fsOf (l.headD (0,[])).1).lv<(fsOf f.op).lv)) (l.headD (0,[])).2++[32]++wordF f.op++winT f++[32]++prnT (decide ((fsOf ((l.drop 1).headD (0,[])).1).lv<(fsOf f.op).lv+1)) ((l.drop 1).headD (0,[])).2
 else wordF f.op
mutual
def fmT:Fm->Str
 | .mk op nm fd a b ex args=>fmOp (.mk op nm fd a b ex args) (fmTs args)
def fmTs:List Fm->List (UInt8 × Str)
 | []=>[]
 | f::r=>(f.op,fmT f)::fmTs r
end
def textF (f:Fm):Str:=if fcheck f=0 then fmT f else []
def fsC (s:Fs):List Value:=[.int .u8 (s.lv:Nat),.bool s.nm,.bool s.fd,.bool s.wn,.bool s.am,.int .u8 (s.ex:Nat),.int .u8 (s.ar:Nat)]
structure Gf (H:Hp):Prop where
 words:MemAt H 0 0 (fwords.map strV)
 syms:MemAt H 1 0 (fsyms.map strV)
 shapes:MemAt H 2 0 (fshapes.flatMap fsC)
variable {H':Hp}
theorem Gf.up (g:Gf H) (u:Up H H'):Gf H':=⟨g.words.up u,g.syms.up u,g.shapes.up u⟩
theorem fshape_any (H:Hp) (G:Gf H) (op:UInt8) (w:World) (hA:Agr H w):Calls prg 74 #[.int .u8 op.toNat] w λr w'=>r=.returned (.agg (fsC (fsOf op)).toArray)/\Ext w w':=by
 refine Sx.enter (H:=H) func74 rfl ntmps74 rfl hA ?_;refine .sr<|.al Fx.zero157 Z λb2=>.nt<|.sq<|.sm Z<|.yw (.conv Z Fx.int5 Fx.int3 (c:=((op.toNat:Nat):Int)) (w64 (by have:=op.toNat_lt;omega) (by have:=op.toNat_lt;omega)))<|.yw (.geq Z Z)<|.nt<|.ce Z (λh5=>?_) (λh5=>?_)
 ·refine .sr<|.yw (.build Z Fx.bld157)<|.sX .head Z Z Fx.size157 Z<|.nt<|.rt<|.tR<|?_
  refine y8 Z (.cell Z Fx.agg157 Hm rfl) λW s=>⟨?_,s.ext⟩
  first
   | (rw [show fsOf op=zFs from (by unfold fsOf;rw [List.getD_eq_getElem?_getD,List.getElem?_eq_none (by show 19<=op.toNat;omega)];rfl)];rfl)
   | rfl
 refine .sk<|.tN<|.sm Z<|.yw (.indexArr Fx.arr200 Z Z Z (by omega) (q:=op.toNat * 7) (by omega))<|.yw (.loadMS (k:=op.toNat * 7) (vs:=fsC (fshapes.getD op.toNat zFs)) Z Fx.agg157 G.shapes (by omega) Z (flat_at (f:=fsC) (z:=7) (l:=fshapes) (i:=op.toNat) (λ_=>rfl) _ (by show op.toNat<19;omega)))<|.sV .head Z Z Fx.size157 Z (by simp [fsC,Value.oneCell',strV]) Z<|.nt<|.rt<|?_
 refine y8 Z (.cell Z Fx.agg157 Hm rfl) λW s=>⟨?_,s.ext⟩
 first
  | (rw [show fsOf op=zFs from (by unfold fsOf;rw [List.getD_eq_getElem?_getD,List.getElem?_eq_none (by show 19<=op.toNat;omega)];rfl)];rfl)
  | rfl
set_option maxHeartbeats 2000000 in
theorem between_f {l:Tks} {op:List Ov} {x:Vb} {dn:Bool} (K:Tkf H l tp tc) (Wq:Fwf l ⟨q,op,x,true,dn⟩) (S:Sq H ⟨q,op,x,true,dn⟩ xo xv AR) (op8:UInt8) (hnx:q.nx.i<l.length) (s:St H w0 (.box b [.slice tp l.length tc,iN q.i,ro,rv,.bool true,.bool dn,.bool x.2,iN q.off,iN q.er] 102::.row 97 11 (ro) (op.length) (xo)::.row 179 13 (rv) (x.1.length) (xv)::(AR++bs)) W) :
 Calls prg 99 #[.pointer (some ⟨b,0,none⟩),.int .u8 op8.toNat] W (Get w0 bs b l tp tc H (betP l op8 ⟨q,op,x,true,dn⟩)):=by
 have hq:q.i<l.length:=Wq.i;have hnx2:q.i+1<l.length:=hnx;have hcap:=K.rep.cap;obtain ⟨hn1,hn2⟩:=wf_len Wq K.few;dsimp only at hn1 hn2;have hv1:1<=x.1.length:=by have:=Wq.vs;dsimp only at this;rw [this];exact Nat.le_add_left _ _
 obtain ⟨vs,bd⟩:=x;dsimp only at hv1 hn2;obtain ⟨v,V,rfl⟩:=list1 hv1;dsimp only [List.length_cons] at hn2;obtain ⟨yr,t0,t1,t2,e4,VS1,V1⟩:=VR.inv S.vls;try dsimp only at e4
 subst e4;have hlv:=VS1.len;refine enterS func99 rfl ntmps99 rfl s ?_;refine Sx.rowCase (size:=13) (r:=rv) (e:=179) mem2 (Nat.succ_pos _) λg2 c2 e hkc2=>?_;subst e;try dsimp only [List.length_cons] at hkc2
 dsimp only [List.length_cons];refine .sm Z<|.yw (.build Z (Fx.bld97_0_1_3 _ _ _))<|.al Fx.zero97 Z λb4=>.sX .head Z Z Fx.size97 Z<|.nt<|.sq<|.bk<|.sm Z<|.yw (.leq Z Z)<|.aq Z<|.cd Z (λh8=>?_) (λh8=>?_)
 ·have h13:op8<=13:=by rw [UInt8.le_iff_toNat_le];have:=Al_of_decide_eq_true h8;show op8.toNat<=13;omega
  have h16:¬ (16:UInt8)<=op8:=λe=>by rw [UInt8.le_iff_toNat_le] at e h13;have e1:(16:UInt8).toNat=16:=rfl;have e2:(13:UInt8).toNat=13:=rfl;omega
  refine .rg<|.fA Z Fx.field97_1<|.st .head Z Z Fx.size3 Z (nb Z) Z<|.nl<|.bN<|.tN<|.sq<|.fL 13 [(0,0),(1,0),(2,0),(3,0),(4,0),(5,0),(6,0),(7,0),(8,0),(9,0),(10,0),(11,0),(12,0)]<|.mv Z<|.nC Z<|.fA Z Fx.field102_3<|.lD Z Fx.agg100 mem1 Z<|.mv Z<|.nC Z<|.fA Z Fx.field102_3<|.lD Z Fx.agg100 mem1 Z<|.yw (.lenSl Fx.sl100 Z)<|.yw (.sub Z Z (c:=((V.length:Nat):Int)) ((w6 (by omega)).trans (by omega)))<|.yw (.indexSl Fx.sl100 Z Z (i:=V.length) Z (by omega) (q:=V.length * 13) (by omega))<|.fA Z Fx.field179_1<|.yw (.loadR1 Z Fx.agg4 mem3 (app_at hlv Z))<|.fn (tl:=[_]) Z<|.aq Z<|.sq<|.sr<|.fA Z Fx.field97_0<|.lD Z Fx.agg95 Hm Z<|.yw (.cast (.eql Z Z) (congrArg Value.bool (Al_decide_eq_false (by decide))))<|.nt<|.cF Z<|.rg<|.mv Z<|.fA Z Fx.field97_1<|.lD Z Fx.agg3 Hm Z<|.cs (X:=Hp × Value × Value × List Value × List Value × List Res) Fx.call102 Z (λW s=>reduce_f K Wq S 8 (by omega) (St.mid (a:=[_,_,_]) (d:=[_]) (s.pickT (hd:=[_,_,_,_]) (tl:=(AR++bs)) (hd':=[_,_,_,_]) [1,2,3,0] Z Z))) Z λz9 hz9=>?_
  obtain ⟨H1,ro,rv,xo,xv,AR⟩:=z9;obtain ⟨u1,S⟩:=hz9;dsimp only at u1 S|-;refine Sx.reSt (λW s=>St.mid (a:=[_,_,_]) (d:=AR) (c:=[_]) s) ?_;obtain ⟨op7,x7,e7⟩:∃ op7 x7,redP 8 (⟨q,op,(v::V,bd),true,dn⟩:Ps)=⟨q,op7,x7,true,dn⟩:=⟨_,_,Z⟩;rw [e7] at S|-;dsimp only at S|-;have W7:Fwf l ⟨q,op7,x7,true,dn⟩:=by rw [<-e7];exact wf_red (by omega) Wq rfl
  obtain ⟨hm1,hm2⟩:=wf_len W7 K.few;dsimp only at hm1 hm2;have hne7:op7≠[]:=W7.ne;refine .nt<|.sq<|.sm Z<|.nt<|.cd Z (λh55=>?_) (λh55=>?_)
  ·have hwh:v.wh=true:=h55;refine .sm Z<|.cs (X:=Unit) Fx.call104 Z (λW s=>fail_f (K.up u1.up) hq 8 (s.pickT (hd:=[_,_,_,_]) (tl:=(AR++bs)) (hd':=[_,_,_,_]) [0,1,2,3] Z Z)) Z λ_ _=>.nt<|.rt<|.tR<|?_
   refine y7 Z .nil rfl λW s=>?_
   have e0:betP l op8 ⟨q,op,(v::V,bd),true,dn⟩=(⟨q,op7,x7,true,dn⟩:Ps).at (q.fail l 8):=by
    unfold betP;rw [Al_if_neg h16,Al_if_pos h13,e7,Al_if_pos];exact hwh
   rw [e0];exact ⟨(_,_,_,_,_,AR),⟨u1,⟨S.ops,S.vls⟩⟩,Z,s.pickT (hd:=[_,_,_,_]) (tl:=(AR++bs)) (hd':=[_,_,_]) [0,1,2] rfl rfl⟩
  have hwh:v.wh=false:=h55;refine .sk<|.tN<|.sm Z<|.nC Z<|.fA Z Fx.field102_1<|.lD Z Fx.agg3 Hm Z<|.yw (.add Z Z (c:=((q.nx.i:Nat):Int)) ((w6 (by omega)).trans (by show _=((q.i+1:Nat):Int);omega)))<|.nC Z<|.fA Z Fx.field102_1<|.st .head Z Z Fx.size3 Z (nb Z) Z<|.nt<|.rg<|.mv Z<|.yw (.loadW Z Fx.agg97 mem3 Z)<|.cs (X:=Option Addr × Nat) Fx.call109 Z (λW s=>push_f (K.up u1.up) hnx (by simp [Value.oneCell',strV]) (Al_Nat_le_trans hm1 (by decide)) (λ_=>S.ops.tm hne7) (s.pickT (hd:=[_,_,_,_]) (tl:=(AR++bs)) (hd':=[_,_,_,_]) [0,1,2,3] Z Z)) Z λp9 _=>.nl<|?_
  refine retN (.inr Z) rfl .nil rfl λW s=>?_
  have e0:betP l op8 ⟨q,op,(v::V,bd),true,dn⟩=pushS ⟨9,8,false,op8,zF⟩ ((⟨q,op7,x7,true,dn⟩:Ps).at q.nx):=by
   unfold betP;rw [Al_if_neg h16,Al_if_pos h13,e7,Al_if_neg];show ¬ (topV (v::V,bd)).wh=true;rw [show (topV (v::V,bd)).wh=false from hwh];decide
  rw [e0];exact ⟨(_,_,_,_,_,AR),⟨u1,⟨.cons S.ops (by show ¬ (9:UInt8)=5;decide) (FmR.zero rfl rfl (Al_Nat_zero_le _) (Al_Nat_zero_le _)),S.vls⟩⟩,Z,s.pickT (hd:=[_,_,_,_]) (tl:=(AR++bs)) (hd':=[_,_,_]) [0,1,2] rfl rfl⟩
 have h13:¬ op8<=13:=λe=>Al_of_decide_eq_false h8 (by rw [UInt8.le_iff_toNat_le] at e;have e2:(13:UInt8).toNat=13:=rfl;omega);refine .sm Z<|.yw (.geq Z Z)<|.aq Z<|.cd Z (λh12=>?_) (λh12=>?_)
 ·have h16:(16:UInt8)<=op8:=by rw [UInt8.le_iff_toNat_le];have:=Al_of_decide_eq_true h12;show 16<=op8.toNat;omega
  refine .rg<|.fA Z Fx.field97_0<|.st .head Z Z Fx.size95 Z (nb Z) Z<|.fA Z Fx.field97_1<|.st .head Z Z Fx.size3 Z (nb Z) Z<|.nl<|.bN<|.tN<|.sq<|.fL 13 [(0,0),(1,0),(2,0),(3,0),(4,0),(5,0),(6,0),(7,0),(8,0),(9,0),(10,0),(11,0),(12,0)]<|.mv Z<|.nC Z<|.fA Z Fx.field102_3<|.lD Z Fx.agg100 mem1 Z<|.mv Z<|.nC Z<|.fA Z Fx.field102_3<|.lD Z Fx.agg100 mem1 Z<|.yw (.lenSl Fx.sl100 Z)<|.yw (.sub Z Z (c:=((V.length:Nat):Int)) ((w6 (by omega)).trans (by omega)))<|.yw (.indexSl Fx.sl100 Z Z (i:=V.length) Z (by omega) (q:=V.length * 13) (by omega))<|.fA Z Fx.field179_1<|.yw (.loadR1 Z Fx.agg4 mem3 (app_at hlv Z))<|.fn (tl:=[_]) Z<|.aq Z<|.sq<|.sr<|.fA Z Fx.field97_0<|.lD Z Fx.agg95 Hm Z<|.yw (.cast (.eql Z Z) (congrArg Value.bool (Al_decide_eq_true (by decide))))<|.nt<|.cT Z<|.sm Z<|.cs (X:=Hp × Value × Value × List Value × List Value × List Res) Fx.call102 Z (λW s=>reduce_f K Wq S 7 (by omega) (St.mid (a:=[_,_,_]) (d:=[_]) (s.pickT (hd:=[_,_,_,_]) (tl:=(AR++bs)) (hd':=[_,_,_,_]) [1,2,3,0] Z Z))) Z λz9 hz9=>?_
  obtain ⟨H1,ro,rv,xo,xv,AR⟩:=z9;obtain ⟨u1,S⟩:=hz9;dsimp only at u1 S|-;refine Sx.reSt (λW s=>St.mid (a:=[_,_,_]) (d:=AR) (c:=[_]) s) ?_;obtain ⟨op7,x7,e7⟩:∃ op7 x7,redP 7 (⟨q,op,(v::V,bd),true,dn⟩:Ps)=⟨q,op7,x7,true,dn⟩:=⟨_,_,Z⟩;rw [e7] at S|-;dsimp only at S|-;have W7:Fwf l ⟨q,op7,x7,true,dn⟩:=by rw [<-e7];exact wf_red (by omega) Wq rfl
  obtain ⟨hm1,hm2⟩:=wf_len W7 K.few;dsimp only at hm1 hm2;have hne7:op7≠[]:=W7.ne;refine .nt<|.rg<|.mv Z<|.mv Z<|.b2 (λh36=>?_) (λh36=>?_)
  ·have hwh:v.wh=true:=h36;refine .gG<|.gG<|.gG<|.gG<|.gG<|.yw (.pickT Z Z)<|.mv Z<|.gG<|.gG<|.gG<|.gG<|.gG<|.gG<|.yw (.pickT Z Z)<|.aq Z<|.sq<|.sm Z<|.nt<|.cT Z<|.sm Z<|.cs (X:=Unit) Fx.call104 Z (λW s=>fail_f (K.up u1.up) hq 8 (s.pickT (hd:=[_,_,_,_]) (tl:=(AR++bs)) (hd':=[_,_,_,_]) [0,1,2,3] Z Z)) Z λ_ _=>.nt<|.rt<|.tR<|?_
   refine y7 Z .nil rfl λW s=>?_
   have e0:betP l op8 ⟨q,op,(v::V,bd),true,dn⟩=(⟨q,op7,x7,true,dn⟩:Ps).at (q.fail l 8):=by
    unfold betP;rw [Al_if_pos h16,e7,Al_if_pos];show ((topV (v::V,bd)).wh || _ || _)=true;rw [show (topV (v::V,bd)).wh=true from hwh];rfl
   rw [e0];exact ⟨(_,_,_,_,_,AR),⟨u1,⟨S.ops,S.vls⟩⟩,Z,s.pickT (hd:=[_,_,_,_]) (tl:=(AR++bs)) (hd':=[_,_,_]) [0,1,2] rfl rfl⟩
  have hwh:v.wh=false:=h36;obtain ⟨o7,r7,rfl⟩:=list1 (l:=op7) (by cases op7 with | nil=>exact (hne7 rfl).elim | cons a t=>exact Nat.succ_pos _);dsimp only [List.length_cons] at hm1;obtain ⟨xr,s1,s2,e2,hlo,ho1,ho2⟩:=Ops.top S.ops;try dsimp only at e2
  subst e2;refine Sx.rowCase (size:=11) (r:=ro) (e:=97) mem1 (Nat.succ_pos _) λg c e hkc=>?_;subst e;refine .gy (.move Z)<|.gd Z Z<|.cs (X:=Unit) Fx.call105 Z (λW s=>top_f (K.up u1.up) hq (g:=g) (k:=r7.length) (c:=c) (by omega) (s.pickT (hd:=[_,_,_,_]) (tl:=(AR++bs)) (hd':=[_,_,_,_]) [0,1,2,3] Z Z)) Z λ_ _=>.gy (.nilCheck Z)<|.gy (.fieldAddr Z Fx.field97_2)<|.gy (.loadR1 Z Fx.agg4 mem1 (app_at hlo Z))<|.yw (.pickF Z Z)<|.mv Z<|.b2 (λh43=>?_) (λh43=>?_)
  ·have htm:o7.tm=true:=h43;refine .gG<|.gG<|.gG<|.gG<|.gG<|.gG<|.yw (.pickT Z Z)<|.aq Z<|.sq<|.sm Z<|.nt<|.cT Z<|.sm Z<|.cs (X:=Unit) Fx.call104 Z (λW s=>fail_f (K.up u1.up) hq 8 (s.pickT (hd:=[_,_,_,_]) (tl:=(AR++bs)) (hd':=[_,_,_,_]) [0,1,2,3] Z Z)) Z λ_ _=>.nt<|.rt<|.tR<|?_
   refine y7 Z .nil rfl λW s=>?_
   have e0:betP l op8 ⟨q,op,(v::V,bd),true,dn⟩=(⟨q,o7::r7,x7,true,dn⟩:Ps).at (q.fail l 8):=by
    unfold betP;rw [Al_if_pos h16,e7,Al_if_pos];show (_ || (topO (⟨q,o7::r7,x7,true,dn⟩:Ps)).tm || _)=true;rw [show (topO (⟨q,o7::r7,x7,true,dn⟩:Ps)).tm=true from htm,Bool.or_true];rfl
   rw [e0];exact ⟨(_,_,_,_,_,AR),⟨u1,⟨S.ops,S.vls⟩⟩,Z,s.pickT (hd:=[_,_,_,_]) (tl:=(AR++bs)) (hd':=[_,_,_]) [0,1,2] rfl rfl⟩
  have htm:o7.tm=false:=h43;refine .gy (.move Z)<|.gd Z Z<|.cs (X:=Unit) Fx.call105 Z (λW s=>top_f (K.up u1.up) hq (g:=g) (k:=r7.length) (c:=c) (by omega) (s.pickT (hd:=[_,_,_,_]) (tl:=(AR++bs)) (hd':=[_,_,_,_]) [0,1,2,3] Z Z)) Z λ_ _=>.gy (.nilCheck Z)<|.gy (.fieldAddr Z Fx.field97_0)<|.gy (.loadR1 Z Fx.agg95 mem1 (app_at hlo Z))<|.gy (.eql Z Z)<|.yw (.pickF Z Z)<|.aq Z<|.sq<|.sm Z<|.nt<|.cd Z (λh55=>?_) (λh55=>?_)
  ·have hk8:o7.kd=8:=Al_UInt8_toNat_inj.1 (by have:=Al_of_decide_eq_true h55;show o7.kd.toNat=8;omega);refine .sm Z<|.cs (X:=Unit) Fx.call104 Z (λW s=>fail_f (K.up u1.up) hq 8 (s.pickT (hd:=[_,_,_,_]) (tl:=(AR++bs)) (hd':=[_,_,_,_]) [0,1,2,3] Z Z)) Z λ_ _=>.nt<|.rt<|.tR<|?_
   refine y7 Z .nil rfl λW s=>?_
   have e0:betP l op8 ⟨q,op,(v::V,bd),true,dn⟩=(⟨q,o7::r7,x7,true,dn⟩:Ps).at (q.fail l 8):=by
    unfold betP;rw [Al_if_pos h16,e7,Al_if_pos];show (_ || _ || decide ((topO (⟨q,o7::r7,x7,true,dn⟩:Ps)).kd=8))=true;rw [Al_decide_eq_true (show (topO (⟨q,o7::r7,x7,true,dn⟩:Ps)).kd=8 from hk8),Bool.or_true]
   rw [e0];exact ⟨(_,_,_,_,_,AR),⟨u1,⟨S.ops,S.vls⟩⟩,Z,s.pickT (hd:=[_,_,_,_]) (tl:=(AR++bs)) (hd':=[_,_,_]) [0,1,2] rfl rfl⟩
  have hk8:¬ o7.kd=8:=λe=>Al_of_decide_eq_false h55 (by rw [e];rfl);refine .sk<|.tN<|.sm Z<|.nC Z<|.fA Z Fx.field102_1<|.lD Z Fx.agg3 Hm Z<|.yw (.add Z Z (c:=((q.nx.i:Nat):Int)) ((w6 (by omega)).trans (by show _=((q.i+1:Nat):Int);omega)))<|.nC Z<|.fA Z Fx.field102_1<|.st .head Z Z Fx.size3 Z (nb Z) Z<|.nt<|.rg<|.mv Z<|.yw (.loadW Z Fx.agg97 mem3 Z)<|.cs (X:=Option Addr × Nat) Fx.call109 Z (λW s=>push_f (K.up u1.up) hnx (by simp [Value.oneCell',strV]) (by show r7.length+1<=600001;omega) (λ_=>S.ops.tm hne7) (s.pickT (hd:=[_,_,_,_]) (tl:=(AR++bs)) (hd':=[_,_,_,_]) [0,1,2,3] Z Z)) Z λp9 _=>.nl<|?_
  refine retN (.inr Z) rfl .nil rfl λW s=>?_
  have e0:betP l op8 ⟨q,op,(v::V,bd),true,dn⟩=pushS ⟨8,6,false,op8,zF⟩ ((⟨q,o7::r7,x7,true,dn⟩:Ps).at q.nx):=by
   unfold betP;rw [Al_if_pos h16,e7,Al_if_neg];show ¬ ((topV (v::V,bd)).wh || (topO (⟨q,o7::r7,x7,true,dn⟩:Ps)).tm || decide ((topO (⟨q,o7::r7,x7,true,dn⟩:Ps)).kd=8))=true;rw [show (topV (v::V,bd)).wh=false from hwh,show (topO (⟨q,o7::r7,x7,true,dn⟩:Ps)).tm=false from htm,Al_decide_eq_false (show ¬ (topO (⟨q,o7::r7,x7,true,dn⟩:Ps)).kd=8 from hk8)]
   decide
  rw [e0];exact ⟨(_,_,_,_,_,AR),⟨u1,⟨.cons S.ops (by show ¬ (8:UInt8)=5;decide) (FmR.zero rfl rfl (Al_Nat_zero_le _) (Al_Nat_zero_le _)),S.vls⟩⟩,Z,s.pickT (hd:=[_,_,_,_]) (tl:=(AR++bs)) (hd':=[_,_,_]) [0,1,2] rfl rfl⟩
 have h16:¬ (16:UInt8)<=op8:=λe=>Al_of_decide_eq_false h12 (by rw [UInt8.le_iff_toNat_le] at e;have e2:(16:UInt8).toNat=16:=rfl;omega);refine .sk<|.bN<|.tN<|.sq<|.fL 13 [(0,0),(1,0),(2,0),(3,0),(4,0),(5,0),(6,0),(7,0),(8,0),(9,0),(10,0),(11,0),(12,0)]<|.mv Z<|.nC Z<|.fA Z Fx.field102_3<|.lD Z Fx.agg100 mem1 Z<|.mv Z<|.nC Z<|.fA Z Fx.field102_3<|.lD Z Fx.agg100 mem1 Z<|.yw (.lenSl Fx.sl100 Z)<|.yw (.sub Z Z (c:=((V.length:Nat):Int)) ((w6 (by omega)).trans (by omega)))<|.yw (.indexSl Fx.sl100 Z Z (i:=V.length) Z (by omega) (q:=V.length * 13) (by omega))<|.fA Z Fx.field179_1<|.yw (.loadR1 Z Fx.agg4 mem3 (app_at hlv Z))<|.fn (tl:=[_]) Z<|.aq Z<|.sq<|.sr<|.fA Z Fx.field97_0<|.lD Z Fx.agg95 Hm Z<|.yw (.cast (.eql Z Z) (congrArg Value.bool (Al_decide_eq_false (by decide))))<|.nt<|.cF Z<|.rg<|.mv Z<|.fA Z Fx.field97_1<|.lD Z Fx.agg3 Hm Z<|.cs (X:=Hp × Value × Value × List Value × List Value × List Res) Fx.call102 Z (λW s=>reduce_f K Wq S 7 (by omega) (St.mid (a:=[_,_,_]) (d:=[_]) (s.pickT (hd:=[_,_,_,_]) (tl:=(AR++bs)) (hd':=[_,_,_,_]) [1,2,3,0] Z Z))) Z λz9 hz9=>?_
 obtain ⟨H1,ro,rv,xo,xv,AR⟩:=z9;obtain ⟨u1,S⟩:=hz9;dsimp only at u1 S|-;refine Sx.reSt (λW s=>St.mid (a:=[_,_,_]) (d:=AR) (c:=[_]) s) ?_;obtain ⟨op7,x7,e7⟩:∃ op7 x7,redP 7 (⟨q,op,(v::V,bd),true,dn⟩:Ps)=⟨q,op7,x7,true,dn⟩:=⟨_,_,Z⟩;rw [e7] at S|-;dsimp only at S|-;have W7:Fwf l ⟨q,op7,x7,true,dn⟩:=by rw [<-e7];exact wf_red (by omega) Wq rfl
 obtain ⟨hm1,hm2⟩:=wf_len W7 K.few;dsimp only at hm1 hm2;have hne7:op7≠[]:=W7.ne;refine .nt<|.sq<|.sm Z<|.nt<|.cd Z (λh55=>?_) (λh55=>?_)
 ·have hwh:v.wh=true:=h55;refine .sm Z<|.cs (X:=Unit) Fx.call104 Z (λW s=>fail_f (K.up u1.up) hq 8 (s.pickT (hd:=[_,_,_,_]) (tl:=(AR++bs)) (hd':=[_,_,_,_]) [0,1,2,3] Z Z)) Z λ_ _=>.nt<|.rt<|.tR<|?_
  refine y7 Z .nil rfl λW s=>?_
  have e0:betP l op8 ⟨q,op,(v::V,bd),true,dn⟩=(⟨q,op7,x7,true,dn⟩:Ps).at (q.fail l 8):=by
   unfold betP;rw [Al_if_neg h16,Al_if_neg h13,e7,Al_if_pos];exact hwh
  rw [e0];exact ⟨(_,_,_,_,_,AR),⟨u1,⟨S.ops,S.vls⟩⟩,Z,s.pickT (hd:=[_,_,_,_]) (tl:=(AR++bs)) (hd':=[_,_,_]) [0,1,2] rfl rfl⟩
 have hwh:v.wh=false:=h55;refine .sk<|.tN<|.sm Z<|.nC Z<|.fA Z Fx.field102_1<|.lD Z Fx.agg3 Hm Z<|.yw (.add Z Z (c:=((q.nx.i:Nat):Int)) ((w6 (by omega)).trans (by show _=((q.i+1:Nat):Int);omega)))<|.nC Z<|.fA Z Fx.field102_1<|.st .head Z Z Fx.size3 Z (nb Z) Z<|.nt<|.rg<|.mv Z<|.yw (.loadW Z Fx.agg97 mem3 Z)<|.cs (X:=Option Addr × Nat) Fx.call109 Z (λW s=>push_f (K.up u1.up) hnx (by simp [Value.oneCell',strV]) (Al_Nat_le_trans hm1 (by decide)) (λ_=>S.ops.tm hne7) (s.pickT (hd:=[_,_,_,_]) (tl:=(AR++bs)) (hd':=[_,_,_,_]) [0,1,2,3] Z Z)) Z λp9 _=>.nl<|?_
 refine retN (.inr Z) rfl .nil rfl λW s=>?_
 have e0:betP l op8 ⟨q,op,(v::V,bd),true,dn⟩=pushS ⟨9,7,false,op8,zF⟩ ((⟨q,op7,x7,true,dn⟩:Ps).at q.nx):=by
  unfold betP;rw [Al_if_neg h16,Al_if_neg h13,e7,Al_if_neg];show ¬ (topV (v::V,bd)).wh=true;rw [show (topV (v::V,bd)).wh=false from hwh];decide
 rw [e0];exact ⟨(_,_,_,_,_,AR),⟨u1,⟨.cons S.ops (by show ¬ (9:UInt8)=5;decide) (FmR.zero rfl rfl (Al_Nat_zero_le _) (Al_Nat_zero_le _)),S.vls⟩⟩,Z,s.pickT (hd:=[_,_,_,_]) (tl:=(AR++bs)) (hd':=[_,_,_]) [0,1,2] rfl rfl⟩
theorem i0 {n:Int64} :decide (n.toInt=0)=decide (n=0):=by
 rw [Al_Bool_eq_iff_iff,Al_decide_eq_true_eq,Al_decide_eq_true_eq];exact ⟨λh=>Al_Int64_toInt_inj.1 h,λh=>by rw [h];rfl⟩
variable {n:Nat}
theorem n0:decide (((n:Nat):Int)=((k:Nat):Int))=decide (n=k):=by rw [Al_Bool_eq_iff_iff,Al_decide_eq_true_eq,Al_decide_eq_true_eq];omega
theorem any_take {l:List Ex} {p:Ex->Bool} (hk:k<l.length) (h:(l.take k).any p=false) (hp:p l[k]=false):(l.take (k+1)).any p=false:=by
 rw [List.take_succ,List.any_append,h,List.getElem?_eq_getElem hk];simp [hp]
theorem any_at {l:List Ex} {p:Ex->Bool} (hk:k<l.length) (hp:p l[k]=true):l.any p=true:=Al_List_any_eq_true.2 ⟨_,Al_List_getElem_mem hk,hp⟩
def ixV (l:List Ex) (p:Ex->Bool):Int:=match l.findIdx? p with | some i=>(i:Int) | none=>-1
theorem ix_at {l:List Ex} {p:Ex->Bool} (hk:k<l.length) (h:(l.take k).any p=false) (hp:p l[k]=true):ixV l p=(k:Int):=by
 unfold ixV
 rw [List.findIdx?_eq_some_iff_getElem.2 ⟨hk,hp,λj hj=>by
  have hm:l[j]∈l.take k:=List.mem_take_iff_getElem.2 ⟨j,by omega,Z⟩;have:=List.any_eq_false.1 h _ hm;exact this⟩]
theorem ix_no {l:List Ex} {p:Ex->Bool} (h:l.any p=false):ixV l p=-1:=by
 unfold ixV;rw [List.findIdx?_eq_none_iff.2 λx hx=>by have:=List.any_eq_false.1 h x hx;simpa using this]
theorem ix_any {l:List Ex} {p:Ex->Bool} :decide (0<=ixV l p)=l.any p:=by
 unfold ixV;cases h:l.findIdx? p with
 | some i =>
  obtain ⟨hi,hp,_⟩:=List.findIdx?_eq_some_iff_getElem.1 h;rw [Al_List_any_eq_true.2 ⟨_,Al_List_getElem_mem hi,hp⟩];exact Al_decide_eq_true (by show (0:Int)<=(i:Int);omega)
 | none =>
  rw [List.any_eq_false.2 λx hx=>by have:=List.findIdx?_eq_none_iff.1 h x hx;rw [this];decide];rfl
theorem any_mk {op:UInt8} {nm:Str} {n:Int64} {args:List Ex} :anyB (.mk op nm n args)=(decide (op=0) && decide (nm=[]) && decide (n=0) && decide (args.length=0)):=rfl
def EFn (H:Hp) (gf:FuncId) (ca:List Value) (p:Ex->Bool) (e:Ex):Prop:=∀ (cs:List Value) (W:World),Rep H (dEx .u8 e) cs->Agr H W->Calls prg gf (.agg cs.toArray::ca).toArray W λr W'=>r=.returned (.bool (p e))/\Ext W W'
variable {c:Nat}
theorem index_any (H:Hp) (gf:FuncId) (ca:List Value) (p:Ex->Bool) (l:List Ex) {pp:Option Addr} (hs:Rep H (.seq 4 (l.map (dEx .u8))) [.slice pp l.length c]) (hf:callN prg gf=true) (hg:∀ e∈l,EFn H gf ca p e) (w:World) (hA:Agr H w) :
 Calls prg 131 #[.slice pp l.length c,.func (.func gf) #[] ca.toArray] w λr w'=>r=.returned (.int .i64 (ixV l p))/\Ext w w':=by
 have hcap:=hs.cap;refine Sx.enter (H:=H) func131 rfl ntmps131 rfl hA ?_;refine .sr<|.aq Z<|.sq<|.sm Z<|.yw (.lenSl Fx.sl32 Z)<|.mv Z<|.nt<|.bk<|.lp (X:=Nat) [(0,_),(1,_),(7,_)] ⟨Z,Z,Z,Jt⟩ [] (λk=>[(8,iN k)]) (λk=>H) (λk=>[]) (λk=>k<=l.length/\(l.take k).any p=false) (λk=>l.length - k) 0 (λ_ s=>s) ⟨Z,Jt⟩ ⟨Al_Nat_zero_le _,Z⟩ λk hC=>?_
 obtain ⟨hk0,hal⟩:=hC;refine .sr<|.yw (.lss Z Z)<|.nt<|.sq<|.ce Z (λh9=>?_) (λh9=>?_)
 ·have hk:k<l.length:=by omega
  obtain ⟨bE,oE,cE,hpE,rE,lE,mE⟩:=hs.elem (map_at (f:=dEx .u8) hk);cases hpE;refine .sk<|.tN<|.sq<|.bk<|.sm Z<|.a Z Z<|.ns<|.mv Z<|.mv Z<|.mv Z<|.yw (.indexSl Fx.sl32 Z Z Z (by omega) (q:=oE+k * 4) Z)<|.yw (.loadMW Z Fx.agg76 mE lE)<|.yw (.callV (fi:=[]) Z hf Z (λW s=>hg _ (Al_List_getElem_mem hk) cE W rE s.agr))<|.nt<|.cd Z (λh16=>?_) (λh16=>?_)
  ·refine .sm Z<|.az Z<|.bR<|.tR<|.tR<|.bR<|.tR<|?_
   refine y9 Z Z λW s=>⟨?_,s.ext⟩
   first
    | (rw [ix_at hk hal h16])
    | (rw [ix_no hal])
  exact .sk<|.bN<|.tN<|.rg<|.yw (.add Z Z w7)<|.mv Z<|.nt<|.ag (k+1) ⟨Z,Jt⟩ ⟨Z,Z,Z,Jt⟩ (λ_ s=>s) ⟨by omega,any_take hk hal h16⟩ (by omega)
 obtain rfl:k=l.length:=by omega
 rw [Al_List_take_length] at hal;refine .ex<|.eb<|.sr<|.az Z<|?_
 refine y9 Z Z λW s=>⟨?_,s.ext⟩
 first
  | (rw [ix_at hk hal h16])
  | (rw [ix_no hal])
theorem contains_any (H:Hp) (gf:FuncId) (ca:List Value) (p:Ex->Bool) (l:List Ex) {pp:Option Addr} (hs:Rep H (.seq 4 (l.map (dEx .u8))) [.slice pp l.length c]) (hf:callN prg gf=true) (hg:∀ e∈l,EFn H gf ca p e) (w:World) (hA:Agr H w) :
 Calls prg 71 #[.slice pp l.length c,.func (.func gf) #[] ca.toArray] w λr w'=>r=.returned (.bool (l.any p))/\Ext w w':=by
 refine Sx.enter (H:=H) func71 rfl ntmps71 rfl hA ?_;refine .sr<|.a Z Z<|.ns<|.mv Z<|.mv Z<|.yw (.call (v:=.int .i64 (ixV l p)) Fx.call131 Z (λW s=>index_any H gf ca p l hs hf hg W s.agr))<|.yw (.cast (.geq Z Z) (congrArg Value.bool ix_any))<|.az Z<|?_
 exact y9 Z Z λW s=>⟨Z,s.ext⟩
theorem isAny_any (H:Hp) (e:Ex) (cs:List Value) (w:World) (h:Rep H (dEx .u8 e) cs) (hA:Agr H w):Calls prg 78 #[.agg cs.toArray] w λr w'=>r=.returned (.bool (anyB e))/\Ext w w':=by
 obtain ⟨op,nm,nn,args⟩:=e;obtain ⟨pp,c,rfl,hs,hnm⟩:=ex_open h;refine Sx.enter (H:=H) func78 rfl ntmps78 rfl hA ?_;refine .sr<|.bx Z Z Z λb1=>.a Z Z<|.ns<|.fA Z Fx.field76_0<|.lD Z Fx.agg74 Hm Z<|.yw (.cast (.eql Z Z) (congrArg Value.bool k80))<|.mv Z<|.b2 (λh6=>?_) (λh6=>?_)
 ·refine .gy (.fieldAddr Z Fx.field76_1)<|.gy (.load Z Fx.agg9 Hm Z)<|.gy (.eqS Z Z)<|.yw (.pickT Z Z)<|.mv Z<|.b2 (λh11=>?_) (λh11=>?_)
  ·refine .gy (.fieldAddr Z Fx.field76_2)<|.gy (.load Z Fx.agg2 Hm Z)<|.gy (.cast (.eql Z Z) (congrArg Value.bool i0))<|.yw (.pickT Z Z)<|.mv Z<|.b2 (λh16=>?_) (λh16=>?_)
   ·refine .gy (.fieldAddr Z Fx.field76_3)<|.gy (.load Z Fx.agg32 Hm Z)<|.gy (.lenSl Fx.sl32 Z)<|.gy (.cast (.eql Z Z) (congrArg Value.bool er0))<|.yw (.pickT Z Z)<|.az Z<|?_
    refine y9 Z Z λW s=>⟨?_,s.ext⟩
    first
     | (rw [any_mk,h6,h11,h16,Al_Bool_true_and,Al_Bool_true_and,Al_Bool_true_and])
     | (rw [any_mk,h6,h11,h16];rfl)
     | (rw [any_mk,h6,h11];rfl)
     | (rw [any_mk,h6];rfl)
   refine .gG<|.gG<|.gG<|.gG<|.yw (.pickF Z Z)<|.az Z<|?_
   refine y9 Z Z λW s=>⟨?_,s.ext⟩
   first
    | (rw [any_mk,h6,h11,h16,Al_Bool_true_and,Al_Bool_true_and,Al_Bool_true_and])
    | (rw [any_mk,h6,h11,h16];rfl)
    | (rw [any_mk,h6,h11];rfl)
    | (rw [any_mk,h6];rfl)
  refine .gG<|.gG<|.gG<|.yw (.pickF Z Z)<|.mv Z<|.gG<|.gG<|.gG<|.gG<|.yw (.pickF Z Z)<|.az Z<|?_
  refine y9 Z Z λW s=>⟨?_,s.ext⟩
  first
   | (rw [any_mk,h6,h11,h16,Al_Bool_true_and,Al_Bool_true_and,Al_Bool_true_and])
   | (rw [any_mk,h6,h11,h16];rfl)
   | (rw [any_mk,h6,h11];rfl)
   | (rw [any_mk,h6];rfl)
 refine .gG<|.gG<|.gG<|.yw (.pickF Z Z)<|.mv Z<|.gG<|.gG<|.gG<|.yw (.pickF Z Z)<|.mv Z<|.gG<|.gG<|.gG<|.gG<|.yw (.pickF Z Z)<|.az Z<|?_
 refine y9 Z Z λW s=>⟨?_,s.ext⟩
 first
  | (rw [any_mk,h6,h11,h16,Al_Bool_true_and,Al_Bool_true_and,Al_Bool_true_and])
  | (rw [any_mk,h6,h11,h16];rfl)
  | (rw [any_mk,h6,h11];rfl)
  | (rw [any_mk,h6];rfl)
end Go.Proofs.YtidclioghdbphaaGreatDoor
