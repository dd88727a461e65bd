/- Texts of the proof, one behind the other. -/
import Derived.Test.YthhoebdlfjffkaaGreatDoorMb
import Derived.Shelf.Strings.Builder1
import Derived.Shelf.Strings.Builder2
import Derived.Shelf.Strings.OnBuilder
import Derived.Shelf.Small.Wraps
import Derived.Shelf.Strings.BuilderF
import Derived.Shelf.Strings.BuilderK
import Derived.Shelf.Strings.Builder2Cap
import Derived.Shelf.Strconv.Itoa0
import Derived.Shelf.Strconv.Itoa1
import Derived.Shelf.LaysM
import Derived.Shelf.Strconv.Itoa2
import Derived.Shelf.Strconv.Itoa3
import Derived.Shelf.Strconv.Itoa4
import Derived.Shelf.Strings.Prefix
import Derived.Shelf.Strings.BuilderCap
import Derived.Test.YthhoebdlfjffkaaGreatDoorProg
set_option linter.all false
set_option maxRecDepth 100000
namespace Go.Proofs.YthhoebdlfjffkaaGreatDoor
open Go.RowKit Go.Par Go.Sx
theorem vU (c:UInt8) (w:World):Calls Tryz.prog 114 #[dI c] w fun r w'=>r=.returned (.bool (iE c))∧Ext w w':=by
 refine Sx.enter (H:=(fun _=>none)) Tryz.func114 rfl Tryz.ntmps114 rfl (fun _ _ e=>by cases e) ?_;refine .sr<|.a Z Z<|.ns<|.mv Z<|.yw (.geq Z Z)<|.mv Z<|.b2 (fun h5=>?_) (fun h5=>?_)
 ·try simp only [dt] at h5
  refine .gd Z Z<|.yw (.move Z)<|.gd Z Z<|.yw (.leq Z Z)<|.yw (.pickT Z Z)<|.mv Z<|.b2 (fun h9=>?_) (fun h9=>?_)
  ·try simp only [dt] at h9
   refine .gG<|.gG<|.gG<|.gV<|.gV<|.gG<|.yw (.pickT Z Z)<|.a Z Z<|.nt<|.rt<|?_
   exact Sx.ret1 (.inl rfl) rfl (.tmp rfl) fun W s=>⟨dB (by simp only [iE,Bool.or_eq_true,Bool.and_eq_true,decide_eq_true_eq,reduceCtorEq,true_iff,false_iff,iff_true,iff_false,beq_iff_eq,Bool.true_eq_false,Bool.false_eq_true];try omega),s.ext⟩
  try simp only [df] at h9
  refine .gd Z Z<|.yw (.move Z)<|.gd Z Z<|.yw (.geq Z Z)<|.gd Z Z<|.yw (.move Z)<|.b2 (fun h12=>?_) (fun h12=>?_)
  ·try simp only [dt] at h12
   refine .gd Z Z<|.yw (.move Z)<|.gd Z Z<|.yw (.leq Z Z)<|.gd Z Z<|.yw (.pickT Z Z)<|.yw (.pickF Z Z)<|.a Z Z<|.nt<|.rt<|?_
   exact Sx.ret1 (.inl rfl) rfl (.tmp rfl) fun W s=>⟨dB (by simp only [iE,Bool.or_eq_true,Bool.and_eq_true,decide_eq_true_eq,reduceCtorEq,true_iff,false_iff,iff_true,iff_false,beq_iff_eq,Bool.true_eq_false,Bool.false_eq_true];try omega),s.ext⟩
  try simp only [df] at h12
  refine .gG<|.gG<|.gd Z Z<|.yw (.pickF Z Z)<|.yw (.pickF Z Z)<|.a Z Z<|.nt<|.rt<|?_
  exact Sx.ret1 (.inl rfl) rfl (.tmp rfl) fun W s=>⟨dB (by simp only [iE,Bool.or_eq_true,Bool.and_eq_true,decide_eq_true_eq,reduceCtorEq,true_iff,false_iff,iff_true,iff_false,beq_iff_eq,Bool.true_eq_false,Bool.false_eq_true];try omega),s.ext⟩
 try simp only [df] at h5
 refine .gG<|.gG<|.yw (.pickF Z Z)<|.mv Z<|.gd Z Z<|.yw (.move Z)<|.gd Z Z<|.yw (.geq Z Z)<|.gd Z Z<|.yw (.move Z)<|.b2 (fun h12=>?_) (fun h12=>?_)
 ·try simp only [dt] at h12
  refine .gd Z Z<|.yw (.move Z)<|.gd Z Z<|.yw (.leq Z Z)<|.gd Z Z<|.yw (.pickT Z Z)<|.yw (.pickF Z Z)<|.a Z Z<|.nt<|.rt<|?_
  exact Sx.ret1 (.inl rfl) rfl (.tmp rfl) fun W s=>⟨dB (by simp only [iE,Bool.or_eq_true,Bool.and_eq_true,decide_eq_true_eq,reduceCtorEq,true_iff,false_iff,iff_true,iff_false,beq_iff_eq,Bool.true_eq_false,Bool.false_eq_true];try omega),s.ext⟩
 try simp only [df] at h12
 refine .gG<|.gG<|.gd Z Z<|.yw (.pickF Z Z)<|.yw (.pickF Z Z)<|.a Z Z<|.nt<|.rt<|?_
 exact Sx.ret1 (.inl rfl) rfl (.tmp rfl) fun W s=>⟨dB (by simp only [iE,Bool.or_eq_true,Bool.and_eq_true,decide_eq_true_eq,reduceCtorEq,true_iff,false_iff,iff_true,iff_false,beq_iff_eq,Bool.true_eq_false,Bool.false_eq_true];try omega),s.ext⟩
theorem oY (c:UInt8) (w:World):Calls Tryz.prog 117 #[dI c] w fun r w'=>r=.returned (.bool (dU c))∧Ext w w':=by
 refine Sx.enter (H:=(fun _=>none)) Tryz.func117 rfl Tryz.ntmps117 rfl (fun _ _ e=>by cases e) ?_;refine .sr<|.a Z Z<|.ns<|.mv Z<|.yw (.geq Z Z)<|.mv Z<|.b2 (fun h5=>?_) (fun h5=>?_)
 ·try simp only [dt] at h5
  refine .gd Z Z<|.yw (.move Z)<|.gd Z Z<|.yw (.leq Z Z)<|.yw (.pickT Z Z)<|.a Z Z<|.nt<|.rt<|?_
  exact Sx.ret1 (.inl rfl) rfl (.tmp rfl) fun W s=>⟨dB (by simp only [dU,Bool.or_eq_true,Bool.and_eq_true,decide_eq_true_eq,reduceCtorEq,true_iff,false_iff,iff_true,iff_false,beq_iff_eq,Bool.true_eq_false,Bool.false_eq_true];try omega),s.ext⟩
 try simp only [df] at h5
 refine .gG<|.gG<|.yw (.pickF Z Z)<|.a Z Z<|.nt<|.rt<|?_
 exact Sx.ret1 (.inl rfl) rfl (.tmp rfl) fun W s=>⟨dB (by simp only [dU,Bool.or_eq_true,Bool.and_eq_true,decide_eq_true_eq,reduceCtorEq,true_iff,false_iff,iff_true,iff_false,beq_iff_eq,Bool.true_eq_false,Bool.false_eq_true];try omega),s.ext⟩
end Go.Proofs.YthhoebdlfjffkaaGreatDoor
namespace Go.Proofs.YthhoebdlfjffkaaGreatDoor
open Go.RowKit Go.Par Go.Sx
end Go.Proofs.YthhoebdlfjffkaaGreatDoor
namespace Go.Proofs.YthhoebdlfjffkaaGreatDoor
open Go.RowKit Go.Par Go.Sx
theorem EY (c:UInt8) (w:World):Calls Tryz.prog 115 #[dI c] w fun r w'=>r=.returned (.bool (eE c))∧Ext w w':=by
 refine Sx.enter (H:=(fun _=>none)) Tryz.func115 rfl Tryz.ntmps115 rfl (fun _ _ e=>by cases e) ?_;refine .sr<|.a Z Z<|.ns<|.mv Z<|.yw (.call Fx.call114 Z (fun W s=>vU c W))<|.mv Z<|.b2 (fun h5=>?_) (fun h5=>?_)
 ·skip
  refine .gG<|.gG<|.yw (.pickT Z Z)<|.mv Z<|.gG<|.gG<|.yw (.pickT Z Z)<|.a Z Z<|.nt<|.rt<|?_
  exact Sx.ret1 (.inl rfl) rfl (.tmp rfl) fun W s=>⟨dB (by simp_all [eE];try omega),s.ext⟩
 skip
 refine .gd Z Z<|.yw (.move Z)<|.gd Z Z<|.yw (.call Fx.call117 Z (fun W s=>oY c W))<|.yw (.pickF Z Z)<|.mv Z<|.b2 (fun h9=>?_) (fun h9=>?_)
 ·skip
  refine .gG<|.gG<|.yw (.pickT Z Z)<|.a Z Z<|.nt<|.rt<|?_
  exact Sx.ret1 (.inl rfl) rfl (.tmp rfl) fun W s=>⟨dB (by simp_all [eE];try omega),s.ext⟩
 skip
 refine .gd Z Z<|.yw (.move Z)<|.gd Z Z<|.yw (.eql Z Z)<|.yw (.pickF Z Z)<|.a Z Z<|.nt<|.rt<|?_
 exact Sx.ret1 (.inl rfl) rfl (.tmp rfl) fun W s=>⟨dB (by simp_all [eE];try omega),s.ext⟩
theorem kO (gf:FuncId) (q:UInt8→Bool) (hf:aM Tryz.prog gf=true) (hg:∀ b w,Calls Tryz.prog gf #[dI b] w fun r w'=>r=.returned (.bool (q b))∧Ext w w') (l:Str) (hl:l.length≤9223372036854775807) (w:World) :
 Calls Tryz.prog 110 #[aB l,.func (.func gf) #[] #[]] w fun r w'=>r=.returned (.int .i64 (pre q l:Nat))∧Ext w w':=by
 refine Sx.enter (H:=(fun _=>none)) Tryz.func110 rfl Tryz.ntmps110 rfl (fun _ _ e=>by cases e) ?_;refine .sr<|.a Z Z<|.ns<|.a Z Z<|.nt<|.sq<|.bk<|.lp (X:=Nat) [(0,_),(1,_)] ⟨rfl,rfl,trivial⟩ [] (fun k=>[(5,.int .i64 (k:Nat))]) (fun k=>(fun _=>none)) (fun k=>[]) (fun k=>k≤pre q l) (fun k=>l.length - k) 0 (fun _ s=>s) ⟨rfl,trivial⟩ (by omega) fun k hC=>?_
 have hp:=nN q l;refine .sq<|.sr<|.mv Z<|.mv Z<|.yw (.lenS Fx.str9 Z)<|.yw (.lss Z Z)<|.mv Z<|.b2 (fun h10=>?_) (fun h10=>?_)
 ·try simp only [dt] at h10
  have hk:k<l.length:=by omega
  refine .gd Z Z<|.yw (.move Z)<|.gd Z Z<|.yw (.move Z)<|.gd Z Z<|.yw (.move Z)<|.gd Z Z<|.yw (.idxS Fx.str9 Z Z Z (List.getElem?_eq_getElem hk))<|.gd Z Z<|.yw (.callV (fi:=[]) (ca:=[]) Z hf Z (fun W s=>hg _ W))<|.yw (.pickT Z Z)<|.nt<|.cd Z (fun h16=>?_) (fun h16=>?_)
  ·skip
   exact .sk<|.tN<|.bk<|.rg<|.mv Z<|.yw (.add Z Z (w6 (by omega)))<|.a Z Z<|.nl<|.bN<|.tN<|.ag (k+1) ⟨rfl,trivial⟩ ⟨rfl,rfl,trivial⟩ (fun _ s=>s) (CB hk hC (by simpa using h16)) (by omega)
  skip
  refine .ex<|.tE<|.tE<|.bE<|.tN<|.sr<|.mv Z<|.a Z Z<|.nt<|.rt<|?_
  first
   | exact Sx.ret1 (.inl rfl) rfl (.tmp rfl) fun W s=>⟨by rw [show k=pre q l by omega],s.ext⟩
   | exact Sx.ret1 (.inl rfl) rfl (.tmp rfl) fun W s=>⟨by rw [vH hk hC (by simpa using h16)],s.ext⟩
 try simp only [df] at h10
 refine .gG<|.gG<|.gG<|.gG<|.gG<|.yw (.pickF Z Z)<|.nt<|.cF Z<|.ex<|.tE<|.tE<|.bE<|.tN<|.sr<|.mv Z<|.a Z Z<|.nt<|.rt<|?_
 first
  | exact Sx.ret1 (.inl rfl) rfl (.tmp rfl) fun W s=>⟨by rw [show k=pre q l by omega],s.ext⟩
  | exact Sx.ret1 (.inl rfl) rfl (.tmp rfl) fun W s=>⟨by rw [vH hk hC (by simpa using h16)],s.ext⟩
theorem CW (H:Hp) (G:Gl H) (l:Str) (w:World) (hA:Agr H w) :
 Calls Tryz.prog 116 #[aB l] w fun r w'=>r=.returned (.bool (words.contains l))∧Ext w w':=by
 refine Sx.enter (H:=H) Tryz.func116 rfl Tryz.ntmps116 rfl hA ?_;refine .sr<|.a Z Z<|.nt<|.sq<|.sr<|.yw (.loadMW Z Fx.agg242 G.words Z)<|.mv Z<|.nt<|.bk<|.lp (X:=Nat) [(0,_),(5,_)] ⟨rfl,rfl,trivial⟩ [] (fun k=>[(6,.int .i64 (k:Nat))]) (fun k=>H) (fun k=>[]) (fun k=>k≤39∧∀ j,j<k→words.getD j []≠l) (fun k=>39 - k) 0 (fun _ s=>s) ⟨rfl,trivial⟩ ⟨by omega,fun j hj=>by omega⟩ fun k hC=>?_
 obtain ⟨hk,hne⟩:=hC;refine .sr<|.yw (.lss Z Z)<|.nt<|.sq<|.cd Z (fun h7=>?_) (fun h7=>?_)
 ·try simp only [dt] at h7
  refine .sk<|.tN<|.sq<|.bk<|.sr<|.yw (.idxA Fx.arr242 Fx.are242 Z Z Z (by omega) (HC (by show k<39;omega) []))<|.a Z Z<|.ns<|.mv Z<|.mv Z<|.yw (.eqS Z Z)<|.nt<|.cd Z (fun h11=>?_) (fun h11=>?_)
  ·try simp only [dt] at h11
   have hmem:l∈words:=by
    rw [← h11,fC (show k<words.length by show k<39;omega)];exact List.getElem_mem _
   refine .sr<|.a Z Z<|.nt<|.rt<|.bR<|.tR<|.tR<|.bR<|.tR<|?_
   exact Sx.ret1 (.inl rfl) rfl (.tmp rfl) fun W s=>⟨dB (by simp [List.contains_iff_mem, *]),s.ext⟩
  try simp only [df] at h11
  exact .sk<|.bN<|.tN<|.rg<|.yw (.add Z Z (w6 (by omega)))<|.mv Z<|.nt<|.ag (k+1) ⟨rfl,trivial⟩ ⟨rfl,rfl,trivial⟩ (fun _ s=>s) ⟨by omega,fun j hj=>by
   by_cases e:j=k
   ·subst e;exact h11
   ·exact hne j (by omega)⟩ (by omega)
 try simp only [df] at h7
 have hno:l ∉ words:=fun hm=>by
  obtain ⟨j,hj,e⟩:=List.mem_iff_getElem.1 hm;have hj2:j<39:=hj;exact hne j (by omega) (by rw [fC hj];exact e)
 refine .ex<|.tE<|.tE<|.bE<|.tN<|.sr<|.a Z Z<|.nt<|.rt<|?_
 exact Sx.ret1 (.inl rfl) rfl (.tmp rfl) fun W s=>⟨dB (by simp [List.contains_iff_mem, *]),s.ext⟩
theorem wB (l m:Str) (w:World):Calls Tryz.prog 145 #[aB l,aB m] w fun r w'=>r=.returned (.bool (nG l m))∧Ext w w':=by
 refine Sx.enter (H:=(fun _=>none)) Tryz.func145 rfl Tryz.ntmps145 rfl (fun _ _ e=>by cases e) ?_;refine .sr<|.a Z Z<|.ns<|.mv Z<|.yw (.lenS Fx.str9 Z)<|.mv Z<|.yw (.lenS Fx.str9 Z)<|.yw (.geq Z Z)<|.mv Z<|.b2 (fun h10=>?_) (fun h10=>?_)
 ·try simp only [dt] at h10
  refine .gd Z Z<|.yw (.move Z)<|.gd Z Z<|.yw (.move Z)<|.gd Z Z<|.yw (.lenS Fx.str9 Z)<|.gd Z Z<|.yw (.takeS Fx.str9 Z Z Z (by omega))<|.gd Z Z<|.yw (.move Z)<|.gd Z Z<|.yw (.eqS Z Z)<|.yw (.pickT Z Z)<|.a Z Z<|.nt<|.rt<|?_
  exact Sx.ret1 (.inl rfl) rfl (.tmp rfl) fun W s=>⟨dB (by first | (simp only [nG,Bool.or_eq_true,Bool.and_eq_true,decide_eq_true_eq,reduceCtorEq,true_iff,false_iff,iff_true,iff_false,beq_iff_eq,Bool.true_eq_false,Bool.false_eq_true];omega) | exact ⟨fun e=>by simp only [nG,Bool.or_eq_true,Bool.and_eq_true,decide_eq_true_eq,reduceCtorEq,true_iff,false_iff,iff_true,iff_false,beq_iff_eq,Bool.true_eq_false,Bool.false_eq_true] at e ⊢;exact ⟨by omega,e⟩,fun e=>by simp only [nG,Bool.or_eq_true,Bool.and_eq_true,decide_eq_true_eq,reduceCtorEq,true_iff,false_iff,iff_true,iff_false,beq_iff_eq,Bool.true_eq_false,Bool.false_eq_true] at e ⊢;exact e.2⟩),s.ext⟩
 try simp only [df] at h10
 refine .gG<|.gG<|.gG<|.gG<|.gG<|.gG<|.yw (.pickF Z Z)<|.a Z Z<|.nt<|.rt<|?_
 exact Sx.ret1 (.inl rfl) rfl (.tmp rfl) fun W s=>⟨dB (by first | (simp only [nG,Bool.or_eq_true,Bool.and_eq_true,decide_eq_true_eq,reduceCtorEq,true_iff,false_iff,iff_true,iff_false,beq_iff_eq,Bool.true_eq_false,Bool.false_eq_true];omega) | exact ⟨fun e=>by simp only [nG,Bool.or_eq_true,Bool.and_eq_true,decide_eq_true_eq,reduceCtorEq,true_iff,false_iff,iff_true,iff_false,beq_iff_eq,Bool.true_eq_false,Bool.false_eq_true] at e ⊢;exact ⟨by omega,e⟩,fun e=>by simp only [nG,Bool.or_eq_true,Bool.and_eq_true,decide_eq_true_eq,reduceCtorEq,true_iff,false_iff,iff_true,iff_false,beq_iff_eq,Bool.true_eq_false,Bool.false_eq_true] at e ⊢;exact e.2⟩),s.ext⟩
theorem pQ (l m:Str) (w:World):Calls Tryz.prog 112 #[aB l,aB m] w fun r w'=>r=.returned (.bool (nG l m))∧Ext w w':=by
 refine Sx.enter (H:=(fun _=>none)) Tryz.func112 rfl Tryz.ntmps112 rfl (fun _ _ e=>by cases e) ?_;refine .sr<|.a Z Z<|.ns<|.mv Z<|.mv Z<|.yw (.call Fx.call145 Z (fun W s=>wB l m W))<|.a Z Z<|.nt<|.rt<|?_
 exact Sx.ret1 (.inl rfl) rfl (.tmp rfl) fun W s=>⟨rfl,s.ext⟩
theorem Fx.agg220:dF Tryz.prog 220=some (some 25):=by kernel_rfl
theorem Fx.are220:SG Tryz.prog 220=Bool.true:=by kernel_rfl
theorem Fx.arr220:AU Tryz.prog 220=some (25,1):=by kernel_rfl
theorem Fx.call70:aM Tryz.prog 70=Bool.true:=by kernel_rfl
theorem Fx.call110:aM Tryz.prog 110=Bool.true:=by kernel_rfl
theorem Fx.call112:aM Tryz.prog 112=Bool.true:=by kernel_rfl
theorem Fx.call115:aM Tryz.prog 115=Bool.true:=by kernel_rfl
theorem Fx.call116:aM Tryz.prog 116=Bool.true:=by kernel_rfl
theorem LT {l:Str} {k:Nat} (hk:k<25) (h0:∀ j,j<k→nG l (symbols.getD j [])=false) (h1:nG l (symbols.getD k [])=true):symbols.find? (fun x=>x.isPrefixOf l)=some (symbols.getD k []):=by
 have hk':k<symbols.length:=hk;rw [fC hk'] at h1 ⊢;rw [nV] at h1;refine List.find?_eq_some_iff_getElem.2 ⟨h1,k,hk',rfl,fun j hj=>?_⟩;have:=h0 j hj;rw [fC (by omega),nV] at this;simp [this]
theorem LS {l:Str} (h0:∀ j,j<25→nG l (symbols.getD j [])=false):symbols.find? (fun x=>x.isPrefixOf l)=none:=by
 rw [List.find?_eq_none];intro x hx;obtain ⟨j,hj,rfl⟩:=List.mem_iff_getElem.1 hx;have:=h0 j hj;rw [fC hj,nV] at this;simp [this]
theorem BV (H:Hp) (G:Gl H) (l:Str) (hl:l.length≤9223372036854775807) (h0:l≠[]) (w:World) (hA:Agr H w) :
 Calls Tryz.prog 70 #[aB l] w fun e w'=>e=.returned (.tuple #[.int .u8 ((aI l).1.toNat:Nat),.int .i64 ((aI l).2:Nat)])∧Ext w w':=by
 match l,h0 with
 | c::r,_ =>
 refine Sx.enter (H:=H) Tryz.func70 rfl Tryz.ntmps70 rfl hA ?_;refine .sr<|.a Z Z<|.a Z Z<|.nt<|.sq<|.sr<|.mv Z<|.yw (.idxS Fx.str9 Z Z Z (b:=c) (j:=0) Z)<|.a Z Z<|.nt<|.bk<|.sr<|.mv Z<|.yw (.call Fx.call114 Z (fun W s=>vU c W))<|.a Z Z<|.nt<|.cd Z (fun h21=>?_) (fun h21=>?_)
 ·skip
  refine .sr<|.mv Z<|.yw (.call Fx.call110 Z (fun W s=>kO 115 eE Fx.call115 EY (c::r) hl W))<|.a Z Z<|.nt<|.sq<|.sr<|.mv Z<|.mv Z<|.yw (.takeS Fx.str9 Z Z Z (nN _ _))<|.yw (.call Fx.call116 Z (fun W s=>CW H G _ W s.agr))<|.nt<|.cd Z (fun h29=>?_) (fun h29=>?_)
  ·skip
   refine .sr<|.mv Z<|.a Z Z<|.a Z Z<|.nt<|.rt<|.tR<|.bR<|.tR<|?_
   first
    | exact Sx.retN (.inl rfl) rfl (.cons (.tmp rfl) (.cons (.tmp rfl) .nil)) rfl fun W s=>⟨by simp only [aI,List.headD_cons,h21,h29,if_true];rfl,s.ext⟩
    | exact Sx.retN (.inl rfl) rfl (.cons (.tmp rfl) (.cons (.tmp rfl) .nil)) rfl fun W s=>⟨by simp only [aI,List.headD_cons,h21,h29,if_true,Bool.false_eq_true,if_false,show pre eE (c::r)≤12 by omega];rfl,s.ext⟩
    | exact Sx.retN (.inl rfl) rfl (.cons (.tmp rfl) (.cons (.tmp rfl) .nil)) rfl fun W s=>⟨by simp only [aI,List.headD_cons,h21,h29,if_true,Bool.false_eq_true,if_false,show ¬ pre eE (c::r)≤12 by omega];rfl,s.ext⟩
    | exact Sx.retN (.inl rfl) rfl (.cons (.tmp rfl) (.cons (.tmp rfl) .nil)) rfl fun W s=>⟨by simp only [aI,List.headD_cons,h21,h34,if_true,Bool.false_eq_true,if_false,hor];rfl,s.ext⟩
    | exact Sx.retN (.inl rfl) rfl (.cons (.tmp rfl) (.cons (.tmp rfl) .nil)) rfl fun W s=>⟨by simp only [aI,List.headD_cons,h21,h34,Bool.false_eq_true,if_false,hfind];rfl,s.ext⟩
  skip
  refine .sk<|.tN<|.sr<|.mv Z<|.yw (.leq Z Z)<|.nt<|.cd Z (fun h32=>?_) (fun h32=>?_)
  ·try simp only [dt] at h32
   refine .sr<|.mv Z<|.a Z Z<|.a Z Z<|.nt<|.rt<|.bR<|.tR<|?_
   first
    | exact Sx.retN (.inl rfl) rfl (.cons (.tmp rfl) (.cons (.tmp rfl) .nil)) rfl fun W s=>⟨by simp only [aI,List.headD_cons,h21,h29,if_true];rfl,s.ext⟩
    | exact Sx.retN (.inl rfl) rfl (.cons (.tmp rfl) (.cons (.tmp rfl) .nil)) rfl fun W s=>⟨by simp only [aI,List.headD_cons,h21,h29,if_true,Bool.false_eq_true,if_false,show pre eE (c::r)≤12 by omega];rfl,s.ext⟩
    | exact Sx.retN (.inl rfl) rfl (.cons (.tmp rfl) (.cons (.tmp rfl) .nil)) rfl fun W s=>⟨by simp only [aI,List.headD_cons,h21,h29,if_true,Bool.false_eq_true,if_false,show ¬ pre eE (c::r)≤12 by omega];rfl,s.ext⟩
    | exact Sx.retN (.inl rfl) rfl (.cons (.tmp rfl) (.cons (.tmp rfl) .nil)) rfl fun W s=>⟨by simp only [aI,List.headD_cons,h21,h34,if_true,Bool.false_eq_true,if_false,hor];rfl,s.ext⟩
    | exact Sx.retN (.inl rfl) rfl (.cons (.tmp rfl) (.cons (.tmp rfl) .nil)) rfl fun W s=>⟨by simp only [aI,List.headD_cons,h21,h34,Bool.false_eq_true,if_false,hfind];rfl,s.ext⟩
  try simp only [df] at h32
  refine .sk<|.bN<|.tN<|.sr<|.mv Z<|.yw (.lenS Fx.str9 Z)<|.a Z Z<|.a Z Z<|.nt<|.rt<|?_
  first
   | exact Sx.retN (.inl rfl) rfl (.cons (.tmp rfl) (.cons (.tmp rfl) .nil)) rfl fun W s=>⟨by simp only [aI,List.headD_cons,h21,h29,if_true];rfl,s.ext⟩
   | exact Sx.retN (.inl rfl) rfl (.cons (.tmp rfl) (.cons (.tmp rfl) .nil)) rfl fun W s=>⟨by simp only [aI,List.headD_cons,h21,h29,if_true,Bool.false_eq_true,if_false,show pre eE (c::r)≤12 by omega];rfl,s.ext⟩
   | exact Sx.retN (.inl rfl) rfl (.cons (.tmp rfl) (.cons (.tmp rfl) .nil)) rfl fun W s=>⟨by simp only [aI,List.headD_cons,h21,h29,if_true,Bool.false_eq_true,if_false,show ¬ pre eE (c::r)≤12 by omega];rfl,s.ext⟩
   | exact Sx.retN (.inl rfl) rfl (.cons (.tmp rfl) (.cons (.tmp rfl) .nil)) rfl fun W s=>⟨by simp only [aI,List.headD_cons,h21,h34,if_true,Bool.false_eq_true,if_false,hor];rfl,s.ext⟩
   | exact Sx.retN (.inl rfl) rfl (.cons (.tmp rfl) (.cons (.tmp rfl) .nil)) rfl fun W s=>⟨by simp only [aI,List.headD_cons,h21,h34,Bool.false_eq_true,if_false,hfind];rfl,s.ext⟩
 skip
 refine .sr<|.mv Z<|.yw (.call Fx.call117 Z (fun W s=>oY c W))<|.a Z Z<|.nt<|.cd Z (fun h34=>?_) (fun h34=>?_)
 ·skip
  refine .sr<|.mv Z<|.yw (.call Fx.call110 Z (fun W s=>kO 117 dU Fx.call117 oY (c::r) hl W))<|.a Z Z<|.ns<|.mv Z<|.yw (.eql Z Z)<|.mv Z<|.b2 (fun h41=>?_) (fun h41=>?_)
  ·try simp only [dt] at h41
   have hor:(pre dU (c::r)=1∨c≠48)=True:=eq_true (.inl (by omega));refine .gG<|.gG<|.yw (.pickT Z Z)<|.nt<|.cT Z<|.sr<|.mv Z<|.a Z Z<|.a Z Z<|.nt<|.rt<|.bR<|.tR<|?_
   first
    | exact Sx.retN (.inl rfl) rfl (.cons (.tmp rfl) (.cons (.tmp rfl) .nil)) rfl fun W s=>⟨by simp only [aI,List.headD_cons,h21,h29,if_true];rfl,s.ext⟩
    | exact Sx.retN (.inl rfl) rfl (.cons (.tmp rfl) (.cons (.tmp rfl) .nil)) rfl fun W s=>⟨by simp only [aI,List.headD_cons,h21,h29,if_true,Bool.false_eq_true,if_false,show pre eE (c::r)≤12 by omega];rfl,s.ext⟩
    | exact Sx.retN (.inl rfl) rfl (.cons (.tmp rfl) (.cons (.tmp rfl) .nil)) rfl fun W s=>⟨by simp only [aI,List.headD_cons,h21,h29,if_true,Bool.false_eq_true,if_false,show ¬ pre eE (c::r)≤12 by omega];rfl,s.ext⟩
    | exact Sx.retN (.inl rfl) rfl (.cons (.tmp rfl) (.cons (.tmp rfl) .nil)) rfl fun W s=>⟨by simp only [aI,List.headD_cons,h21,h34,if_true,Bool.false_eq_true,if_false,hor];rfl,s.ext⟩
    | exact Sx.retN (.inl rfl) rfl (.cons (.tmp rfl) (.cons (.tmp rfl) .nil)) rfl fun W s=>⟨by simp only [aI,List.headD_cons,h21,h34,Bool.false_eq_true,if_false,hfind];rfl,s.ext⟩
  try simp only [df] at h41
  refine .gd Z Z<|.yw (.move Z)<|.gd Z Z<|.yw (.neq Z Z)<|.yw (.pickF Z Z)<|.nt<|.cd Z (fun h44=>?_) (fun h44=>?_)
  ·try simp only [dt] at h44
   have hor:(pre dU (c::r)=1∨c≠48)=True:=eq_true (.inr fun e=>h44 (by rw [e];rfl));refine .sr<|.mv Z<|.a Z Z<|.a Z Z<|.nt<|.rt<|.bR<|.tR<|?_
   first
    | exact Sx.retN (.inl rfl) rfl (.cons (.tmp rfl) (.cons (.tmp rfl) .nil)) rfl fun W s=>⟨by simp only [aI,List.headD_cons,h21,h29,if_true];rfl,s.ext⟩
    | exact Sx.retN (.inl rfl) rfl (.cons (.tmp rfl) (.cons (.tmp rfl) .nil)) rfl fun W s=>⟨by simp only [aI,List.headD_cons,h21,h29,if_true,Bool.false_eq_true,if_false,show pre eE (c::r)≤12 by omega];rfl,s.ext⟩
    | exact Sx.retN (.inl rfl) rfl (.cons (.tmp rfl) (.cons (.tmp rfl) .nil)) rfl fun W s=>⟨by simp only [aI,List.headD_cons,h21,h29,if_true,Bool.false_eq_true,if_false,show ¬ pre eE (c::r)≤12 by omega];rfl,s.ext⟩
    | exact Sx.retN (.inl rfl) rfl (.cons (.tmp rfl) (.cons (.tmp rfl) .nil)) rfl fun W s=>⟨by simp only [aI,List.headD_cons,h21,h34,if_true,Bool.false_eq_true,if_false,hor];rfl,s.ext⟩
    | exact Sx.retN (.inl rfl) rfl (.cons (.tmp rfl) (.cons (.tmp rfl) .nil)) rfl fun W s=>⟨by simp only [aI,List.headD_cons,h21,h34,Bool.false_eq_true,if_false,hfind];rfl,s.ext⟩
  try simp only [df] at h44
  have hor:(pre dU (c::r)=1∨c≠48)=False:=eq_false fun h=>by
   rcases h with h | h
   ·omega
   ·exact h (UInt8.toNat_inj.1 (by show c.toNat=48;simp at h44;omega))
  refine .sk<|.bN<|.tN<|.sr<|.mv Z<|.yw (.lenS Fx.str9 Z)<|.a Z Z<|.a Z Z<|.nt<|.rt<|?_
  first
   | exact Sx.retN (.inl rfl) rfl (.cons (.tmp rfl) (.cons (.tmp rfl) .nil)) rfl fun W s=>⟨by simp only [aI,List.headD_cons,h21,h29,if_true];rfl,s.ext⟩
   | exact Sx.retN (.inl rfl) rfl (.cons (.tmp rfl) (.cons (.tmp rfl) .nil)) rfl fun W s=>⟨by simp only [aI,List.headD_cons,h21,h29,if_true,Bool.false_eq_true,if_false,show pre eE (c::r)≤12 by omega];rfl,s.ext⟩
   | exact Sx.retN (.inl rfl) rfl (.cons (.tmp rfl) (.cons (.tmp rfl) .nil)) rfl fun W s=>⟨by simp only [aI,List.headD_cons,h21,h29,if_true,Bool.false_eq_true,if_false,show ¬ pre eE (c::r)≤12 by omega];rfl,s.ext⟩
   | exact Sx.retN (.inl rfl) rfl (.cons (.tmp rfl) (.cons (.tmp rfl) .nil)) rfl fun W s=>⟨by simp only [aI,List.headD_cons,h21,h34,if_true,Bool.false_eq_true,if_false,hor];rfl,s.ext⟩
   | exact Sx.retN (.inl rfl) rfl (.cons (.tmp rfl) (.cons (.tmp rfl) .nil)) rfl fun W s=>⟨by simp only [aI,List.headD_cons,h21,h34,Bool.false_eq_true,if_false,hfind];rfl,s.ext⟩
 skip
 refine .sr<|.yw (.loadMW Z Fx.agg220 G.symbols Z)<|.mv Z<|.nt<|.bk<|.lp (X:=Nat) [(0,_),(11,_)] ⟨rfl,rfl,trivial⟩ [] (fun k=>[(12,.int .i64 (k:Nat))]) (fun k=>H) (fun k=>[]) (fun k=>k≤25∧∀ j,j<k→nG (c::r) (symbols.getD j [])=false) (fun k=>25 - k) 0 (fun _ s=>s) ⟨rfl,trivial⟩ ⟨by omega,fun j hj=>by omega⟩ fun k hC=>?_
 obtain ⟨hk,hne⟩:=hC;refine .sr<|.yw (.lss Z Z)<|.nt<|.sq<|.cd Z (fun h13=>?_) (fun h13=>?_)
 ·try simp only [dt] at h13
  refine .sk<|.tN<|.sq<|.bk<|.sr<|.yw (.idxA Fx.arr220 Fx.are220 Z Z Z (by omega) (HC (by show k<25;omega) []))<|.a Z Z<|.ns<|.mv Z<|.mv Z<|.yw (.call Fx.call112 Z (fun W s=>pQ (c::r) _ W))<|.nt<|.cd Z (fun h17=>?_) (fun h17=>?_)
  ·have hfind:=LT (by omega) hne h17;refine .sr<|.mv Z<|.yw (.lenS Fx.str9 Z)<|.a Z Z<|.a Z Z<|.nt<|.rt<|.bR<|.tR<|.tR<|.bR<|.bR<|.tR<|?_
   first
    | exact Sx.retN (.inl rfl) rfl (.cons (.tmp rfl) (.cons (.tmp rfl) .nil)) rfl fun W s=>⟨by simp only [aI,List.headD_cons,h21,h29,if_true];rfl,s.ext⟩
    | exact Sx.retN (.inl rfl) rfl (.cons (.tmp rfl) (.cons (.tmp rfl) .nil)) rfl fun W s=>⟨by simp only [aI,List.headD_cons,h21,h29,if_true,Bool.false_eq_true,if_false,show pre eE (c::r)≤12 by omega];rfl,s.ext⟩
    | exact Sx.retN (.inl rfl) rfl (.cons (.tmp rfl) (.cons (.tmp rfl) .nil)) rfl fun W s=>⟨by simp only [aI,List.headD_cons,h21,h29,if_true,Bool.false_eq_true,if_false,show ¬ pre eE (c::r)≤12 by omega];rfl,s.ext⟩
    | exact Sx.retN (.inl rfl) rfl (.cons (.tmp rfl) (.cons (.tmp rfl) .nil)) rfl fun W s=>⟨by simp only [aI,List.headD_cons,h21,h34,if_true,Bool.false_eq_true,if_false,hor];rfl,s.ext⟩
    | exact Sx.retN (.inl rfl) rfl (.cons (.tmp rfl) (.cons (.tmp rfl) .nil)) rfl fun W s=>⟨by simp only [aI,List.headD_cons,h21,h34,Bool.false_eq_true,if_false,hfind];rfl,s.ext⟩
  skip
  exact .sk<|.bN<|.tN<|.rg<|.yw (.add Z Z (w6 (by omega)))<|.mv Z<|.nt<|.ag (k+1) ⟨rfl,trivial⟩ ⟨rfl,rfl,trivial⟩ (fun _ s=>s) ⟨by omega,fun j hj=>by
   by_cases e:j=k
   ·subst e;exact h17
   ·exact hne j (by omega)⟩ (by omega)
 try simp only [df] at h13
 have hfind:=LS (l:=c::r) (fun j hj=>hne j (by omega));refine .ex<|.tE<|.tE<|.bE<|.bN<|.tN<|.sr<|.mv Z<|.yw (.lenS Fx.str9 Z)<|.a Z Z<|.a Z Z<|.nt<|.rt<|?_
 first
  | exact Sx.retN (.inl rfl) rfl (.cons (.tmp rfl) (.cons (.tmp rfl) .nil)) rfl fun W s=>⟨by simp only [aI,List.headD_cons,h21,h29,if_true];rfl,s.ext⟩
  | exact Sx.retN (.inl rfl) rfl (.cons (.tmp rfl) (.cons (.tmp rfl) .nil)) rfl fun W s=>⟨by simp only [aI,List.headD_cons,h21,h29,if_true,Bool.false_eq_true,if_false,show pre eE (c::r)≤12 by omega];rfl,s.ext⟩
  | exact Sx.retN (.inl rfl) rfl (.cons (.tmp rfl) (.cons (.tmp rfl) .nil)) rfl fun W s=>⟨by simp only [aI,List.headD_cons,h21,h29,if_true,Bool.false_eq_true,if_false,show ¬ pre eE (c::r)≤12 by omega];rfl,s.ext⟩
  | exact Sx.retN (.inl rfl) rfl (.cons (.tmp rfl) (.cons (.tmp rfl) .nil)) rfl fun W s=>⟨by simp only [aI,List.headD_cons,h21,h34,if_true,Bool.false_eq_true,if_false,hor];rfl,s.ext⟩
  | exact Sx.retN (.inl rfl) rfl (.cons (.tmp rfl) (.cons (.tmp rfl) .nil)) rfl fun W s=>⟨by simp only [aI,List.headD_cons,h21,h34,Bool.false_eq_true,if_false,hfind];rfl,s.ext⟩
theorem eI (H:Hp) (G:Gl H) (l:Str) (hl:l.length≤9223372036854775807) (w:World) (hA:Agr H w) :
 Calls Tryz.prog 58 #[aB l] w fun r w'=>r=.returned (.bool (aS l))∧Ext w w':=by
 refine Sx.enter (H:=H) Tryz.func58 rfl Tryz.ntmps58 rfl hA ?_;refine .sr<|.a Z Z<|.nt<|.sq<|.sr<|.mv Z<|.yw (.eqS Z Z)<|.nt<|.cd Z (fun h6=>?_) (fun h6=>?_)
 ·try simp only [dt] at h6
  subst h6;refine .sr<|.a Z Z<|.nt<|.rt<|.tR<|?_
  refine Sx.ret1 (.inl rfl) rfl (.tmp rfl) fun W s=>⟨dB ?_,s.ext⟩
  first
   | (rw [aS,show (aI l).1=1 from h1];simp [h6];omega)
   | (rw [show aS l=false by simp [aS,h1]])
   | (rfl)
 try simp only [df] at h6
 skip
 refine .sk<|.tN<|.sr<|.mv Z<|.yw (.call Fx.call70 Z (fun W s=>BV H G l hl h6 W s.agr))<|.mv Z<|.yw (.extract Z Z)<|.yw (.extract Z Z)<|.a Z Z<|.a Z Z<|.ns<|.mv Z<|.yw (.eql Z Z)<|.mv Z<|.b2 (fun h14=>?_) (fun h14=>?_)
 ·try simp only [dt] at h14
  have h1:(aI l).1=1:=UInt8.toNat_inj.1 (by show _=1;omega);refine .gd Z Z<|.yw (.move Z)<|.gd Z Z<|.yw (.move Z)<|.gd Z Z<|.yw (.lenS Fx.str9 Z)<|.gd Z Z<|.yw (.eql Z Z)<|.yw (.pickT Z Z)<|.a Z Z<|.nt<|.rt<|?_
  refine Sx.ret1 (.inl rfl) rfl (.tmp rfl) fun W s=>⟨dB ?_,s.ext⟩
  first
   | (rw [aS,show (aI l).1=1 from h1];simp [h6];omega)
   | (rw [show aS l=false by simp [aS,h1]])
   | (rfl)
 try simp only [df] at h14
 have h1:¬ (aI l).1=1:=fun e=>h14 (by rw [e];rfl);refine .gG<|.gG<|.gG<|.gG<|.yw (.pickF Z Z)<|.a Z Z<|.nt<|.rt<|?_
 refine Sx.ret1 (.inl rfl) rfl (.tmp rfl) fun W s=>⟨dB ?_,s.ext⟩
 first
  | (rw [aS,show (aI l).1=1 from h1];simp [h6];omega)
  | (rw [show aS l=false by simp [aS,h1]])
  | (rfl)
theorem Fx.agg2:dF Tryz.prog 2=some none:=by kernel_rfl
theorem Fx.agg3:dF Tryz.prog 3=some none:=by kernel_rfl
theorem Fx.agg4:dF Tryz.prog 4=some none:=by kernel_rfl
theorem Fx.agg9:dF Tryz.prog 9=some none:=by kernel_rfl
theorem Fx.agg24:dF Tryz.prog 24=some none:=by kernel_rfl
theorem Fx.agg137:dF Tryz.prog 137=some (some 4):=by kernel_rfl
theorem Fx.agg236:dF Tryz.prog 236=some (some 6):=by kernel_rfl
theorem Fx.arr201:AU Tryz.prog 201=some (24,4):=by kernel_rfl
theorem Fx.arr257:AU Tryz.prog 257=some (11,6):=by kernel_rfl
theorem Fx.call30:aM Tryz.prog 30=Bool.true:=by kernel_rfl
theorem Fx.call31:aM Tryz.prog 31=Bool.true:=by kernel_rfl
theorem Fx.call32:aM Tryz.prog 32=Bool.true:=by kernel_rfl
theorem Fx.call57:aM Tryz.prog 57=Bool.true:=by kernel_rfl
theorem Fx.call58:aM Tryz.prog 58=Bool.true:=by kernel_rfl
theorem Fx.field27_0:aN Tryz.prog 27 0=some 0:=by kernel_rfl
theorem Fx.field27_1:aN Tryz.prog 27 1=some 1:=by kernel_rfl
theorem Fx.field27_2:aN Tryz.prog 27 2=some 2:=by kernel_rfl
theorem Fx.field137_0:aN Tryz.prog 137 0=some 0:=by kernel_rfl
theorem Fx.field137_1:aN Tryz.prog 137 1=some 1:=by kernel_rfl
theorem Fx.size137:bL Tryz.prog 137=some 4:=by kernel_rfl
theorem Fx.size236:bL Tryz.prog 236=some 6:=by kernel_rfl
theorem Fx.zero137:dV Tryz.prog 137=some
 [Go.Value.int Go.IntKind.i64 (Int.ofNat 0),Go.Value.bool false,Go.Value.int Go.IntKind.i64 (Int.ofNat 0),
  Go.Value.string { data:={ toList:=[] } }]:=by kernel_rfl
theorem Fx.zero236:dV Tryz.prog 236=some
 [Go.Value.bool false,Go.Value.bool false,Go.Value.int Go.IntKind.i64 (Int.ofNat 0),
  Go.Value.int Go.IntKind.i64 (Int.ofNat 0),Go.Value.bool false,Go.Value.bool false]:=by kernel_rfl
theorem Fx.bld137  : bV Tryz.prog 137 []=some [.int .i64 0,.bool false,.int .i64 0,.string ⟨#[]⟩]:=by kernel_rfl
theorem Fx.bld236  : bV Tryz.prog 236 []=some [.bool false,.bool false,.int .i64 0,.int .i64 0,.bool false,.bool false]:=by kernel_rfl
theorem oL (H:Hp) (G:Gl H) (op:UInt8) (w:World) (hA:Agr H w) :
 Calls Tryz.prog 57 #[.int .u8 op.toNat] w fun r w'=>r=.returned (.tuple #[.agg (jH (aH op)).toArray,.bool (iL op)])∧Ext w w':=by
 refine Sx.enter (H:=H) Tryz.func57 rfl Tryz.ntmps57 rfl hA ?_;refine .sr<|.al Fx.zero137 Z fun b2=>.a Z Z<|.nt<|.sq<|.sr<|.mv Z<|.yw (.lss Z Z)<|.mv Z<|.b2 (fun h6=>?_) (fun h6=>?_)
 ·try simp only [dt] at h6
  have hno:iL op=false:=by simp [iL];omega
  refine .gG<|.gG<|.yw (.pickT Z Z)<|.nt<|.cT Z<|.sr<|.yw (.build Z Fx.bld137)<|.sW .head Z Z Fx.size137 (by simp [Value.oneCell',aB]) Z<|.a Z Z<|.nt<|.rt<|.tR<|?_
  refine Sx.retN (.inl rfl) rfl (.cons (.cell rfl Fx.agg137 (.head _) rfl) (.cons (.tmp rfl) .nil)) rfl fun W s=>⟨?_,s.ext⟩
  first
   | (rw [aH,hno];rfl)
   | (rw [aH,hok];rfl)
 try simp only [df] at h6
 refine .gd Z Z<|.yw (.move Z)<|.gd Z Z<|.yw (.gtr Z Z)<|.yw (.pickF Z Z)<|.nt<|.cd Z (fun h9=>?_) (fun h9=>?_)
 ·try simp only [dt] at h9
  have hno:iL op=false:=by simp [iL];omega
  refine .sr<|.yw (.build Z Fx.bld137)<|.sW .head Z Z Fx.size137 (by simp [Value.oneCell',aB]) Z<|.a Z Z<|.nt<|.rt<|.tR<|?_
  refine Sx.retN (.inl rfl) rfl (.cons (.cell rfl Fx.agg137 (.head _) rfl) (.cons (.tmp rfl) .nil)) rfl fun W s=>⟨?_,s.ext⟩
  first
   | (rw [aH,hno];rfl)
   | (rw [aH,hok];rfl)
 try simp only [df] at h9
 have hok:iL op=true:=by simp [iL];omega
 refine .sk<|.tN<|.sr<|.mv Z<|.yw (.indexArr Fx.arr201 Z Z Z (by omega) (q:=op.toNat * 4) (by omega))<|.yw (.loadMS (k:=op.toNat * 4) (vs:=jH (shapes.getD op.toNat ⟨0,false,0,[]⟩)) Z Fx.agg137 G.shapes (by omega) Z (AI (f:=jH) (z:=4) (l:=shapes) (i:=op.toNat) (fun _=>rfl) _ (by show op.toNat<24;omega)))<|.sV .head Z Z Fx.size137 Z (by simp [jH,Value.oneCell',aB]) Z<|.a Z Z<|.nt<|.rt<|?_
 refine Sx.retN (.inl rfl) rfl (.cons (.cell rfl Fx.agg137 (.head _) rfl) (.cons (.tmp rfl) .nil)) rfl fun W s=>⟨?_,s.ext⟩
 first
  | (rw [aH,hno];rfl)
  | (rw [aH,hok];rfl)
theorem DJ (H:Hp) (G:Gl H) (op:UInt8) (w:World) (hA:Agr H w) :
 Calls Tryz.prog 141 #[.int .u8 op.toNat] w fun r w'=>r=.returned (.tuple #[.agg (pU (aT op)).toArray,.bool (gT op)])∧Ext w w':=by
 refine Sx.enter (H:=H) Tryz.func141 rfl Tryz.ntmps141 rfl hA ?_;refine .sr<|.al Fx.zero236 Z fun b2=>.a Z Z<|.nt<|.sq<|.sr<|.mv Z<|.yw (.lss Z Z)<|.mv Z<|.b2 (fun h6=>?_) (fun h6=>?_)
 ·try simp only [dt] at h6
  have hno:gT op=false:=by simp [gT];omega
  refine .gG<|.gG<|.yw (.pickT Z Z)<|.nt<|.cT Z<|.sr<|.yw (.build Z Fx.bld236)<|.sW .head Z Z Fx.size236 (by simp [Value.oneCell',aB]) Z<|.a Z Z<|.nt<|.rt<|.tR<|?_
  refine Sx.retN (.inl rfl) rfl (.cons (.cell rfl Fx.agg236 (.head _) rfl) (.cons (.tmp rfl) .nil)) rfl fun W s=>⟨?_,s.ext⟩
  first
   | (rw [aT,hno];rfl)
   | (rw [aT,hok];rfl)
 try simp only [df] at h6
 refine .gd Z Z<|.yw (.move Z)<|.gd Z Z<|.yw (.gtr Z Z)<|.yw (.pickF Z Z)<|.nt<|.cd Z (fun h9=>?_) (fun h9=>?_)
 ·try simp only [dt] at h9
  have hno:gT op=false:=by simp [gT];omega
  refine .sr<|.yw (.build Z Fx.bld236)<|.sW .head Z Z Fx.size236 (by simp [Value.oneCell',aB]) Z<|.a Z Z<|.nt<|.rt<|.tR<|?_
  refine Sx.retN (.inl rfl) rfl (.cons (.cell rfl Fx.agg236 (.head _) rfl) (.cons (.tmp rfl) .nil)) rfl fun W s=>⟨?_,s.ext⟩
  first
   | (rw [aT,hno];rfl)
   | (rw [aT,hok];rfl)
 try simp only [df] at h9
 have hok:gT op=true:=by simp [gT];omega
 refine .sk<|.tN<|.sr<|.mv Z<|.yw (.indexArr Fx.arr257 Z Z Z (by omega) (q:=op.toNat * 6) (by omega))<|.yw (.loadMS (k:=op.toNat * 6) (vs:=pU (forms.getD op.toNat ⟨false,false,0,0,false,false⟩)) Z Fx.agg236 G.forms (by omega) Z (AI (f:=pU) (z:=6) (l:=forms) (i:=op.toNat) (fun _=>rfl) _ (by show op.toNat<11;omega)))<|.sV .head Z Z Fx.size236 Z (by simp [pU,Value.oneCell',aB]) Z<|.a Z Z<|.nt<|.rt<|?_
 refine Sx.retN (.inl rfl) rfl (.cons (.cell rfl Fx.agg236 (.head _) rfl) (.cons (.tmp rfl) .nil)) rfl fun W s=>⟨?_,s.ext⟩
 first
  | (rw [aT,hno];rfl)
  | (rw [aT,hok];rfl)
def SP (gf:FuncId) (q:Ex→Bool):Prop:=aM Tryz.prog gf=true∧∀ (H:Hp),Gl H→∀ (e:Ex) (cs:List Value) (b o:Nat) (w:World),Rep H (dEx .u8 e) cs→dS H b o cs→Agr H w →
 Calls Tryz.prog gf #[.pointer (some ⟨b,o,none⟩)] w fun r w'=>r=.returned (.bool (q e))∧Ext w w'
theorem lS (gf:FuncId) (q:Ex→Bool) (hg:SP gf q) (H:Hp) (G:Gl H) (e:Ex):∀ (cs:List Value) (b o:Nat) (w:World),Rep H (dEx .u8 e) cs→dS H b o cs→Agr H w →
 Calls Tryz.prog 30 #[.pointer (some ⟨b,o,none⟩),.func (.func gf) #[] #[]] w fun r w'=>r=.returned (.bool (e.all q))∧Ext w w':=by
 induction e using Ex.ind with | _ op nm nn args ih
 intro cs b o w h hm hA;obtain ⟨p,c,rfl,hs,hnm⟩:=bZ h;have hcap:=hs.cap;refine Sx.enter (H:=H) Tryz.func30 rfl Tryz.ntmps30 rfl hA ?_;refine .sr<|.a Z Z<|.nt<|.sq<|.sr<|.mv Z<|.mv Z<|.yw (.callV (fi:=[]) (ca:=[]) Z hg.1 Z (fun W s=>hg.2 H G _ _ b o W h hm s.agr))<|.yw (.not Z)<|.nt<|.cd Z (fun h9=>?_) (fun h9=>?_)
 ·skip
  refine .sr<|.a Z Z<|.nt<|.rt<|.tR<|?_
  refine Sx.ret1 (.inl rfl) rfl (.tmp rfl) fun W s=>⟨dB ?_,s.ext⟩
  first
   | (rw [eR,show q (.mk op nm nn args)=false by simpa using h9];rfl)
   | (rw [eR,mQ hk (by simpa using h26)];simp)
   | (rw [eR,hal,show q (.mk op nm nn args)=true by simpa using h9];rfl)
 skip
 refine .sk<|.tN<|.sq<|.sr<|.mv Z<|.yw (.nilCheck Z)<|.yw (.fieldAddr Z Fx.field27_3)<|.yw (.loadM Z Fx.agg25 hm (k:=3) Z Z)<|.yw (.lenSl Fx.sl25 Z)<|.mv Z<|.nt<|.bk<|.lp (X:=Nat) [(0,_),(1,_),(14,_)] ⟨rfl,rfl,rfl,trivial⟩ [] (fun k=>[(15,.int .i64 (k:Nat))]) (fun k=>H) (fun k=>[]) (fun k=>k≤args.length∧Ex.alls q (args.take k)=true) (fun k=>args.length - k) 0 (fun _ s=>s) ⟨rfl,trivial⟩ ⟨by omega,rfl⟩ fun k hC=>?_
 obtain ⟨hk0,hal⟩:=hC;refine .sr<|.yw (.lss Z Z)<|.nt<|.sq<|.cd Z (fun h16=>?_) (fun h16=>?_)
 ·try simp only [dt] at h16
  have hk:k<args.length:=by omega
  obtain ⟨b5,o5,c5,hp5,r5,l5,m5⟩:=hs.elem (bB hk);cases hp5;refine .sk<|.tN<|.sq<|.bk<|.sr<|.mv Z<|.a Z Z<|.ns<|.mv Z<|.yw (.nilCheck Z)<|.yw (.fieldAddr Z Fx.field27_3)<|.yw (.loadM Z Fx.agg25 hm (k:=3) Z Z)<|.mv Z<|.yw (.indexSl Fx.sl25 Z Z Z (by omega) (q:=o5+k * 4) Z)<|.mv Z<|.yw (.call Fx.call30 Z (fun W s=>ih _ (List.getElem_mem hk) c5 b5 (o5+k * 4) W r5 m5 s.agr))<|.yw (.not Z)<|.nt<|.cd Z (fun h26=>?_) (fun h26=>?_)
  ·skip
   refine .sr<|.a Z Z<|.nt<|.rt<|.bR<|.tR<|.tR<|.bR<|.tR<|?_
   refine Sx.ret1 (.inl rfl) rfl (.tmp rfl) fun W s=>⟨dB ?_,s.ext⟩
   first
    | (rw [eR,show q (.mk op nm nn args)=false by simpa using h9];rfl)
    | (rw [eR,mQ hk (by simpa using h26)];simp)
    | (rw [eR,hal,show q (.mk op nm nn args)=true by simpa using h9];rfl)
  skip
  exact .sk<|.bN<|.tN<|.rg<|.yw (.add Z Z (w6 (by omega)))<|.mv Z<|.nt<|.ag (k+1) ⟨rfl,trivial⟩ ⟨rfl,rfl,rfl,trivial⟩ (fun _ s=>s) ⟨by omega,by rw [sH hk,hal];simpa using h26⟩ (by omega)
 try simp only [df] at h16
 obtain rfl:k=args.length:=by omega
 rw [List.take_length] at hal;refine .ex<|.tE<|.tE<|.bE<|.tN<|.sr<|.a Z Z<|.nt<|.rt<|?_
 refine Sx.ret1 (.inl rfl) rfl (.tmp rfl) fun W s=>⟨dB ?_,s.ext⟩
 first
  | (rw [eR,show q (.mk op nm nn args)=false by simpa using h9];rfl)
  | (rw [eR,mQ hk (by simpa using h26)];simp)
  | (rw [eR,hal,show q (.mk op nm nn args)=true by simpa using h9];rfl)
theorem iN:SP 31 iO:=by
 refine ⟨Fx.call31,fun H G e cs b o w h hm hA=>?_⟩;obtain ⟨op,nm,nn,args⟩:=e;obtain ⟨p,c,rfl,hs,hnm⟩:=bZ h;have hcap:=hs.cap;refine Sx.enter (H:=H) Tryz.func31 rfl Tryz.ntmps31 rfl hA ?_;refine .sr<|.a Z Z<|.ns<|.mv Z<|.yw (.nilCheck Z)<|.yw (.fieldAddr Z Fx.field27_0)<|.yw (.loadM Z Fx.agg24 hm (k:=0) Z Z)<|.yw (.call Fx.call57 Z (fun W s=>oL H G op W s.agr))<|.mv Z<|.yw (.extract Z Z)<|.yw (.extract Z Z)<|.al Fx.zero137 Z fun b3=>.sV .head Z Z Fx.size137 Z (by simp [jH,Value.oneCell',aB]) Z<|.a Z Z<|.ns<|.yw (.fieldAddr Z Fx.field137_1)<|.yw (.load Z Fx.agg4 (.head _) Z)<|.yw (.not Z)<|.mv Z<|.b2 (fun h16=>?_) (fun h16=>?_)
 ·skip
  refine .gG<|.gG<|.gG<|.gG<|.gG<|.yw (.pickT Z Z)<|.a Z Z<|.nt<|.rt<|?_
  refine Sx.ret1 (.inl rfl) rfl (.tmp rfl) fun W s=>⟨dB ?_,s.ext⟩
  first
   | (simp only [iO];simp_all)
 skip
 refine .gd Z Z<|.yw (.move Z)<|.gd Z Z<|.yw (.nilCheck Z)<|.gd Z Z<|.yw (.fieldAddr Z Fx.field27_1)<|.gd Z Z<|.yw (.loadM Z Fx.agg9 hm (k:=1) Z Z)<|.gd Z Z<|.yw (.call Fx.call58 Z (fun W s=>eI H G nm (by omega) W s.agr))<|.yw (.pickF Z Z)<|.a Z Z<|.nt<|.rt<|?_
 refine Sx.ret1 (.inl rfl) rfl (.tmp rfl) fun W s=>⟨dB ?_,s.ext⟩
 first
  | (simp only [iO];simp_all)
theorem nW:SP 32 dO:=by
 refine ⟨Fx.call32,fun H G e cs b o w h hm hA=>?_⟩;obtain ⟨op,nm,nn,args⟩:=e;obtain ⟨p,c,rfl,hs,hnm⟩:=bZ h;have hcap:=hs.cap;refine Sx.enter (H:=H) Tryz.func32 rfl Tryz.ntmps32 rfl hA ?_;refine .sr<|.a Z Z<|.ns<|.mv Z<|.yw (.nilCheck Z)<|.yw (.fieldAddr Z Fx.field27_0)<|.yw (.loadM Z Fx.agg24 hm (k:=0) Z Z)<|.yw (.call Fx.call57 Z (fun W s=>oL H G op W s.agr))<|.mv Z<|.yw (.extract Z Z)<|.yw (.extract Z Z)<|.al Fx.zero137 Z fun b3=>.sV .head Z Z Fx.size137 Z (by simp [jH,Value.oneCell',aB]) Z<|.a Z Z<|.nt<|.sq<|.bk<|.sq<|.sr<|.mv Z<|.yw (.not Z)<|.a Z Z<|.nt<|.cd Z (fun h13=>?_) (fun h13=>?_)
 ·skip
  refine .sk<|.tN<|.cd Z (fun h13=>?_) (fun h13=>?_)
  ·skip
   refine .sr<|.a Z Z<|.nt<|.rt<|.bR<|.tR<|?_
   refine Sx.ret1 (.inl rfl) rfl (.tmp rfl) fun W s=>⟨dB ?_,s.ext⟩
   first
    | (simp only [dO];cases ho:iL op <;> cases hs2:(aH op).nm <;> simp_all [Int.natCast_inj])
  skip
  refine .sr<|.mv Z<|.yw (.nilCheck Z)<|.yw (.fieldAddr Z Fx.field27_0)<|.yw (.loadM Z Fx.agg24 hm (k:=0) Z Z)<|.yw (.eql Z Z)<|.a Z Z<|.nt<|.cd Z (fun h34=>?_) (fun h34=>?_)
  ·try simp only [dt] at h34
   have h34:op=1:=UInt8.toNat_inj.1 (by show op.toNat=1;omega);refine .sr<|.mv Z<|.yw (.nilCheck Z)<|.yw (.fieldAddr Z Fx.field27_2)<|.yw (.loadM Z Fx.agg2 hm (k:=2) Z Z)<|.yw (.geq Z Z)<|.a Z Z<|.nt<|.rt<|.bR<|.tR<|?_
   refine Sx.ret1 (.inl rfl) rfl (.tmp rfl) fun W s=>⟨dB ?_,s.ext⟩
   first
    | (simp only [dO];cases ho:iL op <;> cases hs2:(aH op).nm <;> simp_all [Int.natCast_inj])
  try simp only [df] at h34
  have h34:¬ op=1:=fun e=>h34 (by rw [e];rfl);refine .sk<|.bN<|.tN<|.sr<|.mv Z<|.yw (.nilCheck Z)<|.yw (.fieldAddr Z Fx.field27_2)<|.yw (.loadM Z Fx.agg2 hm (k:=2) Z Z)<|.yw (.eql Z Z)<|.a Z Z<|.nt<|.rt<|?_
  refine Sx.ret1 (.inl rfl) rfl (.tmp rfl) fun W s=>⟨dB ?_,s.ext⟩
  first
   | (simp only [dO];cases ho:iL op <;> cases hs2:(aH op).nm <;> simp_all [Int.natCast_inj])
 skip
 refine .sq<|.fL 8 [(0,0),(1,0),(2,0),(3,0),(4,0),(5,0),(6,0),(7,0)]<|.mv Z<|.yw (.nilCheck Z)<|.yw (.fieldAddr Z Fx.field27_3)<|.yw (.loadM Z Fx.agg25 hm (k:=3) Z Z)<|.yw (.lenSl Fx.sl25 Z)<|.yw (.fieldAddr Z Fx.field137_0)<|.yw (.load Z Fx.agg3 (.head _) Z)<|.yw (.neq Z Z)<|.fn (tl:=[_]) Z<|.a Z Z<|.nt<|.cd Z (fun h13=>?_) (fun h13=>?_)
 ·skip
  refine .sk<|.tN<|.cd Z (fun h13=>?_) (fun h13=>?_)
  ·skip
   refine .sr<|.a Z Z<|.nt<|.rt<|.bR<|.tR<|?_
   refine Sx.ret1 (.inl rfl) rfl (.tmp rfl) fun W s=>⟨dB ?_,s.ext⟩
   first
    | (simp only [dO];cases ho:iL op <;> cases hs2:(aH op).nm <;> simp_all [Int.natCast_inj])
  skip
  refine .sr<|.mv Z<|.yw (.nilCheck Z)<|.yw (.fieldAddr Z Fx.field27_0)<|.yw (.loadM Z Fx.agg24 hm (k:=0) Z Z)<|.yw (.eql Z Z)<|.a Z Z<|.nt<|.cd Z (fun h34=>?_) (fun h34=>?_)
  ·try simp only [dt] at h34
   have h34:op=1:=UInt8.toNat_inj.1 (by show op.toNat=1;omega);refine .sr<|.mv Z<|.yw (.nilCheck Z)<|.yw (.fieldAddr Z Fx.field27_2)<|.yw (.loadM Z Fx.agg2 hm (k:=2) Z Z)<|.yw (.geq Z Z)<|.a Z Z<|.nt<|.rt<|.bR<|.tR<|?_
   refine Sx.ret1 (.inl rfl) rfl (.tmp rfl) fun W s=>⟨dB ?_,s.ext⟩
   first
    | (simp only [dO];cases ho:iL op <;> cases hs2:(aH op).nm <;> simp_all [Int.natCast_inj])
  try simp only [df] at h34
  have h34:¬ op=1:=fun e=>h34 (by rw [e];rfl);refine .sk<|.bN<|.tN<|.sr<|.mv Z<|.yw (.nilCheck Z)<|.yw (.fieldAddr Z Fx.field27_2)<|.yw (.loadM Z Fx.agg2 hm (k:=2) Z Z)<|.yw (.eql Z Z)<|.a Z Z<|.nt<|.rt<|?_
  refine Sx.ret1 (.inl rfl) rfl (.tmp rfl) fun W s=>⟨dB ?_,s.ext⟩
  first
   | (simp only [dO];cases ho:iL op <;> cases hs2:(aH op).nm <;> simp_all [Int.natCast_inj])
 skip
 refine .rg<|.yw (.fieldAddr Z Fx.field137_1)<|.yw (.load Z Fx.agg4 (.head _) Z)<|.yw (.not Z)<|.mv Z<|.b2 (fun h27=>?_) (fun h27=>?_)
 ·skip
  refine .gd Z Z<|.yw (.move Z)<|.gd Z Z<|.yw (.nilCheck Z)<|.gd Z Z<|.yw (.fieldAddr Z Fx.field27_1)<|.gd Z Z<|.yw (.loadM Z Fx.agg9 hm (k:=1) Z Z)<|.gd Z Z<|.yw (.neS Z Z)<|.yw (.pickT Z Z)<|.a Z Z<|.nt<|.cd Z (fun h13=>?_) (fun h13=>?_)
  ·skip
   refine .sr<|.a Z Z<|.nt<|.rt<|.bR<|.tR<|?_
   refine Sx.ret1 (.inl rfl) rfl (.tmp rfl) fun W s=>⟨dB ?_,s.ext⟩
   first
    | (simp only [dO];cases ho:iL op <;> cases hs2:(aH op).nm <;> simp_all [Int.natCast_inj])
  skip
  refine .sr<|.mv Z<|.yw (.nilCheck Z)<|.yw (.fieldAddr Z Fx.field27_0)<|.yw (.loadM Z Fx.agg24 hm (k:=0) Z Z)<|.yw (.eql Z Z)<|.a Z Z<|.nt<|.cd Z (fun h34=>?_) (fun h34=>?_)
  ·try simp only [dt] at h34
   have h34:op=1:=UInt8.toNat_inj.1 (by show op.toNat=1;omega);refine .sr<|.mv Z<|.yw (.nilCheck Z)<|.yw (.fieldAddr Z Fx.field27_2)<|.yw (.loadM Z Fx.agg2 hm (k:=2) Z Z)<|.yw (.geq Z Z)<|.a Z Z<|.nt<|.rt<|.bR<|.tR<|?_
   refine Sx.ret1 (.inl rfl) rfl (.tmp rfl) fun W s=>⟨dB ?_,s.ext⟩
   first
    | (simp only [dO];cases ho:iL op <;> cases hs2:(aH op).nm <;> simp_all [Int.natCast_inj])
  try simp only [df] at h34
  have h34:¬ op=1:=fun e=>h34 (by rw [e];rfl);refine .sk<|.bN<|.tN<|.sr<|.mv Z<|.yw (.nilCheck Z)<|.yw (.fieldAddr Z Fx.field27_2)<|.yw (.loadM Z Fx.agg2 hm (k:=2) Z Z)<|.yw (.eql Z Z)<|.a Z Z<|.nt<|.rt<|?_
  refine Sx.ret1 (.inl rfl) rfl (.tmp rfl) fun W s=>⟨dB ?_,s.ext⟩
  first
   | (simp only [dO];cases ho:iL op <;> cases hs2:(aH op).nm <;> simp_all [Int.natCast_inj])
 skip
 refine .gG<|.gG<|.gG<|.gG<|.gG<|.yw (.pickF Z Z)<|.a Z Z<|.nt<|.cF Z<|.sr<|.mv Z<|.yw (.nilCheck Z)<|.yw (.fieldAddr Z Fx.field27_0)<|.yw (.loadM Z Fx.agg24 hm (k:=0) Z Z)<|.yw (.eql Z Z)<|.a Z Z<|.nt<|.cd Z (fun h34=>?_) (fun h34=>?_)
 ·try simp only [dt] at h34
  have h34:op=1:=UInt8.toNat_inj.1 (by show op.toNat=1;omega);refine .sr<|.mv Z<|.yw (.nilCheck Z)<|.yw (.fieldAddr Z Fx.field27_2)<|.yw (.loadM Z Fx.agg2 hm (k:=2) Z Z)<|.yw (.geq Z Z)<|.a Z Z<|.nt<|.rt<|.bR<|.tR<|?_
  refine Sx.ret1 (.inl rfl) rfl (.tmp rfl) fun W s=>⟨dB ?_,s.ext⟩
  first
   | (simp only [dO];cases ho:iL op <;> cases hs2:(aH op).nm <;> simp_all [Int.natCast_inj])
 try simp only [df] at h34
 have h34:¬ op=1:=fun e=>h34 (by rw [e];rfl);refine .sk<|.bN<|.tN<|.sr<|.mv Z<|.yw (.nilCheck Z)<|.yw (.fieldAddr Z Fx.field27_2)<|.yw (.loadM Z Fx.agg2 hm (k:=2) Z Z)<|.yw (.eql Z Z)<|.a Z Z<|.nt<|.rt<|?_
 refine Sx.ret1 (.inl rfl) rfl (.tmp rfl) fun W s=>⟨dB ?_,s.ext⟩
 first
  | (simp only [dO];cases ho:iL op <;> cases hs2:(aH op).nm <;> simp_all [Int.natCast_inj])
theorem Fx.agg159:dF Tryz.prog 159=some none:=by kernel_rfl
theorem Fx.agg206:dF Tryz.prog 206=some none:=by kernel_rfl
theorem Fx.call105:aM Tryz.prog 105=Bool.true:=by kernel_rfl
theorem Fx.call108:aM Tryz.prog 108=Bool.true:=by kernel_rfl
theorem Fx.call141:aM Tryz.prog 141=Bool.true:=by kernel_rfl
theorem Fx.call142:aM Tryz.prog 142=Bool.true:=by kernel_rfl
theorem Fx.field208_0:aN Tryz.prog 208 0=some 0:=by kernel_rfl
theorem Fx.field208_1:aN Tryz.prog 208 1=some 1:=by kernel_rfl
theorem Fx.field208_2:aN Tryz.prog 208 2=some 2:=by kernel_rfl
theorem Fx.field208_3:aN Tryz.prog 208 3=some 3:=by kernel_rfl
theorem Fx.field208_4:aN Tryz.prog 208 4=some 4:=by kernel_rfl
theorem Fx.field208_5:aN Tryz.prog 208 5=some 5:=by kernel_rfl
theorem Fx.field236_0:aN Tryz.prog 236 0=some 0:=by kernel_rfl
theorem Fx.field236_1:aN Tryz.prog 236 1=some 1:=by kernel_rfl
theorem Fx.field236_2:aN Tryz.prog 236 2=some 2:=by kernel_rfl
theorem Fx.field236_3:aN Tryz.prog 236 3=some 3:=by kernel_rfl
theorem Fx.field236_4:aN Tryz.prog 236 4=some 4:=by kernel_rfl
theorem Fx.field236_5:aN Tryz.prog 236 5=some 5:=by kernel_rfl
theorem Fx.sl159:slN Tryz.prog 159=some 6:=by kernel_rfl
theorem xA (H:Hp) (G:Gl H) (e:Ex) (cs:List Value) (h:Rep H (dEx .u8 e) cs) (he:e.depth≤1000000) (w:World) (hA:Agr H w) :
 Calls Tryz.prog 15 #[.agg cs.toArray] w fun r w'=>r=.returned (.int .i64 (eY e:Nat))∧Ext w w':=by
 obtain ⟨op,nm,nn,args⟩:=e;obtain ⟨p,c,rfl,hs,hnm⟩:=bZ h;refine Sx.enter (H:=H) Tryz.func15 rfl Tryz.ntmps15 rfl hA ?_;refine .sr<|.bx Z Z Z fun b1=>?_
 refine Sx.freezeBox fun H1 u1 m1=>?_;refine .a Z Z<|.nt<|.sq<|.bk<|.sr<|.yw (.loadMW Z Fx.agg27 m1 Z)<|.yw (.call Fx.call29 Z (fun W s=>pW _ H1 _ W (h.up u1.up) he s.agr))<|.yw (.gtr Z Z)<|.a Z Z<|.nt<|.cd Z (fun h3=>?_) (fun h3=>?_)
 ·try simp only [dt] at h3
  refine .sr<|.a Z Z<|.nt<|.rt<|.bR<|.tR<|?_
  refine Sx.ret1 (.inl rfl) rfl (.tmp rfl) fun W s=>⟨?_,s.ext⟩
  first
   | (rw [eY,if_pos (by omega)];rfl)
   | (rw [eY,if_neg (by omega),if_pos (by simpa using h7)];rfl)
   | (rw [eY,if_neg (by omega),if_neg (by simpa using h7),if_pos (by simpa using h10)];rfl)
   | (rw [eY,if_neg (by omega),if_neg (by simpa using h7),if_neg (by simpa using h10)];rfl)
 try simp only [df] at h3
 refine .sr<|.yw (.call Fx.call30 Z (fun W s=>lS 31 iO iN H1 (G.up u1.up) _ _ b1 0 W (h.up u1.up) m1 s.agr))<|.yw (.not Z)<|.a Z Z<|.nt<|.cd Z (fun h7=>?_) (fun h7=>?_)
 ·skip
  refine .sr<|.a Z Z<|.nt<|.rt<|.bR<|.tR<|?_
  refine Sx.ret1 (.inl rfl) rfl (.tmp rfl) fun W s=>⟨?_,s.ext⟩
  first
   | (rw [eY,if_pos (by omega)];rfl)
   | (rw [eY,if_neg (by omega),if_pos (by simpa using h7)];rfl)
   | (rw [eY,if_neg (by omega),if_neg (by simpa using h7),if_pos (by simpa using h10)];rfl)
   | (rw [eY,if_neg (by omega),if_neg (by simpa using h7),if_neg (by simpa using h10)];rfl)
 skip
 refine .sr<|.yw (.call Fx.call30 Z (fun W s=>lS 32 dO nW H1 (G.up u1.up) _ _ b1 0 W (h.up u1.up) m1 s.agr))<|.yw (.not Z)<|.a Z Z<|.nt<|.cd Z (fun h10=>?_) (fun h10=>?_)
 ·skip
  refine .sr<|.a Z Z<|.nt<|.rt<|.bR<|.tR<|?_
  refine Sx.ret1 (.inl rfl) rfl (.tmp rfl) fun W s=>⟨?_,s.ext⟩
  first
   | (rw [eY,if_pos (by omega)];rfl)
   | (rw [eY,if_neg (by omega),if_pos (by simpa using h7)];rfl)
   | (rw [eY,if_neg (by omega),if_neg (by simpa using h7),if_pos (by simpa using h10)];rfl)
   | (rw [eY,if_neg (by omega),if_neg (by simpa using h7),if_neg (by simpa using h10)];rfl)
 skip
 refine .sk<|.bN<|.tN<|.sr<|.a Z Z<|.nt<|.rt<|?_
 refine Sx.ret1 (.inl rfl) rfl (.tmp rfl) fun W s=>⟨?_,s.ext⟩
 first
  | (rw [eY,if_pos (by omega)];rfl)
  | (rw [eY,if_neg (by omega),if_pos (by simpa using h7)];rfl)
  | (rw [eY,if_neg (by omega),if_neg (by simpa using h7),if_pos (by simpa using h10)];rfl)
  | (rw [eY,if_neg (by omega),if_neg (by simpa using h7),if_neg (by simpa using h10)];rfl)
theorem kM (gf:FuncId) (q:Ex→Bool) (hg:SP gf q) (H:Hp) (G:Gl H) (kd:UInt8) (nm hd:Str) (ex:List Ex) (th el:List Sm) (cs:List Value) (b o:Nat) (w:World) (h:Rep H (dSm .u8 (.mk kd nm hd ex th el)) cs) (hm:dS H b o cs) (hA:Agr H w) :
 Calls Tryz.prog 142 #[.pointer (some ⟨b,o,none⟩),.func (.func gf) #[] #[]] w fun r w'=>r=.returned (.bool (Ex.alls q ex))∧Ext w w':=by
 obtain ⟨p,c,p1,c1,p2,c2,rfl,hs,hs1,hs2,hn1,hn2⟩:=jA h;have hcap:=hs.cap;refine Sx.enter (H:=H) Tryz.func142 rfl Tryz.ntmps142 rfl hA ?_;refine .sr<|.a Z Z<|.nt<|.sq<|.sr<|.mv Z<|.yw (.nilCheck Z)<|.yw (.fieldAddr Z Fx.field208_3)<|.yw (.loadM Z Fx.agg25 hm (k:=3) Z Z)<|.yw (.lenSl Fx.sl25 Z)<|.mv Z<|.nt<|.bk<|.lp (X:=Nat) [(0,_),(1,_),(10,_)] ⟨rfl,rfl,rfl,trivial⟩ [] (fun k=>[(11,.int .i64 (k:Nat))]) (fun k=>H) (fun k=>[]) (fun k=>k≤ex.length∧Ex.alls q (ex.take k)=true) (fun k=>ex.length - k) 0 (fun _ s=>s) ⟨rfl,trivial⟩ ⟨by omega,rfl⟩ fun k hC=>?_
 obtain ⟨hk0,hal⟩:=hC;refine .sr<|.yw (.lss Z Z)<|.nt<|.sq<|.cd Z (fun h12=>?_) (fun h12=>?_)
 ·try simp only [dt] at h12
  have hk:k<ex.length:=by omega
  obtain ⟨b5,o5,c5,hp5,r5,l5,m5⟩:=hs.elem (bB hk);cases hp5;refine .sk<|.tN<|.sq<|.bk<|.sr<|.mv Z<|.a Z Z<|.ns<|.mv Z<|.yw (.nilCheck Z)<|.yw (.fieldAddr Z Fx.field208_3)<|.yw (.loadM Z Fx.agg25 hm (k:=3) Z Z)<|.mv Z<|.yw (.indexSl Fx.sl25 Z Z Z (by omega) (q:=o5+k * 4) Z)<|.mv Z<|.yw (.call Fx.call30 Z (fun W s=>lS gf q hg H G _ c5 b5 (o5+k * 4) W r5 m5 s.agr))<|.yw (.not Z)<|.nt<|.cd Z (fun h22=>?_) (fun h22=>?_)
  ·skip
   refine .sr<|.a Z Z<|.nt<|.rt<|.bR<|.tR<|.tR<|.bR<|.tR<|?_
   refine Sx.ret1 (.inl rfl) rfl (.tmp rfl) fun W s=>⟨dB ?_,s.ext⟩
   first
    | (rw [mQ hk (by simpa using h22)])
    | (rw [hal])
  skip
  exact .sk<|.bN<|.tN<|.rg<|.yw (.add Z Z (w6 (by omega)))<|.mv Z<|.nt<|.ag (k+1) ⟨rfl,trivial⟩ ⟨rfl,rfl,rfl,trivial⟩ (fun _ s=>s) ⟨by omega,by rw [sH hk,hal];simpa using h22⟩ (by omega)
 try simp only [df] at h12
 obtain rfl:k=ex.length:=by omega
 rw [List.take_length] at hal;refine .ex<|.tE<|.tE<|.bE<|.tN<|.sr<|.a Z Z<|.nt<|.rt<|?_
 refine Sx.ret1 (.inl rfl) rfl (.tmp rfl) fun W s=>⟨dB ?_,s.ext⟩
 first
  | (rw [mQ hk (by simpa using h22)])
  | (rw [hal])
def SM (gf:FuncId) (q:Sm→Bool):Prop:=aM Tryz.prog gf=true∧∀ (H:Hp),Gl H→∀ (e:Sm) (cs:List Value) (b o:Nat) (w:World),Rep H (dSm .u8 e) cs→dS H b o cs→vO e=true→Agr H w →
 Calls Tryz.prog gf #[.pointer (some ⟨b,o,none⟩)] w fun r w'=>r=.returned (.bool (q e))∧Ext w w'
theorem wV:SM 105 iA:=by
 refine ⟨Fx.call105,fun H G e cs b o w h hm hok hA=>?_⟩;obtain ⟨kd,nm,hd,ex,th,el⟩:=e;obtain ⟨p,c,p1,c1,p2,c2,rfl,hs,hs1,hs2,hn1,hn2⟩:=jA h;have hcap:=hs.cap;have hcap1:=hs1.cap;have hcap2:=hs2.cap;refine Sx.enter (H:=H) Tryz.func105 rfl Tryz.ntmps105 rfl hA ?_;refine .sr<|.a Z Z<|.ns<|.mv Z<|.yw (.nilCheck Z)<|.yw (.fieldAddr Z Fx.field208_0)<|.yw (.loadM Z Fx.agg206 hm (k:=0) Z Z)<|.yw (.call Fx.call141 Z (fun W s=>DJ H G kd W s.agr))<|.mv Z<|.yw (.extract Z Z)<|.yw (.extract Z Z)<|.al Fx.zero236 Z fun b3=>.sV .head Z Z Fx.size236 Z (by simp [pU,Value.oneCell']) Z<|.a Z Z<|.nt<|.sq<|.sr<|.yw (.fieldAddr Z Fx.field236_0)<|.yw (.load Z Fx.agg4 (.head _) Z)<|.mv Z<|.b2 (fun h15=>?_) (fun h15=>?_)
 ·skip
  refine .gd Z Z<|.yw (.move Z)<|.gd Z Z<|.yw (.nilCheck Z)<|.gd Z Z<|.yw (.fieldAddr Z Fx.field208_1)<|.gd Z Z<|.yw (.loadM Z Fx.agg9 hm (k:=1) Z Z)<|.gd Z Z<|.yw (.call Fx.call58 Z (fun W s=>eI H G nm (by omega) W s.agr))<|.gd Z Z<|.yw (.not Z)<|.yw (.pickT Z Z)<|.mv Z<|.b2 (fun h23=>?_) (fun h23=>?_)
  ·skip
   refine .gG<|.gG<|.gG<|.gV<|.gV<|.gV<|.gV<|.gV<|.gV<|.gG<|.yw (.pickT Z Z)<|.nt<|.cT Z<|.sr<|.a Z Z<|.nt<|.rt<|.tR<|?_
   refine Sx.ret1 (.inl rfl) rfl (.tmp rfl) fun W s=>⟨dB ?_,s.ext⟩
   first
    | (simp only [iA];simp_all)
  skip
  refine .gd Z Z<|.yw (.fieldAddr Z Fx.field236_1)<|.gd Z Z<|.yw (.load Z Fx.agg4 (.head _) Z)<|.gd Z Z<|.yw (.move Z)<|.b2 (fun h26=>?_) (fun h26=>?_)
  ·skip
   refine .gd Z Z<|.yw (.move Z)<|.gd Z Z<|.yw (.nilCheck Z)<|.gd Z Z<|.yw (.fieldAddr Z Fx.field208_2)<|.gd Z Z<|.yw (.loadM Z Fx.agg9 hm (k:=2) Z Z)<|.gd Z Z<|.yw (.call Fx.call58 Z (fun W s=>eI H G hd (by omega) W s.agr))<|.gd Z Z<|.yw (.not Z)<|.gd Z Z<|.yw (.pickT Z Z)<|.yw (.pickF Z Z)<|.nt<|.cd Z (fun h34=>?_) (fun h34=>?_)
   ·skip
    refine .sr<|.a Z Z<|.nt<|.rt<|.tR<|?_
    refine Sx.ret1 (.inl rfl) rfl (.tmp rfl) fun W s=>⟨dB ?_,s.ext⟩
    first
     | (simp only [iA];simp_all)
   skip
   refine .sk<|.tN<|.sr<|.mv Z<|.yw (.call Fx.call142 Z (fun W s=>kM 31 iO iN H G _ _ _ _ _ _ _ b o W h hm s.agr))<|.a Z Z<|.nt<|.rt<|?_
   refine Sx.ret1 (.inl rfl) rfl (.tmp rfl) fun W s=>⟨dB ?_,s.ext⟩
   first
    | (simp only [iA];simp_all)
  skip
  refine .gG<|.gG<|.gG<|.gG<|.gG<|.gG<|.gd Z Z<|.yw (.pickF Z Z)<|.yw (.pickF Z Z)<|.nt<|.cF Z<|.sk<|.tN<|.sr<|.mv Z<|.yw (.call Fx.call142 Z (fun W s=>kM 31 iO iN H G _ _ _ _ _ _ _ b o W h hm s.agr))<|.a Z Z<|.nt<|.rt<|?_
  refine Sx.ret1 (.inl rfl) rfl (.tmp rfl) fun W s=>⟨dB ?_,s.ext⟩
  first
   | (simp only [iA];simp_all)
 skip
 refine .gG<|.gG<|.gG<|.gG<|.gG<|.gG<|.yw (.pickF Z Z)<|.mv Z<|.gd Z Z<|.yw (.fieldAddr Z Fx.field236_1)<|.gd Z Z<|.yw (.load Z Fx.agg4 (.head _) Z)<|.gd Z Z<|.yw (.move Z)<|.b2 (fun h26=>?_) (fun h26=>?_)
 ·skip
  refine .gd Z Z<|.yw (.move Z)<|.gd Z Z<|.yw (.nilCheck Z)<|.gd Z Z<|.yw (.fieldAddr Z Fx.field208_2)<|.gd Z Z<|.yw (.loadM Z Fx.agg9 hm (k:=2) Z Z)<|.gd Z Z<|.yw (.call Fx.call58 Z (fun W s=>eI H G hd (by omega) W s.agr))<|.gd Z Z<|.yw (.not Z)<|.gd Z Z<|.yw (.pickT Z Z)<|.yw (.pickF Z Z)<|.nt<|.cd Z (fun h34=>?_) (fun h34=>?_)
  ·skip
   refine .sr<|.a Z Z<|.nt<|.rt<|.tR<|?_
   refine Sx.ret1 (.inl rfl) rfl (.tmp rfl) fun W s=>⟨dB ?_,s.ext⟩
   first
    | (simp only [iA];simp_all)
  skip
  refine .sk<|.tN<|.sr<|.mv Z<|.yw (.call Fx.call142 Z (fun W s=>kM 31 iO iN H G _ _ _ _ _ _ _ b o W h hm s.agr))<|.a Z Z<|.nt<|.rt<|?_
  refine Sx.ret1 (.inl rfl) rfl (.tmp rfl) fun W s=>⟨dB ?_,s.ext⟩
  first
   | (simp only [iA];simp_all)
 skip
 refine .gG<|.gG<|.gG<|.gG<|.gG<|.gG<|.gd Z Z<|.yw (.pickF Z Z)<|.yw (.pickF Z Z)<|.nt<|.cF Z<|.sk<|.tN<|.sr<|.mv Z<|.yw (.call Fx.call142 Z (fun W s=>kM 31 iO iN H G _ _ _ _ _ _ _ b o W h hm s.agr))<|.a Z Z<|.nt<|.rt<|?_
 refine Sx.ret1 (.inl rfl) rfl (.tmp rfl) fun W s=>⟨dB ?_,s.ext⟩
 first
  | (simp only [iA];simp_all)
theorem wF:SM 108 jY:=by
 refine ⟨Fx.call108,fun H G e cs b o w h hm hok hA=>?_⟩;obtain ⟨kd,nm,hd,ex,th,el⟩:=e;obtain ⟨p,c,p1,c1,p2,c2,rfl,hs,hs1,hs2,hn1,hn2⟩:=jA h;have hcap:=hs.cap;have hcap1:=hs1.cap;have hcap2:=hs2.cap;refine Sx.enter (H:=H) Tryz.func108 rfl Tryz.ntmps108 rfl hA ?_;refine .sr<|.a Z Z<|.ns<|.mv Z<|.yw (.nilCheck Z)<|.yw (.fieldAddr Z Fx.field208_0)<|.yw (.loadM Z Fx.agg206 hm (k:=0) Z Z)<|.yw (.call Fx.call141 Z (fun W s=>DJ H G kd W s.agr))<|.mv Z<|.yw (.extract Z Z)<|.yw (.extract Z Z)<|.al Fx.zero236 Z fun b3=>.sV .head Z Z Fx.size236 Z (by simp [pU,Value.oneCell']) Z<|.a Z Z<|.nt<|.sq<|.sr<|.mv Z<|.yw (.nilCheck Z)<|.yw (.fieldAddr Z Fx.field208_3)<|.yw (.loadM Z Fx.agg25 hm (k:=3) Z Z)<|.yw (.lenSl Fx.sl25 Z)<|.a Z Z<|.nt<|.bk<|.cu (X:=Bool) [(0,_),(3,_)] ⟨rfl,rfl,trivial⟩ (fun z=>[(19,.bool z)]) (fun z=>H) (fun z=>[.box b3 (pU (aT kd)) 236]) (fun z=>z=(!gT kd || decide ((ex.length:Int)<((aT kd).lo:Nat)) || decide (((aT kd).hi:Nat)<(ex.length:Int)))) ?_ fun z hC=>?_
 ·
  refine .sr<|.mv Z<|.yw (.not Z)<|.a Z Z<|.nt<|.cd Z (fun h19=>?_) (fun h19=>?_)
  ·skip
   exact .sk<|.tN<|.me _ ⟨rfl,trivial⟩ ⟨rfl,rfl,trivial⟩ (fun _ s=>s) (by first | (simp_all;done) | (simp_all;omega) | (simp_all;intros;omega))
  skip
  refine .sr<|.mv Z<|.yw (.fieldAddr Z Fx.field236_2)<|.yw (.load Z Fx.agg3 (.head _) Z)<|.yw (.lss Z Z)<|.a Z Z<|.nt<|.cd Z (fun h19=>?_) (fun h19=>?_)
  ·skip
   exact .sk<|.tN<|.me _ ⟨rfl,trivial⟩ ⟨rfl,rfl,trivial⟩ (fun _ s=>s) (by first | (simp_all;done) | (simp_all;omega) | (simp_all;intros;omega))
  skip
  exact .rg<|.mv Z<|.yw (.fieldAddr Z Fx.field236_3)<|.yw (.load Z Fx.agg3 (.head _) Z)<|.yw (.gtr Z Z)<|.a Z Z<|.nt<|.me _ ⟨rfl,trivial⟩ ⟨rfl,rfl,trivial⟩ (fun _ s=>s) (by first | (simp_all;done) | (simp_all;omega) | (simp_all;intros;omega))
 have e1:=hC;refine .cd Z (fun h19=>?_) (fun h19=>?_)
 ·skip
  refine .sr<|.a Z Z<|.nt<|.rt<|.bR<|.tR<|?_
  refine Sx.ret1 (.inl rfl) rfl (.tmp rfl) fun W s=>⟨dB ?_,s.ext⟩
  first
   | (rw [fP,← e1,← e2,← e3,h19,h30,h51];simp)
   | (rw [fP,← e1,← e2,← e3,h19,h30,h51];rfl)
   | (rw [fP,← e1,← e2,h19,h30];rfl)
   | (rw [fP,← e1,h19];rfl)
 skip
 refine .cu (X:=Bool) [(0,_),(3,_)] ⟨rfl,rfl,trivial⟩ (fun z=>[(30,.bool z)]) (fun z=>H) (fun z=>[.box b3 (pU (aT kd)) 236]) (fun z=>z=((!(aT kd).nm && decide (¬ nm=[])) || (!(aT kd).hd && decide (¬ hd=[])))) ?_ fun z hC=>?_
 ·
  refine .sr<|.yw (.fieldAddr Z Fx.field236_0)<|.yw (.load Z Fx.agg4 (.head _) Z)<|.yw (.not Z)<|.mv Z<|.b2 (fun h34=>?_) (fun h34=>?_)
  ·skip
   refine .gd Z Z<|.yw (.move Z)<|.gd Z Z<|.yw (.nilCheck Z)<|.gd Z Z<|.yw (.fieldAddr Z Fx.field208_1)<|.gd Z Z<|.yw (.loadM Z Fx.agg9 hm (k:=1) Z Z)<|.gd Z Z<|.yw (.neS Z Z)<|.yw (.pickT Z Z)<|.a Z Z<|.nt<|.cd Z (fun h30=>?_) (fun h30=>?_)
   ·skip
    exact .sk<|.tN<|.me _ ⟨rfl,trivial⟩ ⟨rfl,rfl,trivial⟩ (fun _ s=>s) (by first | (simp_all;done) | (simp_all;omega) | (simp_all;intros;omega))
   skip
   refine .rg<|.yw (.fieldAddr Z Fx.field236_1)<|.yw (.load Z Fx.agg4 (.head _) Z)<|.yw (.not Z)<|.mv Z<|.b2 (fun h44=>?_) (fun h44=>?_)
   ·skip
    exact .gd Z Z<|.yw (.move Z)<|.gd Z Z<|.yw (.nilCheck Z)<|.gd Z Z<|.yw (.fieldAddr Z Fx.field208_2)<|.gd Z Z<|.yw (.loadM Z Fx.agg9 hm (k:=2) Z Z)<|.gd Z Z<|.yw (.neS Z Z)<|.yw (.pickT Z Z)<|.a Z Z<|.nt<|.me _ ⟨rfl,trivial⟩ ⟨rfl,rfl,trivial⟩ (fun _ s=>s) (by first | (simp_all;done) | (simp_all;omega) | (simp_all;intros;omega))
   skip
   exact .gG<|.gG<|.gG<|.gG<|.gG<|.yw (.pickF Z Z)<|.a Z Z<|.nt<|.me _ ⟨rfl,trivial⟩ ⟨rfl,rfl,trivial⟩ (fun _ s=>s) (by first | (simp_all;done) | (simp_all;omega) | (simp_all;intros;omega))
  skip
  refine .gG<|.gG<|.gG<|.gG<|.gG<|.yw (.pickF Z Z)<|.a Z Z<|.nt<|.cF Z<|.rg<|.yw (.fieldAddr Z Fx.field236_1)<|.yw (.load Z Fx.agg4 (.head _) Z)<|.yw (.not Z)<|.mv Z<|.b2 (fun h44=>?_) (fun h44=>?_)
  ·skip
   exact .gd Z Z<|.yw (.move Z)<|.gd Z Z<|.yw (.nilCheck Z)<|.gd Z Z<|.yw (.fieldAddr Z Fx.field208_2)<|.gd Z Z<|.yw (.loadM Z Fx.agg9 hm (k:=2) Z Z)<|.gd Z Z<|.yw (.neS Z Z)<|.yw (.pickT Z Z)<|.a Z Z<|.nt<|.me _ ⟨rfl,trivial⟩ ⟨rfl,rfl,trivial⟩ (fun _ s=>s) (by first | (simp_all;done) | (simp_all;omega) | (simp_all;intros;omega))
  skip
  exact .gG<|.gG<|.gG<|.gG<|.gG<|.yw (.pickF Z Z)<|.a Z Z<|.nt<|.me _ ⟨rfl,trivial⟩ ⟨rfl,rfl,trivial⟩ (fun _ s=>s) (by first | (simp_all;done) | (simp_all;omega) | (simp_all;intros;omega))
 have e2:=hC;refine .cd Z (fun h30=>?_) (fun h30=>?_)
 ·skip
  refine .sr<|.a Z Z<|.nt<|.rt<|.bR<|.tR<|?_
  refine Sx.ret1 (.inl rfl) rfl (.tmp rfl) fun W s=>⟨dB ?_,s.ext⟩
  first
   | (rw [fP,← e1,← e2,← e3,h19,h30,h51];simp)
   | (rw [fP,← e1,← e2,← e3,h19,h30,h51];rfl)
   | (rw [fP,← e1,← e2,h19,h30];rfl)
   | (rw [fP,← e1,h19];rfl)
 skip
 refine .cu (X:=Bool) [(0,_)] ⟨rfl,trivial⟩ (fun z=>[(51,.bool z)]) (fun z=>H) (fun z=>[.box b3 (pU (aT kd)) 236]) (fun z=>z=((!(aT kd).th && decide ((0:Int)<th.length)) || (!(aT kd).el && decide ((0:Int)<el.length)))) ?_ fun z hC=>?_
 ·
  refine .sr<|.yw (.fieldAddr Z Fx.field236_4)<|.yw (.load Z Fx.agg4 (.head _) Z)<|.yw (.not Z)<|.mv Z<|.b2 (fun h55=>?_) (fun h55=>?_)
  ·skip
   refine .gd Z Z<|.yw (.move Z)<|.gd Z Z<|.yw (.nilCheck Z)<|.gd Z Z<|.yw (.fieldAddr Z Fx.field208_4)<|.gd Z Z<|.yw (.loadM Z Fx.agg159 hm (k:=4) Z Z)<|.gd Z Z<|.yw (.lenSl Fx.sl159 Z)<|.gd Z Z<|.yw (.gtr Z Z)<|.yw (.pickT Z Z)<|.a Z Z<|.nt<|.cd Z (fun h51=>?_) (fun h51=>?_)
   ·skip
    exact .sk<|.tN<|.me _ ⟨rfl,trivial⟩ ⟨rfl,trivial⟩ (fun _ s=>s) (by first | (simp_all;done) | (simp_all;omega) | (simp_all;intros;omega))
   skip
   refine .rg<|.yw (.fieldAddr Z Fx.field236_5)<|.yw (.load Z Fx.agg4 (.head _) Z)<|.yw (.not Z)<|.mv Z<|.b2 (fun h66=>?_) (fun h66=>?_)
   ·skip
    exact .gd Z Z<|.yw (.move Z)<|.gd Z Z<|.yw (.nilCheck Z)<|.gd Z Z<|.yw (.fieldAddr Z Fx.field208_5)<|.gd Z Z<|.yw (.loadM Z Fx.agg159 hm (k:=5) Z Z)<|.gd Z Z<|.yw (.lenSl Fx.sl159 Z)<|.gd Z Z<|.yw (.gtr Z Z)<|.yw (.pickT Z Z)<|.a Z Z<|.nt<|.me _ ⟨rfl,trivial⟩ ⟨rfl,trivial⟩ (fun _ s=>s) (by first | (simp_all;done) | (simp_all;omega) | (simp_all;intros;omega))
   skip
   exact .gG<|.gG<|.gG<|.gG<|.gG<|.gG<|.yw (.pickF Z Z)<|.a Z Z<|.nt<|.me _ ⟨rfl,trivial⟩ ⟨rfl,trivial⟩ (fun _ s=>s) (by first | (simp_all;done) | (simp_all;omega) | (simp_all;intros;omega))
  skip
  refine .gG<|.gG<|.gG<|.gG<|.gG<|.gG<|.yw (.pickF Z Z)<|.a Z Z<|.nt<|.cF Z<|.rg<|.yw (.fieldAddr Z Fx.field236_5)<|.yw (.load Z Fx.agg4 (.head _) Z)<|.yw (.not Z)<|.mv Z<|.b2 (fun h66=>?_) (fun h66=>?_)
  ·skip
   exact .gd Z Z<|.yw (.move Z)<|.gd Z Z<|.yw (.nilCheck Z)<|.gd Z Z<|.yw (.fieldAddr Z Fx.field208_5)<|.gd Z Z<|.yw (.loadM Z Fx.agg159 hm (k:=5) Z Z)<|.gd Z Z<|.yw (.lenSl Fx.sl159 Z)<|.gd Z Z<|.yw (.gtr Z Z)<|.yw (.pickT Z Z)<|.a Z Z<|.nt<|.me _ ⟨rfl,trivial⟩ ⟨rfl,trivial⟩ (fun _ s=>s) (by first | (simp_all;done) | (simp_all;omega) | (simp_all;intros;omega))
  skip
  exact .gG<|.gG<|.gG<|.gG<|.gG<|.gG<|.yw (.pickF Z Z)<|.a Z Z<|.nt<|.me _ ⟨rfl,trivial⟩ ⟨rfl,trivial⟩ (fun _ s=>s) (by first | (simp_all;done) | (simp_all;omega) | (simp_all;intros;omega))
 have e3:=hC;refine .cd Z (fun h51=>?_) (fun h51=>?_)
 ·skip
  refine .sr<|.a Z Z<|.nt<|.rt<|.bR<|.tR<|?_
  refine Sx.ret1 (.inl rfl) rfl (.tmp rfl) fun W s=>⟨dB ?_,s.ext⟩
  first
   | (rw [fP,← e1,← e2,← e3,h19,h30,h51];simp)
   | (rw [fP,← e1,← e2,← e3,h19,h30,h51];rfl)
   | (rw [fP,← e1,← e2,h19,h30];rfl)
   | (rw [fP,← e1,h19];rfl)
 skip
 refine .sk<|.bN<|.tN<|.sr<|.mv Z<|.yw (.call Fx.call142 Z (fun W s=>kM 32 dO nW H G _ _ _ _ _ _ _ b o W h hm s.agr))<|.a Z Z<|.nt<|.rt<|?_
 refine Sx.ret1 (.inl rfl) rfl (.tmp rfl) fun W s=>⟨dB ?_,s.ext⟩
 first
  | (rw [fP,← e1,← e2,← e3,h19,h30,h51];simp)
  | (rw [fP,← e1,← e2,← e3,h19,h30,h51];rfl)
  | (rw [fP,← e1,← e2,h19,h30];rfl)
  | (rw [fP,← e1,h19];rfl)
theorem Fx.call104:aM Tryz.prog 104=Bool.true:=by kernel_rfl
theorem Fx.call138:aM Tryz.prog 138=Bool.true:=by kernel_rfl
theorem Fx.call139:aM Tryz.prog 139=Bool.true:=by kernel_rfl
theorem sA (gf:FuncId) (q:Sm→Bool) (hg:SM gf q) (H:Hp) (G:Gl H):∀ (l:List Sm) (p:Option Addr) (n c:Nat) (w:World),Rep H (.seq 6 (l.map (dSm .u8))) [.slice p n c]→Sm.alls vO l=true→Agr H w →
 Calls Tryz.prog 104 #[.slice p n c,.func (.func gf) #[] #[]] w fun r w'=>r=.returned (.bool (Sm.alls q l))∧Ext w w':=by
 refine Sm.lists fun l ih=>?_;intro p n c w hs hok hA;obtain rfl:n=l.length:=by have:=hs.len.1;simpa using this
 have hcap:=hs.cap;refine Sx.enter (H:=H) Tryz.func104 rfl Tryz.ntmps104 rfl hA ?_;refine .sr<|.a Z Z<|.nt<|.sq<|.sr<|.mv Z<|.yw (.lenSl Fx.sl159 Z)<|.mv Z<|.nt<|.bk<|.lp (X:=Nat) [(0,_),(1,_),(8,_)] ⟨rfl,rfl,rfl,trivial⟩ [] (fun k=>[(9,.int .i64 (k:Nat))]) (fun k=>H) (fun k=>[]) (fun k=>k≤l.length∧Sm.alls q (l.take k)=true) (fun k=>l.length - k) 0 (fun _ s=>s) ⟨rfl,trivial⟩ ⟨by omega,rfl⟩ fun k hC=>?_
 obtain ⟨hk0,hal⟩:=hC;refine .sr<|.yw (.lss Z Z)<|.nt<|.sq<|.cd Z (fun h10=>?_) (fun h10=>?_)
 ·try simp only [dt] at h10
  have hk:k<l.length:=by omega
  obtain ⟨bE,oE,cE,hpE,rE,lE,mE⟩:=hs.elem (bB hk);cases hpE;have hi:=ih _ (List.getElem_mem hk);have hf:=vC (q:=q) hk;have hbad:=fun h=>xL (q:=q) hk h;have hok1:=BT hk hok;generalize hx:l[k]=x at rE hi hf hbad hok1;obtain ⟨kd,nm,hd,ex,th,el⟩:=x;obtain ⟨p1,c1,p2,c2,p3,c3,rfl,hs1,hs2,hs3,hn1,hn2⟩:=jA rE;simp only [Sm.th,Sm.el] at hi;simp only [eU,Bool.and_eq_true] at hok1;refine .sk<|.tN<|.sq<|.bk<|.sr<|.mv Z<|.a Z Z<|.ns<|.mv Z<|.mv Z<|.yw (.indexSl Fx.sl159 Z Z Z (by omega) (q:=oE+k * 6) Z)<|.a Z Z<|.ns<|.mv Z<|.mv Z<|.yw (.callV (fi:=[]) (ca:=[]) Z hg.1 Z (fun W s=>hg.2 H G _ _ bE (oE+k * 6) W rE mE hok1.1.1 s.agr))<|.yw (.not Z)<|.mv Z<|.b2 (fun h19=>?_) (fun h19=>?_)
  ·skip
   refine .gG<|.gG<|.gG<|.gG<|.gG<|.gG<|.gG<|.yw (.pickT Z Z)<|.mv Z<|.gG<|.gG<|.gG<|.gG<|.gG<|.gG<|.gG<|.yw (.pickT Z Z)<|.nt<|.cT Z<|.sr<|.a Z Z<|.nt<|.rt<|.bR<|.tR<|.tR<|.bR<|.tR<|?_
   refine Sx.ret1 (.inl rfl) rfl (.tmp rfl) fun W s=>⟨dB ?_,s.ext⟩
   first
    | (rw [hal])
    | (rw [hbad (by rw [eU];simp_all)])
  skip
  refine .gd Z Z<|.yw (.move Z)<|.gd Z Z<|.yw (.nilCheck Z)<|.gd Z Z<|.yw (.fieldAddr Z Fx.field208_4)<|.gd Z Z<|.yw (.loadM Z Fx.agg159 mE (k:=4) Z Z)<|.gd Z Z<|.yw (.move Z)<|.gd Z Z<|.yw (.call Fx.call104 Z (fun W s=>hi.1 _ _ _ W hs2 hok1.1.2 s.agr))<|.gd Z Z<|.yw (.not Z)<|.yw (.pickF Z Z)<|.mv Z<|.b2 (fun h28=>?_) (fun h28=>?_)
  ·skip
   refine .gG<|.gG<|.gG<|.gG<|.gG<|.gG<|.gG<|.yw (.pickT Z Z)<|.nt<|.cT Z<|.sr<|.a Z Z<|.nt<|.rt<|.bR<|.tR<|.tR<|.bR<|.tR<|?_
   refine Sx.ret1 (.inl rfl) rfl (.tmp rfl) fun W s=>⟨dB ?_,s.ext⟩
   first
    | (rw [hal])
    | (rw [hbad (by rw [eU];simp_all)])
  skip
  refine .gd Z Z<|.yw (.move Z)<|.gd Z Z<|.yw (.nilCheck Z)<|.gd Z Z<|.yw (.fieldAddr Z Fx.field208_5)<|.gd Z Z<|.yw (.loadM Z Fx.agg159 mE (k:=5) Z Z)<|.gd Z Z<|.yw (.move Z)<|.gd Z Z<|.yw (.call Fx.call104 Z (fun W s=>hi.2 _ _ _ W hs3 hok1.2 s.agr))<|.gd Z Z<|.yw (.not Z)<|.yw (.pickF Z Z)<|.nt<|.cd Z (fun h36=>?_) (fun h36=>?_)
  ·skip
   refine .sr<|.a Z Z<|.nt<|.rt<|.bR<|.tR<|.tR<|.bR<|.tR<|?_
   refine Sx.ret1 (.inl rfl) rfl (.tmp rfl) fun W s=>⟨dB ?_,s.ext⟩
   first
    | (rw [hal])
    | (rw [hbad (by rw [eU];simp_all)])
  skip
  exact .sk<|.bN<|.tN<|.rg<|.yw (.add Z Z (w6 (by omega)))<|.mv Z<|.nt<|.ag (k+1) ⟨rfl,trivial⟩ ⟨rfl,rfl,rfl,trivial⟩ (fun _ s=>s) ⟨by omega,by rw [hf,hal,eU];simp_all⟩ (by omega)
 try simp only [df] at h10
 obtain rfl:k=l.length:=by omega
 rw [List.take_length] at hal;refine .ex<|.tE<|.tE<|.bE<|.tN<|.sr<|.a Z Z<|.nt<|.rt<|?_
 refine Sx.ret1 (.inl rfl) rfl (.tmp rfl) fun W s=>⟨dB ?_,s.ext⟩
 first
  | (rw [hal])
  | (rw [hbad (by rw [eU];simp_all)])
theorem uU (H:Hp):∀ (l:List Sm) (p:Option Addr) (n c:Nat) (w:World),Rep H (.seq 6 (l.map (dSm .u8))) [.slice p n c]→Sm.counts l≤1000000→Agr H w →
 Calls Tryz.prog 138 #[.slice p n c] w fun r w'=>r=.returned (.int .i64 (Sm.counts l:Nat))∧Ext w w':=by
 refine Sm.lists fun l ih=>?_;intro p n c w hs hb hA;obtain rfl:n=l.length:=by have:=hs.len.1;simpa using this
 have hcap:=hs.cap;have hl0:=iU l;refine Sx.enter (H:=H) Tryz.func138 rfl Tryz.ntmps138 rfl hA ?_;refine .sr<|.a Z Z<|.ns<|.mv Z<|.yw (.lenSl Fx.sl159 Z)<|.a Z Z<|.nt<|.sq<|.sr<|.mv Z<|.yw (.lenSl Fx.sl159 Z)<|.mv Z<|.nt<|.bk<|.lp (X:=Nat) [(0,_),(8,_)] ⟨rfl,rfl,trivial⟩ [] (fun k=>[(3,.int .i64 ((l.length+(Sm.counts (l.take k) - k):Nat):Int)),(9,.int .i64 (k:Nat))]) (fun k=>H) (fun k=>[]) (fun k=>k≤l.length) (fun k=>l.length - k) 0 (fun _ s=>s) ⟨rfl,rfl,trivial⟩ (by omega) fun k hC=>?_
 refine .sr<|.yw (.lss Z Z)<|.nt<|.sq<|.cd Z (fun h10=>?_) (fun h10=>?_)
 ·try simp only [dt] at h10
  have hk:k<l.length:=by omega
  obtain ⟨bE,oE,cE,hpE,rE,lE,mE⟩:=hs.elem (bB hk);cases hpE;have hi:=ih _ (List.getElem_mem hk);have hf:=zE hk;have hle:=zD l (k+1);have hlk:=iU (l.take k);rw [List.length_take,Nat.min_eq_left (by omega)] at hlk;generalize hx:l[k]=x at rE hi hf;obtain ⟨kd,nm,hd,ex,th,el⟩:=x;obtain ⟨p1,c1,p2,c2,p3,c3,rfl,hs1,hs2,hs3,hn1,hn2⟩:=jA rE;simp only [Sm.th,Sm.el] at hi;rw [dP] at hf;have e1:th.length≤Sm.counts th:=iU th;exact .sk<|.tN<|.sq<|.bk<|.sr<|.mv Z<|.a Z Z<|.nt<|.fL 15 [(0,0),(1,0),(2,0),(3,0),(4,0),(5,0),(6,0),(7,0),(8,0),(9,0),(10,0),(11,0),(12,0),(13,0),(14,0)]<|.mv Z<|.mv Z<|.mv Z<|.yw (.indexSl Fx.sl159 Z Z Z (by omega) (q:=oE+k * 6) Z)<|.yw (.fieldAddr Z Fx.field208_4)<|.yw (.loadM Z Fx.agg159 mE (k:=4) Z Z)<|.yw (.call Fx.call138 Z (fun W s=>hi.1 _ _ _ W hs2 (by omega) s.agr))<|.mv Z<|.mv Z<|.yw (.indexSl Fx.sl159 Z Z Z (by omega) (q:=oE+k * 6) Z)<|.yw (.fieldAddr Z Fx.field208_5)<|.yw (.loadM Z Fx.agg159 mE (k:=5) Z Z)<|.yw (.call Fx.call138 Z (fun W s=>hi.2 _ _ _ W hs3 (by omega) s.agr))<|.yw (.add Z Z (c:=((Sm.counts th+Sm.counts el:Nat):Int)) ((w6 (by omega)).trans (by omega)))<|.yw (.add Z Z (c:=((l.length+(Sm.counts (l.take (k+1)) - (k+1)):Nat):Int)) ((w6 (by omega)).trans (by omega)))<|.fn (tl:=[_]) Z<|.a Z Z<|.nl<|.bN<|.tN<|.rg<|.yw (.add Z Z (w6 (by omega)))<|.mv Z<|.nt<|.ag (k+1) ⟨rfl,rfl,trivial⟩ ⟨rfl,rfl,trivial⟩ (fun _ s=>s) (by omega) (by omega)
 try simp only [df] at h10
 obtain rfl:k=l.length:=by omega
 rw [List.take_length];have hlk:=iU l;refine .ex<|.tE<|.tE<|.bE<|.tN<|.sr<|.mv Z<|.a Z Z<|.nt<|.rt<|?_
 refine Sx.ret1 (.inl rfl) rfl (.tmp rfl) fun W s=>⟨?_,s.ext⟩
 first
  | (rw [show l.length+(Sm.counts l - l.length)=Sm.counts l by omega])
theorem EM (H:Hp):∀ (l:List Sm) (p:Option Addr) (n c:Nat) (w:World),Rep H (.seq 6 (l.map (dSm .u8))) [.slice p n c]→Sm.deeps l≤1000000→Agr H w →
 Calls Tryz.prog 139 #[.slice p n c] w fun r w'=>r=.returned (.int .i64 (Sm.deeps l:Nat))∧Ext w w':=by
 refine Sm.lists fun l ih=>?_;intro p n c w hs hb hA;obtain rfl:n=l.length:=by have:=hs.len.1;simpa using this
 have hcap:=hs.cap;refine Sx.enter (H:=H) Tryz.func139 rfl Tryz.ntmps139 rfl hA ?_;refine .sr<|.a Z Z<|.nt<|.sq<|.sr<|.mv Z<|.yw (.lenSl Fx.sl159 Z)<|.yw (.eql Z Z)<|.nt<|.cd Z (fun h7=>?_) (fun h7=>?_)
 ·try simp only [dt] at h7
  obtain rfl:l=[]:=List.eq_nil_of_length_eq_zero (by omega);refine .sr<|.a Z Z<|.nt<|.rt<|.tR<|?_
  refine Sx.ret1 (.inl rfl) rfl (.tmp rfl) fun W s=>⟨?_,s.ext⟩
  first
   | (rfl)
   | (rw [show ((Sm.deeps l - 1:Nat):Int)+1=(Sm.deeps l:Nat) by
    have:0<Sm.deeps l:=by
     match l,h7 with
     | ⟨kd,nm,hd,ex,th,el⟩::r,_=>simp only [Sm.deeps,iT];omega
    omega])
 try simp only [df] at h7
 refine .sk<|.tN<|.sr<|.a Z Z<|.nt<|.sq<|.sr<|.mv Z<|.yw (.lenSl Fx.sl159 Z)<|.mv Z<|.nt<|.bk<|.lp (X:=Nat) [(0,_),(9,_)] ⟨rfl,rfl,trivial⟩ [] (fun k=>[(3,.int .i64 ((Sm.deeps (l.take k) - 1:Nat):Int)),(10,.int .i64 (k:Nat))]) (fun k=>H) (fun k=>[]) (fun k=>k≤l.length) (fun k=>l.length - k) 0 (fun _ s=>s) ⟨rfl,rfl,trivial⟩ (by omega) fun k hC=>?_
 refine .sr<|.yw (.lss Z Z)<|.nt<|.sq<|.cd Z (fun h11=>?_) (fun h11=>?_)
 ·try simp only [dt] at h11
  have hk:k<l.length:=by omega
  obtain ⟨bE,oE,cE,hpE,rE,lE,mE⟩:=hs.elem (bB hk);cases hpE;have hi:=ih _ (List.getElem_mem hk);have hf:=BS hk;have hle:=BR l (k+1);generalize hx:l[k]=x at rE hi hf;obtain ⟨kd,nm,hd,ex,th,el⟩:=x;obtain ⟨p1,c1,p2,c2,p3,c3,rfl,hs1,hs2,hs3,hn1,hn2⟩:=jA rE;simp only [Sm.th,Sm.el] at hi;rw [iT] at hf;exact .sk<|.tN<|.sq<|.bk<|.sr<|.mv Z<|.a Z Z<|.nt<|.fL 14 [(0,0),(1,0),(2,0),(3,0),(4,0),(5,0),(6,0),(7,0),(8,0),(9,0),(10,0),(11,0),(12,0),(13,0)]<|.mv Z<|.mv Z<|.mv Z<|.yw (.indexSl Fx.sl159 Z Z Z (by omega) (q:=oE+k * 6) Z)<|.yw (.fieldAddr Z Fx.field208_4)<|.yw (.loadM Z Fx.agg159 mE (k:=4) Z Z)<|.yw (.call Fx.call139 Z (fun W s=>hi.1 _ _ _ W hs2 (by omega) s.agr))<|.mv Z<|.mv Z<|.yw (.indexSl Fx.sl159 Z Z Z (by omega) (q:=oE+k * 6) Z)<|.yw (.fieldAddr Z Fx.field208_5)<|.yw (.loadM Z Fx.agg159 mE (k:=5) Z Z)<|.yw (.call Fx.call139 Z (fun W s=>hi.2 _ _ _ W hs3 (by omega) s.agr))<|.yw (.max3 Z Z Z (c:=((Sm.deeps (l.take (k+1)) - 1:Nat):Int)) (by omega))<|.fn (tl:=[_]) Z<|.a Z Z<|.nl<|.bN<|.tN<|.rg<|.yw (.add Z Z (w6 (by omega)))<|.mv Z<|.nt<|.ag (k+1) ⟨rfl,rfl,trivial⟩ ⟨rfl,rfl,trivial⟩ (fun _ s=>s) (by omega) (by omega)
 try simp only [df] at h11
 obtain rfl:k=l.length:=by omega
 rw [List.take_length];refine .ex<|.tE<|.tE<|.bE<|.tN<|.sr<|.mv Z<|.yw (.add Z Z (w6 (by omega)))<|.a Z Z<|.nt<|.rt<|?_
 refine Sx.ret1 (.inl rfl) rfl (.tmp rfl) fun W s=>⟨?_,s.ext⟩
 first
  | (rfl)
  | (rw [show ((Sm.deeps l - 1:Nat):Int)+1=(Sm.deeps l:Nat) by
   have:0<Sm.deeps l:=by
    match l,h7 with
    | ⟨kd,nm,hd,ex,th,el⟩::r,_=>simp only [Sm.deeps,iT];omega
   omega])
theorem Fx.agg52:dF Tryz.prog 52=some none:=by kernel_rfl
theorem Fx.agg149:dF Tryz.prog 149=some none:=by kernel_rfl
theorem Fx.call102:aM Tryz.prog 102=Bool.true:=by kernel_rfl
theorem Fx.call103:aM Tryz.prog 103=Bool.true:=by kernel_rfl
theorem Fx.call107:aM Tryz.prog 107=Bool.true:=by kernel_rfl
theorem Fx.call140:aM Tryz.prog 140=Bool.true:=by kernel_rfl
theorem Fx.field151_1:aN Tryz.prog 151 1=some 1:=by kernel_rfl
theorem Fx.field151_2:aN Tryz.prog 151 2=some 2:=by kernel_rfl
theorem Fx.field162_0:aN Tryz.prog 162 0=some 0:=by kernel_rfl
theorem Fx.field162_1:aN Tryz.prog 162 1=some 1:=by kernel_rfl
theorem Fx.field162_2:aN Tryz.prog 162 2=some 2:=by kernel_rfl
theorem Fx.size27:bL Tryz.prog 27=some 4:=by kernel_rfl
theorem Fx.sl52:slN Tryz.prog 52=some 1:=by kernel_rfl
theorem Fx.zero27:dV Tryz.prog 27=some
 [Go.Value.int Go.IntKind.u8 (Int.ofNat 0),Go.Value.string { data:={ toList:=[] } },
  Go.Value.int Go.IntKind.i64 (Int.ofNat 0),Go.Value.slice none 0 0]:=by kernel_rfl
theorem wS:SM 140 nE:=by
 refine ⟨Fx.call140,fun H G e cs b o w h hm hok hA=>?_⟩;obtain ⟨kd,nm,hd,ex,th,el⟩:=e;rw [vO] at hok;obtain ⟨p,c,p1,c1,p2,c2,rfl,hs,hs1,hs2,hn1,hn2⟩:=jA h;have hcap:=hs.cap;refine Sx.enter (H:=H) Tryz.func140 rfl Tryz.ntmps140 rfl hA ?_;refine .sr<|.a Z Z<|.nt<|.sq<|.sr<|.mv Z<|.yw (.nilCheck Z)<|.yw (.fieldAddr Z Fx.field208_3)<|.yw (.loadM Z Fx.agg25 hm (k:=3) Z Z)<|.yw (.lenSl Fx.sl25 Z)<|.mv Z<|.nt<|.bk<|.lp (X:=Nat) [(8,_),(9,_)] ⟨rfl,rfl,trivial⟩ [] (fun k=>[(10,.int .i64 (k:Nat))]) (fun k=>H) (fun k=>[]) (fun k=>k≤ex.length∧(ex.take k).all (fun x=>decide (x.depth≤8))=true) (fun k=>ex.length - k) 0 (fun _ s=>s) ⟨rfl,trivial⟩ ⟨by omega,rfl⟩ fun k hC=>?_
 obtain ⟨hk0,hal⟩:=hC;refine .sr<|.yw (.lss Z Z)<|.nt<|.sq<|.cd Z (fun h11=>?_) (fun h11=>?_)
 ·try simp only [dt] at h11
  have hk:k<ex.length:=by omega
  obtain ⟨bE,oE,cE,hpE,rE,lE,mE⟩:=hs.elem (bB hk);cases hpE;have hd1:=lH hk hok;simp only [decide_eq_true_eq] at hd1;refine .sk<|.tN<|.sq<|.bk<|.sr<|.yw (.indexSl Fx.sl25 Z Z Z (by omega) (q:=oE+k * 4) Z)<|.yw (.loadMW Z Fx.agg27 mE lE)<|.al Fx.zero27 Z fun b4=>.sV .head Z Z Fx.size27 lE rE.one Z<|.ns<|.yw (.loadW Z Fx.agg27 (.head _) lE)<|.yw (.call Fx.call29 Z (fun W s=>pW _ H cE W rE hd1 s.agr))<|.yw (.gtr Z Z)<|.nt<|.cd Z (fun h16=>?_) (fun h16=>?_)
  ·try simp only [dt] at h16
   refine .sr<|.a Z Z<|.nt<|.rt<|.bR<|.tR<|.tR<|.bR<|.tR<|?_
   refine Sx.ret1 (.inl rfl) rfl (.tmp rfl) fun W s=>⟨dB ?_,s.ext⟩
   first
    | (rw [nE,hal])
    | (rw [nE,cK hk (by simp;omega)])
  try simp only [df] at h16
  exact .sk<|.bN<|.tN<|.rg<|.yw (.add Z Z (w6 (by omega)))<|.mv Z<|.nt<|.ag (k+1) ⟨rfl,trivial⟩ ⟨rfl,rfl,trivial⟩ (fun _ s=>s.pick [] [] Z Z) ⟨by omega,by rw [dH hk,hal];simp;omega⟩ (by omega)
 try simp only [df] at h11
 obtain rfl:k=ex.length:=by omega
 rw [List.take_length] at hal;refine .ex<|.tE<|.tE<|.bE<|.tN<|.sr<|.a Z Z<|.nt<|.rt<|?_
 refine Sx.ret1 (.inl rfl) rfl (.tmp rfl) fun W s=>⟨dB ?_,s.ext⟩
 first
  | (rw [nE,hal])
  | (rw [nE,cK hk (by simp;omega)])
def SO (gf:FuncId) (q:Hd→Bool):Prop:=aM Tryz.prog gf=true∧∀ (H:Hp),Gl H→∀ (e:Hd) (cs:List Value) (w:World),Rep H (dHd .u8 e) cs→okH e=true→Agr H w →
 Calls Tryz.prog gf #[.agg cs.toArray] w fun r w'=>r=.returned (.bool (q e))∧Ext w w'
theorem rP:SO 102 kX:=by
 refine ⟨Fx.call102,fun H G e cs w h hok hA=>?_⟩;simp only [okH,Bool.and_eq_true,decide_eq_true_eq] at hok;obtain ⟨⟨ho1,ho2⟩,ho3⟩:=hok;obtain ⟨p1,c1,p2,c2,rfl,hnm,hs1,hs2⟩:=oW h;have hcap:=hs1.cap;refine Sx.enter (H:=H) Tryz.func102 rfl Tryz.ntmps102 rfl hA ?_;refine .sr<|.bx Z Z Z fun b1=>.a Z Z<|.nt<|.sq<|.sr<|.yw (.fieldAddr Z Fx.field162_1)<|.yw (.load Z Fx.agg52 (.head _) Z)<|.yw (.lenSl Fx.sl52 Z)<|.yw (.gtr Z Z)<|.mv Z<|.b2 (fun h7=>?_) (fun h7=>?_)
 ·try simp only [dt] at h7
  refine .gG<|.gG<|.gG<|.gG<|.yw (.pickT Z Z)<|.mv Z<|.gG<|.gG<|.gG<|.gG<|.yw (.pickT Z Z)<|.nt<|.cT Z<|.sr<|.a Z Z<|.nt<|.rt<|.tR<|?_
  refine Sx.ret1 (.inl rfl) rfl (.tmp rfl) fun W s=>⟨dB ?_,s.ext⟩
  first
   | (simp only [kX];simp;omega)
   | (simp only [kX];simp [show ¬ 4<e.ps.length by omega,show ¬ 40<Sm.counts e.body by omega,show ¬ 8<Sm.deeps e.body by omega])
 try simp only [df] at h7
 refine .gd Z Z<|.yw (.fieldAddr Z Fx.field162_2)<|.gd Z Z<|.yw (.load Z Fx.agg159 (.head _) Z)<|.gd Z Z<|.yw (.call Fx.call138 Z (fun W s=>uU H _ _ _ _ W hs2 ho1 s.agr))<|.gd Z Z<|.yw (.gtr Z Z)<|.yw (.pickF Z Z)<|.mv Z<|.b2 (fun h13=>?_) (fun h13=>?_)
 ·try simp only [dt] at h13
  refine .gG<|.gG<|.gG<|.gG<|.yw (.pickT Z Z)<|.nt<|.cT Z<|.sr<|.a Z Z<|.nt<|.rt<|.tR<|?_
  refine Sx.ret1 (.inl rfl) rfl (.tmp rfl) fun W s=>⟨dB ?_,s.ext⟩
  first
   | (simp only [kX];simp;omega)
   | (simp only [kX];simp [show ¬ 4<e.ps.length by omega,show ¬ 40<Sm.counts e.body by omega,show ¬ 8<Sm.deeps e.body by omega])
 try simp only [df] at h13
 refine .gd Z Z<|.yw (.fieldAddr Z Fx.field162_2)<|.gd Z Z<|.yw (.load Z Fx.agg159 (.head _) Z)<|.gd Z Z<|.yw (.call Fx.call139 Z (fun W s=>EM H _ _ _ _ W hs2 ho2 s.agr))<|.gd Z Z<|.yw (.gtr Z Z)<|.yw (.pickF Z Z)<|.nt<|.cd Z (fun h18=>?_) (fun h18=>?_)
 ·try simp only [dt] at h18
  refine .sr<|.a Z Z<|.nt<|.rt<|.tR<|?_
  refine Sx.ret1 (.inl rfl) rfl (.tmp rfl) fun W s=>⟨dB ?_,s.ext⟩
  first
   | (simp only [kX];simp;omega)
   | (simp only [kX];simp [show ¬ 4<e.ps.length by omega,show ¬ 40<Sm.counts e.body by omega,show ¬ 8<Sm.deeps e.body by omega])
 try simp only [df] at h18
 refine .sk<|.tN<|.sr<|.yw (.fieldAddr Z Fx.field162_2)<|.yw (.load Z Fx.agg159 (.head _) Z)<|.yw (.call Fx.call104 Z (fun W s=>sA 140 nE wS H G _ _ _ _ W hs2 ho3 s.agr))<|.a Z Z<|.nt<|.rt<|?_
 refine Sx.ret1 (.inl rfl) rfl (.tmp rfl) fun W s=>⟨dB ?_,s.ext⟩
 first
  | (simp only [kX];simp;omega)
  | (simp only [kX];simp [show ¬ 4<e.ps.length by omega,show ¬ 40<Sm.counts e.body by omega,show ¬ 8<Sm.deeps e.body by omega])
theorem rC:SO 107 kY:=by
 refine ⟨Fx.call107,fun H G e cs w h hok hA=>?_⟩;simp only [okH,Bool.and_eq_true,decide_eq_true_eq] at hok;obtain ⟨⟨ho1,ho2⟩,ho3⟩:=hok;obtain ⟨p1,c1,p2,c2,rfl,hnm,hs1,hs2⟩:=oW h;have hcap:=hs1.cap;refine Sx.enter (H:=H) Tryz.func107 rfl Tryz.ntmps107 rfl hA ?_;refine .sr<|.bx Z Z Z fun b1=>.a Z Z<|.ns<|.yw (.fieldAddr Z Fx.field162_2)<|.yw (.load Z Fx.agg159 (.head _) Z)<|.yw (.call Fx.call104 Z (fun W s=>sA 108 jY wF H G _ _ _ _ W hs2 ho3 s.agr))<|.a Z Z<|.nt<|.rt<|?_
 refine Sx.ret1 (.inl rfl) rfl (.tmp rfl) fun W s=>⟨dB ?_,s.ext⟩
 first
  | (rw [kY])
theorem rW:SO 103 kH:=by
 refine ⟨Fx.call103,fun H G e cs w h hok hA=>?_⟩;simp only [okH,Bool.and_eq_true,decide_eq_true_eq] at hok;obtain ⟨⟨ho1,ho2⟩,ho3⟩:=hok;obtain ⟨p1,c1,p2,c2,rfl,hnm,hs1,hs2⟩:=oW h;have hcap:=hs1.cap;refine Sx.enter (H:=H) Tryz.func103 rfl Tryz.ntmps103 rfl hA ?_;refine .sr<|.bx Z Z Z fun b1=>.a Z Z<|.ns<|.yw (.fieldAddr Z Fx.field162_0)<|.yw (.load Z Fx.agg9 (.head _) Z)<|.yw (.call Fx.call58 Z (fun W s=>eI H G _ (by omega) W s.agr))<|.a Z Z<|.nt<|.sq<|.sr<|.yw (.fieldAddr Z Fx.field162_1)<|.yw (.load Z Fx.agg52 (.head _) Z)<|.yw (.lenSl Fx.sl52 Z)<|.mv Z<|.nt<|.bk<|.lp (X:=Nat) [(1,_),(10,_),(11,_)] ⟨rfl,rfl,rfl,trivial⟩ [_] (fun k=>[(12,.int .i64 (k:Nat)),(3,.bool (aS e.nm && (e.ps.take k).all aS))]) (fun k=>H) (fun k=>[]) (fun k=>k≤e.ps.length) (fun k=>e.ps.length - k) 0 (fun _ s=>s) ⟨rfl,(by rw [List.take_zero,List.all_nil,Bool.and_true];rfl),trivial⟩ (by omega) fun k hC=>?_
 refine .sr<|.yw (.lss Z Z)<|.nt<|.sq<|.cd Z (fun h13=>?_) (fun h13=>?_)
 ·try simp only [dt] at h13
  have hk:k<e.ps.length:=by omega
  obtain ⟨bE,oE,cE,hpE,rE,lE,mE⟩:=hs1.elem (bB hk);cases hpE;obtain ⟨rfl,hsl⟩:=nK rE;refine .sk<|.tN<|.sq<|.bk<|.sr<|.yw (.indexSl Fx.sl52 Z Z Z (by omega) (q:=oE+k * 1) Z)<|.yw (.loadM Z Fx.agg9 mE (k:=0) Z Z)<|.a Z Z<|.nt<|.rg<|.mv Z<|.mv Z<|.b2 (fun h17=>?_) (fun h17=>?_)
  ·skip
   exact .gd Z Z<|.yw (.move Z)<|.gd Z Z<|.yw (.call Fx.call58 Z (fun W s=>eI H G _ (by omega) W s.agr))<|.yw (.pickT Z Z)<|.a Z Z<|.nl<|.bN<|.tN<|.rg<|.yw (.add Z Z (w6 (by omega)))<|.mv Z<|.nt<|.ag (k+1) ⟨rfl,(by rw [dH hk,← Bool.and_assoc];rw [h17];rfl),trivial⟩ ⟨rfl,rfl,rfl,trivial⟩ (fun _ s=>s) (by omega) (by omega)
  skip
  exact .gG<|.gG<|.yw (.pickF Z Z)<|.a Z Z<|.nl<|.bN<|.tN<|.rg<|.yw (.add Z Z (w6 (by omega)))<|.mv Z<|.nt<|.ag (k+1) ⟨rfl,(by rw [dH hk,← Bool.and_assoc];rw [h17];rfl),trivial⟩ ⟨rfl,rfl,rfl,trivial⟩ (fun _ s=>s) (by omega) (by omega)
 try simp only [df] at h13
 obtain rfl:k=e.ps.length:=by omega
 rw [List.take_length];refine .ex<|.tE<|.tE<|.bE<|.tN<|.sr<|.mv Z<|.mv Z<|.b2 (fun h23=>?_) (fun h23=>?_)
 ·skip
  refine .gd Z Z<|.yw (.fieldAddr Z Fx.field162_2)<|.gd Z Z<|.yw (.load Z Fx.agg159 (.head _) Z)<|.gd Z Z<|.yw (.call Fx.call104 Z (fun W s=>sA 105 iA wV H G _ _ _ _ W hs2 ho3 s.agr))<|.yw (.pickT Z Z)<|.a Z Z<|.nt<|.rt<|?_
  refine Sx.ret1 (.inl rfl) rfl (.tmp rfl) fun W s=>⟨dB ?_,s.ext⟩
  first
   | (rw [kH,h23];simp)
   | (rw [kH,h23];rfl)
 skip
 refine .gG<|.gG<|.gG<|.yw (.pickF Z Z)<|.a Z Z<|.nt<|.rt<|?_
 refine Sx.ret1 (.inl rfl) rfl (.tmp rfl) fun W s=>⟨dB ?_,s.ext⟩
 first
  | (rw [kH,h23];simp)
  | (rw [kH,h23];rfl)
theorem wY (H:Hp) (x:Vr) (cs:List Value) (h:Rep H (dVr .u8 x) cs) (w:World) (hA:Agr H w) :
 Calls Tryz.prog 106 #[.agg cs.toArray] w fun r w'=>r=.returned (.bool (gW x))∧Ext w w':=by
 obtain ⟨rfl,hnm⟩:=qJ h;refine Sx.enter (H:=H) Tryz.func106 rfl Tryz.ntmps106 rfl hA ?_;refine .sr<|.bx Z Z Z fun b1=>.a Z Z<|.nt<|.sq<|.sr<|.yw (.fieldAddr Z Fx.field151_1)<|.yw (.load Z Fx.agg149 (.head _) Z)<|.nt<|.bk<|.sr<|.yw (.eql Z Z)<|.a Z Z<|.nt<|.cd Z (fun h5=>?_) (fun h5=>?_)
 ·try simp only [dt] at h5
  have hv:x.ty=1:=UInt8.toNat_inj.1 (by show x.ty.toNat=1;omega);refine .sr<|.yw (.fieldAddr Z Fx.field151_2)<|.yw (.load Z Fx.agg2 (.head _) Z)<|.yw (.neq Z Z)<|.a Z Z<|.nt<|.rt<|.bR<|.tR<|?_
  refine Sx.ret1 (.inl rfl) rfl (.tmp rfl) fun W s=>⟨dB ?_,s.ext⟩
  first
   | (simp only [gW,hv];simp;done)
   | (simp only [gW,hv];simp;omega)
   | (simp only [gW,hv];simp_all)
   | (simp only [gW];simp [hv1,hv2,hv3])
 try simp only [df] at h5
 have hv1:¬ x.ty=1:=fun e=>h5 (by rw [e];rfl);refine .sr<|.yw (.eql Z Z)<|.a Z Z<|.nt<|.cd Z (fun h10=>?_) (fun h10=>?_)
 ·try simp only [dt] at h10
  have hv:x.ty=2:=UInt8.toNat_inj.1 (by show x.ty.toNat=2;omega);refine .sr<|.yw (.fieldAddr Z Fx.field151_2)<|.yw (.load Z Fx.agg2 (.head _) Z)<|.yw (.eql Z Z)<|.mv Z<|.b2 (fun h15=>?_) (fun h15=>?_)
  ·try simp only [dt] at h15
   refine .gG<|.gG<|.gG<|.yw (.pickT Z Z)<|.a Z Z<|.nt<|.rt<|.bR<|.tR<|?_
   refine Sx.ret1 (.inl rfl) rfl (.tmp rfl) fun W s=>⟨dB ?_,s.ext⟩
   first
    | (simp only [gW,hv];simp;done)
    | (simp only [gW,hv];simp;omega)
    | (simp only [gW,hv];simp_all)
    | (simp only [gW];simp [hv1,hv2,hv3])
  try simp only [df] at h15
  refine .gd Z Z<|.yw (.fieldAddr Z Fx.field151_2)<|.gd Z Z<|.yw (.load Z Fx.agg2 (.head _) Z)<|.gd Z Z<|.yw (.eql Z Z)<|.yw (.pickF Z Z)<|.a Z Z<|.nt<|.rt<|.bR<|.tR<|?_
  refine Sx.ret1 (.inl rfl) rfl (.tmp rfl) fun W s=>⟨dB ?_,s.ext⟩
  first
   | (simp only [gW,hv];simp;done)
   | (simp only [gW,hv];simp;omega)
   | (simp only [gW,hv];simp_all)
   | (simp only [gW];simp [hv1,hv2,hv3])
 try simp only [df] at h10
 have hv2:¬ x.ty=2:=fun e=>h10 (by rw [e];rfl);refine .sr<|.yw (.eql Z Z)<|.a Z Z<|.nt<|.cd Z (fun h20=>?_) (fun h20=>?_)
 ·try simp only [dt] at h20
  have hv:x.ty=3:=UInt8.toNat_inj.1 (by show x.ty.toNat=3;omega);refine .sr<|.yw (.fieldAddr Z Fx.field151_2)<|.yw (.load Z Fx.agg2 (.head _) Z)<|.yw (.eql Z Z)<|.a Z Z<|.nt<|.rt<|.bR<|.tR<|?_
  refine Sx.ret1 (.inl rfl) rfl (.tmp rfl) fun W s=>⟨dB ?_,s.ext⟩
  first
   | (simp only [gW,hv];simp;done)
   | (simp only [gW,hv];simp;omega)
   | (simp only [gW,hv];simp_all)
   | (simp only [gW];simp [hv1,hv2,hv3])
 try simp only [df] at h20
 have hv3:¬ x.ty=3:=fun e=>h20 (by rw [e];rfl);refine .sk<|.bN<|.tN<|.sr<|.a Z Z<|.nt<|.rt<|?_
 refine Sx.ret1 (.inl rfl) rfl (.tmp rfl) fun W s=>⟨dB ?_,s.ext⟩
 first
  | (simp only [gW,hv];simp;done)
  | (simp only [gW,hv];simp;omega)
  | (simp only [gW,hv];simp_all)
  | (simp only [gW];simp [hv1,hv2,hv3])
theorem Fx.agg45:dF Tryz.prog 45=some none:=by kernel_rfl
theorem Fx.agg46:dF Tryz.prog 46=some none:=by kernel_rfl
theorem Fx.agg47:dF Tryz.prog 47=some none:=by kernel_rfl
theorem Fx.agg49:dF Tryz.prog 49=some (some 4):=by kernel_rfl
theorem Fx.agg102:dF Tryz.prog 102=some (some 2):=by kernel_rfl
theorem Fx.agg105:dF Tryz.prog 105=some (some 3):=by kernel_rfl
theorem Fx.agg107:dF Tryz.prog 107=some none:=by kernel_rfl
theorem Fx.agg108:dF Tryz.prog 108=some none:=by kernel_rfl
theorem Fx.agg110:dF Tryz.prog 110=some (some 3):=by kernel_rfl
theorem Fx.agg151:dF Tryz.prog 151=some (some 3):=by kernel_rfl
theorem Fx.agg153:dF Tryz.prog 153=some none:=by kernel_rfl
theorem Fx.agg155:dF Tryz.prog 155=some (some 1):=by kernel_rfl
theorem Fx.agg162:dF Tryz.prog 162=some (some 3):=by kernel_rfl
theorem Fx.call101:aM Tryz.prog 101=Bool.true:=by kernel_rfl
theorem Fx.call106:aM Tryz.prog 106=Bool.true:=by kernel_rfl
theorem Fx.field49_0:aN Tryz.prog 49 0=some 0:=by kernel_rfl
theorem Fx.field49_1:aN Tryz.prog 49 1=some 1:=by kernel_rfl
theorem Fx.field49_2:aN Tryz.prog 49 2=some 2:=by kernel_rfl
theorem Fx.field49_3:aN Tryz.prog 49 3=some 3:=by kernel_rfl
theorem Fx.field102_0:aN Tryz.prog 102 0=some 0:=by kernel_rfl
theorem Fx.field105_0:aN Tryz.prog 105 0=some 0:=by kernel_rfl
theorem Fx.field105_1:aN Tryz.prog 105 1=some 1:=by kernel_rfl
theorem Fx.field105_2:aN Tryz.prog 105 2=some 2:=by kernel_rfl
theorem Fx.field110_0:aN Tryz.prog 110 0=some 0:=by kernel_rfl
theorem Fx.field110_1:aN Tryz.prog 110 1=some 1:=by kernel_rfl
theorem Fx.field110_2:aN Tryz.prog 110 2=some 2:=by kernel_rfl
theorem Fx.field151_0:aN Tryz.prog 151 0=some 0:=by kernel_rfl
theorem Fx.field155_0:aN Tryz.prog 155 0=some 0:=by kernel_rfl
theorem Fx.size102:bL Tryz.prog 102=some 2:=by kernel_rfl
theorem Fx.size105:bL Tryz.prog 105=some 3:=by kernel_rfl
theorem Fx.size110:bL Tryz.prog 110=some 3:=by kernel_rfl
theorem Fx.size151:bL Tryz.prog 151=some 3:=by kernel_rfl
theorem Fx.size155:bL Tryz.prog 155=some 1:=by kernel_rfl
theorem Fx.size162:bL Tryz.prog 162=some 3:=by kernel_rfl
theorem Fx.sl45:slN Tryz.prog 45=some 2:=by kernel_rfl
theorem Fx.sl46:slN Tryz.prog 46=some 3:=by kernel_rfl
theorem Fx.sl47:slN Tryz.prog 47=some 3:=by kernel_rfl
theorem Fx.sl107:slN Tryz.prog 107=some 3:=by kernel_rfl
theorem Fx.sl108:slN Tryz.prog 108=some 1:=by kernel_rfl
theorem Fx.sl153:slN Tryz.prog 153=some 3:=by kernel_rfl
theorem Fx.zero102:dV Tryz.prog 102=some [Go.Value.string { data:={ toList:=[] } },Go.Value.bool false]:=by kernel_rfl
theorem Fx.zero105:dV Tryz.prog 105=some
 [Go.Value.string { data:={ toList:=[] } },Go.Value.string { data:={ toList:=[] } },
  Go.Value.int Go.IntKind.i64 (Int.ofNat 0)]:=by kernel_rfl
theorem Fx.zero110:dV Tryz.prog 110=some
 [Go.Value.string { data:={ toList:=[] } },Go.Value.slice none 0 0,Go.Value.slice none 0 0]:=by kernel_rfl
theorem Fx.zero151:dV Tryz.prog 151=some
 [Go.Value.string { data:={ toList:=[] } },Go.Value.int Go.IntKind.u8 (Int.ofNat 0),
  Go.Value.int Go.IntKind.i64 (Int.ofNat 0)]:=by kernel_rfl
theorem Fx.zero155:dV Tryz.prog 155=some [Go.Value.slice none 0 0]:=by kernel_rfl
theorem Fx.zero162:dV Tryz.prog 162=some
 [Go.Value.string { data:={ toList:=[] } },Go.Value.slice none 0 0,Go.Value.slice none 0 0]:=by kernel_rfl
theorem jK (gf:FuncId) (q:Hd→Bool) (hg:SO gf q) (H:Hp) (G:Gl H) (f:Ft) (cs:List Value) (h:Rep H (dFt .u8 f) cs) (hok:evH okH f=true) (w:World) (hA:Agr H w) :
 Calls Tryz.prog 101 #[.agg cs.toArray,.func (.func gf) #[] #[]] w fun r w'=>r=.returned (.bool (evH q f))∧Ext w w':=by
 rw [nB] at hok;obtain ⟨p1,c1,p2,c2,p3,c3,rfl,hnm,hs1,hs2,hs3⟩:=lK h;have hcap1:=hs1.cap;have hcap2:=hs2.cap;have hcap3:=hs3.cap;refine Sx.enter (H:=H) Tryz.func101 rfl Tryz.ntmps101 rfl hA ?_;refine .sr<|.bx Z Z Z fun b2=>.a Z Z<|.nt<|.sq<|.sr<|.yw (.fieldAddr Z Fx.field49_3)<|.yw (.load Z Fx.agg47 (.head _) Z)<|.yw (.lenSl Fx.sl47 Z)<|.mv Z<|.nt<|.bk<|.lp (X:=Nat) [(1,_),(12,_),(13,_)] ⟨rfl,rfl,rfl,trivial⟩ [_] (fun k1=>[(14,.int .i64 (k1:Nat))]) (fun k1=>H) (fun k1=>[]) (fun k1=>k1≤f.comps.length∧(f.comps.take k1).all (lM q)=true) (fun k1=>f.comps.length - k1) 0 (fun _ s=>s) ⟨rfl,trivial⟩ ⟨by omega,rfl⟩ fun k1 hC=>?_
 obtain ⟨hq1,hal1⟩:=hC;refine .sr<|.yw (.lss Z Z)<|.nt<|.sq<|.cd Z (fun h15=>?_) (fun h15=>?_)
 ·try simp only [dt] at h15
  have hk1:k1<f.comps.length:=by omega
  obtain ⟨bE1,oE1,cE1,hpE1,rE1,lE1,mE1⟩:=hs3.elem (bB hk1);cases hpE1;have hok1:=lH hk1 hok;generalize hx1:f.comps[k1]=x1 at rE1 hok1;obtain ⟨p4,c4,p5,c5,rfl,hn4,hs4,hs5⟩:=oZ rE1;have hcap5:=hs5.cap;rw [lM] at hok1;refine .sk<|.tN<|.sq<|.bk<|.sr<|.yw (.indexSl Fx.sl47 Z Z Z (by omega) (q:=oE1+k1 * 3) Z)<|.yw (.loadMW Z Fx.agg110 mE1 Z)<|.al Fx.zero110 Z fun b6=>.sW .head Z Z Fx.size110 (by simp [Value.oneCell',aB]) Z<|.ns<|.yw (.fieldAddr Z Fx.field110_2)<|.yw (.load Z Fx.agg108 (.head _) Z)<|.yw (.lenSl Fx.sl108 Z)<|.mv Z<|.nt<|.bk<|.lp (X:=Nat) [(1,_),(12,_),(13,_),(14,_),(19,_),(20,_)] ⟨rfl,rfl,rfl,rfl,rfl,rfl,trivial⟩ [_,_] (fun k2=>[(21,.int .i64 (k2:Nat))]) (fun k2=>H) (fun k2=>[]) (fun k2=>k2≤x1.vers.length∧(x1.vers.take k2).all (fun v=>v.all q)=true) (fun k2=>x1.vers.length - k2) 0 (fun _ s=>s) ⟨rfl,trivial⟩ ⟨by omega,rfl⟩ fun k2 hC=>?_
  obtain ⟨hq2,hal2⟩:=hC;refine .sr<|.yw (.lss Z Z)<|.nt<|.sq<|.cd Z (fun h22=>?_) (fun h22=>?_)
  ·try simp only [dt] at h22
   have hk2:k2<x1.vers.length:=by omega
   obtain ⟨bE2,oE2,cE2,hpE2,rE2,lE2,mE2⟩:=hs5.elem (bB hk2);cases hpE2;have hok2:=lH hk2 hok1;generalize hx2:x1.vers[k2]=x2 at rE2 hok2;obtain ⟨p6,c6,rfl,hs6⟩:=tH rE2;have hcap6:=hs6.cap;refine .sk<|.tN<|.sq<|.bk<|.sr<|.yw (.indexSl Fx.sl108 Z Z Z (by omega) (q:=oE2+k2 * 1) Z)<|.yw (.loadMW Z Fx.agg155 mE2 Z)<|.al Fx.zero155 Z fun b8=>.sW .head Z Z Fx.size155 (by simp [Value.oneCell',aB]) Z<|.ns<|.yw (.fieldAddr Z Fx.field155_0)<|.yw (.load Z Fx.agg153 (.head _) Z)<|.yw (.lenSl Fx.sl153 Z)<|.mv Z<|.nt<|.bk<|.lp (X:=Nat) [(1,_),(12,_),(13,_),(14,_),(19,_),(20,_),(21,_),(26,_),(27,_)] ⟨rfl,rfl,rfl,rfl,rfl,rfl,rfl,rfl,rfl,trivial⟩ [_,_,_] (fun k3=>[(28,.int .i64 (k3:Nat))]) (fun k3=>H) (fun k3=>[]) (fun k3=>k3≤x2.length∧(x2.take k3).all q=true) (fun k3=>x2.length - k3) 0 (fun _ s=>s) ⟨rfl,trivial⟩ ⟨by omega,rfl⟩ fun k3 hC=>?_
   obtain ⟨hq3,hal3⟩:=hC;refine .sr<|.yw (.lss Z Z)<|.nt<|.sq<|.cd Z (fun h29=>?_) (fun h29=>?_)
   ·try simp only [dt] at h29
    have hk3:k3<x2.length:=by omega
    obtain ⟨bE3,oE3,cE3,hpE3,rE3,lE3,mE3⟩:=hs6.elem (bB hk3);cases hpE3;have hok3:=lH hk3 hok2;refine .sk<|.tN<|.sq<|.bk<|.sr<|.yw (.indexSl Fx.sl153 Z Z Z (by omega) (q:=oE3+k3 * 3) Z)<|.yw (.loadMW Z Fx.agg162 mE3 lE3)<|.al Fx.zero162 Z fun b10=>.sV .head Z Z Fx.size162 lE3 rE3.one Z<|.ns<|.mv Z<|.yw (.loadW Z Fx.agg162 (.head _) lE3)<|.yw (.callV (fi:=[]) (ca:=[]) Z hg.1 Z (fun W s=>hg.2 H G _ _ W rE3 hok3 s.agr))<|.yw (.not Z)<|.nt<|.cd Z (fun h35=>?_) (fun h35=>?_)
    ·skip
     refine .sr<|.a Z Z<|.nt<|.rt<|.bR<|.tR<|.tR<|.bR<|.bR<|.tR<|.tR<|.bR<|.bR<|.tR<|.tR<|.bR<|.tR<|?_
     refine Sx.ret1 (.inl rfl) rfl (.tmp rfl) fun W s=>⟨dB ?_,s.ext⟩
     first
      | (rw [nB,hal1])
      | (rw [nB,cK hk1 (by rw [hx1,lM];exact cK hk2 (by rw [hx2];exact cK hk3 (by simpa using h35)))])
    skip
    exact .sk<|.bN<|.tN<|.rg<|.yw (.add Z Z (w6 (by omega)))<|.mv Z<|.nt<|.ag (k3+1) ⟨rfl,trivial⟩ ⟨rfl,rfl,rfl,rfl,rfl,rfl,rfl,rfl,rfl,trivial⟩ (fun _ s=>s.pick [1,2,3] [_,_,_] Z Z) ⟨by omega,by rw [dH hk3,hal3];simpa using h35⟩ (by omega)
   try simp only [df] at h29
   obtain rfl:k3=x2.length:=by omega
   rw [List.take_length] at hal3;exact .ex<|.tE<|.tE<|.bE<|.bN<|.tN<|.rg<|.yw (.add Z Z (w6 (by omega)))<|.mv Z<|.nt<|.ag (k2+1) ⟨rfl,trivial⟩ ⟨rfl,rfl,rfl,rfl,rfl,rfl,trivial⟩ (fun _ s=>s.pick [1,2] [_,_] Z Z) ⟨by omega,by rw [dH hk2,hal2,hx2,hal3];rfl⟩ (by omega)
  try simp only [df] at h22
  obtain rfl:k2=x1.vers.length:=by omega
  rw [List.take_length] at hal2;exact .ex<|.tE<|.tE<|.bE<|.bN<|.tN<|.rg<|.yw (.add Z Z (w6 (by omega)))<|.mv Z<|.nt<|.ag (k1+1) ⟨rfl,trivial⟩ ⟨rfl,rfl,rfl,trivial⟩ (fun _ s=>s.pick [1] [_] Z Z) ⟨by omega,by rw [dH hk1,hal1,hx1,lM,hal2];rfl⟩ (by omega)
 try simp only [df] at h15
 obtain rfl:k1=f.comps.length:=by omega
 rw [List.take_length] at hal1;refine .ex<|.tE<|.tE<|.bE<|.tN<|.sr<|.a Z Z<|.nt<|.rt<|?_
 refine Sx.ret1 (.inl rfl) rfl (.tmp rfl) fun W s=>⟨dB ?_,s.ext⟩
 first
  | (rw [nB,hal1])
  | (rw [nB,cK hk1 (by rw [hx1,lM];exact cK hk2 (by rw [hx2];exact cK hk3 (by simpa using h35)))])
theorem FA (H:Hp) (G:Gl H) (f:Ft) (cs:List Value) (h:Rep H (dFt .u8 f) cs) (hok:evH okH f=true) (w:World) (hA:Agr H w) :
 Calls Tryz.prog 63 #[.agg cs.toArray] w fun r w'=>r=.returned (.bool (lQ f))∧Ext w w':=by
 obtain ⟨p1,c1,p2,c2,p3,c3,rfl,hnm,hs1,hs2,hs3⟩:=lK h;have hcap1:=hs1.cap;have hcap2:=hs2.cap;have hcap3:=hs3.cap;refine Sx.enter (H:=H) Tryz.func63 rfl Tryz.ntmps63 rfl hA ?_;refine .sr<|.bx Z Z Z fun b1=>.a Z Z<|.nt<|.sq<|.sr<|.yw (.fieldAddr Z Fx.field49_2)<|.yw (.load Z Fx.agg46 (.head _) Z)<|.yw (.lenSl Fx.sl46 Z)<|.mv Z<|.nt<|.bk<|.lp (X:=Nat) [(1,_),(10,_),(11,_)] ⟨rfl,rfl,rfl,trivial⟩ [_] (fun k0=>[(12,.int .i64 (k0:Nat))]) (fun k0=>H) (fun k0=>[]) (fun k0=>k0≤f.links.length∧(f.links.take k0).all lkB=true) (fun k0=>f.links.length - k0) 0 (fun _ s=>s) ⟨rfl,trivial⟩ ⟨by omega,rfl⟩ fun k0 hC=>?_
 obtain ⟨hq0,hal0⟩:=hC;refine .sr<|.yw (.lss Z Z)<|.nt<|.sq<|.cd Z (fun h13=>?_) (fun h13=>?_)
 ·try simp only [dt] at h13
  have hk0:k0<f.links.length:=by omega
  obtain ⟨bE0,oE0,cE0,hpE0,rE0,lE0,mE0⟩:=hs2.elem (bB hk0);cases hpE0;obtain ⟨rfl,hn5,hn6⟩:=tS rE0;refine .sk<|.tN<|.sq<|.bk<|.sr<|.yw (.indexSl Fx.sl46 Z Z Z (by omega) (q:=oE0+k0 * 3) Z)<|.yw (.loadMW Z Fx.agg105 mE0 Z)<|.al Fx.zero105 Z fun b4=>.sW .head Z Z Fx.size105 (by simp [Value.oneCell',aB]) Z<|.ns<|.yw (.fieldAddr Z Fx.field105_2)<|.yw (.load Z Fx.agg3 (.head _) Z)<|.yw (.lss Z Z)<|.mv Z<|.b2 (fun h19=>?_) (fun h19=>?_)
  ·try simp only [dt] at h19
   refine .gG<|.gG<|.gG<|.yw (.pickT Z Z)<|.nt<|.cT Z<|.sr<|.a Z Z<|.nt<|.rt<|.bR<|.tR<|.tR<|.bR<|.tR<|?_
   refine Sx.ret1 (.inl rfl) rfl (.tmp rfl) fun W s=>⟨dB ?_,s.ext⟩
   first
    | (rw [lQ,hal0,hal1];simp)
    | (rw [lQ,cK hk0 (by simp [lkB];omega)];simp)
    | (rw [lQ,show f.comps.all (fun c=>c.vars.all gW)=false from cK hk1 (by rw [hx1];exact cK hk2 (by simpa using h41))];simp)
  try simp only [df] at h19
  refine .gd Z Z<|.yw (.fieldAddr Z Fx.field105_2)<|.gd Z Z<|.yw (.load Z Fx.agg3 (.head _) Z)<|.gd Z Z<|.yw (.gtr Z Z)<|.yw (.pickF Z Z)<|.nt<|.cd Z (fun h23=>?_) (fun h23=>?_)
  ·try simp only [dt] at h23
   refine .sr<|.a Z Z<|.nt<|.rt<|.bR<|.tR<|.tR<|.bR<|.tR<|?_
   refine Sx.ret1 (.inl rfl) rfl (.tmp rfl) fun W s=>⟨dB ?_,s.ext⟩
   first
    | (rw [lQ,hal0,hal1];simp)
    | (rw [lQ,cK hk0 (by simp [lkB];omega)];simp)
    | (rw [lQ,show f.comps.all (fun c=>c.vars.all gW)=false from cK hk1 (by rw [hx1];exact cK hk2 (by simpa using h41))];simp)
  try simp only [df] at h23
  exact .sk<|.bN<|.tN<|.rg<|.yw (.add Z Z (w6 (by omega)))<|.mv Z<|.nt<|.ag (k0+1) ⟨rfl,trivial⟩ ⟨rfl,rfl,rfl,trivial⟩ (fun _ s=>s.pick [1] [_] Z Z) ⟨by omega,by rw [dH hk0,hal0];simp [lkB];omega⟩ (by omega)
 try simp only [df] at h13
 obtain rfl:k0=f.links.length:=by omega
 rw [List.take_length] at hal0;refine .ex<|.tE<|.tE<|.bE<|.tN<|.sq<|.sr<|.yw (.fieldAddr Z Fx.field49_3)<|.yw (.load Z Fx.agg47 (.head _) Z)<|.yw (.lenSl Fx.sl47 Z)<|.mv Z<|.nt<|.bk<|.lp (X:=Nat) [(1,_),(26,_),(27,_)] ⟨rfl,rfl,rfl,trivial⟩ [_] (fun k1=>[(28,.int .i64 (k1:Nat))]) (fun k1=>H) (fun k1=>[]) (fun k1=>k1≤f.comps.length∧(f.comps.take k1).all (fun c=>c.vars.all gW)=true) (fun k1=>f.comps.length - k1) 0 (fun _ s=>s) ⟨rfl,trivial⟩ ⟨by omega,rfl⟩ fun k1 hC=>?_
 obtain ⟨hq1,hal1⟩:=hC;refine .sr<|.yw (.lss Z Z)<|.nt<|.sq<|.cd Z (fun h29=>?_) (fun h29=>?_)
 ·try simp only [dt] at h29
  have hk1:k1<f.comps.length:=by omega
  obtain ⟨bE1,oE1,cE1,hpE1,rE1,lE1,mE1⟩:=hs3.elem (bB hk1);cases hpE1;generalize hx1:f.comps[k1]=x1 at rE1;obtain ⟨p4,c4,p5,c5,rfl,hn4,hs4,hs5⟩:=oZ rE1;have hcap4:=hs4.cap;refine .sk<|.tN<|.sq<|.bk<|.sr<|.yw (.indexSl Fx.sl47 Z Z Z (by omega) (q:=oE1+k1 * 3) Z)<|.yw (.loadMW Z Fx.agg110 mE1 Z)<|.al Fx.zero110 Z fun b6=>.sW .head Z Z Fx.size110 (by simp [Value.oneCell',aB]) Z<|.ns<|.yw (.fieldAddr Z Fx.field110_1)<|.yw (.load Z Fx.agg107 (.head _) Z)<|.yw (.lenSl Fx.sl107 Z)<|.mv Z<|.nt<|.bk<|.lp (X:=Nat) [(1,_),(26,_),(27,_),(28,_),(33,_),(34,_)] ⟨rfl,rfl,rfl,rfl,rfl,rfl,trivial⟩ [_,_] (fun k2=>[(35,.int .i64 (k2:Nat))]) (fun k2=>H) (fun k2=>[]) (fun k2=>k2≤x1.vars.length∧(x1.vars.take k2).all gW=true) (fun k2=>x1.vars.length - k2) 0 (fun _ s=>s) ⟨rfl,trivial⟩ ⟨by omega,rfl⟩ fun k2 hC=>?_
  obtain ⟨hq2,hal2⟩:=hC;refine .sr<|.yw (.lss Z Z)<|.nt<|.sq<|.cd Z (fun h36=>?_) (fun h36=>?_)
  ·try simp only [dt] at h36
   have hk2:k2<x1.vars.length:=by omega
   obtain ⟨bE2,oE2,cE2,hpE2,rE2,lE2,mE2⟩:=hs4.elem (bB hk2);cases hpE2

   refine .sk<|.tN<|.sq<|.bk<|.sr<|.yw (.indexSl Fx.sl107 Z Z Z (by omega) (q:=oE2+k2 * 3) Z)<|.yw (.loadMW Z Fx.agg151 mE2 lE2)<|.al Fx.zero151 Z fun b8=>.sV .head Z Z Fx.size151 lE2 rE2.one Z<|.ns<|.yw (.loadW Z Fx.agg151 (.head _) lE2)<|.yw (.call Fx.call106 Z (fun W s=>wY H _ _ rE2 W s.agr))<|.yw (.not Z)<|.nt<|.cd Z (fun h41=>?_) (fun h41=>?_)
   ·skip
    refine .sr<|.a Z Z<|.nt<|.rt<|.bR<|.tR<|.tR<|.bR<|.bR<|.tR<|.tR<|.bR<|.tR<|?_
    refine Sx.ret1 (.inl rfl) rfl (.tmp rfl) fun W s=>⟨dB ?_,s.ext⟩
    first
     | (rw [lQ,hal0,hal1];simp)
     | (rw [lQ,cK hk0 (by simp [lkB];omega)];simp)
     | (rw [lQ,show f.comps.all (fun c=>c.vars.all gW)=false from cK hk1 (by rw [hx1];exact cK hk2 (by simpa using h41))];simp)
   skip
   exact .sk<|.bN<|.tN<|.rg<|.yw (.add Z Z (w6 (by omega)))<|.mv Z<|.nt<|.ag (k2+1) ⟨rfl,trivial⟩ ⟨rfl,rfl,rfl,rfl,rfl,rfl,trivial⟩ (fun _ s=>s.pick [1,2] [_,_] Z Z) ⟨by omega,by rw [dH hk2,hal2];simpa using h41⟩ (by omega)
  try simp only [df] at h36
  obtain rfl:k2=x1.vars.length:=by omega
  rw [List.take_length] at hal2;exact .ex<|.tE<|.tE<|.bE<|.bN<|.tN<|.rg<|.yw (.add Z Z (w6 (by omega)))<|.mv Z<|.nt<|.ag (k1+1) ⟨rfl,trivial⟩ ⟨rfl,rfl,rfl,trivial⟩ (fun _ s=>s.pick [1] [_] Z Z) ⟨by omega,by rw [dH hk1,hal1,hx1,hal2];rfl⟩ (by omega)
 try simp only [df] at h29
 obtain rfl:k1=f.comps.length:=by omega
 rw [List.take_length] at hal1;refine .ex<|.tE<|.tE<|.bE<|.tN<|.sr<|.yw (.loadW Z Fx.agg49 (.head _) Z)<|.yw (.call Fx.call101 Z (fun W s=>jK 107 kY rC H G f _ h hok W s.agr))<|.a Z Z<|.nt<|.rt<|?_
 refine Sx.ret1 (.inl rfl) rfl (.tmp rfl) fun W s=>⟨dB ?_,s.ext⟩
 first
  | (rw [lQ,hal0,hal1];simp)
  | (rw [lQ,cK hk0 (by simp [lkB];omega)];simp)
  | (rw [lQ,show f.comps.all (fun c=>c.vars.all gW)=false from cK hk1 (by rw [hx1];exact cK hk2 (by simpa using h41))];simp)
theorem JY (H:Hp) (G:Gl H) (f:Ft) (cs:List Value) (h:Rep H (dFt .u8 f) cs) (hok:evH okH f=true) (w:World) (hA:Agr H w) :
 Calls Tryz.prog 62 #[.agg cs.toArray] w fun r w'=>r=.returned (.bool (tB f))∧Ext w w':=by
 obtain ⟨p1,c1,p2,c2,p3,c3,rfl,hnm,hs1,hs2,hs3⟩:=lK h;have hcap1:=hs1.cap;have hcap2:=hs2.cap;have hcap3:=hs3.cap;refine Sx.enter (H:=H) Tryz.func62 rfl Tryz.ntmps62 rfl hA ?_;refine .sr<|.bx Z Z Z fun b1=>.a Z Z<|.ns<|.yw (.fieldAddr Z Fx.field49_0)<|.yw (.load Z Fx.agg9 (.head _) Z)<|.yw (.call Fx.call58 Z (fun W s=>eI H G _ (by omega) W s.agr))<|.a Z Z<|.nt<|.sq<|.sr<|.yw (.fieldAddr Z Fx.field49_1)<|.yw (.load Z Fx.agg45 (.head _) Z)<|.yw (.lenSl Fx.sl45 Z)<|.mv Z<|.nt<|.bk<|.lp (X:=Nat) [(1,_),(16,_),(17,_)] ⟨rfl,rfl,rfl,trivial⟩ [_] (fun k0=>[(18,.int .i64 (k0:Nat)),(3,.bool (aS f.nm && (f.flags.take k0).all (fun x=>aS x.nm)))]) (fun k0=>H) (fun k0=>[]) (fun k0=>k0≤f.flags.length) (fun k0=>f.flags.length - k0) 0 (fun _ s=>s) ⟨rfl,(by rw [List.take_zero,List.all_nil,Bool.and_true];rfl),trivial⟩ (by omega) fun k0 hC=>?_
 refine .sr<|.yw (.lss Z Z)<|.nt<|.sq<|.cd Z (fun h19=>?_) (fun h19=>?_)
 ·try simp only [dt] at h19
  have hk0:k0<f.flags.length:=by omega
  obtain ⟨bE0,oE0,cE0,hpE0,rE0,lE0,mE0⟩:=hs1.elem (bB hk0);cases hpE0;obtain ⟨rfl,hn5⟩:=AK rE0;refine .sk<|.tN<|.sq<|.bk<|.sr<|.yw (.indexSl Fx.sl45 Z Z Z (by omega) (q:=oE0+k0 * 2) Z)<|.yw (.loadMW Z Fx.agg102 mE0 Z)<|.al Fx.zero102 Z fun b5=>.sW .head Z Z Fx.size102 (by simp [Value.oneCell',aB]) Z<|.nt<|.rg<|.mv Z<|.mv Z<|.b2 (fun h23=>?_) (fun h23=>?_)
  ·skip
   exact .gd Z Z<|.yw (.fieldAddr Z Fx.field102_0)<|.gd Z Z<|.yw (.load Z Fx.agg9 (.head _) Z)<|.gd Z Z<|.yw (.call Fx.call58 Z (fun W s=>eI H G _ (by omega) W s.agr))<|.yw (.pickT Z Z)<|.a Z Z<|.nl<|.bN<|.tN<|.rg<|.yw (.add Z Z (w6 (by omega)))<|.mv Z<|.nt<|.ag (k0+1) ⟨rfl,(by rw [dH hk0,← Bool.and_assoc,h23];rfl),trivial⟩ ⟨rfl,rfl,rfl,trivial⟩ (fun _ s=>s.pick [1] [_] Z Z) (by omega) (by omega)
  skip
  exact .gG<|.gG<|.gG<|.yw (.pickF Z Z)<|.a Z Z<|.nl<|.bN<|.tN<|.rg<|.yw (.add Z Z (w6 (by omega)))<|.mv Z<|.nt<|.ag (k0+1) ⟨rfl,(by rw [dH hk0,← Bool.and_assoc,h23];rfl),trivial⟩ ⟨rfl,rfl,rfl,trivial⟩ (fun _ s=>s.pick [1] [_] Z Z) (by omega) (by omega)
 try simp only [df] at h19
 obtain rfl:k0=f.flags.length:=by omega
 rw [List.take_length];refine .ex<|.tE<|.tE<|.bE<|.tN<|.sq<|.sr<|.yw (.fieldAddr Z Fx.field49_2)<|.yw (.load Z Fx.agg46 (.head _) Z)<|.yw (.lenSl Fx.sl46 Z)<|.mv Z<|.nt<|.bk<|.lp (X:=Nat) [(1,_),(30,_),(31,_)] ⟨rfl,rfl,rfl,trivial⟩ [_] (fun k1=>[(32,.int .i64 (k1:Nat)),(3,.bool (aS f.nm && f.flags.all (fun x=>aS x.nm) && (f.links.take k1).all (fun x=>aS x.fr && aS x.to)))]) (fun k1=>H) (fun k1=>[]) (fun k1=>k1≤f.links.length) (fun k1=>f.links.length - k1) 0 (fun _ s=>s) ⟨rfl,(by rw [List.take_zero,List.all_nil,Bool.and_true];rfl),trivial⟩ (by omega) fun k1 hC=>?_
 refine .sr<|.yw (.lss Z Z)<|.nt<|.sq<|.cd Z (fun h33=>?_) (fun h33=>?_)
 ·try simp only [dt] at h33
  have hk1:k1<f.links.length:=by omega
  obtain ⟨bE1,oE1,cE1,hpE1,rE1,lE1,mE1⟩:=hs2.elem (bB hk1);cases hpE1;obtain ⟨rfl,hn5,hn6⟩:=tS rE1;refine .sk<|.tN<|.sq<|.bk<|.sr<|.yw (.indexSl Fx.sl46 Z Z Z (by omega) (q:=oE1+k1 * 3) Z)<|.yw (.loadMW Z Fx.agg105 mE1 Z)<|.al Fx.zero105 Z fun b7=>.sW .head Z Z Fx.size105 (by simp [Value.oneCell',aB]) Z<|.nt<|.rg<|.mv Z<|.mv Z<|.b2 (fun h37=>?_) (fun h37=>?_)
  ·skip
   refine .gd Z Z<|.yw (.fieldAddr Z Fx.field105_0)<|.gd Z Z<|.yw (.load Z Fx.agg9 (.head _) Z)<|.gd Z Z<|.yw (.call Fx.call58 Z (fun W s=>eI H G _ (by omega) W s.agr))<|.yw (.pickT Z Z)<|.mv Z<|.b2 (fun h42=>?_) (fun h42=>?_)
   ·skip
    exact .gd Z Z<|.yw (.fieldAddr Z Fx.field105_1)<|.gd Z Z<|.yw (.load Z Fx.agg9 (.head _) Z)<|.gd Z Z<|.yw (.call Fx.call58 Z (fun W s=>eI H G _ (by omega) W s.agr))<|.yw (.pickT Z Z)<|.a Z Z<|.nl<|.bN<|.tN<|.rg<|.yw (.add Z Z (w6 (by omega)))<|.mv Z<|.nt<|.ag (k1+1) ⟨rfl,(by rw [dH hk1,← Bool.and_assoc,h37];first | rfl | (rw [Bool.true_and,h42];rfl)),trivial⟩ ⟨rfl,rfl,rfl,trivial⟩ (fun _ s=>s.pick [1] [_] Z Z) (by omega) (by omega)
   skip
   exact .gG<|.gG<|.gG<|.yw (.pickF Z Z)<|.a Z Z<|.nl<|.bN<|.tN<|.rg<|.yw (.add Z Z (w6 (by omega)))<|.mv Z<|.nt<|.ag (k1+1) ⟨rfl,(by rw [dH hk1,← Bool.and_assoc,h37];first | rfl | (rw [Bool.true_and,h42];rfl)),trivial⟩ ⟨rfl,rfl,rfl,trivial⟩ (fun _ s=>s.pick [1] [_] Z Z) (by omega) (by omega)
  skip
  exact .gG<|.gG<|.gG<|.yw (.pickF Z Z)<|.mv Z<|.gG<|.gG<|.gG<|.yw (.pickF Z Z)<|.a Z Z<|.nl<|.bN<|.tN<|.rg<|.yw (.add Z Z (w6 (by omega)))<|.mv Z<|.nt<|.ag (k1+1) ⟨rfl,(by rw [dH hk1,← Bool.and_assoc,h37];first | rfl | (rw [Bool.true_and,h42];rfl)),trivial⟩ ⟨rfl,rfl,rfl,trivial⟩ (fun _ s=>s.pick [1] [_] Z Z) (by omega) (by omega)
 try simp only [df] at h33
 obtain rfl:k1=f.links.length:=by omega
 rw [List.take_length];refine .ex<|.tE<|.tE<|.bE<|.tN<|.sq<|.sr<|.yw (.fieldAddr Z Fx.field49_3)<|.yw (.load Z Fx.agg47 (.head _) Z)<|.yw (.lenSl Fx.sl47 Z)<|.mv Z<|.nt<|.bk<|.lp (X:=Nat) [(1,_),(49,_),(50,_)] ⟨rfl,rfl,rfl,trivial⟩ [_] (fun k2=>[(51,.int .i64 (k2:Nat)),(3,.bool (aS f.nm && f.flags.all (fun x=>aS x.nm) && f.links.all (fun x=>aS x.fr && aS x.to) && (f.comps.take k2).all (fun c:Cp=>aS c.nm && c.vars.all fun v=>aS v.nm)))]) (fun k2=>H) (fun k2=>[]) (fun k2=>k2≤f.comps.length) (fun k2=>f.comps.length - k2) 0 (fun _ s=>s) ⟨rfl,(by rw [List.take_zero,List.all_nil,Bool.and_true];rfl),trivial⟩ (by omega) fun k2 hC=>?_
 refine .sr<|.yw (.lss Z Z)<|.nt<|.sq<|.cd Z (fun h52=>?_) (fun h52=>?_)
 ·try simp only [dt] at h52
  have hk2:k2<f.comps.length:=by omega
  obtain ⟨bE2,oE2,cE2,hpE2,rE2,lE2,mE2⟩:=hs3.elem (bB hk2);cases hpE2;generalize hx2:f.comps[k2]=x2 at rE2;obtain ⟨p4,c4,p5,c5,rfl,hn4,hs4,hs5⟩:=oZ rE2;have hcap4:=hs4.cap;refine .sk<|.tN<|.sq<|.bk<|.sr<|.yw (.indexSl Fx.sl47 Z Z Z (by omega) (q:=oE2+k2 * 3) Z)<|.yw (.loadMW Z Fx.agg110 mE2 Z)<|.al Fx.zero110 Z fun b9=>.sW .head Z Z Fx.size110 (by simp [Value.oneCell',aB]) Z<|.ns<|.mv Z<|.mv Z<|.b2 (fun h56=>?_) (fun h56=>?_)
  ·skip
   refine .gd Z Z<|.yw (.fieldAddr Z Fx.field110_0)<|.gd Z Z<|.yw (.load Z Fx.agg9 (.head _) Z)<|.gd Z Z<|.yw (.call Fx.call58 Z (fun W s=>eI H G _ (by omega) W s.agr))<|.yw (.pickT Z Z)<|.a Z Z<|.ns<|.yw (.fieldAddr Z Fx.field110_1)<|.yw (.load Z Fx.agg107 (.head _) Z)<|.yw (.lenSl Fx.sl107 Z)<|.mv Z<|.nt<|.bk<|.lp (X:=Nat) [(1,_),(49,_),(50,_),(51,_),(62,_),(63,_)] ⟨rfl,rfl,rfl,rfl,rfl,rfl,trivial⟩ [_,_] (fun k3=>[(64,.int .i64 (k3:Nat)),(3,.bool (aS f.nm && f.flags.all (fun x=>aS x.nm) && f.links.all (fun x=>aS x.fr && aS x.to) && (f.comps.take k2).all (fun c:Cp=>aS c.nm && c.vars.all fun v=>aS v.nm) && aS x2.nm && (x2.vars.take k3).all (fun v=>aS v.nm)))]) (fun k3=>H) (fun k3=>[]) (fun k3=>k3≤x2.vars.length) (fun k3=>x2.vars.length - k3) 0 (fun _ s=>s) ⟨rfl,(by rw [List.take_zero,List.all_nil,Bool.and_true,h56];rfl),trivial⟩ (by omega) fun k3 hC=>?_
   refine .sr<|.yw (.lss Z Z)<|.nt<|.sq<|.cd Z (fun h65=>?_) (fun h65=>?_)
   ·try simp only [dt] at h65
    have hk3:k3<x2.vars.length:=by omega
    obtain ⟨bE3,oE3,cE3,hpE3,rE3,lE3,mE3⟩:=hs4.elem (bB hk3);cases hpE3;obtain ⟨rfl,hn7⟩:=qJ rE3;refine .sk<|.tN<|.sq<|.bk<|.sr<|.yw (.indexSl Fx.sl107 Z Z Z (by omega) (q:=oE3+k3 * 3) Z)<|.yw (.loadMW Z Fx.agg151 mE3 Z)<|.al Fx.zero151 Z fun b11=>.sW .head Z Z Fx.size151 (by simp [Value.oneCell',aB]) Z<|.nt<|.rg<|.mv Z<|.mv Z<|.b2 (fun h69=>?_) (fun h69=>?_)
    ·skip
     exact .gd Z Z<|.yw (.fieldAddr Z Fx.field151_0)<|.gd Z Z<|.yw (.load Z Fx.agg9 (.head _) Z)<|.gd Z Z<|.yw (.call Fx.call58 Z (fun W s=>eI H G _ (by omega) W s.agr))<|.yw (.pickT Z Z)<|.a Z Z<|.nl<|.bN<|.tN<|.rg<|.yw (.add Z Z (w6 (by omega)))<|.mv Z<|.nt<|.ag (k3+1) ⟨rfl,(by rw [dH hk3,← Bool.and_assoc,h69];rfl),trivial⟩ ⟨rfl,rfl,rfl,rfl,rfl,rfl,trivial⟩ (fun _ s=>s.pick [1,2] [_,_] Z Z) (by omega) (by omega)
    skip
    exact .gG<|.gG<|.gG<|.yw (.pickF Z Z)<|.a Z Z<|.nl<|.bN<|.tN<|.rg<|.yw (.add Z Z (w6 (by omega)))<|.mv Z<|.nt<|.ag (k3+1) ⟨rfl,(by rw [dH hk3,← Bool.and_assoc,h69];rfl),trivial⟩ ⟨rfl,rfl,rfl,rfl,rfl,rfl,trivial⟩ (fun _ s=>s.pick [1,2] [_,_] Z Z) (by omega) (by omega)
   try simp only [df] at h65
   obtain rfl:k3=x2.vars.length:=by omega
   rw [List.take_length];exact .ex<|.tE<|.tE<|.bE<|.bN<|.tN<|.rg<|.yw (.add Z Z (w6 (by omega)))<|.mv Z<|.nt<|.ag (k2+1) ⟨rfl,(by rw [dH hk2,← Bool.and_assoc,hx2,← Bool.and_assoc];rfl),trivial⟩ ⟨rfl,rfl,rfl,trivial⟩ (fun _ s=>s.pick [1] [_] Z Z) (by omega) (by omega)
  skip
  refine .gG<|.gG<|.gG<|.yw (.pickF Z Z)<|.a Z Z<|.ns<|.yw (.fieldAddr Z Fx.field110_1)<|.yw (.load Z Fx.agg107 (.head _) Z)<|.yw (.lenSl Fx.sl107 Z)<|.mv Z<|.nt<|.bk<|.lp (X:=Nat) [(1,_),(49,_),(50,_),(51,_),(62,_),(63,_)] ⟨rfl,rfl,rfl,rfl,rfl,rfl,trivial⟩ [_,_] (fun k3=>[(64,.int .i64 (k3:Nat)),(3,.bool (aS f.nm && f.flags.all (fun x=>aS x.nm) && f.links.all (fun x=>aS x.fr && aS x.to) && (f.comps.take k2).all (fun c:Cp=>aS c.nm && c.vars.all fun v=>aS v.nm) && aS x2.nm && (x2.vars.take k3).all (fun v=>aS v.nm)))]) (fun k3=>H) (fun k3=>[]) (fun k3=>k3≤x2.vars.length) (fun k3=>x2.vars.length - k3) 0 (fun _ s=>s) ⟨rfl,(by rw [List.take_zero,List.all_nil,Bool.and_true,h56];rfl),trivial⟩ (by omega) fun k3 hC=>?_
  refine .sr<|.yw (.lss Z Z)<|.nt<|.sq<|.cd Z (fun h65=>?_) (fun h65=>?_)
  ·try simp only [dt] at h65
   have hk3:k3<x2.vars.length:=by omega
   obtain ⟨bE3,oE3,cE3,hpE3,rE3,lE3,mE3⟩:=hs4.elem (bB hk3);cases hpE3;obtain ⟨rfl,hn7⟩:=qJ rE3;refine .sk<|.tN<|.sq<|.bk<|.sr<|.yw (.indexSl Fx.sl107 Z Z Z (by omega) (q:=oE3+k3 * 3) Z)<|.yw (.loadMW Z Fx.agg151 mE3 Z)<|.al Fx.zero151 Z fun b11=>.sW .head Z Z Fx.size151 (by simp [Value.oneCell',aB]) Z<|.nt<|.rg<|.mv Z<|.mv Z<|.b2 (fun h69=>?_) (fun h69=>?_)
   ·skip
    exact .gd Z Z<|.yw (.fieldAddr Z Fx.field151_0)<|.gd Z Z<|.yw (.load Z Fx.agg9 (.head _) Z)<|.gd Z Z<|.yw (.call Fx.call58 Z (fun W s=>eI H G _ (by omega) W s.agr))<|.yw (.pickT Z Z)<|.a Z Z<|.nl<|.bN<|.tN<|.rg<|.yw (.add Z Z (w6 (by omega)))<|.mv Z<|.nt<|.ag (k3+1) ⟨rfl,(by rw [dH hk3,← Bool.and_assoc,h69];rfl),trivial⟩ ⟨rfl,rfl,rfl,rfl,rfl,rfl,trivial⟩ (fun _ s=>s.pick [1,2] [_,_] Z Z) (by omega) (by omega)
   skip
   exact .gG<|.gG<|.gG<|.yw (.pickF Z Z)<|.a Z Z<|.nl<|.bN<|.tN<|.rg<|.yw (.add Z Z (w6 (by omega)))<|.mv Z<|.nt<|.ag (k3+1) ⟨rfl,(by rw [dH hk3,← Bool.and_assoc,h69];rfl),trivial⟩ ⟨rfl,rfl,rfl,rfl,rfl,rfl,trivial⟩ (fun _ s=>s.pick [1,2] [_,_] Z Z) (by omega) (by omega)
  try simp only [df] at h65
  obtain rfl:k3=x2.vars.length:=by omega
  rw [List.take_length];exact .ex<|.tE<|.tE<|.bE<|.bN<|.tN<|.rg<|.yw (.add Z Z (w6 (by omega)))<|.mv Z<|.nt<|.ag (k2+1) ⟨rfl,(by rw [dH hk2,← Bool.and_assoc,hx2,← Bool.and_assoc];rfl),trivial⟩ ⟨rfl,rfl,rfl,trivial⟩ (fun _ s=>s.pick [1] [_] Z Z) (by omega) (by omega)
 try simp only [df] at h52
 obtain rfl:k2=f.comps.length:=by omega
 rw [List.take_length];refine .ex<|.tE<|.tE<|.bE<|.tN<|.sr<|.mv Z<|.mv Z<|.b2 (fun h77=>?_) (fun h77=>?_)
 ·skip
  refine .gd Z Z<|.yw (.loadW Z Fx.agg49 (.head _) Z)<|.gd Z Z<|.yw (.call Fx.call101 Z (fun W s=>jK 103 kH rW H G f _ h hok W s.agr))<|.yw (.pickT Z Z)<|.a Z Z<|.nt<|.rt<|?_
  refine Sx.ret1 (.inl rfl) rfl (.tmp rfl) fun W s=>⟨dB ?_,s.ext⟩
  first
   | (rw [tB,h77];simp)
   | (rw [tB,h77];rfl)
 skip
 refine .gG<|.gG<|.yw (.pickF Z Z)<|.a Z Z<|.nt<|.rt<|?_
 refine Sx.ret1 (.inl rfl) rfl (.tmp rfl) fun W s=>⟨dB ?_,s.ext⟩
 first
  | (rw [tB,h77];simp)
  | (rw [tB,h77];rfl)
theorem Fx.call61:aM Tryz.prog 61=Bool.true:=by kernel_rfl
theorem Fx.call62:aM Tryz.prog 62=Bool.true:=by kernel_rfl
theorem Fx.call63:aM Tryz.prog 63=Bool.true:=by kernel_rfl
theorem Fx.map209:EV Tryz.prog 209=Bool.true:=by kernel_rfl
theorem IZ (H:Hp) (G:Gl H) (f:Ft) (cs:List Value) (h:Rep H (dFt .u8 f) cs) (hok:evH okH f=true) (w:World) (hA:Agr H w) :
 Calls Tryz.prog 61 #[.agg cs.toArray] w fun r w'=>r=.returned (.bool (gY f))∧Ext w w':=by
 obtain ⟨p1,c1,p2,c2,p3,c3,rfl,hnm,hs1,hs2,hs3⟩:=lK h;have hcap1:=hs1.cap;have hcap2:=hs2.cap;have hcap3:=hs3.cap;refine Sx.enter (H:=H) Tryz.func61 rfl Tryz.ntmps61 rfl hA ?_;refine .sr<|.bx Z Z Z fun b1=>.a Z Z<|.ns<|.yw (.fieldAddr Z Fx.field49_3)<|.yw (.load Z Fx.agg47 (.head _) Z)<|.yw (.lenSl Fx.sl47 Z)<|.a Z Z<|.nt<|.sq<|.sr<|.mv Z<|.yw (.eql Z Z)<|.mv Z<|.b2 (fun h17=>?_) (fun h17=>?_)
 ·try simp only [dt] at h17
  refine .gG<|.gG<|.yw (.pickT Z Z)<|.mv Z<|.gG<|.gG<|.gG<|.gG<|.yw (.pickT Z Z)<|.mv Z<|.gG<|.gG<|.gG<|.gG<|.yw (.pickT Z Z)<|.nt<|.cT Z<|.sr<|.a Z Z<|.nt<|.rt<|.tR<|?_
  refine Sx.ret1 (.inl rfl) rfl (.tmp rfl) fun W s=>⟨dB ?_,s.ext⟩
  first
   | (rw [gY,hal1,show gE f=true by simp only [gE,Bool.and_eq_true,decide_eq_true_eq];omega];simp)
   | (rw [gY,show gE f=false by simp only [gE,Bool.and_eq_false_iff,decide_eq_false_iff_not];omega];rfl)
   | (rw [gY,show f.comps.all jU=false from cK hk1 (by rw [hx1];simp only [jU,Bool.and_eq_false_iff,decide_eq_false_iff_not];omega)];simp)
 try simp only [df] at h17
 refine .gd Z Z<|.yw (.move Z)<|.gd Z Z<|.yw (.gtr Z Z)<|.yw (.pickF Z Z)<|.mv Z<|.b2 (fun h21=>?_) (fun h21=>?_)
 ·try simp only [dt] at h21
  refine .gG<|.gG<|.gG<|.gG<|.yw (.pickT Z Z)<|.mv Z<|.gG<|.gG<|.gG<|.gG<|.yw (.pickT Z Z)<|.nt<|.cT Z<|.sr<|.a Z Z<|.nt<|.rt<|.tR<|?_
  refine Sx.ret1 (.inl rfl) rfl (.tmp rfl) fun W s=>⟨dB ?_,s.ext⟩
  first
   | (rw [gY,hal1,show gE f=true by simp only [gE,Bool.and_eq_true,decide_eq_true_eq];omega];simp)
   | (rw [gY,show gE f=false by simp only [gE,Bool.and_eq_false_iff,decide_eq_false_iff_not];omega];rfl)
   | (rw [gY,show f.comps.all jU=false from cK hk1 (by rw [hx1];simp only [jU,Bool.and_eq_false_iff,decide_eq_false_iff_not];omega)];simp)
 try simp only [df] at h21
 refine .gd Z Z<|.yw (.fieldAddr Z Fx.field49_1)<|.gd Z Z<|.yw (.load Z Fx.agg45 (.head _) Z)<|.gd Z Z<|.yw (.lenSl Fx.sl45 Z)<|.gd Z Z<|.yw (.gtr Z Z)<|.yw (.pickF Z Z)<|.mv Z<|.b2 (fun h27=>?_) (fun h27=>?_)
 ·try simp only [dt] at h27
  refine .gG<|.gG<|.gG<|.gG<|.yw (.pickT Z Z)<|.nt<|.cT Z<|.sr<|.a Z Z<|.nt<|.rt<|.tR<|?_
  refine Sx.ret1 (.inl rfl) rfl (.tmp rfl) fun W s=>⟨dB ?_,s.ext⟩
  first
   | (rw [gY,hal1,show gE f=true by simp only [gE,Bool.and_eq_true,decide_eq_true_eq];omega];simp)
   | (rw [gY,show gE f=false by simp only [gE,Bool.and_eq_false_iff,decide_eq_false_iff_not];omega];rfl)
   | (rw [gY,show f.comps.all jU=false from cK hk1 (by rw [hx1];simp only [jU,Bool.and_eq_false_iff,decide_eq_false_iff_not];omega)];simp)
 try simp only [df] at h27
 refine .gd Z Z<|.yw (.fieldAddr Z Fx.field49_2)<|.gd Z Z<|.yw (.load Z Fx.agg46 (.head _) Z)<|.gd Z Z<|.yw (.lenSl Fx.sl46 Z)<|.gd Z Z<|.yw (.gtr Z Z)<|.yw (.pickF Z Z)<|.nt<|.cd Z (fun h32=>?_) (fun h32=>?_)
 ·try simp only [dt] at h32
  refine .sr<|.a Z Z<|.nt<|.rt<|.tR<|?_
  refine Sx.ret1 (.inl rfl) rfl (.tmp rfl) fun W s=>⟨dB ?_,s.ext⟩
  first
   | (rw [gY,hal1,show gE f=true by simp only [gE,Bool.and_eq_true,decide_eq_true_eq];omega];simp)
   | (rw [gY,show gE f=false by simp only [gE,Bool.and_eq_false_iff,decide_eq_false_iff_not];omega];rfl)
   | (rw [gY,show f.comps.all jU=false from cK hk1 (by rw [hx1];simp only [jU,Bool.and_eq_false_iff,decide_eq_false_iff_not];omega)];simp)
 try simp only [df] at h32
 refine .sk<|.tN<|.sq<|.sr<|.yw (.fieldAddr Z Fx.field49_3)<|.yw (.load Z Fx.agg47 (.head _) Z)<|.yw (.lenSl Fx.sl47 Z)<|.mv Z<|.nt<|.bk<|.lp (X:=Nat) [(1,_),(34,_),(35,_)] ⟨rfl,rfl,rfl,trivial⟩ [_] (fun k1=>[(36,.int .i64 (k1:Nat))]) (fun k1=>H) (fun k1=>[]) (fun k1=>k1≤f.comps.length∧(f.comps.take k1).all jU=true) (fun k1=>f.comps.length - k1) 0 (fun _ s=>s) ⟨rfl,trivial⟩ ⟨by omega,rfl⟩ fun k1 hC=>?_
 obtain ⟨hq1,hal1⟩:=hC;refine .sr<|.yw (.lss Z Z)<|.nt<|.sq<|.cd Z (fun h37=>?_) (fun h37=>?_)
 ·try simp only [dt] at h37
  have hk1:k1<f.comps.length:=by omega
  obtain ⟨bE1,oE1,cE1,hpE1,rE1,lE1,mE1⟩:=hs3.elem (bB hk1);cases hpE1;generalize hx1:f.comps[k1]=x1 at rE1;obtain ⟨p4,c4,p5,c5,rfl,hn4,hs4,hs5⟩:=oZ rE1;have hcap5:=hs5.cap;refine .sk<|.tN<|.sq<|.bk<|.sr<|.yw (.indexSl Fx.sl47 Z Z Z (by omega) (q:=oE1+k1 * 3) Z)<|.yw (.loadMW Z Fx.agg110 mE1 Z)<|.al Fx.zero110 Z fun b5=>.sW .head Z Z Fx.size110 (by simp [Value.oneCell',aB]) Z<|.nt<|.sq<|.sr<|.yw (.fieldAddr Z Fx.field110_2)<|.yw (.load Z Fx.agg108 (.head _) Z)<|.yw (.lenSl Fx.sl108 Z)<|.a Z Z<|.ns<|.yw (.fieldAddr Z Fx.field110_1)<|.yw (.load Z Fx.agg107 (.head _) Z)<|.yw (.lenSl Fx.sl107 Z)<|.yw (.gtr Z Z)<|.mv Z<|.b2 (fun h47=>?_) (fun h47=>?_)
  ·try simp only [dt] at h47
   refine .gG<|.gG<|.yw (.pickT Z Z)<|.mv Z<|.gG<|.gG<|.yw (.pickT Z Z)<|.nt<|.cT Z<|.sr<|.a Z Z<|.nt<|.rt<|.tR<|.bR<|.tR<|.tR<|.bR<|.tR<|?_
   refine Sx.ret1 (.inl rfl) rfl (.tmp rfl) fun W s=>⟨dB ?_,s.ext⟩
   first
    | (rw [gY,hal1,show gE f=true by simp only [gE,Bool.and_eq_true,decide_eq_true_eq];omega];simp)
    | (rw [gY,show gE f=false by simp only [gE,Bool.and_eq_false_iff,decide_eq_false_iff_not];omega];rfl)
    | (rw [gY,show f.comps.all jU=false from cK hk1 (by rw [hx1];simp only [jU,Bool.and_eq_false_iff,decide_eq_false_iff_not];omega)];simp)
  try simp only [df] at h47
  refine .gd Z Z<|.yw (.move Z)<|.gd Z Z<|.yw (.eql Z Z)<|.yw (.pickF Z Z)<|.mv Z<|.b2 (fun h51=>?_) (fun h51=>?_)
  ·try simp only [dt] at h51
   refine .gG<|.gG<|.yw (.pickT Z Z)<|.nt<|.cT Z<|.sr<|.a Z Z<|.nt<|.rt<|.tR<|.bR<|.tR<|.tR<|.bR<|.tR<|?_
   refine Sx.ret1 (.inl rfl) rfl (.tmp rfl) fun W s=>⟨dB ?_,s.ext⟩
   first
    | (rw [gY,hal1,show gE f=true by simp only [gE,Bool.and_eq_true,decide_eq_true_eq];omega];simp)
    | (rw [gY,show gE f=false by simp only [gE,Bool.and_eq_false_iff,decide_eq_false_iff_not];omega];rfl)
    | (rw [gY,show f.comps.all jU=false from cK hk1 (by rw [hx1];simp only [jU,Bool.and_eq_false_iff,decide_eq_false_iff_not];omega)];simp)
  try simp only [df] at h51
  refine .gd Z Z<|.yw (.move Z)<|.gd Z Z<|.yw (.gtr Z Z)<|.yw (.pickF Z Z)<|.nt<|.cd Z (fun h54=>?_) (fun h54=>?_)
  ·try simp only [dt] at h54
   refine .sr<|.a Z Z<|.nt<|.rt<|.tR<|.bR<|.tR<|.tR<|.bR<|.tR<|?_
   refine Sx.ret1 (.inl rfl) rfl (.tmp rfl) fun W s=>⟨dB ?_,s.ext⟩
   first
    | (rw [gY,hal1,show gE f=true by simp only [gE,Bool.and_eq_true,decide_eq_true_eq];omega];simp)
    | (rw [gY,show gE f=false by simp only [gE,Bool.and_eq_false_iff,decide_eq_false_iff_not];omega];rfl)
    | (rw [gY,show f.comps.all jU=false from cK hk1 (by rw [hx1];simp only [jU,Bool.and_eq_false_iff,decide_eq_false_iff_not];omega)];simp)
  try simp only [df] at h54
  refine .sk<|.tN<|.sr<|.mm Fx.map209 Z fun b55=>.a Z Z<|.nt<|.sq<|.sr<|.yw (.fieldAddr Z Fx.field110_2)<|.yw (.load Z Fx.agg108 aW Z)<|.yw (.lenSl Fx.sl108 Z)<|.mv Z<|.nt<|.bk<|.lp (X:=Nat) [(1,_),(7,_),(34,_),(35,_),(36,_),(57,_),(58,_)] ⟨rfl,rfl,rfl,rfl,rfl,rfl,rfl,trivial⟩ [_,_] (fun k2=>[(59,.int .i64 (k2:Nat))]) (fun k2=>H) (fun k2=>[(.obj b55 (mo ((x1.vers.take k2).foldl pN [])))]) (fun k2=>k2≤x1.vers.length) (fun k2=>x1.vers.length - k2) 0 (fun _ s=>s) ⟨rfl,trivial⟩ (by omega) fun k2 hC=>?_
  refine .sr<|.yw (.lss Z Z)<|.nt<|.sq<|.cd Z (fun h60=>?_) (fun h60=>?_)
  ·try simp only [dt] at h60
   have hk2:k2<x1.vers.length:=by omega
   obtain ⟨bE2,oE2,cE2,hpE2,rE2,lE2,mE2⟩:=hs5.elem (bB hk2);cases hpE2;generalize hx2:x1.vers[k2]=x2 at rE2;obtain ⟨p6,c6,rfl,hs6⟩:=tH rE2;have hcap6:=hs6.cap;refine .sk<|.tN<|.sq<|.bk<|.sr<|.yw (.indexSl Fx.sl108 Z Z Z (by omega) (q:=oE2+k2 * 1) Z)<|.yw (.loadMW Z Fx.agg155 mE2 Z)<|.al Fx.zero155 Z fun b9=>.sW .head Z Z Fx.size155 (by simp [Value.oneCell',aB]) Z<|.ns<|.yw (.fieldAddr Z Fx.field155_0)<|.yw (.load Z Fx.agg153 (.head _) Z)<|.yw (.lenSl Fx.sl153 Z)<|.mv Z<|.nt<|.bk<|.pm [1,0,2,3] [_,_,_,_] Z Z<|.lp (X:=Nat) [(1,_),(7,_),(34,_),(35,_),(36,_),(57,_),(58,_),(59,_),(64,_),(65,_)] ⟨rfl,rfl,rfl,rfl,rfl,rfl,rfl,rfl,rfl,rfl,trivial⟩ [_,_,_] (fun k3=>[(66,.int .i64 (k3:Nat))]) (fun k3=>H) (fun k3=>[(.obj b55 (mo ((x2.take k3).foldl BN ((x1.vers.take k2).foldl pN []))))]) (fun k3=>k3≤x2.length) (fun k3=>x2.length - k3) 0 (fun _ s=>s) ⟨rfl,trivial⟩ (by omega) fun k3 hC=>?_
   refine .sr<|.yw (.lss Z Z)<|.nt<|.sq<|.cd Z (fun h67=>?_) (fun h67=>?_)
   ·try simp only [dt] at h67
    have hk3:k3<x2.length:=by omega
    obtain ⟨bE3,oE3,cE3,hpE3,rE3,lE3,mE3⟩:=hs6.elem (bB hk3);cases hpE3;generalize hx3:x2[k3]=x3 at rE3;obtain ⟨p7,c7,p8,c8,rfl,hn7,hs7,hs8⟩:=oW rE3;exact .sk<|.tN<|.sq<|.bk<|.sr<|.yw (.indexSl Fx.sl153 Z Z Z (by omega) (q:=oE3+k3 * 3) Z)<|.yw (.loadMW Z Fx.agg162 mE3 Z)<|.al Fx.zero162 Z fun b11=>.sW .head Z Z Fx.size162 (by simp [Value.oneCell',aB]) Z<|.nt<|.rg<|.mv Z<|.yw (.fieldAddr Z Fx.field162_0)<|.yw (.load Z Fx.agg9 (.head _) Z)<|.mu bQ Fx.map209 Z Z Z<|.nl<|.bN<|.tN<|.rg<|.yw (.add Z Z (w6 (by omega)))<|.mv Z<|.nt<|.ag (k3+1) ⟨rfl,trivial⟩ ⟨rfl,rfl,rfl,rfl,rfl,rfl,rfl,rfl,rfl,rfl,trivial⟩ (fun W s=>by rw [xY hk3,hx3];exact (s.pick [1,2,3,4] _ Z Z)) (by omega) (by omega)
   try simp only [df] at h67
   obtain rfl:k3=x2.length:=by omega
   rw [List.take_length];exact .ex<|.tE<|.tE<|.bE<|.bN<|.tN<|.rg<|.yw (.add Z Z (w6 (by omega)))<|.mv Z<|.nt<|.ag (k2+1) ⟨rfl,trivial⟩ ⟨rfl,rfl,rfl,rfl,rfl,rfl,rfl,trivial⟩ (fun W s=>by rw [show (x1.vers.take (k2+1)).foldl pN []=x2.foldl BN ((x1.vers.take k2).foldl pN []) by rw [xY hk2,hx2];rfl];exact (s.pick [0,2,3] _ Z Z)) (by omega) (by omega)
  try simp only [df] at h60
  obtain rfl:k2=x1.vers.length:=by omega
  rw [List.take_length];have hnm1:(x1.vers.foldl pN []).length=(tP x1).length:=rfl;refine .ex<|.tE<|.tE<|.bE<|.tN<|.sr<|.mv Z<|.yw (.lenM Fx.map209 (.head _) Z)<|.yw (.gtr Z Z)<|.nt<|.cd Z (fun h77=>?_) (fun h77=>?_)
  ·try simp only [dt] at h77
   refine .sr<|.a Z Z<|.nt<|.rt<|.bR<|.tR<|.tR<|.bR<|.tR<|?_
   refine Sx.ret1 (.inl rfl) rfl (.tmp rfl) fun W s=>⟨dB ?_,s.ext⟩
   first
    | (rw [gY,hal1,show gE f=true by simp only [gE,Bool.and_eq_true,decide_eq_true_eq];omega];simp)
    | (rw [gY,show gE f=false by simp only [gE,Bool.and_eq_false_iff,decide_eq_false_iff_not];omega];rfl)
    | (rw [gY,show f.comps.all jU=false from cK hk1 (by rw [hx1];simp only [jU,Bool.and_eq_false_iff,decide_eq_false_iff_not];omega)];simp)
  try simp only [df] at h77
  exact .sk<|.bN<|.tN<|.rg<|.yw (.add Z Z (w6 (by omega)))<|.mv Z<|.nt<|.ag (k1+1) ⟨rfl,trivial⟩ ⟨rfl,rfl,rfl,trivial⟩ (fun _ s=>s.pick [2] [_] Z Z) ⟨by omega,by rw [dH hk1,hal1,hx1];simp only [jU,Bool.true_and,Bool.and_eq_true,decide_eq_true_eq];omega⟩ (by omega)
 try simp only [df] at h37
 obtain rfl:k1=f.comps.length:=by omega
 rw [List.take_length] at hal1;refine .ex<|.tE<|.tE<|.bE<|.tN<|.sr<|.yw (.loadW Z Fx.agg49 (.head _) Z)<|.yw (.call Fx.call101 Z (fun W s=>jK 102 kX rP H G f _ h hok W s.agr))<|.a Z Z<|.nt<|.rt<|?_
 refine Sx.ret1 (.inl rfl) rfl (.tmp rfl) fun W s=>⟨dB ?_,s.ext⟩
 first
  | (rw [gY,hal1,show gE f=true by simp only [gE,Bool.and_eq_true,decide_eq_true_eq];omega];simp)
  | (rw [gY,show gE f=false by simp only [gE,Bool.and_eq_false_iff,decide_eq_false_iff_not];omega];rfl)
  | (rw [gY,show f.comps.all jU=false from cK hk1 (by rw [hx1];simp only [jU,Bool.and_eq_false_iff,decide_eq_false_iff_not];omega)];simp)
theorem yI (H:Hp) (G:Gl H) (f:Ft) (cs:List Value) (h:Rep H (dFt .u8 f) cs) (hok:evH okH f=true) (w:World) (hA:Agr H w) :
 Calls Tryz.prog 35 #[.agg cs.toArray] w fun r w'=>r=.returned (.int .i64 (bU f:Nat))∧Ext w w':=by
 obtain ⟨p1,c1,p2,c2,p3,c3,rfl,hnm,hs1,hs2,hs3⟩:=lK h;have hcap1:=hs1.cap;have hcap2:=hs2.cap;have hcap3:=hs3.cap;refine Sx.enter (H:=H) Tryz.func35 rfl Tryz.ntmps35 rfl hA ?_;refine .sr<|.bx Z Z Z fun b1=>.a Z Z<|.nt<|.sq<|.bk<|.sr<|.yw (.loadW Z Fx.agg49 (.head _) Z)<|.yw (.call Fx.call61 Z (fun W s=>IZ H G f _ h hok W s.agr))<|.yw (.not Z)<|.a Z Z<|.nt<|.cd Z (fun h3=>?_) (fun h3=>?_)
 ·skip
  refine .sr<|.a Z Z<|.nt<|.rt<|.bR<|.tR<|?_
  refine Sx.ret1 (.inl rfl) rfl (.tmp rfl) fun W s=>⟨?_,s.ext⟩
  first
   | (rw [bU,if_pos (by simpa using h3)];rfl)
   | (rw [bU,if_neg (by simpa using h3),if_pos (by simpa using h7)];rfl)
   | (rw [bU,if_neg (by simpa using h3),if_neg (by simpa using h7),if_pos (by simpa using h11)];rfl)
   | (rw [bU,if_neg (by simpa using h3),if_neg (by simpa using h7),if_neg (by simpa using h11)];rfl)
 skip
 refine .sr<|.yw (.loadW Z Fx.agg49 (.head _) Z)<|.yw (.call Fx.call62 Z (fun W s=>JY H G f _ h hok W s.agr))<|.yw (.not Z)<|.a Z Z<|.nt<|.cd Z (fun h7=>?_) (fun h7=>?_)
 ·skip
  refine .sr<|.a Z Z<|.nt<|.rt<|.bR<|.tR<|?_
  refine Sx.ret1 (.inl rfl) rfl (.tmp rfl) fun W s=>⟨?_,s.ext⟩
  first
   | (rw [bU,if_pos (by simpa using h3)];rfl)
   | (rw [bU,if_neg (by simpa using h3),if_pos (by simpa using h7)];rfl)
   | (rw [bU,if_neg (by simpa using h3),if_neg (by simpa using h7),if_pos (by simpa using h11)];rfl)
   | (rw [bU,if_neg (by simpa using h3),if_neg (by simpa using h7),if_neg (by simpa using h11)];rfl)
 skip
 refine .sr<|.yw (.loadW Z Fx.agg49 (.head _) Z)<|.yw (.call Fx.call63 Z (fun W s=>FA H G f _ h hok W s.agr))<|.yw (.not Z)<|.a Z Z<|.nt<|.cd Z (fun h11=>?_) (fun h11=>?_)
 ·skip
  refine .sr<|.a Z Z<|.nt<|.rt<|.bR<|.tR<|?_
  refine Sx.ret1 (.inl rfl) rfl (.tmp rfl) fun W s=>⟨?_,s.ext⟩
  first
   | (rw [bU,if_pos (by simpa using h3)];rfl)
   | (rw [bU,if_neg (by simpa using h3),if_pos (by simpa using h7)];rfl)
   | (rw [bU,if_neg (by simpa using h3),if_neg (by simpa using h7),if_pos (by simpa using h11)];rfl)
   | (rw [bU,if_neg (by simpa using h3),if_neg (by simpa using h7),if_neg (by simpa using h11)];rfl)
 skip
 refine .sk<|.bN<|.tN<|.sr<|.a Z Z<|.nt<|.rt<|?_
 refine Sx.ret1 (.inl rfl) rfl (.tmp rfl) fun W s=>⟨?_,s.ext⟩
 first
  | (rw [bU,if_pos (by simpa using h3)];rfl)
  | (rw [bU,if_neg (by simpa using h3),if_pos (by simpa using h7)];rfl)
  | (rw [bU,if_neg (by simpa using h3),if_neg (by simpa using h7),if_pos (by simpa using h11)];rfl)
  | (rw [bU,if_neg (by simpa using h3),if_neg (by simpa using h7),if_neg (by simpa using h11)];rfl)
end Go.Proofs.YthhoebdlfjffkaaGreatDoor
namespace Go.Proofs
open Go.Shelf
def Tryz.lays156_ren:Go.Shelf.Ren:=⟨fun | 156=>128 | 165=>155 | 166=>83 | 169=>47 | 240=>126 | 241=>169 | 276=>150 | 277=>180 | n=>n,fun | 31=>52 | 9=>9 | 3=>3 | 4=>4 | 0=>0 | 20=>20 | 72=>115 | 76=>189 | 70=>113 | 37=>40 | 75=>188 | 127=>194 | 164=>247 | 5=>5 | 80=>122 | n=>n,fun | n=>n⟩
theorem Tryz.lays156:Go.Proofs.Lays.n156 Tryz.prog Tryz.lays156_ren:={
 mixed:=by kernel_rfl
 f156:=Tryz.func128.trans (congrArg some (by kernel_rfl))
 f165:=Tryz.func155.trans (congrArg some (by kernel_rfl))
 f166:=Tryz.func83.trans (congrArg some (by kernel_rfl))
 f169:=Tryz.func47.trans (congrArg some (by kernel_rfl))
 f240:=Tryz.func126.trans (congrArg some (by kernel_rfl))
 f241:=Tryz.func169.trans (congrArg some (by kernel_rfl))
 f276:=Tryz.func150.trans (congrArg some (by kernel_rfl))
 f277:=Tryz.func180.trans (congrArg some (by kernel_rfl))
 t0:=Tryz.underlying0
 a0:=Tryz.isAgg0
 z0:=Tryz.sizeOf0
 v0:=Tryz.zeroValue0
 t3:=Tryz.underlying3
 a3:=Tryz.isAgg3
 z3:=Tryz.sizeOf3
 v3:=Tryz.zeroValue3
 t4:=Tryz.underlying4
 a4:=Tryz.isAgg4
 z4:=Tryz.sizeOf4
 v4:=Tryz.zeroValue4
 t9:=Tryz.underlying9
 a9:=Tryz.isAgg9
 z9:=Tryz.sizeOf9
 v9:=Tryz.zeroValue9
 t20:=Tryz.underlying20
 a20:=Tryz.isAgg20
 z20:=Tryz.sizeOf20
 v20:=Tryz.zeroValue20
 t31:=Tryz.underlying52
 a31:=Tryz.isAgg52
 z31:=Tryz.sizeOf52
 v31:=Tryz.zeroValue52
 t37:=Tryz.underlying40
 a37:=Tryz.isAgg40
 z37:=Tryz.sizeOf40
 v37:=Tryz.zeroValue40
 t70:=Tryz.underlying113
 a70:=Tryz.isAgg113
 z70:=Tryz.sizeOf113
 v70:=Tryz.zeroValue113
 t72:=Tryz.underlying115
 a72:=Tryz.isAgg115
 z72:=Tryz.sizeOf115
 v72:=Tryz.zeroValue115
 t75:=Tryz.underlying188
 a75:=Tryz.isAgg188
 z75:=Tryz.sizeOf188
 v75:=Tryz.zeroValue188
 t76:=Tryz.underlying189
 a76:=Tryz.isAgg189
 z76:=Tryz.sizeOf189
 v76:=Tryz.zeroValue189
 t127:=Tryz.underlying194
 a127:=Tryz.isAgg194
 z127:=Tryz.sizeOf194
 v127:=Tryz.zeroValue194
 t164:=Tryz.underlying247
 a164:=Tryz.isAgg247
 z164:=Tryz.sizeOf247
 v164:=Tryz.zeroValue247 }
theorem Tryz.Builder_Extra_156:Builder.Extra Tryz.prog Tryz.lays156_ren:={
 sizeBuilder:=by kernel_rfl
 liesBuilder:=by kernel_rfl
 t5:=Tryz.underlying5
 a5:=Tryz.isAgg5
 z5:=Tryz.sizeOf5
 v5:=Tryz.zeroValue5
 infoByte:=by kernel_rfl
 cellsByte:=by kernel_rfl
 sizeByte:=by kernel_rfl
 neB5:=by decide }
open Go.RowKit in
theorem Tryz.strings_Join_none (a:Option Addr) (c:Nat) (sep:ByteArray) (w:World) :
 Calls Tryz.prog 128 #[.slice a 0 c,.string sep] w fun e w'=>e=.returned (.string ⟨#[]⟩)∧w'=w:=Any.strings_Join_none Tryz.lays156 Tryz.Builder_Extra_156 a c sep w
open Go.RowKit in
theorem Tryz.strings_Join (bk o c:Nat) (xs:List ByteArray) (sep:ByteArray) (w:World) (hcells:∀ (j:Nat) x,xs[j]? = some x→w.cell? ⟨bk,o+j,none⟩=some (.string x)) (hbk:bk<w.heap.size) (hN:xs.length≤140737488355328) (hcap:xs.length≤c) (hlen:(Lib.join (xs.map (·.data.toList)) sep.data.toList).length≤140737488355328) :
 Calls Tryz.prog 128 #[.slice (some ⟨bk,o,none⟩) xs.length c,.string sep] w fun e w'=>e=.returned (.string ⟨(Lib.join (xs.map (·.data.toList)) sep.data.toList).toArray⟩)∧Below w.heap.size w w':=Any.strings_Join Tryz.lays156 Tryz.Builder_Extra_156 bk o c xs sep w hcells hbk hN hcap hlen
def Tryz.lays121_ren:Go.Shelf.Ren:=⟨fun | 121=>44 | 214=>85 | n=>n,fun | 4=>4 | 9=>9 | n=>n,fun | n=>n⟩
theorem Tryz.lays121:Go.Proofs.Lays.n121 Tryz.prog Tryz.lays121_ren:={
 mixed:=by kernel_rfl
 f121:=Tryz.func44.trans (congrArg some (by kernel_rfl))
 f214:=Tryz.func85.trans (congrArg some (by kernel_rfl))
 t4:=Tryz.underlying4
 a4:=Tryz.isAgg4
 z4:=Tryz.sizeOf4
 v4:=Tryz.zeroValue4
 t9:=Tryz.underlying9
 a9:=Tryz.isAgg9
 z9:=Tryz.sizeOf9
 v9:=Tryz.zeroValue9 }
open Go.RowKit in
theorem Tryz.strconv_FormatBool (b:Bool) (w:World) :
 Calls Tryz.prog 44 #[.bool b] w fun e w'=>e=.returned (.string ⟨(Lib.formatBool b).toArray⟩)∧w'=w:=Any.strconv_FormatBool Tryz.lays121 b w
def Tryz.laysM171_ren:Go.Shelf.Ren:=⟨fun | 171=>45 | 243=>86 | 246=>127 | 283=>151 | 284=>152 | 285=>153 | 286=>154 | 129=>165 | 317=>164 | 318=>166 | 319=>167 | 320=>168 | 337=>178 | 338=>179 | n=>n,fun | 3=>3 | 9=>9 | 2=>2 | 4=>4 | 171=>249 | 0=>0 | 53=>250 | 37=>40 | 5=>5 | 173=>253 | 212=>261 | 51=>262 | 20=>20 | 213=>263 | 46=>265 | 232=>275 | 233=>276 | n=>n,fun | 17=>4 | 18=>5 | 19=>6 | n=>n⟩
theorem Tryz.laysM171:Go.Proofs.LaysM.n171 Tryz.prog Tryz.laysM171_ren:={
 mixed:=by kernel_rfl
 f129:=Tryz.func165.trans (congrArg some (by kernel_rfl))
 f171:=Tryz.func45.trans (congrArg some (by kernel_rfl))
 f243:=Tryz.func86.trans (congrArg some (by kernel_rfl))
 f246:=Tryz.func127.trans (congrArg some (by kernel_rfl))
 f283:=Tryz.func151.trans (congrArg some (by kernel_rfl))
 f284:=Tryz.func152.trans (congrArg some (by kernel_rfl))
 f285:=Tryz.func153.trans (congrArg some (by kernel_rfl))
 f286:=Tryz.func154.trans (congrArg some (by kernel_rfl))
 f317:=Tryz.func164.trans (congrArg some (by kernel_rfl))
 f318:=Tryz.func166.trans (congrArg some (by kernel_rfl))
 f319:=Tryz.func167.trans (congrArg some (by kernel_rfl))
 f320:=Tryz.func168.trans (congrArg some (by kernel_rfl))
 f337:=Tryz.func178.trans (congrArg some (by kernel_rfl))
 f338:=Tryz.func179.trans (congrArg some (by kernel_rfl))
 t0:=Tryz.underlying0
 a0:=Tryz.isAgg0
 z0:=Tryz.sizeOf0
 v0:=Tryz.zeroValue0
 t2:=Tryz.underlying2
 a2:=Tryz.isAgg2
 z2:=Tryz.sizeOf2
 v2:=Tryz.zeroValue2
 t3:=Tryz.underlying3
 a3:=Tryz.isAgg3
 z3:=Tryz.sizeOf3
 v3:=Tryz.zeroValue3
 t4:=Tryz.underlying4
 a4:=Tryz.isAgg4
 z4:=Tryz.sizeOf4
 v4:=Tryz.zeroValue4
 t5:=Tryz.underlying5
 a5:=Tryz.isAgg5
 z5:=Tryz.sizeOf5
 v5:=Tryz.zeroValue5
 t9:=Tryz.underlying9
 a9:=Tryz.isAgg9
 z9:=Tryz.sizeOf9
 v9:=Tryz.zeroValue9
 t20:=Tryz.underlying20
 a20:=Tryz.isAgg20
 z20:=Tryz.sizeOf20
 v20:=Tryz.zeroValue20
 t37:=Tryz.underlying40
 a37:=Tryz.isAgg40
 z37:=Tryz.sizeOf40
 v37:=Tryz.zeroValue40
 t46:=Tryz.underlying265
 a46:=Tryz.isAgg265
 z46:=Tryz.sizeOf265
 v46:=Tryz.zeroValue265
 t51:=Tryz.underlying262
 a51:=Tryz.isAgg262
 z51:=Tryz.sizeOf262
 v51:=Tryz.zeroValue262
 t53:=Tryz.underlying250
 a53:=Tryz.isAgg250
 z53:=Tryz.sizeOf250
 v53:=Tryz.zeroValue250
 t171:=Tryz.underlying249
 a171:=Tryz.isAgg249
 z171:=Tryz.sizeOf249
 v171:=Tryz.zeroValue249
 t173:=Tryz.underlying253
 a173:=Tryz.isAgg253
 z173:=Tryz.sizeOf253
 v173:=Tryz.zeroValue253
 t212:=Tryz.underlying261
 a212:=Tryz.isAgg261
 z212:=Tryz.sizeOf261
 v212:=Tryz.zeroValue261
 t213:=Tryz.underlying263
 a213:=Tryz.isAgg263
 z213:=Tryz.sizeOf263
 t232:=Tryz.underlying275
 a232:=Tryz.isAgg275
 z232:=Tryz.sizeOf275
 v232:=Tryz.zeroValue275
 t233:=Tryz.underlying276
 a233:=Tryz.isAgg276
 z233:=Tryz.sizeOf276
 v233:=Tryz.zeroValue276
 g17:=by kernel_rfl
 g18:=by kernel_rfl
 g19:=by kernel_rfl
 i0:=by kernel_rfl
 i2:=by kernel_rfl
 i3:=by kernel_rfl
 i4:=by kernel_rfl
 i5:=by kernel_rfl
 i9:=by kernel_rfl
 i20:=by kernel_rfl
 i37:=by kernel_rfl
 i46:=by kernel_rfl
 i51:=by kernel_rfl
 i53:=by kernel_rfl
 i171:=by kernel_rfl
 i173:=by kernel_rfl
 i212:=by kernel_rfl
 i232:=by kernel_rfl
 i233:=by kernel_rfl
 m17:=by kernel_rfl
 m18:=by kernel_rfl
 m19:=by kernel_rfl }
open Go.RowKit Go.Sort Go.Lib in
theorem Tryz.strconv_Itoa (n:Int) (h0:-9223372036854775808≤n) (h1:n≤9223372036854775807) (w:World) (htab:Lib.TabIs Tryz.prog w "internal/strconv.uint64pow10" .u64 Lib.pow10Tab) :
 Calls Tryz.prog 45 #[.int .i64 n] w fun e w'=>e=.returned (.string ⟨(Lib.itoa n).toArray⟩)∧∃ k os,w'=grow (w.drewN k) os:=Any.strconv_Itoa Tryz.laysM171 n h0 h1 w htab
def Tryz.laysM173_ren:Go.Shelf.Ren:=⟨fun | 173=>87 | 246=>127 | 283=>151 | 284=>152 | 285=>153 | 286=>154 | 129=>165 | 317=>164 | 318=>166 | 319=>167 | 320=>168 | 337=>178 | 338=>179 | n=>n,fun | 2=>2 | 3=>3 | 9=>9 | 4=>4 | 171=>249 | 0=>0 | 53=>250 | 37=>40 | 5=>5 | 173=>253 | 212=>261 | 51=>262 | 20=>20 | 213=>263 | 46=>265 | 232=>275 | 233=>276 | n=>n,fun | 17=>4 | 18=>5 | 19=>6 | n=>n⟩
theorem Tryz.laysM173:Go.Proofs.LaysM.n173 Tryz.prog Tryz.laysM173_ren:={
 mixed:=by kernel_rfl
 f129:=Tryz.func165.trans (congrArg some (by kernel_rfl))
 f173:=Tryz.func87.trans (congrArg some (by kernel_rfl))
 f246:=Tryz.func127.trans (congrArg some (by kernel_rfl))
 f283:=Tryz.func151.trans (congrArg some (by kernel_rfl))
 f284:=Tryz.func152.trans (congrArg some (by kernel_rfl))
 f285:=Tryz.func153.trans (congrArg some (by kernel_rfl))
 f286:=Tryz.func154.trans (congrArg some (by kernel_rfl))
 f317:=Tryz.func164.trans (congrArg some (by kernel_rfl))
 f318:=Tryz.func166.trans (congrArg some (by kernel_rfl))
 f319:=Tryz.func167.trans (congrArg some (by kernel_rfl))
 f320:=Tryz.func168.trans (congrArg some (by kernel_rfl))
 f337:=Tryz.func178.trans (congrArg some (by kernel_rfl))
 f338:=Tryz.func179.trans (congrArg some (by kernel_rfl))
 t0:=Tryz.underlying0
 a0:=Tryz.isAgg0
 z0:=Tryz.sizeOf0
 v0:=Tryz.zeroValue0
 t2:=Tryz.underlying2
 a2:=Tryz.isAgg2
 z2:=Tryz.sizeOf2
 v2:=Tryz.zeroValue2
 t3:=Tryz.underlying3
 a3:=Tryz.isAgg3
 z3:=Tryz.sizeOf3
 v3:=Tryz.zeroValue3
 t4:=Tryz.underlying4
 a4:=Tryz.isAgg4
 z4:=Tryz.sizeOf4
 v4:=Tryz.zeroValue4
 t5:=Tryz.underlying5
 a5:=Tryz.isAgg5
 z5:=Tryz.sizeOf5
 v5:=Tryz.zeroValue5
 t9:=Tryz.underlying9
 a9:=Tryz.isAgg9
 z9:=Tryz.sizeOf9
 v9:=Tryz.zeroValue9
 t20:=Tryz.underlying20
 a20:=Tryz.isAgg20
 z20:=Tryz.sizeOf20
 v20:=Tryz.zeroValue20
 t37:=Tryz.underlying40
 a37:=Tryz.isAgg40
 z37:=Tryz.sizeOf40
 v37:=Tryz.zeroValue40
 t46:=Tryz.underlying265
 a46:=Tryz.isAgg265
 z46:=Tryz.sizeOf265
 v46:=Tryz.zeroValue265
 t51:=Tryz.underlying262
 a51:=Tryz.isAgg262
 z51:=Tryz.sizeOf262
 v51:=Tryz.zeroValue262
 t53:=Tryz.underlying250
 a53:=Tryz.isAgg250
 z53:=Tryz.sizeOf250
 v53:=Tryz.zeroValue250
 t171:=Tryz.underlying249
 a171:=Tryz.isAgg249
 z171:=Tryz.sizeOf249
 v171:=Tryz.zeroValue249
 t173:=Tryz.underlying253
 a173:=Tryz.isAgg253
 z173:=Tryz.sizeOf253
 v173:=Tryz.zeroValue253
 t212:=Tryz.underlying261
 a212:=Tryz.isAgg261
 z212:=Tryz.sizeOf261
 v212:=Tryz.zeroValue261
 t213:=Tryz.underlying263
 a213:=Tryz.isAgg263
 z213:=Tryz.sizeOf263
 t232:=Tryz.underlying275
 a232:=Tryz.isAgg275
 z232:=Tryz.sizeOf275
 v232:=Tryz.zeroValue275
 t233:=Tryz.underlying276
 a233:=Tryz.isAgg276
 z233:=Tryz.sizeOf276
 v233:=Tryz.zeroValue276
 g17:=by kernel_rfl
 g18:=by kernel_rfl
 g19:=by kernel_rfl
 i0:=by kernel_rfl
 i2:=by kernel_rfl
 i3:=by kernel_rfl
 i4:=by kernel_rfl
 i5:=by kernel_rfl
 i9:=by kernel_rfl
 i20:=by kernel_rfl
 i37:=by kernel_rfl
 i46:=by kernel_rfl
 i51:=by kernel_rfl
 i53:=by kernel_rfl
 i171:=by kernel_rfl
 i173:=by kernel_rfl
 i212:=by kernel_rfl
 i232:=by kernel_rfl
 i233:=by kernel_rfl
 m17:=by kernel_rfl
 m18:=by kernel_rfl
 m19:=by kernel_rfl }
open Go.RowKit Go.Sort Go.Lib in
theorem Tryz.strconv_FormatInt_10 (n:Int) (h0:-9223372036854775808≤n) (h1:n≤9223372036854775807) (w:World) (htab:Lib.TabIs Tryz.prog w "internal/strconv.uint64pow10" .u64 Lib.pow10Tab) :
 Calls Tryz.prog 87 #[.int .i64 n,.int .i64 10] w fun e w'=>e=.returned (.string ⟨(Lib.itoa n).toArray⟩)∧∃ k os,w'=grow (w.drewN k) os:=Any.strconv_FormatInt_10 Tryz.laysM173 n h0 h1 w htab
end Go.Proofs
namespace Go.Proofs.YthhoebdlfjffkaaGreatDoor
open Go.RowKit Go.Par Go.Sx
theorem Fx.call87:aM Tryz.prog 87=Bool.true:=by kernel_rfl
theorem Fx.call170:aM Tryz.prog 170=Bool.true:=by kernel_rfl
theorem Fx.call181:aM Tryz.prog 181=Bool.true:=by kernel_rfl
theorem Fx.field137_2:aN Tryz.prog 137 2=some 2:=by kernel_rfl
theorem Fx.field137_3:aN Tryz.prog 137 3=some 3:=by kernel_rfl
def Gt (H:Hp):Prop:=∀ W,Agr H W→Lib.TabIs Tryz.prog W "internal/strconv.uint64pow10" .u64 Lib.pow10Tab
theorem Gt.up {H H':Hp} (g:Gt H) (u:Up H H'):Gt H':=fun W a=>g W fun b o e=>a b o (u b o e)
theorem DL {w:World} (os:Array Obj):Ext w (Sort.grow w os) :=
 Ext.of_below ⟨rfl,rfl,rfl,by simp [Sort.grow],fun k hk=>by simp [Sort.grow,Array.getElem?_append,hk]⟩
theorem pT (H:Hp) (g:Gt H) (n:Int64) (w:World) (hA:Agr H w):Calls Tryz.prog 87 #[.int .i64 n.toInt,.int .i64 10] w fun r w'=>r=.returned (aB (Lib.itoa n.toInt))∧Ext w w' :=
 (Tryz.strconv_FormatInt_10 n.toInt (by have:=n.le_toInt;omega) (by have:=n.toInt_lt;omega) w (g w hA)).mono fun _ _ ⟨he,k,os,hw⟩=>⟨he,hw ▸ ((Ext.refl w).drewN k).trans (DL os)⟩
def PM (H:Hp) (e:Ex):Prop:=∀ (cs:List Value) (w:World),Rep H (dEx .u8 e) cs→Ex.all dO e=true→e.text.length≤1000000000→Agr H w →
 Calls Tryz.prog 170 #[.agg cs.toArray] w fun r w'=>r=.returned (aB e.text)∧Ext w w'
theorem nQ (H:Hp) (G:Gl H) (e:Ex) (ht:PM H e) (cs:List Value) (h:Rep H (dEx .u8 e) cs) (hf:Ex.all dO e=true) (hl:e.text.length≤1000000000) (k:Nat) (w:World) (hA:Agr H w) :
 Calls Tryz.prog 181 #[.agg cs.toArray,.int .i64 (k:Nat)] w fun r w'=>r=.returned (aB (opT k ((aH e.op).lv,e.text)))∧Ext w w':=by
 obtain ⟨op,nm,nn,args⟩:=e;obtain ⟨p,c,rfl,hs,hnm⟩:=bZ h;refine Sx.enter (H:=H) Tryz.func181 rfl Tryz.ntmps181 rfl hA ?_;refine .sr<|.bx Z Z Z fun b2=>.a Z Z<|.nt<|.sq<|.sr<|.yw (.fieldAddr Z Fx.field27_0)<|.yw (.load Z Fx.agg24 (.head _) Z)<|.yw (.call Fx.call57 Z (fun W s=>oL H G op W s.agr))<|.mv Z<|.yw (.extract Z Z)<|.yw (.extract Z Z)<|.al Fx.zero137 Z fun b5=>.sV .head Z Z Fx.size137 Z (by simp [jH,Value.oneCell',aB]) Z<|.a Z Z<|.ns<|.yw (.fieldAddr Z Fx.field137_2)<|.yw (.load Z Fx.agg3 (.head _) Z)<|.mv Z<|.yw (.lss Z Z)<|.nt<|.cd Z (fun h16=>?_) (fun h16=>?_)
 ·try simp only [dt] at h16
  refine .sr<|.yw (.loadW Z Fx.agg27 aW Z)<|.yw (.call Fx.call170 Z (fun W s=>ht _ W h hf hl s.agr))<|.yw (.app Z Z (by simp;omega))<|.yw (.app Z Z (by simp;omega))<|.a Z Z<|.nt<|.rt<|.tR<|?_
  refine Sx.ret1 (.inl rfl) rfl (.tmp rfl) fun W s=>⟨?_,s.ext⟩
  first
   | (rw [opT,if_pos (by show (aH op).lv<k;omega)] <;> rfl)
   | (rw [opT,if_neg (by show ¬ (aH op).lv<k;omega)] <;> rfl)
 try simp only [df] at h16
 refine .sk<|.tN<|.sr<|.yw (.loadW Z Fx.agg27 aW Z)<|.yw (.call Fx.call170 Z (fun W s=>ht _ W h hf hl s.agr))<|.a Z Z<|.nt<|.rt<|?_
 refine Sx.ret1 (.inl rfl) rfl (.tmp rfl) fun W s=>⟨?_,s.ext⟩
 first
  | (rw [opT,if_pos (by show (aH op).lv<k;omega)] <;> rfl)
  | (rw [opT,if_neg (by show ¬ (aH op).lv<k;omega)] <;> rfl)
theorem mM {q:Ex→Bool} {l:List Ex} {k:Nat} (h:k<l.length) (ha:Ex.alls q l=true):Ex.all q l[k]=true:=by
 cases hb:Ex.all q l[k] with
 | true=>rfl
 | false=>rw [mQ h hb] at ha;cases ha
theorem LR (H:Hp) (G:Gl H) (g:Gt H) (e:Ex):PM H e:=by
 induction e using Ex.ind with | _ op nm nn args ih
 intro cs w h hf hl hA;obtain ⟨p,c,rfl,hs,hnm⟩:=bZ h;rw [eR,Bool.and_eq_true] at hf;obtain ⟨hf1,hf2⟩:=hf;simp only [dO,Bool.and_eq_true,decide_eq_true_eq] at hf1;obtain ⟨⟨⟨hok,har⟩,_⟩,_⟩:=hf1;refine Sx.enter (H:=H) Tryz.func170 rfl Tryz.ntmps170 rfl hA ?_;refine .sr<|.bx Z Z Z fun b1=>.a Z Z<|.ns<|.yw (.fieldAddr Z Fx.field27_0)<|.yw (.load Z Fx.agg24 (.head _) Z)<|.yw (.call Fx.call57 Z (fun W s=>oL H G op W s.agr))<|.mv Z<|.yw (.extract Z Z)<|.yw (.extract Z Z)<|.al Fx.zero137 Z fun b3=>.sV .head Z Z Fx.size137 Z (by simp [jH,Value.oneCell',aB]) Z<|.a Z Z<|.nt<|.sq<|.sr<|.yw (.fieldAddr Z Fx.field27_0)<|.yw (.load Z Fx.agg24 aW Z)<|.nt<|.bk<|.sr<|.yw (.eql Z Z)<|.a Z Z<|.nt<|.cd Z (fun h14=>?_) (fun h14=>?_)
 ·try simp only [dt] at h14
  have e1:op=1:=UInt8.toNat_inj.1 (by show op.toNat=1;omega);refine .sr<|.yw (.fieldAddr Z Fx.field27_2)<|.yw (.load Z Fx.agg2 aW Z)<|.yw (.call Fx.call87 Z (fun W s=>pT H g nn W s.agr))<|.a Z Z<|.nt<|.rt<|.bR<|.tR<|?_
  refine Sx.ret1 (.inl rfl) rfl (.tmp rfl) fun W s=>⟨?_,s.ext⟩
  first
   | (rw [bC,txt,if_pos e1] <;> rfl)
   | (rw [bC,txt,if_neg e1,if_pos q2] <;> rfl)
   | (rw [bC,txt,if_neg e1,if_neg q2,if_pos q3,cW h0] <;> rfl)
   | (rw [bC,txt,if_neg e1,if_neg q2,if_neg q3,if_pos q4,cW h0] <;> rfl)
   | (rw [bC,txt,if_neg e1,if_neg q2,if_neg q3,if_neg q4,if_pos q5] <;> rfl)
   | (rw [bC,txt,if_neg e1,if_neg q2,if_neg (not_or.2 q3),if_neg (not_or.2 q4),if_neg q5,cW h0,cW h1] <;> rfl)
 try simp only [df] at h14
 have e1:¬ op=1:=fun e=>h14 (by rw [e];rfl);refine .cu (X:=Bool) [(1,_),(3,_),(13,_)] ⟨rfl,rfl,rfl,trivial⟩ (fun z=>[(19,.bool z)]) (fun z=>H) (fun z=>[.box b3 (jH (aH op)) 137,.box b1 [.int .u8 op.toNat,aB nm,.int .i64 nn.toInt,.slice p args.length c] 27]) (fun z=>z=decide (op=5∨op=8)) ?_ fun z hC=>?_
 ·
  refine .sr<|.yw (.eql Z Z)<|.a Z Z<|.nt<|.cd Z (fun h19=>?_) (fun h19=>?_)
  ·skip
   exact .sk<|.tN<|.me _ ⟨rfl,trivial⟩ ⟨rfl,rfl,rfl,trivial⟩ (fun _ s=>s) (by rw [Bool.eq_iff_iff];simp only [decide_eq_true_eq,← UInt8.toNat_inj,show (UInt8.toNat 5)=5 from Z,show (UInt8.toNat 8)=8 from Z];(try simp only [decide_eq_true_eq,decide_eq_false_iff_not] at *);omega)
  skip
  exact .rg<|.yw (.eql Z Z)<|.a Z Z<|.nt<|.me _ ⟨rfl,trivial⟩ ⟨rfl,rfl,rfl,trivial⟩ (fun _ s=>s) (by rw [Bool.eq_iff_iff];simp only [decide_eq_true_eq,← UInt8.toNat_inj,show (UInt8.toNat 5)=5 from Z,show (UInt8.toNat 8)=8 from Z];(try simp only [decide_eq_true_eq,decide_eq_false_iff_not] at *);omega)
 have e2:=hC;refine .cd Z (fun h19=>?_) (fun h19=>?_)
 ·have q2:op=5∨op=8:=by rw [h19] at e2;simpa using e2.symm
  have ht:=lW op;refine .sr<|.yw (.fieldAddr Z Fx.field137_3)<|.yw (.load Z Fx.agg9 (.head _) Z)<|.yw (.fieldAddr Z Fx.field27_1)<|.yw (.load Z Fx.agg9 aW Z)<|.yw (.app Z Z (by (try simp only [List.length_append,List.length_cons,List.length_nil]);omega))<|.a Z Z<|.nt<|.rt<|.bR<|.tR<|?_
  refine Sx.ret1 (.inl rfl) rfl (.tmp rfl) fun W s=>⟨?_,s.ext⟩
  first
   | (rw [bC,txt,if_pos e1] <;> rfl)
   | (rw [bC,txt,if_neg e1,if_pos q2] <;> rfl)
   | (rw [bC,txt,if_neg e1,if_neg q2,if_pos q3,cW h0] <;> rfl)
   | (rw [bC,txt,if_neg e1,if_neg q2,if_neg q3,if_pos q4,cW h0] <;> rfl)
   | (rw [bC,txt,if_neg e1,if_neg q2,if_neg q3,if_neg q4,if_pos q5] <;> rfl)
   | (rw [bC,txt,if_neg e1,if_neg q2,if_neg (not_or.2 q3),if_neg (not_or.2 q4),if_neg q5,cW h0,cW h1] <;> rfl)
 have q2:¬ (op=5∨op=8):=by rw [h19] at e2;simpa using e2.symm
 refine .cu (X:=Bool) [(1,_),(3,_),(13,_)] ⟨rfl,rfl,rfl,trivial⟩ (fun z=>[(27,.bool z)]) (fun z=>H) (fun z=>[.box b3 (jH (aH op)) 137,.box b1 [.int .u8 op.toNat,aB nm,.int .i64 nn.toInt,.slice p args.length c] 27]) (fun z=>z=decide (op=6∨op=7)) ?_ fun z hC=>?_
 ·
  refine .sr<|.yw (.eql Z Z)<|.a Z Z<|.nt<|.cd Z (fun h27=>?_) (fun h27=>?_)
  ·skip
   exact .sk<|.tN<|.me _ ⟨rfl,trivial⟩ ⟨rfl,rfl,rfl,trivial⟩ (fun _ s=>s) (by rw [Bool.eq_iff_iff];simp only [decide_eq_true_eq,← UInt8.toNat_inj,show (UInt8.toNat 6)=6 from Z,show (UInt8.toNat 7)=7 from Z];(try simp only [decide_eq_true_eq,decide_eq_false_iff_not] at *);omega)
  skip
  exact .rg<|.yw (.eql Z Z)<|.a Z Z<|.nt<|.me _ ⟨rfl,trivial⟩ ⟨rfl,rfl,rfl,trivial⟩ (fun _ s=>s) (by rw [Bool.eq_iff_iff];simp only [decide_eq_true_eq,← UInt8.toNat_inj,show (UInt8.toNat 6)=6 from Z,show (UInt8.toNat 7)=7 from Z];(try simp only [decide_eq_true_eq,decide_eq_false_iff_not] at *);omega)
 have e3:=hC;refine .cd Z (fun h27=>?_) (fun h27=>?_)
 ·have q3:op=6∨op=7:=by rw [h27] at e3;simpa using e3.symm
  have ht:=lW op;have hn1:(aH op).n=1:=by rcases q3 with rfl | rfl <;> decide
  have h0:0<args.length:=by omega
  obtain ⟨b0,o0,c0,hp0,r0,l0,m0⟩:=hs.elem (bB h0);cases hp0;have hf0:=mM h0 hf2;rw [bC,txt,if_neg e1,if_neg q2,if_pos q3,cW h0] at hl;simp only [List.length_append,List.length_cons,List.length_nil] at hl;refine .sq<|.fL 13 [(0,0),(1,0),(2,0),(3,0),(4,0),(5,0),(6,0),(7,0),(8,0),(9,0),(10,0),(11,0),(12,0)]<|.yw (.fieldAddr Z Fx.field137_3)<|.yw (.load Z Fx.agg9 (.head _) Z)<|.yw (.fieldAddr Z Fx.field27_1)<|.yw (.load Z Fx.agg9 aW Z)<|.yw (.app Z Z (by (try simp only [List.length_append,List.length_cons,List.length_nil]);omega))<|.yw (.app Z Z (by (try simp only [List.length_append,List.length_cons,List.length_nil]);omega))<|.yw (.fieldAddr Z Fx.field27_3)<|.yw (.load Z Fx.agg25 aW Z)<|.yw (.indexSl Fx.sl25 Z Z (i:=0) Z (by omega) (q:=o0+0 * 4) Z)<|.yw (.loadMW Z Fx.agg27 m0 l0)<|.yw (.call Fx.call170 Z (fun W s=>ih _ (List.getElem_mem h0) _ W r0 hf0 (by omega) s.agr))<|.yw (.app Z Z (by (try simp only [List.length_append,List.length_cons,List.length_nil]);omega))<|.yw (.app Z Z (by (try simp only [List.length_append,List.length_cons,List.length_nil]);omega))<|.fn (tl:=[_]) Z<|.a Z Z<|.nt<|.rt<|.bR<|.tR<|?_
  refine Sx.ret1 (.inl rfl) rfl (.tmp rfl) fun W s=>⟨?_,s.ext⟩
  first
   | (rw [bC,txt,if_pos e1] <;> rfl)
   | (rw [bC,txt,if_neg e1,if_pos q2] <;> rfl)
   | (rw [bC,txt,if_neg e1,if_neg q2,if_pos q3,cW h0] <;> rfl)
   | (rw [bC,txt,if_neg e1,if_neg q2,if_neg q3,if_pos q4,cW h0] <;> rfl)
   | (rw [bC,txt,if_neg e1,if_neg q2,if_neg q3,if_neg q4,if_pos q5] <;> rfl)
   | (rw [bC,txt,if_neg e1,if_neg q2,if_neg (not_or.2 q3),if_neg (not_or.2 q4),if_neg q5,cW h0,cW h1] <;> rfl)
 have q3:¬ (op=6∨op=7):=by rw [h27] at e3;simpa using e3.symm
 refine .cu (X:=Bool) [(1,_),(3,_)] ⟨rfl,rfl,trivial⟩ (fun z=>[(43,.bool z)]) (fun z=>H) (fun z=>[.box b3 (jH (aH op)) 137,.box b1 [.int .u8 op.toNat,aB nm,.int .i64 nn.toInt,.slice p args.length c] 27]) (fun z=>z=decide (op=9∨op=10)) ?_ fun z hC=>?_
 ·
  refine .sr<|.yw (.eql Z Z)<|.a Z Z<|.nt<|.cd Z (fun h43=>?_) (fun h43=>?_)
  ·skip
   exact .sk<|.tN<|.me _ ⟨rfl,trivial⟩ ⟨rfl,rfl,trivial⟩ (fun _ s=>s) (by rw [Bool.eq_iff_iff];simp only [decide_eq_true_eq,← UInt8.toNat_inj,show (UInt8.toNat 9)=9 from Z,show (UInt8.toNat 10)=10 from Z];(try simp only [decide_eq_true_eq,decide_eq_false_iff_not] at *);omega)
  skip
  exact .rg<|.yw (.eql Z Z)<|.a Z Z<|.nt<|.me _ ⟨rfl,trivial⟩ ⟨rfl,rfl,trivial⟩ (fun _ s=>s) (by rw [Bool.eq_iff_iff];simp only [decide_eq_true_eq,← UInt8.toNat_inj,show (UInt8.toNat 9)=9 from Z,show (UInt8.toNat 10)=10 from Z];(try simp only [decide_eq_true_eq,decide_eq_false_iff_not] at *);omega)
 have e4:=hC;refine .cd Z (fun h43=>?_) (fun h43=>?_)
 ·have q4:op=9∨op=10:=by rw [h43] at e4;simpa using e4.symm
  have ht:=lW op;have hn1:(aH op).n=1:=by rcases q4 with rfl | rfl <;> decide
  have h0:0<args.length:=by omega
  obtain ⟨b0,o0,c0,hp0,r0,l0,m0⟩:=hs.elem (bB h0);cases hp0;have hf0:=mM h0 hf2;rw [bC,txt,if_neg e1,if_neg q2,if_neg q3,if_pos q4,cW h0] at hl;simp only [List.length_append] at hl;have ho:=kG (aH op).lv ((aH args[0].op).lv,args[0].text);dsimp only at ho;refine .sq<|.fL 10 [(0,0),(1,0),(2,0),(3,0),(4,0),(5,0),(6,0),(7,0),(8,0),(9,0)]<|.yw (.fieldAddr Z Fx.field137_3)<|.yw (.load Z Fx.agg9 (.head _) Z)<|.yw (.fieldAddr Z Fx.field27_3)<|.yw (.load Z Fx.agg25 aW Z)<|.yw (.indexSl Fx.sl25 Z Z (i:=0) Z (by omega) (q:=o0+0 * 4) Z)<|.yw (.loadMW Z Fx.agg27 m0 l0)<|.yw (.fieldAddr Z Fx.field137_2)<|.yw (.load Z Fx.agg3 (.head _) Z)<|.yw (.call Fx.call181 Z (fun W s=>nQ H G _ (ih _ (List.getElem_mem h0)) _ r0 hf0 (by omega) (aH op).lv W s.agr))<|.yw (.app Z Z (by (try simp only [List.length_append,List.length_cons,List.length_nil]);omega))<|.fn (tl:=[_]) Z<|.a Z Z<|.nt<|.rt<|.bR<|.tR<|?_
  refine Sx.ret1 (.inl rfl) rfl (.tmp rfl) fun W s=>⟨?_,s.ext⟩
  first
   | (rw [bC,txt,if_pos e1] <;> rfl)
   | (rw [bC,txt,if_neg e1,if_pos q2] <;> rfl)
   | (rw [bC,txt,if_neg e1,if_neg q2,if_pos q3,cW h0] <;> rfl)
   | (rw [bC,txt,if_neg e1,if_neg q2,if_neg q3,if_pos q4,cW h0] <;> rfl)
   | (rw [bC,txt,if_neg e1,if_neg q2,if_neg q3,if_neg q4,if_pos q5] <;> rfl)
   | (rw [bC,txt,if_neg e1,if_neg q2,if_neg (not_or.2 q3),if_neg (not_or.2 q4),if_neg q5,cW h0,cW h1] <;> rfl)
 have q4:¬ (op=9∨op=10):=by rw [h43] at e4;simpa using e4.symm
 refine .sk<|.bN<|.tN<|.sq<|.sr<|.yw (.fieldAddr Z Fx.field137_0)<|.yw (.load Z Fx.agg3 (.head _) Z)<|.yw (.eql Z Z)<|.nt<|.cd Z (fun h58=>?_) (fun h58=>?_)
 ·try simp only [dt] at h58
  have q5:(aH op).n=0:=by omega
  refine .sr<|.yw (.fieldAddr Z Fx.field137_3)<|.yw (.load Z Fx.agg9 (.head _) Z)<|.a Z Z<|.nt<|.rt<|.tR<|?_
  refine Sx.ret1 (.inl rfl) rfl (.tmp rfl) fun W s=>⟨?_,s.ext⟩
  first
   | (rw [bC,txt,if_pos e1] <;> rfl)
   | (rw [bC,txt,if_neg e1,if_pos q2] <;> rfl)
   | (rw [bC,txt,if_neg e1,if_neg q2,if_pos q3,cW h0] <;> rfl)
   | (rw [bC,txt,if_neg e1,if_neg q2,if_neg q3,if_pos q4,cW h0] <;> rfl)
   | (rw [bC,txt,if_neg e1,if_neg q2,if_neg q3,if_neg q4,if_pos q5] <;> rfl)
   | (rw [bC,txt,if_neg e1,if_neg q2,if_neg (not_or.2 q3),if_neg (not_or.2 q4),if_neg q5,cW h0,cW h1] <;> rfl)
 try simp only [df] at h58
 have q5:¬ (aH op).n=0:=by omega
 have ht:=lW op;have hlv:=MB op;simp only [not_or] at q3 q4;have hn2:(aH op).n=2:=(QI hok q3.1 q3.2 q4.1 q4.2).resolve_left q5;have h0:0<args.length:=by omega
 obtain ⟨b0,o0,c0,hp0,r0,l0,m0⟩:=hs.elem (bB h0);cases hp0;have hf0:=mM h0 hf2;have h1:1<args.length:=by omega
 obtain ⟨b1x,o1,c1,hp1,r1,l1,m1⟩:=hs.elem (bB h1);cases hp1;have hf1:=mM h1 hf2;rw [bC,txt,if_neg e1,if_neg q2,if_neg (not_or.2 q3),if_neg (not_or.2 q4),if_neg q5,cW h0,cW h1] at hl;simp only [List.length_append] at hl;have ho:=kG (pK (aH op).lv) ((aH args[0].op).lv,args[0].text);have ho1:=kG ((aH op).lv+1) ((aH args[1].op).lv,args[1].text);dsimp only at ho ho1;refine .sk<|.tN<|.sr<|.yw (.fieldAddr Z Fx.field137_2)<|.yw (.load Z Fx.agg3 (.head _) Z)<|.a Z Z<|.nt<|.cu (X:=Unit) [(1,_),(3,_)] ⟨rfl,rfl,trivial⟩ (fun z=>[(5,.int .i64 (pK (aH op).lv:Nat))]) (fun z=>H) (fun z=>[.box b3 (jH (aH op)) 137,.box b1 [.int .u8 op.toNat,aB nm,.int .i64 nn.toInt,.slice (some ⟨b0,o0,none⟩) args.length c] 27]) (fun z=>True) ?_ fun z hC=>?_
 ·
  refine .sr<|.mv Z<|.yw (.eql Z Z)<|.nt<|.cd Z (fun h64=>?_) (fun h64=>?_)
  ·try simp only [dt] at h64
   exact .rg<|.mv Z<|.yw (.add Z Z (w6 (by omega)))<|.a Z Z<|.nt<|.me () ⟨(by first | (rw [pK,if_pos (by omega)];rfl) | (rw [pK,if_neg (by omega)];rfl)),trivial⟩ ⟨rfl,rfl,trivial⟩ (fun _ s=>s) trivial
  try simp only [df] at h64
  exact .sk<|.tN<|.me () ⟨(by first | (rw [pK,if_pos (by omega)];rfl) | (rw [pK,if_neg (by omega)];rfl)),trivial⟩ ⟨rfl,rfl,trivial⟩ (fun _ s=>s) trivial
 refine .sq<|.fL 18 [(0,0),(1,0),(2,0),(3,0),(4,0),(5,0),(6,0),(7,0),(8,0),(9,0),(10,0),(11,0),(12,0),(13,0),(14,0),(15,0),(16,0),(17,0)]<|.yw (.fieldAddr Z Fx.field27_3)<|.yw (.load Z Fx.agg25 aW Z)<|.yw (.indexSl Fx.sl25 Z Z (i:=0) Z (by omega) (q:=o0+0 * 4) Z)<|.yw (.loadMW Z Fx.agg27 m0 l0)<|.mv Z<|.yw (.call Fx.call181 Z (fun W s=>nQ H G _ (ih _ (List.getElem_mem h0)) _ r0 hf0 (by omega) (pK (aH op).lv) W s.agr))<|.yw (.fieldAddr Z Fx.field137_3)<|.yw (.load Z Fx.agg9 (.head _) Z)<|.yw (.app Z Z (by (try simp only [List.length_append,List.length_cons,List.length_nil]);omega))<|.yw (.fieldAddr Z Fx.field27_3)<|.yw (.load Z Fx.agg25 aW Z)<|.yw (.indexSl Fx.sl25 Z Z (i:=1) Z (by omega) (q:=o0+1 * 4) Z)<|.yw (.loadMW Z Fx.agg27 m1 l1)<|.yw (.fieldAddr Z Fx.field137_2)<|.yw (.load Z Fx.agg3 (.head _) Z)<|.yw (.add Z Z (w6 (by omega)))<|.yw (.call Fx.call181 Z (fun W s=>nQ H G _ (ih _ (List.getElem_mem h1)) _ r1 hf1 (by omega) ((aH op).lv+1) W s.agr))<|.yw (.app Z Z (by (try simp only [List.length_append,List.length_cons,List.length_nil]);omega))<|.fn (tl:=[_]) Z<|.a Z Z<|.nt<|.rt<|?_
 refine Sx.ret1 (.inl rfl) rfl (.tmp rfl) fun W s=>⟨?_,s.ext⟩
 first
  | (rw [bC,txt,if_pos e1] <;> rfl)
  | (rw [bC,txt,if_neg e1,if_pos q2] <;> rfl)
  | (rw [bC,txt,if_neg e1,if_neg q2,if_pos q3,cW h0] <;> rfl)
  | (rw [bC,txt,if_neg e1,if_neg q2,if_neg q3,if_pos q4,cW h0] <;> rfl)
  | (rw [bC,txt,if_neg e1,if_neg q2,if_neg q3,if_neg q4,if_pos q5] <;> rfl)
  | (rw [bC,txt,if_neg e1,if_neg q2,if_neg (not_or.2 q3),if_neg (not_or.2 q4),if_neg q5,cW h0,cW h1] <;> rfl)
theorem Fx.agg40:dF Tryz.prog 40=some none:=by kernel_rfl
theorem Fx.agg113:dF Tryz.prog 113=some none:=by kernel_rfl
theorem Fx.byt40:HW Tryz.prog 40=some 5:=by kernel_rfl
theorem Fx.call126:aM Tryz.prog 126=Bool.true:=by kernel_rfl
theorem Fx.field115_0:aN Tryz.prog 115 0=some 0:=by kernel_rfl
theorem Fx.field115_1:aN Tryz.prog 115 1=some 1:=by kernel_rfl
theorem Fx.ptr113:ML Tryz.prog 113=some 115:=by kernel_rfl
theorem Fx.pts113:EO Tryz.prog 113=some (115,2):=by kernel_rfl
theorem Fx.pts194:EO Tryz.prog 194=some (5,1):=by kernel_rfl
theorem Fx.row40:gZ Tryz.prog 40=some (5,1,1):=by kernel_rfl
theorem Fx.size40:bL Tryz.prog 40=some 1:=by kernel_rfl
theorem Fx.size113:bL Tryz.prog 113=some 1:=by kernel_rfl
theorem Fx.sl40:slN Tryz.prog 40=some 1:=by kernel_rfl
theorem Fx.uns247:LH Tryz.prog 247=Bool.true:=by kernel_rfl
theorem Fx.bsl40_1 (x0:Int):fB Tryz.prog 40 1 [(0,.int .u8 x0)]=some (5,[.int .u8 x0]):=by kernel_rfl
theorem Fx.call83:aM Tryz.prog 83=Bool.true:=by kernel_rfl
theorem Fx.call84:aM Tryz.prog 84=Bool.true:=by kernel_rfl
theorem Fx.field117_0:aN Tryz.prog 117 0=some 0:=by kernel_rfl
theorem Fx.field117_1:aN Tryz.prog 117 1=some 2:=by kernel_rfl
theorem Fx.call43:aM Tryz.prog 43=Bool.true:=by kernel_rfl
theorem Fx.call129:aM Tryz.prog 129=Bool.true:=by kernel_rfl
theorem Fx.bsl52_1 (x0:ByteArray):fB Tryz.prog 52 1 [(0,.string x0)]=some (9,[.string x0]):=by kernel_rfl
theorem Fx.bsl52_2 (x0:ByteArray) (x1:ByteArray):fB Tryz.prog 52 2 [(0,.string x0),(1,.string x1)]=some (9,[.string x0,.string x1]):=by kernel_rfl
theorem Fx.call128:aM Tryz.prog 128=Bool.true:=by kernel_rfl
theorem Fx.call171:aM Tryz.prog 171=Bool.true:=by kernel_rfl
theorem Fx.row52:gZ Tryz.prog 52=some (9,1,16):=by kernel_rfl
theorem Fx.size9:bL Tryz.prog 9=some 1:=by kernel_rfl
theorem Fx.zero9:dV Tryz.prog 9=some [Go.Value.string { data:={ toList:=[] } }]:=by kernel_rfl
theorem Fx.bsl52_3 (x0:ByteArray) (x1:ByteArray) (x2:ByteArray):fB Tryz.prog 52 3 [(0,.string x0),(1,.string x1),(2,.string x2)]=some (9,[.string x0,.string x1,.string x2]):=by kernel_rfl
theorem Fx.bsl52_4 (x0:ByteArray) (x1:ByteArray) (x2:ByteArray) (x3:ByteArray):fB Tryz.prog 52 4 [(0,.string x0),(1,.string x1),(2,.string x2),(3,.string x3)]=some (9,[.string x0,.string x1,.string x2,.string x3]):=by kernel_rfl
theorem Fx.bsl52_5 (x0:ByteArray) (x1:ByteArray) (x2:ByteArray) (x3:ByteArray) (x4:ByteArray):fB Tryz.prog 52 5 [(0,.string x0),(1,.string x1),(2,.string x2),(3,.string x3),(4,.string x4)]=some (9,[.string x0,.string x1,.string x2,.string x3,.string x4]):=by kernel_rfl
theorem Fx.bsl52_6 (x0:ByteArray) (x1:ByteArray) (x2:ByteArray) (x3:ByteArray) (x4:ByteArray) (x5:ByteArray):fB Tryz.prog 52 6 [(0,.string x0),(1,.string x1),(2,.string x2),(3,.string x3),(4,.string x4),(5,.string x5)]=some (9,[.string x0,.string x1,.string x2,.string x3,.string x4,.string x5]):=by kernel_rfl
theorem Fx.bsl52_7 (x0:ByteArray) (x1:ByteArray) (x2:ByteArray) (x3:ByteArray) (x4:ByteArray) (x5:ByteArray) (x6:ByteArray):fB Tryz.prog 52 7 [(0,.string x0),(1,.string x1),(2,.string x2),(3,.string x3),(4,.string x4),(5,.string x5),(6,.string x6)]=some (9,[.string x0,.string x1,.string x2,.string x3,.string x4,.string x5,.string x6]):=by kernel_rfl
theorem Fx.agg208:dF Tryz.prog 208=some (some 6):=by kernel_rfl
theorem Fx.call156:aM Tryz.prog 156=Bool.true:=by kernel_rfl
theorem Fx.size3:bL Tryz.prog 3=some 1:=by kernel_rfl
theorem Fx.size208:bL Tryz.prog 208=some 6:=by kernel_rfl
theorem Fx.zero208:dV Tryz.prog 208=some
 [Go.Value.int Go.IntKind.u8 (Int.ofNat 0),Go.Value.string { data:={ toList:=[] } },
  Go.Value.string { data:={ toList:=[] } },Go.Value.slice none 0 0,Go.Value.slice none 0 0,
  Go.Value.slice none 0 0]:=by kernel_rfl
theorem Fx.call44:aM Tryz.prog 44=Bool.true:=by kernel_rfl
theorem Fx.call45:aM Tryz.prog 45=Bool.true:=by kernel_rfl
theorem Fx.call88:aM Tryz.prog 88=Bool.true:=by kernel_rfl
theorem Fx.call15:aM Tryz.prog 15=Bool.true:=by kernel_rfl
theorem Fx.call35:aM Tryz.prog 35=Bool.true:=by kernel_rfl
theorem Fx.call46:aM Tryz.prog 46=Bool.true:=by kernel_rfl
theorem Fx.call47:aM Tryz.prog 47=Bool.true:=by kernel_rfl
theorem Fx.field102_1:aN Tryz.prog 102 1=some 1:=by kernel_rfl
theorem Fx.bld117  : bV Tryz.prog 117 []=some [.pointer none,.slice none 0 0,.int .i64 0]:=by kernel_rfl
theorem Fx.agg31:dF Tryz.prog 31=some none:=by kernel_rfl
theorem Fx.agg33:dF Tryz.prog 33=some (some 4):=by kernel_rfl
theorem Fx.call14:aM Tryz.prog 14=Bool.true:=by kernel_rfl
theorem Fx.field33_0:aN Tryz.prog 33 0=some 0:=by kernel_rfl
theorem Fx.field33_1:aN Tryz.prog 33 1=some 1:=by kernel_rfl
theorem Fx.field33_2:aN Tryz.prog 33 2=some 2:=by kernel_rfl
theorem Fx.field33_3:aN Tryz.prog 33 3=some 3:=by kernel_rfl
theorem Fx.int3:vZ Tryz.prog 3=some Go.IntKind.i64:=by kernel_rfl
theorem Fx.int24:vZ Tryz.prog 24=some Go.IntKind.u8:=by kernel_rfl
theorem Fx.row25:gZ Tryz.prog 25=some (27,4,56):=by kernel_rfl
theorem Fx.size25:bL Tryz.prog 25=some 1:=by kernel_rfl
theorem Fx.size33:bL Tryz.prog 33=some 4:=by kernel_rfl
theorem Fx.sl31:slN Tryz.prog 31=some 4:=by kernel_rfl
theorem Fx.zero33:dV Tryz.prog 33=some
 [Go.Value.int Go.IntKind.i64 (Int.ofNat 0),Go.Value.string { data:={ toList:=[] } },
  Go.Value.int Go.IntKind.i64 (Int.ofNat 0),Go.Value.slice none 0 0]:=by kernel_rfl
theorem Fx.bld27_0_1_2 (x0:Int) (x1:ByteArray) (x2:Int):bV Tryz.prog 27 [(0,.int .u8 x0),(1,.string x1),(2,.int .i64 x2)]=some [.int .u8 x0,.string x1,.int .i64 x2,.slice none 0 0]:=by kernel_rfl
theorem Fx.bsl25_1 (x00 x01 x02 x03:Value):fB Tryz.prog 25 1 [(0,.agg [x00,x01,x02,x03].toArray)]=some (27,[x00,x01,x02,x03]):=by kernel_rfl
def VQ (e:Ex):Prop:=Ex.all mW e=true→∀ (H:Hp) (cs:List Value) (w:World),Rep H (dEx .i64 e) cs→Agr H w →
 Calls Tryz.prog 14 #[.agg cs.toArray] w fun r w'=>∃ x H',Rep H' (dEx .u8 e) x∧r=.returned (.agg x.toArray)∧mS H w H' w'
theorem wH (e:Ex):VQ e:=by
 induction e using Ex.ind with | _ op nm nn args ih
 intro hnr H cs w h hA;rw [eR,Bool.and_eq_true,oS,decide_eq_true_eq] at hnr;obtain ⟨p,c,rfl,hs,hnm⟩:=bZ h;have hcap:=hs.cap;have hn3:=hnr.1;refine Sx.enter (H:=H) Tryz.func14 rfl Tryz.ntmps14 rfl hA ?_;refine .sr<|.bx Z Z Z fun b1=>.al Fx.zero27 Z fun b2=>?_
 refine Sx.row0 27 4 ?_;refine .ns<|.yw (.fieldAddr Z Fx.field33_0)<|.yw (.load Z Fx.agg3 cC Z)<|.yw (.conv Z Fx.int3 Fx.int24 (c:=(op.toNat:Nat)) (by have:=op.toNat_lt;simp only [IntKind.wrap,IntKind.signed,IntKind.bits];simp;omega))<|.yw (.fieldAddr Z Fx.field33_1)<|.yw (.load Z Fx.agg9 cC Z)<|.yw (.fieldAddr Z Fx.field33_2)<|.yw (.load Z Fx.agg2 cC Z)<|.yw (.build Z (Fx.bld27_0_1_2 _ _ _))<|.al Fx.zero27 Z fun b3=>.sW .head Z Z Fx.size27 (by simp [Value.oneCell',aB]) Z<|.nt<|.sq<|.sr<|.yw (.fieldAddr Z Fx.field33_3)<|.yw (.load Z Fx.agg31 gN Z)<|.yw (.lenSl Fx.sl31 Z)<|.mv Z<|.nt<|.bk<|.lp (X:=Nat × Hp × Value × List Value) [(2,_),(3,_),(15,_),(16,_)] ⟨rfl,rfl,rfl,rfl,trivial⟩ [_,_] (fun z=>[(17,.int .i64 (z.1:Nat))]) (fun z=>z.2.1) (fun z=>[.box b3 [.int .u8 op.toNat,aB nm,.int .i64 nn.toInt,z.2.2.1] 27,.row 27 4 z.2.2.1 z.1 z.2.2.2]) (fun z=>z.1≤args.length∧HUp w H z.2.1∧aL z.2.1 4 ((args.take z.1).map (dEx .u8)) z.2.2.2) (fun z=>args.length - z.1) (0,H,.slice none 0 0,[]) (fun _ s=>s) ⟨rfl,trivial⟩ ⟨by simp,.refl,aL.nil⟩ fun z hC=>?_
 obtain ⟨k,H1,r,xs⟩:=z;dsimp only at hC ⊢;obtain ⟨hk0,u1,hz⟩:=hC;refine .sr<|.yw (.lss Z Z)<|.nt<|.sq<|.cd Z (fun h18=>?_) (fun h18=>?_)
 ·try simp only [dt] at h18
  have hk:k<args.length:=by omega
  obtain ⟨bE,oE,cE,hpE,rE,lE,mE⟩:=(hs.up u1.up).elem (bB hk);cases hpE;have hnr1:=mM hk hnr.2;refine .sk<|.tN<|.sq<|.bk<|.sr<|.yw (.indexSl Fx.sl31 Z Z Z (by omega) (q:=oE+k * 4) Z)<|.yw (.loadMW Z Fx.agg33 mE lE)<|.al Fx.zero33 Z fun b5=>.sV .head Z Z Fx.size33 lE rE.one Z<|.nt<|.fL 5 [(0,0),(1,0),(2,0),(3,1),(4,1)]<|.yw (.fieldAddr Z Fx.field27_3)<|.yw (.load Z Fx.agg25 aW Z)<|.yw (.loadW Z Fx.agg33 (.head _) lE)<|.ct (X:=List Value) Fx.call14 Z (fun W s=>ih _ (List.getElem_mem hk) hnr1 H1 cE W rE s.agr) Z fun x2 H2 hc2 u2=>?_
  generalize hx:args[k]=x at hc2;obtain ⟨op2,nm2,n2,kD⟩:=x;obtain ⟨p2,c2,rfl,hs2,hnm2⟩:=bZ hc2;refine .bl Z (Fx.bsl25_1 _ _ _ _) Z fun b25=>.fn (tl:=[_,_,_]) Z<|.ap (news:=[.int .u8 op2.toNat,aB nm2,.int .i64 n2.toInt,.slice p2 kD.length c2]) Fx.row25 Z (fun _=>fQ) Z (.box (.head _) z0) Z (by simp [Value.oneCell',aB]) (by simp [maxLen];omega) (by omega) Z fun r26 _=>?_
  refine At.ra (.tail _ (.tail _ (.tail _ (.head _)))) fun p26 c26 e26=>?_;exact .yw (.fieldAddr Z Fx.field27_3)<|.st cJ Z Z Fx.size25 (by rw [e26];rfl) (nb Z) Z<|.nl<|.bN<|.tN<|.rg<|.yw (.add Z Z (w6 (by omega)))<|.mv Z<|.nt<|.ag (x:=(k,H1,r,xs)) (k+1,H2,r26,xs++[.int .u8 op2.toNat,aB nm2,.int .i64 n2.toInt,.slice p2 kD.length c2]) ⟨rfl,trivial⟩ ⟨rfl,rfl,rfl,rfl,trivial⟩ (fun _ s=>(s.pick [2,3,4,5] _ Z Z)) ⟨by dsimp only;omega,u1.trans u2,by dsimp only;rw [bK hk,hx,List.map_append];exact (hz.up u2.up).snoc hc2 Z⟩ (by dsimp only;omega)
 try simp only [df] at h18
 obtain rfl:k=args.length:=by omega
 rw [List.take_length] at hz;refine At.ra (.tail _ (.head _)) fun p26 c26 e26=>?_;subst e26;refine .ex<|.tE<|.tE<|.bE<|.tN<|.sr<|.yw (.loadW Z Fx.agg27 (.head _) Z)<|.sW cJ Z Z Fx.size27 (by simp [Value.oneCell',aB]) Z<|.nt<|.rt<|?_
 refine At.pm [1,2] [_,_] rfl rfl ?_;refine Sx.freezeSeq (ds:=args.map (dEx .u8)) (by simp) hz fun H3 p3 c3 u3 hr3 hs3=>?_;refine Sx.ret1 (.inl rfl) rfl (.cell rfl Fx.agg27 (.head _) rfl) fun W s=>⟨_,H3,dM hnm hs3,rfl,(u1.trans u3).grow s⟩
end Go.Proofs.YthhoebdlfjffkaaGreatDoor
namespace Go.Sx
open Go.RowKit Go.Par
section
variable {dfs:List Deferred} {P:Program} {n:Nat} {L:Sl} {H:Hp} {w0:World} {bs:List Res} {Q:Exit→Act→World→Prop} {ops:Array Oper} {K:Act→World→Prop}
theorem At.ae {listed:Array Bool} (hr:Region.ready .any ops listed=[]) (h:At dfs n L H w0 bs (Q .normal)):At dfs n L H w0 bs (wpAny P .any ops Q 0 listed):=VP hr h
theorem Yl.cutHi2 {d:Option Tmp} {ty:TypeId} {pos:String} {aft:Array Edge} {g:Option (Nat × Bool)} {x y:Operand} {T:TypeId} {p:Option Addr} {len c z h:Nat} {k:IntKind} {i:Int} (hT:slN P T=some z) (hx:ev L x=some (.slice p len c)) (hy:ev L y=some (.int k i)) (e:i=(h:Int)) (hh:h≤c) :
 Yl P L H w0 bs ⟨d,.slice T x none (some y) none,ty,pos,aft,g⟩ (.slice (if c=0 then p else p.map fun q=>q.add 0) h c):=.of_run fun a W f _=>by
 subst e;obtain ⟨el,hu,hz⟩:=BP hT;unfold execOp;simp [f x _ hx,f y _ hy,Instr.sliceAt,Instr.slice,underlying,program,Sem.run,Result.andThen,hu,Instr.sliceBounds,Instr.sliceBound,asIntOf,hh,fM hz]
theorem mB {z n c hi:Nat} {ds:List D} {p:Option Addr} (h:Rep H (.seq z ds) [.slice p n c]) (hl:hi≤n):Rep H (.seq z (ds.take hi)) [.slice (if c=0 then p else p.map fun q=>q.add 0) hi c]:=by
 have hn:=h.len
 by_cases hc:c=0
 ·have h0:ds=[]:=List.eq_nil_of_length_eq_zero (by omega);rw [if_pos hc,h0,List.take_nil,show hi=0 by omega];exact .empty (by omega)
 rw [if_neg hc];unfold Rep at h;obtain ⟨p',c',h1,h2,h3,h4⟩:=h;injection h1 with h1 _
 injection h1 with h5 h6 h7
 subst h5 h7;rcases h4 with h4 | ⟨b',off',cs,rfl,h9,h10⟩
 ·subst h4;obtain rfl:hi=0:=by simp only [List.length_nil] at h6;omega
  exact .empty (by omega)
 ·exact .mk (h9.take (hi * z)) (h10.take hi) (by rw [List.length_take];omega) (by omega) (by omega)
end
end Go.Sx
namespace Go.Proofs.YthhoebdlfjffkaaGreatDoor
open Go.RowKit Go.Par Go.Sx
theorem Fx.int5:vZ Tryz.prog 5=some Go.IntKind.u8:=by kernel_rfl
end Go.Proofs.YthhoebdlfjffkaaGreatDoor
namespace Go.Proofs.YthhoebdlfjffkaaGreatDoor
open Go.RowKit Go.Par Go.Sx
end Go.Proofs.YthhoebdlfjffkaaGreatDoor
namespace Go.Proofs.YthhoebdlfjffkaaGreatDoor
open Go.RowKit Go.Par Go.Sx
structure Sp where
 wh:UInt8
 i:UInt8
 nm:UInt8
 n:Int64
 nodes:List Nd
def okE (e:Ex):Bool:=decide (e.depth≤64) && Ex.all mW e
def tA (N:Nat):Sm→Bool
 | .mk _ _ _ ex _ _=>decide (ex.length≤N) && ex.all okE
structure okL (N:Nat) (l:List Sm):Prop where
 cnt:Sm.counts l≤N
 dep:Sm.deeps l≤N
 all:Sm.alls (tA N) l=true
mutual
theorem MG {q q':Sm→Bool} (h:∀ s,q s=true→q' s=true):∀ s,Sm.all q s=true→Sm.all q' s=true
 | .mk kd nm hd ex th el,hh=>by
  rw [eU] at hh ⊢;simp only [Bool.and_eq_true] at hh ⊢;exact ⟨⟨h _ hh.1.1,gQ h th hh.1.2⟩,gQ h el hh.2⟩
theorem gQ {q q':Sm→Bool} (h:∀ s,q s=true→q' s=true):∀ l,Sm.alls q l=true→Sm.alls q' l=true
 | [],_=>rfl
 | s::r,hh=>by
  rw [Sm.alls,Bool.and_eq_true] at hh ⊢;exact ⟨MG h s hh.1,gQ h r hh.2⟩
end
theorem oQ {N M:Nat} (h:N≤M):∀ s,tA N s=true→tA M s=true
 | .mk _ _ _ ex _ _,hh=>by
  simp only [tA,Bool.and_eq_true,decide_eq_true_eq] at hh ⊢;exact ⟨by omega,hh.2⟩
theorem okL.mono {N M:Nat} {l:List Sm} (h:okL N l) (k:N≤M):okL M l:=⟨by have:=h.cnt;omega,by have:=h.dep;omega,gQ (oQ k) l h.all⟩
theorem okL.len {N:Nat} {l:List Sm} (h:okL N l):l.length≤N:=Nat.le_trans (iU l) h.cnt
theorem okL.left {N:Nat} {a b:List Sm} (h:okL N (a++b)):okL N a:=by
 obtain ⟨h1,h2,h3⟩:=h;rw [eK] at h1;rw [fA] at h2;rw [fS,Bool.and_eq_true] at h3;exact ⟨by omega,by omega,h3.1⟩
theorem okL.right {N:Nat} {a b:List Sm} (h:okL N (a++b)):okL N b:=by
 obtain ⟨h1,h2,h3⟩:=h;rw [eK] at h1;rw [fA] at h2;rw [fS,Bool.and_eq_true] at h3;exact ⟨by omega,by omega,h3.2⟩
theorem uW {α:Type} {l:List α} {j:Nat} (h:j<l.length):l=l.take j++([l[j]]++l.drop (j+1)):=by simp
theorem TY {α:Type} {l:List α} {j:Nat} (h:j<l.length) (s:α):l.set j s=l.take j++([s]++l.drop (j+1)):=by
 rw [List.set_eq_take_append_cons_drop,if_pos h];rfl
theorem okL.at {N:Nat} {l:List Sm} (h:okL N l) {j:Nat} (hj:j<l.length):okL N [l[j]]:=by
 have h2:=h;rw [uW hj] at h2;exact h2.right.left
theorem okL.put {N M:Nat} {l:List Sm} (h:okL N l) {j:Nat} (hj:j<l.length) {s:Sm} (k:okL (N+M) [s]):okL (N+(N+M)) (l.set j s):=by
 have h2:=h;rw [uW hj] at h2
 have h3:okL N (l.take j++l.drop (j+1)):=by
  obtain ⟨a1,a2,a3⟩:=h2;simp only [eK,fA,fS,Bool.and_eq_true] at a1 a2 a3;refine ⟨?_,?_,?_⟩
  ·rw [eK];omega
  ·rw [fA];omega
  ·rw [fS,a3.1,a3.2.2];rfl
 rw [TY hj];obtain ⟨a1,a2,a3⟩:=h3;obtain ⟨b1,b2,b3⟩:=k;rw [eK] at a1;rw [fA] at a2;rw [fS,Bool.and_eq_true] at a3;have m1:=oQ (N:=N) (M:=N+(N+M)) (by omega);have m2:=oQ (N:=N+M) (M:=N+(N+M)) (by omega);refine ⟨?_,?_,?_⟩
 ·rw [eK,eK];omega
 ·rw [fA,fA];omega
 ·rw [fS,fS,gQ m1 _ a3.1,gQ m2 _ b3,gQ m1 _ a3.2];rfl
structure JR (N:Nat) (h:Hd):Prop where
 ps:h.ps.length≤N
 body:okL N h.body
theorem JR.mono {N M:Nat} {h:Hd} (k:JR N h) (l:N≤M):JR M h:=⟨by have:=k.ps;omega,k.body.mono l⟩
structure QP (N:Nat) (v:List Hd):Prop where
 len:v.length≤N
 all:∀ h∈v,JR N h
theorem QP.mono {N M:Nat} {v:List Hd} (k:QP N v) (l:N≤M):QP M v:=⟨by have:=k.len;omega,fun h m=>(k.all h m).mono l⟩
structure QS (N:Nat) (c:Cp):Prop where
 vars:c.vars.length≤N
 vers:c.vers.length≤N
 all:∀ v∈c.vers,QP N v
theorem QS.mono {N M:Nat} {c:Cp} (k:QS N c) (l:N≤M):QS M c:=⟨by have:=k.vars;omega,by have:=k.vers;omega,fun v m=>(k.all v m).mono l⟩
structure CL (N:Nat) (f:Ft):Prop where
 flags:f.flags.length≤N
 links:f.links.length≤N
 comps:f.comps.length≤N
 pos:0<f.comps.length
 all:∀ c∈f.comps,QS N c
theorem CL.mono {N M:Nat} {f:Ft} (k:CL N f) (l:N≤M):CL M f:=⟨by have:=k.flags;omega,by have:=k.links;omega,by have:=k.comps;omega,k.pos,fun c m=>(k.all c m).mono l⟩
end Go.Proofs.YthhoebdlfjffkaaGreatDoor
namespace Go.Proofs.YthhoebdlfjffkaaGreatDoor
def okD (D:Nat) (e:Ex):Prop:=e.depth≤D∧Ex.all mW e=true
theorem okD.mono {D D':Nat} {e:Ex} (h:okD D e) (k:D≤D'):okD D' e:=⟨Nat.le_trans h.1 k,h.2⟩
theorem wU {D:Nat} {op:UInt8} {nm:Str} {n:Int64}:okD (D+1) (.mk op nm n []):=⟨by rw [fW];simp [Ex.deeps],by rw [eR,oS];rfl⟩
theorem QR {D:Nat} {op:UInt8} {nm:Str} {n:Int64} {a:Ex} (h:okD D a):okD (D+1) (.mk op nm n [a]):=by
 refine ⟨?_,?_⟩
 ·rw [fW];simp only [Ex.deeps];have:=h.1;omega
 ·rw [eR,oS];simp [Ex.alls,h.2]
theorem UI {D:Nat} {op:UInt8} {nm:Str} {n:Int64} {a b:Ex} (h:okD D a) (k:okD D b):okD (D+1) (.mk op nm n [a,b]):=by
 refine ⟨?_,?_⟩
 ·rw [fW];simp only [Ex.deeps];have:=h.1;have:=k.1;omega
 ·rw [eR,oS];simp [Ex.alls,h.2,k.2]
theorem GP {M:Mk} {d D k:Nat} {rec:Bs→Ex × Bs} (h:∀ b,okD D (rec b).1) (b:Bs):okD (D+1) (lO M d rec k b).1:=by
 unfold lO
 split
 ·exact wU
 split
 ·exact wU
 split
 ·exact wU
 split
 ·exact wU
 split
 ·exact QR (h _)
 split
 ·exact wU
 split
 ·exact QR (h _)
 ·exact UI (h _) (h _)
theorem tO (M:Mk):∀ f b,okD (f+2) (eW M f b).1
 | 0,b=>GP (fun _=>wU) _
 | f+1,b=>GP (tO M f) _
theorem lC (M:Mk):∀ n b,(iX M n b).1.length=n∧∀ e∈(iX M n b).1,okD 4 e
 | 0,b=>⟨rfl,fun _ h=>by cases h⟩
 | n+1,b=>by
  obtain ⟨h1,h2⟩:=lC M n (eW M 2 b).2;refine ⟨by simp [iX,h1],fun e he=>?_⟩;rcases List.mem_cons.1 he with rfl | he
  ·exact tO M 2 b
  ·exact h2 e he
theorem FX {M:Mk} {d D k:Nat} {rec:Bs→Ex × Bs} (hD:4≤D) (h:∀ b,okD D (rec b).1) (b:Bs):okD (D+1) (mU M d rec k b).1:=by
 have hn:∀ b,okD D (eW M 2 b).1:=fun b=>(tO M 2 b).mono hD;unfold mU
 split
 ·exact wU
 split
 ·exact wU
 split
 ·exact wU
 split
 ·exact QR (hn _)
 split
 ·exact QR (h _)
 split
 ·exact UI (h _) (h _)
 ·exact UI (hn _) (hn _)
theorem FZ (M:Mk):∀ f b,okD (f+6) (jT M f b).1
 | 0,b=>FX (D:=5) (by omega) (fun _=>wU (D:=4)) _
 | f+1,b=>FX (by omega) (FZ M f) _
mutual
theorem JH:∀ s:Sm,Sm.depth s≤Sm.count s
 | .mk kd nm hd ex th el=>by
  rw [iT,dP];have:=oM th;have:=oM el;omega
theorem oM:∀ l:List Sm,Sm.deeps l≤Sm.counts l
 | []=>by simp [Sm.deeps]
 | s::r=>by
  simp only [Sm.deeps,Sm.counts];have:=JH s;have:=oM r;omega
end
structure KW (lf:Nat) (l:List Sm) (lf':Nat):Prop where
 cnt:Sm.counts l+lf'≤lf
 all:Sm.alls (tA 10) l=true
theorem iB {lf lf':Nat} {kd:UInt8} {nm hd:Str} {ex:List Ex} {th el:List Sm} (h1:Sm.counts th+Sm.counts el+lf'≤lf) (h2:ex.length≤10) (h3:∀ e∈ex,okD 40 e) (h4:Sm.alls (tA 10) th=true) (h5:Sm.alls (tA 10) el=true) :
 KW (lf+1) [.mk kd nm hd ex th el] lf':=by
 refine ⟨by simp only [Sm.counts,dP];omega,?_⟩;simp only [Sm.alls,eU,tA,Bool.and_eq_true,decide_eq_true_eq,List.all_eq_true];refine ⟨⟨⟨⟨h2,fun e he=>?_⟩,h4⟩,h5⟩,trivial⟩;simp only [okE,Bool.and_eq_true,decide_eq_true_eq];have:=h3 e he;exact ⟨by have:=this.1;omega,this.2⟩
theorem mL {e:Ex} (h:okD 40 e):∀ x∈[e],okD 40 x:=fun x hx=>by rw [List.mem_singleton.1 hx];exact h
theorem NL {e e2:Ex} (h:okD 40 e) (k:okD 40 e2):∀ x∈[e,e2],okD 40 x:=fun x hx=>by
 rcases List.mem_cons.1 hx with rfl | hx
 ·exact h
 ·rw [List.mem_singleton.1 hx];exact k
theorem vV {M:Mk} {n:Nat} {b:Bs}:∀ x∈(iX M n b).1,okD 40 x:=fun x hx=>((lC M n b).2 x hx).mono (by omega)
theorem KA {e:Ex} (h:okD 40 e) {M:Mk} {n:Nat} {b:Bs}:∀ x∈e::(iX M n b).1,okD 40 x:=fun x hx=>by
 rcases List.mem_cons.1 hx with rfl | hx
 ·exact h
 ·exact vV x hx
theorem xI {M:Mk} (hM:∀ c h,arN M c h≤2) (k d:Nat) {bd:Bs × Nat→List Sm × (Bs × Nat)} (hb:∀ x,KW x.2 (bd x).1 (bd x).2.2) (b:Bs) (lf:Nat):KW (lf+1) [(cN M k d bd b lf).1] (cN M k d bd b lf).2.2:=by
 have hn:∀ f b,f≤30→okD 40 (eW M f b).1:=fun f b hf=>(tO M f b).mono (by omega);have ht:∀ b,okD 40 (jT M 2 b).1:=fun b=>(FZ M 2 b).mono (by omega);have z:Sm.counts []=0:=rfl;unfold cN
 split
 ·exact iB (lf':=lf) (by simp only [z];omega) (by simp) (mL (ht _)) rfl rfl
 split
 ·exact iB (lf':=lf) (by simp only [z];omega) (by simp) (NL (hn _ _ (by omega)) (hn _ _ (by omega))) rfl rfl
 split
 ·exact iB (lf':=lf) (by simp only [z];omega) (by simp) (mL (hn _ _ (by omega))) rfl rfl
 split
 ·have h1:=hb ((jT M 2 b).2,lf);have h2:=hb (bd ((jT M 2 b).2,lf)).2;exact iB (by have:=h1.cnt;have:=h2.cnt;simp only at *;omega) (by simp) (mL (ht _)) h1.all h2.all
 split
 ·have h1:=hb ((jT M 2 b).2,lf);exact iB (by have:=h1.cnt;simp only at *;omega) (by simp) (mL (ht _)) h1.all rfl
 split
 ·exact iB (lf':=lf) (by simp only [z];omega) (by rw [(lC _ _ _).1];have:=hM (aE b M.ars.length).1 (aE (aE b M.ars.length).2 (arL M (aE b M.ars.length).1)).1;omega) vV rfl rfl
 split
 ·exact iB (lf':=lf) (by simp only [z];omega) (by rw [List.length_cons,(lC _ _ _).1];have:=hM M.own (aE b (arL M M.own)).1;omega) (KA (hn _ _ (by omega))) rfl rfl
 split
 ·split
  ·have h1:=hb ((iX M 2 (aE b 2).2).2,lf);exact iB (by have:=h1.cnt;simp only at *;omega) (by rw [(lC _ _ _).1];omega) vV rfl h1.all
  ·have h1:=hb ((eW M 3 (aE (aE b 2).2 M.ints).2).2,lf);exact iB (lf':=(bd ((eW M 3 (aE (aE b 2).2 M.ints).2).2,lf)).2.2) (by have:=h1.cnt;simp only at *;omega) (by simp) (mL (hn _ _ (by omega))) rfl h1.all
 split
 ·exact iB (lf':=lf) (by simp only [z];omega) (by simp) (fun _ h=>by cases h) rfl rfl
 ·exact iB (lf':=lf) (by simp only [z];omega) (by simp) (mL (hn _ _ (by omega))) rfl rfl
theorem sF {st:Nat→Bs→Nat→Sm × (Bs × Nat)} (hs:∀ k b lf,KW (lf+1) [(st k b lf).1] (st k b lf).2.2):∀ f x,KW x.2 (jZ st f x).1 (jZ st f x).2.2
 | 0,x=>⟨by simp [jZ,Sm.counts],rfl⟩
 | f+1,(b,lf)=>by
  unfold jZ
  split
  ·exact ⟨by simp [Sm.counts],rfl⟩
  ·rename_i hne
   split
   ·exact ⟨by simp [Sm.counts],rfl⟩
   ·have h1:=hs (aE b 14).1 (aE b 14).2 (lf - 1);have h2:=sF hs f (st (aE b 14).1 (aE b 14).2 (lf - 1)).2;have hl:lf≠0:=fun e=>hne (.inr e);refine ⟨?_,?_⟩
    ·have a1:=h1.cnt;have a2:=h2.cnt;simp only [Sm.counts] at a1 ⊢;omega
    ·have a1:=h1.all;simp only [Sm.alls,Bool.and_eq_true] at a1 ⊢;exact ⟨a1.1,h2.all⟩
theorem yN {M:Mk} (hM:∀ c h,arN M c h≤2):∀ f x,KW x.2 (sG M f x).1 (sG M f x).2.2
 | 0,x=>sF (fun k b lf=>xI hM k 3 (fun x=>⟨by simp [Sm.counts],rfl⟩) b lf) 13 x
 | f+1,x=>sF (fun k b lf=>xI hM k (2 - f) (yN hM f) b lf) 13 x
theorem VA {M:Mk} (hM:∀ c h,arN M c h≤2) (k:Nat) (c:Cd):JR 100 (hdS M k c):=by
 have h:=yN (M:=M.at k) hM 3 (c.bytes.take 40,12);have hc:=h.cnt;simp only at hc;refine ⟨by simp only [hdS,dN];have:=hM M.own k;omega,?_,?_,?_⟩
 ·simp only [hdS];omega
 ·simp only [hdS];have:=oM (sG (M.at k) 3 (c.bytes.take 40,12)).1;omega
 ·exact gQ (oQ (by omega)) _ h.all
theorem AD {M:Mk} (hM:∀ c h,arN M c h≤2):∀ (l:List Cd) (k:Nat),∀ h∈kI M k l,JR 100 h
 | [],k,h,hh=>by cases hh
 | c::r,k,h,hh=>by
  rcases List.mem_cons.1 hh with rfl | hh
  ·exact VA hM k c
  ·exact AD hM r (k+1) h hh
theorem FO {p:Pln} {nf i:Nat} {x:Prt} (c h:Nat):arN (mkP (fN p) nf i x) c h≤2:=by
 show ((fN p).getD c []).getD h 0≤2
 by_cases hc:c<(fN p).length
 ·rw [fC hc];have hm:=List.getElem_mem hc;generalize (fN p)[c]=l at hm;obtain ⟨y,_,rfl⟩:=List.mem_map.1 hm
  by_cases hh:h<(arP y).length
  ·rw [fC hh];exact IA (List.getElem_mem hh)
  ·have e:(arP y)[h]? = none:=List.getElem?_eq_none_iff.2 (by omega);rw [List.getD_eq_getElem?_getD,e];simp
 ·have e:(fN p)[c]? = none:=List.getElem?_eq_none_iff.2 (by omega);rw [List.getD_eq_getElem?_getD,List.getD_eq_getElem?_getD,e];simp
theorem DG (x:Prt):(wX x).length≤3:=by
 unfold wX
 split
 ·simp
 ·rw [List.length_take];omega
theorem sD (p:Pln):CL 100 (bD p):=by
 have hp:=oP p;refine ⟨?_,?_,?_,?_,?_⟩
 ·simp only [bD,rY];omega
 ·have:=oU (aR p).length p.links (min p.links.length ((aR p).length * (aR p).length));have h9:(aR p).length * (aR p).length≤9:=Nat.mul_le_mul hp.2 hp.2;simp only [bD];have:min p.links.length ((aR p).length * (aR p).length)≤(aR p).length * (aR p).length:=Nat.min_le_right _ _;omega
 ·simp only [bD,pD];omega
 ·simp only [bD,pD];omega
 ·intro c hc;simp only [bD,pY] at hc;obtain ⟨i,hi,rfl⟩:=List.mem_mapIdx.1 hc;generalize (aR p)[i]=x;refine ⟨?_,?_,?_⟩
  ·simp only [AO,sK,List.length_append,uM,uL,List.length_singleton,fU,iS];omega
  ·simp only [AO,lT];split <;> simp
  ·intro v hv;simp only [AO,lT] at hv;rcases List.mem_cons.1 hv with rfl | hv
   ·exact ⟨by rw [jQ];have:=DG x;omega,AD FO _ _⟩
   ·split at hv
    ·rw [List.mem_singleton.1 hv];exact ⟨by rw [jQ,List.length_take];omega,AD FO _ _⟩
    ·cases hv
end Go.Proofs.YthhoebdlfjffkaaGreatDoor
