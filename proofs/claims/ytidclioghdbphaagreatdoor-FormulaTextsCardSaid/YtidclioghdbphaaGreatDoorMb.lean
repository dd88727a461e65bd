/- Texts of the proof, one behind the other. -/
import Derived.Test.YtidclioghdbphaaGreatDoorMa
import Derived.Lib.Builder
import Derived.Lib.AppendStr
import Derived.Lib.UnsafeStr
import Derived.Test.YtidclioghdbphaaGreatDoorProg
import Derived.Lib.ItoaNum
import Derived.ProofKit
import Derived.Lib.LaidTab
import Derived.Deep.Slices
import Derived.Deep.Fields
import Derived.OpenShut
import Derived.ChangeKeysEq
import Derived.RangeFuncNested
import Derived.RangeFuncLeaves
import Derived.RangeFuncCalls
import Derived.OwnWalkIn
import Derived.TacticsIn
import Derived.OrdersIn
import Derived.Lib.Join
import Derived.Lib.ItoaLen
set_option linter.all false
set_option maxRecDepth 100000
/- Pointers, strings appended to bytes, and unsafe strings: what a strings.Builder inside an own box meets. -/
namespace Go
noncomputable abbrev prg:=Proofs.Tryz.prog
end Go
namespace Go.Sx
open Go.RowKit Go.Par
section
variable {dfs:List Deferred} {P:Program} {n:Nat} {L:Sl} {H:Hp} {w0:World} {bs:List Res} {Q:Exit->Act->World->Prop} {ops:Array Oper} {rest:List Oper} {K:Act->World->Prop}
variable {d:Option Tmp} {ty:TypeId} {pos:String} {aft:Array Edge} {g:Option (Nat × Bool)} {v:Value} {t:Tmp} {op:Op} {x y z:Operand} {T T':TypeId}
theorem Yl.ext {f:FuncId} {xs:List Operand} {vs:List Value} {ats:Array TypeId} (hv:evs L xs=some vs) (h:∀ W,(callFunc f vs.toArray).run P W=.ok (.value v) W):Yl P L H w0 bs ⟨d,.call ⟨.value (.func f),xs.toArray,ats⟩,ty,pos,aft,g⟩ v:=.of_run λa W f0 s=>by
 have hm:=AD f0 hv;have:(#[]:Array Value)=[].toArray:=rfl;unfold execOp;simp only [resolve,Act.eval,Deferred.ofValue,Sem.run_bind,Sem.run_pure,Result.andThen,invoke,kB,hm,this,List.append_toArray,cU,dU,h]
theorem St.pickT {W:World} {hd tl hd':List Res} (s:St H w0 (hd++tl) W) (ix:List Nat) (hn:rP ix=true) (hm:ix.map (λi=>hd[i]?)=hd'.map some):St H w0 (hd'++tl) W:=by
 have hlt:∀ i x,hd[i]? = some x->(hd++tl)[i]? = some x:=λi x e=>by
  rw [List.getElem?_append_left (List.getElem?_eq_some_iff.1 e).1];exact e
 have key:∀ (ix:List Nat) (hd':List Res),rP ix=true->ix.map (λi=>hd[i]?)=hd'.map some->(∀ x∈hd',∃ i∈ix,hd[i]? = some x)/\(hd'++tl).Pairwise Res.apart:=by
  intro ix;induction ix with
  | nil =>
   intro hd' _ hm;cases hd' with
   | nil=>exact ⟨λx hx=>(by cases hx),(iO.1 s.apart).2.1⟩
   | cons a r=>simp at hm
  | cons i r ih =>
   intro hd' hn hm;cases hd' with
   | nil=>simp at hm
   | cons a q =>
    simp only [dE,gD] at hm;simp only [rP,aF,eT] at hn;obtain ⟨h1,h2⟩:=ih q hn.2 hm.2;refine ⟨λx hx=>?_,?_⟩
    ·rcases bV.1 hx with rfl | hx
     ·exact ⟨i,.head _,hm.1⟩
     ·obtain ⟨j,hj,e⟩:=h1 x hx;exact ⟨j,.tail _ hj,e⟩
    ·rw [bT,jI];refine ⟨λy hy=>?_,h2⟩;rcases cV.1 hy with hy | hy
     ·obtain ⟨j,hj,e⟩:=h1 y hy;refine IY s.apart (hlt _ _ hm.1) (hlt _ _ e) λh=>?_;subst h;have:=hn.1;simp [hj] at this
     ·exact (iO.1 s.apart).2.2 a (Al_List_mem_of_getElem? hm.1) y hy
 obtain ⟨h1,h2⟩:=key ix hd' hn hm;refine ⟨s.ext,s.agr,λx hx=>?_,h2,s.lo⟩;rcases cV.1 hx with hx | hx
 ·obtain ⟨i,_,e⟩:=h1 x hx;exact s.own x (oP _ (Al_List_mem_of_getElem? e))
 ·exact s.own x (nS _ hx)
theorem At.mk {e:TypeId} {v0:Value} {bytes m:Nat} {kl kc:IntKind} {i j:Int} (hT:yR P T=some (e,1,bytes)) (hz0:pH P e=some [v0]) (hx:ev L x=some (.int kl i)) (hy:ev L y=some (.int kc j)) (hi:i=(m:Int)) (hj:j=(m:Int)) (hb:bytes * m<=281474976710656) (h63:m<=9223372036854775807) (ht:Nat.blt t n=true)
 (h:∀ b,At dfs n ((t,.slice (some ⟨b,0,none⟩) m m)::L) H w0 (.box b (List.replicate m v0) e::bs) (wpList P ops Q rest)):At dfs n L H w0 bs (wpList P ops Q (⟨some t,.makeSlice T x y,ty,pos,aft,none⟩::rest)):=by
 subst hi hj;obtain ⟨hu,q,z,hq,hz,hsz,hby,hzs,h0⟩:=CJ hT
 have hz1:z.cells.toList=[v0]:=by
  have h2:=hz0;unfold pH at h2;rw [hq] at h2;simp only [iF,hz,mM,vP] at h2;exact h2
 refine cons ?_;intro a W f s;refine oH rfl ?_
 have hbz:(q.bytes:Int) * (m:Int)<=281474976710656:=by
  have h5:((q.bytes * m:Nat):Int)<=281474976710656:=by rw [hby];omega
  rwa [Int.natCast_mul] at h5
 have hr:=run_make (P:=P) W T e q z hu hq hz kl kc m m (by omega) (Int.le_refl _) hbz (by omega)
 have hcs:madeCells z.cells (((m:Int)).toNat * q.size)=(List.replicate m v0).toArray:=by
  have e1:z.cells=#[v0]:=by rw [<-Array.toArray_toList (xs:=z.cells),hz1]
  rw [e1,hsz,Int.toNat_natCast,Nat.mul_one];apply AV
  ·simp [madeCells]
  ·intro i h1 h2;simp [madeCells,Nat.mod_one]
 rw [hcs,Int.toNat_natCast] at hr;unfold Oper.wp execOp;simp only [Sem.run_bind,Sem.run_pure,Result.andThen_ok,f.ev hx,f.ev hy,hr];exact h _ _ _ (f.put ht _) (s.alloc _ _)
end
theorem dt {p:Prop} [Decidable p]:(decide p=true)=p:=aD
theorem df {p:Prop} [Decidable p]:(decide p=false)=¬ p:=propext dP
theorem nb {a b:Nat} (h:Nat.ble a b=true):a<=b:=kN h
variable {l:List Value}
theorem z0:∀ (j:Nat) u,l[j]? = some u->l[0+j]? = some u:=λj u h=>by rw [dV];exact h
theorem w6 {i:Int} (h:-9223372036854775808<=i/\i<=9223372036854775807):IntKind.i64.wrap i=i:=w64 h.1 h.2
section
variable {dfs:List Deferred} {P:Program} {n:Nat} {L:Sl} {H:Hp} {w0:World} {bs:List Res} {Q:Exit->Act->World->Prop} {ops:Array Oper}
theorem At.nt {K:Act->World->Prop} (h:At dfs n L H w0 bs K):At dfs n L H w0 bs (wpList P ops (Exit.then K Q) []):=.nl (.tN h)
theorem At.sr {id:Nat} {l:List Oper} {y:Code} (h:At dfs n L H w0 bs (wpList P l.toArray (Exit.then (y.wp P Q) Q) l)):At dfs n L H w0 bs ((Code.seq (Code.region id l.toArray false) y).wp P Q):=.sq (.rg h)
theorem At.ns {Q':Exit->Act->World->Prop} {id:Nat} {l:List Oper} {y:Code} (h:At dfs n L H w0 bs (wpList P l.toArray (Exit.then (y.wp P Q') Q') l)):At dfs n L H w0 bs (wpList P ops (Exit.then ((Code.seq (Code.region id l.toArray false) y).wp P Q') Q) []):=.nl (.tN (.sq (.rg h)))
end
end Go.Sx

namespace Go.Sx
open Go.RowKit Go.Par
section
variable {dfs:List Deferred} {P:Program} {L:Sl} {H H':Hp} {w0:World} {bs bs':List Res} {ty:TypeId} {pos:String} {aft:Array Edge} {t:Tmp} {op:Op} {ops:Array Oper} {N hn i n j:Nat} {pa:List (Nat × Oper × Value)} {E:Sl->Hp->List Res->Prop} {r:List (Nat × Nat × Oper)} {rest:List Oper} {Q:Exit->Act->World->Prop} {o:Oper} {v:Value} {b c:Bool} {u:Tmp}
theorem St.p1_1 {H:Hp} {w0 W:World} {a0 b0:Res} {tl:List Res} (s:St H w0 (a0::tl) W) (ix:List Nat) (hm:ix.map (λi=>([a0]:List Res)[i]?)=[some b0]) (hn:rP ix=true:=by rfl):St H w0 (b0::tl) W:=s.pickT (hd:=[a0]) (hd':=[b0]) ix hn hm
theorem St.p2_1 {H:Hp} {w0 W:World} {a0 a1 b0:Res} {tl:List Res} (s:St H w0 (a0::a1::tl) W) (ix:List Nat) (hm:ix.map (λi=>([a0,a1]:List Res)[i]?)=[some b0]) (hn:rP ix=true:=by rfl):St H w0 (b0::tl) W:=s.pickT (hd:=[a0,a1]) (hd':=[b0]) ix hn hm
theorem St.p2_2 {H:Hp} {w0 W:World} {a0 a1 b0 b1:Res} {tl:List Res} (s:St H w0 (a0::a1::tl) W) (ix:List Nat) (hm:ix.map (λi=>([a0,a1]:List Res)[i]?)=[some b0,some b1]) (hn:rP ix=true:=by rfl):St H w0 (b0::b1::tl) W:=s.pickT (hd:=[a0,a1]) (hd':=[b0,b1]) ix hn hm
theorem St.p3_1 {H:Hp} {w0 W:World} {a0 a1 a2 b0:Res} {tl:List Res} (s:St H w0 (a0::a1::a2::tl) W) (ix:List Nat) (hm:ix.map (λi=>([a0,a1,a2]:List Res)[i]?)=[some b0]) (hn:rP ix=true:=by rfl):St H w0 (b0::tl) W:=s.pickT (hd:=[a0,a1,a2]) (hd':=[b0]) ix hn hm
theorem St.p3_3 {H:Hp} {w0 W:World} {a0 a1 a2 b0 b1 b2:Res} {tl:List Res} (s:St H w0 (a0::a1::a2::tl) W) (ix:List Nat) (hm:ix.map (λi=>([a0,a1,a2]:List Res)[i]?)=[some b0,some b1,some b2]) (hn:rP ix=true:=by rfl):St H w0 (b0::b1::b2::tl) W:=s.pickT (hd:=[a0,a1,a2]) (hd':=[b0,b1,b2]) ix hn hm
theorem St.p4_2 {H:Hp} {w0 W:World} {a0 a1 a2 a3 b0 b1:Res} {tl:List Res} (s:St H w0 (a0::a1::a2::a3::tl) W) (ix:List Nat) (hm:ix.map (λi=>([a0,a1,a2,a3]:List Res)[i]?)=[some b0,some b1]) (hn:rP ix=true:=by rfl):St H w0 (b0::b1::tl) W:=s.pickT (hd:=[a0,a1,a2,a3]) (hd':=[b0,b1]) ix hn hm
theorem St.p4_3 {H:Hp} {w0 W:World} {a0 a1 a2 a3 b0 b1 b2:Res} {tl:List Res} (s:St H w0 (a0::a1::a2::a3::tl) W) (ix:List Nat) (hm:ix.map (λi=>([a0,a1,a2,a3]:List Res)[i]?)=[some b0,some b1,some b2]) (hn:rP ix=true:=by rfl):St H w0 (b0::b1::b2::tl) W:=s.pickT (hd:=[a0,a1,a2,a3]) (hd':=[b0,b1,b2]) ix hn hm
theorem St.p4_4 {H:Hp} {w0 W:World} {a0 a1 a2 a3 b0 b1 b2 b3:Res} {tl:List Res} (s:St H w0 (a0::a1::a2::a3::tl) W) (ix:List Nat) (hm:ix.map (λi=>([a0,a1,a2,a3]:List Res)[i]?)=[some b0,some b1,some b2,some b3]) (hn:rP ix=true:=by rfl):St H w0 (b0::b1::b2::b3::tl) W:=s.pickT (hd:=[a0,a1,a2,a3]) (hd':=[b0,b1,b2,b3]) ix hn hm
theorem At.aq {x:Operand} {K:Act->World->Prop} (hx:ev L x=some v) (h:At dfs n ((t,v)::L) H w0 bs K) (ht:Nat.blt t n=true:=by rfl):At dfs n L H w0 bs (wpList P ops (Exit.then K Q) [⟨some t,.assign x,ty,pos,aft,none⟩]):=.a hx ht (.nt h)
theorem At.sm {x:Operand} {id:Nat} {l:List Oper} {y:Code} (hx:ev L x=some v) (h:At dfs n ((t,v)::L) H w0 bs (wpList P (⟨some t,.move x,ty,pos,aft,none⟩::l).toArray (Exit.then (y.wp P Q) Q) l)) (ht:Nat.blt t n=true:=by rfl):At dfs n L H w0 bs ((Code.seq (Code.region id (⟨some t,.move x,ty,pos,aft,none⟩::l).toArray false) y).wp P Q):=.sr (.m hx ht h)
theorem w7 {i:Int} (h:-9223372036854775808<=i/\i<=9223372036854775807:=by omega):IntKind.i64.wrap i=i:=w6 h
theorem y6 {P:Program} {n:Nat} {f:FuncId} {fn:Func} {c:Code} {args:List Value} {w:World} {R:Ending->World->Prop} (hf:P.funcs[f]? = some fn) (hb:fn.body=some c) (hn:fn.ntmps=n) (hl:Nat.ble args.length n=true) (h:At [] n (IT 0 args) (⟨λ_=>none,0⟩:Hp) w [] (c.wp P (bodyPost P fn R))):Calls P f args.toArray w R:=enter hf hb hn hl ⟨λ_ _ e=>(by cases e),aR _⟩ h
theorem At.zR {id:Nat} {K:Act->World->Prop} {Q':Exit->Act->World->Prop} (h:At dfs n L H w0 bs (Q .ret)):At dfs n L H w0 bs (wpList P ops (Exit.then (Code.ret.wp P (Exit.inBlock id (Exit.then K Q))) Q') []):=.nt (.rt (.bR (.tR h)))
theorem At.eb {id:Nat} {K K' K2:Act->World->Prop} {Q:Exit->Act->World->Prop} (h:At dfs n L H w0 bs K):At dfs n L H w0 bs (Exit.then K' (Exit.then K2 (Exit.inBlock id (Exit.then K Q))) (.exit id)):=.tE (.tE (.bE (.tN h)))
theorem At.az {x:Operand} {Q':Exit->Act->World->Prop} (hx:ev L x=some v) (h:At dfs n ((t,v)::L) H w0 bs (Q .ret)) (ht:Nat.blt t n=true:=by rfl):At dfs n L H w0 bs (wpList P ops (Exit.then (Code.ret.wp P Q) Q') [⟨some t,.assign x,ty,pos,aft,none⟩]):=.aq hx (.rt h) ht
end
end Go.Sx
namespace Go.Proofs.YtidclioghdbphaaGreatDoor
open Go.RowKit Go.Par Go.Sx Tryz
theorem eQ:kS prg 24=some none:=by kernel_rfl
theorem dQ:kS prg 32=some none:=by kernel_rfl
theorem eC:kS prg 76=some (some 4):=by kernel_rfl
theorem dH:kS prg 83=some (some 4):=by kernel_rfl
theorem QH:cZ prg 73=true:=by kernel_rfl
theorem ID:cZ prg 81=true:=by kernel_rfl
theorem eJ:dZ prg 76 3=some 3:=by kernel_rfl
theorem fG:dZ prg 83 3=some 3:=by kernel_rfl
theorem gP:hZ prg 83=some 4:=by kernel_rfl
theorem eL:slN prg 24=some 4:=by kernel_rfl
theorem dW:slN prg 32=some 4:=by kernel_rfl
theorem iM:pH prg 83=some
 [Go.Value.int Go.IntKind.i64 (Int.ofNat 0),Go.Value.string { data:={ toList:=[] } },
  Go.Value.int Go.IntKind.i64 (Int.ofNat 0),Go.Value.slice none 0 0]:=by kernel_rfl
abbrev Str:=List UInt8
def cH (l:Str):Value:=.string ⟨l.toArray⟩
inductive Ex where
 | mk (op:UInt8) (nm:Str) (n:Int64) (args:List Ex)
inductive Sm where
 | mk (kind:UInt8) (nm hd:Str) (ex:List Ex) (th el:List Sm)
def Ex.op:Ex->UInt8 | .mk op _ _ _=>op
def Ex.nm:Ex->Str | .mk _ nm _ _=>nm
def Ex.n:Ex->Int64 | .mk _ _ n _=>n
def Ex.args:Ex->List Ex | .mk _ _ _ args=>args
mutual
def dEx (k:IntKind):Ex->D
 | .mk op nm n args=>.str [.val (.int k op.toNat),.val (cH nm),.val (.int .i64 n.toInt),.seq 4 (bL6 k args)]
def bL6 (k:IntKind):List Ex->List D
 | []=>[]
 | e::r=>dEx k e::bL6 k r
end
theorem WH (k:IntKind):∀ l,bL6 k l=l.map (dEx k)
 | []=>rfl
 | e::r=>by rw [bL6,WH k r];rfl
theorem bB6 (k:IntKind) (op:UInt8) (nm:Str) (n:Int64) (args:List Ex):dEx k (.mk op nm n args)=.str [.val (.int k op.toNat),.val (cH nm),.val (.int .i64 n.toInt),.seq 4 (args.map (dEx k))]:=by rw [dEx,WH]
theorem Ex.ind {C:Ex->Prop} (h:∀ op nm n args,(∀ a∈args,C a)->C (.mk op nm n args)):∀ e,C e
 | .mk op nm n args=>h op nm n args λa ha=>Ex.ind h a
termination_by e=>SizeOf.sizeOf e
decreasing_by
 have:=nR ha;simp;omega
theorem Sm.ind {C:Sm->Prop} (h:∀ kd nm hd ex th el,(∀ a∈th,C a)->(∀ a∈el,C a)->C (.mk kd nm hd ex th el)):∀ e,C e
 | .mk kd nm hd ex th el=>h kd nm hd ex th el (λa ha=>Sm.ind h a) (λa ha=>Sm.ind h a)
termination_by e=>SizeOf.sizeOf e
decreasing_by
 all_goals
  have:=nR ha;simp;omega
structure Hd where
 nm:Str
 ps:List Str
 body:List Sm
structure Vr where
 nm:Str
 ty:UInt8
 init:Int64
structure Cp where
 nm:Str
 vars:List Vr
 vers:List (List Hd)
structure Fg where
 nm:Str
 init:Bool
structure Lk where
 fr:Str
 to:Str
 lat:Int64
structure Ft where
 nm:Str
 flags:List Fg
 links:List Lk
 comps:List Cp
/-! ### Structs opened and shut -/
section
variable {H:Hp}
theorem cB1 {v:Value} (h:v.oneCell'=true) (k:okV v):Rep H (.val v) [v]:=by unfold Rep;exact ⟨Z,h,k⟩
theorem okS {l:Str}:okV (cH l)↔l.length<=1000000:=by simp [okV,cH,ByteArray.size]
theorem yT {d:D} {ds:List D} {l:List Value}:tG H (d::ds) l↔∃ x y,l=x++y/\Rep H d x/\tG H ds y:=by
 constructor
 ·intro h;unfold tG at h;exact h
 ·intro h;unfold tG;exact h
theorem vK {l:List Value}:tG H [] l↔l=[]:=by
 constructor
 ·intro h;unfold tG at h;exact h
 ·intro h;unfold tG;exact h
theorem UK {ds:List D} {l:List Value}:Rep H (.str ds) l↔tG H ds l:=by
 constructor
 ·intro h;unfold Rep at h;exact h
 ·intro h;unfold Rep;exact h
theorem fE {v:Value} {ds:List D} {l:List Value}:tG H (.val v::ds) l↔∃ y,l=v::y/\v.oneCell'=true/\okV v/\tG H ds y:=by
 rw [yT]
 constructor
 ·rintro ⟨x,y,rfl,hx,hy⟩;unfold Rep at hx;obtain ⟨rfl,h,k⟩:=hx;exact ⟨y,Z,h,k,hy⟩
 ·rintro ⟨y,rfl,h,k,hy⟩;exact ⟨[v],y,Z,cB1 h k,hy⟩
theorem FU {z:Nat} {es ds:List D} {l:List Value}:tG H (.seq z es::ds) l↔∃ p c y,l=.slice p es.length c::y/\Rep H (.seq z es) [.slice p es.length c]/\tG H ds y:=by
 rw [yT]
 constructor
 ·rintro ⟨x,y,rfl,hx,hy⟩;obtain ⟨p,c,rfl,_⟩:=hx.sl;exact ⟨p,c,y,Z,hx,hy⟩
 ·rintro ⟨p,c,y,rfl,hx,hy⟩;exact ⟨_,y,Z,hx,hy⟩
theorem fW {α β:Type} {f:α->β} {l:List α} {k:Nat} (h:k<l.length):(l.map f)[k]? = some (f l[k]):=by simp [h]
theorem fX {k:IntKind} {op:UInt8} {nm:Str} {n:Int64} {args:List Ex} {cs:List Value} (h:Rep H (dEx k (.mk op nm n args)) cs) :
 ∃ p c,cs=[.int k op.toNat,cH nm,.int .i64 n.toInt,.slice p args.length c]/\Rep H (.seq 4 (args.map (dEx k))) [.slice p args.length c]/\nm.length<=1000000:=by
 rw [bB6,UK] at h;obtain ⟨_,rfl,_,_,h⟩:=fE.1 h;obtain ⟨_,rfl,_,hn,h⟩:=fE.1 h;obtain ⟨_,rfl,_,_,h⟩:=fE.1 h;obtain ⟨p,c,_,rfl,hs,h⟩:=FU.1 h;rw [vK] at h;subst h;rw [bJ] at hs|-;exact ⟨p,c,Z,hs,okS.1 hn⟩
theorem rC {k:IntKind} {op:UInt8} {nm:Str} {n:Int64} {args:List Ex} {s:Value} (hn:nm.length<=1000000) (h:Rep H (.seq 4 (args.map (dEx k))) [s]) :
 Rep H (dEx k (.mk op nm n args)) [.int k op.toNat,cH nm,.int .i64 n.toInt,s]:=by
 rw [bB6,UK];exact fE.2 ⟨_,Z,Z,Jt,fE.2 ⟨_,Z,Z,okS.2 hn,fE.2 ⟨_,Z,Z,Jt,yT.2 ⟨[s],[],Z,h,vK.2 rfl⟩⟩⟩⟩
end
mutual
def Ex.depth:Ex->Nat
 | .mk _ _ _ args=>Ex.deeps args+1
def Ex.deeps:List Ex->Nat
 | []=>0
 | e::r=>max (Ex.depth e) (Ex.deeps r)
end
variable {k:Nat}
theorem wK {α:Type} {l:List α} (h:k<l.length):l.take (k+1)=l.take k++[l[k]]:=by simp
theorem HU (a b:List Ex):Ex.deeps (a++b)=max (Ex.deeps a) (Ex.deeps b):=by
 induction a with
 | nil=>simp [Ex.deeps]
 | cons e r ih=>simp only [bT,Ex.deeps,ih];omega
theorem MK {l:List Ex} (h:k<l.length):Ex.deeps (l.take (k+1))=max (Ex.deeps (l.take k)) (Ex.depth l[k]):=by
 rw [wK h,HU];simp [Ex.deeps]
theorem MJ (l:List Ex) (k:Nat):Ex.deeps (l.take k)<=Ex.deeps l:=by
 have:=HU (l.take k) (l.drop k);rw [eF] at this;omega
theorem aL0 {l:List Ex} {e:Ex} (h:e∈l):Ex.depth e<=Ex.deeps l:=by
 induction l with
 | nil=>cases h
 | cons a r ih =>
  simp only [Ex.deeps];rcases bV.1 h with rfl | h
  ·omega
  ·have:=ih h;omega
theorem WF {l:List Ex} (h:k<l.length):Ex.depth l[k]<=Ex.deeps l:=aL0 (bI h)
theorem qO (op:UInt8) (nm:Str) (n:Int64) (args:List Ex):Ex.depth (.mk op nm n args)=Ex.deeps args+1:=by rw [Ex.depth]
def Sm.kd:Sm->UInt8 | .mk kd _ _ _ _ _=>kd
def Sm.nm:Sm->Str | .mk _ nm _ _ _ _=>nm
def Sm.hd:Sm->Str | .mk _ _ hd _ _ _=>hd
def Sm.ex:Sm->List Ex | .mk _ _ _ ex _ _=>ex
def Sm.th:Sm->List Sm | .mk _ _ _ _ th _=>th
def Sm.el:Sm->List Sm | .mk _ _ _ _ _ el=>el
mutual
def Sm.depth:Sm->Nat
 | .mk _ _ _ _ th el=>max (Sm.deeps th) (Sm.deeps el)+1
def Sm.deeps:List Sm->Nat
 | []=>0
 | e::r=>max (Sm.depth e) (Sm.deeps r)
end
mutual
def Sm.count:Sm->Nat
 | .mk _ _ _ _ th el=>Sm.counts th+Sm.counts el+1
def Sm.counts:List Sm->Nat
 | []=>0
 | e::r=>Sm.count e+Sm.counts r
end
theorem qJ (a b:List Sm):Sm.deeps (a++b)=max (Sm.deeps a) (Sm.deeps b):=by
 induction a with
 | nil=>simp [Sm.deeps]
 | cons e r ih=>simp only [bT,Sm.deeps,ih];omega
theorem oT (a b:List Sm):Sm.counts (a++b)=Sm.counts a+Sm.counts b:=by
 induction a with
 | nil=>simp [Sm.counts]
 | cons e r ih=>simp only [bT,Sm.counts,ih];omega
theorem aH5 (kd:UInt8) (nm hd:Str) (ex:List Ex) (th el:List Sm):Sm.count (.mk kd nm hd ex th el)=Sm.counts th+Sm.counts el+1:=by rw [Sm.count]
theorem UI (l:List Sm):l.length<=Sm.counts l:=by
 induction l with
 | nil=>simp
 | cons e r ih =>
  obtain ⟨kd,nm,hd,ex,th,el⟩:=e;simp only [aI,Sm.counts,aH5];omega
theorem NV (e:Ex):∀ (H:Hp) (cs:List Value) (w:World),Rep H (dEx .u8 e) cs->e.depth<=1000000->Agr H w ->
 Calls prg 73 #[.agg cs.toArray] w λr w'=>r=.returned (iN e.depth)/\Ext w w':=by
 induction e using Ex.ind with | _ op nm nn args ih
 intro H cs w h he hA;rw [qO] at he;obtain ⟨p,c,rfl,hs,hnm⟩:=fX h;have hcap:=hs.cap;refine Sx.enter (H:=H) func73 rfl ntmps73 rfl hA ?_;refine .sr<|.bx Z Z Z λb1=>.a Z Z<|.ns<|.aq Z<|.sq<|.sr<|.fA Z eJ<|.lD Z dQ Hm Z<|.yw (.lenSl dW Z)<|.mv Z<|.nt<|.bk<|.lp (X:=Nat) [(1,_),(7,_)] ⟨Z,Z,Jt⟩ [_] (λk=>[(3,iN (Ex.deeps (args.take k))),(8,iN k)]) (λk=>H) (λk=>[]) (λk=>k<=args.length) (λk=>args.length - k) 0 (λ_ s=>s) ⟨Z,Z,Jt⟩ (by omega) λk hC=>?_
 refine .sr<|.yw (.lss Z Z)<|.nt<|.sq<|.ce Z (λh9=>?_) (λh9=>?_)
 ·have hk:k<args.length:=by omega
  obtain ⟨b5,o5,c5,hp5,r5,l5,m5⟩:=hs.elem (fW hk);cases hp5;have h1:=MJ args k;have h2:=WF hk;have h3:=MK hk;exact .sk<|.tN<|.sq<|.bk<|.sm Z<|.aq Z<|.rg<|.mv Z<|.fA Z eJ<|.lD Z dQ Hm Z<|.mv Z<|.yw (.indexSl dW Z Z Z (by omega) (q:=o5+k * 4) Z)<|.yw (.loadMW Z eC m5 l5)<|.yw (.call QH Z (λW s=>ih _ (bI hk) H c5 W r5 (by omega) s.agr))<|.yw (.max2 Z Z (c:=((Ex.deeps (args.take (k+1)):Nat):Int)) (by omega))<|.a Z Z<|.nl<|.bN<|.tN<|.rg<|.yw (.add Z Z w7)<|.mv Z<|.nt<|.ag (k+1) ⟨Z,Z,Jt⟩ ⟨Z,Z,Jt⟩ (λ_ s=>s) (by omega) (by omega)
 obtain rfl:k=args.length:=by omega
 rw [aZ];refine .ex<|.eb<|.sm Z<|.yw (.add Z Z w7)<|.az Z<|?_
 exact y9 Z Z λW s=>⟨by rw [qO];rfl,s.ext⟩
theorem BM (e:Ex):∀ (H:Hp) (cs:List Value) (w:World),Rep H (dEx .i64 e) cs->e.depth<=1000000->Agr H w ->
 Calls prg 81 #[.agg cs.toArray] w λr w'=>r=.returned (iN e.depth)/\Ext w w':=by
 induction e using Ex.ind with | _ op nm nn args ih
 intro H cs w h he hA;rw [qO] at he;obtain ⟨p,c,rfl,hs,hnm⟩:=fX h;have hcap:=hs.cap;refine Sx.enter (H:=H) func81 rfl ntmps81 rfl hA ?_;refine .sr<|.bx Z Z Z λb1=>.a Z Z<|.ns<|.aq Z<|.sq<|.sr<|.fA Z fG<|.lD Z eQ Hm Z<|.yw (.lenSl eL Z)<|.mv Z<|.nt<|.bk<|.lp (X:=Nat) [(7,_),(8,_)] ⟨Z,Z,Jt⟩ [_] (λk=>[(3,iN (Ex.deeps (args.take k))),(9,iN k)]) (λk=>H) (λk=>[]) (λk=>k<=args.length) (λk=>args.length - k) 0 (λ_ s=>s) ⟨Z,Z,Jt⟩ (by omega) λk hC=>?_
 refine .sr<|.yw (.lss Z Z)<|.nt<|.sq<|.ce Z (λh10=>?_) (λh10=>?_)
 ·have hk:k<args.length:=by omega
  obtain ⟨b5,o5,c5,hp5,r5,l5,m5⟩:=hs.elem (fW hk);cases hp5;have h1:=MJ args k;have h2:=WF hk;have h3:=MK hk;exact .sk<|.tN<|.sq<|.bk<|.sr<|.yw (.indexSl eL Z Z Z (by omega) (q:=o5+k * 4) Z)<|.yw (.loadMW Z dH m5 l5)<|.al iM Z λb5=>.sV .head Z Z gP l5 r5.one Z<|.nt<|.rg<|.mv Z<|.yw (.loadW Z dH Hm l5)<|.yw (.call ID Z (λW s=>ih _ (bI hk) H c5 W r5 (by omega) s.agr))<|.yw (.max2 Z Z (c:=((Ex.deeps (args.take (k+1)):Nat):Int)) (by omega))<|.a Z Z<|.nl<|.bN<|.tN<|.rg<|.yw (.add Z Z w7)<|.mv Z<|.nt<|.ag (k+1) ⟨Z,Z,Jt⟩ ⟨Z,Z,Jt⟩ (λ_ s=>s.pick [1] [_] Z Z) (by omega) (by omega)
 obtain rfl:k=args.length:=by omega
 rw [aZ];refine .ex<|.eb<|.sm Z<|.yw (.add Z Z w7)<|.az Z<|?_
 exact y9 Z Z λW s=>⟨by rw [qO];rfl,s.ext⟩
def mW (c:UInt8):Bool:=(decide (97<=c.toNat) && decide (c.toNat<=122)) || (decide (65<=c.toNat) && decide (c.toNat<=90))
def iA (c:UInt8):Bool:=decide (48<=c.toNat) && decide (c.toNat<=57)
def iC (c:UInt8):Bool:=mW c || iA c || decide (c.toNat=95)
def words:List Str:=[[97,102,116,101,114],[97,108,119,97,121,115],[97,110,100],[97,114,114,105,118,101,115],[98,111,111,108],[99,111,109,112,111,110,101,110,116],[99,111,117,110,116],[100,101,108,101,116,101],[100,111],[101,108,115,101],[101,120,105,115,116,115],[102,97,108,115,101],[102,101,116,99,104],[102,108,97,103],[102,108,101,101,116],[102,111,114,97,108,108],[104,97,115],[105,102],[105,109,112,108,105,101,115],[105,110],[105,110,116],[108,97,116,101,110,99,121],[108,105,110,107],[110,111,116],[110,111,119],[111,110],[111,110,99,101],[111,114],[112,114,101,118,105,111,117,115],[115,101,110,100],[115,105,110,99,101],[115,105,122,101],[115,116,111,112],[115,116,111,114,101],[116,97,98,108,101],[116,114,117,101],[118,97,114],[118,101,114,115,105,111,110],[119,104,105,108,101]]
def symbols:List Str:=[[46,46],[61,61],[33,61],[60,61],[62,61],[45,62],[123],[125],[40],[41],[91],[93],[44],[59],[58],[46],[61],[60],[62],[43],[45],[42],[47],[37],[95]]
def pre (q:UInt8->Bool) (l:Str):Nat:=(l.takeWhile q).length
theorem tQ (q:UInt8->Bool) (l:Str):pre q l<=l.length:=by
 unfold pre;induction l with
 | nil=>simp
 | cons a r ih=>rw [eA];split <;> simp;omega
theorem qK {q:UInt8->Bool}:∀ {l:Str} {k:Nat} (h:k<l.length),k<=pre q l->q l[k]=true->k+1<=pre q l
 | [],k,h,_,_=>by simp at h
 | a::r,0,h,_,hq=>by
  unfold pre;rw [eA];simp at hq;simp [hq]
 | a::r,k+1,h,hk,hq=>by
  unfold pre at hk|-;rw [eA] at hk|-;cases ha:q a with
  | false=>rw [ha] at hk;simp at hk
  | true =>
   rw [ha] at hk;simp at hk hq;have:=qK (l:=r) (k:=k) (by simpa using h) hk hq;unfold pre at this;simp;omega
theorem wW {q:UInt8->Bool}:∀ {l:Str} {k:Nat} (h:k<l.length),k<=pre q l->q l[k]=false->k=pre q l
 | [],k,h,_,_=>by simp at h
 | a::r,0,h,_,hq=>by
  unfold pre;rw [eA];simp at hq;simp [hq]
 | a::r,k+1,h,hk,hq=>by
  unfold pre at hk|-;rw [eA] at hk|-;cases ha:q a with
  | false=>rw [ha] at hk;simp at hk
  | true =>
   rw [ha] at hk;simp at hk hq;have:=wW (l:=r) (k:=k) (by simpa using h) hk hq;unfold pre at this;simp;omega
def bU (l:Str):UInt8 × Nat :=
 let c:=l.headD 0
 if mW c then
  if words.contains (l.take (pre iC l)) then (2,pre iC l) else if pre iC l<=12 then (1,pre iC l) else (5,l.length)
 else if iA c then
  if pre iA l=1\/c≠48 then (3,pre iA l) else (5,l.length)
 else match symbols.find? (λx=>x.isPrefixOf l) with
  | some x=>(4,x.length)
  | none=>(5,l.length)
def eN (l:Str):Bool:=decide (l≠[]) && (bU l).1 == 1 && decide ((bU l).2=l.length)
def xO (l m:Str):Bool:=decide (m.length<=l.length) && decide (l.take m.length=m)
theorem BS (l m:Str):xO l m=m.isPrefixOf l:=by
 rw [aU];simp only [xO,aF,aD,gW]
 constructor
 ·rintro ⟨_,h⟩;have:=eF m.length l;rw [h] at this;exact ⟨_,this⟩
 ·rintro ⟨t,rfl⟩;simp
theorem zZ {α:Type} {l:List α} (h:k<l.length) (d:α):l.getD k d=l[k]:=by simp [h]
theorem uV {α β:Type} {f:α->β} {l:List α} (h:k<l.length) (d:α):(l.map f)[k]? = some (f (l.getD k d)):=by simp [h]
structure Shp where
 n:Nat
 nm:Bool
 lv:Nat
 tx:Str
structure Frm where
 nm:Bool
 hd:Bool
 lo:Nat
 hi:Nat
 th:Bool
 el:Bool
def shapes:List Shp:=[⟨0,false,0,[]⟩,⟨0,false,7,[]⟩,⟨0,false,7,[116,114,117,101]⟩,⟨0,false,7,[102,97,108,115,101]⟩,⟨0,false,7,[110,111,119]⟩,⟨0,true,7,[]⟩,⟨1,true,7,[]⟩,⟨1,true,7,[104,97,115,32]⟩,⟨0,true,7,[115,105,122,101,32]⟩,⟨1,false,6,[45]⟩,⟨1,false,6,[110,111,116,32]⟩,⟨2,false,5,[32,42,32]⟩,⟨2,false,5,[32,47,32]⟩,⟨2,false,5,[32,37,32]⟩,⟨2,false,4,[32,43,32]⟩,⟨2,false,4,[32,45,32]⟩,⟨2,false,3,[32,61,61,32]⟩,⟨2,false,3,[32,33,61,32]⟩,⟨2,false,3,[32,60,32]⟩,⟨2,false,3,[32,60,61,32]⟩,⟨2,false,3,[32,62,32]⟩,⟨2,false,3,[32,62,61,32]⟩,⟨2,false,2,[32,97,110,100,32]⟩,⟨2,false,1,[32,111,114,32]⟩]
def JE:List Frm:=[⟨false,false,0,0,false,false⟩,⟨true,false,1,1,false,false⟩,⟨true,false,2,2,false,false⟩,⟨true,false,1,1,false,false⟩,⟨false,false,1,1,true,true⟩,⟨false,false,1,1,true,false⟩,⟨true,true,0,4,false,false⟩,⟨false,true,1,5,false,false⟩,⟨false,false,2,2,false,true⟩,⟨true,false,1,1,false,true⟩,⟨false,false,0,0,false,false⟩]
def GA (op:UInt8):Bool:=decide (1<=op.toNat) && decide (op.toNat<=23)
def LK (op:UInt8):Bool:=decide (1<=op.toNat) && decide (op.toNat<=10)
def cK (op:UInt8):Shp:=if GA op then shapes.getD op.toNat ⟨0,false,0,[]⟩ else ⟨0,false,0,[]⟩
def sJ (op:UInt8):Frm:=if LK op then JE.getD op.toNat ⟨false,false,0,0,false,false⟩ else ⟨false,false,0,0,false,false⟩
theorem aE9 {α:Type} {f:α->List Value} {z:Nat} (hz:∀ a,(f a).length=z):∀ {l:List α} {i:Nat} (d:α),i<l.length->∀ (j:Nat) u,(f (l.getD i d))[j]? = some u->(l.flatMap f)[i * z+j]? = some u
 | [],i,d,h,j,u,e=>by simp at h
 | a::r,0,d,h,j,u,e=>by
  simp only [List.flatMap_cons,pM,dV];simp at e;rw [List.getElem?_append_left (List.getElem?_eq_some_iff.1 e).1];exact e
 | a::r,i+1,d,h,j,u,e=>by
  simp only [List.flatMap_cons];rw [List.getElem?_append_right (by rw [hz,gN];omega),hz,show (i+1) * z+j - z=i * z+j by rw [gN];omega];exact aE9 hz d (by simpa using h) j u (by simpa using e)
structure Gl (H:Hp):Prop where
 words:kU H 5 0 (words.map cH)
 symbols:kU H 3 0 (symbols.map cH)
variable {H H':Hp}
theorem Gl.up (g:Gl H) (u:Up H H'):Gl H':=⟨g.words.up u,g.symbols.up u⟩
theorem aQ2:kS prg 235=some (some 39):=by kernel_rfl
theorem aP8:bD4 prg 235=true:=by kernel_rfl
theorem aP4:NW prg 235=some (39,1):=by kernel_rfl
theorem MV:cZ prg 150=true:=by kernel_rfl
theorem AK:cZ prg 153=true:=by kernel_rfl
theorem ZD:cZ prg 179=true:=by kernel_rfl
theorem dI:AY prg 9=true:=by kernel_rfl
theorem LR (c:UInt8) (w:World):Calls prg 150 #[DT c] w λr w'=>r=.returned (.bool (mW c))/\Ext w w':=by
 refine y6 func150 Z ntmps150 Z ?_;refine .sr<|.a Z Z<|.ns<|.mv Z<|.yw (.geq Z Z)<|.mv Z<|.e2 (λh5=>?_) (λh5=>?_)
 ·refine .gy (.move Z)<|.gy (.leq Z Z)<|.yw (.pickT Z Z)<|.mv Z<|.e2 (λh9=>?_) (λh9=>?_)
  ·refine .gG<|.gG<|.gG<|.gV<|.gV<|.gG<|.yw (.pickT Z Z)<|.az Z<|?_
   exact y9 Z Z λW s=>⟨wE (by simp only [mW,aT,aF,aD,reduceCtorEq,bW,bP,bY,bM,dL,aV,aE];try omega),s.ext⟩
  refine .gy (.move Z)<|.gy (.geq Z Z)<|.gy (.move Z)<|.b2 (λh12=>?_) (λh12=>?_)
  ·try simp only [dt] at h12
   refine .gy (.move Z)<|.gy (.leq Z Z)<|.gy (.pickT Z Z)<|.yw (.pickF Z Z)<|.az Z<|?_
   exact y9 Z Z λW s=>⟨wE (by simp only [mW,aT,aF,aD,reduceCtorEq,bW,bP,bY,bM,dL,aV,aE];try omega),s.ext⟩
  try simp only [df] at h12
  refine .gG<|.gG<|.gy (.pickF Z Z)<|.yw (.pickF Z Z)<|.az Z<|?_
  exact y9 Z Z λW s=>⟨wE (by simp only [mW,aT,aF,aD,reduceCtorEq,bW,bP,bY,bM,dL,aV,aE];try omega),s.ext⟩
 refine .gG<|.gG<|.yw (.pickF Z Z)<|.mv Z<|.gy (.move Z)<|.gy (.geq Z Z)<|.gy (.move Z)<|.b2 (λh12=>?_) (λh12=>?_)
 ·try simp only [dt] at h12
  refine .gy (.move Z)<|.gy (.leq Z Z)<|.gy (.pickT Z Z)<|.yw (.pickF Z Z)<|.az Z<|?_
  exact y9 Z Z λW s=>⟨wE (by simp only [mW,aT,aF,aD,reduceCtorEq,bW,bP,bY,bM,dL,aV,aE];try omega),s.ext⟩
 try simp only [df] at h12
 refine .gG<|.gG<|.gy (.pickF Z Z)<|.yw (.pickF Z Z)<|.az Z<|?_
 exact y9 Z Z λW s=>⟨wE (by simp only [mW,aT,aF,aD,reduceCtorEq,bW,bP,bY,bM,dL,aV,aE];try omega),s.ext⟩
theorem CQ (c:UInt8) (w:World):Calls prg 153 #[DT c] w λr w'=>r=.returned (.bool (iA c))/\Ext w w':=by
 refine y6 func153 Z ntmps153 Z ?_;refine .sr<|.a Z Z<|.ns<|.mv Z<|.yw (.geq Z Z)<|.mv Z<|.e2 (λh5=>?_) (λh5=>?_)
 ·refine .gy (.move Z)<|.gy (.leq Z Z)<|.yw (.pickT Z Z)<|.az Z<|?_
  exact y9 Z Z λW s=>⟨wE (by simp only [iA,aT,aF,aD,reduceCtorEq,bW,bP,bY,bM,dL,aV,aE];try omega),s.ext⟩
 refine .gG<|.gG<|.yw (.pickF Z Z)<|.az Z<|?_
 exact y9 Z Z λW s=>⟨wE (by simp only [iA,aT,aF,aD,reduceCtorEq,bW,bP,bY,bM,dL,aV,aE];try omega),s.ext⟩
theorem IV (c:UInt8) (w:World):Calls prg 124 #[DT c] w λr w'=>r=.returned (.bool (mW c))/\Ext w w':=by
 refine y6 func124 Z ntmps124 Z ?_;refine .sr<|.a Z Z<|.ns<|.mv Z<|.yw (.geq Z Z)<|.mv Z<|.e2 (λh5=>?_) (λh5=>?_)
 ·refine .gy (.move Z)<|.gy (.leq Z Z)<|.yw (.pickT Z Z)<|.mv Z<|.e2 (λh9=>?_) (λh9=>?_)
  ·refine .gG<|.gG<|.gG<|.gV<|.gV<|.gG<|.yw (.pickT Z Z)<|.az Z<|?_
   exact y9 Z Z λW s=>⟨wE (by simp only [mW,aT,aF,aD,reduceCtorEq,bW,bP,bY,bM,dL,aV,aE];try omega),s.ext⟩
  refine .gy (.move Z)<|.gy (.geq Z Z)<|.gy (.move Z)<|.b2 (λh12=>?_) (λh12=>?_)
  ·try simp only [dt] at h12
   refine .gy (.move Z)<|.gy (.leq Z Z)<|.gy (.pickT Z Z)<|.yw (.pickF Z Z)<|.az Z<|?_
   exact y9 Z Z λW s=>⟨wE (by simp only [mW,aT,aF,aD,reduceCtorEq,bW,bP,bY,bM,dL,aV,aE];try omega),s.ext⟩
  try simp only [df] at h12
  refine .gG<|.gG<|.gy (.pickF Z Z)<|.yw (.pickF Z Z)<|.az Z<|?_
  exact y9 Z Z λW s=>⟨wE (by simp only [mW,aT,aF,aD,reduceCtorEq,bW,bP,bY,bM,dL,aV,aE];try omega),s.ext⟩
 refine .gG<|.gG<|.yw (.pickF Z Z)<|.mv Z<|.gy (.move Z)<|.gy (.geq Z Z)<|.gy (.move Z)<|.b2 (λh12=>?_) (λh12=>?_)
 ·try simp only [dt] at h12
  refine .gy (.move Z)<|.gy (.leq Z Z)<|.gy (.pickT Z Z)<|.yw (.pickF Z Z)<|.az Z<|?_
  exact y9 Z Z λW s=>⟨wE (by simp only [mW,aT,aF,aD,reduceCtorEq,bW,bP,bY,bM,dL,aV,aE];try omega),s.ext⟩
 try simp only [df] at h12
 refine .gG<|.gG<|.gy (.pickF Z Z)<|.yw (.pickF Z Z)<|.az Z<|?_
 exact y9 Z Z λW s=>⟨wE (by simp only [mW,aT,aF,aD,reduceCtorEq,bW,bP,bY,bM,dL,aV,aE];try omega),s.ext⟩
theorem EG (c:UInt8) (w:World):Calls prg 125 #[DT c] w λr w'=>r=.returned (.bool (iA c))/\Ext w w':=by
 refine y6 func125 Z ntmps125 Z ?_;refine .sr<|.a Z Z<|.ns<|.mv Z<|.yw (.geq Z Z)<|.mv Z<|.e2 (λh5=>?_) (λh5=>?_)
 ·refine .gy (.move Z)<|.gy (.leq Z Z)<|.yw (.pickT Z Z)<|.az Z<|?_
  exact y9 Z Z λW s=>⟨wE (by simp only [iA,aT,aF,aD,reduceCtorEq,bW,bP,bY,bM,dL,aV,aE];try omega),s.ext⟩
 refine .gG<|.gG<|.yw (.pickF Z Z)<|.az Z<|?_
 exact y9 Z Z λW s=>⟨wE (by simp only [iA,aT,aF,aD,reduceCtorEq,bW,bP,bY,bM,dL,aV,aE];try omega),s.ext⟩
theorem YE (c:UInt8) (w:World):Calls prg 151 #[DT c] w λr w'=>r=.returned (.bool (iC c))/\Ext w w':=by
 refine y6 func151 Z ntmps151 Z ?_;refine .sr<|.a Z Z<|.ns<|.mv Z<|.yw (.call MV Z (λW s=>LR c W))<|.mv Z<|.b2 (λh5=>?_) (λh5=>?_)
 ·refine .gG<|.gG<|.yw (.pickT Z Z)<|.mv Z<|.gG<|.gG<|.yw (.pickT Z Z)<|.az Z<|?_
  exact y9 Z Z λW s=>⟨wE (by simp_all [iC];try omega),s.ext⟩
 refine .gy (.move Z)<|.gy (.call AK Z (λW s=>CQ c W))<|.yw (.pickF Z Z)<|.mv Z<|.b2 (λh9=>?_) (λh9=>?_)
 ·refine .gG<|.gG<|.yw (.pickT Z Z)<|.az Z<|?_
  exact y9 Z Z λW s=>⟨wE (by simp_all [iC];try omega),s.ext⟩
 refine .gy (.move Z)<|.gy (.eql Z Z)<|.yw (.pickF Z Z)<|.az Z<|?_
 exact y9 Z Z λW s=>⟨wE (by simp_all [iC];try omega),s.ext⟩
theorem wV (gf:FuncId) (q:UInt8->Bool) (hf:cZ prg gf=true) (hg:∀ b w,Calls prg gf #[DT b] w λr w'=>r=.returned (.bool (q b))/\Ext w w') (l:Str) (hl:l.length<=9223372036854775807) (w:World) :
 Calls prg 146 #[cH l,.func (.func gf) #[] #[]] w λr w'=>r=.returned (iN (pre q l))/\Ext w w':=by
 refine y6 func146 Z ntmps146 Z ?_;refine .sr<|.a Z Z<|.ns<|.aq Z<|.sq<|.bk<|.lp (X:=Nat) [(0,_),(1,_)] ⟨Z,Z,Jt⟩ [] (λk=>[(5,iN k)]) (λk=>(⟨λ_=>none,0⟩:Hp)) (λk=>[]) (λk=>k<=pre q l) (λk=>l.length - k) 0 (λ_ s=>s) ⟨Z,Jt⟩ (by omega) λk hC=>?_
 have hp:=tQ q l;refine .sq<|.sm Z<|.mv Z<|.yw (.lenS dI Z)<|.yw (.lss Z Z)<|.mv Z<|.e2 (λh10=>?_) (λh10=>?_)
 ·have hk:k<l.length:=by omega
  refine .gy (.move Z)<|.gy (.move Z)<|.gy (.move Z)<|.gy (.idxS dI Z Z Z (List.getElem?_eq_getElem hk))<|.gy (.callV (fi:=[]) (ca:=[]) Z hf Z (λW s=>hg _ W))<|.yw (.pickT Z Z)<|.nt<|.cd Z (λh16=>?_) (λh16=>?_)
  ·exact .sk<|.tN<|.bk<|.rg<|.mv Z<|.yw (.add Z Z w7)<|.a Z Z<|.nl<|.bN<|.tN<|.ag (k+1) ⟨Z,Jt⟩ ⟨Z,Z,Jt⟩ (λ_ s=>s) (qK hk hC (by simpa using h16)) (by omega)
  refine .ex<|.eb<|.sm Z<|.az Z<|?_
  first
   | exact y9 Z Z λW s=>⟨by rw [show k=pre q l by omega],s.ext⟩
   | exact y9 Z Z λW s=>⟨by rw [wW hk hC (by simpa using h16)],s.ext⟩
 refine .gG<|.gG<|.gG<|.gG<|.gG<|.yw (.pickF Z Z)<|.nt<|.cF Z<|.ex<|.eb<|.sm Z<|.az Z<|?_
 first
  | exact y9 Z Z λW s=>⟨by rw [show k=pre q l by omega],s.ext⟩
  | exact y9 Z Z λW s=>⟨by rw [wW hk hC (by simpa using h16)],s.ext⟩
theorem VG (H:Hp) (G:Gl H) (l:Str) (w:World) (hA:Agr H w) :
 Calls prg 152 #[cH l] w λr w'=>r=.returned (.bool (words.contains l))/\Ext w w':=by
 refine Sx.enter (H:=H) func152 rfl ntmps152 rfl hA ?_;refine .sr<|.aq Z<|.sq<|.sr<|.yw (.loadMW Z aQ2 G.words Z)<|.mv Z<|.nt<|.bk<|.lp (X:=Nat) [(0,_),(5,_)] ⟨Z,Z,Jt⟩ [] (λk=>[(6,iN k)]) (λk=>H) (λk=>[]) (λk=>k<=39/\∀ j,j<k->words.getD j []≠l) (λk=>39 - k) 0 (λ_ s=>s) ⟨Z,Jt⟩ ⟨by omega,λj hj=>by omega⟩ λk hC=>?_
 obtain ⟨hk,hne⟩:=hC;refine .sr<|.yw (.lss Z Z)<|.nt<|.sq<|.ce Z (λh7=>?_) (λh7=>?_)
 ·refine .sk<|.tN<|.sq<|.bk<|.sr<|.yw (.idxA aP4 aP8 Z Z Z (by omega) (uV (by show k<39;omega) []))<|.a Z Z<|.ns<|.mv Z<|.mv Z<|.yw (.eqS Z Z)<|.nt<|.ce Z (λh11=>?_) (λh11=>?_)
  ·have hmem:l∈words:=by
    rw [<-h11,zZ (show k<words.length by show k<39;omega)];exact bI _
   refine .sr<|.az Z<|.bR<|.tR<|.tR<|.bR<|.tR<|?_
   exact y9 Z Z λW s=>⟨wE (by simp [fR, *]),s.ext⟩
  exact .sk<|.bN<|.tN<|.rg<|.yw (.add Z Z w7)<|.mv Z<|.nt<|.ag (k+1) ⟨Z,Jt⟩ ⟨Z,Z,Jt⟩ (λ_ s=>s) ⟨by omega,λj hj=>by
   by_cases e:j=k
   ·subst e;exact h11
   ·exact hne j (by omega)⟩ (by omega)
 have hno:l ∉ words:=λhm=>by
  obtain ⟨j,hj,e⟩:=oO.1 hm;have hj2:j<39:=hj;exact hne j (by omega) (by rw [zZ hj];exact e)
 refine .ex<|.eb<|.sr<|.az Z<|?_
 exact y9 Z Z λW s=>⟨wE (by simp [fR, *]),s.ext⟩
theorem LV (l m:Str) (w:World):Calls prg 179 #[cH l,cH m] w λr w'=>r=.returned (.bool (xO l m))/\Ext w w':=by
 refine y6 func179 Z ntmps179 Z ?_;refine .sr<|.a Z Z<|.ns<|.mv Z<|.yw (.lenS dI Z)<|.mv Z<|.yw (.lenS dI Z)<|.yw (.geq Z Z)<|.mv Z<|.e2 (λh10=>?_) (λh10=>?_)
 ·refine .gy (.move Z)<|.gy (.move Z)<|.gy (.lenS dI Z)<|.gy (.takeS dI Z Z Z (by omega))<|.gy (.move Z)<|.gy (.eqS Z Z)<|.yw (.pickT Z Z)<|.az Z<|?_
  exact y9 Z Z λW s=>⟨wE (by first | (simp only [xO,aT,aF,aD,reduceCtorEq,bW,bP,bY,bM,dL,aV,aE];omega) | exact ⟨λe=>by simp only [xO,aT,aF,aD,reduceCtorEq,bW,bP,bY,bM,dL,aV,aE] at e|-;exact ⟨by omega,e⟩,λe=>by simp only [xO,aT,aF,aD,reduceCtorEq,bW,bP,bY,bM,dL,aV,aE] at e|-;exact e.2⟩),s.ext⟩
 refine .gG<|.gG<|.gG<|.gG<|.gG<|.gG<|.yw (.pickF Z Z)<|.az Z<|?_
 exact y9 Z Z λW s=>⟨wE (by first | (simp only [xO,aT,aF,aD,reduceCtorEq,bW,bP,bY,bM,dL,aV,aE];omega) | exact ⟨λe=>by simp only [xO,aT,aF,aD,reduceCtorEq,bW,bP,bY,bM,dL,aV,aE] at e|-;exact ⟨by omega,e⟩,λe=>by simp only [xO,aT,aF,aD,reduceCtorEq,bW,bP,bY,bM,dL,aV,aE] at e|-;exact e.2⟩),s.ext⟩
theorem DQ (l m:Str) (w:World):Calls prg 148 #[cH l,cH m] w λr w'=>r=.returned (.bool (xO l m))/\Ext w w':=by
 refine y6 func148 Z ntmps148 Z ?_;refine .sr<|.a Z Z<|.ns<|.mv Z<|.mv Z<|.yw (.call ZD Z (λW s=>LV l m W))<|.az Z<|?_
 exact y9 Z Z λW s=>⟨Z,s.ext⟩
theorem aQ3:kS prg 217=some (some 25):=by kernel_rfl
theorem aP9:bD4 prg 217=true:=by kernel_rfl
theorem aP5:NW prg 217=some (25,1):=by kernel_rfl
theorem QC:cZ prg 97=true:=by kernel_rfl
theorem xI:cZ prg 146=true:=by kernel_rfl
theorem MW:cZ prg 148=true:=by kernel_rfl
theorem ZG:cZ prg 151=true:=by kernel_rfl
theorem ZF:cZ prg 152=true:=by kernel_rfl
theorem UB {l:Str} (hk:k<25) (h0:∀ j,j<k->xO l (symbols.getD j [])=false) (h1:xO l (symbols.getD k [])=true):symbols.find? (λx=>x.isPrefixOf l)=some (symbols.getD k []):=by
 have hk':k<symbols.length:=hk;rw [zZ hk'] at h1|-;rw [BS] at h1;refine List.find?_eq_some_iff_getElem.2 ⟨h1,k,hk',Z,λj hj=>?_⟩;have:=h0 j hj;rw [zZ (by omega),BS] at this;simp [this]
theorem UA {l:Str} (h0:∀ j,j<25->xO l (symbols.getD j [])=false):symbols.find? (λx=>x.isPrefixOf l)=none:=by
 rw [List.find?_eq_none];intro x hx;obtain ⟨j,hj,rfl⟩:=oO.1 hx;have:=h0 j hj;rw [zZ hj,BS] at this;simp [this]
theorem UL (H:Hp) (G:Gl H) (l:Str) (hl:l.length<=9223372036854775807) (h0:l≠[]) (w:World) (hA:Agr H w) :
 Calls prg 97 #[cH l] w λe w'=>e=.returned (.tuple #[.int .u8 ((bU l).1.toNat:Nat),iN ((bU l).2)])/\Ext w w':=by
 match l,h0 with
 | c::r,_ =>
 refine Sx.enter (H:=H) func97 rfl ntmps97 rfl hA ?_;refine .sr<|.a Z Z<|.aq Z<|.sq<|.sm Z<|.yw (.idxS dI Z Z Z (b:=c) (j:=0) Z)<|.aq Z<|.bk<|.sm Z<|.yw (.call MV Z (λW s=>LR c W))<|.aq Z<|.cd Z (λh21=>?_) (λh21=>?_)
 ·refine .sm Z<|.yw (.call xI Z (λW s=>wV 151 iC ZG YE (c::r) hl W))<|.aq Z<|.sq<|.sm Z<|.mv Z<|.yw (.takeS dI Z Z Z (tQ _ _))<|.yw (.call ZF Z (λW s=>VG H G _ W s.agr))<|.nt<|.cd Z (λh29=>?_) (λh29=>?_)
  ·refine .sm Z<|.a Z Z<|.az Z<|.tR<|.bR<|.tR<|?_
   first
    | exact y7 Z (.cons (.tmp rfl) (.cons (.tmp rfl) .nil)) rfl λW s=>⟨by simp only [bU,aN,h21,h29,aY];rfl,s.ext⟩
    | exact y7 Z (.cons (.tmp rfl) (.cons (.tmp rfl) .nil)) rfl λW s=>⟨by simp only [bU,aN,h21,h29,aY,aE,aW,show pre iC (c::r)<=12 by omega];rfl,s.ext⟩
    | exact y7 Z (.cons (.tmp rfl) (.cons (.tmp rfl) .nil)) rfl λW s=>⟨by simp only [bU,aN,h21,h29,aY,aE,aW,show ¬ pre iC (c::r)<=12 by omega];rfl,s.ext⟩
    | exact y7 Z (.cons (.tmp rfl) (.cons (.tmp rfl) .nil)) rfl λW s=>⟨by simp only [bU,aN,h21,h34,aY,aE,aW,hor];rfl,s.ext⟩
    | exact y7 Z (.cons (.tmp rfl) (.cons (.tmp rfl) .nil)) rfl λW s=>⟨by simp only [bU,aN,h21,h34,aE,aW,hfind];rfl,s.ext⟩
  refine .sk<|.tN<|.sm Z<|.yw (.leq Z Z)<|.nt<|.ce Z (λh32=>?_) (λh32=>?_)
  ·refine .sm Z<|.a Z Z<|.az Z<|.bR<|.tR<|?_
   first
    | exact y7 Z (.cons (.tmp rfl) (.cons (.tmp rfl) .nil)) rfl λW s=>⟨by simp only [bU,aN,h21,h29,aY];rfl,s.ext⟩
    | exact y7 Z (.cons (.tmp rfl) (.cons (.tmp rfl) .nil)) rfl λW s=>⟨by simp only [bU,aN,h21,h29,aY,aE,aW,show pre iC (c::r)<=12 by omega];rfl,s.ext⟩
    | exact y7 Z (.cons (.tmp rfl) (.cons (.tmp rfl) .nil)) rfl λW s=>⟨by simp only [bU,aN,h21,h29,aY,aE,aW,show ¬ pre iC (c::r)<=12 by omega];rfl,s.ext⟩
    | exact y7 Z (.cons (.tmp rfl) (.cons (.tmp rfl) .nil)) rfl λW s=>⟨by simp only [bU,aN,h21,h34,aY,aE,aW,hor];rfl,s.ext⟩
    | exact y7 Z (.cons (.tmp rfl) (.cons (.tmp rfl) .nil)) rfl λW s=>⟨by simp only [bU,aN,h21,h34,aE,aW,hfind];rfl,s.ext⟩
  refine .sk<|.bN<|.tN<|.sm Z<|.yw (.lenS dI Z)<|.a Z Z<|.az Z<|?_
  first
   | exact y7 Z (.cons (.tmp rfl) (.cons (.tmp rfl) .nil)) rfl λW s=>⟨by simp only [bU,aN,h21,h29,aY];rfl,s.ext⟩
   | exact y7 Z (.cons (.tmp rfl) (.cons (.tmp rfl) .nil)) rfl λW s=>⟨by simp only [bU,aN,h21,h29,aY,aE,aW,show pre iC (c::r)<=12 by omega];rfl,s.ext⟩
   | exact y7 Z (.cons (.tmp rfl) (.cons (.tmp rfl) .nil)) rfl λW s=>⟨by simp only [bU,aN,h21,h29,aY,aE,aW,show ¬ pre iC (c::r)<=12 by omega];rfl,s.ext⟩
   | exact y7 Z (.cons (.tmp rfl) (.cons (.tmp rfl) .nil)) rfl λW s=>⟨by simp only [bU,aN,h21,h34,aY,aE,aW,hor];rfl,s.ext⟩
   | exact y7 Z (.cons (.tmp rfl) (.cons (.tmp rfl) .nil)) rfl λW s=>⟨by simp only [bU,aN,h21,h34,aE,aW,hfind];rfl,s.ext⟩
 refine .sm Z<|.yw (.call AK Z (λW s=>CQ c W))<|.aq Z<|.cd Z (λh34=>?_) (λh34=>?_)
 ·refine .sm Z<|.yw (.call xI Z (λW s=>wV 153 iA AK CQ (c::r) hl W))<|.a Z Z<|.ns<|.mv Z<|.yw (.eql Z Z)<|.mv Z<|.e2 (λh41=>?_) (λh41=>?_)
  ·have hor:(pre iA (c::r)=1\/c≠48)=True:=eq_true (.inl (by omega));refine .gG<|.gG<|.yw (.pickT Z Z)<|.nt<|.cT Z<|.sm Z<|.a Z Z<|.az Z<|.bR<|.tR<|?_
   first
    | exact y7 Z (.cons (.tmp rfl) (.cons (.tmp rfl) .nil)) rfl λW s=>⟨by simp only [bU,aN,h21,h29,aY];rfl,s.ext⟩
    | exact y7 Z (.cons (.tmp rfl) (.cons (.tmp rfl) .nil)) rfl λW s=>⟨by simp only [bU,aN,h21,h29,aY,aE,aW,show pre iC (c::r)<=12 by omega];rfl,s.ext⟩
    | exact y7 Z (.cons (.tmp rfl) (.cons (.tmp rfl) .nil)) rfl λW s=>⟨by simp only [bU,aN,h21,h29,aY,aE,aW,show ¬ pre iC (c::r)<=12 by omega];rfl,s.ext⟩
    | exact y7 Z (.cons (.tmp rfl) (.cons (.tmp rfl) .nil)) rfl λW s=>⟨by simp only [bU,aN,h21,h34,aY,aE,aW,hor];rfl,s.ext⟩
    | exact y7 Z (.cons (.tmp rfl) (.cons (.tmp rfl) .nil)) rfl λW s=>⟨by simp only [bU,aN,h21,h34,aE,aW,hfind];rfl,s.ext⟩
  refine .gy (.move Z)<|.gy (.neq Z Z)<|.yw (.pickF Z Z)<|.nt<|.ce Z (λh44=>?_) (λh44=>?_)
  ·have hor:(pre iA (c::r)=1\/c≠48)=True:=eq_true (.inr λe=>h44 (by rw [e];rfl));refine .sm Z<|.a Z Z<|.az Z<|.bR<|.tR<|?_
   first
    | exact y7 Z (.cons (.tmp rfl) (.cons (.tmp rfl) .nil)) rfl λW s=>⟨by simp only [bU,aN,h21,h29,aY];rfl,s.ext⟩
    | exact y7 Z (.cons (.tmp rfl) (.cons (.tmp rfl) .nil)) rfl λW s=>⟨by simp only [bU,aN,h21,h29,aY,aE,aW,show pre iC (c::r)<=12 by omega];rfl,s.ext⟩
    | exact y7 Z (.cons (.tmp rfl) (.cons (.tmp rfl) .nil)) rfl λW s=>⟨by simp only [bU,aN,h21,h29,aY,aE,aW,show ¬ pre iC (c::r)<=12 by omega];rfl,s.ext⟩
    | exact y7 Z (.cons (.tmp rfl) (.cons (.tmp rfl) .nil)) rfl λW s=>⟨by simp only [bU,aN,h21,h34,aY,aE,aW,hor];rfl,s.ext⟩
    | exact y7 Z (.cons (.tmp rfl) (.cons (.tmp rfl) .nil)) rfl λW s=>⟨by simp only [bU,aN,h21,h34,aE,aW,hfind];rfl,s.ext⟩
  have hor:(pre iA (c::r)=1\/c≠48)=False:=eq_false λh=>by
   rcases h with h | h
   ·omega
   ·exact h (aS.1 (by show c.toNat=48;simp at h44;omega))
  refine .sk<|.bN<|.tN<|.sm Z<|.yw (.lenS dI Z)<|.a Z Z<|.az Z<|?_
  first
   | exact y7 Z (.cons (.tmp rfl) (.cons (.tmp rfl) .nil)) rfl λW s=>⟨by simp only [bU,aN,h21,h29,aY];rfl,s.ext⟩
   | exact y7 Z (.cons (.tmp rfl) (.cons (.tmp rfl) .nil)) rfl λW s=>⟨by simp only [bU,aN,h21,h29,aY,aE,aW,show pre iC (c::r)<=12 by omega];rfl,s.ext⟩
   | exact y7 Z (.cons (.tmp rfl) (.cons (.tmp rfl) .nil)) rfl λW s=>⟨by simp only [bU,aN,h21,h29,aY,aE,aW,show ¬ pre iC (c::r)<=12 by omega];rfl,s.ext⟩
   | exact y7 Z (.cons (.tmp rfl) (.cons (.tmp rfl) .nil)) rfl λW s=>⟨by simp only [bU,aN,h21,h34,aY,aE,aW,hor];rfl,s.ext⟩
   | exact y7 Z (.cons (.tmp rfl) (.cons (.tmp rfl) .nil)) rfl λW s=>⟨by simp only [bU,aN,h21,h34,aE,aW,hfind];rfl,s.ext⟩
 refine .sr<|.yw (.loadMW Z aQ3 G.symbols Z)<|.mv Z<|.nt<|.bk<|.lp (X:=Nat) [(0,_),(11,_)] ⟨Z,Z,Jt⟩ [] (λk=>[(12,iN k)]) (λk=>H) (λk=>[]) (λk=>k<=25/\∀ j,j<k->xO (c::r) (symbols.getD j [])=false) (λk=>25 - k) 0 (λ_ s=>s) ⟨Z,Jt⟩ ⟨by omega,λj hj=>by omega⟩ λk hC=>?_
 obtain ⟨hk,hne⟩:=hC;refine .sr<|.yw (.lss Z Z)<|.nt<|.sq<|.ce Z (λh13=>?_) (λh13=>?_)
 ·refine .sk<|.tN<|.sq<|.bk<|.sr<|.yw (.idxA aP5 aP9 Z Z Z (by omega) (uV (by show k<25;omega) []))<|.a Z Z<|.ns<|.mv Z<|.mv Z<|.yw (.call MW Z (λW s=>DQ (c::r) _ W))<|.nt<|.cd Z (λh17=>?_) (λh17=>?_)
  ·have hfind:=UB (by omega) hne h17;refine .sm Z<|.yw (.lenS dI Z)<|.a Z Z<|.az Z<|.bR<|.tR<|.tR<|.bR<|.bR<|.tR<|?_
   first
    | exact y7 Z (.cons (.tmp rfl) (.cons (.tmp rfl) .nil)) rfl λW s=>⟨by simp only [bU,aN,h21,h29,aY];rfl,s.ext⟩
    | exact y7 Z (.cons (.tmp rfl) (.cons (.tmp rfl) .nil)) rfl λW s=>⟨by simp only [bU,aN,h21,h29,aY,aE,aW,show pre iC (c::r)<=12 by omega];rfl,s.ext⟩
    | exact y7 Z (.cons (.tmp rfl) (.cons (.tmp rfl) .nil)) rfl λW s=>⟨by simp only [bU,aN,h21,h29,aY,aE,aW,show ¬ pre iC (c::r)<=12 by omega];rfl,s.ext⟩
    | exact y7 Z (.cons (.tmp rfl) (.cons (.tmp rfl) .nil)) rfl λW s=>⟨by simp only [bU,aN,h21,h34,aY,aE,aW,hor];rfl,s.ext⟩
    | exact y7 Z (.cons (.tmp rfl) (.cons (.tmp rfl) .nil)) rfl λW s=>⟨by simp only [bU,aN,h21,h34,aE,aW,hfind];rfl,s.ext⟩
  exact .sk<|.bN<|.tN<|.rg<|.yw (.add Z Z w7)<|.mv Z<|.nt<|.ag (k+1) ⟨Z,Jt⟩ ⟨Z,Z,Jt⟩ (λ_ s=>s) ⟨by omega,λj hj=>by
   by_cases e:j=k
   ·subst e;exact h17
   ·exact hne j (by omega)⟩ (by omega)
 have hfind:=UA (l:=c::r) (λj hj=>hne j (by omega));refine .ex<|.tE<|.tE<|.bE<|.bN<|.tN<|.sm Z<|.yw (.lenS dI Z)<|.a Z Z<|.az Z<|?_
 first
  | exact y7 Z (.cons (.tmp rfl) (.cons (.tmp rfl) .nil)) rfl λW s=>⟨by simp only [bU,aN,h21,h29,aY];rfl,s.ext⟩
  | exact y7 Z (.cons (.tmp rfl) (.cons (.tmp rfl) .nil)) rfl λW s=>⟨by simp only [bU,aN,h21,h29,aY,aE,aW,show pre iC (c::r)<=12 by omega];rfl,s.ext⟩
  | exact y7 Z (.cons (.tmp rfl) (.cons (.tmp rfl) .nil)) rfl λW s=>⟨by simp only [bU,aN,h21,h29,aY,aE,aW,show ¬ pre iC (c::r)<=12 by omega];rfl,s.ext⟩
  | exact y7 Z (.cons (.tmp rfl) (.cons (.tmp rfl) .nil)) rfl λW s=>⟨by simp only [bU,aN,h21,h34,aY,aE,aW,hor];rfl,s.ext⟩
  | exact y7 Z (.cons (.tmp rfl) (.cons (.tmp rfl) .nil)) rfl λW s=>⟨by simp only [bU,aN,h21,h34,aE,aW,hfind];rfl,s.ext⟩
theorem uM (H:Hp) (G:Gl H) (l:Str) (hl:l.length<=9223372036854775807) (w:World) (hA:Agr H w) :
 Calls prg 75 #[cH l] w λr w'=>r=.returned (.bool (eN l))/\Ext w w':=by
 refine Sx.enter (H:=H) func75 rfl ntmps75 rfl hA ?_;refine .sr<|.aq Z<|.sq<|.sm Z<|.yw (.eqS Z Z)<|.nt<|.ce Z (λh6=>?_) (λh6=>?_)
 ·subst h6;refine .sr<|.az Z<|.tR<|?_
  refine y9 Z Z λW s=>⟨wE ?_,s.ext⟩
  first
   | (rw [eN,show (bU l).1=1 from h1];simp [h6];omega)
   | (rw [show eN l=false by simp [eN,h1]])
   | (rfl)
 refine .sk<|.tN<|.sm Z<|.yw (.call QC Z (λW s=>UL H G l hl h6 W s.agr))<|.mv Z<|.yw (.extract Z Z)<|.yw (.extract Z Z)<|.a Z Z<|.a Z Z<|.ns<|.mv Z<|.yw (.eql Z Z)<|.mv Z<|.e2 (λh14=>?_) (λh14=>?_)
 ·have h1:(bU l).1=1:=aS.1 (by show _=1;omega);refine .gy (.move Z)<|.gy (.move Z)<|.gy (.lenS dI Z)<|.gy (.eql Z Z)<|.yw (.pickT Z Z)<|.az Z<|?_
  refine y9 Z Z λW s=>⟨wE ?_,s.ext⟩
  first
   | (rw [eN,show (bU l).1=1 from h1];simp [h6];omega)
   | (rw [show eN l=false by simp [eN,h1]])
   | (rfl)
 have h1:¬ (bU l).1=1:=λe=>h14 (by rw [e];rfl);refine .gG<|.gG<|.gG<|.gG<|.yw (.pickF Z Z)<|.az Z<|?_
 refine y9 Z Z λW s=>⟨wE ?_,s.ext⟩
 first
  | (rw [eN,show (bU l).1=1 from h1];simp [h6];omega)
  | (rw [show eN l=false by simp [eN,h1]])
  | (rfl)
mutual
def Ex.all (q:Ex->Bool):Ex->Bool
 | .mk op nm n args=>q (.mk op nm n args) && Ex.alls q args
def Ex.alls (q:Ex->Bool):List Ex->Bool
 | []=>true
 | e::r=>Ex.all q e && Ex.alls q r
end
theorem GO (q:Ex->Bool) (a b:List Ex):Ex.alls q (a++b)=(Ex.alls q a && Ex.alls q b):=by
 induction a with
 | nil=>simp [Ex.alls]
 | cons e r ih=>simp only [bT,Ex.alls,ih,yC]
theorem aM3 {q:Ex->Bool} {l:List Ex} (h:k<l.length):Ex.alls q (l.take (k+1))=(Ex.alls q (l.take k) && Ex.all q l[k]):=by
 rw [wK h,GO];simp [Ex.alls]
theorem bD6 {q:Ex->Bool} {l:List Ex} (h:k<l.length) (hb:Ex.all q l[k]=false):Ex.alls q l=false:=by
 have h1:=GO q (l.take (k+1)) (l.drop (k+1));rw [eF,aM3 h,hb] at h1;simpa using h1
theorem lS (q:Ex->Bool) (op:UInt8) (nm:Str) (n:Int64) (args:List Ex):Ex.all q (.mk op nm n args)=(q (.mk op nm n args) && Ex.alls q args):=by rw [Ex.all]
mutual
def Sm.all (q:Sm->Bool):Sm->Bool
 | .mk kd nm hd ex th el=>q (.mk kd nm hd ex th el) && Sm.alls q th && Sm.alls q el
def Sm.alls (q:Sm->Bool):List Sm->Bool
 | []=>true
 | e::r=>Sm.all q e && Sm.alls q r
end
theorem sS (q:Sm->Bool) (a b:List Sm):Sm.alls q (a++b)=(Sm.alls q a && Sm.alls q b):=by
 induction a with
 | nil=>simp [Sm.alls]
 | cons e r ih=>simp only [bT,Sm.alls,ih,yC]
theorem RI (q:Sm->Bool) (kd:UInt8) (nm hd:Str) (ex:List Ex) (th el:List Sm):Sm.all q (.mk kd nm hd ex th el)=(q (.mk kd nm hd ex th el) && Sm.alls q th && Sm.alls q el):=by rw [Sm.all]
def aW5:Ex->Bool
 | .mk op nm _ _=>!(cK op).nm || eN nm
def oZ:Ex->Bool
 | .mk op nm n args=>GA op && decide (args.length=(cK op).n) && ((cK op).nm || decide (nm=[])) && (if op=1 then decide (0<=n.toInt) else decide (n.toInt=0))
def GD:Sm->Bool
 | .mk kd nm hd ex _ _=>(!(sJ kd).nm || eN nm) && (!(sJ kd).hd || eN hd) && Ex.alls aW5 ex
def SM:Sm->Bool
 | .mk kd nm hd ex th el=>LK kd && decide ((sJ kd).lo<=ex.length) && decide (ex.length<=(sJ kd).hi) && ((sJ kd).nm || decide (nm=[])) && ((sJ kd).hd || decide (hd=[])) &&
  ((sJ kd).th || decide (th.length=0)) && ((sJ kd).el || decide (el.length=0)) && Ex.alls oZ ex
def bX2:Sm->Bool
 | .mk _ _ _ ex _ _=>ex.all λx=>decide (x.depth<=8)
def cD3 (h:Hd):Bool:=Sm.alls SM h.body
def opT (least:Nat) (x:Nat × Str):Str:=if x.1<least then [40]++x.2++[41] else x.2
def xN (lv:Nat):Nat:=if lv=3 then lv+1 else lv
def txt (op:UInt8) (nm:Str) (n:Int64) (ls:List (Nat × Str)):Str :=
 if op=1 then Lib.itoa n.toInt
 else if op=5\/op=8 then (cK op).tx++nm
 else if op=6\/op=7 then (cK op).tx++nm++[91]++(ls.getD 0 (0,[])).2++[93]
 else if op=9\/op=10 then (cK op).tx++opT (cK op).lv (ls.getD 0 (0,[]))
 else if (cK op).n=0 then (cK op).tx
 else opT (xN (cK op).lv) (ls.getD 0 (0,[]))++(cK op).tx++opT ((cK op).lv+1) (ls.getD 1 (0,[]))
mutual
def Ex.text:Ex->Str
 | .mk op nm n args=>txt op nm n (Ex.texts args)
def Ex.texts:List Ex->List (Nat × Str)
 | []=>[]
 | e::r=>((cK e.op).lv,Ex.text e)::Ex.texts r
end
theorem OM:∀ l:List Ex,Ex.texts l=l.map λe=>((cK e.op).lv,Ex.text e)
 | []=>rfl
 | e::r=>by rw [Ex.texts,OM r];rfl
theorem jF (op:UInt8) (nm:Str) (n:Int64) (args:List Ex):Ex.text (.mk op nm n args)=txt op nm n (args.map λe=>((cK e.op).lv,Ex.text e)):=by rw [Ex.text,OM]
theorem yV {α β:Type} {f:α->β} {l:List α} (h:k<l.length) (d:β):(l.map f).getD k d=f l[k]:=by simp [h]
theorem CN (k:Nat) (x:Nat × Str):x.2.length<=(opT k x).length/\(opT k x).length<=x.2.length+2:=by unfold opT;split <;> simp <;> omega
end Go.Proofs.YtidclioghdbphaaGreatDoor
namespace Go.Sx
open Go.RowKit Go.Par
section
variable {dfs:List Deferred} {P:Program} {n:Nat} {L:Sl} {H:Hp} {w0:World} {bs:List Res} {Q:Exit->Act->World->Prop} {ops:Array Oper} {K:Act->World->Prop}
def exN (K:Act->World->Prop) (Q:Exit->Act->World->Prop):Exit->Act->World->Prop:=λe=>match e with | .normal=>K | e=>Q e
theorem At.ar {id:Nat} {l:List Oper} (m:Nat) (l0:Array Bool) (hm:P.follows .mixedOrders=true) (hn:l.toArray.size=m) (h0:Array.replicate m false=l0)
 (h:At dfs n L H w0 bs (wpAny P .any l.toArray Q m l0)):At dfs n L H w0 bs ((Code.region id l.toArray true).wp P Q):=aM2 m l0 hm hn h0 h
theorem At.an {fuel:Nat} {listed:Array Bool} (x:Nat) (rs:List Nat) (hr:Region.ready .any ops listed=x::rs)
 (h:WW (λi=>At dfs n L H w0 bs (wpOp P ops Q i (wpAny P .any ops Q fuel (listed.setIfInBounds i true)))) (x::rs)):At dfs n L H w0 bs (wpAny P .any ops Q (fuel+1) listed):=bM5 x rs hr h
theorem bH4 {o:Oper} {a:Act} {w:World} (h:one P ops (exN K Q) o K a w):one P ops Q o K a w:=by
 unfold one at *
 split at h <;> rename_i hw
 ·rw [aO hw];exact h
 ·rw [aG hw];exact h
theorem At.ao {fuel i:Nat} {listed:Array Bool} {o:Oper} (l':Array Bool) (ho:ops[i]? = some o) (hl:listed.setIfInBounds i true=l') (h:At dfs n L H w0 bs (wpList P ops (exN (wpAny P .any ops Q fuel l') Q) [o])) :
 At dfs n L H w0 bs (wpOp P ops Q i (wpAny P .any ops Q fuel (listed.setIfInBounds i true))):=cA7 l' ho hl λa W f s=>bH4 (h a W f s)
theorem At.nx (h:At dfs n L H w0 bs K):At dfs n L H w0 bs (wpList P ops (exN K Q) []):=nil h
theorem At.ae {listed:Array Bool} (hr:Region.ready .any ops listed=[]) (h:At dfs n L H w0 bs (Q .normal)):At dfs n L H w0 bs (wpAny P .any ops Q 0 listed):=bW0 hr h
theorem Yl.cutHi2 {d:Option Tmp} {ty:TypeId} {pos:String} {aft:Array Edge} {g:Option (Nat × Bool)} {x y:Operand} {T:TypeId} {p:Option Addr} {len c z h:Nat} {k:IntKind} {i:Int} (hT:slN P T=some z) (hx:ev L x=some (.slice p len c)) (hy:ev L y=some (.int k i)) (e:i=(h:Int)) (hh:h<=c) :
 Yl P L H w0 bs ⟨d,.slice T x none (some y) none,ty,pos,aft,g⟩ (.slice (if c=0 then p else p.map λq=>q.add 0) h c):=.of_run λa W f _=>by
 subst e;obtain ⟨el,hu,hz⟩:=KZ hT;unfold execOp;simp [f x _ hx,f y _ hy,Instr.sliceAt,Instr.slice,underlying,program,Sem.run,Result.andThen,hu,Instr.sliceBounds,Instr.sliceBound,asIntOf,hh,mH hz]
theorem OY {z n c hi:Nat} {ds:List D} {p:Option Addr} (h:Rep H (.seq z ds) [.slice p n c]) (hl:hi<=n):Rep H (.seq z (ds.take hi)) [.slice (if c=0 then p else p.map λq=>q.add 0) hi c]:=by
 have hn:=h.len
 by_cases hc:c=0
 ·have h0:ds=[]:=bQ (by omega);rw [aO hc,h0,List.take_nil,show hi=0 by omega];exact .empty (by omega)
 rw [aG hc];unfold Rep at h;obtain ⟨p',c',h1,h2,h3,h4⟩:=h;injection h1 with h1 _
 injection h1 with h5 h6 h7
 subst h5 h7;rcases h4 with h4 | ⟨b',off',cs,rfl,h9,h10,h11⟩
 ·subst h4;obtain rfl:hi=0:=by simp only [aL] at h6;omega
  exact .empty (by omega)
 ·exact .mkM (h9.take (hi * z)) (h10.take hi) (by rw [dT];omega) (by omega) (by omega) λe=>h11 (D.txtL_sub (λx=>zI) e)
end
inductive Ty where
 | int (k:IntKind)
 | bool
 | strg
 | seq (τ:Ty)
 | str (fs:List Ty)
 | arr (n:Nat) (τ:Ty)
mutual
def Ty.cells:Ty->Nat
 | .int _=>1
 | .bool=>1
 | .strg=>1
 | .seq _=>1
 | .str fs=>Ty.cellsL fs
 | .arr n τ=>n * Ty.cells τ
def Ty.cellsL:List Ty->Nat
 | []=>0
 | τ::r=>Ty.cells τ+Ty.cellsL r
end
mutual
def Ty.at (P:Program):Ty->TypeId->Bool
 | .int k,t=>match P.underlying t with | some (.int k')=>decide (k'=k) | _=>false
 | .bool,t=>match P.underlying t with | some .bool=>true | _=>false
 | .strg,t=>match P.underlying t with | some .string=>true | _=>false
 | .seq τ,t=>match P.underlying t with | some (.slice e)=>Ty.at P τ e && decide (P.cellsOf e=Ty.cells τ) && decide (0<Ty.cells τ) | _=>false
 | .str fs,t=>match P.underlying t with | some (.struct g)=>decide (P.cellsOf t=Ty.cellsL fs) && Ty.atL P fs g.toList 0 | _=>false
 | .arr n τ,t=>match P.underlying t with | some (.array m e)=>decide (m=n) && Ty.at P τ e && decide (P.cellsOf e=Ty.cells τ) && decide (P.cellsOf t=n * Ty.cells τ) | _=>false
def Ty.atL (P:Program):List Ty->List Field->Nat->Bool
 | [],[],_=>true
 | τ::r,f::g,o=>Ty.at P τ f.type && decide (f.offset=o) && decide (P.cellsOf f.type=Ty.cells τ) && Ty.atL P r g (o+Ty.cells τ)
 | _,_,_=>false
end
mutual
def Ty.has:Ty->D->Prop
 | .int k,d=>∃ n,d=.val (.int k n)/\(Lit.int k n).wf=true
 | .bool,d=>∃ b,d=.val (.bool b)
 | .strg,d=>∃ s:ByteArray,d=.any (.string s)
 | .seq τ,d=>∃ ds,d=.seq (Ty.cells τ) ds/\∀ x∈ds,Ty.has τ x
 | .str fs,d=>∃ ds,d=.str ds/\Ty.hasL fs ds
 | .arr _ _,_=>False
def Ty.hasL:List Ty->List D->Prop
 | [],ds=>ds=[]
 | τ::r,ds=>∃ d q,ds=d::q/\Ty.has τ d/\Ty.hasL r q
end
mutual
def Ty.opn:Ty->Bool
 | .int _=>true
 | .bool=>true
 | .strg=>true
 | .seq τ=>Ty.opn τ
 | .str fs=>Ty.opnL fs
 | .arr _ _=>false
def Ty.opnL:List Ty->Bool
 | []=>true
 | τ::r=>Ty.opn τ && Ty.opnL r
end
mutual
def Ty.pln:Ty->Bool
 | .int _=>true
 | .bool=>true
 | .strg=>true
 | .seq _=>false
 | .str fs=>Ty.plnL fs
 | .arr _ τ=>Ty.pln τ
def Ty.plnL:List Ty->Bool
 | []=>true
 | τ::r=>Ty.pln τ && Ty.plnL r
end
def NX (W:World):Hp:=⟨λb=>W.heap[b]?,0⟩
theorem bD7 (W:World):Agr (NX W) W:=⟨λ_ _ h=>h,aR _⟩
variable {W:World} {v:Value}
theorem ML {a:Addr} (h:W.cell? a=some v):∃ cs t m,W.heap[a.block]? = some (.cells cs t m)/\a.spot=Option.none/\cs[a.off]? = some v:=by
 unfold World.cell? at h
 split at h
 ·rename_i cs t m e
  split at h
  ·cases h
  ·rename_i hs;exact ⟨cs,t,m,e,by simpa using hs,h⟩
 ·cases h
theorem bM7 (a:Addr) (x y:Nat):(a.add x).add y=a.add (x+y):=by
 by_cases hx:x=0
 ·subst hx;simp [Addr.add]
 ·by_cases hy:y=0
  ·subst hy;simp [Addr.add]
  ·simp [Addr.add,hx,hy,dN]
mutual
theorem Ty.plain:∀ (τ:Ty) (d:D),Ty.has τ d->d.txt=false
 | .int k,d,h=>by
  unfold Ty.has at h;obtain ⟨n,rfl,_⟩:=h
  rfl
 | .bool,d,h=>by
  unfold Ty.has at h;obtain ⟨n,rfl⟩:=h
  rfl
 | .strg,d,h=>by
  unfold Ty.has at h;obtain ⟨n,rfl⟩:=h
  rfl
 | .seq τ,d,h=>by
  unfold Ty.has at h;obtain ⟨ds,rfl,h⟩:=h;show D.txtL ds=false;rw [D.txtL_any,List.any_eq_false];intro x hx;rw [Ty.plain τ x (h x hx)]
  decide
 | .str fs,d,h=>by
  unfold Ty.has at h;obtain ⟨ds,rfl,h⟩:=h;exact Ty.plainL fs ds h
 | .arr n τ,d,h=>by
  unfold Ty.has at h;exact h.elim
theorem Ty.plainL:∀ (fs:List Ty) (ds:List D),Ty.hasL fs ds->D.txtL ds=false
 | [],ds,h=>by
  unfold Ty.hasL at h;subst h
  rfl
 | τ::r,ds,h=>by
  unfold Ty.hasL at h;obtain ⟨d,q,rfl,h1,h2⟩:=h;rw [D.txtL,Ty.plain τ d h1,Ty.plainL r q h2]
  rfl
end
section
variable {H:Type} {enc:TypeId × Value->H} {P:Program} {base:Nat} {sp:Nat->Bool} {held:Bool}
mutual
theorem Ty.opens (W:World):∀ (τ:Ty) (t:TypeId) (fuel:Nat) (cs:List Value) (x:DataW H × List MemPlace),Ty.at P τ t=true->Ty.opn τ=true->DataW.trod enc P W base sp held fuel t cs=some x->∃ d,Ty.has τ d/\Rep (NX W) d cs
 | .int k,t,fuel,cs,x,ha,_,h=>by
  unfold Ty.at at ha
  split at ha
  ·rename_i k' hu;obtain rfl:k'=k:=by simpa using ha
   obtain ⟨n,rfl,_,hw⟩:=DataW.trod_int hu h;refine ⟨.val (.int k' n),?_,?_⟩
   ·unfold Ty.has;exact ⟨n,Z,hw⟩
   ·unfold Rep;exact ⟨Z,Z,Jt⟩
  ·cases ha
 | .bool,t,fuel,cs,x,ha,_,h=>by
  unfold Ty.at at ha
  split at ha
  ·rename_i hu;obtain ⟨b,rfl,_⟩:=DataW.trod_bool hu h;refine ⟨.val (.bool b),?_,?_⟩
   ·unfold Ty.has;exact ⟨b,Z⟩
   ·unfold Rep;exact ⟨Z,Z,Jt⟩
  ·cases ha
 | .strg,t,fuel,cs,x,ha,_,h=>by
  unfold Ty.at at ha
  split at ha
  ·rename_i hu;obtain ⟨s,rfl,_⟩:=DataW.trod_string hu h;refine ⟨.any (.string s),?_,?_⟩
   ·unfold Ty.has;exact ⟨s,Z⟩
   ·unfold Rep;exact ⟨Z,Z⟩
  ·cases ha
 | .arr _ _,_,_,_,_,_,ho,_=>by simp [Ty.opn] at ho
 | .str fs,t,fuel,cs,x,ha,ho,h=>by
  unfold Ty.at at ha
  split at ha
  ·rename_i g hu;simp only [aF,aD] at ha;unfold Ty.opn at ho;obtain ⟨xs,n,_,rfl,hl,hlen,hf⟩:=DataW.trod_struct hu h
   obtain ⟨ds,h1,h2⟩:=Ty.opensL W fs g.toList 0 n cs ha.2 ho (by rw [hl,ha.1];omega) (λi f hi=>by
    have hi2:g[i]? = some f:=by simpa using hi
    have:=hf i f hi2;have hlt:i<xs.length:=by rw [hlen];exact (Array.getElem?_eq_some_iff.1 hi2).1
    rw [List.getElem?_eq_getElem hlt] at this;exact ⟨_,this⟩)
   refine ⟨.str ds,?_,?_⟩
   ·unfold Ty.has;exact ⟨ds,Z,h1⟩
   ·unfold Rep;simpa using h2
  ·cases ha
 | .seq τ,t,fuel,cs,x,ha,ho,h=>by
  unfold Ty.at at ha
  split at ha
  ·rename_i e hu;simp only [aF,aD] at ha;obtain ⟨⟨ha,hz⟩,h0⟩:=ha;unfold Ty.opn at ho;rcases Go.Deep.open_slice hu h with ⟨rfl,-⟩ | ⟨a,len,cap,m,n,D,Pl,rfl,-,hl,hm,hmm,-,hi⟩
   ·refine ⟨.seq (Ty.cells τ) [],?_,.empty (by simp [maxLen])⟩;unfold Ty.has;exact ⟨[],Z,by simp⟩
   have hlm:len<=m:=by rw [hmm];split <;> omega
   have key:∀ q,q<=len->∃ ds l,ds.length=q/\(∀ x∈ds,Ty.has τ x)/\eR (NX W) (Ty.cells τ) ds l/\l.length=q * Ty.cells τ/\∀ (j:Nat) u,l[j]? = some u->W.cell? (a.add j)=some u:=by
    intro q;induction q with
    | zero=>intro _;exact ⟨[],[],Z,by simp,eR.nil,by simp,by simp⟩
    | succ q ih =>
     intro hq;obtain ⟨ds,l,h1,h2,h3,h4,h5⟩:=ih (by omega);obtain ⟨cs',hc,ht⟩:=hi q (by omega);rw [hz] at hc;obtain ⟨_,hcl,hat⟩:=World.cells?_some hc;obtain ⟨d,hd,hr⟩:=Ty.opens W τ e n cs' _ ha ho ht;refine ⟨ds++[d],l++cs',by simp [h1],?_,h3.snoc hr hcl,by rw [aH,h4,hcl,gN],?_⟩
     ·intro x hx;rcases cV.1 hx with hx | hx
      ·exact h2 x hx
      ·rw [cI.1 hx];exact hd
     ·intro j u hj
      by_cases hjl:j<l.length
      ·rw [List.getElem?_append_left hjl] at hj;exact h5 j u hj
      ·rw [List.getElem?_append_right (by omega)] at hj;have hjc:=(List.getElem?_eq_some_iff.1 hj).1;have:=hat (j - l.length) (by omega);rw [hj] at this;have h9:q * Ty.cells τ+(j - l.length)=j:=by omega
       have h10:(a.add (q * Ty.cells τ)).add (j - l.length)=a.add j:=by rw [bM7,h9]
       rw [<-h10];exact this
   obtain ⟨ds,l,h1,h2,h3,h4,h5⟩:=key len (bK _);refine ⟨.seq (Ty.cells τ) ds,?_,?_⟩
   ·unfold Ty.has;exact ⟨ds,Z,h2⟩
   by_cases hl0:len=0
   ·subst hl0;obtain rfl:=bQ h1;exact .empty hm
   ·have hlp:0<l.length:=by rw [h4];exact Nat.mul_pos (by omega) h0
    have hc0:=h5 0 _ (List.getElem?_eq_getElem hlp);rw [show a.add 0=a by simp [Addr.add]] at hc0;obtain ⟨arr,t',mk,hb,hs,_⟩:=ML hc0;obtain ⟨ab,ao,ap⟩:=a;simp only at hs hb;subst hs
    refine .mkM ⟨arr,t',mk,hb,λj u hu=>?_⟩ h3 h1 hl hm λe=>by
     have hp:=Ty.plain (.seq τ) (.seq (Ty.cells τ) ds) (by unfold Ty.has;exact ⟨ds,Z,h2⟩);rw [show Go.Sx.D.txtL ds=false from hp] at e;cases e
    have h6:=h5 j u hu;rw [Addr.add_lit] at h6;obtain ⟨arr',t'',mk',hb',_,h7⟩:=ML h6;have e2:=bL (hb.symm.trans hb');injection e2 with e3
    subst e3;exact h7
  ·cases ha
theorem Ty.opensL (W:World):∀ (fs:List Ty) (g:List Field) (o n:Nat) (cs:List Value),Ty.atL P fs g o=true->Ty.opnL fs=true->cs.length=o+Ty.cellsL fs ->
 (∀ (i:Nat) f,g[i]? = some f->∃ y,DataW.trod enc P W base sp held n f.type ((cs.drop f.offset).take (P.cellsOf f.type))=some y)->∃ ds,Ty.hasL fs ds/\tG (NX W) ds (cs.drop o)
 | [],[],o,n,cs,_,_,hl,_=>by
  refine ⟨[],by unfold Ty.hasL;rfl,?_⟩;unfold tG;exact fI (by simp only [Ty.cellsL] at hl;omega)
 | [],_::_,_,_,_,ha,_,_,_=>by simp [Ty.atL] at ha
 | _::_,[],_,_,_,ha,_,_,_=>by simp [Ty.atL] at ha
 | τ::r,f::g,o,n,cs,ha,ho,hl,hf=>by
  unfold Ty.atL at ha;unfold Ty.opnL at ho;simp only [aF,aD] at ha ho;obtain ⟨⟨⟨a1,a2⟩,a3⟩,a4⟩:=ha;obtain ⟨y,hy⟩:=hf 0 f rfl;rw [a2,a3] at hy;obtain ⟨d,h1,h2⟩:=Ty.opens W τ f.type n _ y a1 ho.1 hy;unfold Ty.cellsL at hl;obtain ⟨ds,h3,h4⟩:=Ty.opensL W r g (o+Ty.cells τ) n cs a4 ho.2 (by omega) (λi f' hi=>hf (i+1) f' (by simpa using hi));refine ⟨d::ds,by unfold Ty.hasL;exact ⟨d,ds,Z,h1,h3⟩,?_⟩;unfold tG;exact ⟨_,_,by rw [<-eX,eF],h2,h4⟩
end
mutual
def JG:DataW H->List Value
 | .lit (.int k n)=>[.int k n]
 | .lit (.bool b)=>[.bool b]
 | .lit (.string l)=>[.string ⟨l.toArray⟩]
 | .agg ps=>BX ps
 | _=>[]
def BX:List (DataW H)->List Value
 | []=>[]
 | d::r=>JG d++BX r
end
mutual
theorem Ty.flat (W:World):∀ (τ:Ty) (t:TypeId) (fuel:Nat) (cs:List Value) (x:DataW H × List MemPlace),Ty.at P τ t=true->Ty.pln τ=true->DataW.trod enc P W base sp held fuel t cs=some x->cs=JG x.1
 | .int k,t,fuel,cs,x,ha,_,h=>by
  unfold Ty.at at ha
  split at ha
  ·rename_i k' hu;obtain ⟨n,rfl,rfl,hw⟩:=DataW.trod_int hu h;simp only [JG]
  ·cases ha
 | .bool,t,fuel,cs,x,ha,_,h=>by
  unfold Ty.at at ha
  split at ha
  ·rename_i hu;obtain ⟨b,rfl,rfl⟩:=DataW.trod_bool hu h;simp only [JG]
  ·cases ha
 | .strg,t,fuel,cs,x,ha,_,h=>by
  unfold Ty.at at ha
  split at ha
  ·rename_i hu;obtain ⟨s,rfl,rfl,_⟩:=DataW.trod_string hu h;simp only [JG]
  ·cases ha
 | .seq _,_,_,_,_,_,ho,_=>by simp [Ty.pln] at ho
 | .str fs,t,fuel,cs,x,ha,ho,h=>by
  unfold Ty.at at ha
  split at ha
  ·rename_i g hu;simp only [aF,aD] at ha;unfold Ty.pln at ho;obtain ⟨xs,n,_,rfl,hl,hlen,hf⟩:=DataW.trod_struct hu h;have h2:=Ty.flatL W fs g.toList 0 n cs xs ha.2 ho (by rw [hl,ha.1];omega) (by simpa using hlen) (λi f hi=>hf i f (by simpa using hi));simpa [JG] using h2
  ·cases ha
 | .arr k τ,t,fuel,cs,x,ha,ho,h=>by
  unfold Ty.at at ha
  split at ha
  ·rename_i m e hu;simp only [aF,aD] at ha;obtain ⟨⟨⟨hm,ha⟩,hz⟩,hct⟩:=ha;subst hm;unfold Ty.pln at ho;obtain ⟨xs,n,_,rfl,hl,hlen,hf⟩:=DataW.trod_array hu h
   have key:∀ (xs:List (DataW H × List MemPlace)) (cs:List Value),cs.length=xs.length * Ty.cells τ->(∀ i,i<xs.length->DataW.trod enc P W base sp held n e ((cs.drop (i * Ty.cells τ)).take (Ty.cells τ))=xs[i]?)->cs=BX (xs.map (·.1)):=by
    intro xs;induction xs with
    | nil=>intro cs hc _;simp at hc;simp [hc,BX]
    | cons y r ih =>
     intro cs hc hi;have h0:=hi 0 (by simp);simp only [pM,nK,List.getElem?_cons_zero] at h0;have e0:=Ty.flat W τ e n _ y ha ho h0
     have e1:=ih (cs.drop (Ty.cells τ)) (by rw [cM,hc,aI,gN];omega) (λi hlt=>by
      have:=hi (i+1) (by simp;omega);rw [List.getElem?_cons_succ] at this;rw [<-this,eX,show Ty.cells τ+i * Ty.cells τ=(i+1) * Ty.cells τ by rw [gN];omega])
     simp only [dE,BX];rw [<-e0,<-e1,eF]
   have h2:=key xs cs (by rw [hl,hct,hlen]) (λi hlt=>by
    have:=hf i (by omega);rw [hz] at this;exact this)
   simpa [JG] using h2
  ·cases ha
theorem Ty.flatL (W:World):∀ (fs:List Ty) (g:List Field) (o n:Nat) (cs:List Value) (xs:List (DataW H × List MemPlace)),Ty.atL P fs g o=true->Ty.plnL fs=true->cs.length=o+Ty.cellsL fs->xs.length=g.length ->
 (∀ (i:Nat) f,g[i]? = some f->DataW.trod enc P W base sp held n f.type ((cs.drop f.offset).take (P.cellsOf f.type))=xs[i]?)->cs.drop o=BX (xs.map (·.1))
 | [],[],o,n,cs,xs,_,_,hl,hx,_=>by
  obtain rfl:=bQ hx;simp only [vY,BX];exact fI (by simp only [Ty.cellsL] at hl;omega)
 | [],_::_,_,_,_,_,ha,_,_,_,_=>by simp [Ty.atL] at ha
 | _::_,[],_,_,_,_,ha,_,_,_,_=>by simp [Ty.atL] at ha
 | τ::r,f::g,o,n,cs,[],ha,ho,hl,hx,hf=>by simp at hx
 | τ::r,f::g,o,n,cs,y::xs,ha,ho,hl,hx,hf=>by
  unfold Ty.atL at ha;unfold Ty.plnL at ho;simp only [aF,aD] at ha ho;obtain ⟨⟨⟨a1,a2⟩,a3⟩,a4⟩:=ha;have hy:=hf 0 f rfl;rw [a2,a3,List.getElem?_cons_zero] at hy;have e0:=Ty.flat W τ f.type n _ y a1 ho.1 hy;unfold Ty.cellsL at hl
  have e1:=Ty.flatL W r g (o+Ty.cells τ) n cs xs a4 ho.2 (by omega) (by simpa using hx) (λi f' hi=>by
   have:=hf (i+1) f' (by simpa using hi);rw [List.getElem?_cons_succ] at this;exact this)
  simp only [dE,BX];rw [<-e0,<-e1,<-eX,eF]
end
end
variable {g:Nat} {t:TypeId}
theorem BR {P:Program} {name:String} {dat:DataW Unit} {rest:List (String × DataW Unit)} (τ:Ty) (cs:List Value)
 (hg:P.globalNamed name=some g) (hty:(P.globals[g]?).map (·.type)=some t) (ha:Ty.at P τ t=true) (hp:Ty.pln τ=true) (hc:JG dat=cs) (h:laidMet P ((name,dat)::rest) W):kU (NX W) g 0 cs:=by
 obtain ⟨ps,⟨g',t',cs',fuel,p,q,hg',ht',hvar,hd,_,_⟩,_⟩:=h;obtain rfl:=bL (hg.symm.trans hg');obtain rfl:=bL (hty.symm.trans ht');have e:=Ty.flat W τ t fuel cs'.toList _ ha hp hd;dsimp only at e;rw [hc] at e;unfold World.var? at hvar;rw [hg] at hvar;simp only [iF] at hvar
 split at hvar
 ·rename_i arr T m hb;refine ⟨arr,T,m,hb,λj u hu=>?_⟩;obtain rfl:=bL hvar;rw [dV];rw [<-e] at hu;simpa using hu
 ·cases hvar
theorem aD4 {α β:Type} {f:α->β}:∀ {ds:List β},(∀ x∈ds,∃ y,x=f y)->∃ l:List α,ds=l.map f
 | [],_=>⟨[],Z⟩
 | d::r,h=>by
  obtain ⟨y,rfl⟩:=h d Hm;obtain ⟨l,rfl⟩:=aD4 (ds:=r) λx hx=>h x (.tail _ hx);exact ⟨y::l,Z⟩
theorem SI {n:Int} (h:(Lit.int .u8 n).wf=true):∃ x:UInt8,n=x.toNat:=by
 have e1:IntKind.u8.min=0:=rfl;have e2:IntKind.u8.max=255:=rfl;simp only [Lit.wf,e1,e2,aF,aD] at h;exact ⟨UInt8.ofNat n.toNat,by simp [mN];omega⟩
theorem aE0 {n:Int} (h:(Lit.int .i64 n).wf=true):∃ x:Int64,n=x.toInt:=by
 have e1:IntKind.i64.min=-9223372036854775808:=rfl;have e2:IntKind.i64.max=9223372036854775807:=rfl;simp only [Lit.wf,e1,e2,aF,aD] at h;exact ⟨Int64.ofInt n,(Int64.toInt_ofInt_of_le (by simpa using h.1) (by have:=h.2;omega)).symm⟩
end Go.Sx
/- Drawn regions with several heavy operations that do not wait for one another: the light ones are decided as early as they can, the heavy ones in every order. -/
namespace Go.Sx
open Go.RowKit Go.Par
inductive Pi0 where
 | done
 | no
 | light (i:Nat) (r:Pi0)
 | alt (i k:Nat) (r q:Pi0)
inductive PlT where
 | done
 | no
 | light (i:Nat) (o:Oper) (r:PlT)
 | alt (i k:Nat) (o:Oper) (r q:PlT)
def BZ (l:List Oper):Pi0->PlT
 | .done=>.done
 | .no=>.no
 | .light i r=>.light i l[i]! (BZ l r)
 | .alt i k r q=>.alt i k l[i]! (BZ l r) (BZ l q)
def okT (ops:Array Oper) (n:Nat):List Nat->List Nat->Pi0->Bool
 | D,A,.done=>A.isEmpty && (List.range n).all λj=>D.contains j
 | D,A,.no=>!A.isEmpty && (List.range n).all λj=>D.contains j || A.contains j || A.any λi=>mS ops n j i
 | D,A,.light i r=>A.isEmpty && decide (i<n) && !D.contains i && ((List.range n).all λj=>!Region.waitsFor .any ops i j || D.contains j) && okT ops n (i::D) [] r
 | D,A,.alt i k r q=>decide (i<n) && !D.contains i && ((List.range n).all λj=>!Region.waitsFor .any ops i j || D.contains j) && (!(k == 1) || D.all λj=>mS ops n i j) && okT ops n (i::D) [] r && okT ops n D (i::A) q
section
variable {dfs:List Deferred} {P:Program} {ops:Array Oper} {w0:World} {n N:Nat}
def gT (dfs:List Deferred) (P:Program) (ops:Array Oper) (n:Nat) (w0:World) (N:Nat) (E:Sl->Hp->List Res->Prop):PlT->List (Nat × Oper × Value)->Sl->Hp->List Res->Prop
 | .done,_,L,H,bs=>E L H bs
 | .no,_,_,_,_=>True
 | .light i o r,pa,L,H,bs=>∃ v,(∀ a W,Fr dfs N L a->St H w0 bs W->Yq P ops o v a W)/\(∀ t,o.dst=some t->t<N)/\gT dfs P ops n w0 N E r ((i,o,v)::pa) (putL o.dst v L) H bs
 | .alt i k o r q,pa,L,H,bs=>((∀ t,o.dst=some t->t<N)/\At dfs N L H w0 bs (one P ops (λ_ _ _=>False) o λa' W'=>∃ v H' bs',Fr dfs N (putL o.dst v L) a'/\St H' w0 bs' W'/\(k=1\/(∀ W,St H' w0 bs' W->St H w0 bs W)\/iR dfs P ops n w0 N L H' bs' i pa)/\gT dfs P ops n w0 N E r pa (putL o.dst v L) H' bs'))/\gT dfs P ops n w0 N E q pa L H bs
structure GT (dfs:List Deferred) (P:Program) (ops:Array Oper) (l:List Oper) (w0:World) (n N:Nat) (a0:Act) (E:Sl->Hp->List Res->Prop) (listed:Array Bool) (a:Act) (W:World) (val:Nat->Value) (dec:Nat->Bool) (D:List Nat) (L:Sl) (H:Hp) (bs:List Res) (pa:List (Nat × Oper × Value)):Prop where
 head:HeadInv .any ops n listed
 frame:a=frm ops val (st listed) n a0
 full:Fr dfs N L (frm ops val dec n a0)
 sub:∀ i,i<n->st listed i=true->dec i=true
 world:St H w0 bs W
 light:∀ i o,i<n->ops[i]? = some o->dec i=true->st listed i=false->∀ W,St H w0 bs W->Yq P ops o (val i) (frm ops val dec n a0) W
 past:∀ i o,i<n->ops[i]? = some o->dec i=true->st listed i=false->(i,o,val i)∈pa
 set:∀ j,dec j=D.contains j
 deps:∀ i j,i<n->j<n->dec i=true->Region.waitsFor .any ops i j=true->dec j=true
variable {l:List Oper} {a0:Act} {E:Sl->Hp->List Res->Prop} {Q:Exit->Act->World->Prop} {listed:Array Bool} {a:Act} {W:World} {val:Nat->Value} {dec:Nat->Bool} {D A:List Nat} {L:Sl} {H:Hp} {bs:List Res} {pa:List (Nat × Oper × Value)}
theorem ZZ {i:Nat} (h:∀ j,dec j=D.contains j):∀ j,upd dec i true j=(i::D).contains j:=λj=>by
 by_cases e:j=i
 ·subst e;rw [jJ];simp
 ·rw [fN _ _ e,h j,List.contains_cons];have:(j == i)=false:=by simpa using e
  rw [this];simp
theorem TQ {i:Nat} (h:((List.range n).all λj=>!Region.waitsFor .any ops i j || D.contains j)=true) {j:Nat} (hj:j<n) (hw:Region.waitsFor .any ops i j=true):D.contains j=true:=by
 have:=bC.1 h j (cD.2 hj);rw [hw] at this;simpa using this
theorem YT (hl:ops=l.toArray) {j:Nat} (hj:j<n) (hjD:D.contains j=false) (hnr:∀ i,D.contains i=false->i<n->mS ops n j i=false) :
 ∀ (q:Pi0) (A:List Nat),(q=.no\/∃ i k r q',q=.alt i k r q')->okT ops n D A q=true->(∀ i∈A,D.contains i=false/\i<n/\i≠j)->gT dfs P ops n w0 N E (BZ l q) pa L H bs ->
  ∃ k r,((List.range n).all λx=>!Region.waitsFor .any ops j x || D.contains x)=true/\(!(k == 1) || D.all λx=>mS ops n j x)=true/\okT ops n (j::D) [] r=true/\(∀ t,(l[j]!).dst=some t->t<N) /\
   At dfs N L H w0 bs (one P ops (λ_ _ _=>False) l[j]! λa' W'=>∃ v H' bs',Fr dfs N (putL (l[j]!).dst v L) a'/\St H' w0 bs' W'/\(k=1\/(∀ W,St H' w0 bs' W->St H w0 bs W)\/iR dfs P ops n w0 N L H' bs' j pa)/\gT dfs P ops n w0 N E (BZ l r) pa (putL (l[j]!).dst v L) H' bs'):=by
 intro q;induction q with
 | done=>rintro A (h | ⟨_,_,_,_,h⟩) <;> cases h
 | light i r=>rintro A (h | ⟨_,_,_,_,h⟩) <;> cases h
 | no =>
  intro A _ hok hA _
  exfalso
  simp only [okT,aF] at hok;have:=bC.1 hok.2 j (cD.2 hj);simp only [aT] at this;rcases this with (h | h) | h
  ·rw [hjD] at h;cases h
  ·exact (hA j (by simpa using h)).2.2 rfl
  ·obtain ⟨i,hi,hre⟩:=fM.1 h;rw [hnr i (hA i hi).1 (hA i hi).2.1] at hre;cases hre
 | alt i k r q' ihr ihq =>
  intro A _ hok hA hF;simp only [okT,aF,aD,eT] at hok;obtain ⟨⟨⟨⟨⟨h1,h2⟩,h3⟩,h4⟩,h5⟩,h6⟩:=hok;unfold BZ gT at hF
  by_cases e:i=j
  ·subst e;exact ⟨k,r,h3,h4,h5,hF.1.1,hF.1.2⟩
  ·have hq:q'=.no\/∃ i k r q'',q'=.alt i k r q'':=by
    cases q' with
    | done=>simp [okT] at h6
    | light i r=>simp [okT] at h6
    | no=>exact .inl rfl
    | alt i k r q=>exact .inr ⟨_,_,_,_,Z⟩
   refine ihq (i::A) hq h6 (λx hx=>?_) hF.2;rcases bV.1 hx with rfl | hx
   ·exact ⟨h2,h1,e⟩
   ·exact hA x hx
end
section
variable {dfs:List Deferred} {P:Program} {n:Nat} {L:Sl} {H:Hp} {w0:World} {bs:List Res} {Q:Exit->Act->World->Prop} {ops:Array Oper} {rest:List Oper} {K:Act->World->Prop}
variable {d:Option Tmp} {ty:TypeId} {pos:String} {aft:Array Edge} {g:Option (Nat × Bool)} {v:Value} {t:Tmp} {op:Op} {x y z:Operand} {T T':TypeId}
variable {N hn:Nat} {pa:List (Nat × Oper × Value)} {E:Sl->Hp->List Res->Prop} {r q:PlT} {i k:Nat}
def vV (dfs:List Deferred) (P:Program) (ops:Array Oper) (n:Nat) (w0:World) (N:Nat) (E:Sl->Hp->List Res->Prop) (i k:Nat) (o:Oper) (r:PlT) (pa:List (Nat × Oper × Value)) (L:Sl) (H:Hp) (bs:List Res):Prop :=
 (∀ t,o.dst=some t->t<N)/\At dfs N L H w0 bs (one P ops (λ_ _ _=>False) o λa' W'=>∃ v H' bs',Fr dfs N (putL o.dst v L) a'/\St H' w0 bs' W'/\(k=1\/(∀ W,St H' w0 bs' W->St H w0 bs W)\/iR dfs P ops n w0 N L H' bs' i pa)/\gT dfs P ops n w0 N E r pa (putL o.dst v L) H' bs')
theorem gT.h1 {o:Oper} (h:vV dfs P ops hn w0 N E i k o r pa L H bs):gT dfs P ops hn w0 N E (.alt i k o r .no) pa L H bs:=⟨h,Jt⟩
theorem gT.h {o:Oper} (h:vV dfs P ops hn w0 N E i k o r pa L H bs) (hq:gT dfs P ops hn w0 N E q pa L H bs):gT dfs P ops hn w0 N E (.alt i k o r q) pa L H bs:=⟨h,hq⟩
theorem gT.nn:gT dfs P ops hn w0 N E .no pa L H bs:=trivial
theorem gT.yv (hy:Yl P L H w0 bs ⟨some t,op,ty,pos,aft,none⟩ v) (ht:Nat.blt t N=true) (h:gT dfs P ops hn w0 N E r ((i,⟨some t,op,ty,pos,aft,none⟩,v)::pa) ((t,v)::L) H bs):gT dfs P ops hn w0 N E (.light i ⟨some t,op,ty,pos,aft,none⟩ r) pa L H bs :=
 ⟨v,λa W f s=>.inl ⟨by simp [Region.wanted],hy a W (λx u e=>f.ev e) s⟩,sK ht,h⟩
theorem gT.m (hx:ev L x=some v) (ht:Nat.blt t N=true) (h:gT dfs P ops hn w0 N E r ((i,⟨some t,.move x,ty,pos,aft,none⟩,v)::pa) ((t,v)::L) H bs):gT dfs P ops hn w0 N E (.light i ⟨some t,.move x,ty,pos,aft,none⟩ r) pa L H bs:=.yv (.move hx) ht h
theorem vV.into {H':Hp} {bs':List Res} (hw:k=1\/(∀ W,St H' w0 bs' W->St H w0 bs W)\/iR dfs P ops hn w0 N L H' bs' i pa) (h:gT dfs P ops hn w0 N E r pa ((t,v)::L) H' bs') :
 At dfs N ((t,v)::L) H' w0 bs' (λa' W'=>∃ v H' bs',Fr dfs N (putL (some t) v L) a'/\St H' w0 bs' W'/\(k=1\/(∀ W,St H' w0 bs' W->St H w0 bs W)\/iR dfs P ops hn w0 N L H' bs' i pa)/\gT dfs P ops hn w0 N E r pa (putL (some t) v L) H' bs'):=λ_ _ f s=>⟨v,H',bs',f,s,hw,h⟩
theorem vV.al {l:List Value} (hz:pH P T=some l) (ht:Nat.blt t N=true) (h:∀ b,gT dfs P ops hn w0 N E r pa ((t,.pointer (some ⟨b,0,none⟩))::L) H (.box b l T::bs)):vV dfs P ops hn w0 N E i k ⟨some t,.alloc T,ty,pos,aft,none⟩ r pa L H bs :=
 ⟨sK ht,alloc hz ht λb=>vV.into (.inr<|.inl λ_ s=>s.drop) (h b)⟩
theorem vV.c3 {X:Type} {f:FuncId} {xs:List Operand} {vs:List Value} {ats:Array TypeId} {C:X->Prop} {val:X->Value} {H':X->Hp} {bs':X->List Res} (hf:cZ P f=true) (hv:evs L xs=some vs)
 (hc:∀ W,St H w0 bs W->Calls P f vs.toArray W λe W'=>∃ x,C x/\e=.returned (val x)/\St (H' x) w0 (bs' x) W') (ht:Nat.blt t N=true)
 (hr:∀ x,C x->iR dfs P ops hn w0 N L (H' x) (bs' x) i pa) (h:∀ x,C x->gT dfs P ops hn w0 N E r pa ((t,val x)::L) (H' x) (bs' x)):vV dfs P ops hn w0 N E i 2 ⟨some t,.call ⟨.value (.func f),xs.toArray,ats⟩,ty,pos,aft,none⟩ r pa L H bs :=
 ⟨sK ht,bO7 hf hv hc ht λx hx=>vV.into (.inr<|.inr<|hr x hx) (h x hx)⟩
end
end Go.Sx

namespace Go.Sx
open Go.RowKit Go.Par
section
variable {dfs:List Deferred} {P:Program} {L:Sl} {H H':Hp} {w0:World} {bs bs':List Res} {ty:TypeId} {pos:String} {aft:Array Edge} {t:Tmp} {op:Op} {ops:Array Oper} {N hn i n j:Nat} {pa:List (Nat × Oper × Value)} {E:Sl->Hp->List Res->Prop} {r:List (Nat × Nat × Oper)} {rest:List Oper} {Q:Exit->Act->World->Prop} {o:Oper} {v:Value} {b c:Bool} {u:Tmp}
theorem gT.yw {r:PlT} (hy:Yl P L H w0 bs ⟨some t,op,ty,pos,aft,none⟩ v) (h:gT dfs P ops hn w0 N E r ((i,⟨some t,op,ty,pos,aft,none⟩,v)::pa) ((t,v)::L) H bs) (ht:Nat.blt t N=true:=by rfl):gT dfs P ops hn w0 N E (.light i ⟨some t,op,ty,pos,aft,none⟩ r) pa L H bs:=.yv hy ht h
theorem gT.mv {r:PlT} {x:Operand} (hx:ev L x=some v) (h:gT dfs P ops hn w0 N E r ((i,⟨some t,.move x,ty,pos,aft,none⟩,v)::pa) ((t,v)::L) H bs) (ht:Nat.blt t N=true:=by rfl):gT dfs P ops hn w0 N E (.light i ⟨some t,.move x,ty,pos,aft,none⟩ r) pa L H bs:=.m hx ht h
end
section
variable {dfs:List Deferred} {P:Program} {L:Sl} {H H':Hp} {w0:World} {bs bs':List Res} {ty:TypeId} {pos:String} {aft:Array Edge} {t:Tmp} {op:Op} {ops:Array Oper} {N hn i n j:Nat} {pa:List (Nat × Oper × Value)} {E:Sl->Hp->List Res->Prop} {r:List (Nat × Nat × Oper)} {rest:List Oper} {Q:Exit->Act->World->Prop} {o:Oper} {v:Value} {b c:Bool} {u:Tmp}
theorem gT.fA {x:Operand} {T:TypeId} {k a off o':Nat} {r:PlT} (hp:ev L x=some (.pointer (some ⟨a,off,none⟩))) (hF:dZ P T k=some o') (h:gT dfs P ops hn w0 N E r ((i,⟨some t,.fieldAddr T x k,ty,pos,aft,none⟩,(.pointer (some ⟨a,off+o',none⟩)))::pa) ((t,(.pointer (some ⟨a,off+o',none⟩)))::L) H bs) (ht:Nat.blt t N=true:=by rfl):gT dfs P ops hn w0 N E (.light i ⟨some t,.fieldAddr T x k,ty,pos,aft,none⟩ r) pa L H bs:=.yv (.fieldAddr hp hF) ht h
theorem gT.lD {x:Operand} {T t':TypeId} {a off:Nat} {l:List Value} {r:PlT} (hp:ev L x=some (.pointer (some ⟨a,off,none⟩))) (hT:kS P T=some none) (hm:Res.box a l t'∈bs) (hv:l[off]? = some v) (h:gT dfs P ops hn w0 N E r ((i,⟨some t,.load T x,ty,pos,aft,none⟩,v)::pa) ((t,v)::L) H bs) (ht:Nat.blt t N=true:=by rfl):gT dfs P ops hn w0 N E (.light i ⟨some t,.load T x,ty,pos,aft,none⟩ r) pa L H bs:=.yv (.load hp hT hm hv) ht h
theorem gT.nC {x:Operand} {p:Addr} {r:PlT} (hx:ev L x=some (.pointer (some p))) (h:gT dfs P ops hn w0 N E r ((i,⟨some t,.nilCheck x,ty,pos,aft,none⟩,(.pointer (some p)))::pa) ((t,(.pointer (some p)))::L) H bs) (ht:Nat.blt t N=true:=by rfl):gT dfs P ops hn w0 N E (.light i ⟨some t,.nilCheck x,ty,pos,aft,none⟩ r) pa L H bs:=.yv (.nilCheck hx) ht h
end
def TD (H:Hp) (v:Value) (n:Nat) (xs:List Value):Prop:=(v=.slice none 0 0/\n=0)\/∃ b c,v=.slice (some ⟨b,0,none⟩) n c/\n<=c/\c<=maxLen/\CF H b 0 xs
variable {bs bs':List Res}
theorem Upd.new {x y:Res} (h:Upd bs x y bs'):y∈bs':=by
 induction h with
 | head=>exact .head _
 | tail _ ih=>exact .tail _ ih
variable {H H':Hp} {v:Value} {xs:List Value}
theorem TD.up {n:Nat} (h:TD H v n xs) (u:Up H H'):TD H' v n xs:=by
 rcases h with h | ⟨b,c,e,h1,h2,h3⟩
 ·exact .inl h
 ·exact .inr ⟨b,c,e,h1,h2,h3.up u⟩
section
variable {dfs:List Deferred} {P:Program} {n:Nat} {L:Sl} {H:Hp} {w0:World} {bs:List Res} {Q:Exit->Act->World->Prop} {ops:Array Oper} {rest:List Oper} {K:Act->World->Prop}
variable {d:Option Tmp} {ty:TypeId} {pos:String} {aft:Array Edge} {v:Value} {t:Tmp} {x y:Operand} {T:TypeId}
theorem St.boxRowZ {b m z:Nat} {l:List Value} {e:TypeId} {W:World} (h:St H w0 (.box b l e::bs) W) (hz:l.length=m * z) (hl:m<=maxLen):St H w0 (.row e z (.slice (some ⟨b,0,none⟩) m m) m l::bs) W:=by
 have hb:=h.own _ Hm;refine ⟨h.ext,h.agr,λx hx=>?_,?_,h.lo⟩
 ·rcases bV.1 hx with rfl | hx
  ·exact ⟨⟨hz,.inr ⟨b,m,l.toArray,Z,hb.1.1,hb.1.2,bK _,hl,by simpa using hz,by rw [<-hz];simp⟩⟩,λc e=>hb.2 c e⟩
  ·exact h.own x (.tail _ hx)
 ·have h1:=h.apart;rw [jI] at h1|-;exact ⟨λz hz c e=>h1.1 z hz c e,h1.2⟩
variable {N hn i:Nat} {pa:List (Nat × Oper × Value)} {E:Sl->Hp->List Res->Prop} {q:PlT}
end
section
variable {dfs:List Deferred} {P:Program} {n:Nat} {L:Sl} {H:Hp} {w0:World} {bs:List Res} {Q:Exit->Act->World->Prop} {ops:Array Oper} {rest:List Oper} {K:Act->World->Prop}
variable {d:Option Tmp} {ty:TypeId} {pos:String} {aft:Array Edge} {v:Value} {t:Tmp} {x y:Operand} {T:TypeId}
theorem TA {e:TypeId} {size bytes m c k:Nat} {p:Option Addr} {r:Value} {xs:List Value} {ds:List D} {bs':List Value->Value->List Res} (hT:yR P T=some (e,size,bytes)) (hx:ev L x=some r)
 (hm:∀ news r',Upd bs (.row e size r k xs) (.row e size r' (k+m) (xs++news)) (bs' news r')) (hy:ev L y=some (.slice p m c)) (hr:Rep H (.seq size ds) [.slice p m c])
 (h63:k+m<=maxLen) (hb:(k+m) * bytes<=140737488355328) (ht:Nat.blt t n=true)
 (h:∀ news r',eR H size ds news->At dfs n ((t,r')::L) H w0 (bs' news r') K):At dfs n L H w0 bs (one P ops Q ⟨some t,.call ⟨.builtin .append,#[x,y],#[T,T]⟩,ty,pos,aft,none⟩ K):=by
 have hlen:=hr.len;unfold Rep at hr;obtain ⟨p',c',h1,h2,h3,h4⟩:=hr;injection h1 with h1 _
 injection h1 with e1 e2 e3
 subst e1 e3;rcases h4 with h4 | ⟨b,off,cs,rfl,hmem,hz,_⟩
 ·subst h4;obtain rfl:m=0:=e2;cases p with
  | some A=>exact aF9 hT hx (hm []) hy (λW s j u e=>by simp at e) (by simp) (by simp) h63 hb ht λr' _=>h [] r' .nil
  | none =>
   obtain ⟨hu,i,z,hi,hz,hsz,hby,hzs,h0⟩:=CJ hT;have e4:bs' [] r=bs:=(hm [] r).same (by rw [jP,dU]);have h5:=h [] r .nil;rw [e4] at h5;intro a W f s;refine oH rfl ?_;unfold Oper.wp;have hown:W.ownsRow w0.heap.size e size r k xs:=(s.own _ (hm [] r).mem).1
   have hrun:(Builtin.append_ #[T,T] ty #[r,.slice none 0 c]).run P W=.ok r W:=by
    rcases hown.2 with ⟨rfl,rfl⟩ | ⟨g,cap,cur,rfl,hbg,hgc,hnc,hcm,hcs,htake⟩
    ·simp [Builtin.append_,run_underlying hu,sizeOf,typeInfo,hi,Builtin.lenOf,Builtin.firstCells]
    ·simp [Builtin.append_,run_underlying hu,sizeOf,typeInfo,hi,Builtin.lenOf,Builtin.firstCells,hnc,storeCells]
   simp [execOp,resolve,invoke,builtin,f.ev hx,f.ev hy,hrun,Result.andThen,Oper.upon];exact h5 _ _ (f.put ht _) s
 ·exact aF9 hT hx (hm cs) hy (λW s j u e=>by rw [Addr.add_lit];exact hmem.cell s.agr e) (by rw [hz.len,e2]) hz.one h63 hb ht λr' _=>h cs r' hz
theorem At.apD {e:TypeId} {size bytes m c k:Nat} {p:Option Addr} {r:Value} {xs:List Value} {ds:List D} {bs':List Value->Value->List Res} (hT:yR P T=some (e,size,bytes)) (hx:ev L x=some r)
 (hm:∀ news r',Upd bs (.row e size r k xs) (.row e size r' (k+m) (xs++news)) (bs' news r')) (hy:ev L y=some (.slice p m c)) (hr:Rep H (.seq size ds) [.slice p m c])
 (h63:k+m<=maxLen) (hb:(k+m) * bytes<=140737488355328) (ht:Nat.blt t n=true)
 (h:∀ news r',eR H size ds news->At dfs n ((t,r')::L) H w0 (bs' news r') (wpList P ops Q rest)):At dfs n L H w0 bs (wpList P ops Q (⟨some t,.call ⟨.builtin .append,#[x,y],#[T,T]⟩,ty,pos,aft,none⟩::rest)):=cons (TA hT hx hm hy hr h63 hb ht h)
theorem At.blR {ps:List (Nat × Operand)} {pv:List (Nat × Value)} {len z:Nat} {e:TypeId} {l:List Value} (hv:evp L ps=some pv) (hb:wH P T len pv=some (e,l)) (ht:Nat.blt t n=true) (hz:l.length=len * z) (hl:len<=maxLen)
 (h:∀ b,At dfs n ((t,.slice (some ⟨b,0,none⟩) len len)::L) H w0 (.row e z (.slice (some ⟨b,0,none⟩) len len) len l::bs) (wpList P ops Q rest)):At dfs n L H w0 bs (wpList P ops Q (⟨some t,.buildSlice T len ps.toArray,ty,pos,aft,none⟩::rest)) :=
 .bl hv hb ht λb=>reSt (λ_ s=>s.boxRowZ hz hl) (h b)
theorem At.rs {e:TypeId} {size k:Nat} {r:Value} {xs:List Value} {G:Act->World->Prop} (hm:Res.row e size r k xs∈bs) (hk:0<k) (h:∀ g c,r=.slice (some ⟨g,0,none⟩) k c->At dfs n L H w0 bs G):At dfs n L H w0 bs G:=λa W f s=>by
 have ho:W.ownsRow w0.heap.size e size r k xs:=(s.own _ hm).1;rcases ho.2 with ⟨hr,h0⟩ | ⟨g,cap,cur,hr,_⟩
 ·omega
 ·exact h g cap hr a W f s
theorem Yl.loadR {e:TypeId} {size k g c off m:Nat} {xs vs:List Value} (hp:ev L x=some (.pointer (some ⟨g,off,none⟩))) (hT:kS P T=some (some m)) (hm:Res.row e size (.slice (some ⟨g,0,none⟩) k c) k xs∈bs) (hl:vs.length=m) (hv:∀ (j:Nat) u,vs[j]? = some u->xs[off+j]? = some u) {gd:Option (Nat × Bool)}:Yl P L H w0 bs ⟨d,.load T x,ty,pos,aft,gd⟩ (.agg vs.toArray):=.of_run λa W f s=>by
 subst hl;have ho:W.ownsRow w0.heap.size e size (.slice (some ⟨g,0,none⟩) k c) k xs:=(s.own _ hm).1;obtain ⟨h1,h2⟩:=uU (W:=W) hT
 have h3:(loadCells ⟨g,off,none⟩ vs.length).run P W=.ok vs.toArray W:=run_loadCells_list W _ vs λj u e=>by
  have:=World.ownsRow.cells ho (g:=g) rfl (off+j) u (hv j u e);rw [Addr.add_lit,dV] at this;rw [Addr.add_lit];exact this
 unfold execOp;simp only [f x _ hp,Instr.loadAt,Instr.sureAddr,loadVar,Sem.run_bind,Sem.run_pure,Result.andThen,h1,h2,aY,h3]
theorem Yl.fld {i:Nat} {u:Value} (hx:ev L x=some v) (hr:∀ W,(Instr.field T v i).run P W=.ok u W) {gd:Option (Nat × Bool)}:Yl P L H w0 bs ⟨d,.field T x i,ty,pos,aft,gd⟩ u:=.of_run λa W f s=>by
 unfold execOp;simp only [f x _ hx,Sem.run_bind,hr W,Result.andThen,Sem.run_pure]
theorem HD:∀ (vs l more:List Value) (off:Nat),off+vs.length<=l.length->nV (l++more) off vs=nV l off vs++more
 | [],l,more,off,_=>rfl
 | v::r,l,more,off,h=>by
  unfold nV;rw [aI] at h;rw [List.set_append_left _ _ (by omega)];exact HD r (l.set off v) more (off+1) (by rw [List.length_set];omega)
theorem IU:∀ (vs p l:List Value) (off:Nat),nV (p++l) (p.length+off) vs=p++nV l off vs
 | [],p,l,off=>rfl
 | v::r,p,l,off=>by
  unfold nV;rw [kP _ _ (by omega),show p.length+off - p.length=off by omega,dN];exact IU r p (l.set off v) (off+1)
theorem eR.put {H:Hp} {z:Nat} {d:D} {vs:List Value} (hd:Rep H d vs) (hz:vs.length=z):∀ {ds:List D} {l:List Value} {i:Nat},eR H z ds l->i<ds.length->eR H z (ds.set i d) (nV l (i * z) vs)
 | [],l,i,_,hi=>by simp at hi
 | d0::r,l,0,h,_=>by
  unfold eR at h;obtain ⟨x,y,rfl,h1,h2,h3⟩:=h;rw [pY,pM,HD _ _ _ _ (by omega)];have:=HE vs [] x (by omega);simp only [cU,aL] at this;rw [this];unfold eR;exact ⟨vs,y,Z,hz,hd,h3⟩
 | d0::r,l,i+1,h,hi=>by
  unfold eR at h;obtain ⟨x,y,rfl,h1,h2,h3⟩:=h;have:=eR.put hd hz (i:=i) h3 (by simpa using hi);rw [List.set_cons_succ,show (i+1) * z=x.length+i * z by rw [h1,gN];omega,IU];unfold eR;exact ⟨x,_,Z,h1,h2,this⟩
theorem yO:∀ (vs l:List Value) (off:Nat),(nV l off vs).length=l.length
 | [],l,off=>rfl
 | v::r,l,off=>by unfold nV;rw [yO r,List.length_set]
variable {N hn i:Nat} {pa:List (Nat × Oper × Value)} {E:Sl->Hp->List Res->Prop} {q:PlT} {fr:List (Nat × Nat × Oper)}
theorem dX.apD {e:TypeId} {size bytes m c k:Nat} {p:Option Addr} {r:Value} {xs:List Value} {ds:List D} {bs':List Value->Value->List Res} (hT:yR P T=some (e,size,bytes)) (hx:ev L x=some r)
 (hm:∀ news r',Upd bs (.row e size r k xs) (.row e size r' (k+m) (xs++news)) (bs' news r')) (hy:ev L y=some (.slice p m c)) (hr:Rep H (.seq size ds) [.slice p m c])
 (h63:k+m<=maxLen) (hb:(k+m) * bytes<=140737488355328) (ht:Nat.blt t N=true)
 (hr2:∀ news r',iR dfs P ops hn w0 N L H (bs' news r') i pa) (h:∀ news p c,eR H size ds news->dX dfs P ops hn w0 N E fr pa ((t,.slice p (k+m) c)::L) H (bs' news (.slice p (k+m) c))) :
 dX dfs P ops hn w0 N E ((i,3,⟨some t,.call ⟨.builtin .append,#[x,y],#[T,T]⟩,ty,pos,aft,none⟩)::fr) pa L H bs :=
 ⟨sK ht,TA hT hx hm hy hr h63 hb ht λnews r' hz=>At.ra (hm news r').new λp c e=>by subst e;exact dX.into (.inr<|.inr<|hr2 _ _) (h news p c hz)⟩
end
section
variable {dfs:List Deferred} {P:Program}
variable {n:Nat} {L:Sl} {H:Hp} {w0:World} {bs:List Res} {d:Option Tmp} {ty:TypeId} {pos:String} {aft:Array Edge} {g:Option (Nat × Bool)} {x y:Operand} {T T':TypeId}
end
variable {z c:Nat}
theorem Rep.cells {n:Nat} {ds:List D} {p:Option Addr} (h:Rep H (.seq z ds) [.slice p n c]):∃ cf:Nat->List Value,∀ i d,ds[i]? = some d->∃ b off,p=some ⟨b,off,none⟩/\Rep H d (cf i)/\(cf i).length=z/\kU H b (off+i * z) (cf i):=by
 classical
 refine ⟨λi=>if h:∃ cs,∀ d,ds[i]? = some d->∃ b off,p=some ⟨b,off,none⟩/\Rep H d cs/\cs.length=z/\kU H b (off+i * z) cs then Classical.choose h else [],λi d hd=>?_⟩
 have ex:∃ cs,∀ d,ds[i]? = some d->∃ b off,p=some ⟨b,off,none⟩/\Rep H d cs/\cs.length=z/\kU H b (off+i * z) cs:=by
  obtain ⟨b,off,cs,h1,h2,h3,h4⟩:=h.elem hd;refine ⟨cs,λd' hd'=>?_⟩;rw [hd] at hd';injection hd' with e
  subst e;exact ⟨b,off,h1,h2,h3,h4⟩
 simp only [NN ex];exact Classical.choose_spec ex d hd
variable {l:List Value} {k:Nat}
theorem aT0 {vs:List Value} (h:(l.drop k).take vs.length=vs):∀ (j:Nat) u,vs[j]? = some u->l[k+j]? = some u:=λj u hj=>by
 rw [<-h,List.getElem?_take] at hj
 split at hj
 ·rw [List.getElem?_drop] at hj;exact hj
 ·cases hj
section
variable {dfs:List Deferred} {P:Program} {n:Nat} {L:Sl} {H:Hp} {w0:World} {bs:List Res} {Q:Exit->Act->World->Prop} {ops:Array Oper} {rest:List Oper} {K:Act->World->Prop}
variable {d:Option Tmp} {ty:TypeId} {pos:String} {aft:Array Edge} {v:Value} {t:Tmp} {x:Operand}
theorem Yl.mkF {fn:Fn} {fs cs:List Operand} {fi ca:List Value} {g:Option (Nat × Bool)} (h1:evs L fs=some fi) (h2:evs L cs=some ca):Yl P L H w0 bs ⟨d,.makeFunc fn fs.toArray cs.toArray,ty,pos,aft,g⟩ (.func fn fi.toArray ca.toArray):=.of_run λa W f _=>by
 unfold execOp;simp [AD f h1,AD f h2,Instr.makeFunc]
theorem Fr.know {a:Act} {p:Value} (f:Fr dfs n L a) (h:look L t=some p):Fr dfs n ((t,p)::L) a:=⟨f.size,f.defers,λs u e=>by
 unfold look at e;cases hb:Nat.beq t s
 ·rw [hb,cond_false] at e;exact f.slot s u e
 ·rw [hb,nH] at e;rw [<-kO hb,<-bL e];exact f.slot t p h⟩
theorem At.cr {y z:Code} {p:Bool} (hc:look L t=some (.bool p)) (h1:p=true->At dfs n ((t,.bool true)::L) H w0 bs (y.wp P Q)) (h2:p=false->At dfs n ((t,.bool false)::L) H w0 bs (z.wp P Q)):At dfs n L H w0 bs ((Code.cond (.tmp t) y z).wp P Q) :=
 At.cd (t:=p) (by exact hc) (λe a W f s=>h1 e a W (f.know (e ▸ hc)) s) (λe a W f s=>h2 e a W (f.know (e ▸ hc)) s)
/-! ### Stores in a drawn region's head -/
section
variable {N hn i:Nat} {pa:List (Nat × Oper × Value)} {E:Sl->Hp->List Res->Prop} {r:List (Nat × Nat × Oper)} {T:TypeId} {y:Operand} {bs':List Res}
theorem dX.into0 (hr:iR dfs P ops hn w0 N L H bs' i pa) (h:dX dfs P ops hn w0 N E r pa L H bs') :
 At dfs N L H w0 bs' (λa' W'=>∃ v H' bs'',Fr dfs N (putL none v L) a'/\St H' w0 bs'' W'/\(2=1\/(∀ W,St H' w0 bs'' W->St H w0 bs W)\/iR dfs P ops hn w0 N L H' bs'' i pa)/\dX dfs P ops hn w0 N E r pa (putL none v L) H' bs''):=λ_ _ f s=>⟨undef,H,bs',f,s,.inr (.inr hr),h⟩
theorem dX.sW {b:Nat} {l vs:List Value} {t':TypeId} (hm:Upd bs (.box b l t') (.box b vs t') bs') (hp:ev L x=some (.pointer (some ⟨b,0,none⟩))) (hv:ev L y=some (.agg vs.toArray)) (hT:hZ P T=some vs.length) (h1:∀ u∈vs,u.oneCell'=true) (ho:l.length=vs.length)
 (hr:iR dfs P ops hn w0 N L H bs' i pa) (h:dX dfs P ops hn w0 N E r pa L H bs'):dX dfs P ops hn w0 N E ((i,3,⟨none,.store T x y,ty,pos,aft,none⟩)::r) pa L H bs :=
 ⟨λ_ e=>(by cases e),RH hp hv hT h1 hm ho (into0 hr h)⟩
theorem dX.st {b off:Nat} {l l':List Value} {t':TypeId} (hm:Upd bs (.box b l t') (.box b l' t') bs') (hp:ev L x=some (.pointer (some ⟨b,off,none⟩))) (hv:ev L y=some v) (hT:hZ P T=some 1) (h1:v.oneCell'=true) (ho:Nat.blt off l.length=true) (hl:l.set off v=l')
 (hr:iR dfs P ops hn w0 N L H bs' i pa) (h:dX dfs P ops hn w0 N E r pa L H bs'):dX dfs P ops hn w0 N E ((i,3,⟨none,.store T x y,ty,pos,aft,none⟩)::r) pa L H bs :=
 ⟨λ_ e=>(by cases e),store hp hv hT h1 hm (by simpa [pV] using ho) hl (into0 hr h)⟩
end
section
variable {N hn i k:Nat} {pa:List (Nat × Oper × Value)} {E:Sl->Hp->List Res->Prop} {r:PlT} {T:TypeId} {y:Operand} {bs':List Res}
theorem vV.blF {ps:List (Nat × Operand)} {pv:List (Nat × Value)} {len:Nat} {e:TypeId} {l:List Value} (hv:evp L ps=some pv) (hb:wH P T len pv=some (e,l)) (ht:Nat.blt t N=true)
 (h:∀ b H1,HUp w0 H H1->CF H1 b 0 l->gT dfs P ops hn w0 N E r pa ((t,.slice (some ⟨b,0,none⟩) len len)::L) H1 bs):vV dfs P ops hn w0 N E i k ⟨some t,.buildSlice T len ps.toArray,ty,pos,aft,none⟩ r pa L H bs :=
 ⟨sK ht,buildSlice hv hb ht λb=>freezeBoxN λH1 u m=>vV.into (.inr<|.inl λ_ s=>s.weakH u.up) (h b H1 u m)⟩
theorem vV.into0 (hr:iR dfs P ops hn w0 N L H bs' i pa) (h:gT dfs P ops hn w0 N E r pa L H bs') :
 At dfs N L H w0 bs' (λa' W'=>∃ v H' bs'',Fr dfs N (putL none v L) a'/\St H' w0 bs'' W'/\(k=1\/(∀ W,St H' w0 bs'' W->St H w0 bs W)\/iR dfs P ops hn w0 N L H' bs'' i pa)/\gT dfs P ops hn w0 N E r pa (putL none v L) H' bs''):=λ_ _ f s=>⟨undef,H,bs',f,s,.inr (.inr hr),h⟩
end
end
section
variable {dfs:List Deferred} {P:Program} {L:Sl} {H:Hp} {w0:World} {bs:List Res} {ops:Array Oper}
variable {ty:TypeId} {pos:String} {aft:Array Edge} {t:Tmp}
variable {N hn i k:Nat} {pa:List (Nat × Oper × Value)} {E:Sl->Hp->List Res->Prop} {r:List (Nat × Nat × Oper)} {T:TypeId}
theorem dX.blF {ps:List (Nat × Operand)} {pv:List (Nat × Value)} {len:Nat} {e:TypeId} {l:List Value} (hv:evp L ps=some pv) (hb:wH P T len pv=some (e,l)) (ht:Nat.blt t N=true)
 (h:∀ b H1,HUp w0 H H1->CF H1 b 0 l->dX dfs P ops hn w0 N E r pa ((t,.slice (some ⟨b,0,none⟩) len len)::L) H1 bs):dX dfs P ops hn w0 N E ((i,k+1,⟨some t,.buildSlice T len ps.toArray,ty,pos,aft,none⟩)::r) pa L H bs :=
 ⟨sK ht,buildSlice hv hb ht λb=>freezeBoxN λH1 u m=>dX.into (.inr<|.inl λ_ s=>s.weakH u.up) (h b H1 u m)⟩
end
class FW (F:Fence):Prop where
 fn:∀ f,F.fn f
 depth:F.depth=none
 calls:∀ {n:Nat} {P:Program} {f:FuncId} {args:Array Value} {w:World} {R:Ending->World->Prop},Calls P f args w R->CallsIn F n P f args w R
 rows:∀ {n:Nat} {P:Program} {r:String} {args:Array Value} {w:World} {R:Value->World->Prop},Rows P r args w R->RowsIn F n P r args w R
instance:FW Fence.wide:=⟨λ_=>trivial,Z,λh=>callsIn_wide.2 h,λh c cs _=>let ⟨v,w',r,s⟩:=h c cs;⟨v,w',r,stepsIn_wide.2 s⟩⟩
instance {l:Nat}:FW (Fence.wide.inRound l):=⟨λ_=>trivial,Z,λh=>CallsIn.inRound l (callsIn_wide.2 h),λh c cs _=>let ⟨v,w',r,s⟩:=h c cs;⟨v,w',r,stepsIn_wide.2 s⟩⟩
section
variable {dfs:List Deferred} {P:Program} {n m:Nat} {L:Sl} {H:Hp} {w0:World} {bs:List Res} {Q:Exit->Act->World->Prop} {ops:Array Oper} {rest:List Oper} {K:Act->World->Prop} {F:Fence}
variable {d:Option Tmp} {ty:TypeId} {pos:String} {aft:Array Edge} {g:Option (Nat × Bool)} {v:Value} {t:Tmp} {op:Op} {x y:Operand} {T:TypeId}
theorem WX [hF:FW F] {o:Oper} {a:Act} {w:World} (hd:∀ c,o.op≠.defer c) (h:o.wp P a w K (λ_ _ _=>False)):o.wpIn F m P a w K Q:=by
 unfold Oper.wpIn;refine ⟨λf _=>hF.fn f,?_⟩;rw [Oper.semAt_plain F _ _ hd];unfold Oper.wp at h;generalize (execOp a.eval o).run P w=r at *;cases r with
 | ok z w' =>
  cases z <;> simp only [Oper.upon] at h <;> simp only [Oper.uponIn]
  case value u=>exact h
  case skip=>exact h
  case defer d=>exact h
  case enter f args =>
   refine ⟨λe=>(by rw [hF.depth] at e;cases e),hF.calls (h.mono ?_)⟩;intro e w'' q;cases e with
   | returned v=>exact q
   | panicked c=>exact q.elim
   | outgrown=>obtain ⟨_,_,q⟩:=q;exact q.elim
  case row rw args=>exact ⟨λe=>(by rw [hF.depth] at e;cases e),hF.rows h⟩
 | halt z w' =>
  cases z <;> simp only [Oper.upon] at h
theorem bB8 [hF:FW F] {o:Oper} (hd:∀ c,o.op≠.defer c) (h:At dfs n L H w0 bs (one P ops (λ_ _ _=>False) o (wpListIn F m P ops Q rest))):At dfs n L H w0 bs (wpListIn F m P ops Q (o::rest)):=by
 intro a W f s;have h1:=h a W f s;unfold one at h1;unfold wpListIn;cases hw:Region.wanted o (yielded ops a.tmps) with
 | true =>
  rw [hw] at h1;simp only [aY] at h1|-;rcases h1 with h1 | ⟨_,_,_,h1⟩
  ·exact WX hd h1
  ·exact h1.elim
 | false =>
  rw [hw] at h1;simp only [aE,aW] at h1|-;exact ⟨λf _=>hF.fn f,h1⟩
theorem At.rgI {id:Nat} {l:List Oper} (h:At dfs n L H w0 bs (wpListIn F m P l.toArray Q l)):At dfs n L H w0 bs ((Code.region id l.toArray false).wpIn F m P Q):=λa W f s=>wpIn_region_lit (h a W f s)
theorem At.rgW {id:Nat} {l:List Oper} (m:Nat) (h:At dfs n L H w0 bs (wpListIn Fence.wide m P l.toArray Q l)):At dfs n L H w0 bs ((Code.region id l.toArray false).wp P Q):=λa W f s=>wpIn_wide.1 (wpIn_region_lit (h a W f s))
theorem At.nlI (h:At dfs n L H w0 bs (Q .normal)):At dfs n L H w0 bs (wpListIn F m P ops Q []):=h
theorem At.yvI [FW F] (hy:Yl P L H w0 bs ⟨some t,op,ty,pos,aft,none⟩ v) (ht:Nat.blt t n=true) (h:At dfs n ((t,v)::L) H w0 bs (wpListIn F m P ops Q rest)) (hd:∀ c,op≠.defer c:=by intro c e;cases e):At dfs n L H w0 bs (wpListIn F m P ops Q (⟨some t,op,ty,pos,aft,none⟩::rest)):=bB8 hd (yl hy ht h)
theorem At.mI [FW F] (hx:ev L x=some v) (ht:Nat.blt t n=true) (h:At dfs n ((t,v)::L) H w0 bs (wpListIn F m P ops Q rest)):At dfs n L H w0 bs (wpListIn F m P ops Q (⟨some t,.move x,ty,pos,aft,none⟩::rest)):=.yvI (.move hx) ht h
theorem At.alI [FW F] {l:List Value} (hz:pH P T=some l) (ht:Nat.blt t n=true) (h:∀ b,At dfs n ((t,.pointer (some ⟨b,0,none⟩))::L) H w0 (.box b l T::bs) (wpListIn F m P ops Q rest)):At dfs n L H w0 bs (wpListIn F m P ops Q (⟨some t,.alloc T,ty,pos,aft,none⟩::rest)):=bB8 (by intro c e;cases e) (alloc hz ht h)
theorem At.sWI [FW F] {b:Nat} {l vs:List Value} {t':TypeId} {bs':List Res} (hm:Upd bs (.box b l t') (.box b vs t') bs') (hp:ev L x=some (.pointer (some ⟨b,0,none⟩))) (hv:ev L y=some (.agg vs.toArray)) (hT:hZ P T=some vs.length) (h1:∀ u∈vs,u.oneCell'=true) (ho:l.length=vs.length) (h:At dfs n L H w0 bs' (wpListIn F m P ops Q rest)) :
 At dfs n L H w0 bs (wpListIn F m P ops Q (⟨none,.store T x y,ty,pos,aft,none⟩::rest)):=bB8 (by intro c e;cases e) (RH hp hv hT h1 hm ho h)
end
/-! ### The caller's side of a range over a function -/
section
variable {H:Hp} {w0 W W':World} {bs:List Res}
theorem St.beside {row:Option Nat} (s:St H w0 bs W) (g:W.grownBy W' row) (hr:∀ r,row=some r->w0.heap.size<=r/\H r=none/\∀ x∈bs,x.blk≠some r):St H w0 bs W':=by
 have hb:∀ k,k<W.heap.size->(∀ r,row=some r->k≠r)->W'.heap[k]? = W.heap[k]? := λk hk hn=>g.block k hk (λe=>hn k e.symm rfl);refine ⟨?_,⟨?_,bH s.agr.lo g.size⟩,?_,s.apart,s.lo⟩
 ·have e:=s.ext;unfold Ext at e|-;refine ⟨g.os.trans e.os,g.tape.trans e.tape,g.output.trans e.output,bH e.size g.size,λk hk=>?_⟩;exact (hb k (eU hk e.size) (λr e' h=>by have:=(hr r e').1;omega)).trans (e.block k hk)
 ·intro b o e;have:=s.agr b o e;rw [hb b (pK this) (λr e' h=>by subst h;rw [(hr b e').2.1] at e;cases e)];exact this
 ·intro x hx;exact ⟨(s.own x hx).1.keep g.size (λb e=>hb b ((s.own x hx).1.lt e).2 (λr e' h=>by subst h;exact (hr b e').2.2 x hx e)),(s.own x hx).2⟩
def UX:List Res->Bool
 | []=>true
 | .box ..::r=>UX r
 | .row ..::r=>UX r
 | _::_=>false
theorem EH:∀ {bs:List Res},UX bs=true->∀ x∈bs,∀ base,x.ok base W->∀ b,x.blk=some b->∃ o,W.heap[b]? = some o/\o.isCells=true
 | [],_,x,hx,_,_,_,_=>by cases hx
 | .box c l t::r,h,x,hx,base,ho,b,e=>by
  rcases bV.1 hx with rfl | hx
  ·obtain rfl:c=b:=bL e;exact ⟨_,ho.2,Z⟩
  ·exact EH (bs:=r) h x hx base ho b e
 | .row et size v n xs::r,h,x,hx,base,ho,b,e=>by
  rcases bV.1 hx with rfl | hx
  ·obtain ⟨_,⟨rfl,_⟩ | ⟨g,cap,cur,rfl,hg,hc,_⟩⟩:=ho
   ·cases e
   ·obtain rfl:g=b:=bL e;exact ⟨_,hc,Z⟩
  ·exact EH (bs:=r) h x hx base ho b e
 | .obj ..::_,h,_,_,_,_,_,_=>by cases h
 | .big ..::_,h,_,_,_,_,_,_=>by cases h
theorem RV (s:St H w0 bs W) (h:UX bs=true) {r:Nat} {o:Obj} (ho:W.heap[r]? = some o) (hc:o.isCells=false):∀ x∈bs,x.blk≠some r:=by
 intro x hx e;obtain ⟨o',h1,h2⟩:=EH h x hx _ (s.own x hx).1 r e;rw [ho] at h1;cases h1;rw [hc] at h2;cases h2
theorem bX4 {α Z:Type} {B:Nat} {C:List α->Z->Prop} {rs:Z->List Res} (hB:w0.heap.size<=B) (hH:∀ r,B<=r->H r=none) (hn:∀ pre z,C pre z->UX (rs z)=true) :
 OwnFrom B (λpre W=>∃ z,C pre z/\St H w0 (rs z) W):=by
 rintro pre X Y row ⟨z,hz,s⟩ hg hr
 exact ⟨z,hz,s.beside hg λr e=>by
  obtain ⟨h1,o,h2,h3⟩:=hr r e;exact ⟨bH hB h1,hH r h1,RV s (hn _ _ hz) h2 h3⟩⟩
theorem St.less {H':Hp} (s:St H' w0 bs W) (u:Up H H'):St H w0 bs W:=⟨s.ext,⟨λb o e=>s.agr b o (u b o e),u.lo ▸ s.agr.lo⟩,λx hx=>⟨(s.own x hx).1,λb e=>by
 cases h:H b with
 | none=>rfl
 | some o=>have:=(s.own x hx).2 b e;rw [u b o h] at this;cases this⟩,s.apart,u.lo ▸ s.lo⟩
theorem St.front {tl:List Res} (s:St H w0 (bs++tl) W):St H w0 bs W:=⟨s.ext,s.agr,λx hx=>s.own x (oP _ hx),(iO.1 s.apart).1,s.lo⟩
def tailOf (B:Nat) (W:World):List Res:=.big W.heap.size::(List.range' B (W.heap.size - B)).filterMap λk=>match W.heap[k]? with
 | some o=>if o.isCells then none else some (.obj k o)
 | none=>none
theorem EJ {B:Nat} {x:Res} (h:x∈tailOf B W):x=.big W.heap.size\/∃ k o,x=.obj k o/\W.heap[k]? = some o/\o.isCells=false/\B<=k:=by
 rcases bV.1 h with rfl | h
 ·exact .inl Z
 ·obtain ⟨k,hk,he⟩:=pZ.1 h;cases ho:W.heap[k]? with
  | none=>rw [ho] at he;cases he
  | some o =>
   rw [ho] at he;cases hc:o.isCells with
   | true=>simp [hc] at he
   | false=>exact .inr ⟨k,o,by simpa [hc] using he.symm,ho,hc,by have:=List.mem_range'_1.1 hk;omega⟩
theorem St.tailOf {B:Nat} (s:St H w0 bs W) (hn:UX bs=true) (hB:w0.heap.size<=B) (hH:∀ r,B<=r->H r=none):St H w0 (bs++tailOf B W) W:=by
 refine ⟨s.ext,s.agr,?_,iO.2 ⟨s.apart,?_,?_⟩,s.lo⟩
 ·intro x hx;rcases cV.1 hx with hx | hx
  ·exact s.own x hx
  ·rcases EJ hx with rfl | ⟨k,o,rfl,ho,hc,hk⟩
   ·exact ⟨bK _,λb e=>by cases e⟩
   ·exact ⟨⟨bH hB hk,ho⟩,λb e=>by obtain rfl:k=b:=bL e;exact hH k hk⟩
 ·refine .cons (λy _ b e=>by cases e) ?_;refine List.Pairwise.filterMap _ ?_ (List.pairwise_lt_range' (s:=B) (n:=W.heap.size - B));intro k j hlt x hx y hy b e e'
  have key:∀ (m:Nat) (u:Res),(match W.heap[m]? with | some o=>if o.isCells then none else some (Res.obj m o) | none=>none)=some u->u.blk=some m:=by
   intro m u hu;cases ho:W.heap[m]? with
   | none=>rw [ho] at hu;cases hu
   | some o =>
    rw [ho] at hu;cases hc:o.isCells with
    | true=>simp [hc] at hu
    | false =>
     simp [hc] at hu;rw [<-hu];rfl
  have h1:=key k x hx;have h2:=key j y hy;rw [h1] at e;rw [h2] at e';cases e;cases e';omega
 ·intro x hx y hy b e e';rcases EJ hy with rfl | ⟨k,o,rfl,ho,hc,hk⟩
  ·cases e'
  ·obtain rfl:k=b:=bL e';exact RV s hn ho hc x hx e
theorem St.keepsFrom {B:Nat} (s:St H w0 (bs++Sx.tailOf B W) W'):KeepsFrom B W W':=by
 refine ⟨?_,λk o hk ho hc=>?_⟩
 ·exact (s.own _ (nS _ (bD ..))).1
 ·have hm:Res.obj k o∈Sx.tailOf B W:=by
   refine bZ _ (pZ.2 ⟨k,List.mem_range'_1.2 ?_,?_⟩)
   ·have:=pK ho;omega
   ·rw [ho];simp [hc]
  exact ((s.own _ (nS _ hm)).1).2
def KpH (H:Hp) (W W':World):Prop:=Agr H W->Agr H W'
def rE {α Z:Type} (C:List α->Z->Prop) (rs:Z->List Res) (H:Hp) (w0:World) (tl:List Res) (xs:List α):Exit->Act->World->Prop
 | .normal,_,W=>∃ z,C xs z/\St H w0 (rs z++tl) W
 | _,_,_=>False
theorem At.rE {α Z:Type} {C:List α->Z->Prop} {rs:Z->List Res} {tl:List Res} {xs:List α} {dfs:List Deferred} {n:Nat} {L:Sl} {H':Hp} (z:Z) (u:Up H H') (hz:C xs z) (hb:bs=rs z++tl) :
 At dfs n L H' w0 bs (Sx.rE C rs H w0 tl xs .normal):=λa W f s=>⟨z,hz,by rw [<-hb];exact s.less u⟩
end
/-! ### A function with a range over a function in it -/
section
variable {P:Program} {n:Nat} {L:Sl} {H:Hp} {w0:World} {bs bs':List Res} {fn:Func} {R:Ending->World->Prop} {v:Value} {D:Nat}
theorem enterM {f:FuncId} {c:Code} {args:List Value} {w:World} (hf:P.funcs[f]? = some fn) (hb:fn.body=some c) (hn:fn.ntmps=n) (hl:Nat.ble args.length n=true) (hA:Agr H w)
 (h:At [] n (IT 0 args) H w [] (c.wp P (bodyPostM Fence.wide 9 P fn R))):Calls P f args.toArray w R:=by
 refine callsIn_wide.1 (callsIn_of_wp_marks (n:=9) hf hb trivial (wpIn_wide.2 (h _ _ ⟨?_,Z,?_⟩ (.start hA))))
 ·have:args.length<=n:=kN hl;simp [hn];omega
 ·intro t v e;obtain ⟨_,h2⟩:=FM args 0 t v e;rw [vX] at h2;have hlt:t<args.length:=(List.getElem?_eq_some_iff.1 h2).1;rw [Al_Array_getD_eq_getD_getElem?];rw [Array.getElem?_append_left (by simpa using hlt)];simp [h2]
theorem St.shut {W:World} (s:St H w0 bs W) (u:Upd bs (.obj D (.deferred (some []))) (.obj D (.deferred none)) bs'):St H w0 bs' (W.putObj D (.deferred none)):=by
 obtain ⟨h1,h2⟩:=(s.own _ u.mem).1;have hlt:=pK h2;have e:=s.ext;refine s.upd u ?_ (by simp [World.putObj]) ?_ ⟨h1,World.putObj_heap_same hlt⟩ (λb e=>.inl e)
 ·unfold Ext at e|-;exact e.grown (grownBy_putObj' W D _) (by omega) (λk e=>by cases e;exact h1)
 ·intro b _ hne;exact World.putObj_heap_other (λh=>hne (by rw [h];rfl))
theorem retM {e:Exit} (he:e=.ret\/e=.normal) (u:Upd bs (.obj D (.deferred (some []))) (.obj D (.deferred none)) bs') (h:At [] n L H w0 bs' (bodyPost P fn R .ret)) :
 At [{ target:=.collected D,args:=#[] }] n L H w0 bs (bodyPostM Fence.wide 9 P fn R e):=by
 intro a W f s;obtain ⟨_,v,h2,h3⟩:=h { a with defers:=[] } _ ⟨f.size,Z,f.slot⟩ (s.shut u)
 have h4:LeavesInM Fence.wide 9 P fn a.tmps R a.defers .returning W:=by
  rw [f.defers];exact ⟨(by intro e;cases e),.inl ⟨D,_,Z,run_takeDeferred (s.own _ u.mem).1.2,v,h2,h3⟩⟩
 rcases he with rfl | rfl <;> exact h4
end
/-! ### The iterator's side -/
section
variable {dfs:List Deferred} {P:Program} {n m l:Nat} {L:Sl} {H:Hp} {w0:World} {bs:List Res} {Q:Exit->Act->World->Prop} {ops:Array Oper} {rest:List Oper} {F:Fence}
variable {d:Option Tmp} {ty:TypeId} {pos:String} {aft:Array Edge} {g:Option (Nat × Bool)} {t:Tmp} {x:Operand} {xs:List Operand} {vs:List Value} {ats:Array TypeId}
theorem Ext.grownBy {W W':World} (e:Ext W W'):W.grownBy W' none:=by
 unfold Ext at e;exact ⟨e.os,e.tape,e.output,e.size,λk hk _=>e.block k hk⟩
theorem AbidesFrom.ext {β:Type} {B:Nat} {J:β->World->Prop} (h:AbidesFrom B J) {s:β} {W W':World} (hs:J s W) (e:Ext W W'):J s W':=h s W W' none hs (Ext.grownBy e) (λr h=>by cases h)
theorem YM {a:Act} {W W':World} {r:Next} (f0:∀ x u,ev L x=some u->a.eval x=u) (hx:ev L x=some (.func (.yield l) #[] #[])) (hv:evs L xs=some vs) (hr:(Instr.yield l vs.toArray).run P W=.ok r W') :
 (execOp a.eval ⟨d,.call ⟨.value x,xs.toArray,ats⟩,ty,pos,aft,g⟩).run P W=.ok r W':=by
 unfold execOp;simp [resolve,Deferred.ofValue,f0 _ _ hx,invoke,AD f0 hv,hr]
def noH:Hp:=⟨λ_=>none,0⟩
theorem At.yd [hF:FW F] {J Jx:World->Prop} (hx:ev L x=some (.func (.yield l) #[] #[])) (hv:evs L xs=some vs) (ht:Nat.blt t n=true)
 (hy:∀ W,St H w0 bs W->YieldAt F (m - 1) P l vs.toArray W λe W'=>(e=.returned (.bool true)/\J W'/\KpH H W W')\/(e=.returned (.bool false)/\Jx W'))
 (h1:∀ w1,J w1->At dfs n ((t,.bool true)::L) H w1 [] (wpListIn F m P ops Q rest))
 (h2:∀ w1,Jx w1->At dfs n ((t,.bool false)::L) noH w1 [] (wpListIn F m P ops Q rest)) :
 At dfs n L H w0 bs (wpListIn F m P ops Q (⟨some t,.call ⟨.value x,xs.toArray,ats⟩,ty,pos,aft,none⟩::rest)):=by
 intro a W f s;unfold wpListIn;rw [aO (by simp [Region.wanted])];unfold Oper.wpIn;refine ⟨λf _=>hF.fn f,?_⟩;rw [Oper.semAt_plain F _ _ (by intro c e;cases e)];obtain ⟨fn,tmps,assign,body,hr,hR⟩:=hy W s;rw [YM (λx u e=>f.ev e) hx hv hr];refine ⟨λe=>(by rw [hF.depth] at e;cases e),hR.mono ?_⟩;rintro e W' (⟨rfl,hj,hk⟩ | ⟨rfl,hj⟩)
 ·exact h1 W' hj _ _ (f.put ht _) (.start (hk s.agr))
 ·exact h2 W' hj _ _ (f.put ht _) (.start ⟨λb o e=>(by cases e),aR _⟩)
theorem At.lj {c:Code} {X:Type} (L':X->Sl) (J:X->World->Prop) (C:X->Prop) (μ:X->Nat) (x0:X) (hC:C x0) (hL:Sub L (L' x0)) (hJ:J x0 w0)
 (round:∀ x w1,C x->J x w1->At dfs n (L' x) H w1 [] (c.wp P (Exit.then (λa W=>∃ y w2,(C y/\μ y<μ x)/\J y w2/\Fr dfs n (L' y) a/\St H w2 [] W) Q))) :
 At dfs n L H w0 [] ((Code.loop c).wp P Q):=by
 intro a W f s;refine wp_loop_ghost (λm a W=>∃ x w1,μ x=m/\C x/\J x w1/\Fr dfs n (L' x) a/\St H w1 [] W) _ ⟨x0,w0,Z,hC,hJ,f.sub hL,s⟩ ?_;rintro m a W ⟨x,w1,rfl,hx,hj,f,s⟩;refine wp_mono (round x w1 hx hj a W f s) λe a' W' q=>?_;cases e <;> first | exact q | skip
 obtain ⟨y,w2,⟨hy,hlt⟩,hj,fy,sy⟩:=q;exact ⟨_,hlt,y,w2,Z,hy,hj,fy,sy⟩
theorem At.aj {X:Type} {J:X->World->Prop} {L':X->Sl} {C:X->Prop} {μ:X->Nat} {x:X} (y:X) (hC:C y) (hm:μ y<μ x) (hJ:J y w0) (hL:Sub L (L' y)) :
 At dfs n L H w0 [] (λa W=>∃ y w2,(C y/\μ y<μ x)/\J y w2/\Fr dfs n (L' y) a/\St H w2 [] W):=λ_ W f s=>⟨y,w0,⟨hC,hm⟩,hJ,f.sub hL,s⟩
theorem seqStops {α:Type} {gf:Nat} {lb:List Value} {enc:α->Value} {S:List α->Prop} {N:Nat} {w:World} {fn:Func} {c:Code} (hf:P.funcs[gf]? = some fn) (hb:fn.body=some c) (hn:fn.ntmps=n) (hl:Nat.ble (lb.length+1) n=true)
 (hA:∀ W,Ext w W->Agr H W)
 (h:∀ l (J Jx:List α->World->Prop) W,(∀ s A B,J s A->Ext A B->J s B)->(∀ s A B,Jx s A->Ext A B->Jx s B) ->
  (∀ pre x W1,J pre W1->pre.length<N->YieldAt Fence.wide 7 P l #[enc x] W1 λe W'=>(e=.returned (.bool true)/\J (pre++[x]) W'/\KpH H W1 W')\/(e=.returned (.bool false)/\Jx (pre++[x]) W')) ->
  J [] W->At [] n (IT 0 (.func (.yield l) #[] #[]::lb)) H W [] (c.wp P (bodyPost P fn λe W'=>(∃ v,e=.returned v)/\((∃ xs,S xs/\J xs W')\/(∃ pre,True/\Jx pre W'))))) :
 SeqStopsK Fence.wide 8 P gf lb.toArray (λx=>#[enc x]) (KpH H) S (λ_=>True) N w:=by
 intro l J Jx W hW hJ hJx hY h0;refine callsIn_wide.2 ?_;have:(#[Value.func (.yield l) #[] #[]]++lb.toArray:Array Value)=(Value.func (.yield l) #[] #[]::lb).toArray:=by simp
 rw [this];exact enter hf hb hn hl (hA W (by unfold Ext;exact hW)) (h l J Jx W (λs A B h e=>Sx.AbidesFrom.ext hJ h e) (λs A B h e=>Sx.AbidesFrom.ext hJx h e) hY h0)
end
variable {W:World}
theorem Res.ok.base {b:Nat} {x:Res} (h:x.ok c W) (hb:b<=c):x.ok b W:=by
 cases x with
 | box d l t=>exact ⟨bH hb h.1,h.2⟩
 | obj d o=>exact ⟨bH hb h.1,h.2⟩
 | big d=>exact h
 | ps et v xs =>
  obtain ⟨rfl,h0⟩ | ⟨g,cap,cur,rfl,hg,hc,hr⟩:=h
  ·exact .inl ⟨Z,h0⟩
  ·exact .inr ⟨g,cap,cur,Z,bH hb hg,hc,hr⟩
 | row et size v n xs =>
  obtain ⟨hl,⟨rfl,h0⟩ | ⟨g,cap,cur,rfl,hg,hc,hr⟩⟩:=h
  ·exact ⟨hl,.inl ⟨Z,h0⟩⟩
  ·exact ⟨hl,.inr ⟨g,cap,cur,Z,bH hb hg,hc,hr⟩⟩
variable {w0 W':World}
theorem St.join (s:St H w0 bs W) (u:HUp W H H') (k:St H' W bs' W'):St H' w0 (bs'++bs) W':=by
 refine ⟨s.ext.trans k.ext,k.agr,λx hx=>?_,iO.2 ⟨k.apart,s.apart,λx hx y hy b e e'=>?_⟩,u.up.lo ▸ s.lo⟩
 ·rcases cV.1 hx with hx | hx
  ·exact ⟨(k.own x hx).1.base s.ext.size,(k.own x hx).2⟩
  ·exact ⟨(s.own x hx).1.ext k.ext,λb e=>u.new b ((s.own x hx).2 b e) ((s.own x hx).1.lt e).2⟩
 ·have h1:=((k.own x hx).1.lt e).1;have h2:=((s.own y hy).1.lt e').2;omega
section
variable {dfs:List Deferred} {P:Program} {L:Sl} {H:Hp} {w0:World} {bs:List Res} {ops:Array Oper}
variable {ty:TypeId} {pos:String} {aft:Array Edge} {t:Tmp} {x:Operand}
variable {N hn i k:Nat} {pa:List (Nat × Oper × Value)} {E:Sl->Hp->List Res->Prop} {r:List (Nat × Nat × Oper)}
end
def Qn (Q:Exit->Act->World->Prop):Exit->Act->World->Prop
 | .normal=>Q .normal
 | _=>λ_ _=>False
def bN6 (l:List Oper):Bool:=l.all λo=>match o.op with | .defer _=>false | _=>true
section
variable {dfs:List Deferred} {P:Program} {n m:Nat} {L:Sl} {H:Hp} {w0:World} {bs:List Res} {Q:Exit->Act->World->Prop} {ops:Array Oper} {F:Fence}
theorem TP [hF:FW F] {o:Oper} {a:Act} {w:World} {K:Act->World->Prop} (hd:∀ c,o.op≠.defer c) (h:o.wp P a w K (Qn Q)):o.wpIn F m P a w K Q:=by
 unfold Oper.wpIn;refine ⟨λf _=>hF.fn f,?_⟩;rw [Oper.semAt_plain F _ _ hd];unfold Oper.wp at h;generalize (execOp a.eval o).run P w=r at *;cases r with
 | ok z w' =>
  cases z <;> simp only [Oper.upon] at h <;> simp only [Oper.uponIn]
  case value u=>exact h
  case skip=>exact h
  case defer d=>exact h
  case enter f args =>
   refine ⟨λe=>(by rw [hF.depth] at e;cases e),hF.calls (h.mono ?_)⟩;intro e w'' q;cases e with
   | returned v=>exact q
   | panicked c=>exact q.elim
   | outgrown=>obtain ⟨_,_,q⟩:=q;exact q.elim
  case row rw args=>exact ⟨λe=>(by rw [hF.depth] at e;cases e),hF.rows h⟩
 | halt z w' =>
  cases z <;> simp only [Oper.upon] at h <;> exact h.elim
theorem aG0 [hF:FW F] (hd:∀ (i:Nat) o,ops[i]? = some o->∀ c,o.op≠.defer c):∀ (fuel:Nat) (listed:Array Bool) (a:Act) (w:World),wpAny P .any ops (Qn Q) fuel listed a w->wpAnyIn F m P .any ops Q fuel listed a w
 | 0,_,_,_,h=>h
 | fuel+1,listed,a,w,h=>by
  refine ⟨h.1,λi hi=>?_⟩;have h1:=h.2 i hi;unfold wpOp at h1;unfold wpOpIn;cases ho:ops[i]? with
  | none =>
   rw [ho] at h1;exact aG0 hd fuel _ _ _ h1
  | some o =>
   rw [ho] at h1;dsimp only at h1|-;cases hw:Region.wanted o (yielded ops a.tmps) with
   | true =>
    rw [hw] at h1;simp only [aY] at h1|-;rcases h1 with h1 | ⟨_,_,_,h1⟩
    ·exact Oper.wpIn_mono (λa w k=>aG0 hd fuel _ a w k) (TP (hd i o ho) h1)
    ·exact h1.elim
   | false =>
    rw [hw] at h1;simp only [aE,aW] at h1|-;exact ⟨λf _=>hF.fn f,aG0 hd fuel _ _ _ h1⟩
theorem aW0 {l:List Oper} (h:bN6 l=true):∀ (i:Nat) o,l.toArray[i]? = some o->∀ c,o.op≠.defer c:=by
 intro i o ho c e;have hm:o∈l:=Al_List_mem_of_getElem? (by simpa using ho);have:=bC.1 h o hm;rw [e] at this;cases this
theorem At.flI [FW F] {id:Nat} {l:List Oper} {trip:List (Nat × Nat × Oper)} (nn:Nat) (ord:List (Nat × Nat)) (hm:P.follows .mixedOrders=true) (hB:PN l.toArray nn ord=true) (hd:bN6 l=true) (ht:ord.map (λx=>(x.1,x.2,l[x.1]!))=trip)
 (h:dX dfs P l.toArray nn w0 n (λL H bs=>At dfs n L H w0 bs (wpList P l.toArray (Qn Q) (l.drop nn))) trip [] L H bs):At dfs n L H w0 bs ((Code.region id l.toArray true).wpIn F m P Q) :=
 λa W f s=>wpIn_region_any hm (aG0 (aW0 hd) _ _ _ _ (aE8 nn ord hB ht h a W f s))
theorem At.nlQ (h:At dfs n L H w0 bs (Q .normal)):At dfs n L H w0 bs (wpList P ops (Qn Q) []):=h
theorem At.bkI {id:Nat} {c:Code} (h:At dfs n L H w0 bs (c.wpIn F m P (Exit.inBlock id Q))):At dfs n L H w0 bs ((Code.block id c).wpIn F m P Q):=λa W f s=>wpIn_block (h a W f s)
end
structure Apx (H:Hp) (p:Nat) (fx:List Res) (TX:TypeId) (cs:List Value) (b:Nat) (W:World):Prop where
 blk:W.heap[b]? = some (.cells cs.toArray TX (0,0))
 new:H b=none
 head:∃ u l t m,W.heap[p]? = some (.cells (u::l).toArray t m)/\u.ownBlock≠some b
 ne:b≠p
 fix:∀ x∈fx,x.blk≠some b
theorem Apx.grow {p b:Nat} {fx:List Res} {TX:TypeId} {cs:List Value} {A B:World} {row:Option Nat} (h:Apx H p fx TX cs b A) (g:A.grownBy B row) (hr:∀ r,row=some r->∃ o:Obj,A.heap[r]? = some o/\o.isCells=false):Apx H p fx TX cs b B:=by
 have key:∀ {k:Nat} {arr:Array Value} {t:TypeId} {m:Nat × Nat},A.heap[k]? = some (Obj.cells arr t m)->B.heap[k]? = some (Obj.cells arr t m):=λ{k arr t m} hk=>by
  rw [<-hk];refine g.block k (pK hk) λe=>?_;obtain ⟨o,h1,h2⟩:=hr k e.symm;rw [hk] at h1;cases h1;cases h2
 obtain ⟨u,l,t,m,h1,h2⟩:=h.head;exact ⟨key h.blk,h.new,⟨u,l,t,m,key h1,h2⟩,h.ne,h.fix⟩
section
variable {H:Hp} {w0:World}
def rsB (e:TypeId) (size p:Nat) (T:TypeId) (fx:List Res) (v:Value) (k:Nat) (xs l:List Value):List Res:=.row e size v k xs::.box p (v::l) T::fx
theorem Apx.of {p b size k:Nat} {e T TX:TypeId} {fx tl:List Res} {v:Value} {xs l cs:List Value} {W:World} (s:St H w0 (.box b cs TX::(rsB e size p T fx v k xs l++tl)) W):Apx H p fx TX cs b W:=by
 have hb:=s.own _ (bD ..);have ha:=(jI.1 s.apart).1;refine ⟨hb.1.2,hb.2 b rfl,⟨v,l,T,_,(s.own (.box p (v::l) T) (by simp [rsB])).1.2,λe=>ha (.row _ _ v _ _) (by simp [rsB];exact .inl ⟨Z,Z,Z,Z⟩) b rfl e⟩,λe=>ha (.box p (v::l) T) (by simp [rsB]) b rfl (by rw [e];rfl),λx hx e=>ha x (by simp [rsB,hx]) b rfl e⟩
theorem Apx.st {p b size k:Nat} {e T TX:TypeId} {fx:List Res} {v:Value} {xs l cs:List Value} {W:World} (h:Apx H p fx TX cs b W) (s:St H w0 (rsB e size p T fx v k xs l) W):St (LF H b (.cells cs.toArray TX (0,0))) w0 (rsB e size p T fx v k xs l) W:=by
 refine ⟨s.ext,⟨λc o hc=>?_,s.agr.lo⟩,λx hx=>⟨(s.own x hx).1,λc hc=>?_⟩,s.apart,s.lo⟩
 ·by_cases e:c=b
  ·subst e;rw [CK] at hc;rw [<-hc];exact h.blk
  ·rw [sG e] at hc;exact s.agr c o hc
 ·rw [sG,(s.own x hx).2 c hc];intro e;subst e;unfold rsB at hx;rcases bV.1 hx with rfl | hx
  ·obtain ⟨u,l2,t,m,h1,h2⟩:=h.head;have h3:=(s.own (.box p (v::l) T) (by simp [rsB])).1.2;rw [h1] at h3;have h4:(u::l2).toArray=(v::l).toArray:=by injection h3 with h3;injection h3
   have h5:=congrArg Array.toList h4;simp only [gD] at h5;rw [h5.1] at h2;exact h2 hc
  ·rcases bV.1 hx with rfl | hx
   ·exact h.ne (bL hc).symm
   ·exact h.fix x hx hc
theorem bP3 {b:Nat} {o:Obj} (h:H b=none):Up H (LF H b o):=by
 refine ⟨λc x hc=>?_,Z⟩;rw [sG]
 ·exact hc
 ·intro e;subst e;rw [h] at hc;cases hc
theorem At.rfB {α Z:Type} {bs:List Res} {dfs:List Deferred} {P:Program} {n:Nat} {L:Sl} {Q:Exit->Act->World->Prop} {g:Operand} {pt:Tmp} {assign body:Code} {gf:Nat} {lb:Array Value} {enc:α->Value} {S:List α->Prop} {N:Nat} {e T TX:TypeId} {size p:Nat} {fx:List Res}
 (C:List α->Z->Prop) (v:Z->Value) (k:Z->Nat) (xs l:Z->List Value) (z0:Z) (L2:α->Nat->Sl) (cx:α->List Value)
 (hg:ev L g=some (.func (.func gf) #[] lb)) (eg:∀ args w,(callFunc gf args).run P w=.ok (.enter gf args) w) (ht:Nat.blt pt n=true)
 (hseq:∀ w,Agr H w->SeqStopsK Fence.wide 8 P gf lb (λx=>#[enc x]) (KpH H) S (λ_=>True) N w)
 (h0:C [] z0) (hb:bs=rsB e size p T fx (v z0) (k z0) (xs z0) (l z0)) (hn:UX fx=true)
 (hass:∀ l x bs' K,(∀ b,At [] n (L2 x b) H w0 (.box b (cx x) TX::bs') K)->At [] n ((pt,enc x)::L) H w0 bs' (assign.wpIn (Fence.wide.inRound l) 7 P (Exit.then K (λ_ _ _=>False))))
 (hbody:∀ l' pre x z tl b H2,C pre z->pre.length<N->Up H H2->kU H2 b 0 (cx x)->At [] n (L2 x b) H2 w0 (rsB e size p T fx (v z) (k z) (xs z) (l z)++tl) (body.wpIn (Fence.wide.inRound l') 7 P (Sx.rE C (λz=>rsB e size p T fx (v z) (k z) (xs z) (l z)) H w0 tl (pre++[x]))))
 (hdone:∀ D ys z,S ys->C ys z->At ({ target:=.collected D,args:=#[] }::dfs) n L H w0 (.obj D (.deferred (some []))::rsB e size p T fx (v z) (k z) (xs z) (l z)) (Q .normal)) :
 At dfs n L H w0 bs ((Code.rangeFunc g #[pt] assign body).wp P Q):=by
 intro a W f s;subst hb;have hnz:∀ z,UX (rsB e size p T fx (v z) (k z) (xs z) (l z))=true:=λz=>hn;have hB:w0.heap.size<=W.heap.size:=s.ext.size;have hH:∀ r,W.heap.size<=r->H r=none:=λr hr=>s.agr.lt hr
 refine (wpIn_wide (n:=9)).1 (wpIn_rangeFunc_ownH (n:=9) (ps:=#[pt]) (α:=α) (N:=N) (S:=S) (Sp:=λ_=>True) (encs:=λx=>#[enc x]) (Kp:=KpH H) (w0:=W) rfl (by decide) (f.ev hg) trivial eg (hseq W s.agr) (λh k q=>k (h q)) ?_ (Below.refl _ _) (λ_=>rfl)
  (λpre W=>∃ z,C pre z/\St H w0 (rsB e size p T fx (v z) (k z) (xs z) (l z)) W) (λ_ _ _=>False) (bX4 hB hH λ_ z _=>hnz z) (λ_ _ _ _ _ h _ _=>h.elim) ⟨z0,h0,s⟩ (λx a' W=>∃ b,Fr [] n (L2 x b) a'/\Apx H p fx TX (cx x) b W)
  (λx a' _ A B row h hg hr=>by obtain ⟨b,h1,h2⟩:=h;exact ⟨b,h1,h2.grow hg λr e=>(hr r e).2⟩) ?_ ?_ ?_ (λ_ _ _ _ _ _ h=>h.elim))
 ·intro W1 l o o' hl ho _ _ q;refine ⟨λb ob e=>?_,by have:=q.lo;simpa [World.putObj] using this⟩;have hne:b≠l:=λh=>by subst h;rw [hH b hl] at e;cases e
  exact (World.putObj_heap_other hne).trans (q b ob e)
 ·rintro l' pre x W1 K ⟨z,hz,s1⟩ hK
  have f1:Fr [] n ((pt,enc x)::L) { tmps:=(#[pt].zip #[enc x]).foldl (λt (p,v)=>t.setIfInBounds p v) a.tmps,defers:=[] }:=by
   have f2:Fr [] n L { a with defers:=[] }:=⟨f.size,rfl,f.slot⟩;have e:(#[pt].zip #[enc x]).foldl (λt (x:Tmp × Value)=>match x with | (p,v)=>t.setIfInBounds p v) a.tmps=a.tmps.setIfInBounds pt (enc x):=by simp
   rw [e];exact f2.put ht (enc x)
  refine hass l' x _ K ?_ _ W1 f1 (s1.tailOf (hnz z) hB hH);intro b a' W2 f' s2;have s3:=s2.drop;exact hK a' W2 s3.keepsFrom (λ_=>s3.agr) ⟨z,hz,s3.front⟩ ⟨b,f',Apx.of s2⟩
 ·rintro l' pre x a' W1 hl _ ⟨z,hz,s1⟩ ⟨b,f',hx⟩ hlen;have s2:=hx.st s1;have hH2:∀ r,W1.heap.size<=r->LF H b (Obj.cells (cx x).toArray TX (0,0)) r=none:=λr hr=>s2.agr.lt hr;have ht:=s1.tailOf (B:=W.heap.size) (hnz z) hB hH
  have s4:St (LF H b (.cells (cx x).toArray TX (0,0))) w0 (rsB e size p T fx (v z) (k z) (xs z) (l z)++Sx.tailOf W.heap.size W1) W1:=by
   refine ⟨ht.ext,s2.agr,λy hy=>?_,ht.apart,ht.lo⟩;rcases cV.1 hy with h | h
   ·exact s2.own y h
   ·refine ⟨(ht.own y hy).1,λc hc=>?_⟩;rw [sG,(ht.own y hy).2 c hc];rintro rfl;rcases EJ h with rfl | ⟨d,o,rfl,ho,hc2,_⟩
    ·cases hc
    ·obtain rfl:d=c:=bL hc;rw [hx.blk] at ho;cases ho;cases hc2
  refine wpIn_mono (hbody l' pre x z _ b _ hz hlen (bP3 hx.new) ⟨_,_,_,aO rfl,λj u e=>by simpa using e⟩ a' W1 f' s4) ?_;intro e a2 W2 h;cases e with
  | normal =>
   obtain ⟨z',hz',s2⟩:=h;exact ⟨s2.keepsFrom,λ_=>s2.agr,z',hz',s2.front⟩
  | _=>exact h.elim
 ·rintro D ys W1 hD hS ⟨z,hz,s1⟩ hd;refine hdone D ys z hS hz _ W1 ⟨f.size,by show _::_=_;rw [f.defers],f.slot⟩ ⟨s1.ext,s1.agr,?_,.cons ?_ s1.apart,s1.lo⟩
  ·intro x hx;rcases bV.1 hx with rfl | hx
   ·exact ⟨⟨bH hB hD,hd⟩,λb e=>by obtain rfl:D=b:=bL e;exact hH D hD⟩
   ·exact s1.own x hx
  ·intro y hy b e e';obtain rfl:D=b:=bL e;exact RV s1 (hnz z) hd rfl y hy e'
end
theorem St.put1 {x y:Res} (h:St H w0 bs W) (u:Upd bs x y bs') (hy:y.ok w0.heap.size W) (hb:∀ b,y.blk=some b->x.blk=some b):St H w0 bs' W :=
 h.upd u h.ext (bK _) (λ_ _ _=>rfl) hy (λb e=>.inl (hb b e))
/-! ### A drawn region without an operation that waits for all others: each order of the heavy ones -/
structure TL (ops:Array Oper) (n:Nat):Prop where
 all:n=ops.size
 sel:∀ (j:Nat) (o:Oper) (cs:Array SelectCase) (b:Bool),ops[j]? = some o->o.op≠.select cs b
 back:∀ i o,ops[i]? = some o->∀ e∈o.after,Region.binds .any e=true->e.on<i
 apart:∀ j k,j<n->k<n->j≠k->∀ d,iL ops j=some d->iL ops k≠some d
 look:∀ i o,i<n->ops[i]? = some o->∀ t∈o.looksAt ops,∀ j,j<n->iL ops j=some t->Region.waitsFor .any ops i j=true
def bH3 (ops:Array Oper) (n:Nat):Bool :=
 Region.noSelect ops && decide (n=ops.size) &&
 (List.range ops.size).all (λi=>((ops[i]?).map λo=>o.after.all λe=>!Region.binds .any e || decide (e.on<i)).getD true) &&
 (List.range n).all (λi=>(List.range n).all λj=>decide (i=j) || (iL ops i).isNone || iL ops i != iL ops j) &&
 (List.range n).all (λi=>((ops[i]?).map λo=>(o.looksAt ops).all λt=>(List.range n).all λj=>iL ops j != some t || Region.waitsFor .any ops i j).getD true)
theorem TL.of {ops:Array Oper} {n:Nat} (h:bH3 ops n=true):TL ops n:=by
 simp only [bH3,aF,aD] at h;obtain ⟨⟨⟨⟨h1,h2⟩,h5⟩,h6⟩,h7⟩:=h;refine ⟨h2,Region.noSelect_spec h1,?_,?_,?_⟩
 ·intro i o ho e he hb;have hi:i<ops.size:=(Array.getElem?_eq_some_iff.1 ho).1;have:=bC.1 h5 i (cD.2 hi);simp only [ho,mM,nW,lW] at this;have:=this e he;simpa [hb] using this
 ·intro j k hj hk hne d hd;have:=bC.1 (bC.1 h6 j (cD.2 hj)) k (cD.2 hk);simp only [hd,hne,vW,aQ,Option.isNone_some,bne_iff_ne] at this;exact λe=>this e.symm
 ·intro i o hi ho t ht j hj hd;have:=bC.1 h7 i (cD.2 hi);simp only [ho,mM,nW] at this;have:=bC.1 (bC.1 this t ht) j (cD.2 hj);simpa [hd] using this
section
variable {dfs:List Deferred} {P:Program} {ops:Array Oper} {w0:World} {n N:Nat}
variable {l:List Oper} {a0:Act} {E:Sl->Hp->List Res->Prop} {Q:Exit->Act->World->Prop} {listed:Array Bool} {a:Act} {W:World} {val:Nat->Value} {dec:Nat->Bool} {D A:List Nat} {L:Sl} {H:Hp} {bs:List Res} {pa:List (Nat × Oper × Value)}
theorem AE (F:TL ops n) {a0:Act} {v1 v2:Nat->Value} {S1 S2:Nat->Bool} {i:Nat} {o:Oper} (hi:i<n) (ho:ops[i]? = some o)
 (h:∀ j,j<n->Region.waitsFor .any ops i j=true->S1 j=true/\S2 j=true/\v1 j=v2 j) (t:Tmp) (ht:t∈o.looksAt ops) :
 (frm ops v1 S1 n a0).eval (.tmp t)=(frm ops v2 S2 n a0).eval (.tmp t):=by
 by_cases hw:∃ j,j<n/\iL ops j=some t
 ·obtain ⟨j,hj,hd⟩:=hw;obtain ⟨h1,h2,h3⟩:=h j hj (F.look i o hi ho t ht j hj hd);rw [EL _ S1 a0 t j h1 hd n hj (λk hk hne e=>F.apart k j hk hj hne t e hd),EL _ S2 a0 t j h2 hd n hj (λk hk hne e=>F.apart k j hk hj hne t e hd),h3]
 ·rw [xT _ S1 a0 t n (λk hk _ hd=>hw ⟨k,hk,hd⟩),xT _ S2 a0 t n (λk hk _ hd=>hw ⟨k,hk,hd⟩)]
theorem VS (F:TL ops n) {i:Nat} {o:Oper} {v:Value} (hi:i<n) (ho:ops[i]? = some o) (hd:dec i=false) :
 frm ops (upd val i v) (upd dec i true) n a0=(frm ops val dec n a0).put o.dst v:=by
 have e1:iL ops i=o.dst:=by simp [iL,ho]
 rw [rZ (upd val i v) dec (upd dec i true) a0 i (jJ _ _ _) hd (λk hk=>fN _ _ hk) n hi F.apart,jJ,e1]
 congr 1
 refine kA _ _ _ _ a0 n λk _=>⟨Z,λhk=>fN _ _ λe=>?_⟩;subst e;rw [hd] at hk;cases hk
theorem GT.decideE (F:TL ops n) {i:Nat} {o:Oper} (I:GT dfs P ops l w0 n N a0 E listed a W val dec D L H bs pa) (hi:i<n) (ho:ops[i]? = some o) (hiD:D.contains i=false) (hwt:((List.range n).all λj=>!Region.waitsFor .any ops i j || D.contains j)=true)
 {v:Value} (hy:∀ a W,Fr dfs N L a->St H w0 bs W->Yq P ops o v a W) (hN:∀ t,o.dst=some t->t<N) :
 GT dfs P ops l w0 n N a0 E listed a W (upd val i v) (upd dec i true) (i::D) (putL o.dst v L) H bs ((i,o,v)::pa):=by
 have hdi:dec i=false:=(I.set i).trans hiD;have hdeps:∀ j,j<n->Region.waitsFor .any ops i j=true->dec j=true:=λj hj hw=>(I.set j).trans (TQ hwt hj hw)
 have hii:∀ j,j<n->Region.waitsFor .any ops i j=true->j≠i:=λj hj hw e=>by
  have:=hdeps j hj hw;rw [e,hdi] at this;cases this
 have hli:st listed i=false:=by
  cases h:st listed i with
  | false=>rfl
  | true=>have:=I.sub i hi h;rw [hdi] at this;cases this
 have hput:=VS (a0:=a0) (val:=val) (v:=v) F hi ho hdi;refine ⟨I.head,?_,?_,?_,I.world,?_,?_,ZZ I.set,?_⟩
 ·rw [I.frame];refine kA _ _ _ _ a0 n λk _=>⟨Z,λhk=>(fN _ _ λe=>?_).symm⟩;subst e;rw [hli] at hk;cases hk
 ·rw [hput];exact I.full.putL v hN
 ·intro j hj hs
  by_cases e:j=i
  ·subst e;exact jJ _ _ _
  ·rw [fN _ _ e];exact I.sub j hj hs
 ·intro j oj hj hoj hd hs W hW
  by_cases e:j=i
  ·subst e;obtain rfl:oj=o:=bL (hoj.symm.trans ho);rw [jJ];refine Yq.same (λcs b=>F.sel j oj cs b ho) (λt ht=>?_) (hy _ W I.full hW);refine AE F hj ho (λk hk hw=>?_) t ht;have hkd:=hdeps k hk hw;have hki:=hii k hk hw;exact ⟨by rw [fN _ _ hki];exact hkd,hkd,fN _ _ hki⟩
  ·rw [fN _ _ e] at hd|-;refine Yq.same (λcs b=>F.sel j oj cs b hoj) (λt ht=>?_) (I.light j oj hj hoj hd hs W hW);refine AE F hj hoj (λk hk hw=>?_) t ht;have hkd:=I.deps j k hj hk hd hw;have hki:k≠i:=λe=>by subst e;rw [hdi] at hkd;cases hkd
   exact ⟨by rw [fN _ _ hki];exact hkd,hkd,fN _ _ hki⟩
 ·intro j oj hj hoj hd hs
  by_cases e:j=i
  ·subst e;obtain rfl:oj=o:=bL (hoj.symm.trans ho);rw [jJ];exact .head _
  ·rw [fN _ _ e] at hd|-;exact .tail _ (I.past j oj hj hoj hd hs)
 ·intro j k hj hk hd hw
  by_cases e:j=i
  ·subst e;rw [fN _ _ (hii k hk hw)];exact hdeps k hk hw
  ·rw [fN _ _ e] at hd;have:=I.deps j k hj hk hd hw
   by_cases e2:k=i
   ·subst e2;exact jJ _ _ _
   ·rw [fN _ _ e2];exact this
theorem GT.stepE (F:TL ops n) {i:Nat} {o:Oper} {W':World} (I:GT dfs P ops l w0 n N a0 E listed a W val dec D L H bs pa) (hi:i<n) (ho:ops[i]? = some o) (hr:i∈Region.ready .any ops listed) (hd:dec i=true) (hx:Ext W W') :
 GT dfs P ops l w0 n N a0 E (listed.setIfInBounds i true) (a.put o.dst (val i)) W' val dec D L H bs pa:=by
 have hun:st listed i=false:=(mem_ready.1 hr).1;have e1:iL ops i=o.dst:=by simp [iL,ho]
 refine ⟨I.head.set hr hi,?_,I.full,?_,I.world.more hx,?_,?_,I.set,I.deps⟩
 ·rw [I.frame,rZ val (st listed) (st (listed.setIfInBounds i true)) a0 i fU hun (λk hk=>jA hk) n hi F.apart,e1]
 ·intro j hj hs
  by_cases e:j=i
  ·subst e;exact hd
  ·rw [jA e] at hs;exact I.sub j hj hs
 ·intro j oj hj hoj hdj hs;have e:j≠i:=λe=>by subst e;rw [fU] at hs;cases hs
  rw [jA e] at hs;exact I.light j oj hj hoj hdj hs
 ·intro j oj hj hoj hdj hs;have e:j≠i:=λe=>by subst e;rw [fU] at hs;cases hs
  rw [jA e] at hs;exact I.past j oj hj hoj hdj hs
theorem GT.heavyE (F:TL ops n) {i k:Nat} {o:Oper} {v:Value} {W':World} {H':Hp} {bs':List Res} (I:GT dfs P ops l w0 n N a0 E listed a W val dec D L H bs pa) (hi:i<n) (ho:ops[i]? = some o) (hiD:D.contains i=false) (hwt:((List.range n).all λj=>!Region.waitsFor .any ops i j || D.contains j)=true) (hk1:(!(k == 1) || D.all λj=>mS ops n i j)=true) (hN:∀ t,o.dst=some t->t<N) (hr:i∈Region.ready .any ops listed)
 (hs:St H' w0 bs' W') (hws:k=1\/(∀ W,St H' w0 bs' W->St H w0 bs W)\/iR dfs P ops n w0 N L H' bs' i pa) :
 GT dfs P ops l w0 n N a0 E (listed.setIfInBounds i true) (a.put o.dst v) W' (upd val i v) (upd dec i true) (i::D) (putL o.dst v L) H' bs' pa:=by
 have hdi:dec i=false:=(I.set i).trans hiD;have hdeps:∀ j,j<n->Region.waitsFor .any ops i j=true->dec j=true:=λj hj hw=>(I.set j).trans (TQ hwt hj hw)
 have hii:∀ j,j<n->Region.waitsFor .any ops i j=true->j≠i:=λj hj hw e=>by
  have:=hdeps j hj hw;rw [e,hdi] at this;cases this
 have hun:st listed i=false:=(mem_ready.1 hr).1;have e1:iL ops i=o.dst:=by simp [iL,ho]
 have hput:=VS (a0:=a0) (val:=val) (v:=v) F hi ho hdi;refine ⟨I.head.set hr hi,?_,?_,?_,hs,?_,?_,ZZ I.set,?_⟩
 ·rw [I.frame,rZ (upd val i v) (st listed) (st (listed.setIfInBounds i true)) a0 i fU hun (λk hk=>jA hk) n hi F.apart,e1,jJ]
  congr 1
  refine kA _ _ _ _ a0 n λk _=>⟨Z,λhk=>(fN _ _ λe=>?_).symm⟩;subst e;rw [hun] at hk;cases hk
 ·rw [hput];exact I.full.putL v hN
 ·intro j hj hs
  by_cases e:j=i
  ·subst e;exact jJ _ _ _
  ·rw [fN _ _ e];rw [jA e] at hs;exact I.sub j hj hs
 ·intro j oj hj hoj hd hs W hW;have e:j≠i:=λe=>by subst e;rw [fU] at hs;cases hs
  rw [jA e] at hs;rw [fN _ _ e] at hd|-
  have hdone:mS ops n i j=true->False:=λh1=>by
   obtain ⟨_,oi,hoi,hall⟩:=mem_ready.1 hr
   have h2:=tO I.head n i j h1 (λok hok x hx hb=>by
    obtain rfl:ok=oi:=bL (hok.symm.trans hoi);exact hall x hx hb)
   rw [getD_both hs] at h2;cases h2
  have hy:Yq P ops oj (val j) (frm ops val dec n a0) W:=by
   rcases hws with hk | hw | hw
   ·subst hk;have hjD:j∈D:=by have:=(I.set j).symm.trans hd;simpa using this
    simp only [beq_self_eq_true,zL,aQ] at hk1;exact (hdone (bC.1 hk1 j hjD)).elim
   ·exact I.light j oj hj hoj hd hs W (hw W hW)
   ·rcases hw.at (I.past j oj hj hoj hd hs) with h1 | h1
    ·exact (hdone h1).elim
    ·exact h1 _ W I.full hW
  refine Yq.same (λcs b=>F.sel j oj cs b hoj) (λt ht=>?_) hy;refine AE F hj hoj (λk hk hw=>?_) t ht;have hkd:=I.deps j k hj hk hd hw;have hki:k≠i:=λe=>by subst e;rw [hdi] at hkd;cases hkd
  exact ⟨by rw [fN _ _ hki];exact hkd,hkd,fN _ _ hki⟩
 ·intro j oj hj hoj hd hs;have e:j≠i:=λe=>by subst e;rw [fU] at hs;cases hs
  rw [jA e] at hs;rw [fN _ _ e] at hd|-;exact I.past j oj hj hoj hd hs
 ·intro j k hj hk hd hw
  by_cases e:j=i
  ·subst e;rw [fN _ _ (hii k hk hw)];exact hdeps k hk hw
  ·rw [fN _ _ e] at hd;have:=I.deps j k hj hk hd hw
   by_cases e2:k=i
   ·subst e2;exact jJ _ _ _
   ·rw [fN _ _ e2];exact this
theorem VZ (hl:ops=l.toArray) (F:TL ops n) (hend:∀ L H bs,E L H bs->At dfs N L H w0 bs (Q .normal)) :
 ∀ (m:Nat) (p:Pi0) (listed:Array Bool) (a:Act) (W:World) (val:Nat->Value) (dec:Nat->Bool) (D:List Nat) (L:Sl) (H:Hp) (bs:List Res) (pa:List (Nat × Oper × Value)),cnt (st listed) n=m->okT ops n D [] p=true ->
  gT dfs P ops n w0 N E (BZ l p) pa L H bs->GT dfs P ops l w0 n N a0 E listed a W val dec D L H bs pa->wpAny P .any ops Q (m+(ops.size - n)) listed a W:=by
 have hop:∀ i,i<n->ops[i]? = some l[i]! := λi hi=>by
  have h1:i<ops.size:=by have:=F.all;omega
  subst hl;have h2:i<l.length:=by simpa using h1
  simp [h2]
 intro m;induction m with
 | zero =>
  intro p;induction p with
  | done =>
   intro listed a W val dec D L H bs pa hm hok hF I;have hall:=vM _ n hm;have hsz:ops.size - n=0:=by have:=F.all;omega
   rw [hsz]
   have hrd:Region.ready .any ops listed=[]:=List.eq_nil_iff_forall_not_mem.2 λk hk=>by
    obtain ⟨h1,o,h2,_⟩:=mem_ready.1 hk;have h3:k<ops.size:=(Array.getElem?_eq_some_iff.1 h2).1;have h4:=hall k (by have:=F.all;omega);have h5:k<listed.size:=by rw [I.head.size];exact h3
    simp [st,h5] at h1 h4;rw [h4] at h1;cases h1
   have hfr:a=frm ops val dec n a0:=by
    rw [I.frame];exact kA _ _ _ _ a0 n (λk hk=>⟨by rw [hall k hk,I.sub k hk (hall k hk)],λ_=>rfl⟩)
   rw [hfr];exact At.ae (n:=N) (L:=L) hrd (hend L H bs hF) _ W I.full I.world
  | no =>
   intro listed a W val dec D L H bs pa hm hok hF I;simp [okT] at hok
  | light i r ih =>
   intro listed a W val dec D L H bs pa hm hok hF I;have hall:=vM _ n hm;simp only [okT,aF,aD,eT] at hok;have:=I.sub i hok.1.1.1.2 (hall i hok.1.1.1.2);rw [I.set i,hok.1.1.2] at this;cases this
  | alt i k r q ih1 ih2 =>
   intro listed a W val dec D L H bs pa hm hok hF I;have hall:=vM _ n hm;simp only [okT,aF,aD,eT] at hok;have:=I.sub i hok.1.1.1.1.1 (hall i hok.1.1.1.1.1);rw [I.set i,hok.1.1.1.1.2] at this;cases this
 | succ m ih =>
  have one_step:∀ (p:Pi0) (listed:Array Bool) (a:Act) (W:World) (val:Nat->Value) (dec:Nat->Bool) (D:List Nat) (L:Sl) (H:Hp) (bs:List Res) (pa:List (Nat × Oper × Value)),cnt (st listed) n=m+1->okT ops n D [] p=true ->
   gT dfs P ops n w0 N E (BZ l p) pa L H bs->GT dfs P ops l w0 n N a0 E listed a W val dec D L H bs pa->(p=.done\/p=.no\/∃ i k r q,p=.alt i k r q)->wpAny P .any ops Q (m+1+(ops.size - n)) listed a W:=by
   intro p listed a W val dec D L H bs pa hm hok hF I hp;obtain ⟨k0,hk0,hun0,hbelow⟩:=GN (st listed) n (by omega);have hk0s:k0<ops.size:=by have:=F.all;omega
   have hready0:k0∈Region.ready .any ops listed:=by
    refine mem_ready.2 ⟨hun0,ops[k0],Array.getElem?_eq_getElem hk0s,λe he hb=>?_⟩;have hlt:=F.back k0 _ (Array.getElem?_eq_getElem hk0s) e he hb;have:=hbelow e.on hlt;have hsz:e.on<listed.size:=by rw [I.head.size];omega
    simpa [st,hsz] using this
   rw [show m+1+(ops.size - n)=(m+(ops.size - n))+1 by omega];refine ⟨λh0=>(by rw [h0] at hready0;cases hready0),λj hj=>?_⟩
   have hjn:j<n:=by
    rcases iZ j n with h | h
    ·exact h
    ·exfalso
     obtain ⟨_,oj,hoj,_⟩:=mem_ready.1 hj;have h3:j<ops.size:=(Array.getElem?_eq_some_iff.1 hoj).1;have:=F.all;omega
   obtain ⟨hun,oj,hoj,hall⟩:=mem_ready.1 hj
   have hcnt:cnt (st (listed.setIfInBounds j true)) n=m:=by
    have:=zC (st listed) (st (listed.setIfInBounds j true)) j fU hun (λk hk=>jA hk) n hjn;omega
   have hS:∀ k,k<n->Region.waitsFor .any ops j k=true->st listed k=true:=by
    intro k hk hw;obtain ⟨oi,hoi,e,he,hb,hon⟩:=Region.waitsFor_spec hw;obtain rfl:oi=oj:=bL (hoi.symm.trans hoj);have h1:=hall e he hb;rw [hon] at h1;have hsz:k<listed.size:=by rw [I.head.size];have:=F.all;omega
    simp [hsz] at h1;simp [st,hsz,h1]
   have hev:∀ t∈oj.looksAt ops,a.eval (.tmp t)=(frm ops val dec n a0).eval (.tmp t):=λt ht=>by
    rw [I.frame];exact AE F hjn hoj (λk hk hw=>⟨hS k hk hw,I.sub k hk (hS k hk hw),Z⟩) t ht
   cases hd:dec j with
   | true =>
    have hy:Yq P ops oj (val j) a W:=Yq.same (λcs b=>F.sel j oj cs b hoj) hev (I.light j oj hjn hoj hd hun W I.world);exact hy.wpOp hoj λW' hx=>ih p _ _ _ _ _ _ _ _ _ _ hcnt hok hF (I.stepE F hjn hoj hj hd hx)
   | false =>
    have hjD:D.contains j=false:=(I.set j).symm.trans hd
    have hch:p=.no\/∃ i k r q',p=.alt i k r q':=by
     rcases hp with rfl | rfl | h
     ·exfalso
      simp only [okT,aF] at hok;have:=bC.1 hok.2 j (cD.2 hjn);rw [hjD] at this;cases this
     ·exact .inl Z
     ·exact .inr h
    obtain ⟨k,r,h1,h2,h3,h4,h5⟩:=YT hl hjn hjD (λi hi hin=>by
     cases hre:mS ops n j i with
     | false=>rfl
     | true =>
      have h2:=tO I.head n j i hre (λok hok e he hb=>by
       obtain rfl:ok=oj:=bL (hok.symm.trans hoj);exact hall e he hb)
      have h3:st listed i=false:=by
       cases h:st listed i with
       | false=>rfl
       | true=>have:=I.sub i hin h;rw [I.set i,hi] at this;cases this
      rw [getD_both h3] at h2;cases h2) p [] hch hok (λi hi=>by cases hi) hF
    have hoj2:=hop j hjn;obtain rfl:oj=l[j]! := bL (hoj.symm.trans hoj2);refine UW hoj (λcs b=>F.sel j _ cs b hoj) hev (λb W' ⟨v,H',bs',hf,_⟩=>hf.defers) I.full.defers ?_ (h5 _ W I.full I.world);rintro v W' ⟨v',H',bs',hf,hs,hw,hp'⟩
    have hvv:putL (l[j]!).dst v' L=putL (l[j]!).dst v L:=by
     cases hdst:(l[j]!).dst with
     | none=>rfl
     | some t =>
      rw [hdst] at hf;have h1:=hf.slot t v' (by unfold putL look;rw [pP,nH]);have h2:t<N:=h4 t hdst;have h3:=(I.full.put (by simpa [pV] using h2) v).slot t v (by unfold look;rw [pP,nH]);rw [h3] at h1;rw [h1]
    rw [hvv] at hp';exact ih r _ _ _ _ _ _ _ _ _ _ hcnt h3 hp' (I.heavyE F hjn hoj hjD h1 h2 h4 hj hs hw)
  intro p;induction p with
  | done=>exact λlisted a W val dec D L H bs pa hm hok hF I=>one_step _ listed a W val dec D L H bs pa hm hok hF I (.inl Z)
  | no=>exact λlisted a W val dec D L H bs pa hm hok hF I=>one_step _ listed a W val dec D L H bs pa hm hok hF I (.inr (.inl Z))
  | alt i k r q _ _=>exact λlisted a W val dec D L H bs pa hm hok hF I=>one_step _ listed a W val dec D L H bs pa hm hok hF I (.inr (.inr ⟨_,_,_,_,Z⟩))
  | light i r ihr =>
   intro listed a W val dec D L H bs pa hm hok hF I;simp only [okT,aF,aD,eT] at hok;obtain ⟨⟨⟨⟨_,hi⟩,hiD⟩,hwt⟩,hok'⟩:=hok;unfold BZ gT at hF;obtain ⟨v,hy,hN,hF'⟩:=hF;exact ihr listed a W _ _ _ _ H bs _ hm hok' hF' (I.decideE F hi (hop i hi) hiD hwt hy hN)
theorem bU2 {id:Nat} {l:List Oper} {p:PlT} {Q:Exit->Act->World->Prop} {L:Sl} {H:Hp} {bs:List Res} (n:Nat) (p0:Pi0) (hm:P.follows .mixedOrders=true) (hB:(bH3 l.toArray n && okT l.toArray n [] [] p0)=true) (ht:BZ l p0=p)
 (h:gT dfs P l.toArray n w0 N (λL H bs=>At dfs N L H w0 bs (Q .normal)) p [] L H bs):At dfs N L H w0 bs ((Code.region id l.toArray true).wp P Q):=by
 simp only [aF] at hB;obtain ⟨h1,h2⟩:=hB;have F:=TL.of h1;have hlt:n=l.length:=by simpa using F.all
 subst ht;intro a W f s;refine wp_region_any hm ?_;have hsz:l.toArray.size=l.length:=by simp
 have hc0:∀ m,m<=n->cnt (st (Array.replicate l.toArray.size false)) m=m:=by
  intro m;induction m with
  | zero=>intro _;rfl
  | succ m ih =>
   intro hm;unfold cnt;rw [ih (by omega)]
   have:st (Array.replicate l.toArray.size false) m=false:=by
    have:m<l.length:=by omega
    simp [st,this]
   rw [this];simp
 have hfrm:∀ (val:Nat->Value) (m:Nat),frm l.toArray val (λ_=>false) m a=a:=λval m=>by
  induction m with
  | zero=>rfl
  | succ m ih=>unfold frm;simp [ih]
 have hall:∀ m,m<=n->∀ k,k<m->st (Array.replicate l.toArray.size false) k=false:=λm hm k hk=>by
  have:k<l.length:=by omega
  simp [st,this]
 have hh:HeadInv .any l.toArray n (Array.replicate l.toArray.size false):=by
  refine ⟨by simp,λj oj hj hl=>?_,λt ht ht'=>?_⟩
  ·exfalso
   rcases iZ j l.length with h | h
   ·simp [h] at hl
   ·simp [h] at hl
  ·have:t<l.length:=by simpa using ht'
   simp [this]
 have key:=VZ (Q:=Q) (a0:=a) (l:=l) rfl F (λL H bs h=>h) n p0 (Array.replicate l.toArray.size false) a _ (λ_=>undef) (λ_=>false) [] L H bs [] (hc0 n (bK _)) h2 h
  ⟨hh,?_,by rw [hfrm];exact f,?_,s.more ((Ext.refl W).drew),λ_ _ _ _ h=>(by cases h),λ_ _ _ _ h=>(by cases h),λ_=>rfl,λ_ _ _ _ h=>(by cases h)⟩
 ·have:n+(l.toArray.size - n)=l.toArray.size:=by rw [hsz];omega
  rw [this] at key;exact key
 ·rw [kA (λ_=>undef) (λ_=>undef) _ (λ_=>false) a n (λk hk=>⟨hall n (bK _) k hk,λ_=>rfl⟩),hfrm]
 ·intro i hi hs;rw [hall n (bK _) i hi] at hs;cases hs
end
section
variable {dfs:List Deferred} {P:Program} {n:Nat} {L:Sl} {H:Hp} {w0:World} {bs:List Res} {Q:Exit->Act->World->Prop} {ops:Array Oper} {rest:List Oper} {K:Act->World->Prop}
variable {d:Option Tmp} {ty:TypeId} {pos:String} {aft:Array Edge} {v:Value} {t:Tmp} {x y:Operand} {T:TypeId}
theorem bQ4 {g off k c size:Nat} {e:TypeId} {xs vs:List Value} {bs':List Res} (hp:ev L x=some (.pointer (some ⟨g,off,none⟩))) (hv:ev L y=some (.agg vs.toArray)) (hT:hZ P T=some vs.length) (h1:∀ u∈vs,u.oneCell'=true)
 (hm:Upd bs (.row e size (.slice (some ⟨g,0,none⟩) k c) k xs) (.row e size (.slice (some ⟨g,0,none⟩) k c) k (nV xs off vs)) bs') (ho:off+vs.length<=xs.length) (h:At dfs n L H w0 bs' K) :
 At dfs n L H w0 bs (one P ops Q ⟨none,.store T x y,ty,pos,aft,none⟩ K):=by
 intro a W f s;have ho1:W.ownsRow w0.heap.size e size (.slice (some ⟨g,0,none⟩) k c) k xs:=(s.own _ hm.mem).1;rcases ho1.2 with ⟨hr,_⟩ | ⟨g',cap,cur,hr,hbg,hgc,hnc,hcm,hcs,htake⟩
 ·cases hr
 ·injection hr with e1 _ e3
  injection e1 with e1
  injection e1 with e1
  subst e1 e3;obtain ⟨more,hmo⟩:∃ more,more=cur.toList.drop (k * size):=⟨_,Z⟩;have hcur:cur.toList=xs++more:=by rw [hmo,<-htake,eF]
  have hcur2:cur=(xs++more).toArray:=by rw [<-hcur]
  obtain ⟨b1,u1,u2⟩:=hm.mid (.box g (xs++more) e);obtain ⟨b2,u3,u4⟩:=u2.mid (.box g (nV (xs++more) off vs) e);have s1:St H w0 b1 W:=s.put1 u1 ⟨hbg,by rw [hgc,<-hcur2]⟩ (λb e=>e);refine XO hp hv hT rfl h1 u3 (by rw [aH];omega) ?_ a W f s1;intro a W f s2;have ob:=(s2.own _ u4.mem).1;have e4:nV (xs++more) off vs=nV xs off vs++more:=HD vs xs more off ho;have hz:xs.length=k * size:=ho1.1;refine h a W f (s2.put1 u4 ⟨by rw [yO];exact hz,.inr ⟨g,c,(nV (xs++more) off vs).toArray,Z,ob.1,ob.2,hnc,hcm,?_,?_⟩⟩ (λb e=>e))
  ·rw [List.size_toArray,yO,<-hcur];simpa using hcs
  ·rw [e4];show List.take (k * size) (nV xs off vs++more)=nV xs off vs;rw [List.take_append_of_le_length (by rw [yO];omega),dR (by rw [yO];omega)]
variable {N hn i kk:Nat} {pa:List (Nat × Oper × Value)} {E:Sl->Hp->List Res->Prop} {q:PlT} {bs':List Res}
theorem vV.sR {g off k c size:Nat} {e:TypeId} {xs vs:List Value} (hp:ev L x=some (.pointer (some ⟨g,off,none⟩))) (hv:ev L y=some (.agg vs.toArray)) (hT:hZ P T=some vs.length) (h1:∀ u∈vs,u.oneCell'=true)
 (hm:Upd bs (.row e size (.slice (some ⟨g,0,none⟩) k c) k xs) (.row e size (.slice (some ⟨g,0,none⟩) k c) k (nV xs off vs)) bs') (ho:off+vs.length<=xs.length)
 (hr:iR dfs P ops hn w0 N L H bs' i pa) (h:gT dfs P ops hn w0 N E q pa L H bs'):vV dfs P ops hn w0 N E i kk ⟨none,.store T x y,ty,pos,aft,none⟩ q pa L H bs :=
 ⟨λ_ e=>(by cases e),bQ4 hp hv hT h1 hm ho (vV.into0 hr h)⟩
theorem vV.st {b off:Nat} {l l':List Value} {t':TypeId} (hm:Upd bs (.box b l t') (.box b l' t') bs') (hp:ev L x=some (.pointer (some ⟨b,off,none⟩))) (hv:ev L y=some v) (hT:hZ P T=some 1) (h1:v.oneCell'=true) (ho:off<l.length) (hl:l.set off v=l')
 (hr:iR dfs P ops hn w0 N L H bs' i pa) (h:gT dfs P ops hn w0 N E q pa L H bs'):vV dfs P ops hn w0 N E i kk ⟨none,.store T x y,ty,pos,aft,none⟩ q pa L H bs :=
 ⟨λ_ e=>(by cases e),store hp hv hT h1 hm ho hl (vV.into0 hr h)⟩
theorem vV.apE {e:TypeId} {size bytes m c k:Nat} {p:Option Addr} {r:Value} {xs:List Value} {ds:List D} {bs':List Value->Value->List Res} (hT:yR P T=some (e,size,bytes)) (hx:ev L x=some r)
 (hm:∀ news r',Upd bs (.row e size r k xs) (.row e size r' (k+m) (xs++news)) (bs' news r')) (hy:ev L y=some (.slice p m c)) (hr:Rep H (.seq size ds) [.slice p m c]) (hpos:0<k+m)
 (h63:k+m<=maxLen) (hb:(k+m) * bytes<=140737488355328) (ht:Nat.blt t N=true)
 (hr2:∀ news r',iR dfs P ops hn w0 N L H (bs' news r') i pa) (h:∀ news g c,eR H size ds news->gT dfs P ops hn w0 N E q pa ((t,.slice (some ⟨g,0,none⟩) (k+m) c)::L) H (bs' news (.slice (some ⟨g,0,none⟩) (k+m) c))) :
 vV dfs P ops hn w0 N E i 2 ⟨some t,.call ⟨.builtin .append,#[x,y],#[T,T]⟩,ty,pos,aft,none⟩ q pa L H bs :=
 ⟨sK ht,TA hT hx hm hy hr h63 hb ht λnews r' hz=>At.rs (hm news r').new hpos λg c e=>by subst e;exact vV.into (.inr<|.inr<|hr2 _ _) (h news g c hz)⟩
theorem gT.fe {Q:Exit->Act->World->Prop} (h:At dfs N L H w0 bs (Q .normal)):gT dfs P ops hn w0 N (λL H bs=>At dfs N L H w0 bs (Q .normal)) .done pa L H bs:=h
theorem At.fx {id:Nat} {l:List Oper} {p:PlT} (nn:Nat) (p0:Pi0) (hm:P.follows .mixedOrders=true) (hB:(bH3 l.toArray nn && okT l.toArray nn [] [] p0)=true) (ht:BZ l p0=p)
 (h:gT dfs P l.toArray nn w0 n (λL H bs=>At dfs n L H w0 bs (Q .normal)) p [] L H bs):At dfs n L H w0 bs ((Code.region id l.toArray true).wp P Q):=bU2 nn p0 hm hB ht h
end
section
variable {P:Program} {L:Sl} {H:Hp} {w0:World} {bs:List Res} {d:Option Tmp} {ty:TypeId} {pos:String} {aft:Array Edge} {g:Option (Nat × Bool)} {x:Operand} {T:TypeId}
theorem Yl.neg {k:IntKind} {i c:Int} (hx:ev L x=some (.int k i)) (hw:k.wrap (0 - i)=c):Yl P L H w0 bs ⟨d,.unOp .neg T x,ty,pos,aft,g⟩ (.int k c):=.of_run λa W f _=>by
 subst hw;unfold execOp;simp [f x _ hx,Op.unary,Op.intArith]
end
end Go.Sx
namespace Go.Proofs.YtidclioghdbphaaGreatDoor
open Go.RowKit Go.Par Go.Sx Tryz
variable {i:Nat}
theorem aA4 {es:List Str} (h:i<es.length):(es.map cH)[i]? = some (cH (es.getD i [])):=by simp [h]
variable {k:Nat}
theorem tT {q:Ex->Bool} {l:List Ex} (h:k<l.length) (ha:Ex.alls q l=true):Ex.all q l[k]=true:=by
 cases hb:Ex.all q l[k] with
 | true=>rfl
 | false=>rw [bD6 h hb] at ha;cases ha
def spT:Nat->Str
 | 0=>[]
 | k+1=>spT k++[32,32]
def vL (ind:Nat) (parts:List Str):Str:=spT ind++parts.flatten++[10]
def aD5 (l:List Str):Str:=Lib.join l [44,32]
def aF3 (n:Nat) (first:Str) (noE:Bool) (E:Str):Str:=if noE then vL n [first,[59]] else vL n [first,[32,101,108,115,101,32,123]]++E++vL n [[125]]
def stT (n:Nat) (kd:UInt8) (nm hd:Str) (es:List Str) (T:Str) (noE:Bool) (E:Str):Str :=
 if kd=1 then vL n [nm,[32,61,32],es.getD 0 [],[59]]
 else if kd=2 then vL n [nm,[91],es.getD 0 [],[93,32,61,32],es.getD 1 [],[59]]
 else if kd=3 then vL n [[100,101,108,101,116,101,32],nm,[91],es.getD 0 [],[93,59]]
 else if kd=4 then vL n [[105,102,32],es.getD 0 [],[32,123]]++T++(if noE then [] else vL n [[125,32,101,108,115,101,32,123]]++E)++vL n [[125]]
 else if kd=5 then vL n [[119,104,105,108,101,32],es.getD 0 [],[32,123]]++T++vL n [[125]]
 else if kd=6 then vL n [[115,101,110,100,32],nm,[46],hd,[40],aD5 es,[41,59]]
 else if kd=7 then vL n [[97,102,116,101,114,32],es.getD 0 [],[32,100,111,32],hd,[40],aD5 (es.drop 1),[41,59]]
 else if kd=8 then aF3 n ([115,116,111,114,101,32]++es.getD 0 []++[32,61,32]++es.getD 1 []) noE E
 else if kd=9 then aF3 n ([102,101,116,99,104,32]++nm++[32,61,32]++es.getD 0 []) noE E
 else if kd=10 then vL n [[115,116,111,112,59]]
 else []
mutual
def Sm.text (n:Nat):Sm->Str
 | .mk kd nm hd ex th el=>stT n kd nm hd (ex.map Ex.text) (Sm.texts (n+1) th) (decide (el.length=0)) (Sm.texts (n+1) el)
def Sm.texts (n:Nat):List Sm->Str
 | []=>[]
 | s::r=>Sm.text n s++Sm.texts n r
end
theorem FL (n:Nat) (kd:UInt8) (nm hd:Str) (ex:List Ex) (th el:List Sm):Sm.text n (.mk kd nm hd ex th el)=stT n kd nm hd (ex.map Ex.text) (Sm.texts (n+1) th) (decide (el.length=0)) (Sm.texts (n+1) el):=by rw [Sm.text]
theorem kR (n:Int64):(Lib.itoa n.toInt).length<=21:=Lib.itoa_length_le n.toInt (by have:=n.le_toInt;omega) (by have:=n.toInt_lt;omega)
theorem aW4 {l:Str} (h:eN l=true):l.length<=12:=by
 simp only [eN,aF,aD,dL] at h;obtain ⟨⟨_,h1⟩,h2⟩:=h;unfold bU at h1 h2;dsimp only at h1 h2
 split at h1
 ·split at h1
  ·simp at h1
  ·split at h1
   ·rename_i a b c;simp only [a,b,c,aY,aE,aW] at h2;omega
   ·simp at h1
 ·split at h1
  ·split at h1 <;> simp at h1
  ·split at h1 <;> simp at h1
theorem iQ {q:Ex->Bool}:∀ {l:List Ex} {a:Ex},a∈l->Ex.alls q l=true->Ex.all q a=true
 | [],a,h,_=>by cases h
 | b::r,a,h,k=>by
  rw [Ex.alls,aF] at k;rcases bV.1 h with rfl | h
  ·exact k.1
  ·exact iQ h k.2
structure Nd where
 op:UInt8
 nm:UInt8
 ct:UInt8
 odd:Bool
 n:Int64
def dNd (x:Nd):D:=.str [.val (.int .u8 x.op.toNat),.val (.int .u8 x.nm.toNat),.val (.int .u8 x.ct.toNat),.val (.bool x.odd),.val (.int .i64 x.n.toInt)]
def cNd (x:Nd):List Value:=[.int .u8 x.op.toNat,.int .u8 x.nm.toNat,.int .u8 x.ct.toNat,.bool x.odd,.int .i64 x.n.toInt]
variable {H:Hp}
theorem bI4 {x:Nd} {cs:List Value} (h:Rep H (dNd x) cs):cs=cNd x:=by
 rw [dNd,UK] at h;obtain ⟨_,rfl,_,_,h⟩:=fE.1 h;obtain ⟨_,rfl,_,_,h⟩:=fE.1 h;obtain ⟨_,rfl,_,_,h⟩:=fE.1 h;obtain ⟨_,rfl,_,_,h⟩:=fE.1 h;obtain ⟨_,rfl,_,_,h⟩:=fE.1 h;rw [vK] at h;subst h
 rfl
variable {z c:Nat}
theorem UJ {b off n lo:Nat} {ds:List D} (h:Rep H (.seq z ds) [.slice (some ⟨b,off,none⟩) n c]) (hl:lo<=n):Rep H (.seq z (ds.drop lo)) [.slice (some (if c=lo then ⟨b,off,none⟩ else ⟨b,off+lo * z,none⟩)) (n - lo) (c - lo)]:=by
 have hn:=h.len
 by_cases hc:c=lo
 ·rw [aO hc];rw [show ds.drop lo=[] from fI (by omega),show n - lo=0 by omega];exact .empty (by omega)
 ·rw [aG hc];unfold Rep at h;obtain ⟨p',c',h1,h2,h3,h4⟩:=h;injection h1 with h1 _
  injection h1 with h5 h6 h7
  subst h5 h7;rcases h4 with h4 | ⟨b',off',cs,h8,h9,h10,h11⟩
  ·subst h4;rw [List.drop_nil,show n - lo=0 by simp only [aL] at h6;omega];exact .empty (by omega)
  ·cases h8
   exact .mkM (h9.drop (lo * z)) (h10.drop lo) (by rw [cM];omega) (by omega) (by omega) λe=>by
    obtain ⟨k1,k2⟩:=h11 (D.txtL_sub (λx=>List.mem_of_mem_drop) e);exact ⟨k1,by rw [Nat.add_mul_mod_self_right];exact k2⟩
def WY:List Str:=[[97],[98],[120,48],[116,48],[102,95,49],[97,98,99,100,101,102,103,104,105,106,107,108],[110,111,119],[],[97,98,99,100,101,102,103,104,105,106,107,108,109],[95,120],[120,45,121]]
def nU (n:UInt8):Str:=WY.getD (n.toNat % 11) []
theorem eK (n:UInt8):(nU n).length<=13:=by
 have key:∀ i∈List.range 11,(WY.getD i []).length<=13:=by decide
 exact key _ (cD.2 (vE _ (by omega)))
def arR (k:Nat):Int:=if k<1\/23<k then -1 else if k<=5\/k=8 then 0 else if k=6\/k=7\/k=9\/k=10 then 1 else 2
theorem aF8 (k:Nat):-1<=arR k/\arR k<=2:=by unfold arR;split <;> (try split) <;> (try split) <;> omega
def vS (e:Ex):Bool:=decide (e.args.length<=3)
theorem uL (op:UInt8) (nm:Str) (n:Int64) (args:List Ex):vS (.mk op nm n args)=decide (args.length<=3):=rfl
theorem cP:kS prg 9=some none:=by kernel_rfl
theorem xX:slN prg 71=some 1:=by kernel_rfl
theorem JH (x0 x1 x2 x3 x4 x5 x6 x7 x8 x9 x10:ByteArray):wH prg 71 11 [(0,.string x0),(1,.string x1),(2,.string x2),(3,.string x3),(4,.string x4),(5,.string x5),(6,.string x6),(7,.string x7),(8,.string x8),(9,.string x9),(10,.string x10)]=some (9,[.string x0,.string x1,.string x2,.string x3,.string x4,.string x5,.string x6,.string x7,.string x8,.string x9,.string x10]):=by kernel_rfl
theorem mC (H:Hp) (n:UInt8) (w:World) (hA:Agr H w):Calls prg 128 #[.int .u8 n.toNat] w λr w'=>r=.returned (cH (nU n))/\Ext w w':=by
 refine Sx.enter (H:=H) func128 rfl ntmps128 rfl hA ?_;refine .sr<|.a Z Z<|.ns<|.bl Z (JH _ _ _ _ _ _ _ _ _ _ _) Z λb3=>.mv Z<|.yw (.rem Z Z (by decide) (c:=((n.toNat % 11:Nat):Int)) (by rw [cW (by omega)];omega))<|.yw (.indexSl xX Z Z (i:=n.toNat % 11) Z (vE _ (by omega)) (q:=n.toNat % 11) (by omega))<|.yw (.load (v:=cH (nU n)) Z cP Hm (aA4 (es:=WY) (vE _ (by show 0<11;omega))))<|.az Z<|?_
 exact y9 Z Z λW s=>⟨Z,s.ext⟩
theorem PW (H:Hp) (k:Nat) (w:World) (hA:Agr H w):Calls prg 170 #[iN k] w λr w'=>r=.returned (.int .i64 (arR k))/\Ext w w':=by
 refine Sx.enter (H:=H) func170 rfl ntmps170 rfl hA ?_;refine .sr<|.aq Z<|.sq<|.bk<|.sm Z<|.yw (.lss Z Z)<|.mv Z<|.e2 (λh6=>?_) (λh6=>?_)
 ·refine .gG<|.gG<|.yw (.pickT Z Z)<|.aq Z<|.cT Z<|.sr<|.az Z<|.bR<|.tR<|?_
  refine y9 Z Z λW s=>⟨?_,s.ext⟩
  first
   | (rw [arR];simp_all <;> omega)
   | (rw [arR];simp_all;omega)
   | (congr 1;congr 1;rw [arR];simp_all <;> omega)
 refine .gy (.move Z)<|.gy (.gtr Z Z)<|.yw (.pickF Z Z)<|.aq Z<|.cd Z (λh3=>?_) (λh3=>?_)
 ·refine .sr<|.az Z<|.bR<|.tR<|?_
  refine y9 Z Z λW s=>⟨?_,s.ext⟩
  first
   | (rw [arR];simp_all <;> omega)
   | (rw [arR];simp_all;omega)
   | (congr 1;congr 1;rw [arR];simp_all <;> omega)
 refine .sm Z<|.yw (.leq Z Z)<|.mv Z<|.e2 (λh13=>?_) (λh13=>?_)
 ·refine .gG<|.gG<|.yw (.pickT Z Z)<|.aq Z<|.cT Z<|.sr<|.az Z<|.bR<|.tR<|?_
  refine y9 Z Z λW s=>⟨?_,s.ext⟩
  first
   | (rw [arR];simp_all <;> omega)
   | (rw [arR];simp_all;omega)
   | (congr 1;congr 1;rw [arR];simp_all <;> omega)
 refine .gy (.move Z)<|.gy (.eql Z Z)<|.yw (.pickF Z Z)<|.aq Z<|.cd Z (λh10=>?_) (λh10=>?_)
 ·refine .sr<|.az Z<|.bR<|.tR<|?_
  refine y9 Z Z λW s=>⟨?_,s.ext⟩
  first
   | (rw [arR];simp_all <;> omega)
   | (rw [arR];simp_all;omega)
   | (congr 1;congr 1;rw [arR];simp_all <;> omega)
 refine .sm Z<|.yw (.eql Z Z)<|.mv Z<|.e2 (λh20=>?_) (λh20=>?_)
 ·refine .gG<|.gG<|.yw (.pickT Z Z)<|.mv Z<|.gG<|.gG<|.yw (.pickT Z Z)<|.mv Z<|.gG<|.gG<|.yw (.pickT Z Z)<|.aq Z<|.cT Z<|.sr<|.az Z<|.bR<|.tR<|?_
  refine y9 Z Z λW s=>⟨?_,s.ext⟩
  first
   | (rw [arR];simp_all <;> omega)
   | (rw [arR];simp_all;omega)
   | (congr 1;congr 1;rw [arR];simp_all <;> omega)
 refine .gy (.move Z)<|.gy (.eql Z Z)<|.yw (.pickF Z Z)<|.mv Z<|.e2 (λh24=>?_) (λh24=>?_)
 ·refine .gG<|.gG<|.yw (.pickT Z Z)<|.mv Z<|.gG<|.gG<|.yw (.pickT Z Z)<|.aq Z<|.cT Z<|.sr<|.az Z<|.bR<|.tR<|?_
  refine y9 Z Z λW s=>⟨?_,s.ext⟩
  first
   | (rw [arR];simp_all <;> omega)
   | (rw [arR];simp_all;omega)
   | (congr 1;congr 1;rw [arR];simp_all <;> omega)
 refine .gy (.move Z)<|.gy (.eql Z Z)<|.yw (.pickF Z Z)<|.mv Z<|.e2 (λh28=>?_) (λh28=>?_)
 ·refine .gG<|.gG<|.yw (.pickT Z Z)<|.aq Z<|.cT Z<|.sr<|.az Z<|.bR<|.tR<|?_
  refine y9 Z Z λW s=>⟨?_,s.ext⟩
  first
   | (rw [arR];simp_all <;> omega)
   | (rw [arR];simp_all;omega)
   | (congr 1;congr 1;rw [arR];simp_all <;> omega)
 refine .gy (.move Z)<|.gy (.eql Z Z)<|.yw (.pickF Z Z)<|.aq Z<|.cd Z (λh17=>?_) (λh17=>?_)
 ·refine .sr<|.az Z<|.bR<|.tR<|?_
  refine y9 Z Z λW s=>⟨?_,s.ext⟩
  first
   | (rw [arR];simp_all <;> omega)
   | (rw [arR];simp_all;omega)
   | (congr 1;congr 1;rw [arR];simp_all <;> omega)
 refine .sk<|.bN<|.tN<|.sr<|.az Z<|?_
 refine y9 Z Z λW s=>⟨?_,s.ext⟩
 first
  | (rw [arR];simp_all <;> omega)
  | (rw [arR];simp_all;omega)
  | (congr 1;congr 1;rw [arR];simp_all <;> omega)
theorem eS:kS prg 2=some none:=by kernel_rfl
theorem cC:kS prg 3=some none:=by kernel_rfl
theorem QQ:cZ prg 39=true:=by kernel_rfl
theorem cO:dZ prg 83 0=some 0:=by kernel_rfl
theorem dD:dZ prg 83 1=some 1:=by kernel_rfl
theorem dO:dZ prg 83 2=some 2:=by kernel_rfl
theorem lT:VJ prg 3=some Go.IntKind.i64:=by kernel_rfl
theorem WP:VJ prg 74=some Go.IntKind.u8:=by kernel_rfl
theorem vN:yR prg 32=some (76,4,56):=by kernel_rfl
theorem mQ:hZ prg 32=some 1:=by kernel_rfl
theorem gQ:hZ prg 76=some 4:=by kernel_rfl
theorem lI:pH prg 76=some
 [Go.Value.int Go.IntKind.u8 (Int.ofNat 0),Go.Value.string { data:={ toList:=[] } },
  Go.Value.int Go.IntKind.i64 (Int.ofNat 0),Go.Value.slice none 0 0]:=by kernel_rfl
theorem NL (x0:Int) (x1:ByteArray) (x2:Int):iG prg 76 [(0,.int .u8 x0),(1,.string x1),(2,.int .i64 x2)]=some [.int .u8 x0,.string x1,.int .i64 x2,.slice none 0 0]:=by kernel_rfl
theorem nQ (x00 x01 x02 x03:Value):wH prg 32 1 [(0,.agg [x00,x01,x02,x03].toArray)]=some (76,[x00,x01,x02,x03]):=by kernel_rfl
def bW3 (e:Ex):Prop:=Ex.all vS e=true->∀ (H:Hp) (cs:List Value) (w:World),Rep H (dEx .i64 e) cs->Agr H w ->
 Calls prg 39 #[.agg cs.toArray] w λr w'=>∃ x H',Rep H' (dEx .u8 e) x/\r=.returned (.agg x.toArray)/\xD H w H' w'
theorem bB0 (e:Ex):bW3 e:=by
 induction e using Ex.ind with | _ op nm nn args ih
 intro hnr H cs w h hA;rw [lS,aF,uL,aD] at hnr;obtain ⟨p,c,rfl,hs,hnm⟩:=fX h;have hcap:=hs.cap;have hn3:=hnr.1;refine Sx.enter (H:=H) func39 rfl ntmps39 rfl hA ?_;refine .sr<|.bx Z Z Z λb1=>.al lI Z λb2=>?_
 refine Sx.row0 76 4 ?_;refine .ns<|.fA Z cO<|.lD Z cC nL Z<|.yw (.conv Z lT WP (c:=(op.toNat:Nat)) (by have:=op.toNat_lt;simp only [IntKind.wrap,IntKind.signed,IntKind.bits];simp;omega))<|.fA Z dD<|.lD Z cP nL Z<|.fA Z dO<|.lD Z eS nL Z<|.yw (.build Z (NL _ _ _))<|.al lI Z λb3=>.sX .head Z Z gQ Z<|.nt<|.sq<|.sr<|.fA Z fG<|.lD Z eQ rY Z<|.yw (.lenSl eL Z)<|.mv Z<|.nt<|.bk<|.lp (X:=Nat × Hp × Value × List Value) [(2,_),(3,_),(15,_),(16,_)] ⟨Z,Z,Z,Z,Jt⟩ [_,_] (λz=>[(17,iN z.1)]) (λz=>z.2.1) (λz=>[.box b3 [.int .u8 op.toNat,cH nm,.int .i64 nn.toInt,z.2.2.1] 76,.row 76 4 z.2.2.1 z.1 z.2.2.2]) (λz=>z.1<=args.length/\HUp w H z.2.1/\eR z.2.1 4 ((args.take z.1).map (dEx .u8)) z.2.2.2) (λz=>args.length - z.1) (0,H,.slice none 0 0,[]) (λ_ s=>s) ⟨Z,Jt⟩ ⟨by simp,.refl,eR.nil⟩ λz hC=>?_
 obtain ⟨k,H1,r,xs⟩:=z;dsimp only at hC|-;obtain ⟨hk0,u1,hz⟩:=hC;refine .sr<|.yw (.lss Z Z)<|.nt<|.sq<|.ce Z (λh18=>?_) (λh18=>?_)
 ·have hk:k<args.length:=by omega
  obtain ⟨bE,oE,cE,hpE,rE,lE,mE⟩:=(hs.up u1.up).elem (fW hk);cases hpE;have hnr1:=tT hk hnr.2;refine .sk<|.tN<|.sq<|.bk<|.sr<|.yw (.indexSl eL Z Z Z (by omega) (q:=oE+k * 4) Z)<|.yw (.loadMW Z dH mE lE)<|.al iM Z λb5=>.sV .head Z Z gP lE rE.one Z<|.nt<|.fL 5 [(0,0),(1,0),(2,0),(3,1),(4,1)]<|.fA Z eJ<|.lD Z dQ dC Z<|.yw (.loadW Z dH Hm lE)<|.ct (X:=List Value) QQ Z (λW s=>ih _ (bI hk) hnr1 H1 cE W rE s.agr) Z λx2 H2 hc2 u2=>?_
  generalize hx:args[k]=x at hc2;obtain ⟨op2,nm2,n2,qC⟩:=x;obtain ⟨p2,c2,rfl,hs2,hnm2⟩:=fX hc2;refine .bl Z (nQ _ _ _ _) Z λb25=>.fn (tl:=[_,_,_]) Z<|.ap (news:=[.int .u8 op2.toNat,cH nm2,.int .i64 n2.toInt,.slice p2 qC.length c2]) vN Z (λ_=>qF) Z (.box Hm z0) Z (by simp [Value.oneCell',cH]) (by simp [maxLen];omega) (by omega) Z λr26 _=>?_
  refine At.ra (.tail _ (.tail _ (.tail _ Hm))) λp26 c26 e26=>?_;exact .fA Z eJ<|.st oV Z Z mQ (by rw [e26];rfl) (nb Z) Z<|.nl<|.bN<|.tN<|.rg<|.yw (.add Z Z w7)<|.mv Z<|.nt<|.ag (x:=(k,H1,r,xs)) (k+1,H2,r26,xs++[.int .u8 op2.toNat,cH nm2,.int .i64 n2.toInt,.slice p2 qC.length c2]) ⟨Z,Jt⟩ ⟨Z,Z,Z,Z,Jt⟩ (λ_ s=>(s.pick [2,3,4,5] _ Z Z)) ⟨by dsimp only;omega,u1.trans u2,by dsimp only;rw [wK hk,hx,cL];exact (hz.up u2.up).snoc hc2 Z⟩ (by dsimp only;omega)
 obtain rfl:k=args.length:=by omega
 rw [aZ] at hz;refine At.ra (.tail _ Hm) λp26 c26 e26=>?_;subst e26;refine .ex<|.eb<|.sr<|.yw (.loadW Z eC Hm Z)<|.sX oV Z Z gQ Z<|.nt<|.rt<|?_
 refine At.pm [1,2] [_,_] rfl rfl ?_;refine lY (ds:=args.map (dEx .u8)) (by simp) hz λH3 p3 c3 u3 hr3 hs3=>?_;refine y8 Z (.cell Z eC Hm rfl) λW s=>⟨_,H3,rC hnm hs3,Z,(u1.trans u3).grow s⟩
theorem jO:kS prg 4=some none:=by kernel_rfl
theorem iP:kS prg 5=some none:=by kernel_rfl
theorem aQ1:kS prg 240=some (some 5):=by kernel_rfl
theorem jV:cZ prg 128=true:=by kernel_rfl
theorem MU:cZ prg 169=true:=by kernel_rfl
theorem MT:cZ prg 170=true:=by kernel_rfl
theorem NZ:dZ prg 240 0=some 0:=by kernel_rfl
theorem uW:dZ prg 240 1=some 1:=by kernel_rfl
theorem DU:dZ prg 240 2=some 2:=by kernel_rfl
theorem NY:dZ prg 240 3=some 3:=by kernel_rfl
theorem nM:dZ prg 240 4=some 4:=by kernel_rfl
theorem lJ:VJ prg 5=some Go.IntKind.u8:=by kernel_rfl
theorem GR:yR prg 24=some (83,4,56):=by kernel_rfl
theorem jD:hZ prg 2=some 1:=by kernel_rfl
theorem fQ:hZ prg 9=some 1:=by kernel_rfl
theorem uQ:hZ prg 24=some 1:=by kernel_rfl
theorem ZB:hZ prg 240=some 5:=by kernel_rfl
theorem CG:slN prg 149=some 5:=by kernel_rfl
theorem YZ:pH prg 240=some
 [Go.Value.int Go.IntKind.u8 (Int.ofNat 0),Go.Value.int Go.IntKind.u8 (Int.ofNat 0),
  Go.Value.int Go.IntKind.u8 (Int.ofNat 0),Go.Value.bool false,Go.Value.int Go.IntKind.i64 (Int.ofNat 0)]:=by kernel_rfl
theorem NJ (x0:Int):iG prg 83 [(0,.int .i64 x0)]=some [.int .i64 x0,.string ⟨#[]⟩,.int .i64 0,.slice none 0 0]:=by kernel_rfl
theorem AP (x0 x2:Int):iG prg 83 [(0,.int .i64 x0),(2,.int .i64 x2)]=some [.int .i64 x0,.string ⟨#[]⟩,.int .i64 x2,.slice none 0 0]:=by kernel_rfl
theorem sN (x00 x01 x02 x03:Value):wH prg 24 1 [(0,.agg [x00,x01,x02,x03].toArray)]=some (83,[x00,x01,x02,x03]):=by kernel_rfl
def BT (d:Nat) (e:Ex):Prop:=e.depth+d<=32/\Ex.all vS e=true
def HI (d:Nat) (l:List Ex):Prop:=Ex.deeps l+(d+1)<=32/\Ex.alls vS l=true
theorem LX {d:Nat} {op:UInt8} {nm:Str} {n:Int64} (h:d<=31):BT d (.mk op nm n []):=⟨by rw [qO];simp only [Ex.deeps];omega,by rw [lS,uL];rfl⟩
theorem aY4 {d:Nat} {op:UInt8} {nm:Str} {n:Int64} {l:List Ex} :BT d (.mk op nm n l)↔l.length<=3/\HI d l:=by
 simp only [BT,HI,qO,lS,uL,aF,aD]
 constructor
 ·rintro ⟨h1,h2,h3⟩;exact ⟨h2,by omega,h3⟩
 ·rintro ⟨h1,h2,h3⟩;exact ⟨by omega,h1,h3⟩
theorem YG (d:Nat) (h:d+1<=32:=by omega):HI d []:=⟨by simp only [Ex.deeps];omega,Z⟩
theorem VL {d:Nat} {l:List Ex} {e:Ex} (h:HI d l) (k:BT (d+1) e):HI d (l++[e]):=by
 obtain ⟨h1,h2⟩:=h;obtain ⟨k1,k2⟩:=k;refine ⟨?_,?_⟩
 ·rw [HU];simp only [Ex.deeps];omega
 ·rw [GO,h2];simp [Ex.alls,k2]
inductive Fm where
 | mk (op:UInt8) (nm fd:Str) (a b:Int64) (ex:List Ex) (args:List Fm)
def Fm.op:Fm->UInt8 | .mk op _ _ _ _ _ _=>op
def Fm.nm:Fm->Str | .mk _ nm _ _ _ _ _=>nm
def Fm.fd:Fm->Str | .mk _ _ fd _ _ _ _=>fd
def Fm.a:Fm->Int64 | .mk _ _ _ a _ _ _=>a
def Fm.b:Fm->Int64 | .mk _ _ _ _ b _ _=>b
def Fm.ex:Fm->List Ex | .mk _ _ _ _ _ ex _=>ex
def Fm.args:Fm->List Fm | .mk _ _ _ _ _ _ args=>args
mutual
def dFm (k:IntKind):Fm->D
 | .mk op nm fd a b ex args=>.str [.val (.int k op.toNat),.val (cH nm),.val (cH fd),.val (.int .i64 a.toInt),.val (.int .i64 b.toInt),.seq 4 (ex.map (dEx k)),.seq 7 (bL5 k args)]
def bL5 (k:IntKind):List Fm->List D
 | []=>[]
 | f::r=>dFm k f::bL5 k r
end
theorem WG (k:IntKind):∀ l,bL5 k l=l.map (dFm k)
 | []=>rfl
 | e::r=>by rw [bL5,WG k r];rfl
theorem bB5 (k:IntKind) (op:UInt8) (nm fd:Str) (a b:Int64) (ex:List Ex) (args:List Fm):dFm k (.mk op nm fd a b ex args)=.str [.val (.int k op.toNat),.val (cH nm),.val (cH fd),.val (.int .i64 a.toInt),.val (.int .i64 b.toInt),.seq 4 (ex.map (dEx k)),.seq 7 (args.map (dFm k))]:=by rw [dFm,WG]
theorem Fm.ind {C:Fm->Prop} (h:∀ op nm fd a b ex args,(∀ x∈args,C x)->C (.mk op nm fd a b ex args)):∀ e,C e
 | .mk op nm fd a b ex args=>h op nm fd a b ex args λx hx=>Fm.ind h x
termination_by e=>SizeOf.sizeOf e
decreasing_by
 have:=nR hx;simp;omega
section
variable {H:Hp}
abbrev cFm (k:IntKind) (op:UInt8) (nm fd:Str) (a b:Int64) (s1 s2:Value):List Value:=[.int k op.toNat,cH nm,cH fd,.int .i64 a.toInt,.int .i64 b.toInt,s1,s2]
theorem gR {k:IntKind} {op:UInt8} {nm fd:Str} {a b:Int64} {ex:List Ex} {args:List Fm} {cs:List Value} (h:Rep H (dFm k (.mk op nm fd a b ex args)) cs) :
 ∃ p c p1 c1,cs=cFm k op nm fd a b (.slice p ex.length c) (.slice p1 args.length c1)/\Rep H (.seq 4 (ex.map (dEx k))) [.slice p ex.length c]/\Rep H (.seq 7 (args.map (dFm k))) [.slice p1 args.length c1]/\nm.length<=1000000/\fd.length<=1000000:=by
 rw [bB5,UK] at h;obtain ⟨_,rfl,_,_,h⟩:=fE.1 h;obtain ⟨_,rfl,_,hn,h⟩:=fE.1 h;obtain ⟨_,rfl,_,hm,h⟩:=fE.1 h;obtain ⟨_,rfl,_,_,h⟩:=fE.1 h;obtain ⟨_,rfl,_,_,h⟩:=fE.1 h;obtain ⟨p,c,_,rfl,hs,h⟩:=FU.1 h;obtain ⟨p1,c1,_,rfl,hs1,h⟩:=FU.1 h;rw [vK] at h;subst h;rw [bJ] at hs hs1;exact ⟨p,c,p1,c1,by rw [bJ,bJ],hs,hs1,okS.1 hn,okS.1 hm⟩
theorem CP {k:IntKind} {op:UInt8} {nm fd:Str} {a b:Int64} {ex:List Ex} {args:List Fm} {s s1:Value} (hn:nm.length<=1000000) (hm:fd.length<=1000000) (h:Rep H (.seq 4 (ex.map (dEx k))) [s]) (h1:Rep H (.seq 7 (args.map (dFm k))) [s1]) :
 Rep H (dFm k (.mk op nm fd a b ex args)) (cFm k op nm fd a b s s1):=by
 rw [bB5,UK];exact fE.2 ⟨_,Z,Z,Jt,fE.2 ⟨_,Z,Z,okS.2 hn,fE.2 ⟨_,Z,Z,okS.2 hm,fE.2 ⟨_,Z,Z,Jt,fE.2 ⟨_,Z,Z,Jt,yT.2 ⟨[s],_,Z,h,yT.2 ⟨[s1],[],Z,h1,vK.2 rfl⟩⟩⟩⟩⟩⟩⟩
theorem tW {k:IntKind} {f:Fm} {cs:List Value} (h:Rep H (dFm k f) cs):cs.length=7:=by
 obtain ⟨op,nm,fd,a,b,ex,args⟩:=f;obtain ⟨_,_,_,_,rfl,_⟩:=gR h
 rfl
end
mutual
def Fm.all (q:Fm->Bool):Fm->Bool
 | .mk op nm fd a b ex args=>q (.mk op nm fd a b ex args) && Fm.alls q args
def Fm.alls (q:Fm->Bool):List Fm->Bool
 | []=>true
 | f::r=>Fm.all q f && Fm.alls q r
end
mutual
def Fm.depth:Fm->Nat
 | .mk _ _ _ _ _ _ args=>Fm.deeps args+1
def Fm.deeps:List Fm->Nat
 | []=>0
 | f::r=>max (Fm.depth f) (Fm.deeps r)
end
mutual
def Ex.count:Ex->Nat
 | .mk _ _ _ args=>Ex.counts args+1
def Ex.counts:List Ex->Nat
 | []=>0
 | e::r=>Ex.count e+Ex.counts r
end
mutual
def Fm.count:Fm->Nat
 | .mk _ _ _ _ _ ex args=>Ex.counts ex+Fm.counts args+1
def Fm.counts:List Fm->Nat
 | []=>0
 | f::r=>Fm.count f+Fm.counts r
end
structure Fs where
 lv:Nat
 nm:Bool
 fd:Bool
 wn:Bool
 am:Bool
 ex:Nat
 ar:Nat
def zFs:Fs:=⟨0,false,false,false,false,0,0⟩
def KD:List Fs:=[zFs,⟨6,false,false,false,false,0,0⟩,⟨6,false,false,false,false,0,0⟩,⟨6,false,false,false,false,1,0⟩,⟨6,true,true,false,false,0,0⟩,⟨6,true,true,false,false,1,0⟩,⟨6,true,false,false,false,0,0⟩,⟨6,true,true,false,false,0,0⟩,
 ⟨5,false,false,false,false,0,1⟩,⟨3,false,false,false,false,0,2⟩,⟨2,false,false,false,false,0,2⟩,⟨1,false,false,false,false,0,2⟩,⟨5,false,false,false,false,0,1⟩,⟨5,false,false,true,false,0,1⟩,⟨5,false,false,true,false,0,1⟩,⟨4,false,false,true,false,0,2⟩,
 ⟨5,true,false,false,true,0,1⟩,⟨5,true,false,false,true,0,1⟩,⟨5,true,false,false,true,1,1⟩]
def cS (op:UInt8):Fs:=KD.getD op.toNat zFs
def fD:Str->Option (Str × Str)
 | []=>none
 | c::r=>if c=46 then some ([],r) else (fD r).map λx=>(c::x.1,x.2)
def xV (n:Str):Bool:=match fD n with | some (a,b)=>eN a && eN b | none=>false
def oS (f:Fm):Bool:=!f.ex.any λe=>decide ((if f.op=3 then 9 else 8)<e.depth)
mutual
def pI:Ex->Bool
 | .mk op nm _ args=>(decide (op=5) && !xV nm && !eN nm) || ((decide (op=6) || decide (op=8)) && !xV nm) || JB args
def JB:List Ex->Bool
 | []=>false
 | e::r=>pI e || JB r
end
def rU (f:Fm):Bool:=!((cS f.op).nm && !eN f.nm || (cS f.op).fd && !eN f.fd) && !JB f.ex
mutual
def dS:Ex->Bool
 | .mk op nm n args =>
  if op=1 then decide (nm=[]) && decide (0<=n.toInt) && decide (args.length=0)
  else if op=4 then decide (nm=[]) && decide (n=0) && decide (args.length=0)
  else if op=5\/op=8 then decide (n=0) && decide (args.length=0)
  else if op=6 then decide (n=0) && (zO args && decide (args.length=1))
  else if op=9 then decide (nm=[]) && decide (n=0) && (zO args && decide (args.length=1))
  else if op=11\/op=12\/op=13\/op=14\/op=15 then decide (nm=[]) && decide (n=0) && (zO args && decide (args.length=2))
  else false
def zO:List Ex->Bool
 | []=>true
 | e::r=>dS e && zO r
end
def BG:Ex->Bool
 | .mk op nm n args=>decide (op=0) && decide (nm=[]) && decide (n=0) && decide (args.length=0)
def HV:Ex->Bool
 | .mk op nm n args=>decide (16<=op.toNat) && decide (op.toNat<=21) && decide (nm=[]) && decide (n=0) && (zO args && decide (args.length=2))
def CB (f:Fm):Bool :=
 if (cS f.op).wn then (decide (f.a=0) && decide (f.b.toInt=-1)) || (decide (0<=f.a.toInt) && decide (f.a.toInt<=f.b.toInt) && decide (f.b.toInt<=200))
 else if (cS f.op).am then decide (-1000000<=f.a.toInt) && decide (f.a.toInt<=f.b.toInt) && decide (f.b.toInt<=1000000) && decide (f.b.toInt - f.a.toInt<32)
 else decide (f.a=0) && decide (f.b=0)
def uN (f:Fm):Bool :=
 if f.op=7 then decide (f.ex.length<=4) && f.ex.all λe=>BG e || dS e
 else decide (f.ex.length=(cS f.op).ex) && (if f.op=3 then HV (f.ex.headD (.mk 0 [] 0 [])) else if f.op=5 then dS (f.ex.headD (.mk 0 [] 0 []))
  else if f.op=18 then decide ((f.ex.headD (.mk 0 [] 0 [])).op=1) && dS (f.ex.headD (.mk 0 [] 0 [])) && decide ((f.ex.headD (.mk 0 [] 0 [])).n.toInt<=32) else true)
def jQ (f:Fm):Bool :=
 decide (¬ (cS f.op).lv=0) && ((cS f.op).nm || decide (f.nm=[])) && ((cS f.op).fd || decide (f.fd=[])) && decide (f.args.length=(cS f.op).ar) && CB f && uN f
def fO (f:Fm):Nat:=if 60<Fm.count f\/Fm.all oS f=false then 3 else if Fm.all rU f=false then 9 else if Fm.all jQ f=false then 6 else 0
theorem kC (op:UInt8) (nm:Str) (n:Int64) (args:List Ex):Ex.count (.mk op nm n args)=Ex.counts args+1:=by rw [Ex.count]
theorem pJ (op:UInt8) (nm fd:Str) (a b:Int64) (ex:List Ex) (args:List Fm):Fm.count (.mk op nm fd a b ex args)=Ex.counts ex+Fm.counts args+1:=by rw [Fm.count]
theorem lU:∀ (l m:List Ex),Ex.counts (l++m)=Ex.counts l+Ex.counts m
 | [],m=>by rw [cU,Ex.counts,dV]
 | e::l,m=>by rw [bT,Ex.counts,Ex.counts,lU l m,dN]
theorem pR:∀ (l m:List Fm),Fm.counts (l++m)=Fm.counts l+Fm.counts m
 | [],m=>by rw [cU,Fm.counts,dV]
 | e::l,m=>by rw [bT,Fm.counts,Fm.counts,pR l m,dN]
theorem bU9 (e:Ex):1<=e.count:=by obtain ⟨op,nm,n,args⟩:=e;rw [kC];omega
theorem bU1 (f:Fm):1<=f.count:=by obtain ⟨op,nm,fd,a,b,ex,args⟩:=f;rw [pJ];omega
theorem YO:∀ l:List Ex,l.length<=Ex.counts l
 | []=>aR _
 | e::l=>by rw [Ex.counts,aI];have:=YO l;have:=bU9 e;omega
theorem bJ6:∀ l:List Fm,l.length<=Fm.counts l
 | []=>aR _
 | e::l=>by rw [Fm.counts,aI];have:=bJ6 l;have:=bU1 e;omega
theorem WE (e:Ex):e.depth<=e.count:=by
 induction e using Ex.ind with | _ op nm n args ih
 rw [qO,kC]
 have:Ex.deeps args<=Ex.counts args:=by
  clear n nm op;induction args with
  | nil=>rw [Ex.deeps];exact aR _
  | cons a r ih2 =>
   rw [Ex.deeps,Ex.counts];have h1:=ih a (bD ..);have h2:=ih2 λx hx=>ih x (bZ _ hx);omega
 omega
theorem wG:∀ {l:List Ex} {e:Ex},e∈l->e.count<=Ex.counts l
 | a::r,e,h=>by
  rw [Ex.counts];rcases bV.1 h with rfl | h
  ·omega
  ·have:=wG h;omega
theorem tV:∀ {l:List Fm} {e:Fm},e∈l->e.count<=Fm.counts l
 | a::r,e,h=>by
  rw [Fm.counts];rcases bV.1 h with rfl | h
  ·omega
  ·have:=tV h;omega
theorem VX (q:Fm->Bool):∀ l,Fm.alls q l=l.all (Fm.all q)
 | []=>rfl
 | f::r=>by rw [Fm.alls,eY,VX q r]
theorem fJ (q:Fm->Bool) (op:UInt8) (nm fd:Str) (a b:Int64) (ex:List Ex) (args:List Fm):Fm.all q (.mk op nm fd a b ex args)=(q (.mk op nm fd a b ex args) && args.all (Fm.all q)):=by rw [Fm.all,VX]
theorem JF (f:Fm):Fm.all (λ_=>true) f=true:=by
 induction f using Fm.ind with | _ op nm fd a b ex args ih
 rw [fJ,aA];exact bC.2 ih
def bZ8 (f:Fm):Bool:=f.ex.all λe=>decide (e.depth<=1000000)
theorem YK (f:Fm) (h:f.count<=1000000):Fm.all bZ8 f=true:=by
 induction f using Fm.ind with | _ op nm fd a b ex args ih
 rw [pJ] at h;rw [fJ,aF];refine ⟨bC.2 λe he=>aK ?_,bC.2 λx hx=>ih x hx ?_⟩
 ·have h1:=wG (l:=ex) he;have h2:=WE e;omega
 ·have h1:=tV hx;omega
def blE (N:Nat) (e:Ex):Bool:=Ex.all (λe=>decide (e.args.length<=N)) e
def blF (N:Nat) (f:Fm):Bool:=Fm.all (λf=>decide (f.ex.length<=N) && decide (f.args.length<=N) && f.ex.all (blE N)) f
theorem lC (q:Ex->Bool):∀ l,Ex.alls q l=l.all (Ex.all q)
 | []=>rfl
 | e::r=>by rw [Ex.alls,eY,lC q r]
variable {N:Nat}
theorem SZ {op:UInt8} {nm:Str} {n:Int64} {args:List Ex} :blE N (.mk op nm n args)=true↔args.length<=N/\∀ a∈args,blE N a=true:=by
 unfold blE;rw [lS,lC,aF,aD,bC];rfl
theorem AG {op:UInt8} {nm fd:Str} {a b:Int64} {ex:List Ex} {args:List Fm} :blF N (.mk op nm fd a b ex args)=true↔(ex.length<=N/\args.length<=N/\∀ e∈ex,blE N e=true)/\∀ g∈args,blF N g=true:=by
 unfold blF;rw [fJ,aF,aF,aF,aD,aD,bC,bC];exact ⟨λh=>⟨⟨h.1.1.1,h.1.1.2,h.1.2⟩,h.2⟩,λh=>⟨⟨⟨h.1.1,h.1.2.1⟩,h.1.2.2⟩,h.2⟩⟩
end Go.Proofs.YtidclioghdbphaaGreatDoor
