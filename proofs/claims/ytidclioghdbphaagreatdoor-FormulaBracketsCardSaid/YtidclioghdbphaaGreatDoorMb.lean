/- Texts of the proof, one behind the other. -/
import Derived.Test.YtidclioghdbphaaGreatDoorMa
import Derived.Lib.Builder
import Derived.Lib.AppendStr
import Derived.Lib.UnsafeStr
import Derived.Lib.ItoaNum
import Derived.Lib.Join
import Derived.Lib.ItoaLen
import Derived.ProofKit
import Derived.Lib.LaidTab
import Derived.Deep.Slices
import Derived.Deep.Fields
import Derived.OpenShut
set_option linter.all false
set_option maxRecDepth 100000
/- Pointers, strings appended to bytes, and unsafe strings: what a strings.Builder inside an own box meets. -/
namespace Go.Sx
open Go.RowKit Go.Par
section
variable {dfs:List Deferred} {P:Program} {n:Nat} {L:Sl} {H:Hp} {w0:World} {bs:List Res} {Q:Exit->Act->World->Prop} {ops:Array Oper} {rest:List Oper} {K:Act->World->Prop}
variable {d:Option Tmp} {ty:TypeId} {pos:String} {aft:Array Edge} {g:Option (Nat × Bool)} {v:Value} {t:Tmp} {op:Op} {x y z:Operand} {T T':TypeId}
theorem Yl.ext {f:FuncId} {xs:List Operand} {vs:List Value} {ats:Array TypeId} (hv:evs L xs=some vs) (h:∀ W,(callFunc f vs.toArray).run P W=.ok (.value v) W):Yl P L H w0 bs ⟨d,.call ⟨.value (.func f),xs.toArray,ats⟩,ty,pos,aft,g⟩ v:=.of_run λa W f0 s=>by
 have hm:=zQ f0 hv;have:(#[]:Array Value)=[].toArray:=rfl;unfold execOp;simp only [resolve,Act.eval,Deferred.ofValue,Sem.run_bind,Sem.run_pure,Result.andThen,invoke,jU,hm,this,List.append_toArray,bW,eK,h]
theorem St.pickT {W:World} {hd tl hd':List Res} (s:St H w0 (hd++tl) W) (ix:List Nat) (hn:rI ix=true) (hm:ix.map (λi=>hd[i]?)=hd'.map some):St H w0 (hd'++tl) W:=by
 have hlt:∀ i x,hd[i]? = some x->(hd++tl)[i]? = some x:=λi x e=>by
  rw [List.getElem?_append_left (List.getElem?_eq_some_iff.1 e).1];exact e
 have key:∀ (ix:List Nat) (hd':List Res),rI ix=true->ix.map (λi=>hd[i]?)=hd'.map some->(∀ x∈hd',∃ i∈ix,hd[i]? = some x)/\(hd'++tl).Pairwise Res.apart:=by
  intro ix;induction ix with
  | nil =>
   intro hd' _ hm;cases hd' with
   | nil=>exact ⟨λx hx=>(by cases hx),(iL.1 s.apart).2.1⟩
   | cons a r=>simp at hm
  | cons i r ih =>
   intro hd' hn hm;cases hd' with
   | nil=>simp at hm
   | cons a q =>
    simp only [dG,fT] at hm;simp only [rI,aE,dR] at hn;obtain ⟨h1,h2⟩:=ih q hn.2 hm.2;refine ⟨λx hx=>?_,?_⟩
    ·rcases bM.1 hx with rfl | hx
     ·exact ⟨i,.head _,hm.1⟩
     ·obtain ⟨j,hj,e⟩:=h1 x hx;exact ⟨j,.tail _ hj,e⟩
    ·rw [aT,jD];refine ⟨λy hy=>?_,h2⟩;rcases cC.1 hy with hy | hy
     ·obtain ⟨j,hj,e⟩:=h1 y hy;refine IG s.apart (hlt _ _ hm.1) (hlt _ _ e) λh=>?_;subst h;have:=hn.1;simp [hj] at this
     ·exact (iL.1 s.apart).2.2 a (Al_List_mem_of_getElem? hm.1) y hy
 obtain ⟨h1,h2⟩:=key ix hd' hn hm;refine ⟨s.ext,s.agr,λx hx=>?_,h2,s.lo⟩;rcases cC.1 hx with hx | hx
 ·obtain ⟨i,_,e⟩:=h1 x hx;exact s.own x (nW _ (Al_List_mem_of_getElem? e))
 ·exact s.own x (nH _ hx)
theorem At.mk {e:TypeId} {v0:Value} {bytes m:Nat} {kl kc:IntKind} {i j:Int} (hT:zG P T=some (e,1,bytes)) (hz0:pT P e=some [v0]) (hx:ev L x=some (.int kl i)) (hy:ev L y=some (.int kc j)) (hi:i=(m:Int)) (hj:j=(m:Int)) (hb:bytes * m<=281474976710656) (h63:m<=9223372036854775807) (ht:Nat.blt t n=true)
 (h:∀ b,At dfs n ((t,.slice (some ⟨b,0,none⟩) m m)::L) H w0 (.box b (List.replicate m v0) e::bs) (wpList P ops Q rest)):At dfs n L H w0 bs (wpList P ops Q (⟨some t,.makeSlice T x y,ty,pos,aft,none⟩::rest)):=by
 subst hi hj;obtain ⟨hu,q,z,hq,hz,hsz,hby,hzs,h0⟩:=BU hT
 have hz1:z.cells.toList=[v0]:=by
  have h2:=hz0;unfold pT at h2;rw [hq] at h2;simp only [iD,hz,lZ,uU] at h2;exact h2
 refine cons ?_;intro a W f s;refine nP rfl ?_
 have hbz:(q.bytes:Int) * (m:Int)<=281474976710656:=by
  have h5:((q.bytes * m:Nat):Int)<=281474976710656:=by rw [hby];omega
  rwa [Int.natCast_mul] at h5
 have hr:=run_make (P:=P) W T e q z hu hq hz kl kc m m (by omega) (Int.le_refl _) hbz (by omega)
 have hcs:madeCells z.cells (((m:Int)).toNat * q.size)=(List.replicate m v0).toArray:=by
  have e1:z.cells=#[v0]:=by rw [<-Array.toArray_toList (xs:=z.cells),hz1]
  rw [e1,hsz,Int.toNat_natCast,Nat.mul_one];apply vU
  ·simp [madeCells]
  ·intro i h1 h2;simp [madeCells,Nat.mod_one]
 rw [hcs,Int.toNat_natCast] at hr;unfold Oper.wp execOp;simp only [Sem.run_bind,Sem.run_pure,Result.andThen_ok,f.ev hx,f.ev hy,hr];exact h _ _ _ (f.put ht _) (s.alloc _ _)
end
theorem dt {p:Prop} [Decidable p]:(decide p=true)=p:=aD
theorem df {p:Prop} [Decidable p]:(decide p=false)=¬ p:=propext xC
theorem nb {a b:Nat} (h:Nat.ble a b=true):a<=b:=kI h
variable {l:List Value}
theorem z0:∀ (j:Nat) u,l[j]? = some u->l[0+j]? = some u:=λj u h=>by rw [dL];exact h
theorem w6 {i:Int} (h:-9223372036854775808<=i/\i<=9223372036854775807):IntKind.i64.wrap i=i:=w64 h.1 h.2
section
variable {dfs:List Deferred} {P:Program} {n:Nat} {L:Sl} {H:Hp} {w0:World} {bs:List Res} {Q:Exit->Act->World->Prop} {ops:Array Oper}
theorem At.nt {K:Act->World->Prop} (h:At dfs n L H w0 bs K):At dfs n L H w0 bs (wpList P ops (Exit.then K Q) []):=.nl (.tN h)
theorem At.sr {id:Nat} {l:List Oper} {y:Code} (h:At dfs n L H w0 bs (wpList P l.toArray (Exit.then (y.wp P Q) Q) l)):At dfs n L H w0 bs ((Code.seq (Code.region id l.toArray false) y).wp P Q):=.sq (.rg h)
theorem At.ns {Q':Exit->Act->World->Prop} {id:Nat} {l:List Oper} {y:Code} (h:At dfs n L H w0 bs (wpList P l.toArray (Exit.then (y.wp P Q') Q') l)):At dfs n L H w0 bs (wpList P ops (Exit.then ((Code.seq (Code.region id l.toArray false) y).wp P Q') Q) []):=.nl (.tN (.sq (.rg h)))
end
end Go.Sx

namespace Go.Sx
open Go.RowKit Go.Par
section
variable {dfs:List Deferred} {P:Program} {L:Sl} {H H':Hp} {w0:World} {bs bs':List Res} {ty:TypeId} {pos:String} {aft:Array Edge} {t:Tmp} {op:Op} {ops:Array Oper} {N hn i n j:Nat} {pa:List (Nat × Oper × Value)} {E:Sl->Hp->List Res->Prop} {r:List (Nat × Nat × Oper)} {rest:List Oper} {Q:Exit->Act->World->Prop} {o:Oper} {v:Value} {b c:Bool} {u:Tmp}
theorem St.p1_1 {H:Hp} {w0 W:World} {a0 b0:Res} {tl:List Res} (s:St H w0 (a0::tl) W) (ix:List Nat) (hm:ix.map (λi=>([a0]:List Res)[i]?)=[some b0]) (hn:rI ix=true:=by rfl):St H w0 (b0::tl) W:=s.pickT (hd:=[a0]) (hd':=[b0]) ix hn hm
theorem St.p2_1 {H:Hp} {w0 W:World} {a0 a1 b0:Res} {tl:List Res} (s:St H w0 (a0::a1::tl) W) (ix:List Nat) (hm:ix.map (λi=>([a0,a1]:List Res)[i]?)=[some b0]) (hn:rI ix=true:=by rfl):St H w0 (b0::tl) W:=s.pickT (hd:=[a0,a1]) (hd':=[b0]) ix hn hm
theorem St.p2_2 {H:Hp} {w0 W:World} {a0 a1 b0 b1:Res} {tl:List Res} (s:St H w0 (a0::a1::tl) W) (ix:List Nat) (hm:ix.map (λi=>([a0,a1]:List Res)[i]?)=[some b0,some b1]) (hn:rI ix=true:=by rfl):St H w0 (b0::b1::tl) W:=s.pickT (hd:=[a0,a1]) (hd':=[b0,b1]) ix hn hm
theorem St.p3_1 {H:Hp} {w0 W:World} {a0 a1 a2 b0:Res} {tl:List Res} (s:St H w0 (a0::a1::a2::tl) W) (ix:List Nat) (hm:ix.map (λi=>([a0,a1,a2]:List Res)[i]?)=[some b0]) (hn:rI ix=true:=by rfl):St H w0 (b0::tl) W:=s.pickT (hd:=[a0,a1,a2]) (hd':=[b0]) ix hn hm
theorem St.p3_3 {H:Hp} {w0 W:World} {a0 a1 a2 b0 b1 b2:Res} {tl:List Res} (s:St H w0 (a0::a1::a2::tl) W) (ix:List Nat) (hm:ix.map (λi=>([a0,a1,a2]:List Res)[i]?)=[some b0,some b1,some b2]) (hn:rI ix=true:=by rfl):St H w0 (b0::b1::b2::tl) W:=s.pickT (hd:=[a0,a1,a2]) (hd':=[b0,b1,b2]) ix hn hm
theorem St.p4_2 {H:Hp} {w0 W:World} {a0 a1 a2 a3 b0 b1:Res} {tl:List Res} (s:St H w0 (a0::a1::a2::a3::tl) W) (ix:List Nat) (hm:ix.map (λi=>([a0,a1,a2,a3]:List Res)[i]?)=[some b0,some b1]) (hn:rI ix=true:=by rfl):St H w0 (b0::b1::tl) W:=s.pickT (hd:=[a0,a1,a2,a3]) (hd':=[b0,b1]) ix hn hm
theorem St.p4_3 {H:Hp} {w0 W:World} {a0 a1 a2 a3 b0 b1 b2:Res} {tl:List Res} (s:St H w0 (a0::a1::a2::a3::tl) W) (ix:List Nat) (hm:ix.map (λi=>([a0,a1,a2,a3]:List Res)[i]?)=[some b0,some b1,some b2]) (hn:rI ix=true:=by rfl):St H w0 (b0::b1::b2::tl) W:=s.pickT (hd:=[a0,a1,a2,a3]) (hd':=[b0,b1,b2]) ix hn hm
theorem St.p4_4 {H:Hp} {w0 W:World} {a0 a1 a2 a3 b0 b1 b2 b3:Res} {tl:List Res} (s:St H w0 (a0::a1::a2::a3::tl) W) (ix:List Nat) (hm:ix.map (λi=>([a0,a1,a2,a3]:List Res)[i]?)=[some b0,some b1,some b2,some b3]) (hn:rI ix=true:=by rfl):St H w0 (b0::b1::b2::b3::tl) W:=s.pickT (hd:=[a0,a1,a2,a3]) (hd':=[b0,b1,b2,b3]) ix hn hm
theorem At.aq {x:Operand} {K:Act->World->Prop} (hx:ev L x=some v) (h:At dfs n ((t,v)::L) H w0 bs K) (ht:Nat.blt t n=true:=by rfl):At dfs n L H w0 bs (wpList P ops (Exit.then K Q) [⟨some t,.assign x,ty,pos,aft,none⟩]):=.a hx ht (.nt h)
theorem At.sm {x:Operand} {id:Nat} {l:List Oper} {y:Code} (hx:ev L x=some v) (h:At dfs n ((t,v)::L) H w0 bs (wpList P (⟨some t,.move x,ty,pos,aft,none⟩::l).toArray (Exit.then (y.wp P Q) Q) l)) (ht:Nat.blt t n=true:=by rfl):At dfs n L H w0 bs ((Code.seq (Code.region id (⟨some t,.move x,ty,pos,aft,none⟩::l).toArray false) y).wp P Q):=.sr (.m hx ht h)
theorem w7 {i:Int} (h:-9223372036854775808<=i/\i<=9223372036854775807:=by omega):IntKind.i64.wrap i=i:=w6 h
theorem y6 {P:Program} {n:Nat} {f:FuncId} {fn:Func} {c:Code} {args:List Value} {w:World} {R:Ending->World->Prop} (hf:P.funcs[f]? = some fn) (hb:fn.body=some c) (hn:fn.ntmps=n) (hl:Nat.ble args.length n=true) (h:At [] n (IB 0 args) (⟨λ_=>none,0⟩:Hp) w [] (c.wp P (bodyPost P fn R))):Calls P f args.toArray w R:=enter hf hb hn hl ⟨λ_ _ e=>(by cases e),aO _⟩ h
theorem At.zR {id:Nat} {K:Act->World->Prop} {Q':Exit->Act->World->Prop} (h:At dfs n L H w0 bs (Q .ret)):At dfs n L H w0 bs (wpList P ops (Exit.then (Code.ret.wp P (Exit.inBlock id (Exit.then K Q))) Q') []):=.nt (.rt (.bR (.tR h)))
theorem At.eb {id:Nat} {K K' K2:Act->World->Prop} {Q:Exit->Act->World->Prop} (h:At dfs n L H w0 bs K):At dfs n L H w0 bs (Exit.then K' (Exit.then K2 (Exit.inBlock id (Exit.then K Q))) (.exit id)):=.tE (.tE (.bE (.tN h)))
theorem At.az {x:Operand} {Q':Exit->Act->World->Prop} (hx:ev L x=some v) (h:At dfs n ((t,v)::L) H w0 bs (Q .ret)) (ht:Nat.blt t n=true:=by rfl):At dfs n L H w0 bs (wpList P ops (Exit.then (Code.ret.wp P Q) Q') [⟨some t,.assign x,ty,pos,aft,none⟩]):=.aq hx (.rt h) ht
end
end Go.Sx
namespace Go.Proofs.YtidclioghdbphaaGreatDoor
open Go.RowKit Go.Par Go.Sx
abbrev Str:=List UInt8
def cH (l:Str):Value:=.string ⟨l.toArray⟩
inductive Ex where
 | mk (op:UInt8) (nm:Str) (n:Int64) (args:List Ex)
inductive Sm where
 | mk (kind:UInt8) (nm hd:Str) (ex:List Ex) (th el:List Sm)
def Ex.op:Ex->UInt8 | .mk op _ _ _=>op
def Ex.nm:Ex->Str | .mk _ nm _ _=>nm
def Ex.n:Ex->Int64 | .mk _ _ n _=>n
def Ex.args:Ex->List Ex | .mk _ _ _ args=>args
mutual
def dEx (k:IntKind):Ex->D
 | .mk op nm n args=>.str [.val (.int k op.toNat),.val (cH nm),.val (.int .i64 n.toInt),.seq 4 (bJ2 k args)]
def bJ2 (k:IntKind):List Ex->List D
 | []=>[]
 | e::r=>dEx k e::bJ2 k r
end
theorem VF (k:IntKind):∀ l,bJ2 k l=l.map (dEx k)
 | []=>rfl
 | e::r=>by rw [bJ2,VF k r];rfl
theorem aX2 (k:IntKind) (op:UInt8) (nm:Str) (n:Int64) (args:List Ex):dEx k (.mk op nm n args)=.str [.val (.int k op.toNat),.val (cH nm),.val (.int .i64 n.toInt),.seq 4 (args.map (dEx k))]:=by rw [dEx,VF]
theorem Ex.ind {C:Ex->Prop} (h:∀ op nm n args,(∀ a∈args,C a)->C (.mk op nm n args)):∀ e,C e
 | .mk op nm n args=>h op nm n args λa ha=>Ex.ind h a
termination_by e=>SizeOf.sizeOf e
decreasing_by
 have:=nG ha;simp;omega
theorem Sm.ind {C:Sm->Prop} (h:∀ kd nm hd ex th el,(∀ a∈th,C a)->(∀ a∈el,C a)->C (.mk kd nm hd ex th el)):∀ e,C e
 | .mk kd nm hd ex th el=>h kd nm hd ex th el (λa ha=>Sm.ind h a) (λa ha=>Sm.ind h a)
termination_by e=>SizeOf.sizeOf e
decreasing_by
 all_goals
  have:=nG ha;simp;omega
structure Hd where
 nm:Str
 ps:List Str
 body:List Sm
structure Vr where
 nm:Str
 ty:UInt8
 init:Int64
structure Cp where
 nm:Str
 vars:List Vr
 vers:List (List Hd)
structure Fg where
 nm:Str
 init:Bool
structure Lk where
 fr:Str
 to:Str
 lat:Int64
structure Ft where
 nm:Str
 flags:List Fg
 links:List Lk
 comps:List Cp
/-! ### Structs opened and shut -/
section
variable {H:Hp}
theorem bY7 {v:Value} (h:v.oneCell'=true) (k:okV v):Rep H (.val v) [v]:=by unfold Rep;exact ⟨Z,h,k⟩
theorem okS {l:Str}:okV (cH l)↔l.length<=1000000:=by simp [okV,cH,ByteArray.size]
theorem aP1 {v:Value} {l:List Value} (h:Rep H (.val v) l):l=[v]:=by unfold Rep at h;exact h.1
theorem yL {d:D} {ds:List D} {l:List Value}:sQ H (d::ds) l↔∃ x y,l=x++y/\Rep H d x/\sQ H ds y:=by
 constructor
 ·intro h;unfold sQ at h;exact h
 ·intro h;unfold sQ;exact h
theorem uO {l:List Value}:sQ H [] l↔l=[]:=by
 constructor
 ·intro h;unfold sQ at h;exact h
 ·intro h;unfold sQ;exact h
theorem TC {ds:List D} {l:List Value}:Rep H (.str ds) l↔sQ H ds l:=by
 constructor
 ·intro h;unfold Rep at h;exact h
 ·intro h;unfold Rep;exact h
theorem fB {v:Value} {ds:List D} {l:List Value}:sQ H (.val v::ds) l↔∃ y,l=v::y/\v.oneCell'=true/\okV v/\sQ H ds y:=by
 rw [yL]
 constructor
 ·rintro ⟨x,y,rfl,hx,hy⟩;unfold Rep at hx;obtain ⟨rfl,h,k⟩:=hx;exact ⟨y,Z,h,k,hy⟩
 ·rintro ⟨y,rfl,h,k,hy⟩;exact ⟨[v],y,Z,bY7 h k,hy⟩
theorem FA {z:Nat} {es ds:List D} {l:List Value}:sQ H (.seq z es::ds) l↔∃ p c y,l=.slice p es.length c::y/\Rep H (.seq z es) [.slice p es.length c]/\sQ H ds y:=by
 rw [yL]
 constructor
 ·rintro ⟨x,y,rfl,hx,hy⟩;obtain ⟨p,c,rfl,_⟩:=hx.sl;exact ⟨p,c,y,Z,hx,hy⟩
 ·rintro ⟨p,c,y,rfl,hx,hy⟩;exact ⟨_,y,Z,hx,hy⟩
theorem kN {α β:Type} {f:α->β} {l:List α} {k:Nat} (h:k<l.length):(l.map f)[k]? = some (f l[k]):=by simp [h]
theorem iM {k:IntKind} {op:UInt8} {nm:Str} {n:Int64} {args:List Ex} {cs:List Value} (h:Rep H (dEx k (.mk op nm n args)) cs) :
 ∃ p c,cs=[.int k op.toNat,cH nm,.int .i64 n.toInt,.slice p args.length c]/\Rep H (.seq 4 (args.map (dEx k))) [.slice p args.length c]/\nm.length<=1000000:=by
 rw [aX2,TC] at h;obtain ⟨_,rfl,_,_,h⟩:=fB.1 h;obtain ⟨_,rfl,_,hn,h⟩:=fB.1 h;obtain ⟨_,rfl,_,_,h⟩:=fB.1 h;obtain ⟨p,c,_,rfl,hs,h⟩:=FA.1 h;rw [uO] at h;subst h;rw [bJ] at hs|-;exact ⟨p,c,Z,hs,okS.1 hn⟩
theorem qP {k:IntKind} {op:UInt8} {nm:Str} {n:Int64} {args:List Ex} {s:Value} (hn:nm.length<=1000000) (h:Rep H (.seq 4 (args.map (dEx k))) [s]) :
 Rep H (dEx k (.mk op nm n args)) [.int k op.toNat,cH nm,.int .i64 n.toInt,s]:=by
 rw [aX2,TC];exact fB.2 ⟨_,Z,Z,Jt,fB.2 ⟨_,Z,Z,okS.2 hn,fB.2 ⟨_,Z,Z,Jt,yL.2 ⟨[s],[],Z,h,uO.2 rfl⟩⟩⟩⟩
end
inductive Fm where
 | mk (op:UInt8) (nm fd:Str) (a b:Int64) (ex:List Ex) (args:List Fm)
def Fm.op:Fm->UInt8 | .mk op _ _ _ _ _ _=>op
def Fm.nm:Fm->Str | .mk _ nm _ _ _ _ _=>nm
def Fm.fd:Fm->Str | .mk _ _ fd _ _ _ _=>fd
def Fm.a:Fm->Int64 | .mk _ _ _ a _ _ _=>a
def Fm.b:Fm->Int64 | .mk _ _ _ _ b _ _=>b
def Fm.ex:Fm->List Ex | .mk _ _ _ _ _ ex _=>ex
def Fm.args:Fm->List Fm | .mk _ _ _ _ _ _ args=>args
mutual
def dFm (k:IntKind):Fm->D
 | .mk op nm fd a b ex args=>.str [.val (.int k op.toNat),.val (cH nm),.val (cH fd),.val (.int .i64 a.toInt),.val (.int .i64 b.toInt),.seq 4 (ex.map (dEx k)),.seq 7 (bJ1 k args)]
def bJ1 (k:IntKind):List Fm->List D
 | []=>[]
 | f::r=>dFm k f::bJ1 k r
end
theorem VE (k:IntKind):∀ l,bJ1 k l=l.map (dFm k)
 | []=>rfl
 | e::r=>by rw [bJ1,VE k r];rfl
theorem aX1 (k:IntKind) (op:UInt8) (nm fd:Str) (a b:Int64) (ex:List Ex) (args:List Fm):dFm k (.mk op nm fd a b ex args)=.str [.val (.int k op.toNat),.val (cH nm),.val (cH fd),.val (.int .i64 a.toInt),.val (.int .i64 b.toInt),.seq 4 (ex.map (dEx k)),.seq 7 (args.map (dFm k))]:=by rw [dFm,VE]
theorem Fm.ind {C:Fm->Prop} (h:∀ op nm fd a b ex args,(∀ x∈args,C x)->C (.mk op nm fd a b ex args)):∀ e,C e
 | .mk op nm fd a b ex args=>h op nm fd a b ex args λx hx=>Fm.ind h x
termination_by e=>SizeOf.sizeOf e
decreasing_by
 have:=nG hx;simp;omega
section
variable {H:Hp}
abbrev cFm (k:IntKind) (op:UInt8) (nm fd:Str) (a b:Int64) (s1 s2:Value):List Value:=[.int k op.toNat,cH nm,cH fd,.int .i64 a.toInt,.int .i64 b.toInt,s1,s2]
theorem iB {k:IntKind} {op:UInt8} {nm fd:Str} {a b:Int64} {ex:List Ex} {args:List Fm} {cs:List Value} (h:Rep H (dFm k (.mk op nm fd a b ex args)) cs) :
 ∃ p c p1 c1,cs=cFm k op nm fd a b (.slice p ex.length c) (.slice p1 args.length c1)/\Rep H (.seq 4 (ex.map (dEx k))) [.slice p ex.length c]/\Rep H (.seq 7 (args.map (dFm k))) [.slice p1 args.length c1]/\nm.length<=1000000/\fd.length<=1000000:=by
 rw [aX1,TC] at h;obtain ⟨_,rfl,_,_,h⟩:=fB.1 h;obtain ⟨_,rfl,_,hn,h⟩:=fB.1 h;obtain ⟨_,rfl,_,hm,h⟩:=fB.1 h;obtain ⟨_,rfl,_,_,h⟩:=fB.1 h;obtain ⟨_,rfl,_,_,h⟩:=fB.1 h;obtain ⟨p,c,_,rfl,hs,h⟩:=FA.1 h;obtain ⟨p1,c1,_,rfl,hs1,h⟩:=FA.1 h;rw [uO] at h;subst h;rw [bJ] at hs hs1;exact ⟨p,c,p1,c1,by rw [bJ,bJ],hs,hs1,okS.1 hn,okS.1 hm⟩
theorem CB {k:IntKind} {op:UInt8} {nm fd:Str} {a b:Int64} {ex:List Ex} {args:List Fm} {s s1:Value} (hn:nm.length<=1000000) (hm:fd.length<=1000000) (h:Rep H (.seq 4 (ex.map (dEx k))) [s]) (h1:Rep H (.seq 7 (args.map (dFm k))) [s1]) :
 Rep H (dFm k (.mk op nm fd a b ex args)) (cFm k op nm fd a b s s1):=by
 rw [aX1,TC];exact fB.2 ⟨_,Z,Z,Jt,fB.2 ⟨_,Z,Z,okS.2 hn,fB.2 ⟨_,Z,Z,okS.2 hm,fB.2 ⟨_,Z,Z,Jt,fB.2 ⟨_,Z,Z,Jt,yL.2 ⟨[s],_,Z,h,yL.2 ⟨[s1],[],Z,h1,uO.2 rfl⟩⟩⟩⟩⟩⟩⟩
theorem pO {k:IntKind} {f:Fm} {cs:List Value} (h:Rep H (dFm k f) cs):cs.length=7:=by
 obtain ⟨op,nm,fd,a,b,ex,args⟩:=f;obtain ⟨_,_,_,_,rfl,_⟩:=iB h
 rfl
end
mutual
def Fm.all (q:Fm->Bool):Fm->Bool
 | .mk op nm fd a b ex args=>q (.mk op nm fd a b ex args) && Fm.alls q args
def Fm.alls (q:Fm->Bool):List Fm->Bool
 | []=>true
 | f::r=>Fm.all q f && Fm.alls q r
end
mutual
def Fm.depth:Fm->Nat
 | .mk _ _ _ _ _ _ args=>Fm.deeps args+1
def Fm.deeps:List Fm->Nat
 | []=>0
 | f::r=>max (Fm.depth f) (Fm.deeps r)
end
mutual
def Ex.count:Ex->Nat
 | .mk _ _ _ args=>Ex.counts args+1
def Ex.counts:List Ex->Nat
 | []=>0
 | e::r=>Ex.count e+Ex.counts r
end
mutual
def Fm.count:Fm->Nat
 | .mk _ _ _ _ _ ex args=>Ex.counts ex+Fm.counts args+1
def Fm.counts:List Fm->Nat
 | []=>0
 | f::r=>Fm.count f+Fm.counts r
end
mutual
def Ex.depth:Ex->Nat
 | .mk _ _ _ args=>Ex.deeps args+1
def Ex.deeps:List Ex->Nat
 | []=>0
 | e::r=>max (Ex.depth e) (Ex.deeps r)
end
variable {k:Nat}
theorem tT {α:Type} {l:List α} (h:k<l.length):l.take (k+1)=l.take k++[l[k]]:=by simp
theorem HO (a b:List Ex):Ex.deeps (a++b)=max (Ex.deeps a) (Ex.deeps b):=by
 induction a with
 | nil=>simp [Ex.deeps]
 | cons e r ih=>simp only [aT,Ex.deeps,ih];omega
theorem XV {l:List Ex} (h:k<l.length):Ex.deeps (l.take (k+1))=max (Ex.deeps (l.take k)) (Ex.depth l[k]):=by
 rw [tT h,HO];simp [Ex.deeps]
theorem XU (l:List Ex) (k:Nat):Ex.deeps (l.take k)<=Ex.deeps l:=by
 have:=HO (l.take k) (l.drop k);rw [eY] at this;omega
theorem aG8 {l:List Ex} {e:Ex} (h:e∈l):Ex.depth e<=Ex.deeps l:=by
 induction l with
 | nil=>cases h
 | cons a r ih =>
  simp only [Ex.deeps];rcases bM.1 h with rfl | h
  ·omega
  ·have:=ih h;omega
theorem aX0 {l:List Ex} (h:k<l.length):Ex.depth l[k]<=Ex.deeps l:=aG8 (bU h)
theorem tD (op:UInt8) (nm:Str) (n:Int64) (args:List Ex):Ex.depth (.mk op nm n args)=Ex.deeps args+1:=by rw [Ex.depth]
def Sm.kd:Sm->UInt8 | .mk kd _ _ _ _ _=>kd
def Sm.nm:Sm->Str | .mk _ nm _ _ _ _=>nm
def Sm.hd:Sm->Str | .mk _ _ hd _ _ _=>hd
def Sm.ex:Sm->List Ex | .mk _ _ _ ex _ _=>ex
def Sm.th:Sm->List Sm | .mk _ _ _ _ th _=>th
def Sm.el:Sm->List Sm | .mk _ _ _ _ _ el=>el
mutual
def Sm.depth:Sm->Nat
 | .mk _ _ _ _ th el=>max (Sm.deeps th) (Sm.deeps el)+1
def Sm.deeps:List Sm->Nat
 | []=>0
 | e::r=>max (Sm.depth e) (Sm.deeps r)
end
mutual
def Sm.count:Sm->Nat
 | .mk _ _ _ _ th el=>Sm.counts th+Sm.counts el+1
def Sm.counts:List Sm->Nat
 | []=>0
 | e::r=>Sm.count e+Sm.counts r
end
theorem qA (a b:List Sm):Sm.deeps (a++b)=max (Sm.deeps a) (Sm.deeps b):=by
 induction a with
 | nil=>simp [Sm.deeps]
 | cons e r ih=>simp only [aT,Sm.deeps,ih];omega
theorem nZ (a b:List Sm):Sm.counts (a++b)=Sm.counts a+Sm.counts b:=by
 induction a with
 | nil=>simp [Sm.counts]
 | cons e r ih=>simp only [aT,Sm.counts,ih];omega
theorem aD8 (kd:UInt8) (nm hd:Str) (ex:List Ex) (th el:List Sm):Sm.count (.mk kd nm hd ex th el)=Sm.counts th+Sm.counts el+1:=by rw [Sm.count]
theorem TA (l:List Sm):l.length<=Sm.counts l:=by
 induction l with
 | nil=>simp
 | cons e r ih =>
  obtain ⟨kd,nm,hd,ex,th,el⟩:=e;simp only [aJ,Sm.counts,aD8];omega
def pJ (c:UInt8):Bool:=(decide (97<=c.toNat) && decide (c.toNat<=122)) || (decide (65<=c.toNat) && decide (c.toNat<=90))
def iX (c:UInt8):Bool:=decide (48<=c.toNat) && decide (c.toNat<=57)
def jC (c:UInt8):Bool:=pJ c || iX c || decide (c.toNat=95)
def words:List Str:=[[97,102,116,101,114],[97,108,119,97,121,115],[97,110,100],[97,114,114,105,118,101,115],[98,111,111,108],[99,111,109,112,111,110,101,110,116],[99,111,117,110,116],[100,101,108,101,116,101],[100,111],[101,108,115,101],[101,120,105,115,116,115],[102,97,108,115,101],[102,101,116,99,104],[102,108,97,103],[102,108,101,101,116],[102,111,114,97,108,108],[104,97,115],[105,102],[105,109,112,108,105,101,115],[105,110],[105,110,116],[108,97,116,101,110,99,121],[108,105,110,107],[110,111,116],[110,111,119],[111,110],[111,110,99,101],[111,114],[112,114,101,118,105,111,117,115],[115,101,110,100],[115,105,110,99,101],[115,105,122,101],[115,116,111,112],[115,116,111,114,101],[116,97,98,108,101],[116,114,117,101],[118,97,114],[118,101,114,115,105,111,110],[119,104,105,108,101]]
def symbols:List Str:=[[46,46],[61,61],[33,61],[60,61],[62,61],[45,62],[123],[125],[40],[41],[91],[93],[44],[59],[58],[46],[61],[60],[62],[43],[45],[42],[47],[37],[95]]
def pre (q:UInt8->Bool) (l:Str):Nat:=(l.takeWhile q).length
theorem AW (q:UInt8->Bool) (l:Str):pre q l<=l.length:=by
 unfold pre;induction l with
 | nil=>simp
 | cons a r ih=>rw [dT];split <;> simp;omega
theorem TI {q:UInt8->Bool}:∀ {l:Str} {k:Nat} (h:k<l.length),k<=pre q l->q l[k]=true->k+1<=pre q l
 | [],k,h,_,_=>by simp at h
 | a::r,0,h,_,hq=>by
  unfold pre;rw [dT];simp at hq;simp [hq]
 | a::r,k+1,h,hk,hq=>by
  unfold pre at hk|-;rw [dT] at hk|-;cases ha:q a with
  | false=>rw [ha] at hk;simp at hk
  | true =>
   rw [ha] at hk;simp at hk hq;have:=TI (l:=r) (k:=k) (by simpa using h) hk hq;unfold pre at this;simp;omega
theorem KL {q:UInt8->Bool}:∀ {l:Str} {k:Nat} (h:k<l.length),k<=pre q l->q l[k]=false->k=pre q l
 | [],k,h,_,_=>by simp at h
 | a::r,0,h,_,hq=>by
  unfold pre;rw [dT];simp at hq;simp [hq]
 | a::r,k+1,h,hk,hq=>by
  unfold pre at hk|-;rw [dT] at hk|-;cases ha:q a with
  | false=>rw [ha] at hk;simp at hk
  | true =>
   rw [ha] at hk;simp at hk hq;have:=KL (l:=r) (k:=k) (by simpa using h) hk hq;unfold pre at this;simp;omega
def cI (l:Str):UInt8 × Nat :=
 let c:=l.headD 0
 if pJ c then
  if words.contains (l.take (pre jC l)) then (2,pre jC l) else if pre jC l<=12 then (1,pre jC l) else (5,l.length)
 else if iX c then
  if pre iX l=1\/c≠48 then (3,pre iX l) else (5,l.length)
 else match symbols.find? (λx=>x.isPrefixOf l) with
  | some x=>(4,x.length)
  | none=>(5,l.length)
def fQ (l:Str):Bool:=decide (l≠[]) && (cI l).1 == 1 && decide ((cI l).2=l.length)
def AP (l m:Str):Bool:=decide (m.length<=l.length) && decide (l.take m.length=m)
theorem BC (l m:Str):AP l m=m.isPrefixOf l:=by
 rw [bH];simp only [AP,aE,aD,jB]
 constructor
 ·rintro ⟨_,h⟩;have:=eY m.length l;rw [h] at this;exact ⟨_,this⟩
 ·rintro ⟨t,rfl⟩;simp
theorem FP {α:Type} {l:List α} (h:k<l.length) (d:α):l.getD k d=l[k]:=by simp [h]
theorem zI {α β:Type} {f:α->β} {l:List α} (h:k<l.length) (d:α):(l.map f)[k]? = some (f (l.getD k d)):=by simp [h]
structure Shp where
 n:Nat
 nm:Bool
 lv:Nat
 tx:Str
structure Frm where
 nm:Bool
 hd:Bool
 lo:Nat
 hi:Nat
 th:Bool
 el:Bool
def shapes:List Shp:=[⟨0,false,0,[]⟩,⟨0,false,7,[]⟩,⟨0,false,7,[116,114,117,101]⟩,⟨0,false,7,[102,97,108,115,101]⟩,⟨0,false,7,[110,111,119]⟩,⟨0,true,7,[]⟩,⟨1,true,7,[]⟩,⟨1,true,7,[104,97,115,32]⟩,⟨0,true,7,[115,105,122,101,32]⟩,⟨1,false,6,[45]⟩,⟨1,false,6,[110,111,116,32]⟩,⟨2,false,5,[32,42,32]⟩,⟨2,false,5,[32,47,32]⟩,⟨2,false,5,[32,37,32]⟩,⟨2,false,4,[32,43,32]⟩,⟨2,false,4,[32,45,32]⟩,⟨2,false,3,[32,61,61,32]⟩,⟨2,false,3,[32,33,61,32]⟩,⟨2,false,3,[32,60,32]⟩,⟨2,false,3,[32,60,61,32]⟩,⟨2,false,3,[32,62,32]⟩,⟨2,false,3,[32,62,61,32]⟩,⟨2,false,2,[32,97,110,100,32]⟩,⟨2,false,1,[32,111,114,32]⟩]
def IK:List Frm:=[⟨false,false,0,0,false,false⟩,⟨true,false,1,1,false,false⟩,⟨true,false,2,2,false,false⟩,⟨true,false,1,1,false,false⟩,⟨false,false,1,1,true,true⟩,⟨false,false,1,1,true,false⟩,⟨true,true,0,4,false,false⟩,⟨false,true,1,5,false,false⟩,⟨false,false,2,2,false,true⟩,⟨true,false,1,1,false,true⟩,⟨false,false,0,0,false,false⟩]
def QP (op:UInt8):Bool:=decide (1<=op.toNat) && decide (op.toNat<=23)
def KS (op:UInt8):Bool:=decide (1<=op.toNat) && decide (op.toNat<=10)
def eF (op:UInt8):Shp:=if QP op then shapes.getD op.toNat ⟨0,false,0,[]⟩ else ⟨0,false,0,[]⟩
def sC (op:UInt8):Frm:=if KS op then IK.getD op.toNat ⟨false,false,0,0,false,false⟩ else ⟨false,false,0,0,false,false⟩
theorem aA3 {α:Type} {f:α->List Value} {z:Nat} (hz:∀ a,(f a).length=z):∀ {l:List α} {i:Nat} (d:α),i<l.length->∀ (j:Nat) u,(f (l.getD i d))[j]? = some u->(l.flatMap f)[i * z+j]? = some u
 | [],i,d,h,j,u,e=>by simp at h
 | a::r,0,d,h,j,u,e=>by
  simp only [List.flatMap_cons,oU,dL];simp at e;rw [List.getElem?_append_left (List.getElem?_eq_some_iff.1 e).1];exact e
 | a::r,i+1,d,h,j,u,e=>by
  simp only [List.flatMap_cons];rw [List.getElem?_append_right (by rw [hz,gR];omega),hz,show (i+1) * z+j - z=i * z+j by rw [gR];omega];exact aA3 hz d (by simpa using h) j u (by simpa using e)
structure Gl (H:Hp):Prop where
 words:kZ H 5 0 (words.map cH)
 symbols:kZ H 3 0 (symbols.map cH)
variable {H H':Hp}
theorem Gl.up (g:Gl H) (u:Up H H'):Gl H':=⟨g.words.up u,g.symbols.up u⟩
mutual
def Ex.all (q:Ex->Bool):Ex->Bool
 | .mk op nm n args=>q (.mk op nm n args) && Ex.alls q args
def Ex.alls (q:Ex->Bool):List Ex->Bool
 | []=>true
 | e::r=>Ex.all q e && Ex.alls q r
end
theorem GG (q:Ex->Bool) (a b:List Ex):Ex.alls q (a++b)=(Ex.alls q a && Ex.alls q b):=by
 induction a with
 | nil=>simp [Ex.alls]
 | cons e r ih=>simp only [aT,Ex.alls,ih,xU]
theorem aI0 {q:Ex->Bool} {l:List Ex} (h:k<l.length):Ex.alls q (l.take (k+1))=(Ex.alls q (l.take k) && Ex.all q l[k]):=by
 rw [tT h,GG];simp [Ex.alls]
theorem aZ4 {q:Ex->Bool} {l:List Ex} (h:k<l.length) (hb:Ex.all q l[k]=false):Ex.alls q l=false:=by
 have h1:=GG q (l.take (k+1)) (l.drop (k+1));rw [eY,aI0 h,hb] at h1;simpa using h1
theorem nT (q:Ex->Bool) (op:UInt8) (nm:Str) (n:Int64) (args:List Ex):Ex.all q (.mk op nm n args)=(q (.mk op nm n args) && Ex.alls q args):=by rw [Ex.all]
mutual
def Sm.all (q:Sm->Bool):Sm->Bool
 | .mk kd nm hd ex th el=>q (.mk kd nm hd ex th el) && Sm.alls q th && Sm.alls q el
def Sm.alls (q:Sm->Bool):List Sm->Bool
 | []=>true
 | e::r=>Sm.all q e && Sm.alls q r
end
theorem sJ (q:Sm->Bool) (a b:List Sm):Sm.alls q (a++b)=(Sm.alls q a && Sm.alls q b):=by
 induction a with
 | nil=>simp [Sm.alls]
 | cons e r ih=>simp only [aT,Sm.alls,ih,xU]
theorem PV (q:Sm->Bool) (kd:UInt8) (nm hd:Str) (ex:List Ex) (th el:List Sm):Sm.all q (.mk kd nm hd ex th el)=(q (.mk kd nm hd ex th el) && Sm.alls q th && Sm.alls q el):=by rw [Sm.all]
def aR4:Ex->Bool
 | .mk op nm _ _=>!(eF op).nm || fQ nm
def tK:Ex->Bool
 | .mk op nm n args=>QP op && decide (args.length=(eF op).n) && ((eF op).nm || decide (nm=[])) && (if op=1 then decide (0<=n.toInt) else decide (n.toInt=0))
def FK:Sm->Bool
 | .mk kd nm hd ex _ _=>(!(sC kd).nm || fQ nm) && (!(sC kd).hd || fQ hd) && Ex.alls aR4 ex
def RJ:Sm->Bool
 | .mk kd nm hd ex th el=>KS kd && decide ((sC kd).lo<=ex.length) && decide (ex.length<=(sC kd).hi) && ((sC kd).nm || decide (nm=[])) && ((sC kd).hd || decide (hd=[])) &&
  ((sC kd).th || decide (th.length=0)) && ((sC kd).el || decide (el.length=0)) && Ex.alls tK ex
def bU2:Sm->Bool
 | .mk _ _ _ ex _ _=>ex.all λx=>decide (x.depth<=8)
def cA9 (h:Hd):Bool:=Sm.alls RJ h.body
structure Fs where
 lv:Nat
 nm:Bool
 fd:Bool
 wn:Bool
 am:Bool
 ex:Nat
 ar:Nat
def zFs:Fs:=⟨0,false,false,false,false,0,0⟩
def JG:List Fs:=[zFs,⟨6,false,false,false,false,0,0⟩,⟨6,false,false,false,false,0,0⟩,⟨6,false,false,false,false,1,0⟩,⟨6,true,true,false,false,0,0⟩,⟨6,true,true,false,false,1,0⟩,⟨6,true,false,false,false,0,0⟩,⟨6,true,true,false,false,0,0⟩,
 ⟨5,false,false,false,false,0,1⟩,⟨3,false,false,false,false,0,2⟩,⟨2,false,false,false,false,0,2⟩,⟨1,false,false,false,false,0,2⟩,⟨5,false,false,false,false,0,1⟩,⟨5,false,false,true,false,0,1⟩,⟨5,false,false,true,false,0,1⟩,⟨4,false,false,true,false,0,2⟩,
 ⟨5,true,false,false,true,0,1⟩,⟨5,true,false,false,true,0,1⟩,⟨5,true,false,false,true,1,1⟩]
def cJ (op:UInt8):Fs:=JG.getD op.toNat zFs
def eJ:Str->Option (Str × Str)
 | []=>none
 | c::r=>if c=46 then some ([],r) else (eJ r).map λx=>(c::x.1,x.2)
def xP (n:Str):Bool:=match eJ n with | some (a,b)=>fQ a && fQ b | none=>false
def uM (f:Fm):Bool:=!f.ex.any λe=>decide ((if f.op=3 then 9 else 8)<e.depth)
mutual
def qO:Ex->Bool
 | .mk op nm _ args=>(decide (op=5) && !xP nm && !fQ nm) || ((decide (op=6) || decide (op=8)) && !xP nm) || IH args
def IH:List Ex->Bool
 | []=>false
 | e::r=>qO e || IH r
end
def tM (f:Fm):Bool:=!((cJ f.op).nm && !fQ f.nm || (cJ f.op).fd && !fQ f.fd) && !IH f.ex
mutual
def eP:Ex->Bool
 | .mk op nm n args =>
  if op=1 then decide (nm=[]) && decide (0<=n.toInt) && decide (args.length=0)
  else if op=4 then decide (nm=[]) && decide (n=0) && decide (args.length=0)
  else if op=5\/op=8 then decide (n=0) && decide (args.length=0)
  else if op=6 then decide (n=0) && (zB args && decide (args.length=1))
  else if op=9 then decide (nm=[]) && decide (n=0) && (zB args && decide (args.length=1))
  else if op=11\/op=12\/op=13\/op=14\/op=15 then decide (nm=[]) && decide (n=0) && (zB args && decide (args.length=2))
  else false
def zB:List Ex->Bool
 | []=>true
 | e::r=>eP e && zB r
end
def HS:Ex->Bool
 | .mk op nm n args=>decide (op=0) && decide (nm=[]) && decide (n=0) && decide (args.length=0)
def IU:Ex->Bool
 | .mk op nm n args=>decide (16<=op.toNat) && decide (op.toNat<=21) && decide (nm=[]) && decide (n=0) && (zB args && decide (args.length=2))
def GE (f:Fm):Bool :=
 if (cJ f.op).wn then (decide (f.a=0) && decide (f.b.toInt=-1)) || (decide (0<=f.a.toInt) && decide (f.a.toInt<=f.b.toInt) && decide (f.b.toInt<=200))
 else if (cJ f.op).am then decide (-1000000<=f.a.toInt) && decide (f.a.toInt<=f.b.toInt) && decide (f.b.toInt<=1000000) && decide (f.b.toInt - f.a.toInt<32)
 else decide (f.a=0) && decide (f.b=0)
def CT (f:Fm):Bool :=
 if f.op=7 then decide (f.ex.length<=4) && f.ex.all λe=>HS e || eP e
 else decide (f.ex.length=(cJ f.op).ex) && (if f.op=3 then IU (f.ex.headD (.mk 0 [] 0 [])) else if f.op=5 then eP (f.ex.headD (.mk 0 [] 0 []))
  else if f.op=18 then decide ((f.ex.headD (.mk 0 [] 0 [])).op=1) && eP (f.ex.headD (.mk 0 [] 0 [])) && decide ((f.ex.headD (.mk 0 [] 0 [])).n.toInt<=32) else true)
def jX (f:Fm):Bool :=
 decide (¬ (cJ f.op).lv=0) && ((cJ f.op).nm || decide (f.nm=[])) && ((cJ f.op).fd || decide (f.fd=[])) && decide (f.args.length=(cJ f.op).ar) && GE f && CT f
def fN (f:Fm):Nat:=if 60<Fm.count f\/Fm.all uM f=false then 3 else if Fm.all tM f=false then 9 else if Fm.all jX f=false then 6 else 0
def opT (least:Nat) (x:Nat × Str):Str:=if x.1<least then [40]++x.2++[41] else x.2
def XF (lv:Nat):Nat:=if lv=3 then lv+1 else lv
def txt (op:UInt8) (nm:Str) (n:Int64) (ls:List (Nat × Str)):Str :=
 if op=1 then Lib.itoa n.toInt
 else if op=5\/op=8 then (eF op).tx++nm
 else if op=6\/op=7 then (eF op).tx++nm++[91]++(ls.getD 0 (0,[])).2++[93]
 else if op=9\/op=10 then (eF op).tx++opT (eF op).lv (ls.getD 0 (0,[]))
 else if (eF op).n=0 then (eF op).tx
 else opT (XF (eF op).lv) (ls.getD 0 (0,[]))++(eF op).tx++opT ((eF op).lv+1) (ls.getD 1 (0,[]))
mutual
def Ex.text:Ex->Str
 | .mk op nm n args=>txt op nm n (Ex.texts args)
def Ex.texts:List Ex->List (Nat × Str)
 | []=>[]
 | e::r=>((eF e.op).lv,Ex.text e)::Ex.texts r
end
theorem NI:∀ l:List Ex,Ex.texts l=l.map λe=>((eF e.op).lv,Ex.text e)
 | []=>rfl
 | e::r=>by rw [Ex.texts,NI r];rfl
theorem ES (op:UInt8) (nm:Str) (n:Int64) (args:List Ex):Ex.text (.mk op nm n args)=txt op nm n (args.map λe=>((eF e.op).lv,Ex.text e)):=by rw [Ex.text,NI]
def spT:Nat->Str
 | 0=>[]
 | k+1=>spT k++[32,32]
def uP (ind:Nat) (parts:List Str):Str:=spT ind++parts.flatten++[10]
def ZR (l:List Str):Str:=Lib.join l [44,32]
def aA7 (n:Nat) (first:Str) (noE:Bool) (E:Str):Str:=if noE then uP n [first,[59]] else uP n [first,[32,101,108,115,101,32,123]]++E++uP n [[125]]
def stT (n:Nat) (kd:UInt8) (nm hd:Str) (es:List Str) (T:Str) (noE:Bool) (E:Str):Str :=
 if kd=1 then uP n [nm,[32,61,32],es.getD 0 [],[59]]
 else if kd=2 then uP n [nm,[91],es.getD 0 [],[93,32,61,32],es.getD 1 [],[59]]
 else if kd=3 then uP n [[100,101,108,101,116,101,32],nm,[91],es.getD 0 [],[93,59]]
 else if kd=4 then uP n [[105,102,32],es.getD 0 [],[32,123]]++T++(if noE then [] else uP n [[125,32,101,108,115,101,32,123]]++E)++uP n [[125]]
 else if kd=5 then uP n [[119,104,105,108,101,32],es.getD 0 [],[32,123]]++T++uP n [[125]]
 else if kd=6 then uP n [[115,101,110,100,32],nm,[46],hd,[40],ZR es,[41,59]]
 else if kd=7 then uP n [[97,102,116,101,114,32],es.getD 0 [],[32,100,111,32],hd,[40],ZR (es.drop 1),[41,59]]
 else if kd=8 then aA7 n ([115,116,111,114,101,32]++es.getD 0 []++[32,61,32]++es.getD 1 []) noE E
 else if kd=9 then aA7 n ([102,101,116,99,104,32]++nm++[32,61,32]++es.getD 0 []) noE E
 else if kd=10 then uP n [[115,116,111,112,59]]
 else []
mutual
def Sm.text (n:Nat):Sm->Str
 | .mk kd nm hd ex th el=>stT n kd nm hd (ex.map Ex.text) (Sm.texts (n+1) th) (decide (el.length=0)) (Sm.texts (n+1) el)
def Sm.texts (n:Nat):List Sm->Str
 | []=>[]
 | s::r=>Sm.text n s++Sm.texts n r
end
theorem EU (n:Nat) (kd:UInt8) (nm hd:Str) (ex:List Ex) (th el:List Sm):Sm.text n (.mk kd nm hd ex th el)=stT n kd nm hd (ex.map Ex.text) (Sm.texts (n+1) th) (decide (el.length=0)) (Sm.texts (n+1) el):=by rw [Sm.text]
theorem rR (n:Int64):(Lib.itoa n.toInt).length<=21:=Lib.itoa_length_le n.toInt (by have:=n.le_toInt;omega) (by have:=n.toInt_lt;omega)
theorem aR3 {l:Str} (h:fQ l=true):l.length<=12:=by
 simp only [fQ,aE,aD,eT] at h;obtain ⟨⟨_,h1⟩,h2⟩:=h;unfold cI at h1 h2;dsimp only at h1 h2
 split at h1
 ·split at h1
  ·simp at h1
  ·split at h1
   ·rename_i a b c;simp only [a,b,c,bS,aI,bL] at h2;omega
   ·simp at h1
 ·split at h1
  ·split at h1 <;> simp at h1
  ·split at h1 <;> simp at h1
theorem iQ {q:Ex->Bool}:∀ {l:List Ex} {a:Ex},a∈l->Ex.alls q l=true->Ex.all q a=true
 | [],a,h,_=>by cases h
 | b::r,a,h,k=>by
  rw [Ex.alls,aE] at k;rcases bM.1 h with rfl | h
  ·exact k.1
  ·exact iQ h k.2
structure Nd where
 op:UInt8
 nm:UInt8
 ct:UInt8
 odd:Bool
 n:Int64
def dNd (x:Nd):D:=.str [.val (.int .u8 x.op.toNat),.val (.int .u8 x.nm.toNat),.val (.int .u8 x.ct.toNat),.val (.bool x.odd),.val (.int .i64 x.n.toInt)]
def cNd (x:Nd):List Value:=[.int .u8 x.op.toNat,.int .u8 x.nm.toNat,.int .u8 x.ct.toNat,.bool x.odd,.int .i64 x.n.toInt]
theorem bG0 {x:Nd} {cs:List Value} (h:Rep H (dNd x) cs):cs=cNd x:=by
 rw [dNd,TC] at h;obtain ⟨_,rfl,_,_,h⟩:=fB.1 h;obtain ⟨_,rfl,_,_,h⟩:=fB.1 h;obtain ⟨_,rfl,_,_,h⟩:=fB.1 h;obtain ⟨_,rfl,_,_,h⟩:=fB.1 h;obtain ⟨_,rfl,_,_,h⟩:=fB.1 h;rw [uO] at h;subst h
 rfl
variable {z c:Nat}
theorem TB {b off n lo:Nat} {ds:List D} (h:Rep H (.seq z ds) [.slice (some ⟨b,off,none⟩) n c]) (hl:lo<=n):Rep H (.seq z (ds.drop lo)) [.slice (some (if c=lo then ⟨b,off,none⟩ else ⟨b,off+lo * z,none⟩)) (n - lo) (c - lo)]:=by
 have hn:=h.len
 by_cases hc:c=lo
 ·rw [aL hc];rw [show ds.drop lo=[] from jW (by omega),show n - lo=0 by omega];exact .empty (by omega)
 ·rw [aG hc];unfold Rep at h;obtain ⟨p',c',h1,h2,h3,h4⟩:=h;injection h1 with h1 _
  injection h1 with h5 h6 h7
  subst h5 h7;rcases h4 with h4 | ⟨b',off',cs,h8,h9,h10,h11⟩
  ·subst h4;rw [List.drop_nil,show n - lo=0 by simp only [aM] at h6;omega];exact .empty (by omega)
  ·cases h8
   exact .mkM (h9.drop (lo * z)) (h10.drop lo) (by rw [cW];omega) (by omega) (by omega) λe=>by
    obtain ⟨k1,k2⟩:=h11 (D.txtL_sub (λx=>List.mem_of_mem_drop) e);exact ⟨k1,by rw [Nat.add_mul_mod_self_right];exact k2⟩
def VY:List Str:=[[97],[98],[120,48],[116,48],[102,95,49],[97,98,99,100,101,102,103,104,105,106,107,108],[110,111,119],[],[97,98,99,100,101,102,103,104,105,106,107,108,109],[95,120],[120,45,121]]
def nJ (n:UInt8):Str:=VY.getD (n.toNat % 11) []
theorem eN (n:UInt8):(nJ n).length<=13:=by
 have key:∀ i∈List.range 11,(VY.getD i []).length<=13:=by decide
 exact key _ (bY.2 (uK _ (by omega)))
def arR (k:Nat):Int:=if k<1\/23<k then -1 else if k<=5\/k=8 then 0 else if k=6\/k=7\/k=9\/k=10 then 1 else 2
theorem aB6 (k:Nat):-1<=arR k/\arR k<=2:=by unfold arR;split <;> (try split) <;> (try split) <;> omega
def uY (e:Ex):Bool:=decide (e.args.length<=3)
theorem tV (op:UInt8) (nm:Str) (n:Int64) (args:List Ex):uY (.mk op nm n args)=decide (args.length<=3):=rfl
def mH (c:UInt8):Bool:=decide (c=32) || decide (c=9) || decide (c=10) || decide (c=13)
def gD:Bool->Str->Str
 | _,[]=>[]
 | true,c::r=>if c=10 then gD false r else gD true r
 | false,c::r=>if mH c then gD false r else if c=47/\r.head? = some 47 then gD true r else c::r
theorem yI (b:Bool):gD b []=[]:=by cases b <;> rfl
variable {r:Str}
theorem aD6 {c:UInt8} (h:¬ c=10):gD true (c::r)=gD true r:=by rw [gD,aG h]
theorem aD5 (r:Str):gD true (10::r)=gD false (10::r):=by rw [gD,aL rfl,gD,aL (by decide)]
theorem NK {c:UInt8} (h:mH c=true):gD false (c::r)=gD false r:=by rw [gD,aL h]
theorem aD4 (r:Str):gD false (47::47::r)=gD true (47::47::r):=by simp [gD,mH]
theorem pZ {c:UInt8} (h:mH c=false) (h2:¬ (c=47/\r.head? = some 47)):gD false (c::r)=c::r:=by rw [gD,aG (by simp [h]),aG h2]
theorem vV:∀ (l:Str) (b:Bool),∃ p,l=p++gD b l
 | [],b=>⟨[],by rw [yI];rfl⟩
 | c::r,true=>by
  rw [gD]
  split
  ·obtain ⟨p,h⟩:=vV r false;exact ⟨c::p,by rw [aT,<-h]⟩
  ·obtain ⟨p,h⟩:=vV r true;exact ⟨c::p,by rw [aT,<-h]⟩
 | c::r,false=>by
  rw [gD]
  split
  ·obtain ⟨p,h⟩:=vV r false;exact ⟨c::p,by rw [aT,<-h]⟩
  ·split
   ·obtain ⟨p,h⟩:=vV r true;exact ⟨c::p,by rw [aT,<-h]⟩
   ·exact ⟨[],Z⟩
theorem nO (b:Bool) (l:Str):(gD b l).length<=l.length:=by
 obtain ⟨p,h⟩:=vV l b;have:=congrArg List.length h;rw [aF] at this;omega
theorem WR (b:Bool) (l:Str):l.drop (l.length - (gD b l).length)=gD b l:=by
 obtain ⟨p,h⟩:=vV l b;generalize gD b l=q at h;subst h;rw [show (p++q).length - q.length=p.length by rw [aF];omega,List.drop_left]
theorem vW {l:Str} (h:l≠[]):1<=(cI l).2/\(cI l).2<=l.length:=by
 match l,h with
 | c::r,_ =>
  have hp:∀ q:UInt8->Bool,q c=true->1<=pre q (c::r):=λq hq=>by unfold pre;rw [dT,hq];simp
  cases h1:pJ c with
  | true =>
   have h2:=hp jC (by simp [jC,h1]);have h3:=AW jC (c::r);cases h4:words.contains ((c::r).take (pre jC (c::r))) with
   | true=>simp only [cI,aV,h1,h4,bS];exact ⟨h2,h3⟩
   | false =>
    by_cases h5:pre jC (c::r)<=12
    ·simp only [cI,aV,h1,h4,h5,bS,aI,bL];exact ⟨h2,h3⟩
    ·simp only [cI,aV,h1,h4,h5,bS,aI,bL];simp
  | false =>
   cases h4:iX c with
   | true =>
    have h2:=hp iX h4;have h3:=AW iX (c::r)
    by_cases h5:pre iX (c::r)=1\/c≠48
    ·simp only [cI,aV,h1,h4,h5,bS,aI,bL];exact ⟨h2,h3⟩
    ·simp only [cI,aV,h1,h4,h5,bS,aI,bL];simp
   | false =>
    cases hx:symbols.find? (λx=>x.isPrefixOf (c::r)) with
    | none=>simp only [cI,aV,h1,h4,hx,aI,bL];simp
    | some x =>
     have hm:=List.mem_of_find?_eq_some hx;have hpx:=List.find?_some hx
     have hl:x.length<=(c::r).length:=by
      obtain ⟨t,ht⟩:=jB.1 hpx;rw [<-ht];simp
     have key:∀ y∈symbols,1<=y.length:=by decide
     simp only [cI,aV,h1,h4,hx,aI,bL];exact ⟨key x hm,hl⟩
theorem aE0 {c:UInt8} (h:(cI (c::r)).1=1):pJ c=true:=by
 cases h1:pJ c with
 | true=>rfl
 | false =>
  cases h4:iX c with
  | true =>
   by_cases h5:pre iX (c::r)=1\/c≠48
   ·simp only [cI,aV,h1,h4,h5,bS,aI,bL] at h;simp at h
   ·simp only [cI,aV,h1,h4,h5,bS,aI,bL] at h;simp at h
  | false =>
   cases hx:symbols.find? (λx=>x.isPrefixOf (c::r)) <;> simp only [cI,aV,h1,h4,hx,aI,bL] at h <;> simp at h
structure Tk where
 k:UInt8
 t:Str
 o:Nat
def dTk (k:IntKind) (x:Tk):D:=.str [.val (.int k x.k.toNat),.val (cH x.t),.val (iN x.o)]
def cTk (k:IntKind) (x:Tk):List Value:=[.int k x.k.toNat,cH x.t,iN x.o]
theorem PN {k:IntKind} {x:Tk} {cs:List Value} (h:Rep H (dTk k x) cs):cs=cTk k x/\x.t.length<=1000000:=by
 rw [dTk,TC] at h;obtain ⟨_,rfl,_,_,h⟩:=fB.1 h;obtain ⟨_,rfl,_,k0,h⟩:=fB.1 h;obtain ⟨_,rfl,_,_,h⟩:=fB.1 h;rw [uO] at h;subst h;exact ⟨Z,okS.1 k0⟩
theorem PM {k:IntKind} {x:Tk} (h:x.t.length<=1000000):Rep H (dTk k x) (cTk k x):=by
 rw [dTk,TC];exact fB.2 ⟨_,Z,Z,Jt,fB.2 ⟨_,Z,Z,okS.2 h,fB.2 ⟨_,Z,Z,Jt,uO.2 rfl⟩⟩⟩
def AS:Nat->Nat->Str->List Tk
 | 0,_,_=>[]
 | f+1,o,m=>if m=[] then [] else ⟨(cI m).1,m.take (cI m).2,o⟩::AS f (o+(m.length - (gD false (m.drop (cI m).2)).length)) (gD false (m.drop (cI m).2))
def wM (s:Str):List Tk:=AS (s.length+1) (s.length - (gD false s).length) (gD false s)
variable {m:Str}
theorem qN {f o:Nat} (h:m≠[]):AS (f+1) o m=⟨(cI m).1,m.take (cI m).2,o⟩::AS f (o+(m.length - (gD false (m.drop (cI m).2)).length)) (gD false (m.drop (cI m).2)):=by rw [AS,aG h]
theorem sS (f o:Nat):AS f o []=[]:=by cases f <;> simp [AS]
theorem GR:∀ (f g o:Nat) (m:Str),m.length<f->m.length<g->AS f o m=AS g o m
 | 0,_,_,_,h,_=>by omega
 | _,0,_,_,_,h=>by omega
 | f+1,g+1,o,m,h,k=>by
  by_cases h0:m=[]
  ·subst h0;rw [sS,sS]
  ·rw [qN h0,qN h0];have hr:=vW h0;have hs:=nO false (m.drop (cI m).2);rw [cW] at hs;rw [GR f g _ _ (by omega) (by omega)]
inductive Rs (α:Type) where
 | ok (a:α) (r:List Tk)
 | er (r:List Tk) (code:Nat)
def Rs.bind {α β:Type} (x:Rs α) (f:α->List Tk->Rs β):Rs β:=match x with | .ok a r=>f a r | .er r c=>.er r c
def isT (w:Str):List Tk->Bool
 | []=>false
 | t::_=>(t.k == 2 || t.k == 4) && decide (t.t=w)
def sK {α:Type} (w:Str) (r:List Tk) (f:List Tk->Rs α):Rs α:=if isT w r then f r.tail else .er r 8
def AH {α:Type} (r:List Tk) (f:Str->List Tk->Rs α):Rs α:=match r with | []=>.er r 8 | t::q=>if t.k=1 then f t.t q else .er r 8
def nY (s:Str):Nat:=s.foldl (λv c=>10 * v+(c.toNat - 48)) 0
def bO0:Nat->List (Str × UInt8)
 | 0=>[([111,114],23)]
 | 1=>[([97,110,100],22)]
 | 2=>[([61,61],16),([33,61],17),([60],18),([60,61],19),([62],20),([62,61],21)]
 | 3=>[([43],14),([45],15)]
 | _=>[([42],11),([47],12),([37],13)]
def opAt (lv:Nat) (r:List Tk):Option UInt8:=((bO0 lv).find? λx=>isT x.1 r).map (·.2)
inductive Md where
 | ex (lv:Nat)
 | lp (lv:Nat) (a:Ex)
def opE (op:UInt8) (l:List Ex):Ex:=.mk op [] 0 l
def qZ (rec:List Tk->Rs Ex) (r:List Tk):Rs Ex :=
 match r with
 | []=>.er r 8
 | t::q =>
  if t.k=3 then (if nY t.t<=9223372036854775807 then .ok (.mk 1 [] (Int64.ofNat (nY t.t)) []) q else .er r 2)
  else if isT [116,114,117,101] r then .ok (opE 2 []) q
  else if isT [102,97,108,115,101] r then .ok (opE 3 []) q
  else if isT [110,111,119] r then .ok (opE 4 []) q
  else if isT [115,105,122,101] r then AH q λs r2=>.ok (.mk 8 s 0 []) r2
  else if isT [40] r then (rec q).bind λx r2=>sK [41] r2 λr3=>.ok x r3
  else if isT [104,97,115] r then AH q λs r2=>sK [91] r2 λr3=>(rec r3).bind λx r4=>sK [93] r4 λr5=>.ok (.mk 7 s 0 [x]) r5
  else if t.k=1 then (if isT [91] q then (rec q.tail).bind λx r4=>sK [93] r4 λr5=>.ok (.mk 6 t.t 0 [x]) r5 else .ok (.mk 5 t.t 0 []) q)
  else .er r 8
def pE:Nat->Md->List Tk->Rs Ex
 | 0,_,r=>.er r 99
 | f+1,.ex lv,r =>
  if lv<5 then (pE f (.ex (lv+1)) r).bind λa r1=>pE f (.lp lv a) r1
  else if isT [45] r then (pE f (.ex 5) r.tail).bind λx r2=>.ok (opE 9 [x]) r2
  else if isT [110,111,116] r then (pE f (.ex 5) r.tail).bind λx r2=>.ok (opE 10 [x]) r2
  else qZ (pE f (.ex 0)) r
 | f+1,.lp lv a,r =>
  match opAt lv r with
  | none=>.ok a r
  | some op=>(pE f (.ex (lv+1)) r.tail).bind λb r2=>if lv=2 then .ok (opE op [a,b]) r2 else pE f (.lp lv (opE op [a,b])) r2
/-! ### Enough fuel -/
theorem ifC {α:Type} {c:Prop} [Decidable c] {x y u v:α} (h1:x=u) (h2:y=v):(if c then x else y)=(if c then u else v):=by rw [h1,h2]
theorem ifI {α:Type} {c d:Prop} [Decidable c] [Decidable d] {x y:α} (h:c↔d):(if c then x else y)=(if d then x else y):=by
 by_cases e:c
 ·rw [aL e,aL (h.1 e)]
 ·rw [aG e,aG (λk=>e (h.2 k))]
variable {w:Str}
theorem pK {r:List Tk} (h:isT w r=true):r.length=r.tail.length+1:=by cases r with | nil=>cases h | cons t q=>rfl
theorem QO {lv:Nat} {r:List Tk} {op:UInt8} (h:opAt lv r=some op):r.length=r.tail.length+1:=by
 unfold opAt at h;obtain ⟨x,hx,_⟩:=dV.1 h;exact pK (w:=x.1) (by have:=List.find?_some hx;exact this)
theorem Rs.bind_ok {α β:Type} {x:Rs α} {f:α->List Tk->Rs β} {b:β} {r:List Tk} (h:x.bind f=.ok b r):∃ a q,x=.ok a q/\f a q=.ok b r:=by
 cases x with
 | ok a q=>exact ⟨a,q,Z,h⟩
 | er q c=>cases h
theorem FI {α:Type} {r:List Tk} {f:List Tk->Rs α} {a:α} {q:List Tk} (h:sK w r f=.ok a q):isT w r=true/\f r.tail=.ok a q:=by
 unfold sK at h
 split at h
 ·rename_i e;exact ⟨e,h⟩
 ·cases h
theorem TV {α:Type} {r:List Tk} {f:Str->List Tk->Rs α} {a:α} {q:List Tk} (h:AH r f=.ok a q):∃ t r',r=t::r'/\t.k=1/\f t.t r'=.ok a q:=by
 unfold AH at h;cases r with
 | nil=>cases h
 | cons t r' =>
  by_cases e:t.k=1
  ·simp only [e,bS] at h;exact ⟨t,r',Z,e,h⟩
  ·simp only [e,bL] at h;cases h
theorem aE2 {rec:List Tk->Rs Ex} (hr:∀ q a r',rec q=.ok a r'->r'.length<=q.length) {r:List Tk} {a:Ex} {r':List Tk} (h:qZ rec r=.ok a r'):r'.length<r.length:=by
 unfold qZ at h;cases r with
 | nil=>cases h
 | cons t q =>
  simp only at h
  have fin:∀ {b:Ex} {l:List Tk},(Rs.ok b l:Rs Ex)=.ok a r'->l.length<=q.length->r'.length<(t::q).length:=by
   intro b l e hl;injection e with _ e;subst e;simp;omega
  split at h
  ·split at h
   ·exact fin h (aX _)
   ·cases h
  split at h
  ·exact fin h (aX _)
  split at h
  ·exact fin h (aX _)
  split at h
  ·exact fin h (aX _)
  split at h
  ·obtain ⟨t2,r2,rfl,_,h⟩:=TV h;exact fin h (by simp)
  split at h
  ·obtain ⟨x,r2,h1,h⟩:=Rs.bind_ok h;obtain ⟨h2,h⟩:=FI h;have:=hr _ _ _ h1;have:=pK h2;exact fin h (by omega)
  split at h
  ·obtain ⟨t2,r2,rfl,_,h⟩:=TV h;obtain ⟨h2,h⟩:=FI h;obtain ⟨x,r4,h1,h⟩:=Rs.bind_ok h;obtain ⟨h3,h⟩:=FI h;have:=hr _ _ _ h1;have:=pK h2;have:=pK h3;exact fin h (by simp;omega)
  split at h
  ·split at h
   ·rename_i h2;obtain ⟨x,r4,h1,h⟩:=Rs.bind_ok h;obtain ⟨h3,h⟩:=FI h;have:=hr _ _ _ h1;have:=pK h2;have:=pK h3;exact fin h (by omega)
   ·exact fin h (aX _)
  ·cases h
theorem AX:∀ (f:Nat),(∀ lv r a r',pE f (.ex lv) r=.ok a r'->r'.length<r.length)/\(∀ lv x r a r',pE f (.lp lv x) r=.ok a r'->r'.length<=r.length)
 | 0=>⟨λ_ _ _ _ h=>(by cases h),λ_ _ _ _ _ h=>(by cases h)⟩
 | f+1=>by
  obtain ⟨ih1,ih2⟩:=AX f;refine ⟨λlv r a r' h=>?_,λlv x r a r' h=>?_⟩
  ·unfold pE at h
   split at h
   ·obtain ⟨b,q,h1,h2⟩:=Rs.bind_ok h;have:=ih1 _ _ _ _ h1;have:=ih2 _ _ _ _ _ h2;omega
   split at h
   ·rename_i e;obtain ⟨b,q,h1,h2⟩:=Rs.bind_ok h;have:=ih1 _ _ _ _ h1;have:=pK e;injection h2 with _ e2;subst e2;omega
   split at h
   ·rename_i e;obtain ⟨b,q,h1,h2⟩:=Rs.bind_ok h;have:=ih1 _ _ _ _ h1;have:=pK e;injection h2 with _ e2;subst e2;omega
   ·exact aE2 (λq b r2 e=>oV (ih1 _ _ _ _ e)) h
  ·unfold pE at h
   split at h
   ·injection h with _ e;subst e;exact aX _
   ·rename_i op e;obtain ⟨b,q,h1,h2⟩:=Rs.bind_ok h;have:=ih1 _ _ _ _ h1;have:=QO e
    split at h2
    ·injection h2 with _ e2;subst e2;omega
    ·have:=ih2 _ _ _ _ _ h2;omega
theorem Rs.bind_congr {α β:Type} {x y:Rs α} {f g:α->List Tk->Rs β} (h:x=y) (k:∀ a r,x=.ok a r->f a r=g a r):x.bind f=y.bind g:=by
 subst h;cases x with
 | ok a r=>exact k a r rfl
 | er r c=>rfl
theorem IE {rec rec':List Tk->Rs Ex} {r:List Tk} (h:∀ q,q.length<r.length->rec q=rec' q):qZ rec r=qZ rec' r:=by
 unfold qZ;cases r with
 | nil=>rfl
 | cons t q =>
  have hb:∀ (z:List Tk) (g:Ex->List Tk->Rs Ex),z.length<=q.length->(rec z).bind g=(rec' z).bind g:=λz g hz=>by rw [h z (by simp;omega)]
  have ht:∀ z:List Tk,z.tail.length<=z.length:=λz=>by simp
  simp only;rw [hb q _ (aX _),hb q.tail _ (ht q)];refine ifC rfl (ifC rfl (ifC rfl (ifC rfl (ifC rfl (ifC rfl (ifC ?_ rfl))))));unfold AH;cases q with
  | nil=>rfl
  | cons t2 r2 =>
   simp only;refine ifC ?_ rfl;unfold sK;refine ifC ?_ rfl;exact hb _ _ (by simp;omega)
def tP:Md->List Tk->Nat
 | .ex lv,r=>16 * r.length+9 - lv
 | .lp _ _,r=>16 * r.length+9
theorem TO (f lv:Nat) (r:List Tk):pE (f+1) (.ex lv) r=if lv<5 then (pE f (.ex (lv+1)) r).bind λa r1=>pE f (.lp lv a) r1
 else if isT [45] r then (pE f (.ex 5) r.tail).bind λx r2=>.ok (opE 9 [x]) r2
 else if isT [110,111,116] r then (pE f (.ex 5) r.tail).bind λx r2=>.ok (opE 10 [x]) r2
 else qZ (pE f (.ex 0)) r:=by rw [pE]
theorem TN (f lv:Nat) (a:Ex) (r:List Tk):pE (f+1) (.lp lv a) r=match opAt lv r with
 | none=>.ok a r
 | some op=>(pE f (.ex (lv+1)) r.tail).bind λb r2=>if lv=2 then .ok (opE op [a,b]) r2 else pE f (.lp lv (opE op [a,b])) r2:=by rw [pE]
theorem QN:∀ (f:Nat),(∀ lv r,lv<=5->tP (.ex lv) r<=f->pE (f+1) (.ex lv) r=pE f (.ex lv) r)/\(∀ lv x r,lv<=4->tP (.lp lv x) r<=f->pE (f+1) (.lp lv x) r=pE f (.lp lv x) r)
 | 0=>⟨λlv r h1 h=>by simp only [tP] at h;omega,λlv x r h1 h=>by simp only [tP] at h;omega⟩
 | f+1=>by
  obtain ⟨ih1,ih2⟩:=QN f;simp only [tP] at ih1 ih2|-;refine ⟨λlv r h5 h=>?_,λlv x r h4 h=>?_⟩
  ·rw [TO (f+1) lv r,TO f lv r]
   by_cases hlv:lv<5
   ·rw [aL hlv,aL hlv];refine Rs.bind_congr (ih1 _ _ (by omega) (by omega)) λa q e=>?_;have:=(AX (f+1)).1 _ _ _ _ e;exact ih2 _ _ _ (by omega) (by omega)
   rw [aG hlv,aG hlv]
   by_cases e:isT [45] r=true
   ·have:=pK e;rw [aL e,aL e];exact Rs.bind_congr (ih1 _ _ (by omega) (by omega)) λ_ _ _=>rfl
   rw [aG e,aG e]
   by_cases e:isT [110,111,116] r=true
   ·have:=pK e;rw [aL e,aL e];exact Rs.bind_congr (ih1 _ _ (by omega) (by omega)) λ_ _ _=>rfl
   rw [aG e,aG e];exact IE λq hq=>ih1 _ _ (by omega) (by omega)
  ·rw [TN (f+1) lv x r,TN f lv x r];cases e:opAt lv r with
   | none=>rfl
   | some op =>
    simp only;have:=QO e;refine Rs.bind_congr (ih1 _ _ (by omega) (by omega)) λa q e=>?_;have:=(AX (f+1)).1 _ _ _ _ e;refine ifC rfl ?_;exact ih2 _ _ _ (by omega) (by omega)
variable {g:Nat}
theorem ZI {f lv:Nat} {r:List Tk} (h5:lv<=5) (h:tP (.ex lv) r<=f) (hg:f<=g):pE g (.ex lv) r=pE f (.ex lv) r:=by
 induction g with
 | zero => have : f = 0 := by omega
           rw [this]
 | succ g ih =>
  by_cases e:f=g+1
  ·rw [e]
  ·rw [(QN g).1 lv r h5 (by omega)];exact ih (by omega)
theorem TM {f lv:Nat} {a:Ex} {r:List Tk} (h5:lv<=4) (h:tP (.lp lv a) r<=f) (hg:f<=g):pE g (.lp lv a) r=pE f (.lp lv a) r:=by
 induction g with
 | zero => have : f = 0 := by omega
           rw [this]
 | succ g ih =>
  by_cases e:f=g+1
  ·rw [e]
  ·rw [(QN g).2 lv a r h5 (by omega)];exact ih (by omega)
def pX (lv:Nat) (r:List Tk):Rs Ex:=pE (16 * r.length+9) (.ex lv) r
def pL (lv:Nat) (a:Ex) (r:List Tk):Rs Ex:=pE (16 * r.length+9) (.lp lv a) r
theorem TL {f lv:Nat} {r:List Tk} (h5:lv<=5) (h:tP (.ex lv) r<=f):pE f (.ex lv) r=pX lv r:=by
 unfold pX;rcases Nat.le_total f (16 * r.length+9) with h1 | h1
 ·rw [ZI h5 h h1]
 ·rw [ZI h5 (by simp only [tP];omega) h1]
theorem bK9 {f lv:Nat} {a:Ex} {r:List Tk} (h5:lv<=4) (h:tP (.lp lv a) r<=f):pE f (.lp lv a) r=pL lv a r:=by
 unfold pL;rcases Nat.le_total f (16 * r.length+9) with h1 | h1
 ·rw [TM h5 h h1]
 ·rw [TM h5 (by simp only [tP];omega) h1]
theorem QM {lv:Nat} {r:List Tk} (h:lv<5):pX lv r=(pX (lv+1) r).bind λa q=>pL lv a q:=by
 conv=>lhs;unfold pX
 rw [show 16 * r.length+9=(16 * r.length+8)+1 by omega,TO,aL h];refine Rs.bind_congr (TL (by omega) (by simp only [tP];omega)) λa q e=>?_;have:=(AX _).1 _ _ _ _ e;exact bK9 (by omega) (by simp only [tP];omega)
theorem CW {r:List Tk} :pX 5 r=if isT [45] r then (pX 5 r.tail).bind λx r2=>.ok (opE 9 [x]) r2 else if isT [110,111,116] r then (pX 5 r.tail).bind λx r2=>.ok (opE 10 [x]) r2 else qZ (pX 0) r:=by
 conv=>lhs;unfold pX
 rw [show 16 * r.length+9=(16 * r.length+8)+1 by omega,TO,aG (by omega)]
 by_cases e:isT [45] r=true
 ·have:=pK e;rw [aL e,aL e];exact Rs.bind_congr (TL (by omega) (by simp only [tP];omega)) λ_ _ _=>rfl
 rw [aG e,aG e]
 by_cases e:isT [110,111,116] r=true
 ·have:=pK e;rw [aL e,aL e];exact Rs.bind_congr (TL (by omega) (by simp only [tP];omega)) λ_ _ _=>rfl
 rw [aG e,aG e];exact IE λq hq=>TL (by omega) (by simp only [tP];omega)
theorem BW {lv:Nat} {a:Ex} {r:List Tk} (h:opAt lv r=none):pL lv a r=.ok a r:=by
 unfold pL;rw [show 16 * r.length+9=(16 * r.length+8)+1 by omega,TN];rw [h]
theorem ZH {lv:Nat} {a:Ex} {r:List Tk} {op:UInt8} (hl:lv<=4) (h:opAt lv r=some op):pL lv a r=(pX (lv+1) r.tail).bind λb r2=>if lv=2 then .ok (opE op [a,b]) r2 else pL lv (opE op [a,b]) r2:=by
 conv=>lhs;unfold pL
 rw [show 16 * r.length+9=(16 * r.length+8)+1 by omega,TN];rw [h];have:=QO h;refine Rs.bind_congr (TL (by omega) (by simp only [tP];omega)) λb q e=>?_;have:=(AX _).1 _ _ _ _ e;refine ifC rfl ?_;exact bK9 hl (by simp only [tP];omega)
def zE:Ex:=.mk 0 [] 0 []
def zF:Fm:=.mk 0 [] [] 0 0 [] []
structure Ov where
 kd:UInt8
 lv:Nat
 tm:Bool
 op:UInt8
 f:Fm
structure Vl where
 tm:Bool
 wh:Bool
 e:Ex
 f:Fm
structure Rq where
 i:Nat
 off:Nat
 er:Nat
abbrev Vb:=List Vl × Bool
structure Ps where
 c:Rq
 op:List Ov
 x:Vb
 rd:Bool
 dn:Bool
abbrev Tks:=List Tk
def zV:Vl:=⟨false,false,zE,zF⟩
def bO:Ov:=⟨1,0,false,0,zF⟩
section
variable (l:Tks)
def tkf (i:Nat):Tk:=l.getD i ⟨0,[],0⟩
def Rq.fail (c:Nat) (q:Rq):Rq:=if q.er=0 then ⟨q.i,(tkf l q.i).o,c⟩ else q
def Rq.is (w:Str) (q:Rq):Bool:=(decide ((tkf l q.i).k=2) || decide ((tkf l q.i).k=4)) && decide ((tkf l q.i).t=w)
def Rq.ac (w:Str) (q:Rq):Bool:=decide (q.er=0) && q.is l w
def Rq.nx (q:Rq):Rq:=⟨q.i+1,q.off,q.er⟩
def Rq.acS (w:Str) (q:Rq):Rq:=if q.ac l w then q.nx else q
def Rq.exS (w:Str) (q:Rq):Rq:=if q.ac l w then q.nx else q.fail l 8
def Rq.nmK (q:Rq):Bool:=decide (q.er=0) && decide ((tkf l q.i).k=1)
def Rq.nmV (q:Rq):Str:=if q.nmK l then (tkf l q.i).t else []
def Rq.nmS (q:Rq):Rq:=if q.nmK l then q.nx else q.fail l 8
def Rq.nbB (q:Rq):Bool:=decide (q.er=0) && decide ((tkf l q.i).k=3)
def Rq.fit (q:Rq):Bool:=decide (nY (tkf l q.i).t<=9223372036854775807)
def Rq.nbV (q:Rq):Int64:=if q.nbB l && q.fit l then Int64.ofNat (nY (tkf l q.i).t) else 0
def Rq.nbS (q:Rq):Rq:=if q.nbB l then (if q.fit l then q.nx else q.fail l 2) else q.fail l 8
def Rq.paS (q:Rq):Rq:=((q.nmS l).exS l [46]).nmS l
def Rq.paN (q:Rq):Str:=q.nmV l
def Rq.paF (q:Rq):Str:=((q.nmS l).exS l [46]).nmV l
def Rq.paV (op:UInt8) (q:Rq):Fm:=.mk op (q.paN l) (q.paF l) 0 0 [] []
def Rq.wiA (q:Rq):Int64:=if q.ac l [91] then q.nx.nbV l else 0
def Rq.wiB (q:Rq):Int64:=if q.ac l [91] then ((q.nx.nbS l).exS l [44]).nbV l else -1
def Rq.wiS (q:Rq):Rq:=if q.ac l [91] then (((q.nx.nbS l).exS l [44]).nbS l).exS l [93] else q
def Rq.wiV (op:UInt8) (q:Rq):Fm:=.mk op [] [] (q.wiA l) (q.wiB l) [] []
def Rq.boV (q:Rq):Int64:=if q.ac l [45] then -(q.nx.nbV l) else q.nbV l
def Rq.boS (q:Rq):Rq:=if q.ac l [45] then q.nx.nbS l else q.nbS l
def Rq.ama (q:Rq):Rq:=(q.nmS l).exS l [105,110]
def Rq.amb (q:Rq):Rq:=((q.ama l).boS l).exS l [46,46]
def Rq.amV (op:UInt8) (q:Rq):Fm:=.mk op (q.nmV l) [] ((q.ama l).boV l) ((q.amb l).boV l) [] []
def Rq.amS (q:Rq):Rq:=(q.amb l).boS l
end
def dM (q:Ps):Ov:=q.op.headD bO
def rC (x:Vb):Vl:=x.1.headD zV
def Ps.at (c:Rq) (q:Ps):Ps:=⟨c,q.op,q.x,q.rd,q.dn⟩
def Ov.inh (o:Ov) (b:Bool):Ov:=if 0<o.lv then ⟨o.kd,o.lv,b,o.op,o.f⟩ else o
def fK (o:Ov) (q:Ps):Ps:=⟨q.c,o.inh (dM q).tm::q.op,q.x,false,q.dn⟩
def iF (v:Vl) (q:Ps):Ps:=⟨q.c,q.op,(v::q.x.1,q.x.2),true,q.dn⟩
def tE (x:Vb):Ex:=(rC x).e
def tS (x:Vb):Vb:=(x.1.tail,x.2 || !(rC x).tm)
def Vl.noF (v:Vl):Bool:=v.tm && (!decide (v.e.op=5) || (eJ v.e.nm).isNone)
def spA (n:Str):Str:=match eJ n with | some (a,_)=>a | none=>[]
def spB (n:Str):Str:=match eJ n with | some (_,b)=>b | none=>[]
def Vl.fm (v:Vl):Fm:=if v.tm then .mk 4 (spA v.e.nm) (spB v.e.nm) 0 0 [] [] else v.f
def fF (x:Vb):Fm:=(rC x).fm
def fS (x:Vb):Vb:=(x.1.tail,x.2 || (rC x).noF)
def tmv (e:Ex):Vl:=⟨true,false,e,zF⟩
def fmv (f:Fm):Vl:=⟨false,false,zE,f⟩
def Fm.wEx (f:Fm) (ex:List Ex):Fm:=.mk f.op f.nm f.fd f.a f.b ex f.args
def Fm.wAr (f:Fm) (args:List Fm):Fm:=.mk f.op f.nm f.fd f.a f.b f.ex args
def Vb.put (v:Vl) (x:Vb):Vb:=(v::x.1,x.2)
def vB (o:Ov) (x:Vb):Vb :=
 if o.kd=10 then (tS x).put (tmv (.mk 9 [] 0 [tE x]))
 else if o.kd=9 then (tS (tS x)).put (tmv (.mk o.op [] 0 [tE (tS x),tE x]))
 else if o.kd=8 then (tS (tS x)).put (fmv (.mk 3 [] [] 0 0 [.mk o.op [] 0 [tE (tS x),tE x]] []))
 else if o.kd=7 then (fS x).put (fmv (o.f.wAr [fF x]))
 else if o.kd=6 then (fS (fS x)).put (fmv (o.f.wAr [fF (fS x),fF x]))
 else x
def wI (lv:Nat):List Ov->Vb->List Ov × Vb
 | [],x=>([],x)
 | o::r,x=>if lv<=o.lv then wI lv r (vB o x) else (o::r,x)
def jP (lv:Nat) (q:Ps):Ps:=⟨q.c,(wI lv q.op q.x).1,(wI lv q.op q.x).2,q.rd,q.dn⟩
section
variable (l:Tks)
def mJ (q:Ps):Option Ps :=
 if q.c.ac l [110,111,116] then some (fK ⟨7,5,false,0,.mk 8 [] [] 0 0 [] []⟩ (q.at q.c.nx))
 else if q.c.ac l [112,114,101,118,105,111,117,115] then some (fK ⟨7,5,false,0,.mk 12 [] [] 0 0 [] []⟩ (q.at q.c.nx))
 else if q.c.ac l [111,110,99,101] then some (fK ⟨7,5,false,0,q.c.nx.wiV l 13⟩ (q.at (q.c.nx.wiS l)))
 else if q.c.ac l [97,108,119,97,121,115] then some (fK ⟨7,5,false,0,q.c.nx.wiV l 14⟩ (q.at (q.c.nx.wiS l)))
 else if q.c.ac l [102,111,114,97,108,108] then some (fK ⟨7,5,false,0,q.c.nx.amV l 16⟩ (q.at (q.c.nx.amS l)))
 else if q.c.ac l [101,120,105,115,116,115] then some (fK ⟨7,5,false,0,q.c.nx.amV l 17⟩ (q.at (q.c.nx.amS l)))
 else if q.c.ac l [99,111,117,110,116] then some (fK ⟨3,0,false,0,q.c.nx.amV l 18⟩ (q.at ((q.c.nx.amS l).exS l [40])))
 else none
def Rq.ful (q:Rq):Str:=q.nmV l++[46]++(q.nmS l).nx.nmV l
def vQ (q:Ps):Ps :=
 if (q.c.nmS l).ac l [46] then
  if ((q.c.nmS l).nx.nmS l).ac l [91] then fK ⟨4,0,true,6,.mk 0 (q.c.ful l) [] 0 0 [] []⟩ (q.at ((q.c.nmS l).nx.nmS l).nx)
  else iF (tmv (.mk 5 (q.c.ful l) 0 [])) (q.at ((q.c.nmS l).nx.nmS l))
 else iF (tmv (.mk 5 (q.c.nmV l) 0 [])) (q.at (q.c.nmS l))
def yP (q:Ps):Ps :=
 if ((q.c.paS l).exS l [40]).ac l [41] then iF (fmv (q.c.paV l 7)) (q.at ((q.c.paS l).exS l [40]).nx)
 else fK ⟨5,0,true,0,q.c.paV l 7⟩ (q.at ((q.c.paS l).exS l [40]))
def xY (q:Ps):Bool:=!(dM q).tm && decide ((dM q).lv<=5)
def pW (q:Ps):Ps :=
 if q.c.ac l [45] then fK ⟨10,9,false,0,zF⟩ (q.at q.c.nx)
 else if q.c.ac l [40] then fK ⟨2,0,false,0,zF⟩ (q.at q.c.nx)
 else if (tkf l q.c.i).k=3 then iF (tmv (.mk 1 [] (q.c.nbV l) [])) (q.at (q.c.nbS l))
 else if (tkf l q.c.i).k=1 then vQ l q
 else if q.c.ac l [110,111,119] then iF (tmv (.mk 4 [] 0 [])) (q.at q.c.nx)
 else if q.c.ac l [115,105,122,101] then iF (tmv (.mk 8 (q.c.nx.paN l++[46]++q.c.nx.paF l) 0 [])) (q.at (q.c.nx.paS l))
 else if q.c.ac l [116,114,117,101] then iF (fmv (.mk 1 [] [] 0 0 [] [])) (q.at q.c.nx)
 else if q.c.ac l [102,97,108,115,101] then iF (fmv (.mk 2 [] [] 0 0 [] [])) (q.at q.c.nx)
 else if q.c.ac l [102,108,97,103] then iF (fmv (.mk 6 (q.c.nx.nmV l) [] 0 0 [] [])) (q.at (q.c.nx.nmS l))
 else if q.c.ac l [104,97,115] then fK ⟨4,0,true,0,q.c.nx.paV l 5⟩ (q.at ((q.c.nx.paS l).exS l [91]))
 else if q.c.ac l [97,114,114,105,118,101,115] then yP l (q.at q.c.nx)
 else q.at (q.c.fail l 8)
def wH (q:Ps):Ps:=if (dM q).kd=5/\q.c.ac l [95]=true then iF ⟨true,true,zE,zF⟩ (q.at q.c.nx) else pW l q
def dU (q:Ps):Ps:=match (if xY q then mJ l q else none) with | some q'=>q' | none=>wH l q
def lT:List Str:=[[],[],[],[],[],[],[],[],[],[],[],[42],[47],[37],[43],[45],[61,61],[33,61],[60],[60,61],[62],[62,61]]
def rK (op:UInt8) (q:Ps):Ps :=
 if 16<=op then
  (if (rC q.x).wh || (dM (jP 7 q)).tm || decide ((dM (jP 7 q)).kd=8) then (jP 7 q).at (q.c.fail l 8) else fK ⟨8,6,false,op,zF⟩ ((jP 7 q).at q.c.nx))
 else if op<=13 then
  (if (rC q.x).wh then (jP 8 q).at (q.c.fail l 8) else fK ⟨9,8,false,op,zF⟩ ((jP 8 q).at q.c.nx))
 else (if (rC q.x).wh then (jP 7 q).at (q.c.fail l 8) else fK ⟨9,7,false,op,zF⟩ ((jP 7 q).at q.c.nx))
def Rq.joV (q:Rq):Fm:=if q.ac l [115,105,110,99,101] then q.nx.wiV l 15 else if q.ac l [97,110,100] then .mk 9 [] [] 0 0 [] [] else if q.ac l [111,114] then .mk 10 [] [] 0 0 [] [] else if q.ac l [105,109,112,108,105,101,115] then .mk 11 [] [] 0 0 [] [] else zF
def Rq.joS (q:Rq):Rq:=if q.ac l [115,105,110,99,101] then q.nx.wiS l else if q.ac l [97,110,100] then q.nx else if q.ac l [111,114] then q.nx else if q.ac l [105,109,112,108,105,101,115] then q.nx else q
def wQ (q:Ps):Ps:=if (dM q).tm then q.at (q.c.fail l 8) else fK ⟨6,(cJ (q.c.joV l).op).lv,false,0,q.c.joV l⟩ (jP (cJ (q.c.joV l).op).lv (q.at (q.c.joS l)))
def GA (c:Rq) (v:Vl) (x:Vb) (q:Ps):Ps:=⟨c,q.op.tail,x.put v,true,q.dn⟩
def lV (q:Ps):Ps :=
 if (dM q).kd=1/\(tkf l q.c.i).k=0 then ⟨q.c,q.op,q.x,q.rd,true⟩
 else if (dM q).kd=2/\q.c.ac l [41]=true then GA q.c.nx ⟨(rC q.x).tm,false,(rC q.x).e,(rC q.x).f⟩ (q.x.1.tail,q.x.2) q
 else if (dM q).kd=3/\q.c.ac l [41]=true then
  GA ((q.c.nx.exS l [62,61]).nbS l) ⟨false,true,zE,((dM q).f.wEx [.mk 1 [] ((q.c.nx.exS l [62,61]).nbV l) []]).wAr [fF q.x]⟩ (fS q.x) q
 else if (dM q).kd=4/\q.c.ac l [93]=true then
  (if (dM q).op=6 then GA q.c.nx (tmv (.mk 6 (dM q).f.nm 0 [tE q.x])) (tS q.x) q
  else GA q.c.nx (fmv ((dM q).f.wEx [tE q.x])) (tS q.x) q)
 else if (dM q).kd=5/\q.c.ac l [44]=true then
  ⟨q.c.nx,⟨(dM q).kd,(dM q).lv,(dM q).tm,(dM q).op,(dM q).f.wEx ((dM q).f.ex++[tE q.x])⟩::q.op.tail,tS q.x,false,q.dn⟩
 else if (dM q).kd=5/\q.c.ac l [41]=true then GA q.c.nx (fmv ((dM q).f.wEx ((dM q).f.ex++[tE q.x]))) (tS q.x) q
 else q.at (q.c.fail l 8)
def aD1 (t:Str):Option Nat:=(List.range 22).find? λi=>decide (lT.getD i []=t) && decide (¬ i=0)
def Rq.endB (q:Rq):Bool:=q.is l [41] || q.is l [93] || q.is l [44] || decide ((tkf l q.i).k=0)
def Rq.wrd (q:Rq):Bool:=q.is l [115,105,110,99,101] || q.is l [97,110,100] || q.is l [111,114] || q.is l [105,109,112,108,105,101,115]
def qC (q:Ps):Ps:=if q.c.wrd l then wQ l q else if q.c.endB l then lV l (jP 1 q) else q.at (q.c.fail l 8)
def Rq.sym (q:Rq):Option Nat:=if (tkf l q.i).k=2\/(tkf l q.i).k=4 then aD1 (tkf l q.i).t else none
def fJ (q:Ps):Ps:=match q.c.sym l with | some i=>rK l (UInt8.ofNat i) q | none=>qC l q
def kM (q:Ps):Ps:=if q.rd then fJ l q else dU l q
def Ps.fin (q:Ps):Prop:=q.dn=true\/¬ q.c.er=0
instance (q:Ps):Decidable q.fin:=by unfold Ps.fin;infer_instance
def AU:Nat->Ps->Ps
 | 0,q=>q
 | n+1,q=>if q.fin then q else AU n (kM l q)
def LB:Ps:=⟨⟨0,0,0⟩,[bO],([],false),false,false⟩
def HM (q:Ps):Fm × Nat × Nat :=
 if ¬ q.c.er=0 then (zF,q.c.off,q.c.er)
 else if (fS q.x).2 then (zF,0,6)
 else if ¬ fN (fF q.x)=0 then (zF,0,fN (fF q.x))
 else (fF q.x,0,0)
def AO:Fm × Nat × Nat:=HM (AU l l.length LB)
end
def aZ9 (l:Tks):Prop:=∀ i,i<l.length->(tkf l i).k≠0->i+1<l.length
section
variable {l:Tks} {q:Rq} {w:Str} {c:Nat}
theorem DZ:(q.fail l c).i=q.i:=by unfold Rq.fail;split <;> rfl
theorem cA5 (h:q.is l w=true):(tkf l q.i).k≠0:=by
 unfold Rq.is at h;rw [aE,bC,aD,aD] at h;rcases h.1 with e | e <;> rw [e] <;> decide
theorem RV (h:q.ac l w=true):q.is l w=true:=by unfold Rq.ac at h;rw [aE] at h;exact h.2
theorem jE (h:q.ac l w=true):q.er=0:=by unfold Rq.ac at h;rw [aE,aD] at h;exact h.1
theorem VK (h:q.ac l w=true):(tkf l q.i).t=w:=by
 have:=RV h;unfold Rq.is at this;rw [aE,aD] at this;exact this.2
theorem VL (h:q.ac l w=true):(tkf l q.i).k=2\/(tkf l q.i).k=4:=by
 have:=RV h;unfold Rq.is at this;rw [aE,bC,aD,aD] at this;exact this.1
structure Mq (q q':Rq):Prop where
 i:q.i<=q'.i
 er:q.er≠0->q'=q
theorem Mq.refl (q:Rq):Mq q q:=⟨aX _,λ_=>rfl⟩
theorem Mq.trans {a b c:Rq} (h:Mq a b) (k:Mq b c):Mq a c:=⟨bD h.i k.i,λe=>by have:=h.er e;subst this;exact k.er e⟩
theorem Mq.nx (h:q.er=0):Mq q q.nx:=⟨Nat.le_succ _,λe=>absurd h e⟩
theorem Mq.fail:Mq q (q.fail l c):=⟨by rw [DZ];exact aX _,λe=>by unfold Rq.fail;rw [aG e]⟩
theorem Mq.exS:Mq q (q.exS l w):=by
 unfold Rq.exS
 split
 ·rename_i h;exact .nx (jE h)
 ·exact .fail
theorem QT (h:q.nmK l=true):q.er=0/\(tkf l q.i).k=1:=by
 unfold Rq.nmK at h;rw [aE,aD,aD] at h;exact h
theorem QU (h:q.nbB l=true):q.er=0/\(tkf l q.i).k=3:=by
 unfold Rq.nbB at h;rw [aE,aD,aD] at h;exact h
theorem Mq.nmS:Mq q (q.nmS l):=by
 unfold Rq.nmS
 split
 ·rename_i h;exact .nx (QT h).1
 ·exact .fail
theorem Mq.nbS:Mq q (q.nbS l):=by
 unfold Rq.nbS
 split
 ·rename_i h
  split
  ·exact .nx (QU h).1
  ·exact .fail
 ·exact .fail
theorem Mq.paS:Mq q (q.paS l):=(Mq.nmS.trans .exS).trans .nmS
theorem Mq.wiS:Mq q (q.wiS l):=by
 unfold Rq.wiS
 split
 ·rename_i h;exact (((Mq.nx (jE h)).trans .nbS).trans .exS).trans (.trans .nbS .exS)
 ·exact .refl q
theorem Mq.boS:Mq q (q.boS l):=by
 unfold Rq.boS
 split
 ·rename_i h;exact (Mq.nx (jE h)).trans .nbS
 ·exact .nbS
theorem Mq.ama:Mq q (q.ama l):=Mq.nmS.trans .exS
theorem Mq.amb:Mq q (q.amb l):=(Mq.ama.trans .boS).trans .exS
theorem Mq.amS:Mq q (q.amS l):=Mq.amb.trans .boS
theorem Mq.joS:Mq q (q.joS l):=by
 unfold Rq.joS
 split
 ·rename_i h;exact (Mq.nx (jE h)).trans .wiS
 split
 ·rename_i h;exact .nx (jE h)
 split
 ·rename_i h;exact .nx (jE h)
 split
 ·rename_i h;exact .nx (jE h)
 exact .refl q
variable (T:aZ9 l) (hq:q.i<l.length)
include T hq
theorem dC (h:q.ac l w=true):q.nx.i<l.length:=T _ hq (cA5 (RV h))
theorem kL:(q.exS l w).i<l.length:=by
 unfold Rq.exS
 split
 ·rename_i h;exact dC T hq h
 ·rw [DZ];exact hq
theorem WA (h:q.nmK l=true):q.nx.i<l.length:=T _ hq (by rw [(QT h).2];decide)
theorem kE:(q.nmS l).i<l.length:=by
 unfold Rq.nmS
 split
 ·rename_i h;exact WA T hq h
 ·rw [DZ];exact hq
theorem xH:(q.nbS l).i<l.length:=by
 unfold Rq.nbS
 split
 ·rename_i h
  split
  ·exact T _ hq (by rw [(QU h).2];decide)
  ·rw [DZ];exact hq
 ·rw [DZ];exact hq
theorem yF:(q.paS l).i<l.length:=kE T (kL T (kE T hq))
theorem JS:(q.wiS l).i<l.length:=by
 unfold Rq.wiS
 split
 ·rename_i h;exact kL T (xH T (kL T (xH T (dC T hq h))))
 ·exact hq
theorem YV:(q.boS l).i<l.length:=by
 unfold Rq.boS
 split
 ·rename_i h;exact xH T (dC T hq h)
 ·exact xH T hq
theorem bM4:(q.ama l).i<l.length:=kL T (kE T hq)
theorem bM3:(q.amb l).i<l.length:=kL T (YV T (bM4 T hq))
theorem JT:(q.amS l).i<l.length:=YV T (bM3 T hq)
theorem bT3:(q.joS l).i<l.length:=by
 unfold Rq.joS
 split
 ·rename_i h;exact JS T (dC T hq h)
 split
 ·rename_i h;exact dC T hq h
 split
 ·rename_i h;exact dC T hq h
 split
 ·rename_i h;exact dC T hq h
 exact hq
end
def cnO (o:Ov):Bool:=decide (o.kd=6) || decide (o.kd=8) || decide (o.kd=9)
def CU (l:List Ov):Nat:=(l.filter cnO).length
def okO (o:Ov):Bool:=decide (2<=o.kd.toNat) && decide (o.kd.toNat<=10) && (decide (5<o.kd.toNat) == decide (0<o.lv))
structure Fwf (l:Tks) (q:Ps):Prop where
 i:q.c.i<l.length
 op:∃ r,q.op=r++[bO]/\∀ o∈r,okO o=true
 vs:q.x.1.length=CU q.op+(if q.rd then 1 else 0)
 so:q.op.length<=q.c.i+1
section
variable {l:Tks} {q:Ps} {w:Str} {c:Nat} {o:Ov} {b:Bool}
theorem rV (o:Ov) (r:List Ov):CU (o::r)=(if cnO o then 1 else 0)+CU r:=by unfold CU;rw [List.filter_cons];split <;> simp [Nat.add_comm]
theorem aT5:(o.inh b).kd=o.kd:=by unfold Ov.inh;split <;> rfl
theorem bQ1:(o.inh b).lv=o.lv:=by unfold Ov.inh;split <;> rfl
theorem bL8:(o.inh b).f=o.f:=by unfold Ov.inh;split <;> rfl
theorem bQ0:okO (o.inh b)=okO o:=by unfold okO;rw [aT5,bQ1]
theorem bQ2:cnO (o.inh b)=cnO o:=by unfold cnO;rw [aT5]
theorem bA6 {c:Rq} (h:Fwf l q) (hc:c.i<l.length) (hi:q.c.i<c.i) (ho:okO o=true) (hr:cnO o=q.rd):Fwf l (fK o (q.at c)):=by
 obtain ⟨r,e,hr2⟩:=h.op;refine ⟨hc,⟨o.inh (dM q).tm::r,?_,?_⟩,?_,?_⟩
 ·show _::q.op=_;rw [e];rfl
 ·intro x hx;rcases bM.1 hx with rfl | hx
  ·rw [bQ0];exact ho
  ·exact hr2 x hx
 ·show q.x.1.length=CU (_::q.op)+0;rw [rV,bQ2,hr,h.vs];cases q.rd <;> simp [Nat.add_comm]
 ·show q.op.length+1<=c.i+1;have:=h.so;omega
theorem YW {v:Vl} {c:Rq} (h:Fwf l q) (hc:c.i<l.length) (hi:q.c.i<=c.i) (hr:q.rd=false):Fwf l (iF v (q.at c)):=by
 refine ⟨hc,h.op,?_,?_⟩
 ·show (v::q.x.1).length=CU q.op+1;rw [aJ,h.vs,hr];simp
 ·show q.op.length<=c.i+1;have:=h.so;omega
theorem JU {c:Rq} (h:Fwf l q) (hc:c.i<l.length) (hi:q.c.i<=c.i):Fwf l (q.at c):=⟨hc,h.op,h.vs,by show q.op.length<=c.i+1;have:=h.so;omega⟩
theorem Fwf.top (h:Fwf l q):(q.op=[bO]/\dM q=bO)\/∃ r,q.op=dM q::(r++[bO])/\okO (dM q)=true/\∀ o∈r,okO o=true:=by
 obtain ⟨r,e,hr⟩:=h.op;unfold dM;rw [e];cases r with
 | nil=>exact .inl ⟨Z,Z⟩
 | cons o r=>exact .inr ⟨r,Z,hr _ (aY ..),λx hx=>hr x (bT _ hx)⟩
theorem Fwf.ne (h:Fwf l q):q.op≠[]:=by
 obtain ⟨r,e,_⟩:=h.op;rw [e];simp
theorem bE3 (v:Vl) (x:Vb):(x.put v).1.length=x.1.length+1:=rfl
theorem KA (x:Vb):(tS x).1.length=x.1.length - 1:=List.length_tail
theorem aW1 (x:Vb):(fS x).1.length=x.1.length - 1:=List.length_tail
theorem bO3 (h:okO o=true):o.kd=2\/o.kd=3\/o.kd=4\/o.kd=5\/o.kd=6\/o.kd=7\/o.kd=8\/o.kd=9\/o.kd=10:=by
 unfold okO at h;rw [aE,aE,aD,aD] at h;have h1:=h.1.1;have h2:=h.1.2;have hk:∀ n:Nat,n<256->o.kd.toNat=n->o.kd=UInt8.ofNat n:=λn hn e=>aQ.1 (by rw [dW hn];exact e);have:o.kd.toNat=2\/o.kd.toNat=3\/o.kd.toNat=4\/o.kd.toNat=5\/o.kd.toNat=6\/o.kd.toNat=7\/o.kd.toNat=8\/o.kd.toNat=9\/o.kd.toNat=10:=by omega
 rcases this with e | e | e | e | e | e | e | e | e <;> have:=hk _ (by decide) e <;> rw [this] <;> decide
theorem aQ5 (h:okO o=true):(o.kd=6\/o.kd=7\/o.kd=8\/o.kd=9\/o.kd=10)↔0<o.lv:=by
 have hk:=bO3 h;unfold okO at h;rw [aE,eT] at h;have h2:=h.2;rcases hk with e | e | e | e | e | e | e | e | e <;> rw [e] at h2 <;> rw [e] <;> by_cases h0:0<o.lv <;> simp [h0] at h2|-
theorem VG (ho:okO o=true) (h0:0<o.lv) {x:Vb} (h:(if cnO o then 2 else 1)<=x.1.length):(vB o x).1.length=x.1.length - (if cnO o then 1 else 0):=by
 have hk:=(aQ5 ho).2 h0;unfold vB cnO at *;rcases hk with e | e | e | e | e <;> simp [e,bE3,KA,aW1] at h|- <;> omega
theorem ZD {lv:Nat} (hl:1<=lv):∀ (r:List Ov) (x:Vb),(∀ o∈r,okO o=true)->x.1.length=CU (r++[bO])+1->∃ r' y,wI lv (r++[bO]) x=(r'++[bO],y)/\r'<:+r/\y.1.length=CU (r'++[bO])+1/\(∀ o,r'.head? = some o->o.lv<lv)
 | [],x,_,h=>⟨[],x,by rw [bW,wI,aG (by show ¬ lv<=0;omega)],vO _,h,λo e=>by cases e⟩
 | o::r,x,ho,h=>by
  rw [aT,wI];rw [aT,rV] at h;have hok:=ho o (aY ..)
  split
  ·rename_i h1;have h2:=VG hok (by omega) (x:=x) (by rw [h];split <;> omega);obtain ⟨r',y,e,hs,hy,ht⟩:=ZD hl r (vB o x) (λz hz=>ho z (bT _ hz)) (by rw [h2,h];split <;> omega);exact ⟨r',y,e,hs.trans (CV o r),hy,ht⟩
  ·rename_i h1;exact ⟨o::r,x,Z,vO _,by rw [aT,rV];exact h,λz e=>by injection e with e;subst e;omega⟩
theorem tQ {lv:Nat} (hl:1<=lv) (h:Fwf l q) (hr:q.rd=true):Fwf l (jP lv q):=by
 obtain ⟨r,e,ho⟩:=h.op;have hv:=h.vs;rw [e,hr] at hv;obtain ⟨r',y,e2,hs,hy,_⟩:=ZD hl r q.x ho hv;have h1:(jP lv q).op=r'++[bO]:=by unfold jP;rw [e,e2]
 have h2:(jP lv q).x=y:=by unfold jP;rw [e,e2]
 refine ⟨h.i,⟨r',h1,λo hz=>ho o (hs.subset hz)⟩,?_,?_⟩
 ·rw [h1,h2];show _=_+(if q.rd then 1 else 0);rw [hr];exact hy
 ·rw [h1];have:=hs.length_le;have h3:=h.so;rw [e] at h3;show _<=q.c.i+1;rw [aF] at h3|-;omega
end
section
variable {l:Tks} {q:Ps}
structure Fsp (l:Tks) (q q':Ps):Prop where
 wf:Fwf l q'
 go:q'.fin\/q.c.i<q'.c.i
theorem uD {l:Tks} {q:Rq} {c:Nat} (hc:c≠0):(q.fail l c).er≠0:=by
 unfold Rq.fail
 split
 ·exact hc
 ·assumption
theorem rD {c:Prop} [Decidable c] {a b:Ps} (h1:c->Fsp l q a) (h2:¬ c->Fsp l q b):Fsp l q (if c then a else b):=by
 by_cases hc:c
 ·rw [aL hc];exact h1 hc
 ·rw [aG hc];exact h2 hc
theorem Fsp.red {lv:Nat} {q':Ps} (h:Fsp l (jP lv q) q'):Fsp l q q':=⟨h.wf,h.go⟩
theorem wF {c:Nat} (h:Fwf l q) (hc:c≠0):Fsp l q (q.at (q.c.fail l c)):=⟨JU h (by rw [DZ];exact h.i) (by rw [DZ];exact aX _),.inl (.inr (uD hc))⟩
theorem kX {o:Ov} {c:Rq} (h:Fwf l q) (hc:c.i<l.length) (hi:q.c.i<c.i) (ho:okO o=true) (hr:cnO o=q.rd):Fsp l q (fK o (q.at c)):=⟨bA6 h hc hi ho hr,.inr hi⟩
theorem sU {v:Vl} {c:Rq} (h:Fwf l q) (hc:c.i<l.length) (hi:q.c.i<c.i) (hr:q.rd=false):Fsp l q (iF v (q.at c)):=⟨YW h hc (oV hi) hr,.inr hi⟩
variable (T:aZ9 l)
include T
theorem aN6 {q':Ps} (h:Fwf l q) (hr:q.rd=false) (e:mJ l q=some q'):Fsp l q q':=by
 have n {w:Str} (a:q.c.ac l w=true):q.c.nx.i<l.length:=dC T h.i a;have m {c:Rq} (k:Mq q.c.nx c):q.c.i<c.i:=eW (cO _) k.i;unfold mJ at e
 split at e
 ·rename_i a;injection e with e;subst e;exact kX h (n a) (m (.refl _)) rfl (by rw [hr];rfl)
 split at e
 ·rename_i a;injection e with e;subst e;exact kX h (n a) (m (.refl _)) rfl (by rw [hr];rfl)
 split at e
 ·rename_i a;injection e with e;subst e;exact kX h (JS T (n a)) (m .wiS) rfl (by rw [hr];rfl)
 split at e
 ·rename_i a;injection e with e;subst e;exact kX h (JS T (n a)) (m .wiS) rfl (by rw [hr];rfl)
 split at e
 ·rename_i a;injection e with e;subst e;exact kX h (JT T (n a)) (m .amS) rfl (by rw [hr];rfl)
 split at e
 ·rename_i a;injection e with e;subst e;exact kX h (JT T (n a)) (m .amS) rfl (by rw [hr];rfl)
 split at e
 ·rename_i a;injection e with e;subst e;exact kX h (kL T (JT T (n a))) (m (.trans .amS .exS)) rfl (by rw [hr];rfl)
 ·cases e
theorem bB7 (h:Fwf l q) (h0:q.c.er=0) (hr:q.rd=false) (hk:(tkf l q.c.i).k=1):Fsp l q (vQ l q):=by
 have k1:q.c.nmK l=true:=by unfold Rq.nmK;rw [aR h0,aR hk];rfl
 have e1:q.c.nmS l=q.c.nx:=by unfold Rq.nmS;rw [aL k1]
 have n1:q.c.nx.i<l.length:=WA T h.i k1;have lt {c:Rq} (k:Mq q.c.nx c):q.c.i<c.i:=eW (cO _) k.i;unfold vQ;rw [e1]
 split
 ·rename_i a;have n2:=kE T (dC T n1 a);have m2:Mq q.c.nx (q.c.nx.nx.nmS l):=(Mq.nx (jE a)).trans .nmS
  split
  ·rename_i b;exact kX h (dC T n2 b) (lt (m2.trans (.nx (jE b)))) rfl (by rw [hr];rfl)
  ·exact sU h n2 (lt m2) hr
 ·exact sU h n1 (lt (.refl _)) hr
theorem bC3 {w:Str} (h:Fwf l q) (hr:q.rd=false) (a:q.c.ac l w=true):Fsp l q (yP l (q.at q.c.nx)):=by
 have n1:q.c.nx.i<l.length:=dC T h.i a;have n2:=kL T (w:=[40]) (yF T n1);have m2:Mq q.c.nx ((q.c.nx.paS l).exS l [40]):=Mq.paS.trans .exS;have lt {c:Rq} (k:Mq q.c.nx c):q.c.i<c.i:=eW (cO _) k.i;unfold yP
 split
 ·rename_i b;exact sU (c:=((q.c.nx.paS l).exS l [40]).nx) h (dC T n2 b) (lt (m2.trans (.nx (jE b)))) hr
 ·exact kX (c:=(q.c.nx.paS l).exS l [40]) h n2 (lt m2) rfl (by rw [hr];rfl)
theorem bB8 (h:Fwf l q) (h0:q.c.er=0) (hr:q.rd=false):Fsp l q (pW l q):=by
 have n {w:Str} (a:q.c.ac l w=true):q.c.nx.i<l.length:=dC T h.i a;have m {c:Rq} (k:Mq q.c.nx c):q.c.i<c.i:=eW (cO _) k.i
 have num:(tkf l q.c.i).k=3->Fsp l q (iF (tmv (.mk 1 [] (q.c.nbV l) [])) (q.at (q.c.nbS l))):=λhk=>by
  have k1:q.c.nbB l=true:=by unfold Rq.nbB;rw [aR h0,aR hk];rfl
  refine ⟨YW h (xH T h.i) Mq.nbS.i hr,?_⟩
  by_cases hf:q.c.fit l=true
  ·refine .inr ?_;show q.c.i<(q.c.nbS l).i;unfold Rq.nbS;rw [aL k1,aL hf];exact cO _
  ·refine .inl (.inr ?_);show (q.c.nbS l).er≠0;unfold Rq.nbS;rw [aL k1,aG hf];exact uD (by decide)
 unfold pW
 exact rD (λa=>kX h (n a) (m (.refl _)) rfl (by rw [hr];rfl)) λ_ =>
  rD (λa=>kX h (n a) (m (.refl _)) rfl (by rw [hr];rfl)) λ_ =>
  rD num λ_=>rD (λhk=>bB7 T h h0 hr hk) λ_ =>
  rD (λa=>sU h (n a) (m (.refl _)) hr) λ_ =>
  rD (λa=>sU h (yF T (n a)) (m .paS) hr) λ_ =>
  rD (λa=>sU h (n a) (m (.refl _)) hr) λ_ =>
  rD (λa=>sU h (n a) (m (.refl _)) hr) λ_ =>
  rD (λa=>sU h (kE T (n a)) (m .nmS) hr) λ_ =>
  rD (λa=>kX h (kL T (yF T (n a))) (m (.trans .paS .exS)) rfl (by rw [hr];rfl)) λ_ =>
  rD (λa=>bC3 T h hr a) λ_=>wF h (by decide)
theorem SW (h:Fwf l q) (h0:q.c.er=0) (hr:q.rd=false):Fsp l q (dU l q):=by
 unfold dU;cases e:(if xY q then mJ l q else none) with
 | some q' =>
  split at e
  ·exact aN6 T h hr e
  ·cases e
 | none =>
  show Fsp l q (wH l q);unfold wH
  split
  ·rename_i a;exact sU h (dC T h.i a.2) (cO _) hr
  ·exact bB8 T h h0 hr
theorem bC2 {op:UInt8} {w:Str} (h:Fwf l q) (hr:q.rd=true) (a:q.c.ac l w=true):Fsp l q (rK l op q):=by
 have n:=dC T h.i a;have w7:=tQ (lv:=7) (by decide) h hr;have w8:=tQ (lv:=8) (by decide) h hr;unfold rK
 exact rD (λ_=>rD (λ_=>(wF (c:=8) w7 (by decide)).red) λ_=>(kX (o:=⟨8,6,false,op,zF⟩) (c:=q.c.nx) w7 n (cO _) rfl hr.symm).red) λ_ =>
  rD (λ_=>rD (λ_=>(wF (c:=8) w8 (by decide)).red) λ_=>(kX (o:=⟨9,8,false,op,zF⟩) (c:=q.c.nx) w8 n (cO _) rfl hr.symm).red) λ_ =>
  rD (λ_=>(wF (c:=8) w7 (by decide)).red) λ_=>(kX (o:=⟨9,7,false,op,zF⟩) (c:=q.c.nx) w7 n (cO _) rfl hr.symm).red
theorem bV3 {c:Rq} (h0:c.er=0) (hw:c.wrd l=true):(1<=(cJ (c.joV l).op).lv/\(cJ (c.joV l).op).lv<=4)/\c.i<(c.joS l).i:=by
 have ac {w:Str} (e:c.is l w=true):c.ac l w=true:=by unfold Rq.ac;rw [e,aR h0];rfl
 have lt {c':Rq} (k:Mq c.nx c'):c.i<c'.i:=eW (cO _) k.i;unfold Rq.joV Rq.joS
 by_cases a1:c.ac l [115,105,110,99,101]=true
 ·rw [aL a1,aL a1];exact ⟨by show 1<=(cJ 15).lv/\(cJ 15).lv<=4;decide,lt .wiS⟩
 by_cases a2:c.ac l [97,110,100]=true
 ·rw [aG a1,aG a1,aL a2,aL a2];exact ⟨by show 1<=(cJ 9).lv/\(cJ 9).lv<=4;decide,lt (.refl _)⟩
 by_cases a3:c.ac l [111,114]=true
 ·rw [aG a1,aG a1,aG a2,aG a2,aL a3,aL a3];exact ⟨by show 1<=(cJ 10).lv/\(cJ 10).lv<=4;decide,lt (.refl _)⟩
 by_cases a4:c.ac l [105,109,112,108,105,101,115]=true
 ·rw [aG a1,aG a1,aG a2,aG a2,aG a3,aG a3,aL a4,aL a4];exact ⟨by show 1<=(cJ 11).lv/\(cJ 11).lv<=4;decide,lt (.refl _)⟩
 unfold Rq.wrd at hw;rw [bC,bC,bC] at hw;rcases hw with ((e | e) | e) | e
 ·exact absurd (ac e) a1
 ·exact absurd (ac e) a2
 ·exact absurd (ac e) a3
 ·exact absurd (ac e) a4
theorem okJ {f:Fm} {lv:Nat} (h:1<=lv):okO ⟨6,lv,false,0,f⟩=true:=by
 unfold okO;rw [aR (show 0<lv by omega)];rfl
theorem bC0 (h:Fwf l q) (h0:q.c.er=0) (hr:q.rd=true) (hw:q.c.wrd l=true):Fsp l q (wQ l q):=by
 obtain ⟨⟨h1,_⟩,hi⟩:=bV3 T h0 hw;unfold wQ
 split
 ·exact wF h (by decide)
 ·exact (kX (o:=⟨6,_,false,0,q.c.joV l⟩) (c:=q.c.joS l) (tQ h1 h hr) (bT3 T h.i) hi (okJ T h1) hr.symm).red
theorem ET {c:Rq} {v:Vl} {x:Vb} (h:Fwf l q) (hr:q.rd=true) (ho:okO (dM q)=true) (hk:cnO (dM q)=false) (hc:c.i<l.length) (hi:q.c.i<c.i) (hx:x.1.length=q.x.1.length - 1):Fsp l q (GA c v x q):=by
 obtain ⟨r,e,hro⟩:=h.op;have hv:=h.vs
 have ht:dM q=bO\/∃ o r',r=o::r'/\dM q=o:=by
  unfold dM;rw [e];cases r with
  | nil=>exact .inl rfl
  | cons o r'=>exact .inr ⟨o,r',Z,Z⟩
 rcases ht with ht | ⟨o,r',rfl,ht⟩
 ·rw [ht] at ho;exact absurd ho (by decide)
 ·rw [ht] at hk;rw [e,aT,rV,hk,hr] at hv;simp only [aI,bL,bS] at hv;refine ⟨⟨hc,⟨r',by show q.op.tail=_;rw [e];rfl,λo ho=>hro o (bT _ ho)⟩,?_,?_⟩,.inr hi⟩
  ·show x.1.length+1=CU q.op.tail+1;rw [e];show _=CU (r'++[bO])+1;omega
  ·show q.op.tail.length<=c.i+1;have:=h.so;rw [List.length_tail];omega
theorem GQ (h:Fwf l q) {k:UInt8} (hk:(dM q).kd=k) (h1:¬ k=1):okO (dM q)=true:=by
 rcases h.top with ⟨_,e⟩ | ⟨r,_,ho,_⟩
 ·rw [e] at hk;exact absurd hk.symm h1
 ·exact ho
theorem bC1 (h:Fwf l q) (hr:q.rd=true):Fsp l q (lV l q):=by
 unfold lV
 split
 ·exact ⟨⟨h.i,h.op,h.vs,h.so⟩,.inl (.inl Z)⟩
 split
 ·rename_i a;exact ET T h hr (GQ T h a.1 (by decide)) (by unfold cnO;rw [a.1];decide) (dC T h.i a.2) (cO _) List.length_tail
 split
 ·rename_i a;exact ET T h hr (GQ T h a.1 (by decide)) (by unfold cnO;rw [a.1];decide) (xH T (kL T (dC T h.i a.2))) (eW (cO _) (Mq.trans (a:=q.c.nx) .exS .nbS).i) (aW1 _)
 split
 ·rename_i a
  split
  ·exact ET T h hr (GQ T h a.1 (by decide)) (by unfold cnO;rw [a.1];decide) (dC T h.i a.2) (cO _) (KA _)
  ·exact ET T h hr (GQ T h a.1 (by decide)) (by unfold cnO;rw [a.1];decide) (dC T h.i a.2) (cO _) (KA _)
 split
 ·rename_i a;have ho:=GQ T h a.1 (by decide);obtain ⟨r,e,hro⟩:=h.op;have hv:=h.vs;rcases h.top with ⟨_,e1⟩ | ⟨r,e1,_,hr1⟩
  ·rw [e1] at ho;exact absurd ho (by decide)
  ·have hc:cnO (dM q)=false:=by unfold cnO;rw [a.1];decide
   rw [e1,rV,hc,hr] at hv;simp only [aI,bL,bS] at hv;refine ⟨⟨dC T h.i a.2,⟨_::r,by rw [e1];rfl,?_⟩,?_,?_⟩,.inr (cO _)⟩
   ·intro o hz;rcases bM.1 hz with rfl | hz
    ·exact ho
    ·exact hr1 o hz
   ·show (tS q.x).1.length=CU (_::q.op.tail)+0;rw [KA,e1,rV];show _=(if cnO (dM q) then 1 else 0)+CU (r++[bO])+0;rw [hc];simp only [aI,bL];omega
   ·show q.op.tail.length+1<=q.c.i+1+1;have:=h.so;rw [List.length_tail];omega
 split
 ·rename_i a;exact ET T h hr (GQ T h a.1 (by decide)) (by unfold cnO;rw [a.1];decide) (dC T h.i a.2) (cO _) (KA _)
 ·exact wF h (by decide)
theorem bB9 (h:Fwf l q) (h0:q.c.er=0) (hr:q.rd=true):Fsp l q (qC l q):=by
 unfold qC
 split
 ·rename_i hw;exact bC0 T h h0 hr hw
 split
 ·have:=bC1 T (tQ (lv:=1) (by decide) h hr) hr;exact ⟨this.wf,this.go⟩
 ·exact wF h (by decide)
theorem WN {c:Rq} {i:Nat} (h0:c.er=0) (e:c.sym l=some i):c.ac l (lT.getD i [])=true/\i<22/\i≠0:=by
 unfold Rq.sym at e
 split at e
 ·rename_i hk;unfold aD1 at e;have h1:=List.find?_some e;have h2:=bY.1 (List.mem_of_find?_eq_some e);rw [aE,aD,aD] at h1;refine ⟨?_,h2,h1.2⟩;unfold Rq.ac Rq.is;rw [h1.1,aR h0,aR (show (tkf l c.i).t=(tkf l c.i).t from rfl)];rcases hk with e | e <;> rw [e] <;> decide
 ·cases e
theorem PR (h:Fwf l q) (h0:q.c.er=0) (hr:q.rd=true):Fsp l q (fJ l q):=by
 unfold fJ;cases e:q.c.sym l with
 | some i=>exact bC2 T h hr (WN T h0 e).1
 | none=>exact bB9 T h h0 hr
theorem SV (h:Fwf l q) (hf:¬ q.fin):Fsp l q (kM l q):=by
 have h0:q.c.er=0:=Classical.byContradiction λe=>hf (.inr e);unfold kM
 split
 ·rename_i hr;exact PR T h h0 hr
 ·rename_i hr;exact SW T h h0 (by simpa using hr)
omit T in
theorem PF (h:0<l.length):Fwf l LB:=⟨h,⟨[],Z,λ_ h=>(by cases h)⟩,Z,by decide⟩
theorem JB:∀ (n:Nat) (q:Ps),Fwf l q->l.length<=q.c.i+n->(AU l n q).fin/\Fwf l (AU l n q)
 | 0,q,h,hn=>by have:=h.i;omega
 | n+1,q,h,hn=>by
  rw [AU]
  split
  ·rename_i hf;exact ⟨hf,h⟩
  ·rename_i hf;have s:=SV T h hf;rcases s.go with hg | hg
   ·cases n with
    | zero=>exact ⟨hg,s.wf⟩
    | succ n=>rw [AU,aL hg];exact ⟨hg,s.wf⟩
   ·exact JB n _ s.wf (by omega)
end
theorem PW {l:Tks} {q:Ps} (h:q.fin):∀ n,AU l n q=q
 | 0=>rfl
 | n+1=>by rw [AU,aL h]
theorem JC {l:Tks}:∀ (n m:Nat) (q:Ps),AU l (n+m) q=AU l m (AU l n q)
 | 0,m,q=>by rw [dL];rfl
 | n+1,m,q=>by
  rw [show n+1+m=(n+m)+1 by omega,AU,AU]
  split
  ·rename_i hf;rw [PW hf]
  ·exact JC n m _
structure Fn where
 fm:Bool
 tm:Bool
 f:Fm
 e:Ex
def mdN (f:Fm):Fn:=⟨true,false,f,zE⟩
def vlN (e:Ex):Fn:=⟨false,true,zF,e⟩
def zN:Fn:=⟨false,false,zF,zE⟩
inductive Nt where
 | lev (k:Nat)
 | lp (k:Nat) (a:Fn)
 | arg (f:Fm)
 | aft (f:Fm)
def joW (k:Nat):Str:=if k=1 then [105,109,112,108,105,101,115] else if k=2 then [111,114] else if k=3 then [97,110,100] else [115,105,110,99,101]
def IS:List (Str × UInt8):=[([110,111,116],8),([112,114,101,118,105,111,117,115],12),([111,110,99,101],13),([97,108,119,97,121,115],14),([102,111,114,97,108,108],16),([101,120,105,115,116,115],17)]
def aP7:List Str:=[[110,111,119],[116,114,117,101],[102,97,108,115,101],[102,108,97,103],[104,97,115],[97,114,114,105,118,101,115],[115,105,122,101],[40]]
section
variable (l:Tks)
def Rq.prS (op:UInt8) (r:Rq):Rq:=if op=13\/op=14 then r.nx.wiS l else if op=16\/op=17 then r.nx.amS l else r.nx
def Rq.prF (op:UInt8) (r:Rq):Fm:=if op=13\/op=14 then r.nx.wiV l op else if op=16\/op=17 then r.nx.amV l op else .mk op [] [] 0 0 [] []
def Rq.jnS (k:Nat) (r:Rq):Rq:=if k=4 then r.nx.wiS l else r.nx
def Rq.jnF (k:Nat) (r:Rq):Fm:=if k=4 then r.nx.wiV l 15 else .mk (UInt8.ofNat (12 - k)) [] [] 0 0 [] []
def HR (k i:Nat):Prop:=(k=7/\(i=14\/i=15))\/(k=8/\(i=11\/i=12\/i=13))
def opB (i:Nat) (es:List Ex):Ex:=.mk (UInt8.ofNat i) [] 0 es
inductive Gd:Nt->Rq->Fn->Bool->Rq->Prop
 | seq {k:Nat} {r r1 r2:Rq} {x n:Fn} {m m':Bool} (hk:(1<=k/\k<=4)\/k=7\/k=8) (h1:Gd (.lev (k+1)) r x m r1) (h2:Gd (.lp k x) r1 n m' r2):Gd (.lev k) r n (m || m') r2
 | outJ {k:Nat} {r:Rq} {a:Fn} (hk:1<=k/\k<=4) (h:r.ac l (joW k)=false):Gd (.lp k a) r a false r
 | outA {k:Nat} {r:Rq} {a:Fn} (hk:k=7\/k=8) (h:∀ i,HR k i->r.ac l (lT.getD i [])=false):Gd (.lp k a) r a false r
 | join {k:Nat} {r r1 r2:Rq} {a y n:Fn} {m m':Bool} (hk:1<=k/\k<=4) (h:r.ac l (joW k)=true) (h1:Gd (.lev (k+1)) (r.jnS l k) y m r1) (h2:Gd (.lp k (mdN ((r.jnF l k).wAr [a.f,y.f]))) r1 n m' r2):Gd (.lp k a) r n ((m || (!a.fm || !y.fm)) || m') r2
 | ari {k i:Nat} {r r1 r2:Rq} {a y n:Fn} {m m':Bool} (hk:HR k i) (h:r.ac l (lT.getD i [])=true) (h1:Gd (.lev (k+1)) r.nx y m r1) (h2:Gd (.lp k (vlN (opB i [a.e,y.e]))) r1 n m' r2):Gd (.lp k a) r n ((m || (!a.tm || !y.tm)) || m') r2
 | pre {w:Str} {op:UInt8} {r r1:Rq} {x:Fn} {m:Bool} (hp:(w,op)∈IS) (h:r.ac l w=true) (h1:Gd (.lev 5) (r.prS l op) x m r1):Gd (.lev 5) r (mdN ((r.prF l op).wAr [x.f])) (m || !x.fm) r1
 | cnt {r r1:Rq} {x:Fn} {m:Bool} (h:r.ac l [99,111,117,110,116]=true) (h1:Gd (.lev 1) ((r.nx.amS l).exS l [40]) x m r1):Gd (.lev 5) r (mdN (((r.nx.amV l 18).wEx [.mk 1 [] (((r1.exS l [41]).exS l [62,61]).nbV l) []]).wAr [x.f])) (m || !x.fm) (((r1.exS l [41]).exS l [62,61]).nbS l)
 | cmp0 {r r1:Rq} {x:Fn} {m:Bool} (hp:∀ w op,(w,op)∈IS->r.ac l w=false) (hc:r.ac l [99,111,117,110,116]=false) (h1:Gd (.lev 6) r x m r1):Gd (.lev 5) r x m r1
 | cm0 {r r1:Rq} {x:Fn} {m:Bool} (h1:Gd (.lev 7) r x m r1) (h:∀ i,16<=i->i<=21->r1.ac l (lT.getD i [])=false):Gd (.lev 6) r x m r1
 | cm1 {i:Nat} {r r1 r2:Rq} {x y:Fn} {m m':Bool} (hi:16<=i/\i<=21) (h1:Gd (.lev 7) r x m r1) (h:r1.ac l (lT.getD i [])=true) (h2:Gd (.lev 7) r1.nx y m' r2):Gd (.lev 6) r (mdN (.mk 3 [] [] 0 0 [opB i [x.e,y.e]] [])) ((m || m') || (!x.tm || !y.tm)) r2
 | neg {r r1:Rq} {x:Fn} {m:Bool} (h:r.ac l [45]=true) (h1:Gd (.lev 9) r.nx x m r1):Gd (.lev 9) r (vlN (.mk 9 [] 0 [x.e])) (m || !x.tm) r1
 | pri {r r1:Rq} {x:Fn} {m:Bool} (h:r.ac l [45]=false) (h1:Gd (.lev 10) r x m r1):Gd (.lev 9) r x m r1
 | bad {r:Rq} (h:r.er≠0):Gd (.lev 10) r zN false r
 | num {r:Rq} (h:r.er=0) (hk:(tkf l r.i).k=3):Gd (.lev 10) r (vlN (.mk 1 [] (r.nbV l) [])) false (r.nbS l)
 | now {r:Rq} (h:r.ac l [110,111,119]=true):Gd (.lev 10) r (vlN (.mk 4 [] 0 [])) false r.nx
 | tru {r:Rq} (h:r.ac l [116,114,117,101]=true):Gd (.lev 10) r (mdN (.mk 1 [] [] 0 0 [] [])) false r.nx
 | fal {r:Rq} (h:r.ac l [102,97,108,115,101]=true):Gd (.lev 10) r (mdN (.mk 2 [] [] 0 0 [] [])) false r.nx
 | flg {r:Rq} (h:r.ac l [102,108,97,103]=true):Gd (.lev 10) r (mdN (.mk 6 (r.nx.nmV l) [] 0 0 [] [])) false (r.nx.nmS l)
 | has {r r1:Rq} {x:Fn} {m:Bool} (h:r.ac l [104,97,115]=true) (h1:Gd (.lev 7) ((r.nx.paS l).exS l [91]) x m r1):Gd (.lev 10) r (mdN ((r.nx.paV l 5).wEx [x.e])) (m || !x.tm) (r1.exS l [93])
 | arr0 {r:Rq} (h:r.ac l [97,114,114,105,118,101,115]=true) (h1:((r.nx.paS l).exS l [40]).ac l [41]=true):Gd (.lev 10) r (mdN (r.nx.paV l 7)) false ((r.nx.paS l).exS l [40]).nx
 | arr {r r1:Rq} {n:Fn} {m:Bool} (h:r.ac l [97,114,114,105,118,101,115]=true) (h0:((r.nx.paS l).exS l [40]).ac l [41]=false) (h1:Gd (.arg (r.nx.paV l 7)) ((r.nx.paS l).exS l [40]) n m r1):Gd (.lev 10) r n m r1
 | siz {r:Rq} (h:r.ac l [115,105,122,101]=true):Gd (.lev 10) r (vlN (.mk 8 (r.nx.paN l++[46]++r.nx.paF l) 0 [])) false (r.nx.paS l)
 | par {r r1:Rq} {x:Fn} {m:Bool} (h:r.ac l [40]=true) (h1:Gd (.lev 1) r.nx x m r1):Gd (.lev 10) r x m (r1.exS l [41])
 | nam0 {r:Rq} (h:r.er=0) (hk:(tkf l r.i).k=1) (hd:r.nx.ac l [46]=false):Gd (.lev 10) r (vlN (.mk 5 (r.nmV l) 0 [])) false r.nx
 | nam1 {r:Rq} (h:r.er=0) (hk:(tkf l r.i).k=1) (hd:r.nx.ac l [46]=true) (hb:(r.nx.nx.nmS l).ac l [91]=false):Gd (.lev 10) r ⟨true,true,.mk 4 (r.nmV l) (r.nx.nx.nmV l) 0 0 [] [],.mk 5 (r.ful l) 0 []⟩ false (r.nx.nx.nmS l)
 | get {r r1:Rq} {x:Fn} {m:Bool} (h:r.er=0) (hk:(tkf l r.i).k=1) (hd:r.nx.ac l [46]=true) (hb:(r.nx.nx.nmS l).ac l [91]=true) (h1:Gd (.lev 7) (r.nx.nx.nmS l).nx x m r1):Gd (.lev 10) r (vlN (.mk 6 (r.ful l) 0 [x.e])) (m || !x.tm) (r1.exS l [93])
 | non {r:Rq} (h:r.er=0) (h0:r.ac l [45]=false) (h3:(tkf l r.i).k≠3) (h1:(tkf l r.i).k≠1) (hw:∀ w∈aP7,r.ac l w=false):Gd (.lev 10) r zN false (r.fail l 8)
 | arU {r r1:Rq} {f:Fm} {n:Fn} {m:Bool} (h:r.ac l [95]=true) (h1:Gd (.aft (f.wEx (f.ex++[zE]))) r.nx n m r1):Gd (.arg f) r n m r1
 | arT {r r1 r2:Rq} {f:Fm} {x n:Fn} {m m':Bool} (h:r.ac l [95]=false) (h1:Gd (.lev 7) r x m r1) (h2:Gd (.aft (f.wEx (f.ex++[x.e]))) r1 n m' r2):Gd (.arg f) r n ((m || !x.tm) || m') r2
 | afC {r r1:Rq} {f:Fm} {n:Fn} {m:Bool} (h:r.ac l [44]=true) (h1:Gd (.arg f) r.nx n m r1):Gd (.aft f) r n m r1
 | afE {r:Rq} {f:Fm} (h:r.ac l [44]=false):Gd (.aft f) r (mdN f) false (r.exS l [41])
end
section
variable {l:Tks} {r r':Rq} {w:Str}
theorem aB9 (h:r.er≠0):r.ac l w=false:=by unfold Rq.ac;rw [aP h];rfl
theorem mT (h:r.er≠0) (h2:r.ac l w=true):False:=by rw [aB9 h] at h2;cases h2
theorem RL (h:r.er≠0):r.exS l w=r:=Mq.exS.er h
theorem BF {nt:Nt} {n:Fn} {m:Bool} (g:Gd l nt r n m r'):r.er≠0->r'=r:=by
 induction g with
 | seq hk h1 h2 i1 i2=>intro e;have:=i1 e;subst this;exact i2 e
 | outJ=>intro _;rfl
 | outA=>intro _;rfl
 | join hk h=>intro e;exact (mT e h).elim
 | ari hk h=>intro e;exact (mT e h).elim
 | pre hp h=>intro e;exact (mT e h).elim
 | cnt h=>intro e;exact (mT e h).elim
 | cmp0 hp hc h1 i1=>exact i1
 | cm0 h1 h i1=>exact i1
 | cm1 hi h1 h h2 i1 i2=>intro e;have:=i1 e;subst this;exact (mT e h).elim
 | neg h=>intro e;exact (mT e h).elim
 | pri h h1 i1=>exact i1
 | bad=>intro _;rfl
 | num h=>intro e;exact absurd h e
 | now h=>intro e;exact (mT e h).elim
 | tru h=>intro e;exact (mT e h).elim
 | fal h=>intro e;exact (mT e h).elim
 | flg h=>intro e;exact (mT e h).elim
 | has h=>intro e;exact (mT e h).elim
 | arr0 h=>intro e;exact (mT e h).elim
 | arr h=>intro e;exact (mT e h).elim
 | siz h=>intro e;exact (mT e h).elim
 | par h=>intro e;exact (mT e h).elim
 | nam0 h=>intro e;exact absurd h e
 | nam1 h=>intro e;exact absurd h e
 | get h=>intro e;exact absurd h e
 | non h=>intro e;exact absurd h e
 | arU h=>intro e;exact (mT e h).elim
 | arT h h1 h2 i1 i2=>intro e;have:=i1 e;subst this;exact i2 e
 | afC h=>intro e;exact (mT e h).elim
 | afE h=>intro e;exact RL e
end
structure Nok (v:Vl) (n:Fn):Prop where
 tm:v.tm=n.tm
 e:n.tm=true->v.e=n.e
 fm:n.fm=!v.noF
 f:n.fm=true->v.fm=n.f
def UV (P:List Ov) (x:Vb):Vb:=P.foldl (λx o=>vB o x) x
theorem aG5 (P R:List Ov) (x:Vb):UV (P++R) x=UV R (UV P x):=mW ..
theorem TD {lv:Nat} {O:List Ov}:∀ (P:List Ov) (x:Vb),(∀ p∈P,lv<=p.lv)->wI lv (P++O) x=wI lv O (UV P x)
 | [],_,_=>rfl
 | p::P,x,h=>by
  rw [aT,wI,aL (h p (aY ..)),TD P _ λq hq=>h q (bT _ hq)]
  rfl
theorem aD9 {lv:Nat} {q:Ps} (h:(dM q).lv<lv) (x:Vb):wI lv q.op x=(q.op,x):=by
 unfold dM at h;cases e:q.op with
 | nil=>rfl
 | cons o r =>
  rw [e] at h;rw [wI,aG (by show ¬ lv<=o.lv;have:o.lv<lv:=h;omega)]
def Rch (l:Tks) (q q':Ps):Prop:=∃ n,AU l n q=q'
section
variable {l:Tks} {q q' q'':Ps}
theorem Rch.refl:Rch l q q:=⟨0,Z⟩
theorem Rch.trans (h:Rch l q q') (k:Rch l q' q''):Rch l q q'':=by
 obtain ⟨n,h⟩:=h;obtain ⟨m,k⟩:=k;exact ⟨n+m,by rw [JC,h,k]⟩
theorem Rch.one (h0:q.c.er=0) (hd:q.dn=false) (h:kM l q=q'):Rch l q q':=⟨1,by
 rw [AU,aG,h];rfl;rintro (e | e)
 ·rw [hd] at e;cases e
 ·exact e h0⟩
structure Rdy (k:Nat) (q q':Ps) (n:Fn) (m:Bool) (r:Rq):Prop where
 c:q'.c=r
 rd:q'.rd=true
 dn:q'.dn=false
 st:∃ P v,q'.op=P++q.op/\(∀ p∈P,k<=p.lv/\p.tm=(dM q).tm)/\UV P q'.x=(v::q.x.1,q.x.2 || m)/\(m=false->Nok v n)
 wh:6<=k->(rC q'.x).wh=false
structure Stop (l:Tks) (k:Nat) (q:Ps):Prop where
 s8:k<=8->∀ i,HR 8 i->q.c.ac l (lT.getD i [])=true->(rC q.x).wh=true
 s7:k<=7->∀ i,HR 7 i->q.c.ac l (lT.getD i [])=true->(rC q.x).wh=true
 s6:k<=6->∀ i,16<=i->i<=21->q.c.ac l (lT.getD i [])=true->(rC q.x).wh=true\/(dM (jP 7 q)).kd=8
 sj:∀ j,k<=j->1<=j->j<=4->q.c.ac l (joW j)=false
structure Ctx (l:Tks) (k:Nat) (q:Ps):Prop where
 lo:k<=5->(dM q).tm=false/\(dM q).kd≠5/\(dM q).kd≠8/\(dM q).lv<=5/\(k<=4->(dM q).lv<k)
 c6:k=6->(dM q).tm=false/\(dM q).kd≠8/\(dM q).lv<7
 mid:k=7\/k=8->(dM q).lv<k
 hop:6<=k->dU l q=pW l q
theorem Rdy.mono {k j:Nat} {n:Fn} {m:Bool} {r:Rq} (h:Rdy k q q' n m r) (hj:j<=k) (hw:6<=j->6<=k):Rdy j q q' n m r:=by
 obtain ⟨P,v,a,b,c,d⟩:=h.st;exact ⟨h.c,h.rd,h.dn,⟨P,v,a,λp hp=>⟨bD hj (b p hp).1,(b p hp).2⟩,c,d⟩,λe=>h.wh (hw e)⟩
theorem Rdy.top {k:Nat} {n:Fn} {m:Bool} {r:Rq} (h:Rdy k q q' n m r):(dM q').tm=(dM q).tm:=by
 obtain ⟨P,v,a,b,c,d⟩:=h.st;have ht:dM q'=(P++q.op).headD bO:=by unfold dM;rw [a]
 cases P with
 | nil=>rw [ht];rfl
 | cons p P=>rw [ht];exact (b p (aY ..)).2
theorem Rdy.red {k:Nat} {n:Fn} {m:Bool} {r:Rq} (h:Rdy k q q' n m r) (hk:(dM q).lv<k):∃ v,jP k q'=⟨r,q.op,(v::q.x.1,q.x.2 || m),true,false⟩/\(m=false->Nok v n):=by
 obtain ⟨P,v,a,b,c,d⟩:=h.st;refine ⟨v,?_,d⟩;unfold jP;rw [a,TD P _ λp hp=>(b p hp).1,c,aD9 hk,h.c,h.rd,h.dn]
theorem Rdy.up {k j:Nat} {o:Ov} {q1 q2 q3:Ps} {n N:Fn} {m M:Bool} {r:Rq} (h:Rdy j q2 q3 n m r) (hop:q2.op=o::q1.op) (hk:k<=o.lv) (hj:k<=j) (ht:o.tm=(dM q1).tm)
 (hx:∀ v,(m=false->Nok v n)->∃ u,vB o (v::q2.x.1,q2.x.2 || m)=(u::q1.x.1,q1.x.2 || M)/\(M=false->Nok u N)) (hw:6<=k->(rC q3.x).wh=false):Rdy k q1 q3 N M r:=by
 obtain ⟨P,v,a,b,c,d⟩:=h.st;obtain ⟨u,e,f⟩:=hx v d;have ht2:(dM q2)=o:=by unfold dM;rw [hop];rfl
 refine ⟨h.c,h.rd,h.dn,⟨P++[o],u,by rw [a,hop,aZ];rfl,?_,?_,f⟩,hw⟩
 ·intro p hp;rcases cC.1 hp with hp | hp
  ·have:=b p hp;rw [ht2,ht] at this;exact ⟨bD hj this.1,this.2⟩
  ·rw [bQ] at hp;subst hp;exact ⟨hk,ht⟩
 ·rw [aG5,c];exact e
theorem vE {c:Rq} {w w':Str} (h:c.ac l w=true) (hw:w≠w'):c.ac l w'=false:=by
 cases h2:c.ac l w' with
 | false=>rfl
 | true=>exact absurd ((VK h).symm.trans (VK h2)) hw
theorem EB {c:Rq} {w:Str} (h:c.ac l w=true):¬ (tkf l c.i).k=3:=by rcases VL h with e | e <;> rw [e] <;> decide
theorem EC {c:Rq} {w:Str} (h:c.ac l w=true):¬ (tkf l c.i).k=1:=by rcases VL h with e | e <;> rw [e] <;> decide
theorem UF {c:Rq} {w:Str} (h:¬ ((tkf l c.i).k=2\/(tkf l c.i).k=4)):c.ac l w=false:=by
 cases h2:c.ac l w with
 | false=>rfl
 | true=>exact absurd (VL h2) h
theorem UO {c:Rq} {i:Nat} (hi:11<=i) (hi2:i<=21) (h:c.ac l (lT.getD i [])=true):c.sym l=some i:=by
 unfold Rq.sym;rw [aL (VL h),VK h];have:∀ i∈List.range 22,11<=i->aD1 (lT.getD i [])=some i:=by decide +kernel
 exact this i (bY.2 (by omega)) hi
theorem SU {c:Rq} {w:Str} (h:c.ac l w=true) (hw:aD1 w=none):c.sym l=none:=by
 unfold Rq.sym
 split
 ·rw [VK h];exact hw
 ·rfl
theorem LA {c:Rq} {w:Str} (h:c.ac l w=true):c.is l w=true:=RV h
theorem DX {c:Rq} {w:Str} (h0:c.er=0):c.is l w=c.ac l w:=by unfold Rq.ac;rw [aR h0,aA]
end
structure Tgd (l:Tks):Prop where
 last:aZ9 l
 ne:∀ i,(tkf l i).k=2\/(tkf l i).k=4->(tkf l i).t≠[]
 nm:∀ i,(tkf l i).k=1->eJ (tkf l i).t=none
section
variable {l:Tks} {q q' q'':Ps} {w w':Str} {c r r':Rq} {k i:Nat} {n:Fn} {m:Bool} {v:Vl}
theorem nw (h:c.ac l w=true) (hw:w≠w'):¬ c.ac l w'=true:=by rw [vE h hw];decide
theorem sY (hr:q.rd=false):kM l q=dU l q:=by unfold kM;rw [hr];rfl
theorem yH (hr:q.rd=true):kM l q=fJ l q:=by unfold kM;rw [hr];rfl
theorem zH {op:UInt8} (h:q.c.ac l w=true) (hp:(w,op)∈IS):mJ l q=some (fK ⟨7,5,false,0,q.c.prF l op⟩ (q.at (q.c.prS l op))):=by
 unfold IS at hp;simp only [bM,iY,List.not_mem_nil,or_false] at hp;unfold mJ Rq.prF Rq.prS;rcases hp with ⟨rfl,rfl⟩ | ⟨rfl,rfl⟩ | ⟨rfl,rfl⟩ | ⟨rfl,rfl⟩ | ⟨rfl,rfl⟩ | ⟨rfl,rfl⟩
 ·rw [aL h];rfl
 ·rw [aG (nw h (by decide)),aL h];rfl
 ·rw [aG (nw h (by decide)),aG (nw h (by decide)),aL h];rfl
 ·rw [aG (nw h (by decide)),aG (nw h (by decide)),aG (nw h (by decide)),aL h];rfl
 ·rw [aG (nw h (by decide)),aG (nw h (by decide)),aG (nw h (by decide)),aG (nw h (by decide)),aL h];rfl
 ·rw [aG (nw h (by decide)),aG (nw h (by decide)),aG (nw h (by decide)),aG (nw h (by decide)),aG (nw h (by decide)),aL h];rfl
theorem TH (h:q.c.ac l [99,111,117,110,116]=true):mJ l q=some (fK ⟨3,0,false,0,q.c.nx.amV l 18⟩ (q.at ((q.c.nx.amS l).exS l [40]))):=by
 unfold mJ;rw [aG (nw h (by decide)),aG (nw h (by decide)),aG (nw h (by decide)),aG (nw h (by decide)),aG (nw h (by decide)),aG (nw h (by decide)),aL h]
theorem ZG (hp:∀ w op,(w,op)∈IS->q.c.ac l w=false) (hc:q.c.ac l [99,111,117,110,116]=false):mJ l q=none:=by
 have no {w:Str} {op:UInt8} (h:(w,op)∈IS):¬ q.c.ac l w=true:=by rw [hp w op h];decide
 unfold mJ;rw [aG (no (op:=8) (by decide)),aG (no (op:=12) (by decide)),aG (no (op:=13) (by decide)),aG (no (op:=14) (by decide)),aG (no (op:=16) (by decide)),aG (no (op:=17) (by decide)),aG (by rw [hc];decide)]
theorem TQ (hr:q.rd=false) (hf:xY q=true) (h:mJ l q=some q'):kM l q=q':=by
 rw [sY hr];unfold dU;rw [aL hf,h]
theorem kA (hf:xY q=false\/mJ l q=none) (hk:(dM q).kd=5->q.c.ac l [95]=false):dU l q=pW l q:=by
 have e:(if xY q then mJ l q else none)=none:=by
  rcases hf with e | e
  ·rw [e];rfl
  ·rw [e];split <;> rfl
 unfold dU;rw [e];show wH l q=_;unfold wH;rw [aG];rintro ⟨h1,h2⟩;rw [hk h1] at h2;cases h2
theorem XM (h:5<(dM q).lv):xY q=false:=by unfold xY;rw [aP (by omega),Bool.and_false]
theorem bQ7 (h:(dM q).tm=true):xY q=false:=by unfold xY;rw [h];rfl
theorem aU5 (h:(dM q).tm=false) (h2:(dM q).lv<=5):xY q=true:=by unfold xY;rw [h,aR h2];rfl
theorem QE (h:q.c.ac l [45]=true):pW l q=fK ⟨10,9,false,0,zF⟩ (q.at q.c.nx):=by unfold pW;rw [aL h]
theorem QA (h:q.c.ac l [40]=true):pW l q=fK ⟨2,0,false,0,zF⟩ (q.at q.c.nx):=by unfold pW;rw [aG (nw h (by decide)),aL h]
theorem bL4 (h:(tkf l c.i).k=3):¬ c.ac l w=true:=by rw [UF (by rw [h];decide)];decide
theorem bL5 (h:(tkf l c.i).k=1):¬ c.ac l w=true:=by rw [UF (by rw [h];decide)];decide
theorem QB (h:(tkf l q.c.i).k=3):pW l q=iF (tmv (.mk 1 [] (q.c.nbV l) [])) (q.at (q.c.nbS l)):=by unfold pW;rw [aG (bL4 h),aG (bL4 h),aL h]
theorem FC (h:(tkf l q.c.i).k=1):pW l q=vQ l q:=by unfold pW;rw [aG (bL5 h),aG (bL5 h),aG (by rw [h];decide),aL h]
theorem QC (h:q.c.ac l [110,111,119]=true):pW l q=iF (tmv (.mk 4 [] 0 [])) (q.at q.c.nx):=by
 unfold pW;rw [aG (nw h (by decide)),aG (nw h (by decide)),aG (EB h),aG (EC h),aL h]
theorem PZ (h:q.c.ac l [115,105,122,101]=true):pW l q=iF (tmv (.mk 8 (q.c.nx.paN l++[46]++q.c.nx.paF l) 0 [])) (q.at (q.c.nx.paS l)):=by
 unfold pW;rw [aG (nw h (by decide)),aG (nw h (by decide)),aG (EB h),aG (EC h),aG (nw h (by decide)),aL h]
theorem PY (h:q.c.ac l [116,114,117,101]=true):pW l q=iF (fmv (.mk 1 [] [] 0 0 [] [])) (q.at q.c.nx):=by
 unfold pW;rw [aG (nw h (by decide)),aG (nw h (by decide)),aG (EB h),aG (EC h),aG (nw h (by decide)),aG (nw h (by decide)),aL h]
theorem QH (h:q.c.ac l [102,97,108,115,101]=true):pW l q=iF (fmv (.mk 2 [] [] 0 0 [] [])) (q.at q.c.nx):=by
 unfold pW;rw [aG (nw h (by decide)),aG (nw h (by decide)),aG (EB h),aG (EC h),aG (nw h (by decide)),aG (nw h (by decide)),aG (nw h (by decide)),aL h]
theorem QG (h:q.c.ac l [102,108,97,103]=true):pW l q=iF (fmv (.mk 6 (q.c.nx.nmV l) [] 0 0 [] [])) (q.at (q.c.nx.nmS l)):=by
 unfold pW;rw [aG (nw h (by decide)),aG (nw h (by decide)),aG (EB h),aG (EC h),aG (nw h (by decide)),aG (nw h (by decide)),aG (nw h (by decide)),aG (nw h (by decide)),aL h]
theorem QF (h:q.c.ac l [104,97,115]=true):pW l q=fK ⟨4,0,true,0,q.c.nx.paV l 5⟩ (q.at ((q.c.nx.paS l).exS l [91])):=by
 unfold pW;rw [aG (nw h (by decide)),aG (nw h (by decide)),aG (EB h),aG (EC h),aG (nw h (by decide)),aG (nw h (by decide)),aG (nw h (by decide)),aG (nw h (by decide)),aG (nw h (by decide)),aL h]
theorem JD (h:q.c.ac l [97,114,114,105,118,101,115]=true):pW l q=yP l (q.at q.c.nx):=by
 unfold pW;rw [aG (nw h (by decide)),aG (nw h (by decide)),aG (EB h),aG (EC h),aG (nw h (by decide)),aG (nw h (by decide)),aG (nw h (by decide)),aG (nw h (by decide)),aG (nw h (by decide)),aG (nw h (by decide)),aL h]
theorem QD (h0:q.c.ac l [45]=false) (h3:(tkf l q.c.i).k≠3) (h1:(tkf l q.c.i).k≠1) (hw:∀ w∈aP7,q.c.ac l w=false):pW l q=q.at (q.c.fail l 8):=by
 have no {w:Str} (h:w∈aP7):¬ q.c.ac l w=true:=by rw [hw w h];decide
 unfold pW;rw [aG (by rw [h0];decide),aG (no (by decide)),aG h3,aG h1,aG (no (by decide)),aG (no (by decide)),aG (no (by decide)),aG (no (by decide)),aG (no (by decide)),aG (no (by decide)),aG (no (by decide))]
theorem TS (h:c.er=0) (hk:(tkf l c.i).k=1):c.nmS l=c.nx:=by
 unfold Rq.nmS;rw [aL (by unfold Rq.nmK;rw [aR h,aR hk];rfl)]
theorem aR1 (h:c.er=0) (hk:(tkf l c.i).k=1):c.nmV l=(tkf l c.i).t:=by
 unfold Rq.nmV;rw [aL (by unfold Rq.nmK;rw [aR h,aR hk];rfl)]
theorem bT6 (h:q.c.er=0) (hk:(tkf l q.c.i).k=1) (hd:q.c.nx.ac l [46]=false):vQ l q=iF (tmv (.mk 5 (q.c.nmV l) 0 [])) (q.at q.c.nx):=by
 unfold vQ;rw [TS h hk,aG (by rw [hd];decide)]
theorem bT5 (h:q.c.er=0) (hk:(tkf l q.c.i).k=1) (hd:q.c.nx.ac l [46]=true) (hb:(q.c.nx.nx.nmS l).ac l [91]=false):vQ l q=iF (tmv (.mk 5 (q.c.ful l) 0 [])) (q.at (q.c.nx.nx.nmS l)):=by
 unfold vQ;rw [TS h hk,aL hd,aG (by rw [hb];decide)]
theorem bT4 (h:q.c.er=0) (hk:(tkf l q.c.i).k=1) (hd:q.c.nx.ac l [46]=true) (hb:(q.c.nx.nx.nmS l).ac l [91]=true):vQ l q=fK ⟨4,0,true,6,.mk 0 (q.c.ful l) [] 0 0 [] []⟩ (q.at (q.c.nx.nx.nmS l).nx):=by
 unfold vQ;rw [TS h hk,aL hd,aL hb]
theorem bY1 (h:((c.paS l).exS l [40]).ac l [41]=true):yP l (q.at c)=iF (fmv (c.paV l 7)) (q.at ((c.paS l).exS l [40]).nx):=by
 unfold yP;exact aL h
theorem bY0 (h:((c.paS l).exS l [40]).ac l [41]=false):yP l (q.at c)=fK ⟨5,0,true,0,c.paV l 7⟩ (q.at ((c.paS l).exS l [40])):=by
 unfold yP;exact aG (by show ¬ ((c.paS l).exS l [40]).ac l [41]=true;rw [h];decide)
theorem EV (hr:q.rd=true) (h:q.c.ac l w=true) (hw:w=[41]\/w=[93]\/w=[44]):kM l q=lV l (jP 1 q):=by
 rw [yH hr];unfold fJ;rw [SU h (by rcases hw with rfl | rfl | rfl <;> decide +kernel)];show qC l q=_;have h0:=jE h;have nI {w':Str} (e:w≠w'):q.c.is l w'=false:=by rw [DX h0];exact vE h e
 unfold qC Rq.wrd Rq.endB;rcases hw with rfl | rfl | rfl
 ·rw [nI (w':=[115,105,110,99,101]) (by decide),nI (w':=[97,110,100]) (by decide),nI (w':=[111,114]) (by decide),nI (w':=[105,109,112,108,105,101,115]) (by decide),LA h];rfl
 ·rw [nI (w':=[115,105,110,99,101]) (by decide),nI (w':=[97,110,100]) (by decide),nI (w':=[111,114]) (by decide),nI (w':=[105,109,112,108,105,101,115]) (by decide),nI (w':=[41]) (by decide),LA h];rfl
 ·rw [nI (w':=[115,105,110,99,101]) (by decide),nI (w':=[97,110,100]) (by decide),nI (w':=[111,114]) (by decide),nI (w':=[105,109,112,108,105,101,115]) (by decide),nI (w':=[41]) (by decide),nI (w':=[93]) (by decide),LA h];rfl
theorem BL (h1:(dM q).kd=1->(tkf l q.c.i).k≠0) (h2:(dM q).kd=2\/(dM q).kd=3\/(dM q).kd=5->q.c.ac l [41]=false) (h4:(dM q).kd=4->q.c.ac l [93]=false) (h5:(dM q).kd=5->q.c.ac l [44]=false):lV l q=q.at (q.c.fail l 8):=by
 have no {w:Str} (e:q.c.ac l w=false):¬ q.c.ac l w=true:=by rw [e];decide
 unfold lV;rw [aG (λe=>h1 e.1 e.2),aG (λe=>no (h2 (.inl e.1)) e.2),aG (λe=>no (h2 (.inr (.inl e.1))) e.2),aG (λe=>no (h4 e.1) e.2),aG (λe=>no (h5 e.1) e.2),aG (λe=>no (h2 (.inr (.inr e.1))) e.2)]
theorem bU1 (G:Tgd l) (hr:q.rd=true) (h0:q.c.er=0) (ar:∀ i,HR 8 i\/HR 7 i->q.c.ac l (lT.getD i [])=true->(rC q.x).wh=true)
 (cm:∀ i,16<=i->i<=21->q.c.ac l (lT.getD i [])=true->(rC q.x).wh=true\/(dM (jP 7 q)).tm=true\/(dM (jP 7 q)).kd=8)
 (jn:∀ j,1<=j->j<=4->q.c.ac l (joW j)=true->(dM q).tm=true) (cl:(lV l (jP 1 q)).c=q.c.fail l 8):(kM l q).c=q.c.fail l 8:=by
 rw [yH hr];unfold fJ;cases e:q.c.sym l with
 | some i =>
  obtain ⟨ha,hi,_⟩:=WN G.last h0 e;have hne:=G.ne q.c.i (VL ha);rw [VK ha] at hne
  have h11:11<=i:=by
   refine Classical.byContradiction λhn=>hne ?_;have:∀ i∈List.range 11,lT.getD i []=[]:=by decide
   exact this i (bY.2 (by omega))
  show (rK l (UInt8.ofNat i) q).c=_;unfold rK
  by_cases h16:16<=i
  ·have:(16:UInt8)<=UInt8.ofNat i:=by rw [UInt8.le_iff_toNat_le,dW (show i<256 by omega)];exact h16
   rw [aL this,aL]
   ·rfl
   ·rcases cm i h16 (by omega) ha with e | e | e
    ·rw [e];rfl
    ·rw [e,Bool.or_true];rfl
    ·rw [aR e,Bool.or_true]
  ·have hn:¬ (16:UInt8)<=UInt8.ofNat i:=by rw [UInt8.le_iff_toNat_le,dW (show i<256 by omega)];exact h16
   have hw:=ar i (by
    have:i=11\/i=12\/i=13\/i=14\/i=15:=by omega
    rcases this with h | h | h | h | h
    ·exact .inl (.inr ⟨Z,.inl h⟩)
    ·exact .inl (.inr ⟨Z,.inr (.inl h)⟩)
    ·exact .inl (.inr ⟨Z,.inr (.inr h)⟩)
    ·exact .inr (.inl ⟨Z,.inl h⟩)
    ·exact .inr (.inl ⟨Z,.inr h⟩)) ha
   rw [aG hn,aL hw,aL hw]
   split <;> rfl
 | none =>
  show (qC l q).c=_;unfold qC
  split
  ·rename_i hw
   have ht:(dM q).tm=true:=by
    unfold Rq.wrd at hw;rw [bC,bC,bC] at hw;simp only [DX h0] at hw;rcases hw with ((e | e) | e) | e
    ·exact jn 4 (by decide) (by decide) e
    ·exact jn 3 (by decide) (by decide) e
    ·exact jn 2 (by decide) (by decide) e
    ·exact jn 1 (by decide) (by decide) e
   unfold wQ;rw [aL ht];rfl
  split
  ·exact cl
  ·rfl
end
section
variable {l:Tks} {q q' q'':Ps} {w w':Str} {c r r':Rq} {k i:Nat} {n x y:Fn} {m ma b:Bool} {v u:Vl} {V:List Vl}
def Sim (l:Tks):Nt->Rq->Fn->Bool->Rq->Prop
 | .lev k,r,n,m,r'=>∀ q,q.c=r->q.rd=false->q.dn=false->Ctx l k q->(r'.er≠0/\∃ q',Rch l q q'/\q'.c=r')\/(r'.er=0/\∃ q',Rch l q q'/\Rdy k q q' n m r'/\Stop l k q')
 | .lp k a,r,n,m,r'=>∀ q q' ma,Rdy k q q' a ma r->Ctx l k q->Stop l (k+1) q'->(r'.er≠0/\∃ q'',Rch l q' q''/\q''.c=r')\/(r'.er=0/\∃ q'',Rch l q' q''/\Rdy k q q'' n (ma || m) r'/\Stop l k q'')
 | .arg f,r,n,m,r'=>∀ O V b ma f',(ma=false->f'=f)->(r'.er≠0/\∃ q',Rch l ⟨r,⟨5,0,true,0,f'⟩::O,(V,b || ma),false,false⟩ q'/\q'.c=r') \/
  (r'.er=0/\∃ v,Rch l ⟨r,⟨5,0,true,0,f'⟩::O,(V,b || ma),false,false⟩ ⟨r',O,(v::V,b || (ma || m)),true,false⟩/\v.wh=false/\((ma || m)=false->Nok v n))
 | .aft f,r,n,m,r'=>∀ q O V v b bb ma f',q.c=r->q.rd=true->q.dn=false->(dM q).tm=true->(dM (jP 7 q)).tm=true->jP 1 q=⟨r,⟨5,0,true,0,f'⟩::O,(v::V,bb),true,false⟩->(bb || !v.tm)=(b || ma)->(ma=false->f'.wEx (f'.ex++[v.e])=f)->Stop l 7 q\/(rC q.x).wh=true ->
  (r'.er≠0/\∃ q',Rch l q q'/\q'.c=r')\/(r'.er=0/\∃ v,Rch l q ⟨r',O,(v::V,b || (ma || m)),true,false⟩/\v.wh=false/\((ma || m)=false->Nok v n))
theorem bS0 {t:Bool} {op:UInt8} {f:Fm} {lv:Nat}:vB ⟨10,lv,t,op,f⟩ (v::V,b)=(tmv (.mk 9 [] 0 [v.e])::V,b || !v.tm):=rfl
theorem bX2 {t:Bool} {op:UInt8} {f:Fm} {lv:Nat}:vB ⟨9,lv,t,op,f⟩ (v::u::V,b)=(tmv (.mk op [] 0 [u.e,v.e])::V,b || !v.tm || !u.tm):=rfl
theorem bX3 {t:Bool} {op:UInt8} {f:Fm} {lv:Nat}:vB ⟨8,lv,t,op,f⟩ (v::u::V,b)=(fmv (.mk 3 [] [] 0 0 [.mk op [] 0 [u.e,v.e]] [])::V,b || !v.tm || !u.tm):=rfl
theorem bX4 {t:Bool} {op:UInt8} {f:Fm} {lv:Nat}:vB ⟨7,lv,t,op,f⟩ (v::V,b)=(fmv (f.wAr [v.fm])::V,b || v.noF):=rfl
theorem bX5 {t:Bool} {op:UInt8} {f:Fm} {lv:Nat}:vB ⟨6,lv,t,op,f⟩ (v::u::V,b)=(fmv (f.wAr [u.fm,v.fm])::V,b || v.noF || u.noF):=rfl
theorem Nok.md (f:Fm):Nok (fmv f) (mdN f):=⟨Z,λh=>(by cases h),Z,λ_=>rfl⟩
theorem Nok.vl {e:Ex} (h:¬ e.op=5\/eJ e.nm=none):Nok (tmv e) (vlN e):=⟨Z,λ_=>rfl,by
 show false=!(true && (!decide (e.op=5) || (eJ e.nm).isNone));rcases h with h | h
 ·rw [aP h];rfl
 ·rw [h,aA];simp,λh=>(by cases h)⟩
theorem Nok.vl' {op:UInt8} {nm:Str} {z:Int64} {es:List Ex} (h:¬ op=5):Nok (tmv (.mk op nm z es)) (vlN (.mk op nm z es)):=.vl (.inl h)
theorem aQ2 {v:Vl} {x:Fn} (h:m=false->Nok v x):(m || !v.tm)=(m || !x.tm):=by
 cases m with
 | true=>rfl
 | false=>rw [(h rfl).tm]
theorem aQ3 {v:Vl} {x:Fn} (h:m=false->Nok v x):(m || v.noF)=(m || !x.fm):=by
 cases m with
 | true=>rfl
 | false=>rw [(h rfl).fm,Bool.not_not]
theorem bU5 (h:ma=false->Nok u x) (k:m=false->Nok v y):(b || ma || m || v.noF || u.noF)=(b || (ma || (m || (!x.fm || !y.fm)))):=by
 cases ma with
 | true=>simp
 | false =>
  cases m with
  | true=>simp
  | false=>rw [(h rfl).fm,(k rfl).fm];cases b <;> cases v.noF <;> cases u.noF <;> rfl
theorem bL0 (h:ma=false->Nok u x) (k:m=false->Nok v y):(b || ma || m || !v.tm || !u.tm)=(b || (ma || (m || (!x.tm || !y.tm)))):=by
 cases ma with
 | true=>simp
 | false =>
  cases m with
  | true=>simp
  | false=>rw [(h rfl).tm,(k rfl).tm];cases b <;> cases y.tm <;> cases x.tm <;> rfl
theorem orF {a b:Bool} (h:(a || b)=false):a=false/\b=false:=by cases a <;> cases b <;> simp at h|-
theorem aP3 (hr:(iF v (q.at c)).c=c) (hn:Nok v n) (hw:v.wh=false) (hd:q.dn=false):Rdy k q (iF v (q.at c)) n false c :=
 ⟨Z,Z,hd,⟨[],v,Z,λp hp=>(by cases hp),by show (v::q.x.1,q.x.2)=_;rw [Bool.or_false],λ_=>hn⟩,λ_=>hw⟩
theorem QI (hn:m=false->Nok v n) (hw:6<=k->v.wh=false):Rdy k q ⟨c,q.op,(v::q.x.1,q.x.2 || m),true,false⟩ n m c :=
 ⟨Z,Z,Z,⟨[],v,Z,λp hp=>(by cases hp),Z,hn⟩,hw⟩
theorem BS (h:9<=k):Stop l k q:=⟨λe=>by omega,λe=>by omega,λe=>by omega,λj e _ _=>by omega⟩
theorem XW (hk:7<=k) (h:(dM q).lv<k\/9<=k) (hf:xY q=false) (h5:(dM q).kd≠5):Ctx l k q :=
 ⟨λe=>by omega,λe=>by omega,λe=>by omega,λ_=>kA (.inl hf) λe=>absurd e h5⟩
theorem LM {o:Ov} {K:UInt8} (hk:k<=5) (hq:dM q=o) (h1:o.tm=false) (hK:o.kd=K) (h2:K≠5/\K≠8) (h4:o.lv<=5) (h5:k<=4->o.lv<k):Ctx l k q:=by
 subst hq hK;exact ⟨λ_=>⟨h1,h2.1,h2.2,h4,h5⟩,λe=>by omega,λe=>by omega,λe=>by omega⟩
theorem aO6 (hr:q.rd=false) (hd:q.dn=false) (h0:q.c.er=0) (C:Ctx l 10 q) (e:pW l q=iF v (q.at c)) (hn:Nok v n) (hw:v.wh=false) :
 (c.er≠0/\∃ q',Rch l q q'/\q'.c=c)\/(c.er=0/\∃ q',Rch l q q'/\Rdy 10 q q' n false c/\Stop l 10 q'):=by
 have s:Rch l q (iF v (q.at c)):=.one h0 hd (by rw [sY hr,C.hop (by decide),e])
 by_cases hc:c.er=0
 ·exact .inr ⟨hc,_,s,aP3 Z hn hw hd,BS (by decide)⟩
 ·exact .inl ⟨hc,_,s,Z⟩
theorem BX {o:Ov} {P:Prop} (hr:q.rd=false) (hd:q.dn=false) (h0:q.c.er=0) (e:kM l q=fK o (q.at c)) (hb:c.er≠0->P) (hg:c.er=0->Rch l q (fK o (q.at c))->P):P:=by
 by_cases hc:c.er=0
 ·exact hg hc (.one h0 hd e)
 ·exact hb hc
theorem aP6 {o:Ov}:dM (fK o q)=o.inh (dM q).tm:=rfl
theorem FH (G:Tgd l) (h0:q'.c.er=0) (hr:q'.rd=true) (hd:q'.dn=false) (S:Stop l 1 q'\/(Stop l 7 q'/\(dM q').tm=true/\(dM (jP 7 q')).tm=true))
 (cl:(lV l (jP 1 q')).c=q'.c.fail l 8):∃ q'',Rch l q' q''/\q''.c=q'.c.fail l 8 :=
 ⟨_,.one h0 hd rfl,bU1 G hr h0
  (λi hi ha=>by
   rcases S with S | ⟨S,_⟩
   ·rcases hi with hi | hi
    ·exact S.s8 (by decide) i hi ha
    ·exact S.s7 (by decide) i hi ha
   ·rcases hi with hi | hi
    ·exact S.s8 (by decide) i hi ha
    ·exact S.s7 (by decide) i hi ha)
  (λi h1 h2 ha=>by
   rcases S with S | ⟨S,_,h⟩
   ·rcases S.s6 (by decide) i h1 h2 ha with e | e
    ·exact .inl e
    ·exact .inr (.inr e)
   ·exact .inr (.inl h))
  (λj h1 h2 ha=>by
   rcases S with S | ⟨S,h,_⟩
   ·rw [S.sj j h1 h1 h2] at ha;cases ha
   ·exact h) cl⟩
theorem OB (h:r.ac l w=true):r.exS l w=r.nx:=by unfold Rq.exS;rw [aL h]
theorem NZ (h:r.ac l w=false):r.exS l w=r.fail l 8:=by unfold Rq.exS;rw [aG (by rw [h];decide)]
theorem UH (hk:1<=k/\k<=4) (h:r.ac l (joW k)=true):r.joV l=r.jnF l k/\r.joS l=r.jnS l k/\(cJ (r.jnF l k).op).lv=k/\r.wrd l=true/\r.sym l=none:=by
 have h0:=jE h;have e:k=1\/k=2\/k=3\/k=4:=by omega
 rcases e with rfl | rfl | rfl | rfl
 ·replace h:r.ac l [105,109,112,108,105,101,115]=true:=h;refine ⟨?_,?_,Z,?_,SU h (by decide +kernel)⟩
  ·unfold Rq.joV;rw [aG (nw h (by decide)),aG (nw h (by decide)),aG (nw h (by decide)),aL h];rfl
  ·unfold Rq.joS;rw [aG (nw h (by decide)),aG (nw h (by decide)),aG (nw h (by decide)),aL h];rfl
  ·unfold Rq.wrd;rw [show r.is l [105,109,112,108,105,101,115]=true from LA h,Bool.or_true]
 ·replace h:r.ac l [111,114]=true:=h;refine ⟨?_,?_,Z,?_,SU h (by decide +kernel)⟩
  ·unfold Rq.joV;rw [aG (nw h (by decide)),aG (nw h (by decide)),aL h];rfl
  ·unfold Rq.joS;rw [aG (nw h (by decide)),aG (nw h (by decide)),aL h];rfl
  ·unfold Rq.wrd;rw [show r.is l [111,114]=true from LA h,Bool.or_true];rfl
 ·replace h:r.ac l [97,110,100]=true:=h;refine ⟨?_,?_,Z,?_,SU h (by decide +kernel)⟩
  ·unfold Rq.joV;rw [aG (nw h (by decide)),aL h];rfl
  ·unfold Rq.joS;rw [aG (nw h (by decide)),aL h];rfl
  ·unfold Rq.wrd;rw [show r.is l [97,110,100]=true from LA h,Bool.or_true];rfl
 ·replace h:r.ac l [115,105,110,99,101]=true:=h;refine ⟨?_,?_,Z,?_,SU h (by decide +kernel)⟩
  ·unfold Rq.joV;rw [aL h];rfl
  ·unfold Rq.joS;rw [aL h];rfl
  ·unfold Rq.wrd;rw [show r.is l [115,105,110,99,101]=true from LA h];rfl
theorem aD2 (D:Rdy k q q' n ma r) (hk:1<=k/\k<=4) (C:Ctx l k q) (h:r.ac l (joW k)=true):∃ v,kM l q'=⟨r.jnS l k,⟨6,k,false,0,r.jnF l k⟩::q.op,(v::q.x.1,q.x.2 || ma),false,false⟩/\(ma=false->Nok v n):=by
 obtain ⟨e1,e2,e3,e4,e5⟩:=UH hk h;obtain ⟨c1,c2,c3,c4,c5⟩:=C.lo (by omega);obtain ⟨v,hv,hn⟩:=D.red (c5 hk.2);refine ⟨v,?_,hn⟩;rw [yH D.rd];unfold fJ;rw [D.c,e5];show qC l q'=_;unfold qC;rw [D.c,aL e4];unfold wQ;rw [aG (by rw [D.top,c1];decide),D.c,e1,e2,e3];have:jP k (q'.at (r.jnS l k))=(jP k q').at (r.jnS l k):=rfl;rw [this,hv];show (⟨r.jnS l k,Ov.inh ⟨6,k,false,0,r.jnF l k⟩ (dM q).tm::q.op,_,false,false⟩:Ps)=_;rw [c1];unfold Ov.inh;rw [aL (show 0<k by omega)];rfl
theorem aN8 (D:Rdy k q q' n ma r) (hk:HR k i) (C:Ctx l k q) (h:r.ac l (lT.getD i [])=true):∃ v,kM l q'=⟨r.nx,⟨9,k,(dM q).tm,UInt8.ofNat i,zF⟩::q.op,(v::q.x.1,q.x.2 || ma),false,false⟩/\(ma=false->Nok v n):=by
 have hk7:(k=7\/k=8)/\11<=i/\i<=15:=by
  rcases hk with ⟨rfl,e⟩ | ⟨rfl,e⟩
  ·exact ⟨.inl rfl,by omega⟩
  ·exact ⟨.inr rfl,by omega⟩
 obtain ⟨v,hv,hn⟩:=D.red (C.mid hk7.1);have hw:=D.wh (by omega);refine ⟨v,?_,hn⟩;rw [yH D.rd];unfold fJ;rw [D.c,UO hk7.2.1 (by omega) h];show rK l (UInt8.ofNat i) q'=_;unfold rK;rw [hw,D.c];rcases hk with ⟨rfl,e⟩ | ⟨rfl,e⟩
 ·have e1:¬ (16:UInt8)<=UInt8.ofNat i:=by rcases e with rfl | rfl <;> decide
  have e2:¬ UInt8.ofNat i<=13:=by rcases e with rfl | rfl <;> decide
  rw [aG e1,aG e2,aG (by decide),hv];rfl
 ·have e1:¬ (16:UInt8)<=UInt8.ofNat i:=by rcases e with rfl | rfl | rfl <;> decide
  have e2:UInt8.ofNat i<=13:=by rcases e with rfl | rfl | rfl <;> decide
  rw [aG e1,aL e2,aG (by decide),hv];rfl
theorem aN7 (D:Rdy 7 q q' n ma r) (hi:16<=i/\i<=21) (C:Ctx l 6 q) (h:r.ac l (lT.getD i [])=true):∃ v,kM l q'=⟨r.nx,⟨8,6,false,UInt8.ofNat i,zF⟩::q.op,(v::q.x.1,q.x.2 || ma),false,false⟩/\(ma=false->Nok v n):=by
 obtain ⟨c1,c2,c3⟩:=C.c6 rfl;obtain ⟨v,hv,hn⟩:=D.red c3;have hw:=D.wh (by omega);refine ⟨v,?_,hn⟩;rw [yH D.rd];unfold fJ;rw [D.c,UO (by omega) hi.2 h];show rK l (UInt8.ofNat i) q'=_;unfold rK;have e1:(16:UInt8)<=UInt8.ofNat i:=by rw [UInt8.le_iff_toNat_le,dW (show i<256 by omega)];exact hi.1
 rw [hw,D.c,aL e1,hv]
 have e2:(false || (dM (⟨r,q.op,(v::q.x.1,q.x.2 || ma),true,false⟩:Ps)).tm || decide ((dM (⟨r,q.op,(v::q.x.1,q.x.2 || ma),true,false⟩:Ps)).kd=8))=false:=by
  show (false || (dM q).tm || decide ((dM q).kd=8))=false;rw [c1,aP c2];rfl
 rw [aG (by rw [e2];decide)];show (⟨r.nx,Ov.inh ⟨8,6,false,UInt8.ofNat i,zF⟩ (dM q).tm::q.op,_,false,false⟩:Ps)=_;rw [c1];rfl
end
section
variable {l:Tks} {q q' q'':Ps} {w w':Str} {c r r' r1 r2:Rq} {k i:Nat} {n x y a:Fn} {m m' ma b:Bool} {v u:Vl} {V:List Vl}
theorem bC4 (hk:(1<=k/\k<=4)\/k=7\/k=8) (h2:Gd l (.lp k x) r1 n m' r2) (i1:r.er=0->Sim l (.lev (k+1)) r x m r1) (i2:r1.er=0->Sim l (.lp k x) r1 n m' r2) (h0:r.er=0):Sim l (.lev k) r n (m || m') r2:=by
 intro q hc hr hd C
 have C1:Ctx l (k+1) q:=⟨λe=>by
  obtain ⟨a,b,c,d,f⟩:=C.lo (by omega);exact ⟨a,b,c,d,λg=>by have:=f (by omega);omega⟩,λe=>by omega,λe=>by have:=C.mid (by omega);omega,λe=>C.hop (by omega)⟩
 rcases i1 h0 q hc hr hd C1 with ⟨e,q1,R,hc1⟩ | ⟨e,q1,R,D,S⟩
 ·have:=BF h2 e;subst this;exact .inl ⟨e,q1,R,hc1⟩
 ·rcases i2 e q q1 m (D.mono (by omega) (by omega)) C S with ⟨e',q2,R2,c2⟩ | ⟨e',q2,R2,D2,S2⟩
  ·exact .inl ⟨e',q2,R.trans R2,c2⟩
  ·exact .inr ⟨e',q2,R.trans R2,D2,S2⟩
theorem aO4 (hk:1<=k/\k<=4) (h:r.ac l (joW k)=false) (h0:r.er=0):Sim l (.lp k a) r a false r:=by
 intro q q' ma D C S;refine .inr ⟨h0,q',.refl,by rw [Bool.or_false];exact D,λ_=>S.s8 (by omega),λ_=>S.s7 (by omega),λ_=>S.s6 (by omega),λj h1 h2 h3=>?_⟩
 by_cases e:j=k
 ·rw [e,D.c];exact h
 ·exact S.sj j (by omega) h2 h3
theorem aO5 (hk:k=7\/k=8) (h:∀ i,HR k i->r.ac l (lT.getD i [])=false) (h0:r.er=0):Sim l (.lp k a) r a false r:=by
 intro q q' ma D C S
 have z:∀ i,HR k i->q'.c.ac l (lT.getD i [])=true->(rC q'.x).wh=true:=λi hi ha=>by
  rw [D.c,h i hi] at ha;cases ha
 refine .inr ⟨h0,q',.refl,by rw [Bool.or_false];exact D,λ_=>?_,λe=>?_,λe=>by omega,λj h1 h2 h3=>by omega⟩
 ·rcases hk with rfl | rfl
  ·exact S.s8 (by decide)
  ·exact z
 ·rcases hk with rfl | rfl
  ·exact z
  ·omega
theorem aO7 (hk:1<=k/\k<=4) (h:r.ac l (joW k)=true) (h1:Gd l (.lev (k+1)) (r.jnS l k) y m r1) (h2:Gd l (.lp k (mdN ((r.jnF l k).wAr [a.f,y.f]))) r1 n m' r2)
 (i1:(r.jnS l k).er=0->Sim l (.lev (k+1)) (r.jnS l k) y m r1) (i2:r1.er=0->Sim l (.lp k (mdN ((r.jnF l k).wAr [a.f,y.f]))) r1 n m' r2):Sim l (.lp k a) r n ((m || (!a.fm || !y.fm)) || m') r2:=by
 intro q q' ma D C S;obtain ⟨va,hs,hn⟩:=aD2 D hk C h;obtain ⟨c1,c2,c3,c4,c5⟩:=C.lo (by omega);have R:=Rch.one (by rw [D.c];exact jE h) D.dn hs
 by_cases hj:(r.jnS l k).er=0
 ·have C2:Ctx l (k+1) ⟨r.jnS l k,⟨6,k,false,0,r.jnF l k⟩::q.op,(va::q.x.1,q.x.2 || ma),false,false⟩:=LM (K:=6) (by omega) rfl rfl rfl (by decide) (show k<=5 by omega) (λ_=>cO k);rcases i1 hj _ rfl rfl rfl C2 with ⟨e,q3,R3,c3⟩ | ⟨e,q3,R3,D3,S3⟩
  ·have:=BF h2 e;subst this;exact .inl ⟨e,q3,R.trans R3,c3⟩
  ·have D4:Rdy k q q3 (mdN ((r.jnF l k).wAr [a.f,y.f])) (ma || (m || (!a.fm || !y.fm))) r1:=by
    refine D3.up rfl (aX k) (Nat.le_succ k) c1.symm (λv hv=>⟨_,bX5.trans (Prod.ext rfl (bU5 hn hv)),λhm=>?_⟩) (λe=>by omega);have hm1:=orF hm;have hm2:=orF hm1.2;have hm3:=orF hm2.2;have hv':=hv hm2.1;have hn':=hn hm1.1;rw [hn'.f (by simpa using hm3.1),hv'.f (by simpa using hm3.2)];exact .md _
   rcases i2 e q q3 _ D4 C S3 with ⟨e',q4,R4,c4⟩ | ⟨e',q4,R4,D5,S5⟩
   ·exact .inl ⟨e',q4,(R.trans R3).trans R4,c4⟩
   ·exact .inr ⟨e',q4,(R.trans R3).trans R4,by rw [Bool.or_assoc] at D5;exact D5,S5⟩
 ·have:=BF h1 hj;subst this;have:=BF h2 hj;subst this;exact .inl ⟨hj,_,R,Z⟩
theorem bD5 (hk:HR k i) (h:r.ac l (lT.getD i [])=true) (h2:Gd l (.lp k (vlN (opB i [a.e,y.e]))) r1 n m' r2) (i1:r.nx.er=0->Sim l (.lev (k+1)) r.nx y m r1) (i2:r1.er=0->Sim l (.lp k (vlN (opB i [a.e,y.e]))) r1 n m' r2) :
 Sim l (.lp k a) r n ((m || (!a.tm || !y.tm)) || m') r2:=by
 intro q q' ma D C S
 have hk7:(k=7\/k=8)/\11<=i/\i<=15:=by
  rcases hk with ⟨rfl,e⟩ | ⟨rfl,e⟩
  ·exact ⟨.inl rfl,by omega⟩
  ·exact ⟨.inr rfl,by omega⟩
 obtain ⟨va,hs,hn⟩:=aN8 D hk C h;have R:=Rch.one (by rw [D.c];exact jE h) D.dn hs;have C2:Ctx l (k+1) ⟨r.nx,⟨9,k,(dM q).tm,UInt8.ofNat i,zF⟩::q.op,(va::q.x.1,q.x.2 || ma),false,false⟩:=XW (by omega) (.inl (cO k)) (XM (by show 5<k;omega)) (by show (9:UInt8)≠5;decide);rcases i1 (show r.nx.er=0 from (jE h:r.er=0)) _ rfl rfl rfl C2 with ⟨e,q3,R3,c3⟩ | ⟨e,q3,R3,D3,S3⟩
 ·have:=BF h2 e;subst this;exact .inl ⟨e,q3,R.trans R3,c3⟩
 ·have hop:¬ UInt8.ofNat i=5:=by
   intro e;have:=congrArg UInt8.toNat e;rw [dW (show i<256 by omega)] at this;have h5:(5:UInt8).toNat=5:=rfl;omega
  have D4:Rdy k q q3 (vlN (opB i [a.e,y.e])) (ma || (m || (!a.tm || !y.tm))) r1:=by
   refine D3.up rfl (aX k) (Nat.le_succ k) rfl (λv hv=>⟨_,bX2.trans (Prod.ext rfl (bL0 hn hv)),λhm=>?_⟩) (λe=>D3.wh (by omega));have hm1:=orF hm;have hm2:=orF hm1.2;have hm3:=orF hm2.2;rw [(hn hm1.1).e (by simpa using hm3.1),(hv hm2.1).e (by simpa using hm3.2)];exact .vl' hop
  rcases i2 e q q3 _ D4 C S3 with ⟨e',q4,R4,c4⟩ | ⟨e',q4,R4,D5,S5⟩
  ·exact .inl ⟨e',q4,(R.trans R3).trans R4,c4⟩
  ·exact .inr ⟨e',q4,(R.trans R3).trans R4,by rw [Bool.or_assoc] at D5;exact D5,S5⟩
theorem bC6 {op:UInt8} (hp:(w,op)∈IS) (h:r.ac l w=true) (h1:Gd l (.lev 5) (r.prS l op) x m r1) (i1:(r.prS l op).er=0->Sim l (.lev 5) (r.prS l op) x m r1):Sim l (.lev 5) r (mdN ((r.prF l op).wAr [x.f])) (m || !x.fm) r1:=by
 intro q hc hr hd C;subst hc;obtain ⟨c1,c2,c3,c4,c5⟩:=C.lo (by omega);have st:=TQ hr (aU5 c1 c4) (zH h hp);refine BX (c:=q.c.prS l op) hr hd (jE h) st (λhj=>?_) λhj R=>?_
 ·have:=BF h1 hj;subst this;exact .inl ⟨hj,_,.one (jE h) hd st,Z⟩
 ·have ht:dM (fK ⟨7,5,false,0,q.c.prF l op⟩ (q.at (q.c.prS l op)))=⟨7,5,false,0,q.c.prF l op⟩:=by
   rw [aP6];show Ov.inh _ (dM q).tm=_;rw [c1];rfl
  have C2:Ctx l 5 (fK ⟨7,5,false,0,q.c.prF l op⟩ (q.at (q.c.prS l op))):=LM (K:=7) (by decide) ht rfl rfl (by decide) (aX 5) (λe=>by omega);rcases i1 hj (fK ⟨7,5,false,0,q.c.prF l op⟩ (q.at (q.c.prS l op))) rfl rfl hd C2 with ⟨e,q3,R3,c3⟩ | ⟨e,q3,R3,D3,S3⟩
  ·exact .inl ⟨e,q3,R.trans R3,c3⟩
  ·refine .inr ⟨e,q3,R.trans R3,?_,S3⟩;refine D3.up (o:=⟨7,5,false,0,q.c.prF l op⟩) (by show Ov.inh _ (dM q).tm::q.op=_;rw [c1];rfl) (aX 5) (aX 5) c1.symm (λv hv=>⟨_,bX4.trans (Prod.ext rfl ?_),λhm=>?_⟩) (λe=>by omega)
   ·show ((q.x.2 || m) || v.noF)=(q.x.2 || (m || !x.fm));rw [Bool.or_assoc,aQ3 hv]
   ·have hm2:=orF hm;rw [(hv hm2.1).f (by simpa using hm2.2)];exact .md _
end
section
variable {l:Tks} {q q' q'':Ps} {w w':Str} {c r r' r1 r2:Rq} {k i:Nat} {n x y a:Fn} {m m' ma b:Bool} {v u:Vl} {V:List Vl} {f:Fm}
theorem aB0 {o:Ov} (ht:dM q=o) (hk:o.kd=2) (h:q.c.ac l [41]=true):lV l q=GA q.c.nx ⟨(rC q.x).tm,false,(rC q.x).e,(rC q.x).f⟩ (q.x.1.tail,q.x.2) q:=by
 subst ht;unfold lV;rw [aG (λe=>by rw [hk] at e;exact absurd e.1 (by decide)),aL ⟨hk,h⟩]
theorem aB3 {o:Ov} (ht:dM q=o) (hk:o.kd=3) (h:q.c.ac l [41]=true):lV l q=GA ((q.c.nx.exS l [62,61]).nbS l) ⟨false,true,zE,((dM q).f.wEx [.mk 1 [] ((q.c.nx.exS l [62,61]).nbV l) []]).wAr [fF q.x]⟩ (fS q.x) q:=by
 subst ht;unfold lV;rw [aG (λe=>by rw [hk] at e;exact absurd e.1 (by decide)),aG (λe=>by rw [hk] at e;exact absurd e.1 (by decide)),aL ⟨hk,h⟩]
theorem aB2 {o:Ov} (ht:dM q=o) (hk:o.kd=4) (ho:o.op=6) (h:q.c.ac l [93]=true):lV l q=GA q.c.nx (tmv (.mk 6 o.f.nm 0 [tE q.x])) (tS q.x) q:=by
 subst ht;unfold lV;rw [aG (λe=>by rw [hk] at e;exact absurd e.1 (by decide)),aG (λe=>by rw [hk] at e;exact absurd e.1 (by decide)),aG (λe=>by rw [hk] at e;exact absurd e.1 (by decide)),aL ⟨hk,h⟩,aL ho]
theorem aB1 {o:Ov} (ht:dM q=o) (hk:o.kd=4) (ho:¬ o.op=6) (h:q.c.ac l [93]=true):lV l q=GA q.c.nx (fmv (o.f.wEx [tE q.x])) (tS q.x) q:=by
 subst ht;unfold lV;rw [aG (λe=>by rw [hk] at e;exact absurd e.1 (by decide)),aG (λe=>by rw [hk] at e;exact absurd e.1 (by decide)),aG (λe=>by rw [hk] at e;exact absurd e.1 (by decide)),aL ⟨hk,h⟩,aG ho]
theorem GB {o:Ov} (ht:dM q=o) (hk:o.kd=5) (h:q.c.ac l [44]=true):lV l q=⟨q.c.nx,⟨o.kd,o.lv,o.tm,o.op,o.f.wEx (o.f.ex++[tE q.x])⟩::q.op.tail,tS q.x,false,q.dn⟩:=by
 subst ht;unfold lV;rw [aG (λe=>by rw [hk] at e;exact absurd e.1 (by decide)),aG (λe=>by rw [hk] at e;exact absurd e.1 (by decide)),aG (λe=>by rw [hk] at e;exact absurd e.1 (by decide)),aG (λe=>by rw [hk] at e;exact absurd e.1 (by decide)),aL ⟨hk,h⟩]
theorem GC {o:Ov} (ht:dM q=o) (hk:o.kd=5) (h:q.c.ac l [41]=true):lV l q=GA q.c.nx (fmv (o.f.wEx (o.f.ex++[tE q.x]))) (tS q.x) q:=by
 subst ht;unfold lV;rw [aG (λe=>by rw [hk] at e;exact absurd e.1 (by decide)),aG (λe=>by rw [hk] at e;exact absurd e.1 (by decide)),aG (λe=>by rw [hk] at e;exact absurd e.1 (by decide)),aG (λe=>by rw [hk] at e;exact absurd e.1 (by decide)),aG (λe=>absurd e.2 (nw h (by decide))),aL ⟨hk,h⟩]
theorem KH (D:Rdy k q q' n ma r) (hk:1<=k) (ht:(dM q).lv=0):∃ v,jP 1 q'=⟨r,q.op,(v::q.x.1,q.x.2 || ma),true,false⟩/\(ma=false->Nok v n):=(D.mono hk (λe=>by omega)).red (by rw [ht];decide)
theorem PX (D:Rdy 7 q q' n ma r) (ht:(dM q).lv<7):dM (jP 7 q')=dM q:=by
 obtain ⟨v,e,_⟩:=D.red ht;rw [e];rfl
theorem aW7 (G:Tgd l) {o:Ov} (D:Rdy 1 q q' n m r) (S:Stop l 1 q') (h0:r.er=0) (ht:dM q=o) (hl:o.lv=0) (hk:o.kd=2\/o.kd=3) (h:r.ac l [41]=false):∃ q'',Rch l q' q''/\q''.c=r.fail l 8:=by
 obtain ⟨v,e,_⟩:=KH D (aX 1) (by rw [ht];exact hl);have t2:dM (jP 1 q')=o:=by rw [e];exact ht
 have:=FH G (by rw [D.c];exact h0) D.rd D.dn (.inl S) (by
  rw [BL (by rw [t2];rcases hk with hk | hk <;> rw [hk] <;> intro e <;> exact absurd e (by decide)) (λ_=>by rw [show (jP 1 q').c=r from D.c];exact h) (by rw [t2];rcases hk with hk | hk <;> rw [hk] <;> intro e <;> exact absurd e (by decide)) (by rw [t2];rcases hk with hk | hk <;> rw [hk] <;> intro e <;> exact absurd e (by decide))];rfl)
 rw [D.c] at this;exact this
theorem bR7 (G:Tgd l) {o:Ov} (D:Rdy 7 q q' n m r) (S:Stop l 7 q') (h0:r.er=0) (ht:dM q=o) (hl:o.lv=0) (htm:o.tm=true) (hk:o.kd=4) (h:r.ac l [93]=false):∃ q'',Rch l q' q''/\q''.c=r.fail l 8:=by
 obtain ⟨v,e,_⟩:=KH D (by decide) (by rw [ht];exact hl);have t2:dM (jP 1 q')=o:=by rw [e];exact ht
 have:=FH G (by rw [D.c];exact h0) D.rd D.dn (.inr ⟨S,by rw [D.top,ht];exact htm,by rw [PX D (by rw [ht,hl];decide),ht];exact htm⟩) (by
  rw [BL (by rw [t2,hk];intro e;exact absurd e (by decide)) (by rw [t2,hk];intro e;exact absurd e (by decide)) (λ_=>by rw [show (jP 1 q').c=r from D.c];exact h) (by rw [t2,hk];intro e;exact absurd e (by decide))];rfl)
 rw [D.c] at this;exact this
theorem bD1 (G:Tgd l) (h:r.ac l [99,111,117,110,116]=true) (h1:Gd l (.lev 1) ((r.nx.amS l).exS l [40]) x m r1) (i1:((r.nx.amS l).exS l [40]).er=0->Sim l (.lev 1) ((r.nx.amS l).exS l [40]) x m r1) :
 Sim l (.lev 5) r (mdN (((r.nx.amV l 18).wEx [.mk 1 [] (((r1.exS l [41]).exS l [62,61]).nbV l) []]).wAr [x.f])) (m || !x.fm) (((r1.exS l [41]).exS l [62,61]).nbS l):=by
 intro q hc hr hd C;subst hc;obtain ⟨c1,c2,c3,c4,c5⟩:=C.lo (by omega);have st:=TQ hr (aU5 c1 c4) (TH h);have bad {z:Rq} (e:z.er≠0):((z.exS l [41]).exS l [62,61]).nbS l=z:=((Mq.exS.trans .exS).trans .nbS).er e;refine BX (c:=(q.c.nx.amS l).exS l [40]) hr hd (jE h) st (λhj=>?_) λhj R=>?_
 ·have:=BF h1 hj;subst this;rw [bad hj];exact .inl ⟨hj,_,.one (jE h) hd st,Z⟩
 ·have C2:Ctx l 1 (fK ⟨3,0,false,0,q.c.nx.amV l 18⟩ (q.at ((q.c.nx.amS l).exS l [40]))):=LM (o:=⟨3,0,false,0,q.c.nx.amV l 18⟩) (K:=3) (by decide) rfl rfl rfl (by decide) (show (0:Nat)<=5 by decide) (λ_=>(show (0:Nat)<1 by decide));rcases i1 hj (fK ⟨3,0,false,0,q.c.nx.amV l 18⟩ (q.at ((q.c.nx.amS l).exS l [40]))) rfl rfl hd C2 with ⟨e,q3,R3,c3⟩ | ⟨e,q3,R3,D3,S3⟩
  ·rw [bad e];exact .inl ⟨e,q3,R.trans R3,c3⟩
  ·cases ha:r1.ac l [41] with
   | false =>
    obtain ⟨q4,R4,c4⟩:=aW7 G D3 S3 e rfl rfl (.inr Z) ha;have hf:(r1.exS l [41]).er≠0:=by rw [NZ ha];exact uD (by decide)
    have e2:((r1.exS l [41]).exS l [62,61]).nbS l=r1.fail l 8:=by
     rw [<-NZ ha];exact (Mq.trans .exS .nbS).er hf
    rw [e2];exact .inl ⟨uD (by decide),q4,(R.trans R3).trans R4,c4⟩
   | true =>
    obtain ⟨v,ev,hn⟩:=KH D3 (aX 1) rfl;have s4:kM l q3=_:=EV D3.rd (by rw [D3.c];exact ha) (.inl Z);rw [ev,aB3 (o:=⟨3,0,false,0,q.c.nx.amV l 18⟩) rfl rfl ha] at s4;have R4:=(R.trans R3).trans (.one (by rw [D3.c];exact e) D3.dn s4);rw [OB ha]
    by_cases hz:((r1.nx.exS l [62,61]).nbS l).er=0
    ·refine .inr ⟨hz,_,R4,⟨Z,Z,Z,⟨[],_,Z,λp hp=>(by cases hp),Prod.ext Z ?_,λhm=>?_⟩,λe=>by omega⟩,⟨λ_ i _ _=>rfl,λ_ i _ _=>rfl,λ_ i _ _ _=>.inl Z,λj e _ _=>by omega⟩⟩
     ·show ((q.x.2 || m) || v.noF)=(q.x.2 || (m || !x.fm));rw [Bool.or_assoc,aQ3 hn]
     ·have hm2:=orF hm;have hf:fF (v::q.x.1,q.x.2 || m)=x.f:=(hn hm2.1).f (by simpa using hm2.2);refine ⟨Z,λh=>(by cases h),Z,λ_=>?_⟩;show ((q.c.nx.amV l 18).wEx _).wAr [fF (v::q.x.1,q.x.2 || m)]=_;rw [hf];rfl
    ·exact .inl ⟨hz,_,R4,Z⟩
theorem aO8 (hp:∀ w op,(w,op)∈IS->r.ac l w=false) (hc:r.ac l [99,111,117,110,116]=false) (i1:Sim l (.lev 6) r x m r1):Sim l (.lev 5) r x m r1:=by
 intro q hq hr hd C;subst hq;obtain ⟨c1,c2,c3,c4,c5⟩:=C.lo (by omega);have C2:Ctx l 6 q:=⟨λe=>by omega,λ_=>⟨c1,c3,by omega⟩,λe=>by omega,λ_=>kA (.inr (ZG hp hc)) λe=>absurd e c2⟩;rcases i1 q rfl hr hd C2 with ⟨e,q3,R3,c3⟩ | ⟨e,q3,R3,D3,S3⟩
 ·exact .inl ⟨e,q3,R3,c3⟩
 ·exact .inr ⟨e,q3,R3,D3.mono (by decide) (λe=>by omega),⟨λ_=>S3.s8 (by decide),λ_=>S3.s7 (by decide),λ_=>S3.s6 (by decide),λj e h1 h2=>by omega⟩⟩
theorem Ctx.to7 (C:Ctx l 6 q):Ctx l 7 q:=⟨λe=>by omega,λe=>by omega,λ_=>(C.c6 rfl).2.2,λ_=>C.hop (by decide)⟩
theorem bD3 (h:∀ i,16<=i->i<=21->r1.ac l (lT.getD i [])=false) (i1:Sim l (.lev 7) r x m r1):Sim l (.lev 6) r x m r1:=by
 intro q hq hr hd C;rcases i1 q hq hr hd C.to7 with ⟨e,q3,R3,c3⟩ | ⟨e,q3,R3,D3,S3⟩
 ·exact .inl ⟨e,q3,R3,c3⟩
 ·exact .inr ⟨e,q3,R3,D3.mono (by decide) (λ_=>by decide),⟨λ_=>S3.s8 (by decide),λ_=>S3.s7 (by decide),λ_ i h1 h2 ha=>(by rw [D3.c,h i h1 h2] at ha;cases ha),λj e h1 h2=>by omega⟩⟩
theorem bD2 (hi:16<=i/\i<=21) (h:r1.ac l (lT.getD i [])=true) (i1:Sim l (.lev 7) r x m r1) (i2:r1.nx.er=0->Sim l (.lev 7) r1.nx y m' r2) :
 Sim l (.lev 6) r (mdN (.mk 3 [] [] 0 0 [opB i [x.e,y.e]] [])) ((m || m') || (!x.tm || !y.tm)) r2:=by
 intro q hq hr hd C;obtain ⟨c1,c2,c3⟩:=C.c6 rfl;rcases i1 q hq hr hd C.to7 with ⟨e,q3,R3,c3⟩ | ⟨e,q3,R3,D3,S3⟩
 ·exact absurd (jE h) e
 ·obtain ⟨va,hs,hn⟩:=aN7 D3 hi C h;have R:=R3.trans (.one (by rw [D3.c];exact e) D3.dn hs);have C2:Ctx l 7 ⟨r1.nx,⟨8,6,false,UInt8.ofNat i,zF⟩::q.op,(va::q.x.1,q.x.2 || m),false,false⟩:=XW (by decide) (.inl (by show 6<7;decide)) (XM (by show 5<6;decide)) (by show (8:UInt8)≠5;decide);rcases i2 e _ rfl rfl rfl C2 with ⟨e',q4,R4,c4⟩ | ⟨e',q4,R4,D4,S4⟩
  ·exact .inl ⟨e',q4,R.trans R4,c4⟩
  ·refine .inr ⟨e',q4,R.trans R4,?_,⟨λ_=>S4.s8 (by decide),λ_=>S4.s7 (by decide),λ_ i h1 h2 ha=>.inr ?_,λj e h1 h2=>by omega⟩⟩
   ·refine D4.up rfl (aX 6) (by decide) c1.symm (λv hv=>⟨_,bX3.trans (Prod.ext rfl ?_),λhm=>?_⟩) (λe=>D4.wh (by decide))
    ·rw [bL0 hn hv,Bool.or_assoc]
    ·rw [Bool.or_assoc] at hm;have hm1:=orF hm;have hm2:=orF hm1.2;have hm3:=orF hm2.2;rw [(hn hm1.1).e (by simpa using hm3.1),(hv hm2.1).e (by simpa using hm3.2)];exact .md _
   ·rw [PX D4 (by show 6<7;decide)];rfl
theorem bC8 (h:r.ac l [45]=true) (i1:r.nx.er=0->Sim l (.lev 9) r.nx x m r1):Sim l (.lev 9) r (vlN (.mk 9 [] 0 [x.e])) (m || !x.tm) r1:=by
 intro q hq hr hd C;subst hq;have st:kM l q=fK ⟨10,9,false,0,zF⟩ (q.at q.c.nx):=by rw [sY hr,C.hop (by decide),QE h]
 have R:=Rch.one (jE h) hd st;have C2:Ctx l 9 (fK ⟨10,9,false,0,zF⟩ (q.at q.c.nx)):=XW (by decide) (.inr (aX 9)) (XM (by show 5<9;decide)) (by show (10:UInt8)≠5;decide);rcases i1 (jE h:q.c.er=0) (fK ⟨10,9,false,0,zF⟩ (q.at q.c.nx)) rfl rfl hd C2 with ⟨e,q3,R3,c3⟩ | ⟨e,q3,R3,D3,S3⟩
 ·exact .inl ⟨e,q3,R.trans R3,c3⟩
 ·refine .inr ⟨e,q3,R.trans R3,?_,BS (by decide)⟩;refine D3.up (o:=⟨10,9,(dM q).tm,0,zF⟩) rfl (aX 9) (aX 9) rfl (λv hv=>⟨_,bS0.trans (Prod.ext rfl ?_),λhm=>?_⟩) (λe=>D3.wh (by decide))
  ·show ((q.x.2 || m) || !v.tm)=(q.x.2 || (m || !x.tm));rw [Bool.or_assoc,aQ2 hv]
  ·have hm2:=orF hm;rw [(hv hm2.1).e (by simpa using hm2.2)];exact .vl' (by decide)
theorem bC5 (i1:Sim l (.lev 10) r x m r1):Sim l (.lev 9) r x m r1:=by
 intro q hq hr hd C;have C2:Ctx l 10 q:=⟨λe=>by omega,λe=>by omega,λe=>by omega,λ_=>C.hop (by decide)⟩;rcases i1 q hq hr hd C2 with ⟨e,q3,R3,c3⟩ | ⟨e,q3,R3,D3,S3⟩
 ·exact .inl ⟨e,q3,R3,c3⟩
 ·exact .inr ⟨e,q3,R3,D3.mono (by decide) (λ_=>by decide),BS (by decide)⟩
end
theorem WP {a b:Str} (h:eJ a=none):eJ (a++[46]++b)=some (a,b):=by
 induction a with
 | nil=>rfl
 | cons c r ih =>
  rw [eJ] at h
  by_cases hc:c=46
  ·rw [aL hc] at h;cases h
  ·rw [aG hc] at h;have h2:eJ r=none:=xG.1 h;show eJ (c::(r++[46]++b))=_;rw [eJ,aG hc,ih h2];rfl
section
variable {l:Tks} {q q' q'':Ps} {w w':Str} {c r r' r1 r2:Rq} {k i:Nat} {n x y a:Fn} {m m' ma b:Bool} {v u:Vl} {V:List Vl} {f:Fm}
theorem bW9 {o:Ov} (hq:dM q=o) (h1:o.lv=0) (h2:o.tm=true) (h5:o.kd=5->q.c.ac l [95]=false):Ctx l 7 q:=by
 subst hq;exact ⟨λe=>by omega,λe=>by omega,λ_=>by omega,λ_=>kA (.inl (bQ7 h2)) h5⟩
theorem ZC (G:Tgd l) {o:Ov} {N:Fn} {F:Ex->Vl} (hr:q.rd=false) (hd:q.dn=false) (h0:q.c.er=0) (st:kM l q=fK o (q.at c)) (hl:o.lv=0) (htm:o.tm=true) (hk:o.kd=4)
 (h1:Gd l (.lev 7) c x m r1) (i1:c.er=0->Sim l (.lev 7) c x m r1) (hF:∀ v:Vl,(F v.e).wh=false) (hN:(m || !x.tm)=false->Nok (F x.e) N)
 (hc:∀ q:Ps,dM q=o->q.c.ac l [93]=true->lV l q=GA q.c.nx (F (tE q.x)) (tS q.x) q):((r1.exS l [93]).er≠0/\∃ q',Rch l q q'/\q'.c=r1.exS l [93])\/((r1.exS l [93]).er=0/\∃ q',Rch l q q'/\Rdy 10 q q' N (m || !x.tm) (r1.exS l [93])/\Stop l 10 q'):=by
 have inh:o.inh (dM q).tm=o:=by unfold Ov.inh;rw [aG (by omega)]
 refine BX hr hd h0 st (λhj=>?_) λhj R=>?_
 ·have:=BF h1 hj;subst this;rw [RL hj];exact .inl ⟨hj,_,.one h0 hd st,Z⟩
 ·have ht:dM (fK o (q.at c))=o:=inh;have hop:(fK o (q.at c)).op=o::q.op:=by show Ov.inh _ _::_=_;rw [show dM (q.at c)=dM q from rfl,inh];rfl
  rcases i1 hj (fK o (q.at c)) rfl rfl hd (bW9 ht hl htm λe=>by rw [hk] at e;exact absurd e (by decide)) with ⟨e,q3,R3,c3⟩ | ⟨e,q3,R3,D3,S3⟩
  ·rw [RL e];exact .inl ⟨e,q3,R.trans R3,c3⟩
  ·cases ha:r1.ac l [93] with
   | false =>
    obtain ⟨q4,R4,c4⟩:=bR7 G D3 S3 e ht hl htm hk ha;rw [NZ ha];exact .inl ⟨uD (by decide),q4,(R.trans R3).trans R4,c4⟩
   | true =>
    obtain ⟨v,ev,hn⟩:=KH D3 (by decide) (by rw [ht];exact hl);have s4:kM l q3=_:=EV D3.rd (by rw [D3.c];exact ha) (.inr (.inl Z));rw [ev,hop,hc _ rfl ha] at s4;rw [OB ha];refine .inr ⟨e,_,(R.trans R3).trans (.one (by rw [D3.c];exact e) D3.dn s4),?_,BS (by decide)⟩;have e2:(tS (v::q.x.1,q.x.2 || m))=(q.x.1,q.x.2 || (m || !x.tm)):=Prod.ext rfl (by show ((q.x.2 || m) || !v.tm)=_;rw [Bool.or_assoc,aQ2 hn]);show Rdy 10 q ⟨r1.nx,q.op,((tS (v::q.x.1,q.x.2 || m)).put (F v.e)),true,false⟩ N _ _;rw [e2];refine QI (λhm=>?_) λ_=>hF v;have hm2:=orF hm;rw [(hn hm2.1).e (by simpa using hm2.2)];exact hN hm
theorem bC9 (G:Tgd l) (h:r.ac l [104,97,115]=true) (h1:Gd l (.lev 7) ((r.nx.paS l).exS l [91]) x m r1) (i1:((r.nx.paS l).exS l [91]).er=0->Sim l (.lev 7) ((r.nx.paS l).exS l [91]) x m r1) :
 Sim l (.lev 10) r (mdN ((r.nx.paV l 5).wEx [x.e])) (m || !x.tm) (r1.exS l [93]):=by
 intro q hq hr hd C;subst hq
 exact ZC G (o:=⟨4,0,true,0,q.c.nx.paV l 5⟩) (F:=λe=>fmv ((q.c.nx.paV l 5).wEx [e])) hr hd (jE h) (by rw [sY hr,C.hop (by decide),QF h]) rfl rfl rfl h1 i1 (λ_=>rfl) (λ_=>.md _)
  (λq ht ha=>aB1 ht rfl (by show ¬ (0:UInt8)=6;decide) ha)
theorem bD0 (G:Tgd l) (h0:r.er=0) (hk:(tkf l r.i).k=1) (hd':r.nx.ac l [46]=true) (hb:(r.nx.nx.nmS l).ac l [91]=true) (h1:Gd l (.lev 7) (r.nx.nx.nmS l).nx x m r1) (i1:(r.nx.nx.nmS l).nx.er=0->Sim l (.lev 7) (r.nx.nx.nmS l).nx x m r1) :
 Sim l (.lev 10) r (vlN (.mk 6 (r.ful l) 0 [x.e])) (m || !x.tm) (r1.exS l [93]):=by
 intro q hq hr hd C;subst hq
 exact ZC G (o:=⟨4,0,true,6,.mk 0 (q.c.ful l) [] 0 0 [] []⟩) (F:=λe=>tmv (.mk 6 (q.c.ful l) 0 [e])) hr hd h0 (by rw [sY hr,C.hop (by decide),FC hk,bT4 h0 hk hd' hb]) rfl rfl rfl h1 i1 (λ_=>rfl) (λ_=>.vl' (by decide))
  (λq ht ha=>aB2 ht rfl rfl ha)
theorem bC7 (G:Tgd l) (h:r.ac l [40]=true) (i1:r.nx.er=0->Sim l (.lev 1) r.nx x m r1):Sim l (.lev 10) r x m (r1.exS l [41]):=by
 intro q hq hr hd C;subst hq;have st:kM l q=fK ⟨2,0,false,0,zF⟩ (q.at q.c.nx):=by rw [sY hr,C.hop (by decide),QA h]
 have R:=Rch.one (jE h) hd st;have C2:Ctx l 1 (fK ⟨2,0,false,0,zF⟩ (q.at q.c.nx)):=LM (o:=⟨2,0,false,0,zF⟩) (K:=2) (by decide) rfl rfl rfl (by decide) (show (0:Nat)<=5 by decide) (λ_=>(show (0:Nat)<1 by decide));rcases i1 (jE h:q.c.er=0) (fK ⟨2,0,false,0,zF⟩ (q.at q.c.nx)) rfl rfl hd C2 with ⟨e,q3,R3,c3⟩ | ⟨e,q3,R3,D3,S3⟩
 ·rw [RL e];exact .inl ⟨e,q3,R.trans R3,c3⟩
 ·cases ha:r1.ac l [41] with
  | false =>
   obtain ⟨q4,R4,c4⟩:=aW7 G D3 S3 e rfl rfl (.inl Z) ha;rw [NZ ha];exact .inl ⟨uD (by decide),q4,(R.trans R3).trans R4,c4⟩
  | true =>
   obtain ⟨v,ev,hn⟩:=KH D3 (aX 1) rfl;have s4:kM l q3=_:=EV D3.rd (by rw [D3.c];exact ha) (.inl Z);rw [ev,aB0 (o:=⟨2,0,false,0,zF⟩) rfl rfl ha] at s4;rw [OB ha];refine .inr ⟨e,_,(R.trans R3).trans (.one (by rw [D3.c];exact e) D3.dn s4),?_,BS (by decide)⟩;exact QI (v:=⟨v.tm,false,v.e,v.f⟩) (λhm=>⟨(hn hm).tm,(hn hm).e,(hn hm).fm,(hn hm).f⟩) λ_=>rfl
theorem bD4 (h:r.ac l [97,114,114,105,118,101,115]=true) (h0:((r.nx.paS l).exS l [40]).ac l [41]=false) (h1:Gd l (.arg (r.nx.paV l 7)) ((r.nx.paS l).exS l [40]) n m r1) (i1:((r.nx.paS l).exS l [40]).er=0->Sim l (.arg (r.nx.paV l 7)) ((r.nx.paS l).exS l [40]) n m r1) :
 Sim l (.lev 10) r n m r1:=by
 intro q hq hr hd C;subst hq;have st:kM l q=fK ⟨5,0,true,0,q.c.nx.paV l 7⟩ (q.at ((q.c.nx.paS l).exS l [40])):=by rw [sY hr,C.hop (by decide),JD h,bY0 h0]
 refine BX hr hd (jE h) st (λhj=>?_) λhj R=>?_
 ·have:=BF h1 hj;subst this;exact .inl ⟨hj,_,.one (jE h) hd st,Z⟩
 ·have eq:fK ⟨5,0,true,0,q.c.nx.paV l 7⟩ (q.at ((q.c.nx.paS l).exS l [40]))=⟨(q.c.nx.paS l).exS l [40],⟨5,0,true,0,q.c.nx.paV l 7⟩::q.op,(q.x.1,q.x.2 || false),false,false⟩:=by
   rw [Bool.or_false];unfold fK Ps.at
   rw [hd];rfl
  rw [eq] at R;rcases i1 hj q.op q.x.1 q.x.2 false _ (λ_=>rfl) with ⟨e,q3,R3,c3⟩ | ⟨e,v,R3,hw,hn⟩
  ·exact .inl ⟨e,q3,R.trans R3,c3⟩
  ·exact .inr ⟨e,_,R.trans R3,QI (λhm=>hn hm) λ_=>hw,BS (by decide)⟩
theorem bD6 (h:r.ac l [95]=true) (i1:r.nx.er=0->Sim l (.aft (f.wEx (f.ex++[zE]))) r.nx n m r1):Sim l (.arg f) r n m r1:=by
 intro O V b ma f' hf
 have st:kM l ⟨r,⟨5,0,true,0,f'⟩::O,(V,b || ma),false,false⟩=⟨r.nx,⟨5,0,true,0,f'⟩::O,(⟨true,true,zE,zF⟩::V,b || ma),true,false⟩:=by
  rw [sY rfl]
  have e:wH l ⟨r,⟨5,0,true,0,f'⟩::O,(V,b || ma),false,false⟩=iF ⟨true,true,zE,zF⟩ ⟨r.nx,⟨5,0,true,0,f'⟩::O,(V,b || ma),false,false⟩:=by
   unfold wH;rw [aL ⟨Z,h⟩];rfl
  exact e
 have R:=Rch.one (jE h) rfl st;rcases i1 (jE h:r.er=0) ⟨r.nx,⟨5,0,true,0,f'⟩::O,(⟨true,true,zE,zF⟩::V,b || ma),true,false⟩ O V ⟨true,true,zE,zF⟩ b (b || ma) ma f' rfl rfl rfl rfl rfl rfl (by rw [show (!(⟨true,true,zE,zF⟩:Vl).tm)=false from rfl,Bool.or_false]) (λhm=>by rw [hf hm]) (.inr rfl) with ⟨e,q3,R3,c3⟩ | ⟨e,v,R3,hw,hn⟩
 ·exact .inl ⟨e,q3,R.trans R3,c3⟩
 ·exact .inr ⟨e,v,R.trans R3,hw,hn⟩
theorem bD7 (h:r.ac l [95]=false) (h2:Gd l (.aft (f.wEx (f.ex++[x.e]))) r1 n m' r2) (h0:r.er=0) (i1:Sim l (.lev 7) r x m r1) (i2:r1.er=0->Sim l (.aft (f.wEx (f.ex++[x.e]))) r1 n m' r2):Sim l (.arg f) r n ((m || !x.tm) || m') r2:=by
 intro O V b ma f' hf;rcases i1 ⟨r,⟨5,0,true,0,f'⟩::O,(V,b || ma),false,false⟩ rfl rfl rfl (bW9 (o:=⟨5,0,true,0,f'⟩) rfl rfl rfl λ_=>h) with ⟨e,q3,R3,c3⟩ | ⟨e,q3,R3,D3,S3⟩
 ·have:=BF h2 e;subst this;exact .inl ⟨e,q3,R3,c3⟩
 ·obtain ⟨v,ev,hn⟩:=KH D3 (by decide) rfl;have t7:=PX D3 (show (0:Nat)<7 by decide)
  rcases i2 e q3 O V v b ((b || ma) || m) (ma || (m || !x.tm)) f' D3.c D3.rd D3.dn D3.top (by rw [t7];rfl) ev (by
   show (((b || ma) || m) || !v.tm)=_;rw [Bool.or_assoc,aQ2 hn,Bool.or_assoc]) (λhm=>by
   have hm1:=orF hm;have hm2:=orF hm1.2;rw [hf hm1.1,(hn hm2.1).e (by simpa using hm2.2)]) (.inl S3) with ⟨e',q4,R4,c4⟩ | ⟨e',u,R4,hw,hu⟩
  ·exact .inl ⟨e',q4,R3.trans R4,c4⟩
  ·refine .inr ⟨e',u,R3.trans ?_,hw,λhm=>hu ?_⟩
   ·rw [Bool.or_assoc] at R4;exact R4
   ·rw [Bool.or_assoc];exact hm
theorem bD9 (h:r.ac l [44]=true) (i1:r.nx.er=0->Sim l (.arg f) r.nx n m r1):Sim l (.aft f) r n m r1:=by
 intro q O V v b bb ma f' hc hr hd ht ht7 ev hb hf S;subst hc;have s4:kM l q=_:=EV hr h (.inr (.inr Z));rw [ev,GB (q:=⟨q.c,⟨5,0,true,0,f'⟩::O,(v::V,bb),true,false⟩) (o:=⟨5,0,true,0,f'⟩) rfl rfl h] at s4;have R:=Rch.one (jE h) hd s4;have eq:(⟨q.c.nx,⟨5,0,true,0,f'.wEx (f'.ex++[v.e])⟩::O,(V,bb || !v.tm),false,false⟩:Ps)=⟨q.c.nx,⟨5,0,true,0,f'.wEx (f'.ex++[v.e])⟩::O,(V,b || ma),false,false⟩:=by rw [hb]
 have R2:Rch l q ⟨q.c.nx,⟨5,0,true,0,f'.wEx (f'.ex++[v.e])⟩::O,(V,b || ma),false,false⟩:=by rw [<-eq];exact R
 rcases i1 (jE h:q.c.er=0) O V b ma _ hf with ⟨e,q3,R3,c3⟩ | ⟨e,u,R3,hw,hn⟩
 ·exact .inl ⟨e,q3,R2.trans R3,c3⟩
 ·exact .inr ⟨e,u,R2.trans R3,hw,hn⟩
theorem bD8 (G:Tgd l) (h:r.ac l [44]=false) (h0:r.er=0):Sim l (.aft f) r (mdN f) false (r.exS l [41]):=by
 intro q O V v b bb ma f' hc hr hd ht ht7 ev hb hf S;subst hc
 have S7:Stop l 7 q:=by
  rcases S with S | S
  ·exact S
  ·exact ⟨λ_ _ _ _=>S,λ_ _ _ _=>S,λe=>by omega,λj e _ _=>by omega⟩
 cases ha:q.c.ac l [41] with
 | false =>
  have t2:dM (jP 1 q)=⟨5,0,true,0,f'⟩:=by rw [ev];rfl
  have:=FH G h0 hr hd (.inr ⟨S7,ht,ht7⟩) (by
   rw [BL (q:=jP 1 q) (by rw [t2];intro e;exact absurd (show (5:UInt8)=_ from e) (by decide)) (λ_=>ha) (by rw [t2];intro e;exact absurd (show (5:UInt8)=_ from e) (by decide)) (λ_=>h)];rfl)
  rw [NZ ha];exact .inl ⟨uD (by decide),this⟩
 | true =>
  have s4:kM l q=_:=EV hr ha (.inl Z);rw [ev,GC (q:=⟨q.c,⟨5,0,true,0,f'⟩::O,(v::V,bb),true,false⟩) (o:=⟨5,0,true,0,f'⟩) rfl rfl ha] at s4;have R:=Rch.one h0 hd s4;rw [OB ha];refine .inr ⟨h0,fmv (f'.wEx (f'.ex++[v.e])),?_,Z,λhm=>?_⟩
  ·rw [Bool.or_false,<-hb];exact R
  ·rw [Bool.or_false] at hm;rw [hf hm];exact .md _
theorem NR (G:Tgd l) (h0:r.er=0) (hk:(tkf l r.i).k=1):eJ (r.nmV l)=none:=by rw [aR1 h0 hk];exact G.nm _ hk
theorem sim (G:Tgd l) {nt:Nt} (g:Gd l nt r n m r'):r.er=0->Sim l nt r n m r':=by
 have leaf {r c:Rq} {v:Vl} {n:Fn} (h0:r.er=0) (e:∀ q:Ps,q.c=r->pW l q=iF v (q.at c)) (hn:Nok v n) (hw:v.wh=false):Sim l (.lev 10) r n false c:=by
  intro q hq hr hd C;subst hq;exact aO6 hr hd h0 C (e q rfl) hn hw
 induction g with
 | seq hk h1 h2 i1 i2=>exact λh0=>bC4 hk h2 i1 i2 h0
 | outJ hk h=>exact aO4 hk h
 | outA hk h=>exact aO5 hk h
 | join hk h h1 h2 i1 i2=>exact λ_=>aO7 hk h h1 h2 i1 i2
 | ari hk h h1 h2 i1 i2=>exact λ_=>bD5 hk h h2 i1 i2
 | pre hp h h1 i1=>exact λ_=>bC6 hp h h1 i1
 | cnt h h1 i1=>exact λ_=>bD1 G h h1 i1
 | cmp0 hp hc h1 i1=>exact λh0=>aO8 hp hc (i1 h0)
 | cm0 h1 h i1=>exact λh0=>bD3 h (i1 h0)
 | cm1 hi h1 h h2 i1 i2=>exact λh0=>bD2 hi h (i1 h0) i2
 | neg h h1 i1=>exact λ_=>bC8 h i1
 | pri h h1 i1=>exact λh0=>bC5 (i1 h0)
 | bad h=>exact λh0=>absurd h0 h
 | num h hk=>exact λh0=>leaf h0 (λq e=>by subst e;exact QB hk) (.vl' (by decide)) rfl
 | now h=>exact λh0=>leaf h0 (λq e=>by subst e;exact QC h) (.vl' (by decide)) rfl
 | tru h=>exact λh0=>leaf h0 (λq e=>by subst e;exact PY h) (.md _) rfl
 | fal h=>exact λh0=>leaf h0 (λq e=>by subst e;exact QH h) (.md _) rfl
 | flg h=>exact λh0=>leaf h0 (λq e=>by subst e;exact QG h) (.md _) rfl
 | has h h1 i1=>exact λ_=>bC9 G h h1 i1
 | arr0 h h1=>exact λh0=>leaf h0 (λq e=>by subst e;rw [JD h];exact bY1 h1) (.md _) rfl
 | arr h h0 h1 i1=>exact λ_=>bD4 h h0 h1 i1
 | siz h=>exact λh0=>leaf h0 (λq e=>by subst e;exact PZ h) (.vl' (by decide)) rfl
 | par h h1 i1=>exact λ_=>bC7 G h i1
 | nam0 h hk hd=>exact λh0=>leaf h0 (λq e=>by subst e;rw [FC hk,bT6 h hk hd]) (.vl (.inr (NR G h hk))) rfl
 | @nam1 r h hk hd hb =>
  intro h0;have hs:eJ (r.ful l)=some (r.nmV l,r.nx.nx.nmV l):=by unfold Rq.ful;rw [TS h hk];exact WP (NR G h hk)
  refine leaf (v:=tmv (.mk 5 (r.ful l) 0 [])) h0 (λq e=>by subst e;rw [FC hk,bT5 h hk hd hb]) ⟨Z,λ_=>rfl,?_,λ_=>?_⟩ rfl
  ·show true=!(true && (!decide ((5:UInt8)=5) || (eJ (r.ful l)).isNone));rw [hs];rfl
  ·show Fm.mk 4 (spA (r.ful l)) (spB (r.ful l)) 0 0 [] []=_;unfold spA spB;rw [hs]
 | get h hk hd hb h1 i1=>exact λ_=>bD0 G h hk hd hb h1 i1
 | non h h0 h3 h1 hw =>
  intro _ q hq hr hd C;subst hq;have st:kM l q=q.at (q.c.fail l 8):=by rw [sY hr,C.hop (by decide),QD h0 h3 h1 hw]
  exact .inl ⟨uD (by decide),_,.one h hd st,Z⟩
 | arU h h1 i1=>exact λ_=>bD6 h i1
 | arT h h1 h2 i1 i2=>exact λh0=>bD7 h h2 h0 (i1 h0) i2
 | afC h h1 i1=>exact λ_=>bD9 h i1
 | afE h=>exact λh0=>bD8 G h h0
def KG (l:Tks) (r:Rq):Rq:=if r.er=0/\(tkf l r.i).k≠0 then r.fail l 8 else r
def aP2 (l:Tks) (n:Fn) (m:Bool) (r:Rq):Fm × Nat × Nat :=
 if ¬ (KG l r).er=0 then (zF,(KG l r).off,(KG l r).er)
 else if m || !n.fm then (zF,0,6)
 else if ¬ fN n.f=0 then (zF,0,fN n.f)
 else (n.f,0,0)
theorem zC {N:Nat} (h:Rch l q q') (hf:q'.fin) (hN:(AU l N q).fin):AU l N q=q':=by
 obtain ⟨k,e⟩:=h;have e1:=JC (l:=l) k N q;have e2:=JC (l:=l) N k q;rw [e,PW hf] at e1;rw [PW hN] at e2;rw [<-e2,Nat.add_comm,e1]
theorem bN8 (G:Tgd l) (hl:0<l.length) (g:Gd l (.lev 1) ⟨0,0,0⟩ n m r):AO l=aP2 l n m r:=by
 have F:=JB G.last l.length LB (PF hl) (by show l.length<=0+_;omega);have C:Ctx l 1 LB:=LM (o:=bO) (K:=1) (by decide) rfl rfl rfl (by decide) (by decide) (λ_=>by decide)
 have bad:∀ q':Ps,Rch l LB q'->q'.c.er≠0->q'.c=KG l r->AO l=aP2 l n m r:=λq' h e ec=>by
  unfold AO aP2 HM;rw [zC h (.inr e) F.1,aL e,ec,aL (by rw [<-ec];exact e)]
 rcases sim G g rfl LB rfl rfl rfl C with ⟨e,q3,R3,c3⟩ | ⟨e,q3,R3,D3,S3⟩
 ·exact bad q3 R3 (by rw [c3];exact e) (by rw [c3];unfold KG;rw [aG (λh=>e h.1)])
 ·obtain ⟨v,ev,hn⟩:=KH D3 (aX 1) rfl
  by_cases hk:(tkf l r.i).k=0
  ·have s4:kM l q3=lV l (jP 1 q3):=by
    have no {w:Str}:q3.c.is l w=false:=by
     unfold Rq.is;rw [D3.c,hk];rfl
    rw [yH D3.rd];unfold fJ;have:q3.c.sym l=none:=by unfold Rq.sym;rw [D3.c,aG (by rw [hk];decide)]
    rw [this];show qC l q3=_;unfold qC;rw [aG (by unfold Rq.wrd;rw [no,no,no,no];decide),aL (by unfold Rq.endB;rw [D3.c,hk];simp)]
   have s5:lV l (jP 1 q3)=⟨r,[bO],([v],false || m),true,true⟩:=by
    rw [ev];unfold lV;rw [aL ⟨Z,hk⟩];rfl
   have R:=R3.trans (.one (by rw [D3.c];exact e) D3.dn (s4.trans s5));have er:KG l r=r:=by unfold KG;rw [aG (λh=>h.2 hk)]
   unfold AO aP2 HM;have ne:¬ ¬ r.er=0:=by rw [e];decide
   rw [zC R (.inl Z) F.1,er,aG ne];rw [aG ne]
   have e1:(fS ([v],false || m)).2=(m || !n.fm):=by
    show ((false || m) || v.noF)=_;rw [aK,aQ3 hn]
   show (if (fS ([v],false || m)).2=true then _ else if ¬ fN v.fm=0 then (zF,0,fN v.fm) else (v.fm,0,0))=_;rw [e1];cases hb:(m || !n.fm) with
   | true=>rfl
   | false =>
    have h2:=orF hb;rw [(hn h2.1).f (by simpa using h2.2)]
  ·have t2:dM (jP 1 q3)=bO:=by rw [ev];rfl
   obtain ⟨q4,R4,c4⟩:=FH G (by rw [D3.c];exact e) D3.rd D3.dn (.inl S3) (by
    rw [BL (q:=jP 1 q3) (λ_=>by rw [show (jP 1 q3).c=r from D3.c];exact hk) (by rw [t2];intro e;exact absurd e (by decide)) (by rw [t2];intro e;exact absurd e (by decide)) (by rw [t2];intro e;exact absurd e (by decide))];rfl)
   have er:KG l r=r.fail l 8:=by unfold KG;rw [aL ⟨e,hk⟩]
   exact bad q4 (R3.trans R4) (by rw [c4];exact uD (by decide)) (by rw [c4,er,D3.c])
end
end Go.Proofs.YtidclioghdbphaaGreatDoor
namespace Go.Sx
open Go.RowKit Go.Par
section
variable {dfs:List Deferred} {P:Program} {n:Nat} {L:Sl} {H:Hp} {w0:World} {bs:List Res} {Q:Exit->Act->World->Prop} {ops:Array Oper} {K:Act->World->Prop}
def exN (K:Act->World->Prop) (Q:Exit->Act->World->Prop):Exit->Act->World->Prop:=λe=>match e with | .normal=>K | e=>Q e
theorem At.ar {id:Nat} {l:List Oper} (m:Nat) (l0:Array Bool) (hm:P.follows .mixedOrders=true) (hn:l.toArray.size=m) (h0:Array.replicate m false=l0)
 (h:At dfs n L H w0 bs (wpAny P .any l.toArray Q m l0)):At dfs n L H w0 bs ((Code.region id l.toArray true).wp P Q):=aH9 m l0 hm hn h0 h
theorem At.an {fuel:Nat} {listed:Array Bool} (x:Nat) (rs:List Nat) (hr:Region.ready .any ops listed=x::rs)
 (h:VW (λi=>At dfs n L H w0 bs (wpOp P ops Q i (wpAny P .any ops Q fuel (listed.setIfInBounds i true)))) (x::rs)):At dfs n L H w0 bs (wpAny P .any ops Q (fuel+1) listed):=bK1 x rs hr h
theorem bF1 {o:Oper} {a:Act} {w:World} (h:one P ops (exN K Q) o K a w):one P ops Q o K a w:=by
 unfold one at *
 split at h <;> rename_i hw
 ·rw [aL hw];exact h
 ·rw [aG hw];exact h
theorem At.ao {fuel i:Nat} {listed:Array Bool} {o:Oper} (l':Array Bool) (ho:ops[i]? = some o) (hl:listed.setIfInBounds i true=l') (h:At dfs n L H w0 bs (wpList P ops (exN (wpAny P .any ops Q fuel l') Q) [o])) :
 At dfs n L H w0 bs (wpOp P ops Q i (wpAny P .any ops Q fuel (listed.setIfInBounds i true))):=bY2 l' ho hl λa W f s=>bF1 (h a W f s)
theorem At.nx (h:At dfs n L H w0 bs K):At dfs n L H w0 bs (wpList P ops (exN K Q) []):=nil h
theorem At.ae {listed:Array Bool} (hr:Region.ready .any ops listed=[]) (h:At dfs n L H w0 bs (Q .normal)):At dfs n L H w0 bs (wpAny P .any ops Q 0 listed):=bS7 hr h
theorem Yl.cutHi2 {d:Option Tmp} {ty:TypeId} {pos:String} {aft:Array Edge} {g:Option (Nat × Bool)} {x y:Operand} {T:TypeId} {p:Option Addr} {len c z h:Nat} {k:IntKind} {i:Int} (hT:slN P T=some z) (hx:ev L x=some (.slice p len c)) (hy:ev L y=some (.int k i)) (e:i=(h:Int)) (hh:h<=c) :
 Yl P L H w0 bs ⟨d,.slice T x none (some y) none,ty,pos,aft,g⟩ (.slice (if c=0 then p else p.map λq=>q.add 0) h c):=.of_run λa W f _=>by
 subst e;obtain ⟨el,hu,hz⟩:=KD hT;unfold execOp;simp [f x _ hx,f y _ hy,Instr.sliceAt,Instr.slice,underlying,program,Sem.run,Result.andThen,hu,Instr.sliceBounds,Instr.sliceBound,asIntOf,hh,lQ hz]
theorem NM {z n c hi:Nat} {ds:List D} {p:Option Addr} (h:Rep H (.seq z ds) [.slice p n c]) (hl:hi<=n):Rep H (.seq z (ds.take hi)) [.slice (if c=0 then p else p.map λq=>q.add 0) hi c]:=by
 have hn:=h.len
 by_cases hc:c=0
 ·have h0:ds=[]:=bI (by omega);rw [aL hc,h0,List.take_nil,show hi=0 by omega];exact .empty (by omega)
 rw [aG hc];unfold Rep at h;obtain ⟨p',c',h1,h2,h3,h4⟩:=h;injection h1 with h1 _
 injection h1 with h5 h6 h7
 subst h5 h7;rcases h4 with h4 | ⟨b',off',cs,rfl,h9,h10,h11⟩
 ·subst h4;obtain rfl:hi=0:=by simp only [aM] at h6;omega
  exact .empty (by omega)
 ·exact .mkM (h9.take (hi * z)) (h10.take hi) (by rw [fI];omega) (by omega) (by omega) λe=>h11 (D.txtL_sub (λx=>yW) e)
end
inductive Ty where
 | int (k:IntKind)
 | bool
 | strg
 | seq (τ:Ty)
 | str (fs:List Ty)
 | arr (n:Nat) (τ:Ty)
mutual
def Ty.cells:Ty->Nat
 | .int _=>1
 | .bool=>1
 | .strg=>1
 | .seq _=>1
 | .str fs=>Ty.cellsL fs
 | .arr n τ=>n * Ty.cells τ
def Ty.cellsL:List Ty->Nat
 | []=>0
 | τ::r=>Ty.cells τ+Ty.cellsL r
end
mutual
def Ty.at (P:Program):Ty->TypeId->Bool
 | .int k,t=>match P.underlying t with | some (.int k')=>decide (k'=k) | _=>false
 | .bool,t=>match P.underlying t with | some .bool=>true | _=>false
 | .strg,t=>match P.underlying t with | some .string=>true | _=>false
 | .seq τ,t=>match P.underlying t with | some (.slice e)=>Ty.at P τ e && decide (P.cellsOf e=Ty.cells τ) && decide (0<Ty.cells τ) | _=>false
 | .str fs,t=>match P.underlying t with | some (.struct g)=>decide (P.cellsOf t=Ty.cellsL fs) && Ty.atL P fs g.toList 0 | _=>false
 | .arr n τ,t=>match P.underlying t with | some (.array m e)=>decide (m=n) && Ty.at P τ e && decide (P.cellsOf e=Ty.cells τ) && decide (P.cellsOf t=n * Ty.cells τ) | _=>false
def Ty.atL (P:Program):List Ty->List Field->Nat->Bool
 | [],[],_=>true
 | τ::r,f::g,o=>Ty.at P τ f.type && decide (f.offset=o) && decide (P.cellsOf f.type=Ty.cells τ) && Ty.atL P r g (o+Ty.cells τ)
 | _,_,_=>false
end
mutual
def Ty.has:Ty->D->Prop
 | .int k,d=>∃ n,d=.val (.int k n)/\(Lit.int k n).wf=true
 | .bool,d=>∃ b,d=.val (.bool b)
 | .strg,d=>∃ s:ByteArray,d=.any (.string s)
 | .seq τ,d=>∃ ds,d=.seq (Ty.cells τ) ds/\∀ x∈ds,Ty.has τ x
 | .str fs,d=>∃ ds,d=.str ds/\Ty.hasL fs ds
 | .arr _ _,_=>False
def Ty.hasL:List Ty->List D->Prop
 | [],ds=>ds=[]
 | τ::r,ds=>∃ d q,ds=d::q/\Ty.has τ d/\Ty.hasL r q
end
mutual
def Ty.opn:Ty->Bool
 | .int _=>true
 | .bool=>true
 | .strg=>true
 | .seq τ=>Ty.opn τ
 | .str fs=>Ty.opnL fs
 | .arr _ _=>false
def Ty.opnL:List Ty->Bool
 | []=>true
 | τ::r=>Ty.opn τ && Ty.opnL r
end
mutual
def Ty.pln:Ty->Bool
 | .int _=>true
 | .bool=>true
 | .strg=>true
 | .seq _=>false
 | .str fs=>Ty.plnL fs
 | .arr _ τ=>Ty.pln τ
def Ty.plnL:List Ty->Bool
 | []=>true
 | τ::r=>Ty.pln τ && Ty.plnL r
end
def MV (W:World):Hp:=⟨λb=>W.heap[b]?,0⟩
theorem aZ7 (W:World):Agr (MV W) W:=⟨λ_ _ h=>h,aO _⟩
variable {W:World} {v:Value}
theorem LO {a:Addr} (h:W.cell? a=some v):∃ cs t m,W.heap[a.block]? = some (.cells cs t m)/\a.spot=Option.none/\cs[a.off]? = some v:=by
 unfold World.cell? at h
 split at h
 ·rename_i cs t m e
  split at h
  ·cases h
  ·rename_i hs;exact ⟨cs,t,m,e,by simpa using hs,h⟩
 ·cases h
theorem bK2 (a:Addr) (x y:Nat):(a.add x).add y=a.add (x+y):=by
 by_cases hx:x=0
 ·subst hx;simp [Addr.add]
 ·by_cases hy:y=0
  ·subst hy;simp [Addr.add]
  ·simp [Addr.add,hx,hy,dN]
mutual
theorem Ty.plain:∀ (τ:Ty) (d:D),Ty.has τ d->d.txt=false
 | .int k,d,h=>by
  unfold Ty.has at h;obtain ⟨n,rfl,_⟩:=h
  rfl
 | .bool,d,h=>by
  unfold Ty.has at h;obtain ⟨n,rfl⟩:=h
  rfl
 | .strg,d,h=>by
  unfold Ty.has at h;obtain ⟨n,rfl⟩:=h
  rfl
 | .seq τ,d,h=>by
  unfold Ty.has at h;obtain ⟨ds,rfl,h⟩:=h;show D.txtL ds=false;rw [D.txtL_any,List.any_eq_false];intro x hx;rw [Ty.plain τ x (h x hx)]
  decide
 | .str fs,d,h=>by
  unfold Ty.has at h;obtain ⟨ds,rfl,h⟩:=h;exact Ty.plainL fs ds h
 | .arr n τ,d,h=>by
  unfold Ty.has at h;exact h.elim
theorem Ty.plainL:∀ (fs:List Ty) (ds:List D),Ty.hasL fs ds->D.txtL ds=false
 | [],ds,h=>by
  unfold Ty.hasL at h;subst h
  rfl
 | τ::r,ds,h=>by
  unfold Ty.hasL at h;obtain ⟨d,q,rfl,h1,h2⟩:=h;rw [D.txtL,Ty.plain τ d h1,Ty.plainL r q h2]
  rfl
end
section
variable {H:Type} {enc:TypeId × Value->H} {P:Program} {base:Nat} {sp:Nat->Bool} {held:Bool}
mutual
theorem Ty.opens (W:World):∀ (τ:Ty) (t:TypeId) (fuel:Nat) (cs:List Value) (x:DataW H × List MemPlace),Ty.at P τ t=true->Ty.opn τ=true->DataW.trod enc P W base sp held fuel t cs=some x->∃ d,Ty.has τ d/\Rep (MV W) d cs
 | .int k,t,fuel,cs,x,ha,_,h=>by
  unfold Ty.at at ha
  split at ha
  ·rename_i k' hu;obtain rfl:k'=k:=by simpa using ha
   obtain ⟨n,rfl,_,hw⟩:=DataW.trod_int hu h;refine ⟨.val (.int k' n),?_,?_⟩
   ·unfold Ty.has;exact ⟨n,Z,hw⟩
   ·unfold Rep;exact ⟨Z,Z,Jt⟩
  ·cases ha
 | .bool,t,fuel,cs,x,ha,_,h=>by
  unfold Ty.at at ha
  split at ha
  ·rename_i hu;obtain ⟨b,rfl,_⟩:=DataW.trod_bool hu h;refine ⟨.val (.bool b),?_,?_⟩
   ·unfold Ty.has;exact ⟨b,Z⟩
   ·unfold Rep;exact ⟨Z,Z,Jt⟩
  ·cases ha
 | .strg,t,fuel,cs,x,ha,_,h=>by
  unfold Ty.at at ha
  split at ha
  ·rename_i hu;obtain ⟨s,rfl,_⟩:=DataW.trod_string hu h;refine ⟨.any (.string s),?_,?_⟩
   ·unfold Ty.has;exact ⟨s,Z⟩
   ·unfold Rep;exact ⟨Z,Z⟩
  ·cases ha
 | .arr _ _,_,_,_,_,_,ho,_=>by simp [Ty.opn] at ho
 | .str fs,t,fuel,cs,x,ha,ho,h=>by
  unfold Ty.at at ha
  split at ha
  ·rename_i g hu;simp only [aE,aD] at ha;unfold Ty.opn at ho;obtain ⟨xs,n,_,rfl,hl,hlen,hf⟩:=DataW.trod_struct hu h
   obtain ⟨ds,h1,h2⟩:=Ty.opensL W fs g.toList 0 n cs ha.2 ho (by rw [hl,ha.1];omega) (λi f hi=>by
    have hi2:g[i]? = some f:=by simpa using hi
    have:=hf i f hi2;have hlt:i<xs.length:=by rw [hlen];exact (Array.getElem?_eq_some_iff.1 hi2).1
    rw [List.getElem?_eq_getElem hlt] at this;exact ⟨_,this⟩)
   refine ⟨.str ds,?_,?_⟩
   ·unfold Ty.has;exact ⟨ds,Z,h1⟩
   ·unfold Rep;simpa using h2
  ·cases ha
 | .seq τ,t,fuel,cs,x,ha,ho,h=>by
  unfold Ty.at at ha
  split at ha
  ·rename_i e hu;simp only [aE,aD] at ha;obtain ⟨⟨ha,hz⟩,h0⟩:=ha;unfold Ty.opn at ho;rcases Go.Deep.open_slice hu h with ⟨rfl,-⟩ | ⟨a,len,cap,m,n,D,Pl,rfl,-,hl,hm,hmm,-,hi⟩
   ·refine ⟨.seq (Ty.cells τ) [],?_,.empty (by simp [maxLen])⟩;unfold Ty.has;exact ⟨[],Z,by simp⟩
   have hlm:len<=m:=by rw [hmm];split <;> omega
   have key:∀ q,q<=len->∃ ds l,ds.length=q/\(∀ x∈ds,Ty.has τ x)/\eD (MV W) (Ty.cells τ) ds l/\l.length=q * Ty.cells τ/\∀ (j:Nat) u,l[j]? = some u->W.cell? (a.add j)=some u:=by
    intro q;induction q with
    | zero=>intro _;exact ⟨[],[],Z,by simp,eD.nil,by simp,by simp⟩
    | succ q ih =>
     intro hq;obtain ⟨ds,l,h1,h2,h3,h4,h5⟩:=ih (by omega);obtain ⟨cs',hc,ht⟩:=hi q (by omega);rw [hz] at hc;obtain ⟨_,hcl,hat⟩:=World.cells?_some hc;obtain ⟨d,hd,hr⟩:=Ty.opens W τ e n cs' _ ha ho ht;refine ⟨ds++[d],l++cs',by simp [h1],?_,h3.snoc hr hcl,by rw [aF,h4,hcl,gR],?_⟩
     ·intro x hx;rcases cC.1 hx with hx | hx
      ·exact h2 x hx
      ·rw [bQ.1 hx];exact hd
     ·intro j u hj
      by_cases hjl:j<l.length
      ·rw [List.getElem?_append_left hjl] at hj;exact h5 j u hj
      ·rw [List.getElem?_append_right (by omega)] at hj;have hjc:=(List.getElem?_eq_some_iff.1 hj).1;have:=hat (j - l.length) (by omega);rw [hj] at this;have h9:q * Ty.cells τ+(j - l.length)=j:=by omega
       have h10:(a.add (q * Ty.cells τ)).add (j - l.length)=a.add j:=by rw [bK2,h9]
       rw [<-h10];exact this
   obtain ⟨ds,l,h1,h2,h3,h4,h5⟩:=key len (aX _);refine ⟨.seq (Ty.cells τ) ds,?_,?_⟩
   ·unfold Ty.has;exact ⟨ds,Z,h2⟩
   by_cases hl0:len=0
   ·subst hl0;obtain rfl:=bI h1;exact .empty hm
   ·have hlp:0<l.length:=by rw [h4];exact Nat.mul_pos (by omega) h0
    have hc0:=h5 0 _ (List.getElem?_eq_getElem hlp);rw [show a.add 0=a by simp [Addr.add]] at hc0;obtain ⟨arr,t',mk,hb,hs,_⟩:=LO hc0;obtain ⟨ab,ao,ap⟩:=a;simp only at hs hb;subst hs
    refine .mkM ⟨arr,t',mk,hb,λj u hu=>?_⟩ h3 h1 hl hm λe=>by
     have hp:=Ty.plain (.seq τ) (.seq (Ty.cells τ) ds) (by unfold Ty.has;exact ⟨ds,Z,h2⟩);rw [show Go.Sx.D.txtL ds=false from hp] at e;cases e
    have h6:=h5 j u hu;rw [Addr.add_lit] at h6;obtain ⟨arr',t'',mk',hb',_,h7⟩:=LO h6;have e2:=bK (hb.symm.trans hb');injection e2 with e3
    subst e3;exact h7
  ·cases ha
theorem Ty.opensL (W:World):∀ (fs:List Ty) (g:List Field) (o n:Nat) (cs:List Value),Ty.atL P fs g o=true->Ty.opnL fs=true->cs.length=o+Ty.cellsL fs ->
 (∀ (i:Nat) f,g[i]? = some f->∃ y,DataW.trod enc P W base sp held n f.type ((cs.drop f.offset).take (P.cellsOf f.type))=some y)->∃ ds,Ty.hasL fs ds/\sQ (MV W) ds (cs.drop o)
 | [],[],o,n,cs,_,_,hl,_=>by
  refine ⟨[],by unfold Ty.hasL;rfl,?_⟩;unfold sQ;exact jW (by simp only [Ty.cellsL] at hl;omega)
 | [],_::_,_,_,_,ha,_,_,_=>by simp [Ty.atL] at ha
 | _::_,[],_,_,_,ha,_,_,_=>by simp [Ty.atL] at ha
 | τ::r,f::g,o,n,cs,ha,ho,hl,hf=>by
  unfold Ty.atL at ha;unfold Ty.opnL at ho;simp only [aE,aD] at ha ho;obtain ⟨⟨⟨a1,a2⟩,a3⟩,a4⟩:=ha;obtain ⟨y,hy⟩:=hf 0 f rfl;rw [a2,a3] at hy;obtain ⟨d,h1,h2⟩:=Ty.opens W τ f.type n _ y a1 ho.1 hy;unfold Ty.cellsL at hl;obtain ⟨ds,h3,h4⟩:=Ty.opensL W r g (o+Ty.cells τ) n cs a4 ho.2 (by omega) (λi f' hi=>hf (i+1) f' (by simpa using hi));refine ⟨d::ds,by unfold Ty.hasL;exact ⟨d,ds,Z,h1,h3⟩,?_⟩;unfold sQ;exact ⟨_,_,by rw [<-gW,eY],h2,h4⟩
end
mutual
def IM:DataW H->List Value
 | .lit (.int k n)=>[.int k n]
 | .lit (.bool b)=>[.bool b]
 | .lit (.string l)=>[.string ⟨l.toArray⟩]
 | .agg ps=>BJ ps
 | _=>[]
def BJ:List (DataW H)->List Value
 | []=>[]
 | d::r=>IM d++BJ r
end
mutual
theorem Ty.flat (W:World):∀ (τ:Ty) (t:TypeId) (fuel:Nat) (cs:List Value) (x:DataW H × List MemPlace),Ty.at P τ t=true->Ty.pln τ=true->DataW.trod enc P W base sp held fuel t cs=some x->cs=IM x.1
 | .int k,t,fuel,cs,x,ha,_,h=>by
  unfold Ty.at at ha
  split at ha
  ·rename_i k' hu;obtain ⟨n,rfl,rfl,hw⟩:=DataW.trod_int hu h;simp only [IM]
  ·cases ha
 | .bool,t,fuel,cs,x,ha,_,h=>by
  unfold Ty.at at ha
  split at ha
  ·rename_i hu;obtain ⟨b,rfl,rfl⟩:=DataW.trod_bool hu h;simp only [IM]
  ·cases ha
 | .strg,t,fuel,cs,x,ha,_,h=>by
  unfold Ty.at at ha
  split at ha
  ·rename_i hu;obtain ⟨s,rfl,rfl,_⟩:=DataW.trod_string hu h;simp only [IM]
  ·cases ha
 | .seq _,_,_,_,_,_,ho,_=>by simp [Ty.pln] at ho
 | .str fs,t,fuel,cs,x,ha,ho,h=>by
  unfold Ty.at at ha
  split at ha
  ·rename_i g hu;simp only [aE,aD] at ha;unfold Ty.pln at ho;obtain ⟨xs,n,_,rfl,hl,hlen,hf⟩:=DataW.trod_struct hu h;have h2:=Ty.flatL W fs g.toList 0 n cs xs ha.2 ho (by rw [hl,ha.1];omega) (by simpa using hlen) (λi f hi=>hf i f (by simpa using hi));simpa [IM] using h2
  ·cases ha
 | .arr k τ,t,fuel,cs,x,ha,ho,h=>by
  unfold Ty.at at ha
  split at ha
  ·rename_i m e hu;simp only [aE,aD] at ha;obtain ⟨⟨⟨hm,ha⟩,hz⟩,hct⟩:=ha;subst hm;unfold Ty.pln at ho;obtain ⟨xs,n,_,rfl,hl,hlen,hf⟩:=DataW.trod_array hu h
   have key:∀ (xs:List (DataW H × List MemPlace)) (cs:List Value),cs.length=xs.length * Ty.cells τ->(∀ i,i<xs.length->DataW.trod enc P W base sp held n e ((cs.drop (i * Ty.cells τ)).take (Ty.cells τ))=xs[i]?)->cs=BJ (xs.map (·.1)):=by
    intro xs;induction xs with
    | nil=>intro cs hc _;simp at hc;simp [hc,BJ]
    | cons y r ih =>
     intro cs hc hi;have h0:=hi 0 (by simp);simp only [oU,pV,List.getElem?_cons_zero] at h0;have e0:=Ty.flat W τ e n _ y ha ho h0
     have e1:=ih (cs.drop (Ty.cells τ)) (by rw [cW,hc,aJ,gR];omega) (λi hlt=>by
      have:=hi (i+1) (by simp;omega);rw [List.getElem?_cons_succ] at this;rw [<-this,gW,show Ty.cells τ+i * Ty.cells τ=(i+1) * Ty.cells τ by rw [gR];omega])
     simp only [dG,BJ];rw [<-e0,<-e1,eY]
   have h2:=key xs cs (by rw [hl,hct,hlen]) (λi hlt=>by
    have:=hf i (by omega);rw [hz] at this;exact this)
   simpa [IM] using h2
  ·cases ha
theorem Ty.flatL (W:World):∀ (fs:List Ty) (g:List Field) (o n:Nat) (cs:List Value) (xs:List (DataW H × List MemPlace)),Ty.atL P fs g o=true->Ty.plnL fs=true->cs.length=o+Ty.cellsL fs->xs.length=g.length ->
 (∀ (i:Nat) f,g[i]? = some f->DataW.trod enc P W base sp held n f.type ((cs.drop f.offset).take (P.cellsOf f.type))=xs[i]?)->cs.drop o=BJ (xs.map (·.1))
 | [],[],o,n,cs,xs,_,_,hl,hx,_=>by
  obtain rfl:=bI hx;simp only [vH,BJ];exact jW (by simp only [Ty.cellsL] at hl;omega)
 | [],_::_,_,_,_,_,ha,_,_,_,_=>by simp [Ty.atL] at ha
 | _::_,[],_,_,_,_,ha,_,_,_,_=>by simp [Ty.atL] at ha
 | τ::r,f::g,o,n,cs,[],ha,ho,hl,hx,hf=>by simp at hx
 | τ::r,f::g,o,n,cs,y::xs,ha,ho,hl,hx,hf=>by
  unfold Ty.atL at ha;unfold Ty.plnL at ho;simp only [aE,aD] at ha ho;obtain ⟨⟨⟨a1,a2⟩,a3⟩,a4⟩:=ha;have hy:=hf 0 f rfl;rw [a2,a3,List.getElem?_cons_zero] at hy;have e0:=Ty.flat W τ f.type n _ y a1 ho.1 hy;unfold Ty.cellsL at hl
  have e1:=Ty.flatL W r g (o+Ty.cells τ) n cs xs a4 ho.2 (by omega) (by simpa using hx) (λi f' hi=>by
   have:=hf (i+1) f' (by simpa using hi);rw [List.getElem?_cons_succ] at this;exact this)
  simp only [dG,BJ];rw [<-e0,<-e1,<-gW,eY]
end
end
variable {g:Nat} {t:TypeId}
theorem BB {P:Program} {name:String} {dat:DataW Unit} {rest:List (String × DataW Unit)} (τ:Ty) (cs:List Value)
 (hg:P.globalNamed name=some g) (hty:(P.globals[g]?).map (·.type)=some t) (ha:Ty.at P τ t=true) (hp:Ty.pln τ=true) (hc:IM dat=cs) (h:laidMet P ((name,dat)::rest) W):kZ (MV W) g 0 cs:=by
 obtain ⟨ps,⟨g',t',cs',fuel,p,q,hg',ht',hvar,hd,_,_⟩,_⟩:=h;obtain rfl:=bK (hg.symm.trans hg');obtain rfl:=bK (hty.symm.trans ht');have e:=Ty.flat W τ t fuel cs'.toList _ ha hp hd;dsimp only at e;rw [hc] at e;unfold World.var? at hvar;rw [hg] at hvar;simp only [iD] at hvar
 split at hvar
 ·rename_i arr T m hb;refine ⟨arr,T,m,hb,λj u hu=>?_⟩;obtain rfl:=bK hvar;rw [dL];rw [<-e] at hu;simpa using hu
 ·cases hvar
theorem ZQ {α β:Type} {f:α->β}:∀ {ds:List β},(∀ x∈ds,∃ y,x=f y)->∃ l:List α,ds=l.map f
 | [],_=>⟨[],Z⟩
 | d::r,h=>by
  obtain ⟨y,rfl⟩:=h d Hm;obtain ⟨l,rfl⟩:=ZQ (ds:=r) λx hx=>h x (.tail _ hx);exact ⟨y::l,Z⟩
theorem LC {n:Int} (h:(Lit.int .u8 n).wf=true):∃ x:UInt8,n=x.toNat:=by
 have e1:IntKind.u8.min=0:=rfl;have e2:IntKind.u8.max=255:=rfl;simp only [Lit.wf,e1,e2,aE,aD] at h;exact ⟨UInt8.ofNat n.toNat,by simp [mC];omega⟩
theorem ZV {n:Int} (h:(Lit.int .i64 n).wf=true):∃ x:Int64,n=x.toInt:=by
 have e1:IntKind.i64.min=-9223372036854775808:=rfl;have e2:IntKind.i64.max=9223372036854775807:=rfl;simp only [Lit.wf,e1,e2,aE,aD] at h;exact ⟨Int64.ofInt n,(Int64.toInt_ofInt_of_le (by simpa using h.1) (by have:=h.2;omega)).symm⟩
end Go.Sx
