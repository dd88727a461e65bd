/- Texts of the proof, one behind the other. -/
import Derived.Test.YtidclioghdbphaaGreatDoorMa
import Derived.Lib.Builder
import Derived.Lib.AppendStr
import Derived.Lib.UnsafeStr
import Derived.Lib.ItoaNum
import Derived.Lib.Join
import Derived.Lib.ItoaLen
import Derived.ProofKit
import Derived.Lib.LaidTab
import Derived.Deep.Slices
import Derived.Deep.Fields
import Derived.OpenShut
set_option linter.all false
set_option maxRecDepth 100000
/- Pointers, strings appended to bytes, and unsafe strings: what a strings.Builder inside an own box meets. -/
namespace Go.Sx
open Go.RowKit Go.Par
section
variable {dfs:List Deferred} {P:Program} {n:Nat} {L:Sl} {H:Hp} {w0:World} {bs:List Res} {Q:Exit->Act->World->Prop} {ops:Array Oper} {rest:List Oper} {K:Act->World->Prop}
variable {d:Option Tmp} {ty:TypeId} {pos:String} {aft:Array Edge} {g:Option (Nat × Bool)} {v:Value} {t:Tmp} {op:Op} {x y z:Operand} {T T':TypeId}
theorem Yl.ext {f:FuncId} {xs:List Operand} {vs:List Value} {ats:Array TypeId} (hv:evs L xs=some vs) (h:∀ W,(callFunc f vs.toArray).run P W=.ok (.value v) W):Yl P L H w0 bs ⟨d,.call ⟨.value (.func f),xs.toArray,ats⟩,ty,pos,aft,g⟩ v:=.of_run λa W f0 s=>by
 have hm:=AY f0 hv;have:(#[]:Array Value)=[].toArray:=rfl;unfold execOp;simp only [resolve,Act.eval,Deferred.ofValue,Sem.run_bind,Sem.run_pure,Result.andThen,invoke,kT,hm,this,List.append_toArray,dB,dO,h]
theorem St.pickT {W:World} {hd tl hd':List Res} (s:St H w0 (hd++tl) W) (ix:List Nat) (hn:oP ix=true) (hm:ix.map (λi=>hd[i]?)=hd'.map some):St H w0 (hd'++tl) W:=by
 have hlt:∀ i x,hd[i]? = some x->(hd++tl)[i]? = some x:=λi x e=>by
  rw [List.getElem?_append_left (List.getElem?_eq_some_iff.1 e).1];exact e
 have key:∀ (ix:List Nat) (hd':List Res),oP ix=true->ix.map (λi=>hd[i]?)=hd'.map some->(∀ x∈hd',∃ i∈ix,hd[i]? = some x)/\(hd'++tl).Pairwise Res.apart:=by
  intro ix;induction ix with
  | nil =>
   intro hd' _ hm;cases hd' with
   | nil=>exact ⟨λx hx=>(by cases hx),(jD.1 s.apart).2.1⟩
   | cons a r=>simp at hm
  | cons i r ih =>
   intro hd' hn hm;cases hd' with
   | nil=>simp at hm
   | cons a q =>
    simp only [eT,jK] at hm;simp only [oP,aC,dX] at hn;obtain ⟨h1,h2⟩:=ih q hn.2 hm.2;refine ⟨λx hx=>?_,?_⟩
    ·rcases bP.1 hx with rfl | hx
     ·exact ⟨i,.head _,hm.1⟩
     ·obtain ⟨j,hj,e⟩:=h1 x hx;exact ⟨j,.tail _ hj,e⟩
    ·rw [bL,jX];refine ⟨λy hy=>?_,h2⟩;rcases cK.1 hy with hy | hy
     ·obtain ⟨j,hj,e⟩:=h1 y hy;refine KG s.apart (hlt _ _ hm.1) (hlt _ _ e) λh=>?_;subst h;have:=hn.1;simp [hj] at this
     ·exact (jD.1 s.apart).2.2 a (Al_List_mem_of_getElem? hm.1) y hy
 obtain ⟨h1,h2⟩:=key ix hd' hn hm;refine ⟨s.ext,s.agr,λx hx=>?_,h2,s.lo⟩;rcases cK.1 hx with hx | hx
 ·obtain ⟨i,_,e⟩:=h1 x hx;exact s.own x (oV _ (Al_List_mem_of_getElem? e))
 ·exact s.own x (oH _ hx)
theorem At.mk {e:TypeId} {v0:Value} {bytes m:Nat} {kl kc:IntKind} {i j:Int} (hT:AH P T=some (e,1,bytes)) (hz0:qK P e=some [v0]) (hx:ev L x=some (.int kl i)) (hy:ev L y=some (.int kc j)) (hi:i=(m:Int)) (hj:j=(m:Int)) (hb:bytes * m<=281474976710656) (h63:m<=9223372036854775807) (ht:Nat.blt t n=true)
 (h:∀ b,At dfs n ((t,.slice (some ⟨b,0,none⟩) m m)::L) H w0 (.box b (List.replicate m v0) e::bs) (wpList P ops Q rest)):At dfs n L H w0 bs (wpList P ops Q (⟨some t,.makeSlice T x y,ty,pos,aft,none⟩::rest)):=by
 subst hi hj;obtain ⟨hu,q,z,hq,hz,hsz,hby,hzs,h0⟩:=DH hT
 have hz1:z.cells.toList=[v0]:=by
  have h2:=hz0;unfold qK at h2;rw [hq] at h2;simp only [iY,hz,mU,wB] at h2;exact h2
 refine cons ?_;intro a W f s;refine oN rfl ?_
 have hbz:(q.bytes:Int) * (m:Int)<=281474976710656:=by
  have h5:((q.bytes * m:Nat):Int)<=281474976710656:=by rw [hby];omega
  rwa [Int.natCast_mul] at h5
 have hr:=run_make (P:=P) W T e q z hu hq hz kl kc m m (by omega) (Int.le_refl _) hbz (by omega)
 have hcs:madeCells z.cells (((m:Int)).toNat * q.size)=(List.replicate m v0).toArray:=by
  have e1:z.cells=#[v0]:=by rw [<-Array.toArray_toList (xs:=z.cells),hz1]
  rw [e1,hsz,Int.toNat_natCast,Nat.mul_one];apply wZ
  ·simp [madeCells]
  ·intro i h1 h2;simp [madeCells,Nat.mod_one]
 rw [hcs,Int.toNat_natCast] at hr;unfold Oper.wp execOp;simp only [Sem.run_bind,Sem.run_pure,Result.andThen_ok,f.ev hx,f.ev hy,hr];exact h _ _ _ (f.put ht _) (s.alloc _ _)
end
theorem dt {p:Prop} [Decidable p]:(decide p=true)=p:=aA
theorem df {p:Prop} [Decidable p]:(decide p=false)=¬ p:=propext jI
theorem nb {a b:Nat} (h:Nat.ble a b=true):a<=b:=lJ h
theorem z0 {l:List Value} :∀ (j:Nat) u,l[j]? = some u->l[0+j]? = some u:=λj u h=>by rw [dT];exact h
theorem w6 {i:Int} (h:-9223372036854775808<=i/\i<=9223372036854775807):IntKind.i64.wrap i=i:=w64 h.1 h.2
section
variable {dfs:List Deferred} {P:Program} {n:Nat} {L:Sl} {H:Hp} {w0:World} {bs:List Res} {Q:Exit->Act->World->Prop} {ops:Array Oper}
theorem At.nt {K:Act->World->Prop} (h:At dfs n L H w0 bs K):At dfs n L H w0 bs (wpList P ops (Exit.then K Q) []):=.nl (.tN h)
theorem At.sr {id:Nat} {l:List Oper} {y:Code} (h:At dfs n L H w0 bs (wpList P l.toArray (Exit.then (y.wp P Q) Q) l)):At dfs n L H w0 bs ((Code.seq (Code.region id l.toArray false) y).wp P Q):=.sq (.rg h)
theorem At.ns {Q':Exit->Act->World->Prop} {id:Nat} {l:List Oper} {y:Code} (h:At dfs n L H w0 bs (wpList P l.toArray (Exit.then (y.wp P Q') Q') l)):At dfs n L H w0 bs (wpList P ops (Exit.then ((Code.seq (Code.region id l.toArray false) y).wp P Q') Q) []):=.nl (.tN (.sq (.rg h)))
end
end Go.Sx

namespace Go.Sx
open Go.RowKit Go.Par
section
variable {dfs:List Deferred} {P:Program} {L:Sl} {H H':Hp} {w0:World} {bs bs':List Res} {ty:TypeId} {pos:String} {aft:Array Edge} {t:Tmp} {op:Op} {ops:Array Oper} {N hn i n j:Nat} {pa:List (Nat × Oper × Value)} {E:Sl->Hp->List Res->Prop} {r:List (Nat × Nat × Oper)} {rest:List Oper} {Q:Exit->Act->World->Prop} {o:Oper} {v:Value} {b c:Bool} {u:Tmp}
theorem St.p1_1 {H:Hp} {w0 W:World} {a0 b0:Res} {tl:List Res} (s:St H w0 (a0::tl) W) (ix:List Nat) (hm:ix.map (λi=>([a0]:List Res)[i]?)=[some b0]) (hn:oP ix=true:=by rfl):St H w0 (b0::tl) W:=s.pickT (hd:=[a0]) (hd':=[b0]) ix hn hm
theorem St.p2_1 {H:Hp} {w0 W:World} {a0 a1 b0:Res} {tl:List Res} (s:St H w0 (a0::a1::tl) W) (ix:List Nat) (hm:ix.map (λi=>([a0,a1]:List Res)[i]?)=[some b0]) (hn:oP ix=true:=by rfl):St H w0 (b0::tl) W:=s.pickT (hd:=[a0,a1]) (hd':=[b0]) ix hn hm
theorem St.p2_2 {H:Hp} {w0 W:World} {a0 a1 b0 b1:Res} {tl:List Res} (s:St H w0 (a0::a1::tl) W) (ix:List Nat) (hm:ix.map (λi=>([a0,a1]:List Res)[i]?)=[some b0,some b1]) (hn:oP ix=true:=by rfl):St H w0 (b0::b1::tl) W:=s.pickT (hd:=[a0,a1]) (hd':=[b0,b1]) ix hn hm
theorem St.p3_1 {H:Hp} {w0 W:World} {a0 a1 a2 b0:Res} {tl:List Res} (s:St H w0 (a0::a1::a2::tl) W) (ix:List Nat) (hm:ix.map (λi=>([a0,a1,a2]:List Res)[i]?)=[some b0]) (hn:oP ix=true:=by rfl):St H w0 (b0::tl) W:=s.pickT (hd:=[a0,a1,a2]) (hd':=[b0]) ix hn hm
theorem St.p3_3 {H:Hp} {w0 W:World} {a0 a1 a2 b0 b1 b2:Res} {tl:List Res} (s:St H w0 (a0::a1::a2::tl) W) (ix:List Nat) (hm:ix.map (λi=>([a0,a1,a2]:List Res)[i]?)=[some b0,some b1,some b2]) (hn:oP ix=true:=by rfl):St H w0 (b0::b1::b2::tl) W:=s.pickT (hd:=[a0,a1,a2]) (hd':=[b0,b1,b2]) ix hn hm
theorem St.p4_1 {H:Hp} {w0 W:World} {a0 a1 a2 a3 b0:Res} {tl:List Res} (s:St H w0 (a0::a1::a2::a3::tl) W) (ix:List Nat) (hm:ix.map (λi=>([a0,a1,a2,a3]:List Res)[i]?)=[some b0]) (hn:oP ix=true:=by rfl):St H w0 (b0::tl) W:=s.pickT (hd:=[a0,a1,a2,a3]) (hd':=[b0]) ix hn hm
theorem St.p4_2 {H:Hp} {w0 W:World} {a0 a1 a2 a3 b0 b1:Res} {tl:List Res} (s:St H w0 (a0::a1::a2::a3::tl) W) (ix:List Nat) (hm:ix.map (λi=>([a0,a1,a2,a3]:List Res)[i]?)=[some b0,some b1]) (hn:oP ix=true:=by rfl):St H w0 (b0::b1::tl) W:=s.pickT (hd:=[a0,a1,a2,a3]) (hd':=[b0,b1]) ix hn hm
theorem St.p4_3 {H:Hp} {w0 W:World} {a0 a1 a2 a3 b0 b1 b2:Res} {tl:List Res} (s:St H w0 (a0::a1::a2::a3::tl) W) (ix:List Nat) (hm:ix.map (λi=>([a0,a1,a2,a3]:List Res)[i]?)=[some b0,some b1,some b2]) (hn:oP ix=true:=by rfl):St H w0 (b0::b1::b2::tl) W:=s.pickT (hd:=[a0,a1,a2,a3]) (hd':=[b0,b1,b2]) ix hn hm
theorem St.p4_4 {H:Hp} {w0 W:World} {a0 a1 a2 a3 b0 b1 b2 b3:Res} {tl:List Res} (s:St H w0 (a0::a1::a2::a3::tl) W) (ix:List Nat) (hm:ix.map (λi=>([a0,a1,a2,a3]:List Res)[i]?)=[some b0,some b1,some b2,some b3]) (hn:oP ix=true:=by rfl):St H w0 (b0::b1::b2::b3::tl) W:=s.pickT (hd:=[a0,a1,a2,a3]) (hd':=[b0,b1,b2,b3]) ix hn hm
theorem St.p5_3 {H:Hp} {w0 W:World} {a0 a1 a2 a3 a4 b0 b1 b2:Res} {tl:List Res} (s:St H w0 (a0::a1::a2::a3::a4::tl) W) (ix:List Nat) (hm:ix.map (λi=>([a0,a1,a2,a3,a4]:List Res)[i]?)=[some b0,some b1,some b2]) (hn:oP ix=true:=by rfl):St H w0 (b0::b1::b2::tl) W:=s.pickT (hd:=[a0,a1,a2,a3,a4]) (hd':=[b0,b1,b2]) ix hn hm
theorem St.p5_4 {H:Hp} {w0 W:World} {a0 a1 a2 a3 a4 b0 b1 b2 b3:Res} {tl:List Res} (s:St H w0 (a0::a1::a2::a3::a4::tl) W) (ix:List Nat) (hm:ix.map (λi=>([a0,a1,a2,a3,a4]:List Res)[i]?)=[some b0,some b1,some b2,some b3]) (hn:oP ix=true:=by rfl):St H w0 (b0::b1::b2::b3::tl) W:=s.pickT (hd:=[a0,a1,a2,a3,a4]) (hd':=[b0,b1,b2,b3]) ix hn hm
theorem St.p5_5 {H:Hp} {w0 W:World} {a0 a1 a2 a3 a4 b0 b1 b2 b3 b4:Res} {tl:List Res} (s:St H w0 (a0::a1::a2::a3::a4::tl) W) (ix:List Nat) (hm:ix.map (λi=>([a0,a1,a2,a3,a4]:List Res)[i]?)=[some b0,some b1,some b2,some b3,some b4]) (hn:oP ix=true:=by rfl):St H w0 (b0::b1::b2::b3::b4::tl) W:=s.pickT (hd:=[a0,a1,a2,a3,a4]) (hd':=[b0,b1,b2,b3,b4]) ix hn hm
theorem At.aq {x:Operand} {K:Act->World->Prop} (hx:ev L x=some v) (h:At dfs n ((t,v)::L) H w0 bs K) (ht:Nat.blt t n=true:=by rfl):At dfs n L H w0 bs (wpList P ops (Exit.then K Q) [⟨some t,.assign x,ty,pos,aft,none⟩]):=.a hx ht (.nt h)
theorem At.sm {x:Operand} {id:Nat} {l:List Oper} {y:Code} (hx:ev L x=some v) (h:At dfs n ((t,v)::L) H w0 bs (wpList P (⟨some t,.move x,ty,pos,aft,none⟩::l).toArray (Exit.then (y.wp P Q) Q) l)) (ht:Nat.blt t n=true:=by rfl):At dfs n L H w0 bs ((Code.seq (Code.region id (⟨some t,.move x,ty,pos,aft,none⟩::l).toArray false) y).wp P Q):=.sr (.m hx ht h)
theorem w7 {i:Int} (h:-9223372036854775808<=i/\i<=9223372036854775807:=by omega):IntKind.i64.wrap i=i:=w6 h
theorem y6 {P:Program} {n:Nat} {f:FuncId} {fn:Func} {c:Code} {args:List Value} {w:World} {R:Ending->World->Prop} (hf:P.funcs[f]? = some fn) (hb:fn.body=some c) (hn:fn.ntmps=n) (hl:Nat.ble args.length n=true) (h:At [] n (KB 0 args) (⟨λ_=>none,0⟩:Hp) w [] (c.wp P (bodyPost P fn R))):Calls P f args.toArray w R:=enter hf hb hn hl ⟨λ_ _ e=>(by cases e),aP _⟩ h
theorem At.zR {id:Nat} {K:Act->World->Prop} {Q':Exit->Act->World->Prop} (h:At dfs n L H w0 bs (Q .ret)):At dfs n L H w0 bs (wpList P ops (Exit.then (Code.ret.wp P (Exit.inBlock id (Exit.then K Q))) Q') []):=.nt (.rt (.bR (.tR h)))
theorem At.eb {id:Nat} {K K' K2:Act->World->Prop} {Q:Exit->Act->World->Prop} (h:At dfs n L H w0 bs K):At dfs n L H w0 bs (Exit.then K' (Exit.then K2 (Exit.inBlock id (Exit.then K Q))) (.exit id)):=.tE (.tE (.bE (.tN h)))
theorem At.az {x:Operand} {Q':Exit->Act->World->Prop} (hx:ev L x=some v) (h:At dfs n ((t,v)::L) H w0 bs (Q .ret)) (ht:Nat.blt t n=true:=by rfl):At dfs n L H w0 bs (wpList P ops (Exit.then (Code.ret.wp P Q) Q') [⟨some t,.assign x,ty,pos,aft,none⟩]):=.aq hx (.rt h) ht
end
end Go.Sx
namespace Go.Proofs.YtidclioghdbphaaGreatDoor
open Go.RowKit Go.Par Go.Sx
abbrev Str:=List UInt8
def bV (l:Str):Value:=.string ⟨l.toArray⟩
inductive Ex where
 | mk (op:UInt8) (nm:Str) (n:Int64) (args:List Ex)
inductive Sm where
 | mk (kind:UInt8) (nm hd:Str) (ex:List Ex) (th el:List Sm)
def Ex.op:Ex->UInt8 | .mk op _ _ _=>op
def Ex.nm:Ex->Str | .mk _ nm _ _=>nm
def Ex.n:Ex->Int64 | .mk _ _ n _=>n
def Ex.args:Ex->List Ex | .mk _ _ _ args=>args
mutual
def dEx (k:IntKind):Ex->D
 | .mk op nm n args=>.str [.val (.int k op.toNat),.val (bV nm),.val (.int .i64 n.toInt),.seq 4 (bU4 k args)]
def bU4 (k:IntKind):List Ex->List D
 | []=>[]
 | e::r=>dEx k e::bU4 k r
end
theorem YF (k:IntKind):∀ l,bU4 k l=l.map (dEx k)
 | []=>rfl
 | e::r=>by rw [bU4,YF k r];rfl
theorem bI6 (k:IntKind) (op:UInt8) (nm:Str) (n:Int64) (args:List Ex):dEx k (.mk op nm n args)=.str [.val (.int k op.toNat),.val (bV nm),.val (.int .i64 n.toInt),.seq 4 (args.map (dEx k))]:=by rw [dEx,YF]
theorem Ex.ind {C:Ex->Prop} (h:∀ op nm n args,(∀ a∈args,C a)->C (.mk op nm n args)):∀ e,C e
 | .mk op nm n args=>h op nm n args λa ha=>Ex.ind h a
termination_by e=>SizeOf.sizeOf e
decreasing_by
 have:=oD ha;simp;omega
theorem Sm.ind {C:Sm->Prop} (h:∀ kd nm hd ex th el,(∀ a∈th,C a)->(∀ a∈el,C a)->C (.mk kd nm hd ex th el)):∀ e,C e
 | .mk kd nm hd ex th el=>h kd nm hd ex th el (λa ha=>Sm.ind h a) (λa ha=>Sm.ind h a)
termination_by e=>SizeOf.sizeOf e
decreasing_by
 all_goals
  have:=oD ha;simp;omega
structure Hd where
 nm:Str
 ps:List Str
 body:List Sm
structure Vr where
 nm:Str
 ty:UInt8
 init:Int64
structure Cp where
 nm:Str
 vars:List Vr
 vers:List (List Hd)
structure Fg where
 nm:Str
 init:Bool
structure Lk where
 fr:Str
 to:Str
 lat:Int64
structure Ft where
 nm:Str
 flags:List Fg
 links:List Lk
 comps:List Cp
/-! ### Structs opened and shut -/
section
variable {H:Hp}
theorem cL9 {v:Value} (h:v.oneCell'=true) (k:okV v):Rep H (.val v) [v]:=by unfold Rep;exact ⟨Z,h,k⟩
theorem okS {l:Str}:okV (bV l)↔l.length<=1000000:=by simp [okV,bV,ByteArray.size]
theorem rP {d:D} {ds:List D} {l:List Value}:uZ H (d::ds) l↔∃ x y,l=x++y/\Rep H d x/\uZ H ds y:=by
 constructor
 ·intro h;unfold uZ at h;exact h
 ·intro h;unfold uZ;exact h
theorem vW {l:List Value}:uZ H [] l↔l=[]:=by
 constructor
 ·intro h;unfold uZ at h;exact h
 ·intro h;unfold uZ;exact h
theorem WG {ds:List D} {l:List Value}:Rep H (.str ds) l↔uZ H ds l:=by
 constructor
 ·intro h;unfold Rep at h;exact h
 ·intro h;unfold Rep;exact h
theorem iF {v:Value} {ds:List D} {l:List Value}:uZ H (.val v::ds) l↔∃ y,l=v::y/\v.oneCell'=true/\okV v/\uZ H ds y:=by
 rw [rP]
 constructor
 ·rintro ⟨x,y,rfl,hx,hy⟩;unfold Rep at hx;obtain ⟨rfl,h,k⟩:=hx;exact ⟨y,Z,h,k,hy⟩
 ·rintro ⟨y,rfl,h,k,hy⟩;exact ⟨[v],y,Z,cL9 h k,hy⟩
theorem MI {z:Nat} {es ds:List D} {l:List Value}:uZ H (.seq z es::ds) l↔∃ p c y,l=.slice p es.length c::y/\Rep H (.seq z es) [.slice p es.length c]/\uZ H ds y:=by
 rw [rP]
 constructor
 ·rintro ⟨x,y,rfl,hx,hy⟩;obtain ⟨p,c,rfl,_⟩:=hx.sl;exact ⟨p,c,y,Z,hx,hy⟩
 ·rintro ⟨p,c,y,rfl,hx,hy⟩;exact ⟨_,y,Z,hx,hy⟩
theorem iL {α β:Type} {f:α->β} {l:List α} {k:Nat} (h:k<l.length):(l.map f)[k]? = some (f l[k]):=by simp [h]
theorem jB {k:IntKind} {op:UInt8} {nm:Str} {n:Int64} {args:List Ex} {cs:List Value} (h:Rep H (dEx k (.mk op nm n args)) cs) :
 ∃ p c,cs=[.int k op.toNat,bV nm,.int .i64 n.toInt,.slice p args.length c]/\Rep H (.seq 4 (args.map (dEx k))) [.slice p args.length c]/\nm.length<=1000000:=by
 rw [bI6,WG] at h;obtain ⟨_,rfl,_,_,h⟩:=iF.1 h;obtain ⟨_,rfl,_,hn,h⟩:=iF.1 h;obtain ⟨_,rfl,_,_,h⟩:=iF.1 h;obtain ⟨p,c,_,rfl,hs,h⟩:=MI.1 h;rw [vW] at h;subst h;rw [bJ] at hs|-;exact ⟨p,c,Z,hs,okS.1 hn⟩
theorem uF {k:IntKind} {op:UInt8} {nm:Str} {n:Int64} {args:List Ex} {s:Value} (hn:nm.length<=1000000) (h:Rep H (.seq 4 (args.map (dEx k))) [s]) :
 Rep H (dEx k (.mk op nm n args)) [.int k op.toNat,bV nm,.int .i64 n.toInt,s]:=by
 rw [bI6,WG];exact iF.2 ⟨_,Z,Z,Jt,iF.2 ⟨_,Z,Z,okS.2 hn,iF.2 ⟨_,Z,Z,Jt,rP.2 ⟨[s],[],Z,h,vW.2 rfl⟩⟩⟩⟩
end
inductive Fm where
 | mk (op:UInt8) (nm fd:Str) (a b:Int64) (ex:List Ex) (args:List Fm)
def Fm.op:Fm->UInt8 | .mk op _ _ _ _ _ _=>op
def Fm.nm:Fm->Str | .mk _ nm _ _ _ _ _=>nm
def Fm.fd:Fm->Str | .mk _ _ fd _ _ _ _=>fd
def Fm.a:Fm->Int64 | .mk _ _ _ a _ _ _=>a
def Fm.b:Fm->Int64 | .mk _ _ _ _ b _ _=>b
def Fm.ex:Fm->List Ex | .mk _ _ _ _ _ ex _=>ex
def Fm.args:Fm->List Fm | .mk _ _ _ _ _ _ args=>args
mutual
def dFm (k:IntKind):Fm->D
 | .mk op nm fd a b ex args=>.str [.val (.int k op.toNat),.val (bV nm),.val (bV fd),.val (.int .i64 a.toInt),.val (.int .i64 b.toInt),.seq 4 (ex.map (dEx k)),.seq 7 (bU3 k args)]
def bU3 (k:IntKind):List Fm->List D
 | []=>[]
 | f::r=>dFm k f::bU3 k r
end
theorem YE (k:IntKind):∀ l,bU3 k l=l.map (dFm k)
 | []=>rfl
 | e::r=>by rw [bU3,YE k r];rfl
theorem bI5 (k:IntKind) (op:UInt8) (nm fd:Str) (a b:Int64) (ex:List Ex) (args:List Fm):dFm k (.mk op nm fd a b ex args)=.str [.val (.int k op.toNat),.val (bV nm),.val (bV fd),.val (.int .i64 a.toInt),.val (.int .i64 b.toInt),.seq 4 (ex.map (dEx k)),.seq 7 (args.map (dFm k))]:=by rw [dFm,YE]
theorem Fm.ind {C:Fm->Prop} (h:∀ op nm fd a b ex args,(∀ x∈args,C x)->C (.mk op nm fd a b ex args)):∀ e,C e
 | .mk op nm fd a b ex args=>h op nm fd a b ex args λx hx=>Fm.ind h x
termination_by e=>SizeOf.sizeOf e
decreasing_by
 have:=oD hx;simp;omega
section
variable {H:Hp}
abbrev cFm (k:IntKind) (op:UInt8) (nm fd:Str) (a b:Int64) (s1 s2:Value):List Value:=[.int k op.toNat,bV nm,bV fd,.int .i64 a.toInt,.int .i64 b.toInt,s1,s2]
theorem gZ {k:IntKind} {op:UInt8} {nm fd:Str} {a b:Int64} {ex:List Ex} {args:List Fm} {cs:List Value} (h:Rep H (dFm k (.mk op nm fd a b ex args)) cs) :
 ∃ p c p1 c1,cs=cFm k op nm fd a b (.slice p ex.length c) (.slice p1 args.length c1)/\Rep H (.seq 4 (ex.map (dEx k))) [.slice p ex.length c]/\Rep H (.seq 7 (args.map (dFm k))) [.slice p1 args.length c1]/\nm.length<=1000000/\fd.length<=1000000:=by
 rw [bI5,WG] at h;obtain ⟨_,rfl,_,_,h⟩:=iF.1 h;obtain ⟨_,rfl,_,hn,h⟩:=iF.1 h;obtain ⟨_,rfl,_,hm,h⟩:=iF.1 h;obtain ⟨_,rfl,_,_,h⟩:=iF.1 h;obtain ⟨_,rfl,_,_,h⟩:=iF.1 h;obtain ⟨p,c,_,rfl,hs,h⟩:=MI.1 h;obtain ⟨p1,c1,_,rfl,hs1,h⟩:=MI.1 h;rw [vW] at h;subst h;rw [bJ] at hs hs1;exact ⟨p,c,p1,c1,by rw [bJ,bJ],hs,hs1,okS.1 hn,okS.1 hm⟩
theorem sU {k:IntKind} {op:UInt8} {nm fd:Str} {a b:Int64} {ex:List Ex} {args:List Fm} {s s1:Value} (hn:nm.length<=1000000) (hm:fd.length<=1000000) (h:Rep H (.seq 4 (ex.map (dEx k))) [s]) (h1:Rep H (.seq 7 (args.map (dFm k))) [s1]) :
 Rep H (dFm k (.mk op nm fd a b ex args)) (cFm k op nm fd a b s s1):=by
 rw [bI5,WG];exact iF.2 ⟨_,Z,Z,Jt,iF.2 ⟨_,Z,Z,okS.2 hn,iF.2 ⟨_,Z,Z,okS.2 hm,iF.2 ⟨_,Z,Z,Jt,iF.2 ⟨_,Z,Z,Jt,rP.2 ⟨[s],_,Z,h,rP.2 ⟨[s1],[],Z,h1,vW.2 rfl⟩⟩⟩⟩⟩⟩⟩
theorem xV {k:IntKind} {f:Fm} {cs:List Value} (h:Rep H (dFm k f) cs):cs.length=7:=by
 obtain ⟨op,nm,fd,a,b,ex,args⟩:=f;obtain ⟨_,_,_,_,rfl,_⟩:=gZ h
 rfl
end
mutual
def Fm.all (q:Fm->Bool):Fm->Bool
 | .mk op nm fd a b ex args=>q (.mk op nm fd a b ex args) && Fm.alls q args
def Fm.alls (q:Fm->Bool):List Fm->Bool
 | []=>true
 | f::r=>Fm.all q f && Fm.alls q r
end
mutual
def Fm.depth:Fm->Nat
 | .mk _ _ _ _ _ _ args=>Fm.deeps args+1
def Fm.deeps:List Fm->Nat
 | []=>0
 | f::r=>max (Fm.depth f) (Fm.deeps r)
end
mutual
def Ex.count:Ex->Nat
 | .mk _ _ _ args=>Ex.counts args+1
def Ex.counts:List Ex->Nat
 | []=>0
 | e::r=>Ex.count e+Ex.counts r
end
mutual
def Fm.count:Fm->Nat
 | .mk _ _ _ _ _ ex args=>Ex.counts ex+Fm.counts args+1
def Fm.counts:List Fm->Nat
 | []=>0
 | f::r=>Fm.count f+Fm.counts r
end
mutual
def Ex.depth:Ex->Nat
 | .mk _ _ _ args=>Ex.deeps args+1
def Ex.deeps:List Ex->Nat
 | []=>0
 | e::r=>max (Ex.depth e) (Ex.deeps r)
end
variable {k:Nat}
theorem uT {α:Type} {l:List α} (h:k<l.length):l.take (k+1)=l.take k++[l[k]]:=by simp
theorem RD (a b:List Ex):Ex.deeps (a++b)=max (Ex.deeps a) (Ex.deeps b):=by
 induction a with
 | nil=>simp [Ex.deeps]
 | cons e r ih=>simp only [bL,Ex.deeps,ih];omega
theorem NR {l:List Ex} (h:k<l.length):Ex.deeps (l.take (k+1))=max (Ex.deeps (l.take k)) (Ex.depth l[k]):=by
 rw [uT h,RD];simp [Ex.deeps]
theorem NQ (l:List Ex) (k:Nat):Ex.deeps (l.take k)<=Ex.deeps l:=by
 have:=RD (l.take k) (l.drop k);rw [eU] at this;omega
variable {e:Ex}
theorem aQ3 {l:List Ex} (h:e∈l):Ex.depth e<=Ex.deeps l:=by
 induction l with
 | nil=>cases h
 | cons a r ih =>
  simp only [Ex.deeps];rcases bP.1 h with rfl | h
  ·omega
  ·have:=ih h;omega
theorem YD {l:List Ex} (h:k<l.length):Ex.depth l[k]<=Ex.deeps l:=aQ3 (bI h)
theorem CV (op:UInt8) (nm:Str) (n:Int64) (args:List Ex):Ex.depth (.mk op nm n args)=Ex.deeps args+1:=by rw [Ex.depth]
def Sm.kd:Sm->UInt8 | .mk kd _ _ _ _ _=>kd
def Sm.nm:Sm->Str | .mk _ nm _ _ _ _=>nm
def Sm.hd:Sm->Str | .mk _ _ hd _ _ _=>hd
def Sm.ex:Sm->List Ex | .mk _ _ _ ex _ _=>ex
def Sm.th:Sm->List Sm | .mk _ _ _ _ th _=>th
def Sm.el:Sm->List Sm | .mk _ _ _ _ _ el=>el
mutual
def Sm.depth:Sm->Nat
 | .mk _ _ _ _ th el=>max (Sm.deeps th) (Sm.deeps el)+1
def Sm.deeps:List Sm->Nat
 | []=>0
 | e::r=>max (Sm.depth e) (Sm.deeps r)
end
mutual
def Sm.count:Sm->Nat
 | .mk _ _ _ _ th el=>Sm.counts th+Sm.counts el+1
def Sm.counts:List Sm->Nat
 | []=>0
 | e::r=>Sm.count e+Sm.counts r
end
theorem qS (a b:List Sm):Sm.deeps (a++b)=max (Sm.deeps a) (Sm.deeps b):=by
 induction a with
 | nil=>simp [Sm.deeps]
 | cons e r ih=>simp only [bL,Sm.deeps,ih];omega
theorem oZ (a b:List Sm):Sm.counts (a++b)=Sm.counts a+Sm.counts b:=by
 induction a with
 | nil=>simp [Sm.counts]
 | cons e r ih=>simp only [bL,Sm.counts,ih];omega
theorem aM8 (kd:UInt8) (nm hd:Str) (ex:List Ex) (th el:List Sm):Sm.count (.mk kd nm hd ex th el)=Sm.counts th+Sm.counts el+1:=by rw [Sm.count]
theorem WF (l:List Sm):l.length<=Sm.counts l:=by
 induction l with
 | nil=>simp
 | cons e r ih =>
  obtain ⟨kd,nm,hd,ex,th,el⟩:=e;simp only [aK,Sm.counts,aM8];omega
def nG (c:UInt8):Bool:=(decide (97<=c.toNat) && decide (c.toNat<=122)) || (decide (65<=c.toNat) && decide (c.toNat<=90))
def iC (c:UInt8):Bool:=decide (48<=c.toNat) && decide (c.toNat<=57)
def iR (c:UInt8):Bool:=nG c || iC c || decide (c.toNat=95)
def words:List Str:=[[97,102,116,101,114],[97,108,119,97,121,115],[97,110,100],[97,114,114,105,118,101,115],[98,111,111,108],[99,111,109,112,111,110,101,110,116],[99,111,117,110,116],[100,101,108,101,116,101],[100,111],[101,108,115,101],[101,120,105,115,116,115],[102,97,108,115,101],[102,101,116,99,104],[102,108,97,103],[102,108,101,101,116],[102,111,114,97,108,108],[104,97,115],[105,102],[105,109,112,108,105,101,115],[105,110],[105,110,116],[108,97,116,101,110,99,121],[108,105,110,107],[110,111,116],[110,111,119],[111,110],[111,110,99,101],[111,114],[112,114,101,118,105,111,117,115],[115,101,110,100],[115,105,110,99,101],[115,105,122,101],[115,116,111,112],[115,116,111,114,101],[116,97,98,108,101],[116,114,117,101],[118,97,114],[118,101,114,115,105,111,110],[119,104,105,108,101]]
def symbols:List Str:=[[46,46],[61,61],[33,61],[60,61],[62,61],[45,62],[123],[125],[40],[41],[91],[93],[44],[59],[58],[46],[61],[60],[62],[43],[45],[42],[47],[37],[95]]
def pre (q:UInt8->Bool) (l:Str):Nat:=(l.takeWhile q).length
theorem uC (q:UInt8->Bool) (l:Str):pre q l<=l.length:=by
 unfold pre;induction l with
 | nil=>simp
 | cons a r ih=>rw [dZ];split <;> simp;omega
theorem qT {q:UInt8->Bool}:∀ {l:Str} {k:Nat} (h:k<l.length),k<=pre q l->q l[k]=true->k+1<=pre q l
 | [],k,h,_,_=>by simp at h
 | a::r,0,h,_,hq=>by
  unfold pre;rw [dZ];simp at hq;simp [hq]
 | a::r,k+1,h,hk,hq=>by
  unfold pre at hk|-;rw [dZ] at hk|-;cases ha:q a with
  | false=>rw [ha] at hk;simp at hk
  | true =>
   rw [ha] at hk;simp at hk hq;have:=qT (l:=r) (k:=k) (by simpa using h) hk hq;unfold pre at this;simp;omega
theorem xO {q:UInt8->Bool}:∀ {l:Str} {k:Nat} (h:k<l.length),k<=pre q l->q l[k]=false->k=pre q l
 | [],k,h,_,_=>by simp at h
 | a::r,0,h,_,hq=>by
  unfold pre;rw [dZ];simp at hq;simp [hq]
 | a::r,k+1,h,hk,hq=>by
  unfold pre at hk|-;rw [dZ] at hk|-;cases ha:q a with
  | false=>rw [ha] at hk;simp at hk
  | true =>
   rw [ha] at hk;simp at hk hq;have:=xO (l:=r) (k:=k) (by simpa using h) hk hq;unfold pre at this;simp;omega
def bM (l:Str):UInt8 × Nat :=
 let c:=l.headD 0
 if nG c then
  if words.contains (l.take (pre iR l)) then (2,pre iR l) else if pre iR l<=12 then (1,pre iR l) else (5,l.length)
 else if iC c then
  if pre iC l=1\/c≠48 then (3,pre iC l) else (5,l.length)
 else match symbols.find? (λx=>x.isPrefixOf l) with
  | some x=>(4,x.length)
  | none=>(5,l.length)
def fB (l:Str):Bool:=decide (l≠[]) && (bM l).1 == 1 && decide ((bM l).2=l.length)
def yI (l m:Str):Bool:=decide (m.length<=l.length) && decide (l.take m.length=m)
theorem CN (l m:Str):yI l m=m.isPrefixOf l:=by
 rw [aX];simp only [yI,aC,aA,iI]
 constructor
 ·rintro ⟨_,h⟩;have:=eU m.length l;rw [h] at this;exact ⟨_,this⟩
 ·rintro ⟨t,rfl⟩;simp
theorem AO {α:Type} {l:List α} (h:k<l.length) (d:α):l.getD k d=l[k]:=by simp [h]
theorem uD {α β:Type} {f:α->β} {l:List α} (h:k<l.length) (d:α):(l.map f)[k]? = some (f (l.getD k d)):=by simp [h]
structure Shp where
 n:Nat
 nm:Bool
 lv:Nat
 tx:Str
structure Frm where
 nm:Bool
 hd:Bool
 lo:Nat
 hi:Nat
 th:Bool
 el:Bool
def shapes:List Shp:=[⟨0,false,0,[]⟩,⟨0,false,7,[]⟩,⟨0,false,7,[116,114,117,101]⟩,⟨0,false,7,[102,97,108,115,101]⟩,⟨0,false,7,[110,111,119]⟩,⟨0,true,7,[]⟩,⟨1,true,7,[]⟩,⟨1,true,7,[104,97,115,32]⟩,⟨0,true,7,[115,105,122,101,32]⟩,⟨1,false,6,[45]⟩,⟨1,false,6,[110,111,116,32]⟩,⟨2,false,5,[32,42,32]⟩,⟨2,false,5,[32,47,32]⟩,⟨2,false,5,[32,37,32]⟩,⟨2,false,4,[32,43,32]⟩,⟨2,false,4,[32,45,32]⟩,⟨2,false,3,[32,61,61,32]⟩,⟨2,false,3,[32,33,61,32]⟩,⟨2,false,3,[32,60,32]⟩,⟨2,false,3,[32,60,61,32]⟩,⟨2,false,3,[32,62,32]⟩,⟨2,false,3,[32,62,61,32]⟩,⟨2,false,2,[32,97,110,100,32]⟩,⟨2,false,1,[32,111,114,32]⟩]
def KJ:List Frm:=[⟨false,false,0,0,false,false⟩,⟨true,false,1,1,false,false⟩,⟨true,false,2,2,false,false⟩,⟨true,false,1,1,false,false⟩,⟨false,false,1,1,true,true⟩,⟨false,false,1,1,true,false⟩,⟨true,true,0,4,false,false⟩,⟨false,true,1,5,false,false⟩,⟨false,false,2,2,false,true⟩,⟨true,false,1,1,false,true⟩,⟨false,false,0,0,false,false⟩]
def TU (op:UInt8):Bool:=decide (1<=op.toNat) && decide (op.toNat<=23)
def MS (op:UInt8):Bool:=decide (1<=op.toNat) && decide (op.toNat<=10)
def eK (op:UInt8):Shp:=if TU op then shapes.getD op.toNat ⟨0,false,0,[]⟩ else ⟨0,false,0,[]⟩
def tB (op:UInt8):Frm:=if MS op then KJ.getD op.toNat ⟨false,false,0,0,false,false⟩ else ⟨false,false,0,0,false,false⟩
theorem aJ6 {α:Type} {f:α->List Value} {z:Nat} (hz:∀ a,(f a).length=z):∀ {l:List α} {i:Nat} (d:α),i<l.length->∀ (j:Nat) u,(f (l.getD i d))[j]? = some u->(l.flatMap f)[i * z+j]? = some u
 | [],i,d,h,j,u,e=>by simp at h
 | a::r,0,d,h,j,u,e=>by
  simp only [List.flatMap_cons,pV,dT];simp at e;rw [List.getElem?_append_left (List.getElem?_eq_some_iff.1 e).1];exact e
 | a::r,i+1,d,h,j,u,e=>by
  simp only [List.flatMap_cons];rw [List.getElem?_append_right (by rw [hz,iU];omega),hz,show (i+1) * z+j - z=i * z+j by rw [iU];omega];exact aJ6 hz d (by simpa using h) j u (by simpa using e)
structure Gl (H:Hp):Prop where
 words:kU H 5 0 (words.map bV)
 symbols:kU H 3 0 (symbols.map bV)
variable {H H':Hp}
theorem Gl.up (g:Gl H) (u:Up H H'):Gl H':=⟨g.words.up u,g.symbols.up u⟩
mutual
def Ex.all (q:Ex->Bool):Ex->Bool
 | .mk op nm n args=>q (.mk op nm n args) && Ex.alls q args
def Ex.alls (q:Ex->Bool):List Ex->Bool
 | []=>true
 | e::r=>Ex.all q e && Ex.alls q r
end
theorem YI (q:Ex->Bool) (a b:List Ex):Ex.alls q (a++b)=(Ex.alls q a && Ex.alls q b):=by
 induction a with
 | nil=>simp [Ex.alls]
 | cons e r ih=>simp only [bL,Ex.alls,ih,yY]
theorem aR8 {q:Ex->Bool} {l:List Ex} (h:k<l.length):Ex.alls q (l.take (k+1))=(Ex.alls q (l.take k) && Ex.all q l[k]):=by
 rw [uT h,YI];simp [Ex.alls]
theorem bK4 {q:Ex->Bool} {l:List Ex} (h:k<l.length) (hb:Ex.all q l[k]=false):Ex.alls q l=false:=by
 have h1:=YI q (l.take (k+1)) (l.drop (k+1));rw [eU,aR8 h,hb] at h1;simpa using h1
theorem BD (q:Ex->Bool) (op:UInt8) (nm:Str) (n:Int64) (args:List Ex):Ex.all q (.mk op nm n args)=(q (.mk op nm n args) && Ex.alls q args):=by rw [Ex.all]
mutual
def Sm.all (q:Sm->Bool):Sm->Bool
 | .mk kd nm hd ex th el=>q (.mk kd nm hd ex th el) && Sm.alls q th && Sm.alls q el
def Sm.alls (q:Sm->Bool):List Sm->Bool
 | []=>true
 | e::r=>Sm.all q e && Sm.alls q r
end
theorem tM (q:Sm->Bool) (a b:List Sm):Sm.alls q (a++b)=(Sm.alls q a && Sm.alls q b):=by
 induction a with
 | nil=>simp [Sm.alls]
 | cons e r ih=>simp only [bL,Sm.alls,ih,yY]
theorem TA (q:Sm->Bool) (kd:UInt8) (nm hd:Str) (ex:List Ex) (th el:List Sm):Sm.all q (.mk kd nm hd ex th el)=(q (.mk kd nm hd ex th el) && Sm.alls q th && Sm.alls q el):=by rw [Sm.all]
def bD4:Ex->Bool
 | .mk op nm _ _=>!(eK op).nm || fB nm
def uN:Ex->Bool
 | .mk op nm n args=>TU op && decide (args.length=(eK op).n) && ((eK op).nm || decide (nm=[])) && (if op=1 then decide (0<=n.toInt) else decide (n.toInt=0))
def HO:Sm->Bool
 | .mk kd nm hd ex _ _=>(!(tB kd).nm || fB nm) && (!(tB kd).hd || fB hd) && Ex.alls bD4 ex
def UK:Sm->Bool
 | .mk kd nm hd ex th el=>MS kd && decide ((tB kd).lo<=ex.length) && decide (ex.length<=(tB kd).hi) && ((tB kd).nm || decide (nm=[])) && ((tB kd).hd || decide (hd=[])) &&
  ((tB kd).th || decide (th.length=0)) && ((tB kd).el || decide (el.length=0)) && Ex.alls uN ex
def cG8:Sm->Bool
 | .mk _ _ _ ex _ _=>ex.all λx=>decide (x.depth<=8)
def cM9 (h:Hd):Bool:=Sm.alls UK h.body
structure Fs where
 lv:Nat
 nm:Bool
 fd:Bool
 wn:Bool
 am:Bool
 ex:Nat
 ar:Nat
def zFs:Fs:=⟨0,false,false,false,false,0,0⟩
def LH:List Fs:=[zFs,⟨6,false,false,false,false,0,0⟩,⟨6,false,false,false,false,0,0⟩,⟨6,false,false,false,false,1,0⟩,⟨6,true,true,false,false,0,0⟩,⟨6,true,true,false,false,1,0⟩,⟨6,true,false,false,false,0,0⟩,⟨6,true,true,false,false,0,0⟩,
 ⟨5,false,false,false,false,0,1⟩,⟨3,false,false,false,false,0,2⟩,⟨2,false,false,false,false,0,2⟩,⟨1,false,false,false,false,0,2⟩,⟨5,false,false,false,false,0,1⟩,⟨5,false,false,true,false,0,1⟩,⟨5,false,false,true,false,0,1⟩,⟨4,false,false,true,false,0,2⟩,
 ⟨5,true,false,false,true,0,1⟩,⟨5,true,false,false,true,0,1⟩,⟨5,true,false,false,true,1,1⟩]
def dD (op:UInt8):Fs:=LH.getD op.toNat zFs
def eA:Str->Option (Str × Str)
 | []=>none
 | c::r=>if c=46 then some ([],r) else (eA r).map λx=>(c::x.1,x.2)
def yU (n:Str):Bool:=match eA n with | some (a,b)=>fB a && fB b | none=>false
def oL (f:Fm):Bool:=!f.ex.any λe=>decide ((if f.op=3 then 9 else 8)<e.depth)
mutual
def rQ:Ex->Bool
 | .mk op nm _ args=>(decide (op=5) && !yU nm && !fB nm) || ((decide (op=6) || decide (op=8)) && !yU nm) || MX args
def MX:List Ex->Bool
 | []=>false
 | e::r=>rQ e || MX r
end
def xQ (f:Fm):Bool:=!((dD f.op).nm && !fB f.nm || (dD f.op).fd && !fB f.fd) && !MX f.ex
mutual
def eL:Ex->Bool
 | .mk op nm n args =>
  if op=1 then decide (nm=[]) && decide (0<=n.toInt) && decide (args.length=0)
  else if op=4 then decide (nm=[]) && decide (n=0) && decide (args.length=0)
  else if op=5\/op=8 then decide (n=0) && decide (args.length=0)
  else if op=6 then decide (n=0) && (AE args && decide (args.length=1))
  else if op=9 then decide (nm=[]) && decide (n=0) && (AE args && decide (args.length=1))
  else if op=11\/op=12\/op=13\/op=14\/op=15 then decide (nm=[]) && decide (n=0) && (AE args && decide (args.length=2))
  else false
def AE:List Ex->Bool
 | []=>true
 | e::r=>eL e && AE r
end
def BX:Ex->Bool
 | .mk op nm n args=>decide (op=0) && decide (nm=[]) && decide (n=0) && decide (args.length=0)
def JK:Ex->Bool
 | .mk op nm n args=>decide (16<=op.toNat) && decide (op.toNat<=21) && decide (nm=[]) && decide (n=0) && (AE args && decide (args.length=2))
def CY (f:Fm):Bool :=
 if (dD f.op).wn then (decide (f.a=0) && decide (f.b.toInt=-1)) || (decide (0<=f.a.toInt) && decide (f.a.toInt<=f.b.toInt) && decide (f.b.toInt<=200))
 else if (dD f.op).am then decide (-1000000<=f.a.toInt) && decide (f.a.toInt<=f.b.toInt) && decide (f.b.toInt<=1000000) && decide (f.b.toInt - f.a.toInt<32)
 else decide (f.a=0) && decide (f.b=0)
def uW (f:Fm):Bool :=
 if f.op=7 then decide (f.ex.length<=4) && f.ex.all λe=>BX e || eL e
 else decide (f.ex.length=(dD f.op).ex) && (if f.op=3 then JK (f.ex.headD (.mk 0 [] 0 [])) else if f.op=5 then eL (f.ex.headD (.mk 0 [] 0 []))
  else if f.op=18 then decide ((f.ex.headD (.mk 0 [] 0 [])).op=1) && eL (f.ex.headD (.mk 0 [] 0 [])) && decide ((f.ex.headD (.mk 0 [] 0 [])).n.toInt<=32) else true)
def kV (f:Fm):Bool :=
 decide (¬ (dD f.op).lv=0) && ((dD f.op).nm || decide (f.nm=[])) && ((dD f.op).fd || decide (f.fd=[])) && decide (f.args.length=(dD f.op).ar) && CY f && uW f
def fH (f:Fm):Nat:=if 60<Fm.count f\/Fm.all oL f=false then 3 else if Fm.all xQ f=false then 9 else if Fm.all kV f=false then 6 else 0
def opT (least:Nat) (x:Nat × Str):Str:=if x.1<least then [40]++x.2++[41] else x.2
def aA5 (lv:Nat):Nat:=if lv=3 then lv+1 else lv
def txt (op:UInt8) (nm:Str) (n:Int64) (ls:List (Nat × Str)):Str :=
 if op=1 then Lib.itoa n.toInt
 else if op=5\/op=8 then (eK op).tx++nm
 else if op=6\/op=7 then (eK op).tx++nm++[91]++(ls.getD 0 (0,[])).2++[93]
 else if op=9\/op=10 then (eK op).tx++opT (eK op).lv (ls.getD 0 (0,[]))
 else if (eK op).n=0 then (eK op).tx
 else opT (aA5 (eK op).lv) (ls.getD 0 (0,[]))++(eK op).tx++opT ((eK op).lv+1) (ls.getD 1 (0,[]))
mutual
def Ex.text:Ex->Str
 | .mk op nm n args=>txt op nm n (Ex.texts args)
def Ex.texts:List Ex->List (Nat × Str)
 | []=>[]
 | e::r=>((eK e.op).lv,Ex.text e)::Ex.texts r
end
theorem PW:∀ l:List Ex,Ex.texts l=l.map λe=>((eK e.op).lv,Ex.text e)
 | []=>rfl
 | e::r=>by rw [Ex.texts,PW r];rfl
theorem GU (op:UInt8) (nm:Str) (n:Int64) (args:List Ex):Ex.text (.mk op nm n args)=txt op nm n (args.map λe=>((eK e.op).lv,Ex.text e)):=by rw [Ex.text,PW]
def spT:Nat->Str
 | 0=>[]
 | k+1=>spT k++[32,32]
def vX (ind:Nat) (parts:List Str):Str:=spT ind++parts.flatten++[10]
def aI5 (l:List Str):Str:=Lib.join l [44,32]
def aK0 (n:Nat) (first:Str) (noE:Bool) (E:Str):Str:=if noE then vX n [first,[59]] else vX n [first,[32,101,108,115,101,32,123]]++E++vX n [[125]]
def stT (n:Nat) (kd:UInt8) (nm hd:Str) (es:List Str) (T:Str) (noE:Bool) (E:Str):Str :=
 if kd=1 then vX n [nm,[32,61,32],es.getD 0 [],[59]]
 else if kd=2 then vX n [nm,[91],es.getD 0 [],[93,32,61,32],es.getD 1 [],[59]]
 else if kd=3 then vX n [[100,101,108,101,116,101,32],nm,[91],es.getD 0 [],[93,59]]
 else if kd=4 then vX n [[105,102,32],es.getD 0 [],[32,123]]++T++(if noE then [] else vX n [[125,32,101,108,115,101,32,123]]++E)++vX n [[125]]
 else if kd=5 then vX n [[119,104,105,108,101,32],es.getD 0 [],[32,123]]++T++vX n [[125]]
 else if kd=6 then vX n [[115,101,110,100,32],nm,[46],hd,[40],aI5 es,[41,59]]
 else if kd=7 then vX n [[97,102,116,101,114,32],es.getD 0 [],[32,100,111,32],hd,[40],aI5 (es.drop 1),[41,59]]
 else if kd=8 then aK0 n ([115,116,111,114,101,32]++es.getD 0 []++[32,61,32]++es.getD 1 []) noE E
 else if kd=9 then aK0 n ([102,101,116,99,104,32]++nm++[32,61,32]++es.getD 0 []) noE E
 else if kd=10 then vX n [[115,116,111,112,59]]
 else []
mutual
def Sm.text (n:Nat):Sm->Str
 | .mk kd nm hd ex th el=>stT n kd nm hd (ex.map Ex.text) (Sm.texts (n+1) th) (decide (el.length=0)) (Sm.texts (n+1) el)
def Sm.texts (n:Nat):List Sm->Str
 | []=>[]
 | s::r=>Sm.text n s++Sm.texts n r
end
theorem GY (n:Nat) (kd:UInt8) (nm hd:Str) (ex:List Ex) (th el:List Sm):Sm.text n (.mk kd nm hd ex th el)=stT n kd nm hd (ex.map Ex.text) (Sm.texts (n+1) th) (decide (el.length=0)) (Sm.texts (n+1) el):=by rw [Sm.text]
theorem uE (n:Int64):(Lib.itoa n.toInt).length<=21:=Lib.itoa_length_le n.toInt (by have:=n.le_toInt;omega) (by have:=n.toInt_lt;omega)
theorem bD3 {l:Str} (h:fB l=true):l.length<=12:=by
 simp only [fB,aC,aA,dM] at h;obtain ⟨⟨_,h1⟩,h2⟩:=h;unfold bM at h1 h2;dsimp only at h1 h2
 split at h1
 ·split at h1
  ·simp at h1
  ·split at h1
   ·rename_i a b c;simp only [a,b,c,aU,aB,aS] at h2;omega
   ·simp at h1
 ·split at h1
  ·split at h1 <;> simp at h1
  ·split at h1 <;> simp at h1
theorem jF {q:Ex->Bool}:∀ {l:List Ex} {a:Ex},a∈l->Ex.alls q l=true->Ex.all q a=true
 | [],a,h,_=>by cases h
 | b::r,a,h,k=>by
  rw [Ex.alls,aC] at k;rcases bP.1 h with rfl | h
  ·exact k.1
  ·exact jF h k.2
structure Nd where
 op:UInt8
 nm:UInt8
 ct:UInt8
 odd:Bool
 n:Int64
def arR (k:Nat):Int:=if k<1\/23<k then -1 else if k<=5\/k=8 then 0 else if k=6\/k=7\/k=9\/k=10 then 1 else 2
def FI (e:Ex):Bool:=decide (e.args.length<=3)
theorem QP (op:UInt8) (nm:Str) (n:Int64) (args:List Ex):FI (.mk op nm n args)=decide (args.length<=3):=rfl
def lQ (c:UInt8):Bool:=decide (c=32) || decide (c=9) || decide (c=10) || decide (c=13)
def eF:Bool->Str->Str
 | _,[]=>[]
 | true,c::r=>if c=10 then eF false r else eF true r
 | false,c::r=>if lQ c then eF false r else if c=47/\r.head? = some 47 then eF true r else c::r
theorem tL (b:Bool):eF b []=[]:=by cases b <;> rfl
variable {r:Str}
theorem QD {c:UInt8} (h:¬ c=10):eF true (c::r)=eF true r:=by rw [eF,aD h]
theorem QC (r:Str):eF true (10::r)=eF false (10::r):=by rw [eF,aM rfl,eF,aM (by decide)]
theorem QE {c:UInt8} (h:lQ c=true):eF false (c::r)=eF false r:=by rw [eF,aM h]
theorem QB (r:Str):eF false (47::47::r)=eF true (47::47::r):=by simp [eF,lQ]
theorem pF {c:UInt8} (h:lQ c=false) (h2:¬ (c=47/\r.head? = some 47)):eF false (c::r)=c::r:=by rw [eF,aD (by simp [h]),aD h2]
theorem xA:∀ (l:Str) (b:Bool),∃ p,l=p++eF b l
 | [],b=>⟨[],by rw [tL];rfl⟩
 | c::r,true=>by
  rw [eF]
  split
  ·obtain ⟨p,h⟩:=xA r false;exact ⟨c::p,by rw [bL,<-h]⟩
  ·obtain ⟨p,h⟩:=xA r true;exact ⟨c::p,by rw [bL,<-h]⟩
 | c::r,false=>by
  rw [eF]
  split
  ·obtain ⟨p,h⟩:=xA r false;exact ⟨c::p,by rw [bL,<-h]⟩
  ·split
   ·obtain ⟨p,h⟩:=xA r true;exact ⟨c::p,by rw [bL,<-h]⟩
   ·exact ⟨[],Z⟩
theorem nA (b:Bool) (l:Str):(eF b l).length<=l.length:=by
 obtain ⟨p,h⟩:=xA l b;have:=congrArg List.length h;rw [aE] at this;omega
theorem xK (b:Bool) (l:Str):l.drop (l.length - (eF b l).length)=eF b l:=by
 obtain ⟨p,h⟩:=xA l b;generalize eF b l=q at h;subst h;rw [show (p++q).length - q.length=p.length by rw [aE];omega,List.drop_left]
theorem qC {l:Str} (h:l≠[]):1<=(bM l).2/\(bM l).2<=l.length:=by
 match l,h with
 | c::r,_ =>
  have hp:∀ q:UInt8->Bool,q c=true->1<=pre q (c::r):=λq hq=>by unfold pre;rw [dZ,hq];simp
  cases h1:nG c with
  | true =>
   have h2:=hp iR (by simp [iR,h1]);have h3:=uC iR (c::r);cases h4:words.contains ((c::r).take (pre iR (c::r))) with
   | true=>simp only [bM,aH,h1,h4,aU];exact ⟨h2,h3⟩
   | false =>
    by_cases h5:pre iR (c::r)<=12
    ·simp only [bM,aH,h1,h4,h5,aU,aB,aS];exact ⟨h2,h3⟩
    ·simp only [bM,aH,h1,h4,h5,aU,aB,aS];simp
  | false =>
   cases h4:iC c with
   | true =>
    have h2:=hp iC h4;have h3:=uC iC (c::r)
    by_cases h5:pre iC (c::r)=1\/c≠48
    ·simp only [bM,aH,h1,h4,h5,aU,aB,aS];exact ⟨h2,h3⟩
    ·simp only [bM,aH,h1,h4,h5,aU,aB,aS];simp
   | false =>
    cases hx:symbols.find? (λx=>x.isPrefixOf (c::r)) with
    | none=>simp only [bM,aH,h1,h4,hx,aB,aS];simp
    | some x =>
     have hm:=List.mem_of_find?_eq_some hx;have hpx:=List.find?_some hx
     have hl:x.length<=(c::r).length:=by
      obtain ⟨t,ht⟩:=iI.1 hpx;rw [<-ht];simp
     have key:∀ y∈symbols,1<=y.length:=by decide
     simp only [bM,aH,h1,h4,hx,aB,aS];exact ⟨key x hm,hl⟩
theorem QG {c:UInt8} (h:(bM (c::r)).1=1):nG c=true:=by
 cases h1:nG c with
 | true=>rfl
 | false =>
  cases h4:iC c with
  | true =>
   by_cases h5:pre iC (c::r)=1\/c≠48
   ·simp only [bM,aH,h1,h4,h5,aU,aB,aS] at h;simp at h
   ·simp only [bM,aH,h1,h4,h5,aU,aB,aS] at h;simp at h
  | false =>
   cases hx:symbols.find? (λx=>x.isPrefixOf (c::r)) <;> simp only [bM,aH,h1,h4,hx,aB,aS] at h <;> simp at h
structure Tk where
 k:UInt8
 t:Str
 o:Nat
def dTk (k:IntKind) (x:Tk):D:=.str [.val (.int k x.k.toNat),.val (bV x.t),.val (iN x.o)]
def cTk (k:IntKind) (x:Tk):List Value:=[.int k x.k.toNat,bV x.t,iN x.o]
theorem GR {k:IntKind} {x:Tk} {cs:List Value} (h:Rep H (dTk k x) cs):cs=cTk k x/\x.t.length<=1000000:=by
 rw [dTk,WG] at h;obtain ⟨_,rfl,_,_,h⟩:=iF.1 h;obtain ⟨_,rfl,_,k0,h⟩:=iF.1 h;obtain ⟨_,rfl,_,_,h⟩:=iF.1 h;rw [vW] at h;subst h;exact ⟨Z,okS.1 k0⟩
theorem DE {k:IntKind} {x:Tk} (h:x.t.length<=1000000):Rep H (dTk k x) (cTk k x):=by
 rw [dTk,WG];exact iF.2 ⟨_,Z,Z,Jt,iF.2 ⟨_,Z,Z,okS.2 h,iF.2 ⟨_,Z,Z,Jt,vW.2 rfl⟩⟩⟩
def AD:Nat->Nat->Str->List Tk
 | 0,_,_=>[]
 | f+1,o,m=>if m=[] then [] else ⟨(bM m).1,m.take (bM m).2,o⟩::AD f (o+(m.length - (eF false (m.drop (bM m).2)).length)) (eF false (m.drop (bM m).2))
def nQ (s:Str):List Tk:=AD (s.length+1) (s.length - (eF false s).length) (eF false s)
theorem mL {f o:Nat} {m:Str} (h:m≠[]):AD (f+1) o m=⟨(bM m).1,m.take (bM m).2,o⟩::AD f (o+(m.length - (eF false (m.drop (bM m).2)).length)) (eF false (m.drop (bM m).2)):=by rw [AD,aD h]
theorem oK (f o:Nat):AD f o []=[]:=by cases f <;> simp [AD]
theorem zI:∀ (f g o:Nat) (m:Str),m.length<f->m.length<g->AD f o m=AD g o m
 | 0,_,_,_,h,_=>by omega
 | _,0,_,_,_,h=>by omega
 | f+1,g+1,o,m,h,k=>by
  by_cases h0:m=[]
  ·subst h0;rw [oK,oK]
  ·rw [mL h0,mL h0];have hr:=qC h0;have hs:=nA false (m.drop (bM m).2);rw [cS] at hs;rw [zI f g _ _ (by omega) (by omega)]
theorem MY (s:Str):fB s=true↔∃ o,nQ s=[⟨1,s,o⟩]:=by
 constructor
 ·intro h;simp only [fB,aC,aA,dM] at h;obtain ⟨⟨h0,h1⟩,h2⟩:=h
  match s,h0 with
  | c::r,h0 =>
   have hl:nG c=true:=QG h1
   have hs:eF false (c::r)=c::r:=pF (by
    have key:∀ i∈List.range 256,nG (UInt8.ofNat i)=true->lQ (UInt8.ofNat i)=false:=by decide +kernel
    have:=key c.toNat (bU.2 c.toNat_lt);rw [iH] at this;exact this hl) (by rintro ⟨rfl,_⟩;revert hl;decide)
   refine ⟨0,?_⟩;rw [nQ,hs,mL h0,h2,aY,List.drop_length,tL,oK,jP,h1]
 ·rintro ⟨o,h⟩;rw [nQ] at h
  by_cases h0:eF false s=[]
  ·rw [h0,oK] at h;cases h
  ·rw [mL h0] at h;injection h with h _
   injection h with h1 h2 h3
   have hl:=nA false s;have hr:=qC h0;have h4:=congrArg List.length h2;rw [dV] at h4
   have h5:eF false s=s:=by
    have:=xK false s;rw [show s.length - (eF false s).length=0 by omega,nO] at this;exact this.symm
   rw [h5] at h0 h1 h4 hr;simp only [fB,aC,aA,dM];exact ⟨⟨h0,h1⟩,by omega⟩
inductive Rs (α:Type) where
 | ok (a:α) (r:List Tk)
 | er (r:List Tk) (code:Nat)
def Rs.bind {α β:Type} (x:Rs α) (f:α->List Tk->Rs β):Rs β:=match x with | .ok a r=>f a r | .er r c=>.er r c
def isT (w:Str):List Tk->Bool
 | []=>false
 | t::_=>(t.k == 2 || t.k == 4) && decide (t.t=w)
def tO {α:Type} (w:Str) (r:List Tk) (f:List Tk->Rs α):Rs α:=if isT w r then f r.tail else .er r 8
def BQ {α:Type} (r:List Tk) (f:Str->List Tk->Rs α):Rs α:=match r with | []=>.er r 8 | t::q=>if t.k=1 then f t.t q else .er r 8
def lY (s:Str):Nat:=s.foldl (λv c=>10 * v+(c.toNat - 48)) 0
def bZ9:Nat->List (Str × UInt8)
 | 0=>[([111,114],23)]
 | 1=>[([97,110,100],22)]
 | 2=>[([61,61],16),([33,61],17),([60],18),([60,61],19),([62],20),([62,61],21)]
 | 3=>[([43],14),([45],15)]
 | _=>[([42],11),([47],12),([37],13)]
def opAt (lv:Nat) (r:List Tk):Option UInt8:=((bZ9 lv).find? λx=>isT x.1 r).map (·.2)
inductive Md where
 | ex (lv:Nat)
 | lp (lv:Nat) (a:Ex)
def opE (op:UInt8) (l:List Ex):Ex:=.mk op [] 0 l
def sA (rec:List Tk->Rs Ex) (r:List Tk):Rs Ex :=
 match r with
 | []=>.er r 8
 | t::q =>
  if t.k=3 then (if lY t.t<=9223372036854775807 then .ok (.mk 1 [] (Int64.ofNat (lY t.t)) []) q else .er r 2)
  else if isT [116,114,117,101] r then .ok (opE 2 []) q
  else if isT [102,97,108,115,101] r then .ok (opE 3 []) q
  else if isT [110,111,119] r then .ok (opE 4 []) q
  else if isT [115,105,122,101] r then BQ q λs r2=>.ok (.mk 8 s 0 []) r2
  else if isT [40] r then (rec q).bind λx r2=>tO [41] r2 λr3=>.ok x r3
  else if isT [104,97,115] r then BQ q λs r2=>tO [91] r2 λr3=>(rec r3).bind λx r4=>tO [93] r4 λr5=>.ok (.mk 7 s 0 [x]) r5
  else if t.k=1 then (if isT [91] q then (rec q.tail).bind λx r4=>tO [93] r4 λr5=>.ok (.mk 6 t.t 0 [x]) r5 else .ok (.mk 5 t.t 0 []) q)
  else .er r 8
def pE:Nat->Md->List Tk->Rs Ex
 | 0,_,r=>.er r 99
 | f+1,.ex lv,r =>
  if lv<5 then (pE f (.ex (lv+1)) r).bind λa r1=>pE f (.lp lv a) r1
  else if isT [45] r then (pE f (.ex 5) r.tail).bind λx r2=>.ok (opE 9 [x]) r2
  else if isT [110,111,116] r then (pE f (.ex 5) r.tail).bind λx r2=>.ok (opE 10 [x]) r2
  else sA (pE f (.ex 0)) r
 | f+1,.lp lv a,r =>
  match opAt lv r with
  | none=>.ok a r
  | some op=>(pE f (.ex (lv+1)) r.tail).bind λb r2=>if lv=2 then .ok (opE op [a,b]) r2 else pE f (.lp lv (opE op [a,b])) r2
/-! ### Enough fuel -/
theorem ifC {α:Type} {c:Prop} [Decidable c] {x y u v:α} (h1:x=u) (h2:y=v):(if c then x else y)=(if c then u else v):=by rw [h1,h2]
theorem ifI {α:Type} {c d:Prop} [Decidable c] [Decidable d] {x y:α} (h:c↔d):(if c then x else y)=(if d then x else y):=by
 by_cases e:c
 ·rw [aM e,aM (h.1 e)]
 ·rw [aD e,aD (λk=>e (h.2 k))]
variable {w:Str}
theorem qG {r:List Tk} (h:isT w r=true):r.length=r.tail.length+1:=by cases r with | nil=>cases h | cons t q=>rfl
theorem TT {lv:Nat} {r:List Tk} {op:UInt8} (h:opAt lv r=some op):r.length=r.tail.length+1:=by
 unfold opAt at h;obtain ⟨x,hx,_⟩:=eE.1 h;exact qG (w:=x.1) (by have:=List.find?_some hx;exact this)
theorem Rs.bind_ok {α β:Type} {x:Rs α} {f:α->List Tk->Rs β} {b:β} {r:List Tk} (h:x.bind f=.ok b r):∃ a q,x=.ok a q/\f a q=.ok b r:=by
 cases x with
 | ok a q=>exact ⟨a,q,Z,h⟩
 | er q c=>cases h
theorem HM {α:Type} {r:List Tk} {f:List Tk->Rs α} {a:α} {q:List Tk} (h:tO w r f=.ok a q):isT w r=true/\f r.tail=.ok a q:=by
 unfold tO at h
 split at h
 ·rename_i e;exact ⟨e,h⟩
 ·cases h
theorem WZ {α:Type} {r:List Tk} {f:Str->List Tk->Rs α} {a:α} {q:List Tk} (h:BQ r f=.ok a q):∃ t r',r=t::r'/\t.k=1/\f t.t r'=.ok a q:=by
 unfold BQ at h;cases r with
 | nil=>cases h
 | cons t r' =>
  by_cases e:t.k=1
  ·simp only [e,aU] at h;exact ⟨t,r',Z,e,h⟩
  ·simp only [e,aS] at h;cases h
theorem aN5 {rec:List Tk->Rs Ex} (hr:∀ q a r',rec q=.ok a r'->r'.length<=q.length) {r:List Tk} {a:Ex} {r':List Tk} (h:sA rec r=.ok a r'):r'.length<r.length:=by
 unfold sA at h;cases r with
 | nil=>cases h
 | cons t q =>
  simp only at h
  have fin:∀ {b:Ex} {l:List Tk},(Rs.ok b l:Rs Ex)=.ok a r'->l.length<=q.length->r'.length<(t::q).length:=by
   intro b l e hl;injection e with _ e;subst e;simp;omega
  split at h
  ·split at h
   ·exact fin h (aW _)
   ·cases h
  split at h
  ·exact fin h (aW _)
  split at h
  ·exact fin h (aW _)
  split at h
  ·exact fin h (aW _)
  split at h
  ·obtain ⟨t2,r2,rfl,_,h⟩:=WZ h;exact fin h (by simp)
  split at h
  ·obtain ⟨x,r2,h1,h⟩:=Rs.bind_ok h;obtain ⟨h2,h⟩:=HM h;have:=hr _ _ _ h1;have:=qG h2;exact fin h (by omega)
  split at h
  ·obtain ⟨t2,r2,rfl,_,h⟩:=WZ h;obtain ⟨h2,h⟩:=HM h;obtain ⟨x,r4,h1,h⟩:=Rs.bind_ok h;obtain ⟨h3,h⟩:=HM h;have:=hr _ _ _ h1;have:=qG h2;have:=qG h3;exact fin h (by simp;omega)
  split at h
  ·split at h
   ·rename_i h2;obtain ⟨x,r4,h1,h⟩:=Rs.bind_ok h;obtain ⟨h3,h⟩:=HM h;have:=hr _ _ _ h1;have:=qG h2;have:=qG h3;exact fin h (by omega)
   ·exact fin h (aW _)
  ·cases h
theorem CI:∀ (f:Nat),(∀ lv r a r',pE f (.ex lv) r=.ok a r'->r'.length<r.length)/\(∀ lv x r a r',pE f (.lp lv x) r=.ok a r'->r'.length<=r.length)
 | 0=>⟨λ_ _ _ _ h=>(by cases h),λ_ _ _ _ _ h=>(by cases h)⟩
 | f+1=>by
  obtain ⟨ih1,ih2⟩:=CI f;refine ⟨λlv r a r' h=>?_,λlv x r a r' h=>?_⟩
  ·unfold pE at h
   split at h
   ·obtain ⟨b,q,h1,h2⟩:=Rs.bind_ok h;have:=ih1 _ _ _ _ h1;have:=ih2 _ _ _ _ _ h2;omega
   split at h
   ·rename_i e;obtain ⟨b,q,h1,h2⟩:=Rs.bind_ok h;have:=ih1 _ _ _ _ h1;have:=qG e;injection h2 with _ e2;subst e2;omega
   split at h
   ·rename_i e;obtain ⟨b,q,h1,h2⟩:=Rs.bind_ok h;have:=ih1 _ _ _ _ h1;have:=qG e;injection h2 with _ e2;subst e2;omega
   ·exact aN5 (λq b r2 e=>pW (ih1 _ _ _ _ e)) h
  ·unfold pE at h
   split at h
   ·injection h with _ e;subst e;exact aW _
   ·rename_i op e;obtain ⟨b,q,h1,h2⟩:=Rs.bind_ok h;have:=ih1 _ _ _ _ h1;have:=TT e
    split at h2
    ·injection h2 with _ e2;subst e2;omega
    ·have:=ih2 _ _ _ _ _ h2;omega
theorem Rs.bind_congr {α β:Type} {x y:Rs α} {f g:α->List Tk->Rs β} (h:x=y) (k:∀ a r,x=.ok a r->f a r=g a r):x.bind f=y.bind g:=by
 subst h;cases x with
 | ok a r=>exact k a r rfl
 | er r c=>rfl
theorem KF {rec rec':List Tk->Rs Ex} {r:List Tk} (h:∀ q,q.length<r.length->rec q=rec' q):sA rec r=sA rec' r:=by
 unfold sA;cases r with
 | nil=>rfl
 | cons t q =>
  have hb:∀ (z:List Tk) (g:Ex->List Tk->Rs Ex),z.length<=q.length->(rec z).bind g=(rec' z).bind g:=λz g hz=>by rw [h z (by simp;omega)]
  have ht:∀ z:List Tk,z.tail.length<=z.length:=λz=>by simp
  simp only;rw [hb q _ (aW _),hb q.tail _ (ht q)];refine ifC rfl (ifC rfl (ifC rfl (ifC rfl (ifC rfl (ifC rfl (ifC ?_ rfl))))));unfold BQ;cases q with
  | nil=>rfl
  | cons t2 r2 =>
   simp only;refine ifC ?_ rfl;unfold tO;refine ifC ?_ rfl;exact hb _ _ (by simp;omega)
def uR:Md->List Tk->Nat
 | .ex lv,r=>16 * r.length+9 - lv
 | .lp _ _,r=>16 * r.length+9
theorem WS (f lv:Nat) (r:List Tk):pE (f+1) (.ex lv) r=if lv<5 then (pE f (.ex (lv+1)) r).bind λa r1=>pE f (.lp lv a) r1
 else if isT [45] r then (pE f (.ex 5) r.tail).bind λx r2=>.ok (opE 9 [x]) r2
 else if isT [110,111,116] r then (pE f (.ex 5) r.tail).bind λx r2=>.ok (opE 10 [x]) r2
 else sA (pE f (.ex 0)) r:=by rw [pE]
theorem WR (f lv:Nat) (a:Ex) (r:List Tk):pE (f+1) (.lp lv a) r=match opAt lv r with
 | none=>.ok a r
 | some op=>(pE f (.ex (lv+1)) r.tail).bind λb r2=>if lv=2 then .ok (opE op [a,b]) r2 else pE f (.lp lv (opE op [a,b])) r2:=by rw [pE]
theorem TQ:∀ (f:Nat),(∀ lv r,lv<=5->uR (.ex lv) r<=f->pE (f+1) (.ex lv) r=pE f (.ex lv) r)/\(∀ lv x r,lv<=4->uR (.lp lv x) r<=f->pE (f+1) (.lp lv x) r=pE f (.lp lv x) r)
 | 0=>⟨λlv r h1 h=>by simp only [uR] at h;omega,λlv x r h1 h=>by simp only [uR] at h;omega⟩
 | f+1=>by
  obtain ⟨ih1,ih2⟩:=TQ f;simp only [uR] at ih1 ih2|-;refine ⟨λlv r h5 h=>?_,λlv x r h4 h=>?_⟩
  ·rw [WS (f+1) lv r,WS f lv r]
   by_cases hlv:lv<5
   ·rw [aM hlv,aM hlv];refine Rs.bind_congr (ih1 _ _ (by omega) (by omega)) λa q e=>?_;have:=(CI (f+1)).1 _ _ _ _ e;exact ih2 _ _ _ (by omega) (by omega)
   rw [aD hlv,aD hlv]
   by_cases e:isT [45] r=true
   ·have:=qG e;rw [aM e,aM e];exact Rs.bind_congr (ih1 _ _ (by omega) (by omega)) λ_ _ _=>rfl
   rw [aD e,aD e]
   by_cases e:isT [110,111,116] r=true
   ·have:=qG e;rw [aM e,aM e];exact Rs.bind_congr (ih1 _ _ (by omega) (by omega)) λ_ _ _=>rfl
   rw [aD e,aD e];exact KF λq hq=>ih1 _ _ (by omega) (by omega)
  ·rw [WR (f+1) lv x r,WR f lv x r];cases e:opAt lv r with
   | none=>rfl
   | some op =>
    simp only;have:=TT e;refine Rs.bind_congr (ih1 _ _ (by omega) (by omega)) λa q e=>?_;have:=(CI (f+1)).1 _ _ _ _ e;refine ifC rfl ?_;exact ih2 _ _ _ (by omega) (by omega)
variable {g:Nat}
theorem aH4 {f lv:Nat} {r:List Tk} (h5:lv<=5) (h:uR (.ex lv) r<=f) (hg:f<=g):pE g (.ex lv) r=pE f (.ex lv) r:=by
 induction g with
 | zero => have : f = 0 := by omega
           rw [this]
 | succ g ih =>
  by_cases e:f=g+1
  ·rw [e]
  ·rw [(TQ g).1 lv r h5 (by omega)];exact ih (by omega)
theorem WQ {f lv:Nat} {a:Ex} {r:List Tk} (h5:lv<=4) (h:uR (.lp lv a) r<=f) (hg:f<=g):pE g (.lp lv a) r=pE f (.lp lv a) r:=by
 induction g with
 | zero => have : f = 0 := by omega
           rw [this]
 | succ g ih =>
  by_cases e:f=g+1
  ·rw [e]
  ·rw [(TQ g).2 lv a r h5 (by omega)];exact ih (by omega)
def pX (lv:Nat) (r:List Tk):Rs Ex:=pE (16 * r.length+9) (.ex lv) r
def pL (lv:Nat) (a:Ex) (r:List Tk):Rs Ex:=pE (16 * r.length+9) (.lp lv a) r
theorem WP {f lv:Nat} {r:List Tk} (h5:lv<=5) (h:uR (.ex lv) r<=f):pE f (.ex lv) r=pX lv r:=by
 unfold pX;rcases Nat.le_total f (16 * r.length+9) with h1 | h1
 ·rw [aH4 h5 h h1]
 ·rw [aH4 h5 (by simp only [uR];omega) h1]
theorem bW0 {f lv:Nat} {a:Ex} {r:List Tk} (h5:lv<=4) (h:uR (.lp lv a) r<=f):pE f (.lp lv a) r=pL lv a r:=by
 unfold pL;rcases Nat.le_total f (16 * r.length+9) with h1 | h1
 ·rw [WQ h5 h h1]
 ·rw [WQ h5 (by simp only [uR];omega) h1]
theorem TP {lv:Nat} {r:List Tk} (h:lv<5):pX lv r=(pX (lv+1) r).bind λa q=>pL lv a q:=by
 conv=>lhs;unfold pX
 rw [show 16 * r.length+9=(16 * r.length+8)+1 by omega,WS,aM h];refine Rs.bind_congr (WP (by omega) (by simp only [uR];omega)) λa q e=>?_;have:=(CI _).1 _ _ _ _ e;exact bW0 (by omega) (by simp only [uR];omega)
theorem EN {r:List Tk} :pX 5 r=if isT [45] r then (pX 5 r.tail).bind λx r2=>.ok (opE 9 [x]) r2 else if isT [110,111,116] r then (pX 5 r.tail).bind λx r2=>.ok (opE 10 [x]) r2 else sA (pX 0) r:=by
 conv=>lhs;unfold pX
 rw [show 16 * r.length+9=(16 * r.length+8)+1 by omega,WS,aD (by omega)]
 by_cases e:isT [45] r=true
 ·have:=qG e;rw [aM e,aM e];exact Rs.bind_congr (WP (by omega) (by simp only [uR];omega)) λ_ _ _=>rfl
 rw [aD e,aD e]
 by_cases e:isT [110,111,116] r=true
 ·have:=qG e;rw [aM e,aM e];exact Rs.bind_congr (WP (by omega) (by simp only [uR];omega)) λ_ _ _=>rfl
 rw [aD e,aD e];exact KF λq hq=>WP (by omega) (by simp only [uR];omega)
theorem DJ {lv:Nat} {a:Ex} {r:List Tk} (h:opAt lv r=none):pL lv a r=.ok a r:=by
 unfold pL;rw [show 16 * r.length+9=(16 * r.length+8)+1 by omega,WR];rw [h]
theorem aH3 {lv:Nat} {a:Ex} {r:List Tk} {op:UInt8} (hl:lv<=4) (h:opAt lv r=some op):pL lv a r=(pX (lv+1) r.tail).bind λb r2=>if lv=2 then .ok (opE op [a,b]) r2 else pL lv (opE op [a,b]) r2:=by
 conv=>lhs;unfold pL
 rw [show 16 * r.length+9=(16 * r.length+8)+1 by omega,WR];rw [h];have:=TT h;refine Rs.bind_congr (WP (by omega) (by simp only [uR];omega)) λb q e=>?_;have:=(CI _).1 _ _ _ _ e;refine ifC rfl ?_;exact bW0 hl (by simp only [uR];omega)
def zE:Ex:=.mk 0 [] 0 []
def zF:Fm:=.mk 0 [] [] 0 0 [] []
structure Ov where
 kd:UInt8
 lv:Nat
 tm:Bool
 op:UInt8
 f:Fm
structure Vl where
 tm:Bool
 wh:Bool
 e:Ex
 f:Fm
structure Rq where
 i:Nat
 off:Nat
 er:Nat
abbrev Vb:=List Vl × Bool
structure Ps where
 c:Rq
 op:List Ov
 x:Vb
 rd:Bool
 dn:Bool
abbrev Tks:=List Tk
def zV:Vl:=⟨false,false,zE,zF⟩
def bO:Ov:=⟨1,0,false,0,zF⟩
section
variable (l:Tks)
def tkf (i:Nat):Tk:=l.getD i ⟨0,[],0⟩
def Rq.fail (c:Nat) (q:Rq):Rq:=if q.er=0 then ⟨q.i,(tkf l q.i).o,c⟩ else q
def Rq.is (w:Str) (q:Rq):Bool:=(decide ((tkf l q.i).k=2) || decide ((tkf l q.i).k=4)) && decide ((tkf l q.i).t=w)
def Rq.ac (w:Str) (q:Rq):Bool:=decide (q.er=0) && q.is l w
def Rq.nx (q:Rq):Rq:=⟨q.i+1,q.off,q.er⟩
def Rq.acS (w:Str) (q:Rq):Rq:=if q.ac l w then q.nx else q
def Rq.exS (w:Str) (q:Rq):Rq:=if q.ac l w then q.nx else q.fail l 8
def Rq.nmK (q:Rq):Bool:=decide (q.er=0) && decide ((tkf l q.i).k=1)
def Rq.nmV (q:Rq):Str:=if q.nmK l then (tkf l q.i).t else []
def Rq.nmS (q:Rq):Rq:=if q.nmK l then q.nx else q.fail l 8
def Rq.nbB (q:Rq):Bool:=decide (q.er=0) && decide ((tkf l q.i).k=3)
def Rq.fit (q:Rq):Bool:=decide (lY (tkf l q.i).t<=9223372036854775807)
def Rq.nbV (q:Rq):Int64:=if q.nbB l && q.fit l then Int64.ofNat (lY (tkf l q.i).t) else 0
def Rq.nbS (q:Rq):Rq:=if q.nbB l then (if q.fit l then q.nx else q.fail l 2) else q.fail l 8
def Rq.paS (q:Rq):Rq:=((q.nmS l).exS l [46]).nmS l
def Rq.paN (q:Rq):Str:=q.nmV l
def Rq.paF (q:Rq):Str:=((q.nmS l).exS l [46]).nmV l
def Rq.paV (op:UInt8) (q:Rq):Fm:=.mk op (q.paN l) (q.paF l) 0 0 [] []
def Rq.wiA (q:Rq):Int64:=if q.ac l [91] then q.nx.nbV l else 0
def Rq.wiB (q:Rq):Int64:=if q.ac l [91] then ((q.nx.nbS l).exS l [44]).nbV l else -1
def Rq.wiS (q:Rq):Rq:=if q.ac l [91] then (((q.nx.nbS l).exS l [44]).nbS l).exS l [93] else q
def Rq.wiV (op:UInt8) (q:Rq):Fm:=.mk op [] [] (q.wiA l) (q.wiB l) [] []
def Rq.boV (q:Rq):Int64:=if q.ac l [45] then -(q.nx.nbV l) else q.nbV l
def Rq.boS (q:Rq):Rq:=if q.ac l [45] then q.nx.nbS l else q.nbS l
def Rq.ama (q:Rq):Rq:=(q.nmS l).exS l [105,110]
def Rq.amb (q:Rq):Rq:=((q.ama l).boS l).exS l [46,46]
def Rq.amV (op:UInt8) (q:Rq):Fm:=.mk op (q.nmV l) [] ((q.ama l).boV l) ((q.amb l).boV l) [] []
def Rq.amS (q:Rq):Rq:=(q.amb l).boS l
end
def dN (q:Ps):Ov:=q.op.headD bO
def sB (x:Vb):Vl:=x.1.headD zV
def Ps.at (c:Rq) (q:Ps):Ps:=⟨c,q.op,q.x,q.rd,q.dn⟩
def Ov.inh (o:Ov) (b:Bool):Ov:=if 0<o.lv then ⟨o.kd,o.lv,b,o.op,o.f⟩ else o
def fR (o:Ov) (q:Ps):Ps:=⟨q.c,o.inh (dN q).tm::q.op,q.x,false,q.dn⟩
def jA (v:Vl) (q:Ps):Ps:=⟨q.c,q.op,(v::q.x.1,q.x.2),true,q.dn⟩
def tE (x:Vb):Ex:=(sB x).e
def tS (x:Vb):Vb:=(x.1.tail,x.2 || !(sB x).tm)
def Vl.noF (v:Vl):Bool:=v.tm && (!decide (v.e.op=5) || (eA v.e.nm).isNone)
def spA (n:Str):Str:=match eA n with | some (a,_)=>a | none=>[]
def spB (n:Str):Str:=match eA n with | some (_,b)=>b | none=>[]
def Vl.fm (v:Vl):Fm:=if v.tm then .mk 4 (spA v.e.nm) (spB v.e.nm) 0 0 [] [] else v.f
def fF (x:Vb):Fm:=(sB x).fm
def fS (x:Vb):Vb:=(x.1.tail,x.2 || (sB x).noF)
def tmv (e:Ex):Vl:=⟨true,false,e,zF⟩
def fmv (f:Fm):Vl:=⟨false,false,zE,f⟩
def Fm.wEx (f:Fm) (ex:List Ex):Fm:=.mk f.op f.nm f.fd f.a f.b ex f.args
def Fm.wAr (f:Fm) (args:List Fm):Fm:=.mk f.op f.nm f.fd f.a f.b f.ex args
def Vb.put (v:Vl) (x:Vb):Vb:=(v::x.1,x.2)
def wF (o:Ov) (x:Vb):Vb :=
 if o.kd=10 then (tS x).put (tmv (.mk 9 [] 0 [tE x]))
 else if o.kd=9 then (tS (tS x)).put (tmv (.mk o.op [] 0 [tE (tS x),tE x]))
 else if o.kd=8 then (tS (tS x)).put (fmv (.mk 3 [] [] 0 0 [.mk o.op [] 0 [tE (tS x),tE x]] []))
 else if o.kd=7 then (fS x).put (fmv (o.f.wAr [fF x]))
 else if o.kd=6 then (fS (fS x)).put (fmv (o.f.wAr [fF (fS x),fF x]))
 else x
def xM (lv:Nat):List Ov->Vb->List Ov × Vb
 | [],x=>([],x)
 | o::r,x=>if lv<=o.lv then xM lv r (wF o x) else (o::r,x)
def kK (lv:Nat) (q:Ps):Ps:=⟨q.c,(xM lv q.op q.x).1,(xM lv q.op q.x).2,q.rd,q.dn⟩
section
variable (l:Tks)
def mV (q:Ps):Option Ps :=
 if q.c.ac l [110,111,116] then some (fR ⟨7,5,false,0,.mk 8 [] [] 0 0 [] []⟩ (q.at q.c.nx))
 else if q.c.ac l [112,114,101,118,105,111,117,115] then some (fR ⟨7,5,false,0,.mk 12 [] [] 0 0 [] []⟩ (q.at q.c.nx))
 else if q.c.ac l [111,110,99,101] then some (fR ⟨7,5,false,0,q.c.nx.wiV l 13⟩ (q.at (q.c.nx.wiS l)))
 else if q.c.ac l [97,108,119,97,121,115] then some (fR ⟨7,5,false,0,q.c.nx.wiV l 14⟩ (q.at (q.c.nx.wiS l)))
 else if q.c.ac l [102,111,114,97,108,108] then some (fR ⟨7,5,false,0,q.c.nx.amV l 16⟩ (q.at (q.c.nx.amS l)))
 else if q.c.ac l [101,120,105,115,116,115] then some (fR ⟨7,5,false,0,q.c.nx.amV l 17⟩ (q.at (q.c.nx.amS l)))
 else if q.c.ac l [99,111,117,110,116] then some (fR ⟨3,0,false,0,q.c.nx.amV l 18⟩ (q.at ((q.c.nx.amS l).exS l [40])))
 else none
def Rq.ful (q:Rq):Str:=q.nmV l++[46]++(q.nmS l).nx.nmV l
def wP (q:Ps):Ps :=
 if (q.c.nmS l).ac l [46] then
  if ((q.c.nmS l).nx.nmS l).ac l [91] then fR ⟨4,0,true,6,.mk 0 (q.c.ful l) [] 0 0 [] []⟩ (q.at ((q.c.nmS l).nx.nmS l).nx)
  else jA (tmv (.mk 5 (q.c.ful l) 0 [])) (q.at ((q.c.nmS l).nx.nmS l))
 else jA (tmv (.mk 5 (q.c.nmV l) 0 [])) (q.at (q.c.nmS l))
def zQ (q:Ps):Ps :=
 if ((q.c.paS l).exS l [40]).ac l [41] then jA (fmv (q.c.paV l 7)) (q.at ((q.c.paS l).exS l [40]).nx)
 else fR ⟨5,0,true,0,q.c.paV l 7⟩ (q.at ((q.c.paS l).exS l [40]))
def zD (q:Ps):Bool:=!(dN q).tm && decide ((dN q).lv<=5)
def qO (q:Ps):Ps :=
 if q.c.ac l [45] then fR ⟨10,9,false,0,zF⟩ (q.at q.c.nx)
 else if q.c.ac l [40] then fR ⟨2,0,false,0,zF⟩ (q.at q.c.nx)
 else if (tkf l q.c.i).k=3 then jA (tmv (.mk 1 [] (q.c.nbV l) [])) (q.at (q.c.nbS l))
 else if (tkf l q.c.i).k=1 then wP l q
 else if q.c.ac l [110,111,119] then jA (tmv (.mk 4 [] 0 [])) (q.at q.c.nx)
 else if q.c.ac l [115,105,122,101] then jA (tmv (.mk 8 (q.c.nx.paN l++[46]++q.c.nx.paF l) 0 [])) (q.at (q.c.nx.paS l))
 else if q.c.ac l [116,114,117,101] then jA (fmv (.mk 1 [] [] 0 0 [] [])) (q.at q.c.nx)
 else if q.c.ac l [102,97,108,115,101] then jA (fmv (.mk 2 [] [] 0 0 [] [])) (q.at q.c.nx)
 else if q.c.ac l [102,108,97,103] then jA (fmv (.mk 6 (q.c.nx.nmV l) [] 0 0 [] [])) (q.at (q.c.nx.nmS l))
 else if q.c.ac l [104,97,115] then fR ⟨4,0,true,0,q.c.nx.paV l 5⟩ (q.at ((q.c.nx.paS l).exS l [91]))
 else if q.c.ac l [97,114,114,105,118,101,115] then zQ l (q.at q.c.nx)
 else q.at (q.c.fail l 8)
def xL (q:Ps):Ps:=if (dN q).kd=5/\q.c.ac l [95]=true then jA ⟨true,true,zE,zF⟩ (q.at q.c.nx) else qO l q
def eC (q:Ps):Ps:=match (if zD q then mV l q else none) with | some q'=>q' | none=>xL l q
def kO:List Str:=[[],[],[],[],[],[],[],[],[],[],[],[42],[47],[37],[43],[45],[61,61],[33,61],[60],[60,61],[62],[62,61]]
def sD (op:UInt8) (q:Ps):Ps :=
 if 16<=op then
  (if (sB q.x).wh || (dN (kK 7 q)).tm || decide ((dN (kK 7 q)).kd=8) then (kK 7 q).at (q.c.fail l 8) else fR ⟨8,6,false,op,zF⟩ ((kK 7 q).at q.c.nx))
 else if op<=13 then
  (if (sB q.x).wh then (kK 8 q).at (q.c.fail l 8) else fR ⟨9,8,false,op,zF⟩ ((kK 8 q).at q.c.nx))
 else (if (sB q.x).wh then (kK 7 q).at (q.c.fail l 8) else fR ⟨9,7,false,op,zF⟩ ((kK 7 q).at q.c.nx))
def Rq.joV (q:Rq):Fm:=if q.ac l [115,105,110,99,101] then q.nx.wiV l 15 else if q.ac l [97,110,100] then .mk 9 [] [] 0 0 [] [] else if q.ac l [111,114] then .mk 10 [] [] 0 0 [] [] else if q.ac l [105,109,112,108,105,101,115] then .mk 11 [] [] 0 0 [] [] else zF
def Rq.joS (q:Rq):Rq:=if q.ac l [115,105,110,99,101] then q.nx.wiS l else if q.ac l [97,110,100] then q.nx else if q.ac l [111,114] then q.nx else if q.ac l [105,109,112,108,105,101,115] then q.nx else q
def xU (q:Ps):Ps:=if (dN q).tm then q.at (q.c.fail l 8) else fR ⟨6,(dD (q.c.joV l).op).lv,false,0,q.c.joV l⟩ (kK (dD (q.c.joV l).op).lv (q.at (q.c.joS l)))
def IB (c:Rq) (v:Vl) (x:Vb) (q:Ps):Ps:=⟨c,q.op.tail,x.put v,true,q.dn⟩
def mR (q:Ps):Ps :=
 if (dN q).kd=1/\(tkf l q.c.i).k=0 then ⟨q.c,q.op,q.x,q.rd,true⟩
 else if (dN q).kd=2/\q.c.ac l [41]=true then IB q.c.nx ⟨(sB q.x).tm,false,(sB q.x).e,(sB q.x).f⟩ (q.x.1.tail,q.x.2) q
 else if (dN q).kd=3/\q.c.ac l [41]=true then
  IB ((q.c.nx.exS l [62,61]).nbS l) ⟨false,true,zE,((dN q).f.wEx [.mk 1 [] ((q.c.nx.exS l [62,61]).nbV l) []]).wAr [fF q.x]⟩ (fS q.x) q
 else if (dN q).kd=4/\q.c.ac l [93]=true then
  (if (dN q).op=6 then IB q.c.nx (tmv (.mk 6 (dN q).f.nm 0 [tE q.x])) (tS q.x) q
  else IB q.c.nx (fmv ((dN q).f.wEx [tE q.x])) (tS q.x) q)
 else if (dN q).kd=5/\q.c.ac l [44]=true then
  ⟨q.c.nx,⟨(dN q).kd,(dN q).lv,(dN q).tm,(dN q).op,(dN q).f.wEx ((dN q).f.ex++[tE q.x])⟩::q.op.tail,tS q.x,false,q.dn⟩
 else if (dN q).kd=5/\q.c.ac l [41]=true then IB q.c.nx (fmv ((dN q).f.wEx ((dN q).f.ex++[tE q.x]))) (tS q.x) q
 else q.at (q.c.fail l 8)
def aM3 (t:Str):Option Nat:=(List.range 22).find? λi=>decide (kO.getD i []=t) && decide (¬ i=0)
def Rq.endB (q:Rq):Bool:=q.is l [41] || q.is l [93] || q.is l [44] || decide ((tkf l q.i).k=0)
def Rq.wrd (q:Rq):Bool:=q.is l [115,105,110,99,101] || q.is l [97,110,100] || q.is l [111,114] || q.is l [105,109,112,108,105,101,115]
def qV (q:Ps):Ps:=if q.c.wrd l then xU l q else if q.c.endB l then mR l (kK 1 q) else q.at (q.c.fail l 8)
def Rq.sym (q:Rq):Option Nat:=if (tkf l q.i).k=2\/(tkf l q.i).k=4 then aM3 (tkf l q.i).t else none
def fQ (q:Ps):Ps:=match q.c.sym l with | some i=>sD l (UInt8.ofNat i) q | none=>qV l q
def lM (q:Ps):Ps:=if q.rd then fQ l q else eC l q
def Ps.fin (q:Ps):Prop:=q.dn=true\/¬ q.c.er=0
instance (q:Ps):Decidable q.fin:=by unfold Ps.fin;infer_instance
def CE:Nat->Ps->Ps
 | 0,q=>q
 | n+1,q=>if q.fin then q else CE n (lM l q)
def NE:Ps:=⟨⟨0,0,0⟩,[bO],([],false),false,false⟩
def IA (q:Ps):Fm × Nat × Nat :=
 if ¬ q.c.er=0 then (zF,q.c.off,q.c.er)
 else if (fS q.x).2 then (zF,0,6)
 else if ¬ fH (fF q.x)=0 then (zF,0,fH (fF q.x))
 else (fF q.x,0,0)
def wQ:Fm × Nat × Nat:=IA (CE l l.length NE)
end
def bK8 (l:Tks):Prop:=∀ i,i<l.length->(tkf l i).k≠0->i+1<l.length
section
variable {l:Tks} {q:Rq} {w:Str} {c:Nat}
theorem AV:(q.fail l c).i=q.i:=by unfold Rq.fail;split <;> rfl
theorem cM5 (h:q.is l w=true):(tkf l q.i).k≠0:=by
 unfold Rq.is at h;rw [aC,aT,aA,aA] at h;rcases h.1 with e | e <;> rw [e] <;> decide
theorem UY (h:q.ac l w=true):q.is l w=true:=by unfold Rq.ac at h;rw [aC] at h;exact h.2
theorem eX (h:q.ac l w=true):q.er=0:=by unfold Rq.ac at h;rw [aC,aA] at h;exact h.1
theorem YK (h:q.ac l w=true):(tkf l q.i).t=w:=by
 have:=UY h;unfold Rq.is at this;rw [aC,aA] at this;exact this.2
theorem YL (h:q.ac l w=true):(tkf l q.i).k=2\/(tkf l q.i).k=4:=by
 have:=UY h;unfold Rq.is at this;rw [aC,aT,aA,aA] at this;exact this.1
structure Mq (q q':Rq):Prop where
 i:q.i<=q'.i
 er:q.er≠0->q'=q
theorem Mq.refl (q:Rq):Mq q q:=⟨aW _,λ_=>rfl⟩
theorem Mq.trans {a b c:Rq} (h:Mq a b) (k:Mq b c):Mq a c:=⟨aV h.i k.i,λe=>by have:=h.er e;subst this;exact k.er e⟩
theorem Mq.nx (h:q.er=0):Mq q q.nx:=⟨Nat.le_succ _,λe=>absurd h e⟩
theorem Mq.fail:Mq q (q.fail l c):=⟨by rw [AV];exact aW _,λe=>by unfold Rq.fail;rw [aD e]⟩
theorem Mq.exS:Mq q (q.exS l w):=by
 unfold Rq.exS
 split
 ·rename_i h;exact .nx (eX h)
 ·exact .fail
theorem IX (h:q.nmK l=true):q.er=0/\(tkf l q.i).k=1:=by
 unfold Rq.nmK at h;rw [aC,aA,aA] at h;exact h
theorem IY (h:q.nbB l=true):q.er=0/\(tkf l q.i).k=3:=by
 unfold Rq.nbB at h;rw [aC,aA,aA] at h;exact h
theorem Mq.nmS:Mq q (q.nmS l):=by
 unfold Rq.nmS
 split
 ·rename_i h;exact .nx (IX h).1
 ·exact .fail
theorem Mq.nbS:Mq q (q.nbS l):=by
 unfold Rq.nbS
 split
 ·rename_i h
  split
  ·exact .nx (IY h).1
  ·exact .fail
 ·exact .fail
theorem Mq.paS:Mq q (q.paS l):=(Mq.nmS.trans .exS).trans .nmS
theorem Mq.wiS:Mq q (q.wiS l):=by
 unfold Rq.wiS
 split
 ·rename_i h;exact (((Mq.nx (eX h)).trans .nbS).trans .exS).trans (.trans .nbS .exS)
 ·exact .refl q
theorem Mq.boS:Mq q (q.boS l):=by
 unfold Rq.boS
 split
 ·rename_i h;exact (Mq.nx (eX h)).trans .nbS
 ·exact .nbS
theorem Mq.ama:Mq q (q.ama l):=Mq.nmS.trans .exS
theorem Mq.amb:Mq q (q.amb l):=(Mq.ama.trans .boS).trans .exS
theorem Mq.amS:Mq q (q.amS l):=Mq.amb.trans .boS
theorem Mq.joS:Mq q (q.joS l):=by
 unfold Rq.joS
 split
 ·rename_i h;exact (Mq.nx (eX h)).trans .wiS
 split
 ·rename_i h;exact .nx (eX h)
 split
 ·rename_i h;exact .nx (eX h)
 split
 ·rename_i h;exact .nx (eX h)
 exact .refl q
variable (T:bK8 l) (hq:q.i<l.length)
include T hq
theorem cC (h:q.ac l w=true):q.nx.i<l.length:=T _ hq (cM5 (UY h))
theorem fM:(q.exS l w).i<l.length:=by
 unfold Rq.exS
 split
 ·rename_i h;exact cC T hq h
 ·rw [AV];exact hq
theorem LS (h:q.nmK l=true):q.nx.i<l.length:=T _ hq (by rw [(IX h).2];decide)
theorem iB:(q.nmS l).i<l.length:=by
 unfold Rq.nmS
 split
 ·rename_i h;exact LS T hq h
 ·rw [AV];exact hq
theorem tK:(q.nbS l).i<l.length:=by
 unfold Rq.nbS
 split
 ·rename_i h
  split
  ·exact T _ hq (by rw [(IY h).2];decide)
  ·rw [AV];exact hq
 ·rw [AV];exact hq
theorem tU:(q.paS l).i<l.length:=iB T (fM T (iB T hq))
theorem EL:(q.wiS l).i<l.length:=by
 unfold Rq.wiS
 split
 ·rename_i h;exact fM T (tK T (fM T (tK T (cC T hq h))))
 ·exact hq
theorem BP:(q.boS l).i<l.length:=by
 unfold Rq.boS
 split
 ·rename_i h;exact tK T (cC T hq h)
 ·exact tK T hq
theorem bY1:(q.ama l).i<l.length:=fM T (iB T hq)
theorem bY0:(q.amb l).i<l.length:=fM T (BP T (bY1 T hq))
theorem LT:(q.amS l).i<l.length:=BP T (bY0 T hq)
theorem cF4:(q.joS l).i<l.length:=by
 unfold Rq.joS
 split
 ·rename_i h;exact EL T (cC T hq h)
 split
 ·rename_i h;exact cC T hq h
 split
 ·rename_i h;exact cC T hq h
 split
 ·rename_i h;exact cC T hq h
 exact hq
end
def cnO (o:Ov):Bool:=decide (o.kd=6) || decide (o.kd=8) || decide (o.kd=9)
def EH (l:List Ov):Nat:=(l.filter cnO).length
def okO (o:Ov):Bool:=decide (2<=o.kd.toNat) && decide (o.kd.toNat<=10) && (decide (5<o.kd.toNat) == decide (0<o.lv))
structure Fwf (l:Tks) (q:Ps):Prop where
 i:q.c.i<l.length
 op:∃ r,q.op=r++[bO]/\∀ o∈r,okO o=true
 vs:q.x.1.length=EH q.op+(if q.rd then 1 else 0)
 so:q.op.length<=q.c.i+1
section
variable {l:Tks} {q:Ps} {w:Str} {c:Nat} {o:Ov} {b:Bool}
theorem sM (o:Ov) (r:List Ov):EH (o::r)=(if cnO o then 1 else 0)+EH r:=by unfold EH;rw [List.filter_cons];split <;> simp [Nat.add_comm]
theorem bE9:(o.inh b).kd=o.kd:=by unfold Ov.inh;split <;> rfl
theorem cB9:(o.inh b).lv=o.lv:=by unfold Ov.inh;split <;> rfl
theorem bW8:(o.inh b).f=o.f:=by unfold Ov.inh;split <;> rfl
theorem cB8:okO (o.inh b)=okO o:=by unfold okO;rw [bE9,cB9]
theorem cC0:cnO (o.inh b)=cnO o:=by unfold cnO;rw [bE9]
theorem bL6 {c:Rq} (h:Fwf l q) (hc:c.i<l.length) (hi:q.c.i<c.i) (ho:okO o=true) (hr:cnO o=q.rd):Fwf l (fR o (q.at c)):=by
 obtain ⟨r,e,hr2⟩:=h.op;refine ⟨hc,⟨o.inh (dN q).tm::r,?_,?_⟩,?_,?_⟩
 ·show _::q.op=_;rw [e];rfl
 ·intro x hx;rcases bP.1 hx with rfl | hx
  ·rw [cB8];exact ho
  ·exact hr2 x hx
 ·show q.x.1.length=EH (_::q.op)+0;rw [sM,cC0,hr,h.vs];cases q.rd <;> simp [Nat.add_comm]
 ·show q.op.length+1<=c.i+1;have:=h.so;omega
theorem aF5 {v:Vl} {c:Rq} (h:Fwf l q) (hc:c.i<l.length) (hi:q.c.i<=c.i) (hr:q.rd=false):Fwf l (jA v (q.at c)):=by
 refine ⟨hc,h.op,?_,?_⟩
 ·show (v::q.x.1).length=EH q.op+1;rw [aK,h.vs,hr];simp
 ·show q.op.length<=c.i+1;have:=h.so;omega
theorem LU {c:Rq} (h:Fwf l q) (hc:c.i<l.length) (hi:q.c.i<=c.i):Fwf l (q.at c):=⟨hc,h.op,h.vs,by show q.op.length<=c.i+1;have:=h.so;omega⟩
theorem Fwf.top (h:Fwf l q):(q.op=[bO]/\dN q=bO)\/∃ r,q.op=dN q::(r++[bO])/\okO (dN q)=true/\∀ o∈r,okO o=true:=by
 obtain ⟨r,e,hr⟩:=h.op;unfold dN;rw [e];cases r with
 | nil=>exact .inl ⟨Z,Z⟩
 | cons o r=>exact .inr ⟨r,Z,hr _ (bQ ..),λx hx=>hr x (cI _ hx)⟩
theorem Fwf.ne (h:Fwf l q):q.op≠[]:=by
 obtain ⟨r,e,_⟩:=h.op;rw [e];simp
theorem bP4 (v:Vl) (x:Vb):(x.put v).1.length=x.1.length+1:=rfl
theorem MC (x:Vb):(tS x).1.length=x.1.length - 1:=List.length_tail
theorem bH4 (x:Vb):(fS x).1.length=x.1.length - 1:=List.length_tail
theorem cA1 (h:okO o=true):o.kd=2\/o.kd=3\/o.kd=4\/o.kd=5\/o.kd=6\/o.kd=7\/o.kd=8\/o.kd=9\/o.kd=10:=by
 unfold okO at h;rw [aC,aC,aA,aA] at h;have h1:=h.1.1;have h2:=h.1.2;have hk:∀ n:Nat,n<256->o.kd.toNat=n->o.kd=UInt8.ofNat n:=λn hn e=>aR.1 (by rw [cW hn];exact e);have:o.kd.toNat=2\/o.kd.toNat=3\/o.kd.toNat=4\/o.kd.toNat=5\/o.kd.toNat=6\/o.kd.toNat=7\/o.kd.toNat=8\/o.kd.toNat=9\/o.kd.toNat=10:=by omega
 rcases this with e | e | e | e | e | e | e | e | e <;> have:=hk _ (by decide) e <;> rw [this] <;> decide
theorem bC2 (h:okO o=true):(o.kd=6\/o.kd=7\/o.kd=8\/o.kd=9\/o.kd=10)↔0<o.lv:=by
 have hk:=cA1 h;unfold okO at h;rw [aC,dM] at h;have h2:=h.2;rcases hk with e | e | e | e | e | e | e | e | e <;> rw [e] at h2 <;> rw [e] <;> by_cases h0:0<o.lv <;> simp [h0] at h2|-
theorem YG (ho:okO o=true) (h0:0<o.lv) {x:Vb} (h:(if cnO o then 2 else 1)<=x.1.length):(wF o x).1.length=x.1.length - (if cnO o then 1 else 0):=by
 have hk:=(bC2 ho).2 h0;unfold wF cnO at *;rcases hk with e | e | e | e | e <;> simp [e,bP4,MC,bH4] at h|- <;> omega
theorem aG8 {lv:Nat} (hl:1<=lv):∀ (r:List Ov) (x:Vb),(∀ o∈r,okO o=true)->x.1.length=EH (r++[bO])+1->∃ r' y,xM lv (r++[bO]) x=(r'++[bO],y)/\r'<:+r/\y.1.length=EH (r'++[bO])+1/\(∀ o,r'.head? = some o->o.lv<lv)
 | [],x,_,h=>⟨[],x,by rw [dB,xM,aD (by show ¬ lv<=0;omega)],wN _,h,λo e=>by cases e⟩
 | o::r,x,ho,h=>by
  rw [bL,xM];rw [bL,sM] at h;have hok:=ho o (bQ ..)
  split
  ·rename_i h1;have h2:=YG hok (by omega) (x:=x) (by rw [h];split <;> omega);obtain ⟨r',y,e,hs,hy,ht⟩:=aG8 hl r (wF o x) (λz hz=>ho z (cI _ hz)) (by rw [h2,h];split <;> omega);exact ⟨r',y,e,hs.trans (EK o r),hy,ht⟩
  ·rename_i h1;exact ⟨o::r,x,Z,wN _,by rw [bL,sM];exact h,λz e=>by injection e with e;subst e;omega⟩
theorem uS {lv:Nat} (hl:1<=lv) (h:Fwf l q) (hr:q.rd=true):Fwf l (kK lv q):=by
 obtain ⟨r,e,ho⟩:=h.op;have hv:=h.vs;rw [e,hr] at hv;obtain ⟨r',y,e2,hs,hy,_⟩:=aG8 hl r q.x ho hv;have h1:(kK lv q).op=r'++[bO]:=by unfold kK;rw [e,e2]
 have h2:(kK lv q).x=y:=by unfold kK;rw [e,e2]
 refine ⟨h.i,⟨r',h1,λo hz=>ho o (hs.subset hz)⟩,?_,?_⟩
 ·rw [h1,h2];show _=_+(if q.rd then 1 else 0);rw [hr];exact hy
 ·rw [h1];have:=hs.length_le;have h3:=h.so;rw [e] at h3;show _<=q.c.i+1;rw [aE] at h3|-;omega
end
section
variable {l:Tks} {q:Ps}
structure Fsp (l:Tks) (q q':Ps):Prop where
 wf:Fwf l q'
 go:q'.fin\/q.c.i<q'.c.i
theorem vM {l:Tks} {q:Rq} {c:Nat} (hc:c≠0):(q.fail l c).er≠0:=by
 unfold Rq.fail
 split
 ·exact hc
 ·assumption
theorem sC {c:Prop} [Decidable c] {a b:Ps} (h1:c->Fsp l q a) (h2:¬ c->Fsp l q b):Fsp l q (if c then a else b):=by
 by_cases hc:c
 ·rw [aM hc];exact h1 hc
 ·rw [aD hc];exact h2 hc
theorem Fsp.red {lv:Nat} {q':Ps} (h:Fsp l (kK lv q) q'):Fsp l q q':=⟨h.wf,h.go⟩
theorem xI {c:Nat} (h:Fwf l q) (hc:c≠0):Fsp l q (q.at (q.c.fail l c)):=⟨LU h (by rw [AV];exact h.i) (by rw [AV];exact aW _),.inl (.inr (vM hc))⟩
theorem lV {o:Ov} {c:Rq} (h:Fwf l q) (hc:c.i<l.length) (hi:q.c.i<c.i) (ho:okO o=true) (hr:cnO o=q.rd):Fsp l q (fR o (q.at c)):=⟨bL6 h hc hi ho hr,.inr hi⟩
theorem tW {v:Vl} {c:Rq} (h:Fwf l q) (hc:c.i<l.length) (hi:q.c.i<c.i) (hr:q.rd=false):Fsp l q (jA v (q.at c)):=⟨aF5 h hc (pW hi) hr,.inr hi⟩
variable (T:bK8 l)
include T
theorem aY2 {q':Ps} (h:Fwf l q) (hr:q.rd=false) (e:mV l q=some q'):Fsp l q q':=by
 have n {w:Str} (a:q.c.ac l w=true):q.c.nx.i<l.length:=cC T h.i a;have m {c:Rq} (k:Mq q.c.nx c):q.c.i<c.i:=dR (cY _) k.i;unfold mV at e
 split at e
 ·rename_i a;injection e with e;subst e;exact lV h (n a) (m (.refl _)) rfl (by rw [hr];rfl)
 split at e
 ·rename_i a;injection e with e;subst e;exact lV h (n a) (m (.refl _)) rfl (by rw [hr];rfl)
 split at e
 ·rename_i a;injection e with e;subst e;exact lV h (EL T (n a)) (m .wiS) rfl (by rw [hr];rfl)
 split at e
 ·rename_i a;injection e with e;subst e;exact lV h (EL T (n a)) (m .wiS) rfl (by rw [hr];rfl)
 split at e
 ·rename_i a;injection e with e;subst e;exact lV h (LT T (n a)) (m .amS) rfl (by rw [hr];rfl)
 split at e
 ·rename_i a;injection e with e;subst e;exact lV h (LT T (n a)) (m .amS) rfl (by rw [hr];rfl)
 split at e
 ·rename_i a;injection e with e;subst e;exact lV h (fM T (LT T (n a))) (m (.trans .amS .exS)) rfl (by rw [hr];rfl)
 ·cases e
theorem bM6 (h:Fwf l q) (h0:q.c.er=0) (hr:q.rd=false) (hk:(tkf l q.c.i).k=1):Fsp l q (wP l q):=by
 have k1:q.c.nmK l=true:=by unfold Rq.nmK;rw [aF h0,aF hk];rfl
 have e1:q.c.nmS l=q.c.nx:=by unfold Rq.nmS;rw [aM k1]
 have n1:q.c.nx.i<l.length:=LS T h.i k1;have lt {c:Rq} (k:Mq q.c.nx c):q.c.i<c.i:=dR (cY _) k.i;unfold wP;rw [e1]
 split
 ·rename_i a;have n2:=iB T (cC T n1 a);have m2:Mq q.c.nx (q.c.nx.nx.nmS l):=(Mq.nx (eX a)).trans .nmS
  split
  ·rename_i b;exact lV h (cC T n2 b) (lt (m2.trans (.nx (eX b)))) rfl (by rw [hr];rfl)
  ·exact tW h n2 (lt m2) hr
 ·exact tW h n1 (lt (.refl _)) hr
theorem bN2 {w:Str} (h:Fwf l q) (hr:q.rd=false) (a:q.c.ac l w=true):Fsp l q (zQ l (q.at q.c.nx)):=by
 have n1:q.c.nx.i<l.length:=cC T h.i a;have n2:=fM T (w:=[40]) (tU T n1);have m2:Mq q.c.nx ((q.c.nx.paS l).exS l [40]):=Mq.paS.trans .exS;have lt {c:Rq} (k:Mq q.c.nx c):q.c.i<c.i:=dR (cY _) k.i;unfold zQ
 split
 ·rename_i b;exact tW (c:=((q.c.nx.paS l).exS l [40]).nx) h (cC T n2 b) (lt (m2.trans (.nx (eX b)))) hr
 ·exact lV (c:=(q.c.nx.paS l).exS l [40]) h n2 (lt m2) rfl (by rw [hr];rfl)
theorem bM7 (h:Fwf l q) (h0:q.c.er=0) (hr:q.rd=false):Fsp l q (qO l q):=by
 have n {w:Str} (a:q.c.ac l w=true):q.c.nx.i<l.length:=cC T h.i a;have m {c:Rq} (k:Mq q.c.nx c):q.c.i<c.i:=dR (cY _) k.i
 have num:(tkf l q.c.i).k=3->Fsp l q (jA (tmv (.mk 1 [] (q.c.nbV l) [])) (q.at (q.c.nbS l))):=λhk=>by
  have k1:q.c.nbB l=true:=by unfold Rq.nbB;rw [aF h0,aF hk];rfl
  refine ⟨aF5 h (tK T h.i) Mq.nbS.i hr,?_⟩
  by_cases hf:q.c.fit l=true
  ·refine .inr ?_;show q.c.i<(q.c.nbS l).i;unfold Rq.nbS;rw [aM k1,aM hf];exact cY _
  ·refine .inl (.inr ?_);show (q.c.nbS l).er≠0;unfold Rq.nbS;rw [aM k1,aD hf];exact vM (by decide)
 unfold qO
 exact sC (λa=>lV h (n a) (m (.refl _)) rfl (by rw [hr];rfl)) λ_ =>
  sC (λa=>lV h (n a) (m (.refl _)) rfl (by rw [hr];rfl)) λ_ =>
  sC num λ_=>sC (λhk=>bM6 T h h0 hr hk) λ_ =>
  sC (λa=>tW h (n a) (m (.refl _)) hr) λ_ =>
  sC (λa=>tW h (tU T (n a)) (m .paS) hr) λ_ =>
  sC (λa=>tW h (n a) (m (.refl _)) hr) λ_ =>
  sC (λa=>tW h (n a) (m (.refl _)) hr) λ_ =>
  sC (λa=>tW h (iB T (n a)) (m .nmS) hr) λ_ =>
  sC (λa=>lV h (fM T (tU T (n a))) (m (.trans .paS .exS)) rfl (by rw [hr];rfl)) λ_ =>
  sC (λa=>bN2 T h hr a) λ_=>xI h (by decide)
theorem WB (h:Fwf l q) (h0:q.c.er=0) (hr:q.rd=false):Fsp l q (eC l q):=by
 unfold eC;cases e:(if zD q then mV l q else none) with
 | some q' =>
  split at e
  ·exact aY2 T h hr e
  ·cases e
 | none =>
  show Fsp l q (xL l q);unfold xL
  split
  ·rename_i a;exact tW h (cC T h.i a.2) (cY _) hr
  ·exact bM7 T h h0 hr
theorem bN1 {op:UInt8} {w:Str} (h:Fwf l q) (hr:q.rd=true) (a:q.c.ac l w=true):Fsp l q (sD l op q):=by
 have n:=cC T h.i a;have w7:=uS (lv:=7) (by decide) h hr;have w8:=uS (lv:=8) (by decide) h hr;unfold sD
 exact sC (λ_=>sC (λ_=>(xI (c:=8) w7 (by decide)).red) λ_=>(lV (o:=⟨8,6,false,op,zF⟩) (c:=q.c.nx) w7 n (cY _) rfl hr.symm).red) λ_ =>
  sC (λ_=>sC (λ_=>(xI (c:=8) w8 (by decide)).red) λ_=>(lV (o:=⟨9,8,false,op,zF⟩) (c:=q.c.nx) w8 n (cY _) rfl hr.symm).red) λ_ =>
  sC (λ_=>(xI (c:=8) w7 (by decide)).red) λ_=>(lV (o:=⟨9,7,false,op,zF⟩) (c:=q.c.nx) w7 n (cY _) rfl hr.symm).red
theorem cI3 {c:Rq} (h0:c.er=0) (hw:c.wrd l=true):(1<=(dD (c.joV l).op).lv/\(dD (c.joV l).op).lv<=4)/\c.i<(c.joS l).i:=by
 have ac {w:Str} (e:c.is l w=true):c.ac l w=true:=by unfold Rq.ac;rw [e,aF h0];rfl
 have lt {c':Rq} (k:Mq c.nx c'):c.i<c'.i:=dR (cY _) k.i;unfold Rq.joV Rq.joS
 by_cases a1:c.ac l [115,105,110,99,101]=true
 ·rw [aM a1,aM a1];exact ⟨by show 1<=(dD 15).lv/\(dD 15).lv<=4;decide,lt .wiS⟩
 by_cases a2:c.ac l [97,110,100]=true
 ·rw [aD a1,aD a1,aM a2,aM a2];exact ⟨by show 1<=(dD 9).lv/\(dD 9).lv<=4;decide,lt (.refl _)⟩
 by_cases a3:c.ac l [111,114]=true
 ·rw [aD a1,aD a1,aD a2,aD a2,aM a3,aM a3];exact ⟨by show 1<=(dD 10).lv/\(dD 10).lv<=4;decide,lt (.refl _)⟩
 by_cases a4:c.ac l [105,109,112,108,105,101,115]=true
 ·rw [aD a1,aD a1,aD a2,aD a2,aD a3,aD a3,aM a4,aM a4];exact ⟨by show 1<=(dD 11).lv/\(dD 11).lv<=4;decide,lt (.refl _)⟩
 unfold Rq.wrd at hw;rw [aT,aT,aT] at hw;rcases hw with ((e | e) | e) | e
 ·exact absurd (ac e) a1
 ·exact absurd (ac e) a2
 ·exact absurd (ac e) a3
 ·exact absurd (ac e) a4
theorem okJ {f:Fm} {lv:Nat} (h:1<=lv):okO ⟨6,lv,false,0,f⟩=true:=by
 unfold okO;rw [aF (show 0<lv by omega)];rfl
theorem bM9 (h:Fwf l q) (h0:q.c.er=0) (hr:q.rd=true) (hw:q.c.wrd l=true):Fsp l q (xU l q):=by
 obtain ⟨⟨h1,_⟩,hi⟩:=cI3 T h0 hw;unfold xU
 split
 ·exact xI h (by decide)
 ·exact (lV (o:=⟨6,_,false,0,q.c.joV l⟩) (c:=q.c.joS l) (uS h1 h hr) (cF4 T h.i) hi (okJ T h1) hr.symm).red
theorem GW {c:Rq} {v:Vl} {x:Vb} (h:Fwf l q) (hr:q.rd=true) (ho:okO (dN q)=true) (hk:cnO (dN q)=false) (hc:c.i<l.length) (hi:q.c.i<c.i) (hx:x.1.length=q.x.1.length - 1):Fsp l q (IB c v x q):=by
 obtain ⟨r,e,hro⟩:=h.op;have hv:=h.vs
 have ht:dN q=bO\/∃ o r',r=o::r'/\dN q=o:=by
  unfold dN;rw [e];cases r with
  | nil=>exact .inl rfl
  | cons o r'=>exact .inr ⟨o,r',Z,Z⟩
 rcases ht with ht | ⟨o,r',rfl,ht⟩
 ·rw [ht] at ho;exact absurd ho (by decide)
 ·rw [ht] at hk;rw [e,bL,sM,hk,hr] at hv;simp only [aB,aS,aU] at hv;refine ⟨⟨hc,⟨r',by show q.op.tail=_;rw [e];rfl,λo ho=>hro o (cI _ ho)⟩,?_,?_⟩,.inr hi⟩
  ·show x.1.length+1=EH q.op.tail+1;rw [e];show _=EH (r'++[bO])+1;omega
  ·show q.op.tail.length<=c.i+1;have:=h.so;rw [List.length_tail];omega
theorem IR (h:Fwf l q) {k:UInt8} (hk:(dN q).kd=k) (h1:¬ k=1):okO (dN q)=true:=by
 rcases h.top with ⟨_,e⟩ | ⟨r,_,ho,_⟩
 ·rw [e] at hk;exact absurd hk.symm h1
 ·exact ho
theorem bN0 (h:Fwf l q) (hr:q.rd=true):Fsp l q (mR l q):=by
 unfold mR
 split
 ·exact ⟨⟨h.i,h.op,h.vs,h.so⟩,.inl (.inl Z)⟩
 split
 ·rename_i a;exact GW T h hr (IR T h a.1 (by decide)) (by unfold cnO;rw [a.1];decide) (cC T h.i a.2) (cY _) List.length_tail
 split
 ·rename_i a;exact GW T h hr (IR T h a.1 (by decide)) (by unfold cnO;rw [a.1];decide) (tK T (fM T (cC T h.i a.2))) (dR (cY _) (Mq.trans (a:=q.c.nx) .exS .nbS).i) (bH4 _)
 split
 ·rename_i a
  split
  ·exact GW T h hr (IR T h a.1 (by decide)) (by unfold cnO;rw [a.1];decide) (cC T h.i a.2) (cY _) (MC _)
  ·exact GW T h hr (IR T h a.1 (by decide)) (by unfold cnO;rw [a.1];decide) (cC T h.i a.2) (cY _) (MC _)
 split
 ·rename_i a;have ho:=IR T h a.1 (by decide);obtain ⟨r,e,hro⟩:=h.op;have hv:=h.vs;rcases h.top with ⟨_,e1⟩ | ⟨r,e1,_,hr1⟩
  ·rw [e1] at ho;exact absurd ho (by decide)
  ·have hc:cnO (dN q)=false:=by unfold cnO;rw [a.1];decide
   rw [e1,sM,hc,hr] at hv;simp only [aB,aS,aU] at hv;refine ⟨⟨cC T h.i a.2,⟨_::r,by rw [e1];rfl,?_⟩,?_,?_⟩,.inr (cY _)⟩
   ·intro o hz;rcases bP.1 hz with rfl | hz
    ·exact ho
    ·exact hr1 o hz
   ·show (tS q.x).1.length=EH (_::q.op.tail)+0;rw [MC,e1,sM];show _=(if cnO (dN q) then 1 else 0)+EH (r++[bO])+0;rw [hc];simp only [aB,aS];omega
   ·show q.op.tail.length+1<=q.c.i+1+1;have:=h.so;rw [List.length_tail];omega
 split
 ·rename_i a;exact GW T h hr (IR T h a.1 (by decide)) (by unfold cnO;rw [a.1];decide) (cC T h.i a.2) (cY _) (MC _)
 ·exact xI h (by decide)
theorem bM8 (h:Fwf l q) (h0:q.c.er=0) (hr:q.rd=true):Fsp l q (qV l q):=by
 unfold qV
 split
 ·rename_i hw;exact bM9 T h h0 hr hw
 split
 ·have:=bN0 T (uS (lv:=1) (by decide) h hr) hr;exact ⟨this.wf,this.go⟩
 ·exact xI h (by decide)
theorem ZN {c:Rq} {i:Nat} (h0:c.er=0) (e:c.sym l=some i):c.ac l (kO.getD i [])=true/\i<22/\i≠0:=by
 unfold Rq.sym at e
 split at e
 ·rename_i hk;unfold aM3 at e;have h1:=List.find?_some e;have h2:=bU.1 (List.mem_of_find?_eq_some e);rw [aC,aA,aA] at h1;refine ⟨?_,h2,h1.2⟩;unfold Rq.ac Rq.is;rw [h1.1,aF h0,aF (show (tkf l c.i).t=(tkf l c.i).t from rfl)];rcases hk with e | e <;> rw [e] <;> decide
 ·cases e
theorem SY (h:Fwf l q) (h0:q.c.er=0) (hr:q.rd=true):Fsp l q (fQ l q):=by
 unfold fQ;cases e:q.c.sym l with
 | some i=>exact bN1 T h hr (ZN T h0 e).1
 | none=>exact bM8 T h h0 hr
theorem WA (h:Fwf l q) (hf:¬ q.fin):Fsp l q (lM l q):=by
 have h0:q.c.er=0:=Classical.byContradiction λe=>hf (.inr e);unfold lM
 split
 ·rename_i hr;exact SY T h h0 hr
 ·rename_i hr;exact WB T h h0 (by simpa using hr)
omit T in
theorem SM (h:0<l.length):Fwf l NE:=⟨h,⟨[],Z,λ_ h=>(by cases h)⟩,Z,by decide⟩
theorem KX:∀ (n:Nat) (q:Ps),Fwf l q->l.length<=q.c.i+n->(CE l n q).fin/\Fwf l (CE l n q)
 | 0,q,h,hn=>by have:=h.i;omega
 | n+1,q,h,hn=>by
  rw [CE]
  split
  ·rename_i hf;exact ⟨hf,h⟩
  ·rename_i hf;have s:=WA T h hf;rcases s.go with hg | hg
   ·cases n with
    | zero=>exact ⟨hg,s.wf⟩
    | succ n=>rw [CE,aM hg];exact ⟨hg,s.wf⟩
   ·exact KX n _ s.wf (by omega)
end
variable {l:Tks}
theorem TB {q:Ps} (h:q.fin):∀ n,CE l n q=q
 | 0=>rfl
 | n+1=>by rw [CE,aM h]
theorem KY {l:Tks}:∀ (n m:Nat) (q:Ps),CE l (n+m) q=CE l m (CE l n q)
 | 0,m,q=>by rw [dT];rfl
 | n+1,m,q=>by
  rw [show n+1+m=(n+m)+1 by omega,CE,CE]
  split
  ·rename_i hf;rw [TB hf]
  ·exact KY n m _
structure Fn where
 fm:Bool
 tm:Bool
 f:Fm
 e:Ex
def mdN (f:Fm):Fn:=⟨true,false,f,zE⟩
def vlN (e:Ex):Fn:=⟨false,true,zF,e⟩
def zN:Fn:=⟨false,false,zF,zE⟩
inductive Nt where
 | lev (k:Nat)
 | lp (k:Nat) (a:Fn)
 | arg (f:Fm)
 | aft (f:Fm)
def joW (k:Nat):Str:=if k=1 then [105,109,112,108,105,101,115] else if k=2 then [111,114] else if k=3 then [97,110,100] else [115,105,110,99,101]
def IV:List (Str × UInt8):=[([110,111,116],8),([112,114,101,118,105,111,117,115],12),([111,110,99,101],13),([97,108,119,97,121,115],14),([102,111,114,97,108,108],16),([101,120,105,115,116,115],17)]
def aN6:List Str:=[[110,111,119],[116,114,117,101],[102,97,108,115,101],[102,108,97,103],[104,97,115],[97,114,114,105,118,101,115],[115,105,122,101],[40]]
section
variable (l:Tks)
def Rq.prS (op:UInt8) (r:Rq):Rq:=if op=13\/op=14 then r.nx.wiS l else if op=16\/op=17 then r.nx.amS l else r.nx
def Rq.prF (op:UInt8) (r:Rq):Fm:=if op=13\/op=14 then r.nx.wiV l op else if op=16\/op=17 then r.nx.amV l op else .mk op [] [] 0 0 [] []
def Rq.jnS (k:Nat) (r:Rq):Rq:=if k=4 then r.nx.wiS l else r.nx
def Rq.jnF (k:Nat) (r:Rq):Fm:=if k=4 then r.nx.wiV l 15 else .mk (UInt8.ofNat (12 - k)) [] [] 0 0 [] []
def BB (k i:Nat):Prop:=(k=7/\(i=14\/i=15))\/(k=8/\(i=11\/i=12\/i=13))
def opB (i:Nat) (es:List Ex):Ex:=.mk (UInt8.ofNat i) [] 0 es
inductive Gd:Nt->Rq->Fn->Bool->Rq->Prop
 | seq {k:Nat} {r r1 r2:Rq} {x n:Fn} {m m':Bool} (hk:(1<=k/\k<=4)\/k=7\/k=8) (h1:Gd (.lev (k+1)) r x m r1) (h2:Gd (.lp k x) r1 n m' r2):Gd (.lev k) r n (m || m') r2
 | outJ {k:Nat} {r:Rq} {a:Fn} (hk:1<=k/\k<=4) (h:r.ac l (joW k)=false):Gd (.lp k a) r a false r
 | outA {k:Nat} {r:Rq} {a:Fn} (hk:k=7\/k=8) (h:∀ i,BB k i->r.ac l (kO.getD i [])=false):Gd (.lp k a) r a false r
 | join {k:Nat} {r r1 r2:Rq} {a y n:Fn} {m m':Bool} (hk:1<=k/\k<=4) (h:r.ac l (joW k)=true) (h1:Gd (.lev (k+1)) (r.jnS l k) y m r1) (h2:Gd (.lp k (mdN ((r.jnF l k).wAr [a.f,y.f]))) r1 n m' r2):Gd (.lp k a) r n ((m || (!a.fm || !y.fm)) || m') r2
 | ari {k i:Nat} {r r1 r2:Rq} {a y n:Fn} {m m':Bool} (hk:BB k i) (h:r.ac l (kO.getD i [])=true) (h1:Gd (.lev (k+1)) r.nx y m r1) (h2:Gd (.lp k (vlN (opB i [a.e,y.e]))) r1 n m' r2):Gd (.lp k a) r n ((m || (!a.tm || !y.tm)) || m') r2
 | pre {w:Str} {op:UInt8} {r r1:Rq} {x:Fn} {m:Bool} (hp:(w,op)∈IV) (h:r.ac l w=true) (h1:Gd (.lev 5) (r.prS l op) x m r1):Gd (.lev 5) r (mdN ((r.prF l op).wAr [x.f])) (m || !x.fm) r1
 | cnt {r r1:Rq} {x:Fn} {m:Bool} (h:r.ac l [99,111,117,110,116]=true) (h1:Gd (.lev 1) ((r.nx.amS l).exS l [40]) x m r1):Gd (.lev 5) r (mdN (((r.nx.amV l 18).wEx [.mk 1 [] (((r1.exS l [41]).exS l [62,61]).nbV l) []]).wAr [x.f])) (m || !x.fm) (((r1.exS l [41]).exS l [62,61]).nbS l)
 | cmp0 {r r1:Rq} {x:Fn} {m:Bool} (hp:∀ w op,(w,op)∈IV->r.ac l w=false) (hc:r.ac l [99,111,117,110,116]=false) (h1:Gd (.lev 6) r x m r1):Gd (.lev 5) r x m r1
 | cm0 {r r1:Rq} {x:Fn} {m:Bool} (h1:Gd (.lev 7) r x m r1) (h:∀ i,16<=i->i<=21->r1.ac l (kO.getD i [])=false):Gd (.lev 6) r x m r1
 | cm1 {i:Nat} {r r1 r2:Rq} {x y:Fn} {m m':Bool} (hi:16<=i/\i<=21) (h1:Gd (.lev 7) r x m r1) (h:r1.ac l (kO.getD i [])=true) (h2:Gd (.lev 7) r1.nx y m' r2):Gd (.lev 6) r (mdN (.mk 3 [] [] 0 0 [opB i [x.e,y.e]] [])) ((m || m') || (!x.tm || !y.tm)) r2
 | neg {r r1:Rq} {x:Fn} {m:Bool} (h:r.ac l [45]=true) (h1:Gd (.lev 9) r.nx x m r1):Gd (.lev 9) r (vlN (.mk 9 [] 0 [x.e])) (m || !x.tm) r1
 | pri {r r1:Rq} {x:Fn} {m:Bool} (h:r.ac l [45]=false) (h1:Gd (.lev 10) r x m r1):Gd (.lev 9) r x m r1
 | bad {r:Rq} (h:r.er≠0):Gd (.lev 10) r zN false r
 | num {r:Rq} (h:r.er=0) (hk:(tkf l r.i).k=3):Gd (.lev 10) r (vlN (.mk 1 [] (r.nbV l) [])) false (r.nbS l)
 | now {r:Rq} (h:r.ac l [110,111,119]=true):Gd (.lev 10) r (vlN (.mk 4 [] 0 [])) false r.nx
 | tru {r:Rq} (h:r.ac l [116,114,117,101]=true):Gd (.lev 10) r (mdN (.mk 1 [] [] 0 0 [] [])) false r.nx
 | fal {r:Rq} (h:r.ac l [102,97,108,115,101]=true):Gd (.lev 10) r (mdN (.mk 2 [] [] 0 0 [] [])) false r.nx
 | flg {r:Rq} (h:r.ac l [102,108,97,103]=true):Gd (.lev 10) r (mdN (.mk 6 (r.nx.nmV l) [] 0 0 [] [])) false (r.nx.nmS l)
 | has {r r1:Rq} {x:Fn} {m:Bool} (h:r.ac l [104,97,115]=true) (h1:Gd (.lev 7) ((r.nx.paS l).exS l [91]) x m r1):Gd (.lev 10) r (mdN ((r.nx.paV l 5).wEx [x.e])) (m || !x.tm) (r1.exS l [93])
 | arr0 {r:Rq} (h:r.ac l [97,114,114,105,118,101,115]=true) (h1:((r.nx.paS l).exS l [40]).ac l [41]=true):Gd (.lev 10) r (mdN (r.nx.paV l 7)) false ((r.nx.paS l).exS l [40]).nx
 | arr {r r1:Rq} {n:Fn} {m:Bool} (h:r.ac l [97,114,114,105,118,101,115]=true) (h0:((r.nx.paS l).exS l [40]).ac l [41]=false) (h1:Gd (.arg (r.nx.paV l 7)) ((r.nx.paS l).exS l [40]) n m r1):Gd (.lev 10) r n m r1
 | siz {r:Rq} (h:r.ac l [115,105,122,101]=true):Gd (.lev 10) r (vlN (.mk 8 (r.nx.paN l++[46]++r.nx.paF l) 0 [])) false (r.nx.paS l)
 | par {r r1:Rq} {x:Fn} {m:Bool} (h:r.ac l [40]=true) (h1:Gd (.lev 1) r.nx x m r1):Gd (.lev 10) r x m (r1.exS l [41])
 | nam0 {r:Rq} (h:r.er=0) (hk:(tkf l r.i).k=1) (hd:r.nx.ac l [46]=false):Gd (.lev 10) r (vlN (.mk 5 (r.nmV l) 0 [])) false r.nx
 | nam1 {r:Rq} (h:r.er=0) (hk:(tkf l r.i).k=1) (hd:r.nx.ac l [46]=true) (hb:(r.nx.nx.nmS l).ac l [91]=false):Gd (.lev 10) r ⟨true,true,.mk 4 (r.nmV l) (r.nx.nx.nmV l) 0 0 [] [],.mk 5 (r.ful l) 0 []⟩ false (r.nx.nx.nmS l)
 | get {r r1:Rq} {x:Fn} {m:Bool} (h:r.er=0) (hk:(tkf l r.i).k=1) (hd:r.nx.ac l [46]=true) (hb:(r.nx.nx.nmS l).ac l [91]=true) (h1:Gd (.lev 7) (r.nx.nx.nmS l).nx x m r1):Gd (.lev 10) r (vlN (.mk 6 (r.ful l) 0 [x.e])) (m || !x.tm) (r1.exS l [93])
 | non {r:Rq} (h:r.er=0) (h0:r.ac l [45]=false) (h3:(tkf l r.i).k≠3) (h1:(tkf l r.i).k≠1) (hw:∀ w∈aN6,r.ac l w=false):Gd (.lev 10) r zN false (r.fail l 8)
 | arU {r r1:Rq} {f:Fm} {n:Fn} {m:Bool} (h:r.ac l [95]=true) (h1:Gd (.aft (f.wEx (f.ex++[zE]))) r.nx n m r1):Gd (.arg f) r n m r1
 | arT {r r1 r2:Rq} {f:Fm} {x n:Fn} {m m':Bool} (h:r.ac l [95]=false) (h1:Gd (.lev 7) r x m r1) (h2:Gd (.aft (f.wEx (f.ex++[x.e]))) r1 n m' r2):Gd (.arg f) r n ((m || !x.tm) || m') r2
 | afC {r r1:Rq} {f:Fm} {n:Fn} {m:Bool} (h:r.ac l [44]=true) (h1:Gd (.arg f) r.nx n m r1):Gd (.aft f) r n m r1
 | afE {r:Rq} {f:Fm} (h:r.ac l [44]=false):Gd (.aft f) r (mdN f) false (r.exS l [41])
end
section
variable {l:Tks} {r r':Rq} {w:Str}
theorem aL2 (h:r.er≠0):r.ac l w=false:=by unfold Rq.ac;rw [aI h];rfl
theorem nK (h:r.er≠0) (h2:r.ac l w=true):False:=by rw [aL2 h] at h2;cases h2
theorem UP (h:r.er≠0):r.exS l w=r:=Mq.exS.er h
theorem CO {nt:Nt} {n:Fn} {m:Bool} (g:Gd l nt r n m r'):r.er≠0->r'=r:=by
 induction g with
 | seq hk h1 h2 i1 i2=>intro e;have:=i1 e;subst this;exact i2 e
 | outJ=>intro _;rfl
 | outA=>intro _;rfl
 | join hk h=>intro e;exact (nK e h).elim
 | ari hk h=>intro e;exact (nK e h).elim
 | pre hp h=>intro e;exact (nK e h).elim
 | cnt h=>intro e;exact (nK e h).elim
 | cmp0 hp hc h1 i1=>exact i1
 | cm0 h1 h i1=>exact i1
 | cm1 hi h1 h h2 i1 i2=>intro e;have:=i1 e;subst this;exact (nK e h).elim
 | neg h=>intro e;exact (nK e h).elim
 | pri h h1 i1=>exact i1
 | bad=>intro _;rfl
 | num h=>intro e;exact absurd h e
 | now h=>intro e;exact (nK e h).elim
 | tru h=>intro e;exact (nK e h).elim
 | fal h=>intro e;exact (nK e h).elim
 | flg h=>intro e;exact (nK e h).elim
 | has h=>intro e;exact (nK e h).elim
 | arr0 h=>intro e;exact (nK e h).elim
 | arr h=>intro e;exact (nK e h).elim
 | siz h=>intro e;exact (nK e h).elim
 | par h=>intro e;exact (nK e h).elim
 | nam0 h=>intro e;exact absurd h e
 | nam1 h=>intro e;exact absurd h e
 | get h=>intro e;exact absurd h e
 | non h=>intro e;exact absurd h e
 | arU h=>intro e;exact (nK e h).elim
 | arT h h1 h2 i1 i2=>intro e;have:=i1 e;subst this;exact i2 e
 | afC h=>intro e;exact (nK e h).elim
 | afE h=>intro e;exact UP e
end
structure Nok (v:Vl) (n:Fn):Prop where
 tm:v.tm=n.tm
 e:n.tm=true->v.e=n.e
 fm:n.fm=!v.noF
 f:n.fm=true->v.fm=n.f
def XU (P:List Ov) (x:Vb):Vb:=P.foldl (λx o=>wF o x) x
theorem aP7 (P R:List Ov) (x:Vb):XU (P++R) x=XU R (XU P x):=nM ..
theorem WH {lv:Nat} {O:List Ov}:∀ (P:List Ov) (x:Vb),(∀ p∈P,lv<=p.lv)->xM lv (P++O) x=xM lv O (XU P x)
 | [],_,_=>rfl
 | p::P,x,h=>by
  rw [bL,xM,aM (h p (bQ ..)),WH P _ λq hq=>h q (cI _ hq)]
  rfl
theorem aN1 {lv:Nat} {q:Ps} (h:(dN q).lv<lv) (x:Vb):xM lv q.op x=(q.op,x):=by
 unfold dN at h;cases e:q.op with
 | nil=>rfl
 | cons o r =>
  rw [e] at h;rw [xM,aD (by show ¬ lv<=o.lv;have:o.lv<lv:=h;omega)]
def Rch (l:Tks) (q q':Ps):Prop:=∃ n,CE l n q=q'
section
variable {l:Tks} {q q' q'':Ps}
theorem Rch.refl:Rch l q q:=⟨0,Z⟩
theorem Rch.trans (h:Rch l q q') (k:Rch l q' q''):Rch l q q'':=by
 obtain ⟨n,h⟩:=h;obtain ⟨m,k⟩:=k;exact ⟨n+m,by rw [KY,h,k]⟩
theorem Rch.one (h0:q.c.er=0) (hd:q.dn=false) (h:lM l q=q'):Rch l q q':=⟨1,by
 rw [CE,aD,h];rfl;rintro (e | e)
 ·rw [hd] at e;cases e
 ·exact e h0⟩
structure Rdy (k:Nat) (q q':Ps) (n:Fn) (m:Bool) (r:Rq):Prop where
 c:q'.c=r
 rd:q'.rd=true
 dn:q'.dn=false
 st:∃ P v,q'.op=P++q.op/\(∀ p∈P,k<=p.lv/\p.tm=(dN q).tm)/\XU P q'.x=(v::q.x.1,q.x.2 || m)/\(m=false->Nok v n)
 wh:6<=k->(sB q'.x).wh=false
structure Stop (l:Tks) (k:Nat) (q:Ps):Prop where
 s8:k<=8->∀ i,BB 8 i->q.c.ac l (kO.getD i [])=true->(sB q.x).wh=true
 s7:k<=7->∀ i,BB 7 i->q.c.ac l (kO.getD i [])=true->(sB q.x).wh=true
 s6:k<=6->∀ i,16<=i->i<=21->q.c.ac l (kO.getD i [])=true->(sB q.x).wh=true\/(dN (kK 7 q)).kd=8
 sj:∀ j,k<=j->1<=j->j<=4->q.c.ac l (joW j)=false
structure Ctx (l:Tks) (k:Nat) (q:Ps):Prop where
 lo:k<=5->(dN q).tm=false/\(dN q).kd≠5/\(dN q).kd≠8/\(dN q).lv<=5/\(k<=4->(dN q).lv<k)
 c6:k=6->(dN q).tm=false/\(dN q).kd≠8/\(dN q).lv<7
 mid:k=7\/k=8->(dN q).lv<k
 hop:6<=k->eC l q=qO l q
theorem Rdy.mono {k j:Nat} {n:Fn} {m:Bool} {r:Rq} (h:Rdy k q q' n m r) (hj:j<=k) (hw:6<=j->6<=k):Rdy j q q' n m r:=by
 obtain ⟨P,v,a,b,c,d⟩:=h.st;exact ⟨h.c,h.rd,h.dn,⟨P,v,a,λp hp=>⟨aV hj (b p hp).1,(b p hp).2⟩,c,d⟩,λe=>h.wh (hw e)⟩
theorem Rdy.top {k:Nat} {n:Fn} {m:Bool} {r:Rq} (h:Rdy k q q' n m r):(dN q').tm=(dN q).tm:=by
 obtain ⟨P,v,a,b,c,d⟩:=h.st;have ht:dN q'=(P++q.op).headD bO:=by unfold dN;rw [a]
 cases P with
 | nil=>rw [ht];rfl
 | cons p P=>rw [ht];exact (b p (bQ ..)).2
theorem Rdy.red {k:Nat} {n:Fn} {m:Bool} {r:Rq} (h:Rdy k q q' n m r) (hk:(dN q).lv<k):∃ v,kK k q'=⟨r,q.op,(v::q.x.1,q.x.2 || m),true,false⟩/\(m=false->Nok v n):=by
 obtain ⟨P,v,a,b,c,d⟩:=h.st;refine ⟨v,?_,d⟩;unfold kK;rw [a,WH P _ λp hp=>(b p hp).1,c,aN1 hk,h.c,h.rd,h.dn]
theorem Rdy.up {k j:Nat} {o:Ov} {q1 q2 q3:Ps} {n N:Fn} {m M:Bool} {r:Rq} (h:Rdy j q2 q3 n m r) (hop:q2.op=o::q1.op) (hk:k<=o.lv) (hj:k<=j) (ht:o.tm=(dN q1).tm)
 (hx:∀ v,(m=false->Nok v n)->∃ u,wF o (v::q2.x.1,q2.x.2 || m)=(u::q1.x.1,q1.x.2 || M)/\(M=false->Nok u N)) (hw:6<=k->(sB q3.x).wh=false):Rdy k q1 q3 N M r:=by
 obtain ⟨P,v,a,b,c,d⟩:=h.st;obtain ⟨u,e,f⟩:=hx v d;have ht2:(dN q2)=o:=by unfold dN;rw [hop];rfl
 refine ⟨h.c,h.rd,h.dn,⟨P++[o],u,by rw [a,hop,bW];rfl,?_,?_,f⟩,hw⟩
 ·intro p hp;rcases cK.1 hp with hp | hp
  ·have:=b p hp;rw [ht2,ht] at this;exact ⟨aV hj this.1,this.2⟩
  ·rw [cO] at hp;subst hp;exact ⟨hk,ht⟩
 ·rw [aP7,c];exact e
theorem wG {c:Rq} {w w':Str} (h:c.ac l w=true) (hw:w≠w'):c.ac l w'=false:=by
 cases h2:c.ac l w' with
 | false=>rfl
 | true=>exact absurd ((YK h).symm.trans (YK h2)) hw
theorem FQ {c:Rq} {w:Str} (h:c.ac l w=true):¬ (tkf l c.i).k=3:=by rcases YL h with e | e <;> rw [e] <;> decide
theorem FU {c:Rq} {w:Str} (h:c.ac l w=true):¬ (tkf l c.i).k=1:=by rcases YL h with e | e <;> rw [e] <;> decide
theorem aO8 {c:Rq} {w:Str} (h:¬ ((tkf l c.i).k=2\/(tkf l c.i).k=4)):c.ac l w=false:=by
 cases h2:c.ac l w with
 | false=>rfl
 | true=>exact absurd (YL h2) h
theorem XN {c:Rq} {i:Nat} (hi:11<=i) (hi2:i<=21) (h:c.ac l (kO.getD i [])=true):c.sym l=some i:=by
 unfold Rq.sym;rw [aM (YL h),YK h];have:∀ i∈List.range 22,11<=i->aM3 (kO.getD i [])=some i:=by decide +kernel
 exact this i (bU.2 (by omega)) hi
theorem VX {c:Rq} {w:Str} (h:c.ac l w=true) (hw:aM3 w=none):c.sym l=none:=by
 unfold Rq.sym
 split
 ·rw [YK h];exact hw
 ·rfl
theorem ND {c:Rq} {w:Str} (h:c.ac l w=true):c.is l w=true:=UY h
theorem FM {c:Rq} {w:Str} (h0:c.er=0):c.is l w=c.ac l w:=by unfold Rq.ac;rw [aF h0,aG]
end
structure Tgd (l:Tks):Prop where
 last:bK8 l
 ne:∀ i,(tkf l i).k=2\/(tkf l i).k=4->(tkf l i).t≠[]
 nm:∀ i,(tkf l i).k=1->eA (tkf l i).t=none
section
variable {l:Tks} {q q' q'':Ps} {w w':Str} {c r r':Rq} {k i:Nat} {n:Fn} {m:Bool} {v:Vl}
theorem nw (h:c.ac l w=true) (hw:w≠w'):¬ c.ac l w'=true:=by rw [wG h hw];decide
theorem tX (hr:q.rd=false):lM l q=eC l q:=by unfold lM;rw [hr];rfl
theorem zJ (hr:q.rd=true):lM l q=fQ l q:=by unfold lM;rw [hr];rfl
theorem AK {op:UInt8} (h:q.c.ac l w=true) (hp:(w,op)∈IV):mV l q=some (fR ⟨7,5,false,0,q.c.prF l op⟩ (q.at (q.c.prS l op))):=by
 unfold IV at hp;simp only [bP,iV,List.not_mem_nil,or_false] at hp;unfold mV Rq.prF Rq.prS;rcases hp with ⟨rfl,rfl⟩ | ⟨rfl,rfl⟩ | ⟨rfl,rfl⟩ | ⟨rfl,rfl⟩ | ⟨rfl,rfl⟩ | ⟨rfl,rfl⟩
 ·rw [aM h];rfl
 ·rw [aD (nw h (by decide)),aM h];rfl
 ·rw [aD (nw h (by decide)),aD (nw h (by decide)),aM h];rfl
 ·rw [aD (nw h (by decide)),aD (nw h (by decide)),aD (nw h (by decide)),aM h];rfl
 ·rw [aD (nw h (by decide)),aD (nw h (by decide)),aD (nw h (by decide)),aD (nw h (by decide)),aM h];rfl
 ·rw [aD (nw h (by decide)),aD (nw h (by decide)),aD (nw h (by decide)),aD (nw h (by decide)),aD (nw h (by decide)),aM h];rfl
theorem WM (h:q.c.ac l [99,111,117,110,116]=true):mV l q=some (fR ⟨3,0,false,0,q.c.nx.amV l 18⟩ (q.at ((q.c.nx.amS l).exS l [40]))):=by
 unfold mV;rw [aD (nw h (by decide)),aD (nw h (by decide)),aD (nw h (by decide)),aD (nw h (by decide)),aD (nw h (by decide)),aD (nw h (by decide)),aM h]
theorem aH2 (hp:∀ w op,(w,op)∈IV->q.c.ac l w=false) (hc:q.c.ac l [99,111,117,110,116]=false):mV l q=none:=by
 have no {w:Str} {op:UInt8} (h:(w,op)∈IV):¬ q.c.ac l w=true:=by rw [hp w op h];decide
 unfold mV;rw [aD (no (op:=8) (by decide)),aD (no (op:=12) (by decide)),aD (no (op:=13) (by decide)),aD (no (op:=14) (by decide)),aD (no (op:=16) (by decide)),aD (no (op:=17) (by decide)),aD (by rw [hc];decide)]
theorem WU (hr:q.rd=false) (hf:zD q=true) (h:mV l q=some q'):lM l q=q':=by
 rw [tX hr];unfold eC;rw [aM hf,h]
theorem kX (hf:zD q=false\/mV l q=none) (hk:(dN q).kd=5->q.c.ac l [95]=false):eC l q=qO l q:=by
 have e:(if zD q then mV l q else none)=none:=by
  rcases hf with e | e
  ·rw [e];rfl
  ·rw [e];split <;> rfl
 unfold eC;rw [e];show xL l q=_;unfold xL;rw [aD];rintro ⟨h1,h2⟩;rw [hk h1] at h2;cases h2
theorem aA9 (h:5<(dN q).lv):zD q=false:=by unfold zD;rw [aI (by omega),Bool.and_false]
theorem cC9 (h:(dN q).tm=true):zD q=false:=by unfold zD;rw [h];rfl
theorem bG0 (h:(dN q).tm=false) (h2:(dN q).lv<=5):zD q=true:=by unfold zD;rw [h,aF h2];rfl
theorem TJ (h:q.c.ac l [45]=true):qO l q=fR ⟨10,9,false,0,zF⟩ (q.at q.c.nx):=by unfold qO;rw [aM h]
theorem TF (h:q.c.ac l [40]=true):qO l q=fR ⟨2,0,false,0,zF⟩ (q.at q.c.nx):=by unfold qO;rw [aD (nw h (by decide)),aM h]
theorem bW4 (h:(tkf l c.i).k=3):¬ c.ac l w=true:=by rw [aO8 (by rw [h];decide)];decide
theorem bW5 (h:(tkf l c.i).k=1):¬ c.ac l w=true:=by rw [aO8 (by rw [h];decide)];decide
theorem TG (h:(tkf l q.c.i).k=3):qO l q=jA (tmv (.mk 1 [] (q.c.nbV l) [])) (q.at (q.c.nbS l)):=by unfold qO;rw [aD (bW4 h),aD (bW4 h),aM h]
theorem HG (h:(tkf l q.c.i).k=1):qO l q=wP l q:=by unfold qO;rw [aD (bW5 h),aD (bW5 h),aD (by rw [h];decide),aM h]
theorem TH (h:q.c.ac l [110,111,119]=true):qO l q=jA (tmv (.mk 4 [] 0 [])) (q.at q.c.nx):=by
 unfold qO;rw [aD (nw h (by decide)),aD (nw h (by decide)),aD (FQ h),aD (FU h),aM h]
theorem TE (h:q.c.ac l [115,105,122,101]=true):qO l q=jA (tmv (.mk 8 (q.c.nx.paN l++[46]++q.c.nx.paF l) 0 [])) (q.at (q.c.nx.paS l)):=by
 unfold qO;rw [aD (nw h (by decide)),aD (nw h (by decide)),aD (FQ h),aD (FU h),aD (nw h (by decide)),aM h]
theorem TD (h:q.c.ac l [116,114,117,101]=true):qO l q=jA (fmv (.mk 1 [] [] 0 0 [] [])) (q.at q.c.nx):=by
 unfold qO;rw [aD (nw h (by decide)),aD (nw h (by decide)),aD (FQ h),aD (FU h),aD (nw h (by decide)),aD (nw h (by decide)),aM h]
theorem TM (h:q.c.ac l [102,97,108,115,101]=true):qO l q=jA (fmv (.mk 2 [] [] 0 0 [] [])) (q.at q.c.nx):=by
 unfold qO;rw [aD (nw h (by decide)),aD (nw h (by decide)),aD (FQ h),aD (FU h),aD (nw h (by decide)),aD (nw h (by decide)),aD (nw h (by decide)),aM h]
theorem TL (h:q.c.ac l [102,108,97,103]=true):qO l q=jA (fmv (.mk 6 (q.c.nx.nmV l) [] 0 0 [] [])) (q.at (q.c.nx.nmS l)):=by
 unfold qO;rw [aD (nw h (by decide)),aD (nw h (by decide)),aD (FQ h),aD (FU h),aD (nw h (by decide)),aD (nw h (by decide)),aD (nw h (by decide)),aD (nw h (by decide)),aM h]
theorem TK (h:q.c.ac l [104,97,115]=true):qO l q=fR ⟨4,0,true,0,q.c.nx.paV l 5⟩ (q.at ((q.c.nx.paS l).exS l [91])):=by
 unfold qO;rw [aD (nw h (by decide)),aD (nw h (by decide)),aD (FQ h),aD (FU h),aD (nw h (by decide)),aD (nw h (by decide)),aD (nw h (by decide)),aD (nw h (by decide)),aD (nw h (by decide)),aM h]
theorem KZ (h:q.c.ac l [97,114,114,105,118,101,115]=true):qO l q=zQ l (q.at q.c.nx):=by
 unfold qO;rw [aD (nw h (by decide)),aD (nw h (by decide)),aD (FQ h),aD (FU h),aD (nw h (by decide)),aD (nw h (by decide)),aD (nw h (by decide)),aD (nw h (by decide)),aD (nw h (by decide)),aD (nw h (by decide)),aM h]
theorem TI (h0:q.c.ac l [45]=false) (h3:(tkf l q.c.i).k≠3) (h1:(tkf l q.c.i).k≠1) (hw:∀ w∈aN6,q.c.ac l w=false):qO l q=q.at (q.c.fail l 8):=by
 have no {w:Str} (h:w∈aN6):¬ q.c.ac l w=true:=by rw [hw w h];decide
 unfold qO;rw [aD (by rw [h0];decide),aD (no (by decide)),aD h3,aD h1,aD (no (by decide)),aD (no (by decide)),aD (no (by decide)),aD (no (by decide)),aD (no (by decide)),aD (no (by decide)),aD (no (by decide))]
theorem WW (h:c.er=0) (hk:(tkf l c.i).k=1):c.nmS l=c.nx:=by
 unfold Rq.nmS;rw [aM (by unfold Rq.nmK;rw [aF h,aF hk];rfl)]
theorem bC8 (h:c.er=0) (hk:(tkf l c.i).k=1):c.nmV l=(tkf l c.i).t:=by
 unfold Rq.nmV;rw [aM (by unfold Rq.nmK;rw [aF h,aF hk];rfl)]
theorem cF7 (h:q.c.er=0) (hk:(tkf l q.c.i).k=1) (hd:q.c.nx.ac l [46]=false):wP l q=jA (tmv (.mk 5 (q.c.nmV l) 0 [])) (q.at q.c.nx):=by
 unfold wP;rw [WW h hk,aD (by rw [hd];decide)]
theorem cF6 (h:q.c.er=0) (hk:(tkf l q.c.i).k=1) (hd:q.c.nx.ac l [46]=true) (hb:(q.c.nx.nx.nmS l).ac l [91]=false):wP l q=jA (tmv (.mk 5 (q.c.ful l) 0 [])) (q.at (q.c.nx.nx.nmS l)):=by
 unfold wP;rw [WW h hk,aM hd,aD (by rw [hb];decide)]
theorem cF5 (h:q.c.er=0) (hk:(tkf l q.c.i).k=1) (hd:q.c.nx.ac l [46]=true) (hb:(q.c.nx.nx.nmS l).ac l [91]=true):wP l q=fR ⟨4,0,true,6,.mk 0 (q.c.ful l) [] 0 0 [] []⟩ (q.at (q.c.nx.nx.nmS l).nx):=by
 unfold wP;rw [WW h hk,aM hd,aM hb]
theorem cL4 (h:((c.paS l).exS l [40]).ac l [41]=true):zQ l (q.at c)=jA (fmv (c.paV l 7)) (q.at ((c.paS l).exS l [40]).nx):=by
 unfold zQ;exact aM h
theorem cL3 (h:((c.paS l).exS l [40]).ac l [41]=false):zQ l (q.at c)=fR ⟨5,0,true,0,c.paV l 7⟩ (q.at ((c.paS l).exS l [40])):=by
 unfold zQ;exact aD (by show ¬ ((c.paS l).exS l [40]).ac l [41]=true;rw [h];decide)
theorem GZ (hr:q.rd=true) (h:q.c.ac l w=true) (hw:w=[41]\/w=[93]\/w=[44]):lM l q=mR l (kK 1 q):=by
 rw [zJ hr];unfold fQ;rw [VX h (by rcases hw with rfl | rfl | rfl <;> decide +kernel)];show qV l q=_;have h0:=eX h;have nI {w':Str} (e:w≠w'):q.c.is l w'=false:=by rw [FM h0];exact wG h e
 unfold qV Rq.wrd Rq.endB;rcases hw with rfl | rfl | rfl
 ·rw [nI (w':=[115,105,110,99,101]) (by decide),nI (w':=[97,110,100]) (by decide),nI (w':=[111,114]) (by decide),nI (w':=[105,109,112,108,105,101,115]) (by decide),ND h];rfl
 ·rw [nI (w':=[115,105,110,99,101]) (by decide),nI (w':=[97,110,100]) (by decide),nI (w':=[111,114]) (by decide),nI (w':=[105,109,112,108,105,101,115]) (by decide),nI (w':=[41]) (by decide),ND h];rfl
 ·rw [nI (w':=[115,105,110,99,101]) (by decide),nI (w':=[97,110,100]) (by decide),nI (w':=[111,114]) (by decide),nI (w':=[105,109,112,108,105,101,115]) (by decide),nI (w':=[41]) (by decide),nI (w':=[93]) (by decide),ND h];rfl
theorem CW (h1:(dN q).kd=1->(tkf l q.c.i).k≠0) (h2:(dN q).kd=2\/(dN q).kd=3\/(dN q).kd=5->q.c.ac l [41]=false) (h4:(dN q).kd=4->q.c.ac l [93]=false) (h5:(dN q).kd=5->q.c.ac l [44]=false):mR l q=q.at (q.c.fail l 8):=by
 have no {w:Str} (e:q.c.ac l w=false):¬ q.c.ac l w=true:=by rw [e];decide
 unfold mR;rw [aD (λe=>h1 e.1 e.2),aD (λe=>no (h2 (.inl e.1)) e.2),aD (λe=>no (h2 (.inr (.inl e.1))) e.2),aD (λe=>no (h4 e.1) e.2),aD (λe=>no (h5 e.1) e.2),aD (λe=>no (h2 (.inr (.inr e.1))) e.2)]
theorem cG7 (G:Tgd l) (hr:q.rd=true) (h0:q.c.er=0) (ar:∀ i,BB 8 i\/BB 7 i->q.c.ac l (kO.getD i [])=true->(sB q.x).wh=true)
 (cm:∀ i,16<=i->i<=21->q.c.ac l (kO.getD i [])=true->(sB q.x).wh=true\/(dN (kK 7 q)).tm=true\/(dN (kK 7 q)).kd=8)
 (jn:∀ j,1<=j->j<=4->q.c.ac l (joW j)=true->(dN q).tm=true) (cl:(mR l (kK 1 q)).c=q.c.fail l 8):(lM l q).c=q.c.fail l 8:=by
 rw [zJ hr];unfold fQ;cases e:q.c.sym l with
 | some i =>
  obtain ⟨ha,hi,_⟩:=ZN G.last h0 e;have hne:=G.ne q.c.i (YL ha);rw [YK ha] at hne
  have h11:11<=i:=by
   refine Classical.byContradiction λhn=>hne ?_;have:∀ i∈List.range 11,kO.getD i []=[]:=by decide
   exact this i (bU.2 (by omega))
  show (sD l (UInt8.ofNat i) q).c=_;unfold sD
  by_cases h16:16<=i
  ·have:(16:UInt8)<=UInt8.ofNat i:=by rw [UInt8.le_iff_toNat_le,cW (show i<256 by omega)];exact h16
   rw [aM this,aM]
   ·rfl
   ·rcases cm i h16 (by omega) ha with e | e | e
    ·rw [e];rfl
    ·rw [e,Bool.or_true];rfl
    ·rw [aF e,Bool.or_true]
  ·have hn:¬ (16:UInt8)<=UInt8.ofNat i:=by rw [UInt8.le_iff_toNat_le,cW (show i<256 by omega)];exact h16
   have hw:=ar i (by
    have:i=11\/i=12\/i=13\/i=14\/i=15:=by omega
    rcases this with h | h | h | h | h
    ·exact .inl (.inr ⟨Z,.inl h⟩)
    ·exact .inl (.inr ⟨Z,.inr (.inl h)⟩)
    ·exact .inl (.inr ⟨Z,.inr (.inr h)⟩)
    ·exact .inr (.inl ⟨Z,.inl h⟩)
    ·exact .inr (.inl ⟨Z,.inr h⟩)) ha
   rw [aD hn,aM hw,aM hw]
   split <;> rfl
 | none =>
  show (qV l q).c=_;unfold qV
  split
  ·rename_i hw
   have ht:(dN q).tm=true:=by
    unfold Rq.wrd at hw;rw [aT,aT,aT] at hw;simp only [FM h0] at hw;rcases hw with ((e | e) | e) | e
    ·exact jn 4 (by decide) (by decide) e
    ·exact jn 3 (by decide) (by decide) e
    ·exact jn 2 (by decide) (by decide) e
    ·exact jn 1 (by decide) (by decide) e
   unfold xU;rw [aM ht];rfl
  split
  ·exact cl
  ·rfl
end
section
variable {l:Tks} {q q' q'':Ps} {w w':Str} {c r r':Rq} {k i:Nat} {n x y:Fn} {m ma b:Bool} {v u:Vl} {V:List Vl}
def Sim (l:Tks):Nt->Rq->Fn->Bool->Rq->Prop
 | .lev k,r,n,m,r'=>∀ q,q.c=r->q.rd=false->q.dn=false->Ctx l k q->(r'.er≠0/\∃ q',Rch l q q'/\q'.c=r')\/(r'.er=0/\∃ q',Rch l q q'/\Rdy k q q' n m r'/\Stop l k q')
 | .lp k a,r,n,m,r'=>∀ q q' ma,Rdy k q q' a ma r->Ctx l k q->Stop l (k+1) q'->(r'.er≠0/\∃ q'',Rch l q' q''/\q''.c=r')\/(r'.er=0/\∃ q'',Rch l q' q''/\Rdy k q q'' n (ma || m) r'/\Stop l k q'')
 | .arg f,r,n,m,r'=>∀ O V b ma f',(ma=false->f'=f)->(r'.er≠0/\∃ q',Rch l ⟨r,⟨5,0,true,0,f'⟩::O,(V,b || ma),false,false⟩ q'/\q'.c=r') \/
  (r'.er=0/\∃ v,Rch l ⟨r,⟨5,0,true,0,f'⟩::O,(V,b || ma),false,false⟩ ⟨r',O,(v::V,b || (ma || m)),true,false⟩/\v.wh=false/\((ma || m)=false->Nok v n))
 | .aft f,r,n,m,r'=>∀ q O V v b bb ma f',q.c=r->q.rd=true->q.dn=false->(dN q).tm=true->(dN (kK 7 q)).tm=true->kK 1 q=⟨r,⟨5,0,true,0,f'⟩::O,(v::V,bb),true,false⟩->(bb || !v.tm)=(b || ma)->(ma=false->f'.wEx (f'.ex++[v.e])=f)->Stop l 7 q\/(sB q.x).wh=true ->
  (r'.er≠0/\∃ q',Rch l q q'/\q'.c=r')\/(r'.er=0/\∃ v,Rch l q ⟨r',O,(v::V,b || (ma || m)),true,false⟩/\v.wh=false/\((ma || m)=false->Nok v n))
theorem cE0 {t:Bool} {op:UInt8} {f:Fm} {lv:Nat}:wF ⟨10,lv,t,op,f⟩ (v::V,b)=(tmv (.mk 9 [] 0 [v.e])::V,b || !v.tm):=rfl
theorem cK6 {t:Bool} {op:UInt8} {f:Fm} {lv:Nat}:wF ⟨9,lv,t,op,f⟩ (v::u::V,b)=(tmv (.mk op [] 0 [u.e,v.e])::V,b || !v.tm || !u.tm):=rfl
theorem cK7 {t:Bool} {op:UInt8} {f:Fm} {lv:Nat}:wF ⟨8,lv,t,op,f⟩ (v::u::V,b)=(fmv (.mk 3 [] [] 0 0 [.mk op [] 0 [u.e,v.e]] [])::V,b || !v.tm || !u.tm):=rfl
theorem cK8 {t:Bool} {op:UInt8} {f:Fm} {lv:Nat}:wF ⟨7,lv,t,op,f⟩ (v::V,b)=(fmv (f.wAr [v.fm])::V,b || v.noF):=rfl
theorem cK9 {t:Bool} {op:UInt8} {f:Fm} {lv:Nat}:wF ⟨6,lv,t,op,f⟩ (v::u::V,b)=(fmv (f.wAr [u.fm,v.fm])::V,b || v.noF || u.noF):=rfl
theorem Nok.md (f:Fm):Nok (fmv f) (mdN f):=⟨Z,λh=>(by cases h),Z,λ_=>rfl⟩
theorem Nok.vl {e:Ex} (h:¬ e.op=5\/eA e.nm=none):Nok (tmv e) (vlN e):=⟨Z,λ_=>rfl,by
 show false=!(true && (!decide (e.op=5) || (eA e.nm).isNone));rcases h with h | h
 ·rw [aI h];rfl
 ·rw [h,aG];simp,λh=>(by cases h)⟩
theorem Nok.vl' {op:UInt8} {nm:Str} {z:Int64} {es:List Ex} (h:¬ op=5):Nok (tmv (.mk op nm z es)) (vlN (.mk op nm z es)):=.vl (.inl h)
theorem bB7 {v:Vl} {x:Fn} (h:m=false->Nok v x):(m || !v.tm)=(m || !x.tm):=by
 cases m with
 | true=>rfl
 | false=>rw [(h rfl).tm]
theorem bB8 {v:Vl} {x:Fn} (h:m=false->Nok v x):(m || v.noF)=(m || !x.fm):=by
 cases m with
 | true=>rfl
 | false=>rw [(h rfl).fm,Bool.not_not]
theorem cH5 (h:ma=false->Nok u x) (k:m=false->Nok v y):(b || ma || m || v.noF || u.noF)=(b || (ma || (m || (!x.fm || !y.fm)))):=by
 cases ma with
 | true=>simp
 | false =>
  cases m with
  | true=>simp
  | false=>rw [(h rfl).fm,(k rfl).fm];cases b <;> cases v.noF <;> cases u.noF <;> rfl
theorem bW1 (h:ma=false->Nok u x) (k:m=false->Nok v y):(b || ma || m || !v.tm || !u.tm)=(b || (ma || (m || (!x.tm || !y.tm)))):=by
 cases ma with
 | true=>simp
 | false =>
  cases m with
  | true=>simp
  | false=>rw [(h rfl).tm,(k rfl).tm];cases b <;> cases y.tm <;> cases x.tm <;> rfl
theorem orF {a b:Bool} (h:(a || b)=false):a=false/\b=false:=by cases a <;> cases b <;> simp at h|-
theorem bA7 (hr:(jA v (q.at c)).c=c) (hn:Nok v n) (hw:v.wh=false) (hd:q.dn=false):Rdy k q (jA v (q.at c)) n false c :=
 ⟨Z,Z,hd,⟨[],v,Z,λp hp=>(by cases hp),by show (v::q.x.1,q.x.2)=_;rw [Bool.or_false],λ_=>hn⟩,λ_=>hw⟩
theorem TN (hn:m=false->Nok v n) (hw:6<=k->v.wh=false):Rdy k q ⟨c,q.op,(v::q.x.1,q.x.2 || m),true,false⟩ n m c :=
 ⟨Z,Z,Z,⟨[],v,Z,λp hp=>(by cases hp),Z,hn⟩,hw⟩
theorem DF (h:9<=k):Stop l k q:=⟨λe=>by omega,λe=>by omega,λe=>by omega,λj e _ _=>by omega⟩
theorem aB8 (hk:7<=k) (h:(dN q).lv<k\/9<=k) (hf:zD q=false) (h5:(dN q).kd≠5):Ctx l k q :=
 ⟨λe=>by omega,λe=>by omega,λe=>by omega,λ_=>kX (.inl hf) λe=>absurd e h5⟩
theorem NS {o:Ov} {K:UInt8} (hk:k<=5) (hq:dN q=o) (h1:o.tm=false) (hK:o.kd=K) (h2:K≠5/\K≠8) (h4:o.lv<=5) (h5:k<=4->o.lv<k):Ctx l k q:=by
 subst hq hK;exact ⟨λ_=>⟨h1,h2.1,h2.2,h4,h5⟩,λe=>by omega,λe=>by omega,λe=>by omega⟩
theorem aZ8 (hr:q.rd=false) (hd:q.dn=false) (h0:q.c.er=0) (C:Ctx l 10 q) (e:qO l q=jA v (q.at c)) (hn:Nok v n) (hw:v.wh=false) :
 (c.er≠0/\∃ q',Rch l q q'/\q'.c=c)\/(c.er=0/\∃ q',Rch l q q'/\Rdy 10 q q' n false c/\Stop l 10 q'):=by
 have s:Rch l q (jA v (q.at c)):=.one h0 hd (by rw [tX hr,C.hop (by decide),e])
 by_cases hc:c.er=0
 ·exact .inr ⟨hc,_,s,bA7 Z hn hw hd,DF (by decide)⟩
 ·exact .inl ⟨hc,_,s,Z⟩
theorem DK {o:Ov} {P:Prop} (hr:q.rd=false) (hd:q.dn=false) (h0:q.c.er=0) (e:lM l q=fR o (q.at c)) (hb:c.er≠0->P) (hg:c.er=0->Rch l q (fR o (q.at c))->P):P:=by
 by_cases hc:c.er=0
 ·exact hg hc (.one h0 hd e)
 ·exact hb hc
theorem bB2 {o:Ov}:dN (fR o q)=o.inh (dN q).tm:=rfl
theorem HL (G:Tgd l) (h0:q'.c.er=0) (hr:q'.rd=true) (hd:q'.dn=false) (S:Stop l 1 q'\/(Stop l 7 q'/\(dN q').tm=true/\(dN (kK 7 q')).tm=true))
 (cl:(mR l (kK 1 q')).c=q'.c.fail l 8):∃ q'',Rch l q' q''/\q''.c=q'.c.fail l 8 :=
 ⟨_,.one h0 hd rfl,cG7 G hr h0
  (λi hi ha=>by
   rcases S with S | ⟨S,_⟩
   ·rcases hi with hi | hi
    ·exact S.s8 (by decide) i hi ha
    ·exact S.s7 (by decide) i hi ha
   ·rcases hi with hi | hi
    ·exact S.s8 (by decide) i hi ha
    ·exact S.s7 (by decide) i hi ha)
  (λi h1 h2 ha=>by
   rcases S with S | ⟨S,_,h⟩
   ·rcases S.s6 (by decide) i h1 h2 ha with e | e
    ·exact .inl e
    ·exact .inr (.inr e)
   ·exact .inr (.inl h))
  (λj h1 h2 ha=>by
   rcases S with S | ⟨S,h,_⟩
   ·rw [S.sj j h1 h1 h2] at ha;cases ha
   ·exact h) cl⟩
theorem NO (h:r.ac l w=true):r.exS l w=r.nx:=by unfold Rq.exS;rw [aM h]
theorem NN (h:r.ac l w=false):r.exS l w=r.fail l 8:=by unfold Rq.exS;rw [aD (by rw [h];decide)]
theorem XI (hk:1<=k/\k<=4) (h:r.ac l (joW k)=true):r.joV l=r.jnF l k/\r.joS l=r.jnS l k/\(dD (r.jnF l k).op).lv=k/\r.wrd l=true/\r.sym l=none:=by
 have h0:=eX h;have e:k=1\/k=2\/k=3\/k=4:=by omega
 rcases e with rfl | rfl | rfl | rfl
 ·replace h:r.ac l [105,109,112,108,105,101,115]=true:=h;refine ⟨?_,?_,Z,?_,VX h (by decide +kernel)⟩
  ·unfold Rq.joV;rw [aD (nw h (by decide)),aD (nw h (by decide)),aD (nw h (by decide)),aM h];rfl
  ·unfold Rq.joS;rw [aD (nw h (by decide)),aD (nw h (by decide)),aD (nw h (by decide)),aM h];rfl
  ·unfold Rq.wrd;rw [show r.is l [105,109,112,108,105,101,115]=true from ND h,Bool.or_true]
 ·replace h:r.ac l [111,114]=true:=h;refine ⟨?_,?_,Z,?_,VX h (by decide +kernel)⟩
  ·unfold Rq.joV;rw [aD (nw h (by decide)),aD (nw h (by decide)),aM h];rfl
  ·unfold Rq.joS;rw [aD (nw h (by decide)),aD (nw h (by decide)),aM h];rfl
  ·unfold Rq.wrd;rw [show r.is l [111,114]=true from ND h,Bool.or_true];rfl
 ·replace h:r.ac l [97,110,100]=true:=h;refine ⟨?_,?_,Z,?_,VX h (by decide +kernel)⟩
  ·unfold Rq.joV;rw [aD (nw h (by decide)),aM h];rfl
  ·unfold Rq.joS;rw [aD (nw h (by decide)),aM h];rfl
  ·unfold Rq.wrd;rw [show r.is l [97,110,100]=true from ND h,Bool.or_true];rfl
 ·replace h:r.ac l [115,105,110,99,101]=true:=h;refine ⟨?_,?_,Z,?_,VX h (by decide +kernel)⟩
  ·unfold Rq.joV;rw [aM h];rfl
  ·unfold Rq.joS;rw [aM h];rfl
  ·unfold Rq.wrd;rw [show r.is l [115,105,110,99,101]=true from ND h];rfl
theorem aM4 (D:Rdy k q q' n ma r) (hk:1<=k/\k<=4) (C:Ctx l k q) (h:r.ac l (joW k)=true):∃ v,lM l q'=⟨r.jnS l k,⟨6,k,false,0,r.jnF l k⟩::q.op,(v::q.x.1,q.x.2 || ma),false,false⟩/\(ma=false->Nok v n):=by
 obtain ⟨e1,e2,e3,e4,e5⟩:=XI hk h;obtain ⟨c1,c2,c3,c4,c5⟩:=C.lo (by omega);obtain ⟨v,hv,hn⟩:=D.red (c5 hk.2);refine ⟨v,?_,hn⟩;rw [zJ D.rd];unfold fQ;rw [D.c,e5];show qV l q'=_;unfold qV;rw [D.c,aM e4];unfold xU;rw [aD (by rw [D.top,c1];decide),D.c,e1,e2,e3];have:kK k (q'.at (r.jnS l k))=(kK k q').at (r.jnS l k):=rfl;rw [this,hv];show (⟨r.jnS l k,Ov.inh ⟨6,k,false,0,r.jnF l k⟩ (dN q).tm::q.op,_,false,false⟩:Ps)=_;rw [c1];unfold Ov.inh;rw [aM (show 0<k by omega)];rfl
theorem aY4 (D:Rdy k q q' n ma r) (hk:BB k i) (C:Ctx l k q) (h:r.ac l (kO.getD i [])=true):∃ v,lM l q'=⟨r.nx,⟨9,k,(dN q).tm,UInt8.ofNat i,zF⟩::q.op,(v::q.x.1,q.x.2 || ma),false,false⟩/\(ma=false->Nok v n):=by
 have hk7:(k=7\/k=8)/\11<=i/\i<=15:=by
  rcases hk with ⟨rfl,e⟩ | ⟨rfl,e⟩
  ·exact ⟨.inl rfl,by omega⟩
  ·exact ⟨.inr rfl,by omega⟩
 obtain ⟨v,hv,hn⟩:=D.red (C.mid hk7.1);have hw:=D.wh (by omega);refine ⟨v,?_,hn⟩;rw [zJ D.rd];unfold fQ;rw [D.c,XN hk7.2.1 (by omega) h];show sD l (UInt8.ofNat i) q'=_;unfold sD;rw [hw,D.c];rcases hk with ⟨rfl,e⟩ | ⟨rfl,e⟩
 ·have e1:¬ (16:UInt8)<=UInt8.ofNat i:=by rcases e with rfl | rfl <;> decide
  have e2:¬ UInt8.ofNat i<=13:=by rcases e with rfl | rfl <;> decide
  rw [aD e1,aD e2,aD (by decide),hv];rfl
 ·have e1:¬ (16:UInt8)<=UInt8.ofNat i:=by rcases e with rfl | rfl | rfl <;> decide
  have e2:UInt8.ofNat i<=13:=by rcases e with rfl | rfl | rfl <;> decide
  rw [aD e1,aM e2,aD (by decide),hv];rfl
theorem aY3 (D:Rdy 7 q q' n ma r) (hi:16<=i/\i<=21) (C:Ctx l 6 q) (h:r.ac l (kO.getD i [])=true):∃ v,lM l q'=⟨r.nx,⟨8,6,false,UInt8.ofNat i,zF⟩::q.op,(v::q.x.1,q.x.2 || ma),false,false⟩/\(ma=false->Nok v n):=by
 obtain ⟨c1,c2,c3⟩:=C.c6 rfl;obtain ⟨v,hv,hn⟩:=D.red c3;have hw:=D.wh (by omega);refine ⟨v,?_,hn⟩;rw [zJ D.rd];unfold fQ;rw [D.c,XN (by omega) hi.2 h];show sD l (UInt8.ofNat i) q'=_;unfold sD;have e1:(16:UInt8)<=UInt8.ofNat i:=by rw [UInt8.le_iff_toNat_le,cW (show i<256 by omega)];exact hi.1
 rw [hw,D.c,aM e1,hv]
 have e2:(false || (dN (⟨r,q.op,(v::q.x.1,q.x.2 || ma),true,false⟩:Ps)).tm || decide ((dN (⟨r,q.op,(v::q.x.1,q.x.2 || ma),true,false⟩:Ps)).kd=8))=false:=by
  show (false || (dN q).tm || decide ((dN q).kd=8))=false;rw [c1,aI c2];rfl
 rw [aD (by rw [e2];decide)];show (⟨r.nx,Ov.inh ⟨8,6,false,UInt8.ofNat i,zF⟩ (dN q).tm::q.op,_,false,false⟩:Ps)=_;rw [c1];rfl
end
section
variable {l:Tks} {q q' q'':Ps} {w w':Str} {c r r' r1 r2:Rq} {k i:Nat} {n x y a:Fn} {m m' ma b:Bool} {v u:Vl} {V:List Vl}
theorem bN5 (hk:(1<=k/\k<=4)\/k=7\/k=8) (h2:Gd l (.lp k x) r1 n m' r2) (i1:r.er=0->Sim l (.lev (k+1)) r x m r1) (i2:r1.er=0->Sim l (.lp k x) r1 n m' r2) (h0:r.er=0):Sim l (.lev k) r n (m || m') r2:=by
 intro q hc hr hd C
 have C1:Ctx l (k+1) q:=⟨λe=>by
  obtain ⟨a,b,c,d,f⟩:=C.lo (by omega);exact ⟨a,b,c,d,λg=>by have:=f (by omega);omega⟩,λe=>by omega,λe=>by have:=C.mid (by omega);omega,λe=>C.hop (by omega)⟩
 rcases i1 h0 q hc hr hd C1 with ⟨e,q1,R,hc1⟩ | ⟨e,q1,R,D,S⟩
 ·have:=CO h2 e;subst this;exact .inl ⟨e,q1,R,hc1⟩
 ·rcases i2 e q q1 m (D.mono (by omega) (by omega)) C S with ⟨e',q2,R2,c2⟩ | ⟨e',q2,R2,D2,S2⟩
  ·exact .inl ⟨e',q2,R.trans R2,c2⟩
  ·exact .inr ⟨e',q2,R.trans R2,D2,S2⟩
theorem aZ6 (hk:1<=k/\k<=4) (h:r.ac l (joW k)=false) (h0:r.er=0):Sim l (.lp k a) r a false r:=by
 intro q q' ma D C S;refine .inr ⟨h0,q',.refl,by rw [Bool.or_false];exact D,λ_=>S.s8 (by omega),λ_=>S.s7 (by omega),λ_=>S.s6 (by omega),λj h1 h2 h3=>?_⟩
 by_cases e:j=k
 ·rw [e,D.c];exact h
 ·exact S.sj j (by omega) h2 h3
theorem aZ7 (hk:k=7\/k=8) (h:∀ i,BB k i->r.ac l (kO.getD i [])=false) (h0:r.er=0):Sim l (.lp k a) r a false r:=by
 intro q q' ma D C S
 have z:∀ i,BB k i->q'.c.ac l (kO.getD i [])=true->(sB q'.x).wh=true:=λi hi ha=>by
  rw [D.c,h i hi] at ha;cases ha
 refine .inr ⟨h0,q',.refl,by rw [Bool.or_false];exact D,λ_=>?_,λe=>?_,λe=>by omega,λj h1 h2 h3=>by omega⟩
 ·rcases hk with rfl | rfl
  ·exact S.s8 (by decide)
  ·exact z
 ·rcases hk with rfl | rfl
  ·exact z
  ·omega
theorem aZ9 (hk:1<=k/\k<=4) (h:r.ac l (joW k)=true) (h1:Gd l (.lev (k+1)) (r.jnS l k) y m r1) (h2:Gd l (.lp k (mdN ((r.jnF l k).wAr [a.f,y.f]))) r1 n m' r2)
 (i1:(r.jnS l k).er=0->Sim l (.lev (k+1)) (r.jnS l k) y m r1) (i2:r1.er=0->Sim l (.lp k (mdN ((r.jnF l k).wAr [a.f,y.f]))) r1 n m' r2):Sim l (.lp k a) r n ((m || (!a.fm || !y.fm)) || m') r2:=by
 intro q q' ma D C S;obtain ⟨va,hs,hn⟩:=aM4 D hk C h;obtain ⟨c1,c2,c3,c4,c5⟩:=C.lo (by omega);have R:=Rch.one (by rw [D.c];exact eX h) D.dn hs
 by_cases hj:(r.jnS l k).er=0
 ·have C2:Ctx l (k+1) ⟨r.jnS l k,⟨6,k,false,0,r.jnF l k⟩::q.op,(va::q.x.1,q.x.2 || ma),false,false⟩:=NS (K:=6) (by omega) rfl rfl rfl (by decide) (show k<=5 by omega) (λ_=>cY k);rcases i1 hj _ rfl rfl rfl C2 with ⟨e,q3,R3,c3⟩ | ⟨e,q3,R3,D3,S3⟩
  ·have:=CO h2 e;subst this;exact .inl ⟨e,q3,R.trans R3,c3⟩
  ·have D4:Rdy k q q3 (mdN ((r.jnF l k).wAr [a.f,y.f])) (ma || (m || (!a.fm || !y.fm))) r1:=by
    refine D3.up rfl (aW k) (Nat.le_succ k) c1.symm (λv hv=>⟨_,cK9.trans (Prod.ext rfl (cH5 hn hv)),λhm=>?_⟩) (λe=>by omega);have hm1:=orF hm;have hm2:=orF hm1.2;have hm3:=orF hm2.2;have hv':=hv hm2.1;have hn':=hn hm1.1;rw [hn'.f (by simpa using hm3.1),hv'.f (by simpa using hm3.2)];exact .md _
   rcases i2 e q q3 _ D4 C S3 with ⟨e',q4,R4,c4⟩ | ⟨e',q4,R4,D5,S5⟩
   ·exact .inl ⟨e',q4,(R.trans R3).trans R4,c4⟩
   ·exact .inr ⟨e',q4,(R.trans R3).trans R4,by rw [Bool.or_assoc] at D5;exact D5,S5⟩
 ·have:=CO h1 hj;subst this;have:=CO h2 hj;subst this;exact .inl ⟨hj,_,R,Z⟩
theorem bO6 (hk:BB k i) (h:r.ac l (kO.getD i [])=true) (h2:Gd l (.lp k (vlN (opB i [a.e,y.e]))) r1 n m' r2) (i1:r.nx.er=0->Sim l (.lev (k+1)) r.nx y m r1) (i2:r1.er=0->Sim l (.lp k (vlN (opB i [a.e,y.e]))) r1 n m' r2) :
 Sim l (.lp k a) r n ((m || (!a.tm || !y.tm)) || m') r2:=by
 intro q q' ma D C S
 have hk7:(k=7\/k=8)/\11<=i/\i<=15:=by
  rcases hk with ⟨rfl,e⟩ | ⟨rfl,e⟩
  ·exact ⟨.inl rfl,by omega⟩
  ·exact ⟨.inr rfl,by omega⟩
 obtain ⟨va,hs,hn⟩:=aY4 D hk C h;have R:=Rch.one (by rw [D.c];exact eX h) D.dn hs;have C2:Ctx l (k+1) ⟨r.nx,⟨9,k,(dN q).tm,UInt8.ofNat i,zF⟩::q.op,(va::q.x.1,q.x.2 || ma),false,false⟩:=aB8 (by omega) (.inl (cY k)) (aA9 (by show 5<k;omega)) (by show (9:UInt8)≠5;decide);rcases i1 (show r.nx.er=0 from (eX h:r.er=0)) _ rfl rfl rfl C2 with ⟨e,q3,R3,c3⟩ | ⟨e,q3,R3,D3,S3⟩
 ·have:=CO h2 e;subst this;exact .inl ⟨e,q3,R.trans R3,c3⟩
 ·have hop:¬ UInt8.ofNat i=5:=by
   intro e;have:=congrArg UInt8.toNat e;rw [cW (show i<256 by omega)] at this;have h5:(5:UInt8).toNat=5:=rfl;omega
  have D4:Rdy k q q3 (vlN (opB i [a.e,y.e])) (ma || (m || (!a.tm || !y.tm))) r1:=by
   refine D3.up rfl (aW k) (Nat.le_succ k) rfl (λv hv=>⟨_,cK6.trans (Prod.ext rfl (bW1 hn hv)),λhm=>?_⟩) (λe=>D3.wh (by omega));have hm1:=orF hm;have hm2:=orF hm1.2;have hm3:=orF hm2.2;rw [(hn hm1.1).e (by simpa using hm3.1),(hv hm2.1).e (by simpa using hm3.2)];exact .vl' hop
  rcases i2 e q q3 _ D4 C S3 with ⟨e',q4,R4,c4⟩ | ⟨e',q4,R4,D5,S5⟩
  ·exact .inl ⟨e',q4,(R.trans R3).trans R4,c4⟩
  ·exact .inr ⟨e',q4,(R.trans R3).trans R4,by rw [Bool.or_assoc] at D5;exact D5,S5⟩
theorem bN7 {op:UInt8} (hp:(w,op)∈IV) (h:r.ac l w=true) (h1:Gd l (.lev 5) (r.prS l op) x m r1) (i1:(r.prS l op).er=0->Sim l (.lev 5) (r.prS l op) x m r1):Sim l (.lev 5) r (mdN ((r.prF l op).wAr [x.f])) (m || !x.fm) r1:=by
 intro q hc hr hd C;subst hc;obtain ⟨c1,c2,c3,c4,c5⟩:=C.lo (by omega);have st:=WU hr (bG0 c1 c4) (AK h hp);refine DK (c:=q.c.prS l op) hr hd (eX h) st (λhj=>?_) λhj R=>?_
 ·have:=CO h1 hj;subst this;exact .inl ⟨hj,_,.one (eX h) hd st,Z⟩
 ·have ht:dN (fR ⟨7,5,false,0,q.c.prF l op⟩ (q.at (q.c.prS l op)))=⟨7,5,false,0,q.c.prF l op⟩:=by
   rw [bB2];show Ov.inh _ (dN q).tm=_;rw [c1];rfl
  have C2:Ctx l 5 (fR ⟨7,5,false,0,q.c.prF l op⟩ (q.at (q.c.prS l op))):=NS (K:=7) (by decide) ht rfl rfl (by decide) (aW 5) (λe=>by omega);rcases i1 hj (fR ⟨7,5,false,0,q.c.prF l op⟩ (q.at (q.c.prS l op))) rfl rfl hd C2 with ⟨e,q3,R3,c3⟩ | ⟨e,q3,R3,D3,S3⟩
  ·exact .inl ⟨e,q3,R.trans R3,c3⟩
  ·refine .inr ⟨e,q3,R.trans R3,?_,S3⟩;refine D3.up (o:=⟨7,5,false,0,q.c.prF l op⟩) (by show Ov.inh _ (dN q).tm::q.op=_;rw [c1];rfl) (aW 5) (aW 5) c1.symm (λv hv=>⟨_,cK8.trans (Prod.ext rfl ?_),λhm=>?_⟩) (λe=>by omega)
   ·show ((q.x.2 || m) || v.noF)=(q.x.2 || (m || !x.fm));rw [Bool.or_assoc,bB8 hv]
   ·have hm2:=orF hm;rw [(hv hm2.1).f (by simpa using hm2.2)];exact .md _
end
section
variable {l:Tks} {q q' q'':Ps} {w w':Str} {c r r' r1 r2:Rq} {k i:Nat} {n x y a:Fn} {m m' ma b:Bool} {v u:Vl} {V:List Vl} {f:Fm}
theorem aK4 {o:Ov} (ht:dN q=o) (hk:o.kd=2) (h:q.c.ac l [41]=true):mR l q=IB q.c.nx ⟨(sB q.x).tm,false,(sB q.x).e,(sB q.x).f⟩ (q.x.1.tail,q.x.2) q:=by
 subst ht;unfold mR;rw [aD (λe=>by rw [hk] at e;exact absurd e.1 (by decide)),aM ⟨hk,h⟩]
theorem aK7 {o:Ov} (ht:dN q=o) (hk:o.kd=3) (h:q.c.ac l [41]=true):mR l q=IB ((q.c.nx.exS l [62,61]).nbS l) ⟨false,true,zE,((dN q).f.wEx [.mk 1 [] ((q.c.nx.exS l [62,61]).nbV l) []]).wAr [fF q.x]⟩ (fS q.x) q:=by
 subst ht;unfold mR;rw [aD (λe=>by rw [hk] at e;exact absurd e.1 (by decide)),aD (λe=>by rw [hk] at e;exact absurd e.1 (by decide)),aM ⟨hk,h⟩]
theorem aK6 {o:Ov} (ht:dN q=o) (hk:o.kd=4) (ho:o.op=6) (h:q.c.ac l [93]=true):mR l q=IB q.c.nx (tmv (.mk 6 o.f.nm 0 [tE q.x])) (tS q.x) q:=by
 subst ht;unfold mR;rw [aD (λe=>by rw [hk] at e;exact absurd e.1 (by decide)),aD (λe=>by rw [hk] at e;exact absurd e.1 (by decide)),aD (λe=>by rw [hk] at e;exact absurd e.1 (by decide)),aM ⟨hk,h⟩,aM ho]
theorem aK5 {o:Ov} (ht:dN q=o) (hk:o.kd=4) (ho:¬ o.op=6) (h:q.c.ac l [93]=true):mR l q=IB q.c.nx (fmv (o.f.wEx [tE q.x])) (tS q.x) q:=by
 subst ht;unfold mR;rw [aD (λe=>by rw [hk] at e;exact absurd e.1 (by decide)),aD (λe=>by rw [hk] at e;exact absurd e.1 (by decide)),aD (λe=>by rw [hk] at e;exact absurd e.1 (by decide)),aM ⟨hk,h⟩,aD ho]
theorem IC {o:Ov} (ht:dN q=o) (hk:o.kd=5) (h:q.c.ac l [44]=true):mR l q=⟨q.c.nx,⟨o.kd,o.lv,o.tm,o.op,o.f.wEx (o.f.ex++[tE q.x])⟩::q.op.tail,tS q.x,false,q.dn⟩:=by
 subst ht;unfold mR;rw [aD (λe=>by rw [hk] at e;exact absurd e.1 (by decide)),aD (λe=>by rw [hk] at e;exact absurd e.1 (by decide)),aD (λe=>by rw [hk] at e;exact absurd e.1 (by decide)),aD (λe=>by rw [hk] at e;exact absurd e.1 (by decide)),aM ⟨hk,h⟩]
theorem ID {o:Ov} (ht:dN q=o) (hk:o.kd=5) (h:q.c.ac l [41]=true):mR l q=IB q.c.nx (fmv (o.f.wEx (o.f.ex++[tE q.x]))) (tS q.x) q:=by
 subst ht;unfold mR;rw [aD (λe=>by rw [hk] at e;exact absurd e.1 (by decide)),aD (λe=>by rw [hk] at e;exact absurd e.1 (by decide)),aD (λe=>by rw [hk] at e;exact absurd e.1 (by decide)),aD (λe=>by rw [hk] at e;exact absurd e.1 (by decide)),aD (λe=>absurd e.2 (nw h (by decide))),aM ⟨hk,h⟩]
theorem MJ (D:Rdy k q q' n ma r) (hk:1<=k) (ht:(dN q).lv=0):∃ v,kK 1 q'=⟨r,q.op,(v::q.x.1,q.x.2 || ma),true,false⟩/\(ma=false->Nok v n):=(D.mono hk (λe=>by omega)).red (by rw [ht];decide)
theorem TC (D:Rdy 7 q q' n ma r) (ht:(dN q).lv<7):dN (kK 7 q')=dN q:=by
 obtain ⟨v,e,_⟩:=D.red ht;rw [e];rfl
theorem bI1 (G:Tgd l) {o:Ov} (D:Rdy 1 q q' n m r) (S:Stop l 1 q') (h0:r.er=0) (ht:dN q=o) (hl:o.lv=0) (hk:o.kd=2\/o.kd=3) (h:r.ac l [41]=false):∃ q'',Rch l q' q''/\q''.c=r.fail l 8:=by
 obtain ⟨v,e,_⟩:=MJ D (aW 1) (by rw [ht];exact hl);have t2:dN (kK 1 q')=o:=by rw [e];exact ht
 have:=HL G (by rw [D.c];exact h0) D.rd D.dn (.inl S) (by
  rw [CW (by rw [t2];rcases hk with hk | hk <;> rw [hk] <;> intro e <;> exact absurd e (by decide)) (λ_=>by rw [show (kK 1 q').c=r from D.c];exact h) (by rw [t2];rcases hk with hk | hk <;> rw [hk] <;> intro e <;> exact absurd e (by decide)) (by rw [t2];rcases hk with hk | hk <;> rw [hk] <;> intro e <;> exact absurd e (by decide))];rfl)
 rw [D.c] at this;exact this
theorem cD7 (G:Tgd l) {o:Ov} (D:Rdy 7 q q' n m r) (S:Stop l 7 q') (h0:r.er=0) (ht:dN q=o) (hl:o.lv=0) (htm:o.tm=true) (hk:o.kd=4) (h:r.ac l [93]=false):∃ q'',Rch l q' q''/\q''.c=r.fail l 8:=by
 obtain ⟨v,e,_⟩:=MJ D (by decide) (by rw [ht];exact hl);have t2:dN (kK 1 q')=o:=by rw [e];exact ht
 have:=HL G (by rw [D.c];exact h0) D.rd D.dn (.inr ⟨S,by rw [D.top,ht];exact htm,by rw [TC D (by rw [ht,hl];decide),ht];exact htm⟩) (by
  rw [CW (by rw [t2,hk];intro e;exact absurd e (by decide)) (by rw [t2,hk];intro e;exact absurd e (by decide)) (λ_=>by rw [show (kK 1 q').c=r from D.c];exact h) (by rw [t2,hk];intro e;exact absurd e (by decide))];rfl)
 rw [D.c] at this;exact this
theorem bO2 (G:Tgd l) (h:r.ac l [99,111,117,110,116]=true) (h1:Gd l (.lev 1) ((r.nx.amS l).exS l [40]) x m r1) (i1:((r.nx.amS l).exS l [40]).er=0->Sim l (.lev 1) ((r.nx.amS l).exS l [40]) x m r1) :
 Sim l (.lev 5) r (mdN (((r.nx.amV l 18).wEx [.mk 1 [] (((r1.exS l [41]).exS l [62,61]).nbV l) []]).wAr [x.f])) (m || !x.fm) (((r1.exS l [41]).exS l [62,61]).nbS l):=by
 intro q hc hr hd C;subst hc;obtain ⟨c1,c2,c3,c4,c5⟩:=C.lo (by omega);have st:=WU hr (bG0 c1 c4) (WM h);have bad {z:Rq} (e:z.er≠0):((z.exS l [41]).exS l [62,61]).nbS l=z:=((Mq.exS.trans .exS).trans .nbS).er e;refine DK (c:=(q.c.nx.amS l).exS l [40]) hr hd (eX h) st (λhj=>?_) λhj R=>?_
 ·have:=CO h1 hj;subst this;rw [bad hj];exact .inl ⟨hj,_,.one (eX h) hd st,Z⟩
 ·have C2:Ctx l 1 (fR ⟨3,0,false,0,q.c.nx.amV l 18⟩ (q.at ((q.c.nx.amS l).exS l [40]))):=NS (o:=⟨3,0,false,0,q.c.nx.amV l 18⟩) (K:=3) (by decide) rfl rfl rfl (by decide) (show (0:Nat)<=5 by decide) (λ_=>(show (0:Nat)<1 by decide));rcases i1 hj (fR ⟨3,0,false,0,q.c.nx.amV l 18⟩ (q.at ((q.c.nx.amS l).exS l [40]))) rfl rfl hd C2 with ⟨e,q3,R3,c3⟩ | ⟨e,q3,R3,D3,S3⟩
  ·rw [bad e];exact .inl ⟨e,q3,R.trans R3,c3⟩
  ·cases ha:r1.ac l [41] with
   | false =>
    obtain ⟨q4,R4,c4⟩:=bI1 G D3 S3 e rfl rfl (.inr Z) ha;have hf:(r1.exS l [41]).er≠0:=by rw [NN ha];exact vM (by decide)
    have e2:((r1.exS l [41]).exS l [62,61]).nbS l=r1.fail l 8:=by
     rw [<-NN ha];exact (Mq.trans .exS .nbS).er hf
    rw [e2];exact .inl ⟨vM (by decide),q4,(R.trans R3).trans R4,c4⟩
   | true =>
    obtain ⟨v,ev,hn⟩:=MJ D3 (aW 1) rfl;have s4:lM l q3=_:=GZ D3.rd (by rw [D3.c];exact ha) (.inl Z);rw [ev,aK7 (o:=⟨3,0,false,0,q.c.nx.amV l 18⟩) rfl rfl ha] at s4;have R4:=(R.trans R3).trans (.one (by rw [D3.c];exact e) D3.dn s4);rw [NO ha]
    by_cases hz:((r1.nx.exS l [62,61]).nbS l).er=0
    ·refine .inr ⟨hz,_,R4,⟨Z,Z,Z,⟨[],_,Z,λp hp=>(by cases hp),Prod.ext Z ?_,λhm=>?_⟩,λe=>by omega⟩,⟨λ_ i _ _=>rfl,λ_ i _ _=>rfl,λ_ i _ _ _=>.inl Z,λj e _ _=>by omega⟩⟩
     ·show ((q.x.2 || m) || v.noF)=(q.x.2 || (m || !x.fm));rw [Bool.or_assoc,bB8 hn]
     ·have hm2:=orF hm;have hf:fF (v::q.x.1,q.x.2 || m)=x.f:=(hn hm2.1).f (by simpa using hm2.2);refine ⟨Z,λh=>(by cases h),Z,λ_=>?_⟩;show ((q.c.nx.amV l 18).wEx _).wAr [fF (v::q.x.1,q.x.2 || m)]=_;rw [hf];rfl
    ·exact .inl ⟨hz,_,R4,Z⟩
theorem bA0 (hp:∀ w op,(w,op)∈IV->r.ac l w=false) (hc:r.ac l [99,111,117,110,116]=false) (i1:Sim l (.lev 6) r x m r1):Sim l (.lev 5) r x m r1:=by
 intro q hq hr hd C;subst hq;obtain ⟨c1,c2,c3,c4,c5⟩:=C.lo (by omega);have C2:Ctx l 6 q:=⟨λe=>by omega,λ_=>⟨c1,c3,by omega⟩,λe=>by omega,λ_=>kX (.inr (aH2 hp hc)) λe=>absurd e c2⟩;rcases i1 q rfl hr hd C2 with ⟨e,q3,R3,c3⟩ | ⟨e,q3,R3,D3,S3⟩
 ·exact .inl ⟨e,q3,R3,c3⟩
 ·exact .inr ⟨e,q3,R3,D3.mono (by decide) (λe=>by omega),⟨λ_=>S3.s8 (by decide),λ_=>S3.s7 (by decide),λ_=>S3.s6 (by decide),λj e h1 h2=>by omega⟩⟩
theorem Ctx.to7 (C:Ctx l 6 q):Ctx l 7 q:=⟨λe=>by omega,λe=>by omega,λ_=>(C.c6 rfl).2.2,λ_=>C.hop (by decide)⟩
theorem bO4 (h:∀ i,16<=i->i<=21->r1.ac l (kO.getD i [])=false) (i1:Sim l (.lev 7) r x m r1):Sim l (.lev 6) r x m r1:=by
 intro q hq hr hd C;rcases i1 q hq hr hd C.to7 with ⟨e,q3,R3,c3⟩ | ⟨e,q3,R3,D3,S3⟩
 ·exact .inl ⟨e,q3,R3,c3⟩
 ·exact .inr ⟨e,q3,R3,D3.mono (by decide) (λ_=>by decide),⟨λ_=>S3.s8 (by decide),λ_=>S3.s7 (by decide),λ_ i h1 h2 ha=>(by rw [D3.c,h i h1 h2] at ha;cases ha),λj e h1 h2=>by omega⟩⟩
theorem bO3 (hi:16<=i/\i<=21) (h:r1.ac l (kO.getD i [])=true) (i1:Sim l (.lev 7) r x m r1) (i2:r1.nx.er=0->Sim l (.lev 7) r1.nx y m' r2) :
 Sim l (.lev 6) r (mdN (.mk 3 [] [] 0 0 [opB i [x.e,y.e]] [])) ((m || m') || (!x.tm || !y.tm)) r2:=by
 intro q hq hr hd C;obtain ⟨c1,c2,c3⟩:=C.c6 rfl;rcases i1 q hq hr hd C.to7 with ⟨e,q3,R3,c3⟩ | ⟨e,q3,R3,D3,S3⟩
 ·exact absurd (eX h) e
 ·obtain ⟨va,hs,hn⟩:=aY3 D3 hi C h;have R:=R3.trans (.one (by rw [D3.c];exact e) D3.dn hs);have C2:Ctx l 7 ⟨r1.nx,⟨8,6,false,UInt8.ofNat i,zF⟩::q.op,(va::q.x.1,q.x.2 || m),false,false⟩:=aB8 (by decide) (.inl (by show 6<7;decide)) (aA9 (by show 5<6;decide)) (by show (8:UInt8)≠5;decide);rcases i2 e _ rfl rfl rfl C2 with ⟨e',q4,R4,c4⟩ | ⟨e',q4,R4,D4,S4⟩
  ·exact .inl ⟨e',q4,R.trans R4,c4⟩
  ·refine .inr ⟨e',q4,R.trans R4,?_,⟨λ_=>S4.s8 (by decide),λ_=>S4.s7 (by decide),λ_ i h1 h2 ha=>.inr ?_,λj e h1 h2=>by omega⟩⟩
   ·refine D4.up rfl (aW 6) (by decide) c1.symm (λv hv=>⟨_,cK7.trans (Prod.ext rfl ?_),λhm=>?_⟩) (λe=>D4.wh (by decide))
    ·rw [bW1 hn hv,Bool.or_assoc]
    ·rw [Bool.or_assoc] at hm;have hm1:=orF hm;have hm2:=orF hm1.2;have hm3:=orF hm2.2;rw [(hn hm1.1).e (by simpa using hm3.1),(hv hm2.1).e (by simpa using hm3.2)];exact .md _
   ·rw [TC D4 (by show 6<7;decide)];rfl
theorem bN9 (h:r.ac l [45]=true) (i1:r.nx.er=0->Sim l (.lev 9) r.nx x m r1):Sim l (.lev 9) r (vlN (.mk 9 [] 0 [x.e])) (m || !x.tm) r1:=by
 intro q hq hr hd C;subst hq;have st:lM l q=fR ⟨10,9,false,0,zF⟩ (q.at q.c.nx):=by rw [tX hr,C.hop (by decide),TJ h]
 have R:=Rch.one (eX h) hd st;have C2:Ctx l 9 (fR ⟨10,9,false,0,zF⟩ (q.at q.c.nx)):=aB8 (by decide) (.inr (aW 9)) (aA9 (by show 5<9;decide)) (by show (10:UInt8)≠5;decide);rcases i1 (eX h:q.c.er=0) (fR ⟨10,9,false,0,zF⟩ (q.at q.c.nx)) rfl rfl hd C2 with ⟨e,q3,R3,c3⟩ | ⟨e,q3,R3,D3,S3⟩
 ·exact .inl ⟨e,q3,R.trans R3,c3⟩
 ·refine .inr ⟨e,q3,R.trans R3,?_,DF (by decide)⟩;refine D3.up (o:=⟨10,9,(dN q).tm,0,zF⟩) rfl (aW 9) (aW 9) rfl (λv hv=>⟨_,cE0.trans (Prod.ext rfl ?_),λhm=>?_⟩) (λe=>D3.wh (by decide))
  ·show ((q.x.2 || m) || !v.tm)=(q.x.2 || (m || !x.tm));rw [Bool.or_assoc,bB7 hv]
  ·have hm2:=orF hm;rw [(hv hm2.1).e (by simpa using hm2.2)];exact .vl' (by decide)
theorem bN6 (i1:Sim l (.lev 10) r x m r1):Sim l (.lev 9) r x m r1:=by
 intro q hq hr hd C;have C2:Ctx l 10 q:=⟨λe=>by omega,λe=>by omega,λe=>by omega,λ_=>C.hop (by decide)⟩;rcases i1 q hq hr hd C2 with ⟨e,q3,R3,c3⟩ | ⟨e,q3,R3,D3,S3⟩
 ·exact .inl ⟨e,q3,R3,c3⟩
 ·exact .inr ⟨e,q3,R3,D3.mono (by decide) (λ_=>by decide),DF (by decide)⟩
end
theorem ZP {a b:Str} (h:eA a=none):eA (a++[46]++b)=some (a,b):=by
 induction a with
 | nil=>rfl
 | cons c r ih =>
  rw [eA] at h
  by_cases hc:c=46
  ·rw [aM hc] at h;cases h
  ·rw [aD hc] at h;have h2:eA r=none:=yJ.1 h;show eA (c::(r++[46]++b))=_;rw [eA,aD hc,ih h2];rfl
section
variable {l:Tks} {q q' q'':Ps} {w w':Str} {c r r' r1 r2:Rq} {k i:Nat} {n x y a:Fn} {m m' ma b:Bool} {v u:Vl} {V:List Vl} {f:Fm}
theorem cK3 {o:Ov} (hq:dN q=o) (h1:o.lv=0) (h2:o.tm=true) (h5:o.kd=5->q.c.ac l [95]=false):Ctx l 7 q:=by
 subst hq;exact ⟨λe=>by omega,λe=>by omega,λ_=>by omega,λ_=>kX (.inl (cC9 h2)) h5⟩
theorem aG6 (G:Tgd l) {o:Ov} {N:Fn} {F:Ex->Vl} (hr:q.rd=false) (hd:q.dn=false) (h0:q.c.er=0) (st:lM l q=fR o (q.at c)) (hl:o.lv=0) (htm:o.tm=true) (hk:o.kd=4)
 (h1:Gd l (.lev 7) c x m r1) (i1:c.er=0->Sim l (.lev 7) c x m r1) (hF:∀ v:Vl,(F v.e).wh=false) (hN:(m || !x.tm)=false->Nok (F x.e) N)
 (hc:∀ q:Ps,dN q=o->q.c.ac l [93]=true->mR l q=IB q.c.nx (F (tE q.x)) (tS q.x) q):((r1.exS l [93]).er≠0/\∃ q',Rch l q q'/\q'.c=r1.exS l [93])\/((r1.exS l [93]).er=0/\∃ q',Rch l q q'/\Rdy 10 q q' N (m || !x.tm) (r1.exS l [93])/\Stop l 10 q'):=by
 have inh:o.inh (dN q).tm=o:=by unfold Ov.inh;rw [aD (by omega)]
 refine DK hr hd h0 st (λhj=>?_) λhj R=>?_
 ·have:=CO h1 hj;subst this;rw [UP hj];exact .inl ⟨hj,_,.one h0 hd st,Z⟩
 ·have ht:dN (fR o (q.at c))=o:=inh;have hop:(fR o (q.at c)).op=o::q.op:=by show Ov.inh _ _::_=_;rw [show dN (q.at c)=dN q from rfl,inh];rfl
  rcases i1 hj (fR o (q.at c)) rfl rfl hd (cK3 ht hl htm λe=>by rw [hk] at e;exact absurd e (by decide)) with ⟨e,q3,R3,c3⟩ | ⟨e,q3,R3,D3,S3⟩
  ·rw [UP e];exact .inl ⟨e,q3,R.trans R3,c3⟩
  ·cases ha:r1.ac l [93] with
   | false =>
    obtain ⟨q4,R4,c4⟩:=cD7 G D3 S3 e ht hl htm hk ha;rw [NN ha];exact .inl ⟨vM (by decide),q4,(R.trans R3).trans R4,c4⟩
   | true =>
    obtain ⟨v,ev,hn⟩:=MJ D3 (by decide) (by rw [ht];exact hl);have s4:lM l q3=_:=GZ D3.rd (by rw [D3.c];exact ha) (.inr (.inl Z));rw [ev,hop,hc _ rfl ha] at s4;rw [NO ha];refine .inr ⟨e,_,(R.trans R3).trans (.one (by rw [D3.c];exact e) D3.dn s4),?_,DF (by decide)⟩;have e2:(tS (v::q.x.1,q.x.2 || m))=(q.x.1,q.x.2 || (m || !x.tm)):=Prod.ext rfl (by show ((q.x.2 || m) || !v.tm)=_;rw [Bool.or_assoc,bB7 hn]);show Rdy 10 q ⟨r1.nx,q.op,((tS (v::q.x.1,q.x.2 || m)).put (F v.e)),true,false⟩ N _ _;rw [e2];refine TN (λhm=>?_) λ_=>hF v;have hm2:=orF hm;rw [(hn hm2.1).e (by simpa using hm2.2)];exact hN hm
theorem bO0 (G:Tgd l) (h:r.ac l [104,97,115]=true) (h1:Gd l (.lev 7) ((r.nx.paS l).exS l [91]) x m r1) (i1:((r.nx.paS l).exS l [91]).er=0->Sim l (.lev 7) ((r.nx.paS l).exS l [91]) x m r1) :
 Sim l (.lev 10) r (mdN ((r.nx.paV l 5).wEx [x.e])) (m || !x.tm) (r1.exS l [93]):=by
 intro q hq hr hd C;subst hq
 exact aG6 G (o:=⟨4,0,true,0,q.c.nx.paV l 5⟩) (F:=λe=>fmv ((q.c.nx.paV l 5).wEx [e])) hr hd (eX h) (by rw [tX hr,C.hop (by decide),TK h]) rfl rfl rfl h1 i1 (λ_=>rfl) (λ_=>.md _)
  (λq ht ha=>aK5 ht rfl (by show ¬ (0:UInt8)=6;decide) ha)
theorem bO1 (G:Tgd l) (h0:r.er=0) (hk:(tkf l r.i).k=1) (hd':r.nx.ac l [46]=true) (hb:(r.nx.nx.nmS l).ac l [91]=true) (h1:Gd l (.lev 7) (r.nx.nx.nmS l).nx x m r1) (i1:(r.nx.nx.nmS l).nx.er=0->Sim l (.lev 7) (r.nx.nx.nmS l).nx x m r1) :
 Sim l (.lev 10) r (vlN (.mk 6 (r.ful l) 0 [x.e])) (m || !x.tm) (r1.exS l [93]):=by
 intro q hq hr hd C;subst hq
 exact aG6 G (o:=⟨4,0,true,6,.mk 0 (q.c.ful l) [] 0 0 [] []⟩) (F:=λe=>tmv (.mk 6 (q.c.ful l) 0 [e])) hr hd h0 (by rw [tX hr,C.hop (by decide),HG hk,cF5 h0 hk hd' hb]) rfl rfl rfl h1 i1 (λ_=>rfl) (λ_=>.vl' (by decide))
  (λq ht ha=>aK6 ht rfl rfl ha)
theorem bN8 (G:Tgd l) (h:r.ac l [40]=true) (i1:r.nx.er=0->Sim l (.lev 1) r.nx x m r1):Sim l (.lev 10) r x m (r1.exS l [41]):=by
 intro q hq hr hd C;subst hq;have st:lM l q=fR ⟨2,0,false,0,zF⟩ (q.at q.c.nx):=by rw [tX hr,C.hop (by decide),TF h]
 have R:=Rch.one (eX h) hd st;have C2:Ctx l 1 (fR ⟨2,0,false,0,zF⟩ (q.at q.c.nx)):=NS (o:=⟨2,0,false,0,zF⟩) (K:=2) (by decide) rfl rfl rfl (by decide) (show (0:Nat)<=5 by decide) (λ_=>(show (0:Nat)<1 by decide));rcases i1 (eX h:q.c.er=0) (fR ⟨2,0,false,0,zF⟩ (q.at q.c.nx)) rfl rfl hd C2 with ⟨e,q3,R3,c3⟩ | ⟨e,q3,R3,D3,S3⟩
 ·rw [UP e];exact .inl ⟨e,q3,R.trans R3,c3⟩
 ·cases ha:r1.ac l [41] with
  | false =>
   obtain ⟨q4,R4,c4⟩:=bI1 G D3 S3 e rfl rfl (.inl Z) ha;rw [NN ha];exact .inl ⟨vM (by decide),q4,(R.trans R3).trans R4,c4⟩
  | true =>
   obtain ⟨v,ev,hn⟩:=MJ D3 (aW 1) rfl;have s4:lM l q3=_:=GZ D3.rd (by rw [D3.c];exact ha) (.inl Z);rw [ev,aK4 (o:=⟨2,0,false,0,zF⟩) rfl rfl ha] at s4;rw [NO ha];refine .inr ⟨e,_,(R.trans R3).trans (.one (by rw [D3.c];exact e) D3.dn s4),?_,DF (by decide)⟩;exact TN (v:=⟨v.tm,false,v.e,v.f⟩) (λhm=>⟨(hn hm).tm,(hn hm).e,(hn hm).fm,(hn hm).f⟩) λ_=>rfl
theorem bO5 (h:r.ac l [97,114,114,105,118,101,115]=true) (h0:((r.nx.paS l).exS l [40]).ac l [41]=false) (h1:Gd l (.arg (r.nx.paV l 7)) ((r.nx.paS l).exS l [40]) n m r1) (i1:((r.nx.paS l).exS l [40]).er=0->Sim l (.arg (r.nx.paV l 7)) ((r.nx.paS l).exS l [40]) n m r1) :
 Sim l (.lev 10) r n m r1:=by
 intro q hq hr hd C;subst hq;have st:lM l q=fR ⟨5,0,true,0,q.c.nx.paV l 7⟩ (q.at ((q.c.nx.paS l).exS l [40])):=by rw [tX hr,C.hop (by decide),KZ h,cL3 h0]
 refine DK hr hd (eX h) st (λhj=>?_) λhj R=>?_
 ·have:=CO h1 hj;subst this;exact .inl ⟨hj,_,.one (eX h) hd st,Z⟩
 ·have eq:fR ⟨5,0,true,0,q.c.nx.paV l 7⟩ (q.at ((q.c.nx.paS l).exS l [40]))=⟨(q.c.nx.paS l).exS l [40],⟨5,0,true,0,q.c.nx.paV l 7⟩::q.op,(q.x.1,q.x.2 || false),false,false⟩:=by
   rw [Bool.or_false];unfold fR Ps.at
   rw [hd];rfl
  rw [eq] at R;rcases i1 hj q.op q.x.1 q.x.2 false _ (λ_=>rfl) with ⟨e,q3,R3,c3⟩ | ⟨e,v,R3,hw,hn⟩
  ·exact .inl ⟨e,q3,R.trans R3,c3⟩
  ·exact .inr ⟨e,_,R.trans R3,TN (λhm=>hn hm) λ_=>hw,DF (by decide)⟩
theorem bO7 (h:r.ac l [95]=true) (i1:r.nx.er=0->Sim l (.aft (f.wEx (f.ex++[zE]))) r.nx n m r1):Sim l (.arg f) r n m r1:=by
 intro O V b ma f' hf
 have st:lM l ⟨r,⟨5,0,true,0,f'⟩::O,(V,b || ma),false,false⟩=⟨r.nx,⟨5,0,true,0,f'⟩::O,(⟨true,true,zE,zF⟩::V,b || ma),true,false⟩:=by
  rw [tX rfl]
  have e:xL l ⟨r,⟨5,0,true,0,f'⟩::O,(V,b || ma),false,false⟩=jA ⟨true,true,zE,zF⟩ ⟨r.nx,⟨5,0,true,0,f'⟩::O,(V,b || ma),false,false⟩:=by
   unfold xL;rw [aM ⟨Z,h⟩];rfl
  exact e
 have R:=Rch.one (eX h) rfl st;rcases i1 (eX h:r.er=0) ⟨r.nx,⟨5,0,true,0,f'⟩::O,(⟨true,true,zE,zF⟩::V,b || ma),true,false⟩ O V ⟨true,true,zE,zF⟩ b (b || ma) ma f' rfl rfl rfl rfl rfl rfl (by rw [show (!(⟨true,true,zE,zF⟩:Vl).tm)=false from rfl,Bool.or_false]) (λhm=>by rw [hf hm]) (.inr rfl) with ⟨e,q3,R3,c3⟩ | ⟨e,v,R3,hw,hn⟩
 ·exact .inl ⟨e,q3,R.trans R3,c3⟩
 ·exact .inr ⟨e,v,R.trans R3,hw,hn⟩
theorem bO8 (h:r.ac l [95]=false) (h2:Gd l (.aft (f.wEx (f.ex++[x.e]))) r1 n m' r2) (h0:r.er=0) (i1:Sim l (.lev 7) r x m r1) (i2:r1.er=0->Sim l (.aft (f.wEx (f.ex++[x.e]))) r1 n m' r2):Sim l (.arg f) r n ((m || !x.tm) || m') r2:=by
 intro O V b ma f' hf;rcases i1 ⟨r,⟨5,0,true,0,f'⟩::O,(V,b || ma),false,false⟩ rfl rfl rfl (cK3 (o:=⟨5,0,true,0,f'⟩) rfl rfl rfl λ_=>h) with ⟨e,q3,R3,c3⟩ | ⟨e,q3,R3,D3,S3⟩
 ·have:=CO h2 e;subst this;exact .inl ⟨e,q3,R3,c3⟩
 ·obtain ⟨v,ev,hn⟩:=MJ D3 (by decide) rfl;have t7:=TC D3 (show (0:Nat)<7 by decide)
  rcases i2 e q3 O V v b ((b || ma) || m) (ma || (m || !x.tm)) f' D3.c D3.rd D3.dn D3.top (by rw [t7];rfl) ev (by
   show (((b || ma) || m) || !v.tm)=_;rw [Bool.or_assoc,bB7 hn,Bool.or_assoc]) (λhm=>by
   have hm1:=orF hm;have hm2:=orF hm1.2;rw [hf hm1.1,(hn hm2.1).e (by simpa using hm2.2)]) (.inl S3) with ⟨e',q4,R4,c4⟩ | ⟨e',u,R4,hw,hu⟩
  ·exact .inl ⟨e',q4,R3.trans R4,c4⟩
  ·refine .inr ⟨e',u,R3.trans ?_,hw,λhm=>hu ?_⟩
   ·rw [Bool.or_assoc] at R4;exact R4
   ·rw [Bool.or_assoc];exact hm
theorem bP0 (h:r.ac l [44]=true) (i1:r.nx.er=0->Sim l (.arg f) r.nx n m r1):Sim l (.aft f) r n m r1:=by
 intro q O V v b bb ma f' hc hr hd ht ht7 ev hb hf S;subst hc;have s4:lM l q=_:=GZ hr h (.inr (.inr Z));rw [ev,IC (q:=⟨q.c,⟨5,0,true,0,f'⟩::O,(v::V,bb),true,false⟩) (o:=⟨5,0,true,0,f'⟩) rfl rfl h] at s4;have R:=Rch.one (eX h) hd s4;have eq:(⟨q.c.nx,⟨5,0,true,0,f'.wEx (f'.ex++[v.e])⟩::O,(V,bb || !v.tm),false,false⟩:Ps)=⟨q.c.nx,⟨5,0,true,0,f'.wEx (f'.ex++[v.e])⟩::O,(V,b || ma),false,false⟩:=by rw [hb]
 have R2:Rch l q ⟨q.c.nx,⟨5,0,true,0,f'.wEx (f'.ex++[v.e])⟩::O,(V,b || ma),false,false⟩:=by rw [<-eq];exact R
 rcases i1 (eX h:q.c.er=0) O V b ma _ hf with ⟨e,q3,R3,c3⟩ | ⟨e,u,R3,hw,hn⟩
 ·exact .inl ⟨e,q3,R2.trans R3,c3⟩
 ·exact .inr ⟨e,u,R2.trans R3,hw,hn⟩
theorem bO9 (G:Tgd l) (h:r.ac l [44]=false) (h0:r.er=0):Sim l (.aft f) r (mdN f) false (r.exS l [41]):=by
 intro q O V v b bb ma f' hc hr hd ht ht7 ev hb hf S;subst hc
 have S7:Stop l 7 q:=by
  rcases S with S | S
  ·exact S
  ·exact ⟨λ_ _ _ _=>S,λ_ _ _ _=>S,λe=>by omega,λj e _ _=>by omega⟩
 cases ha:q.c.ac l [41] with
 | false =>
  have t2:dN (kK 1 q)=⟨5,0,true,0,f'⟩:=by rw [ev];rfl
  have:=HL G h0 hr hd (.inr ⟨S7,ht,ht7⟩) (by
   rw [CW (q:=kK 1 q) (by rw [t2];intro e;exact absurd (show (5:UInt8)=_ from e) (by decide)) (λ_=>ha) (by rw [t2];intro e;exact absurd (show (5:UInt8)=_ from e) (by decide)) (λ_=>h)];rfl)
  rw [NN ha];exact .inl ⟨vM (by decide),this⟩
 | true =>
  have s4:lM l q=_:=GZ hr ha (.inl Z);rw [ev,ID (q:=⟨q.c,⟨5,0,true,0,f'⟩::O,(v::V,bb),true,false⟩) (o:=⟨5,0,true,0,f'⟩) rfl rfl ha] at s4;have R:=Rch.one h0 hd s4;rw [NO ha];refine .inr ⟨h0,fmv (f'.wEx (f'.ex++[v.e])),?_,Z,λhm=>?_⟩
  ·rw [Bool.or_false,<-hb];exact R
  ·rw [Bool.or_false] at hm;rw [hf hm];exact .md _
theorem QQ (G:Tgd l) (h0:r.er=0) (hk:(tkf l r.i).k=1):eA (r.nmV l)=none:=by rw [bC8 h0 hk];exact G.nm _ hk
theorem sim (G:Tgd l) {nt:Nt} (g:Gd l nt r n m r'):r.er=0->Sim l nt r n m r':=by
 have leaf {r c:Rq} {v:Vl} {n:Fn} (h0:r.er=0) (e:∀ q:Ps,q.c=r->qO l q=jA v (q.at c)) (hn:Nok v n) (hw:v.wh=false):Sim l (.lev 10) r n false c:=by
  intro q hq hr hd C;subst hq;exact aZ8 hr hd h0 C (e q rfl) hn hw
 induction g with
 | seq hk h1 h2 i1 i2=>exact λh0=>bN5 hk h2 i1 i2 h0
 | outJ hk h=>exact aZ6 hk h
 | outA hk h=>exact aZ7 hk h
 | join hk h h1 h2 i1 i2=>exact λ_=>aZ9 hk h h1 h2 i1 i2
 | ari hk h h1 h2 i1 i2=>exact λ_=>bO6 hk h h2 i1 i2
 | pre hp h h1 i1=>exact λ_=>bN7 hp h h1 i1
 | cnt h h1 i1=>exact λ_=>bO2 G h h1 i1
 | cmp0 hp hc h1 i1=>exact λh0=>bA0 hp hc (i1 h0)
 | cm0 h1 h i1=>exact λh0=>bO4 h (i1 h0)
 | cm1 hi h1 h h2 i1 i2=>exact λh0=>bO3 hi h (i1 h0) i2
 | neg h h1 i1=>exact λ_=>bN9 h i1
 | pri h h1 i1=>exact λh0=>bN6 (i1 h0)
 | bad h=>exact λh0=>absurd h0 h
 | num h hk=>exact λh0=>leaf h0 (λq e=>by subst e;exact TG hk) (.vl' (by decide)) rfl
 | now h=>exact λh0=>leaf h0 (λq e=>by subst e;exact TH h) (.vl' (by decide)) rfl
 | tru h=>exact λh0=>leaf h0 (λq e=>by subst e;exact TD h) (.md _) rfl
 | fal h=>exact λh0=>leaf h0 (λq e=>by subst e;exact TM h) (.md _) rfl
 | flg h=>exact λh0=>leaf h0 (λq e=>by subst e;exact TL h) (.md _) rfl
 | has h h1 i1=>exact λ_=>bO0 G h h1 i1
 | arr0 h h1=>exact λh0=>leaf h0 (λq e=>by subst e;rw [KZ h];exact cL4 h1) (.md _) rfl
 | arr h h0 h1 i1=>exact λ_=>bO5 h h0 h1 i1
 | siz h=>exact λh0=>leaf h0 (λq e=>by subst e;exact TE h) (.vl' (by decide)) rfl
 | par h h1 i1=>exact λ_=>bN8 G h i1
 | nam0 h hk hd=>exact λh0=>leaf h0 (λq e=>by subst e;rw [HG hk,cF7 h hk hd]) (.vl (.inr (QQ G h hk))) rfl
 | @nam1 r h hk hd hb =>
  intro h0;have hs:eA (r.ful l)=some (r.nmV l,r.nx.nx.nmV l):=by unfold Rq.ful;rw [WW h hk];exact ZP (QQ G h hk)
  refine leaf (v:=tmv (.mk 5 (r.ful l) 0 [])) h0 (λq e=>by subst e;rw [HG hk,cF6 h hk hd hb]) ⟨Z,λ_=>rfl,?_,λ_=>?_⟩ rfl
  ·show true=!(true && (!decide ((5:UInt8)=5) || (eA (r.ful l)).isNone));rw [hs];rfl
  ·show Fm.mk 4 (spA (r.ful l)) (spB (r.ful l)) 0 0 [] []=_;unfold spA spB;rw [hs]
 | get h hk hd hb h1 i1=>exact λ_=>bO1 G h hk hd hb h1 i1
 | non h h0 h3 h1 hw =>
  intro _ q hq hr hd C;subst hq;have st:lM l q=q.at (q.c.fail l 8):=by rw [tX hr,C.hop (by decide),TI h0 h3 h1 hw]
  exact .inl ⟨vM (by decide),_,.one h hd st,Z⟩
 | arU h h1 i1=>exact λ_=>bO7 h i1
 | arT h h1 h2 i1 i2=>exact λh0=>bO8 h h2 h0 (i1 h0) i2
 | afC h h1 i1=>exact λ_=>bP0 h i1
 | afE h=>exact λh0=>bO9 G h h0
def zB (l:Tks) (r:Rq):Rq:=if r.er=0/\(tkf l r.i).k≠0 then r.fail l 8 else r
def CG (l:Tks) (n:Fn) (m:Bool) (r:Rq):Fm × Nat × Nat :=
 if ¬ (zB l r).er=0 then (zF,(zB l r).off,(zB l r).er)
 else if m || !n.fm then (zF,0,6)
 else if ¬ fH n.f=0 then (zF,0,fH n.f)
 else (n.f,0,0)
theorem AF {N:Nat} (h:Rch l q q') (hf:q'.fin) (hN:(CE l N q).fin):CE l N q=q':=by
 obtain ⟨k,e⟩:=h;have e1:=KY (l:=l) k N q;have e2:=KY (l:=l) N k q;rw [e,TB hf] at e1;rw [TB hN] at e2;rw [<-e2,Nat.add_comm,e1]
theorem bZ4 (G:Tgd l) (hl:0<l.length) (g:Gd l (.lev 1) ⟨0,0,0⟩ n m r):wQ l=CG l n m r:=by
 have F:=KX G.last l.length NE (SM hl) (by show l.length<=0+_;omega);have C:Ctx l 1 NE:=NS (o:=bO) (K:=1) (by decide) rfl rfl rfl (by decide) (by decide) (λ_=>by decide)
 have bad:∀ q':Ps,Rch l NE q'->q'.c.er≠0->q'.c=zB l r->wQ l=CG l n m r:=λq' h e ec=>by
  unfold wQ CG IA;rw [AF h (.inr e) F.1,aM e,ec,aM (by rw [<-ec];exact e)]
 rcases sim G g rfl NE rfl rfl rfl C with ⟨e,q3,R3,c3⟩ | ⟨e,q3,R3,D3,S3⟩
 ·exact bad q3 R3 (by rw [c3];exact e) (by rw [c3];unfold zB;rw [aD (λh=>e h.1)])
 ·obtain ⟨v,ev,hn⟩:=MJ D3 (aW 1) rfl
  by_cases hk:(tkf l r.i).k=0
  ·have s4:lM l q3=mR l (kK 1 q3):=by
    have no {w:Str}:q3.c.is l w=false:=by
     unfold Rq.is;rw [D3.c,hk];rfl
    rw [zJ D3.rd];unfold fQ;have:q3.c.sym l=none:=by unfold Rq.sym;rw [D3.c,aD (by rw [hk];decide)]
    rw [this];show qV l q3=_;unfold qV;rw [aD (by unfold Rq.wrd;rw [no,no,no,no];decide),aM (by unfold Rq.endB;rw [D3.c,hk];simp)]
   have s5:mR l (kK 1 q3)=⟨r,[bO],([v],false || m),true,true⟩:=by
    rw [ev];unfold mR;rw [aM ⟨Z,hk⟩];rfl
   have R:=R3.trans (.one (by rw [D3.c];exact e) D3.dn (s4.trans s5));have er:zB l r=r:=by unfold zB;rw [aD (λh=>h.2 hk)]
   unfold wQ CG IA;have ne:¬ ¬ r.er=0:=by rw [e];decide
   rw [AF R (.inl Z) F.1,er,aD ne];rw [aD ne]
   have e1:(fS ([v],false || m)).2=(m || !n.fm):=by
    show ((false || m) || v.noF)=_;rw [aL,bB8 hn]
   show (if (fS ([v],false || m)).2=true then _ else if ¬ fH v.fm=0 then (zF,0,fH v.fm) else (v.fm,0,0))=_;rw [e1];cases hb:(m || !n.fm) with
   | true=>rfl
   | false =>
    have h2:=orF hb;rw [(hn h2.1).f (by simpa using h2.2)]
  ·have t2:dN (kK 1 q3)=bO:=by rw [ev];rfl
   obtain ⟨q4,R4,c4⟩:=HL G (by rw [D3.c];exact e) D3.rd D3.dn (.inl S3) (by
    rw [CW (q:=kK 1 q3) (λ_=>by rw [show (kK 1 q3).c=r from D3.c];exact hk) (by rw [t2];intro e;exact absurd e (by decide)) (by rw [t2];intro e;exact absurd e (by decide)) (by rw [t2];intro e;exact absurd e (by decide))];rfl)
   have er:zB l r=r.fail l 8:=by unfold zB;rw [aM ⟨e,hk⟩]
   exact bad q4 (R3.trans R4) (by rw [c4];exact vM (by decide)) (by rw [c4,er,D3.c])
end
end Go.Proofs.YtidclioghdbphaaGreatDoor
namespace Go.Sx
open Go.RowKit Go.Par
section
variable {dfs:List Deferred} {P:Program} {n:Nat} {L:Sl} {H:Hp} {w0:World} {bs:List Res} {Q:Exit->Act->World->Prop} {ops:Array Oper} {K:Act->World->Prop}
def exN (K:Act->World->Prop) (Q:Exit->Act->World->Prop):Exit->Act->World->Prop:=λe=>match e with | .normal=>K | e=>Q e
theorem At.nx (h:At dfs n L H w0 bs K):At dfs n L H w0 bs (wpList P ops (exN K Q) []):=nil h
theorem At.ae {listed:Array Bool} (hr:Region.ready .any ops listed=[]) (h:At dfs n L H w0 bs (Q .normal)):At dfs n L H w0 bs (wpAny P .any ops Q 0 listed):=cE8 hr h
end
inductive Ty where
 | int (k:IntKind)
 | bool
 | strg
 | seq (τ:Ty)
 | str (fs:List Ty)
 | arr (n:Nat) (τ:Ty)
mutual
def Ty.cells:Ty->Nat
 | .int _=>1
 | .bool=>1
 | .strg=>1
 | .seq _=>1
 | .str fs=>Ty.cellsL fs
 | .arr n τ=>n * Ty.cells τ
def Ty.cellsL:List Ty->Nat
 | []=>0
 | τ::r=>Ty.cells τ+Ty.cellsL r
end
mutual
def Ty.at (P:Program):Ty->TypeId->Bool
 | .int k,t=>match P.underlying t with | some (.int k')=>decide (k'=k) | _=>false
 | .bool,t=>match P.underlying t with | some .bool=>true | _=>false
 | .strg,t=>match P.underlying t with | some .string=>true | _=>false
 | .seq τ,t=>match P.underlying t with | some (.slice e)=>Ty.at P τ e && decide (P.cellsOf e=Ty.cells τ) && decide (0<Ty.cells τ) | _=>false
 | .str fs,t=>match P.underlying t with | some (.struct g)=>decide (P.cellsOf t=Ty.cellsL fs) && Ty.atL P fs g.toList 0 | _=>false
 | .arr n τ,t=>match P.underlying t with | some (.array m e)=>decide (m=n) && Ty.at P τ e && decide (P.cellsOf e=Ty.cells τ) && decide (P.cellsOf t=n * Ty.cells τ) | _=>false
def Ty.atL (P:Program):List Ty->List Field->Nat->Bool
 | [],[],_=>true
 | τ::r,f::g,o=>Ty.at P τ f.type && decide (f.offset=o) && decide (P.cellsOf f.type=Ty.cells τ) && Ty.atL P r g (o+Ty.cells τ)
 | _,_,_=>false
end
mutual
def Ty.has:Ty->D->Prop
 | .int k,d=>∃ n,d=.val (.int k n)/\(Lit.int k n).wf=true
 | .bool,d=>∃ b,d=.val (.bool b)
 | .strg,d=>∃ s:ByteArray,d=.any (.string s)
 | .seq τ,d=>∃ ds,d=.seq (Ty.cells τ) ds/\∀ x∈ds,Ty.has τ x
 | .str fs,d=>∃ ds,d=.str ds/\Ty.hasL fs ds
 | .arr _ _,_=>False
def Ty.hasL:List Ty->List D->Prop
 | [],ds=>ds=[]
 | τ::r,ds=>∃ d q,ds=d::q/\Ty.has τ d/\Ty.hasL r q
end
mutual
def Ty.pln:Ty->Bool
 | .int _=>true
 | .bool=>true
 | .strg=>true
 | .seq _=>false
 | .str fs=>Ty.plnL fs
 | .arr _ τ=>Ty.pln τ
def Ty.plnL:List Ty->Bool
 | []=>true
 | τ::r=>Ty.pln τ && Ty.plnL r
end
def aR9 (W:World):Hp:=⟨λb=>W.heap[b]?,0⟩
theorem bK6 (W:World):Agr (aR9 W) W:=⟨λ_ _ h=>h,aP _⟩
mutual
theorem Ty.plain:∀ (τ:Ty) (d:D),Ty.has τ d->d.txt=false
 | .int k,d,h=>by
  unfold Ty.has at h;obtain ⟨n,rfl,_⟩:=h
  rfl
 | .bool,d,h=>by
  unfold Ty.has at h;obtain ⟨n,rfl⟩:=h
  rfl
 | .strg,d,h=>by
  unfold Ty.has at h;obtain ⟨n,rfl⟩:=h
  rfl
 | .seq τ,d,h=>by
  unfold Ty.has at h;obtain ⟨ds,rfl,h⟩:=h;show D.txtL ds=false;rw [D.txtL_any,List.any_eq_false];intro x hx;rw [Ty.plain τ x (h x hx)]
  decide
 | .str fs,d,h=>by
  unfold Ty.has at h;obtain ⟨ds,rfl,h⟩:=h;exact Ty.plainL fs ds h
 | .arr n τ,d,h=>by
  unfold Ty.has at h;exact h.elim
theorem Ty.plainL:∀ (fs:List Ty) (ds:List D),Ty.hasL fs ds->D.txtL ds=false
 | [],ds,h=>by
  unfold Ty.hasL at h;subst h
  rfl
 | τ::r,ds,h=>by
  unfold Ty.hasL at h;obtain ⟨d,q,rfl,h1,h2⟩:=h;rw [D.txtL,Ty.plain τ d h1,Ty.plainL r q h2]
  rfl
end
section
variable {H:Type} {enc:TypeId × Value->H} {P:Program} {base:Nat} {sp:Nat->Bool} {held:Bool}
mutual
def KL:DataW H->List Value
 | .lit (.int k n)=>[.int k n]
 | .lit (.bool b)=>[.bool b]
 | .lit (.string l)=>[.string ⟨l.toArray⟩]
 | .agg ps=>CS ps
 | _=>[]
def CS:List (DataW H)->List Value
 | []=>[]
 | d::r=>KL d++CS r
end
mutual
theorem Ty.flat (W:World):∀ (τ:Ty) (t:TypeId) (fuel:Nat) (cs:List Value) (x:DataW H × List MemPlace),Ty.at P τ t=true->Ty.pln τ=true->DataW.trod enc P W base sp held fuel t cs=some x->cs=KL x.1
 | .int k,t,fuel,cs,x,ha,_,h=>by
  unfold Ty.at at ha
  split at ha
  ·rename_i k' hu;obtain ⟨n,rfl,rfl,hw⟩:=DataW.trod_int hu h;simp only [KL]
  ·cases ha
 | .bool,t,fuel,cs,x,ha,_,h=>by
  unfold Ty.at at ha
  split at ha
  ·rename_i hu;obtain ⟨b,rfl,rfl⟩:=DataW.trod_bool hu h;simp only [KL]
  ·cases ha
 | .strg,t,fuel,cs,x,ha,_,h=>by
  unfold Ty.at at ha
  split at ha
  ·rename_i hu;obtain ⟨s,rfl,rfl,_⟩:=DataW.trod_string hu h;simp only [KL]
  ·cases ha
 | .seq _,_,_,_,_,_,ho,_=>by simp [Ty.pln] at ho
 | .str fs,t,fuel,cs,x,ha,ho,h=>by
  unfold Ty.at at ha
  split at ha
  ·rename_i g hu;simp only [aC,aA] at ha;unfold Ty.pln at ho;obtain ⟨xs,n,_,rfl,hl,hlen,hf⟩:=DataW.trod_struct hu h;have h2:=Ty.flatL W fs g.toList 0 n cs xs ha.2 ho (by rw [hl,ha.1];omega) (by simpa using hlen) (λi f hi=>hf i f (by simpa using hi));simpa [KL] using h2
  ·cases ha
 | .arr k τ,t,fuel,cs,x,ha,ho,h=>by
  unfold Ty.at at ha
  split at ha
  ·rename_i m e hu;simp only [aC,aA] at ha;obtain ⟨⟨⟨hm,ha⟩,hz⟩,hct⟩:=ha;subst hm;unfold Ty.pln at ho;obtain ⟨xs,n,_,rfl,hl,hlen,hf⟩:=DataW.trod_array hu h
   have key:∀ (xs:List (DataW H × List MemPlace)) (cs:List Value),cs.length=xs.length * Ty.cells τ->(∀ i,i<xs.length->DataW.trod enc P W base sp held n e ((cs.drop (i * Ty.cells τ)).take (Ty.cells τ))=xs[i]?)->cs=CS (xs.map (·.1)):=by
    intro xs;induction xs with
    | nil=>intro cs hc _;simp at hc;simp [hc,CS]
    | cons y r ih =>
     intro cs hc hi;have h0:=hi 0 (by simp);simp only [pV,nO,List.getElem?_cons_zero] at h0;have e0:=Ty.flat W τ e n _ y ha ho h0
     have e1:=ih (cs.drop (Ty.cells τ)) (by rw [cS,hc,aK,iU];omega) (λi hlt=>by
      have:=hi (i+1) (by simp;omega);rw [List.getElem?_cons_succ] at this;rw [<-this,fC,show Ty.cells τ+i * Ty.cells τ=(i+1) * Ty.cells τ by rw [iU];omega])
     simp only [eT,CS];rw [<-e0,<-e1,eU]
   have h2:=key xs cs (by rw [hl,hct,hlen]) (λi hlt=>by
    have:=hf i (by omega);rw [hz] at this;exact this)
   simpa [KL] using h2
  ·cases ha
theorem Ty.flatL (W:World):∀ (fs:List Ty) (g:List Field) (o n:Nat) (cs:List Value) (xs:List (DataW H × List MemPlace)),Ty.atL P fs g o=true->Ty.plnL fs=true->cs.length=o+Ty.cellsL fs->xs.length=g.length ->
 (∀ (i:Nat) f,g[i]? = some f->DataW.trod enc P W base sp held n f.type ((cs.drop f.offset).take (P.cellsOf f.type))=xs[i]?)->cs.drop o=CS (xs.map (·.1))
 | [],[],o,n,cs,xs,_,_,hl,hx,_=>by
  obtain rfl:=bK hx;simp only [wJ,CS];exact iK (by simp only [Ty.cellsL] at hl;omega)
 | [],_::_,_,_,_,_,ha,_,_,_,_=>by simp [Ty.atL] at ha
 | _::_,[],_,_,_,_,ha,_,_,_,_=>by simp [Ty.atL] at ha
 | τ::r,f::g,o,n,cs,[],ha,ho,hl,hx,hf=>by simp at hx
 | τ::r,f::g,o,n,cs,y::xs,ha,ho,hl,hx,hf=>by
  unfold Ty.atL at ha;unfold Ty.plnL at ho;simp only [aC,aA] at ha ho;obtain ⟨⟨⟨a1,a2⟩,a3⟩,a4⟩:=ha;have hy:=hf 0 f rfl;rw [a2,a3,List.getElem?_cons_zero] at hy;have e0:=Ty.flat W τ f.type n _ y a1 ho.1 hy;unfold Ty.cellsL at hl
  have e1:=Ty.flatL W r g (o+Ty.cells τ) n cs xs a4 ho.2 (by omega) (by simpa using hx) (λi f' hi=>by
   have:=hf (i+1) f' (by simpa using hi);rw [List.getElem?_cons_succ] at this;exact this)
  simp only [eT,CS];rw [<-e0,<-e1,<-fC,eU]
end
end
variable {W:World} {g:Nat} {t:TypeId}
theorem CM {P:Program} {name:String} {dat:DataW Unit} {rest:List (String × DataW Unit)} (τ:Ty) (cs:List Value)
 (hg:P.globalNamed name=some g) (hty:(P.globals[g]?).map (·.type)=some t) (ha:Ty.at P τ t=true) (hp:Ty.pln τ=true) (hc:KL dat=cs) (h:laidMet P ((name,dat)::rest) W):kU (aR9 W) g 0 cs:=by
 obtain ⟨ps,⟨g',t',cs',fuel,p,q,hg',ht',hvar,hd,_,_⟩,_⟩:=h;obtain rfl:=bH (hg.symm.trans hg');obtain rfl:=bH (hty.symm.trans ht');have e:=Ty.flat W τ t fuel cs'.toList _ ha hp hd;dsimp only at e;rw [hc] at e;unfold World.var? at hvar;rw [hg] at hvar;simp only [iY] at hvar
 split at hvar
 ·rename_i arr T m hb;refine ⟨arr,T,m,hb,λj u hu=>?_⟩;obtain rfl:=bH hvar;rw [dT];rw [<-e] at hu;simpa using hu
 ·cases hvar
end Go.Sx
/- Drawn regions with several heavy operations that do not wait for one another: the light ones are decided as early as they can, the heavy ones in every order. -/
namespace Go.Sx
open Go.RowKit Go.Par
inductive Pi0 where
 | done
 | no
 | light (i:Nat) (r:Pi0)
 | alt (i k:Nat) (r q:Pi0)
inductive PlT where
 | done
 | no
 | light (i:Nat) (o:Oper) (r:PlT)
 | alt (i k:Nat) (o:Oper) (r q:PlT)
def wM (l:List Oper):Pi0->PlT
 | .done=>.done
 | .no=>.no
 | .light i r=>.light i l[i]! (wM l r)
 | .alt i k r q=>.alt i k l[i]! (wM l r) (wM l q)
def okT (ops:Array Oper) (n:Nat):List Nat->List Nat->Pi0->Bool
 | D,A,.done=>A.isEmpty && (List.range n).all λj=>D.contains j
 | D,A,.no=>!A.isEmpty && (List.range n).all λj=>D.contains j || A.contains j || A.any λi=>mH ops n j i
 | D,A,.light i r=>A.isEmpty && decide (i<n) && !D.contains i && ((List.range n).all λj=>!Region.waitsFor .any ops i j || D.contains j) && okT ops n (i::D) [] r
 | D,A,.alt i k r q=>decide (i<n) && !D.contains i && ((List.range n).all λj=>!Region.waitsFor .any ops i j || D.contains j) && (!(k == 1) || D.all λj=>mH ops n i j) && okT ops n (i::D) [] r && okT ops n D (i::A) q
section
variable {dfs:List Deferred} {P:Program} {ops:Array Oper} {w0:World} {n N:Nat}
def fU (dfs:List Deferred) (P:Program) (ops:Array Oper) (n:Nat) (w0:World) (N:Nat) (E:Sl->Hp->List Res->Prop):PlT->List (Nat × Oper × Value)->Sl->Hp->List Res->Prop
 | .done,_,L,H,bs=>E L H bs
 | .no,_,_,_,_=>True
 | .light i o r,pa,L,H,bs=>∃ v,(∀ a W,Fr dfs N L a->St H w0 bs W->Yq P ops o v a W)/\(∀ t,o.dst=some t->t<N)/\fU dfs P ops n w0 N E r ((i,o,v)::pa) (putL o.dst v L) H bs
 | .alt i k o r q,pa,L,H,bs=>((∀ t,o.dst=some t->t<N)/\At dfs N L H w0 bs (one P ops (λ_ _ _=>False) o λa' W'=>∃ v H' bs',Fr dfs N (putL o.dst v L) a'/\St H' w0 bs' W'/\(k=1\/(∀ W,St H' w0 bs' W->St H w0 bs W)\/iX dfs P ops n w0 N L H' bs' i pa)/\fU dfs P ops n w0 N E r pa (putL o.dst v L) H' bs'))/\fU dfs P ops n w0 N E q pa L H bs
structure GT (dfs:List Deferred) (P:Program) (ops:Array Oper) (l:List Oper) (w0:World) (n N:Nat) (a0:Act) (E:Sl->Hp->List Res->Prop) (listed:Array Bool) (a:Act) (W:World) (val:Nat->Value) (dec:Nat->Bool) (D:List Nat) (L:Sl) (H:Hp) (bs:List Res) (pa:List (Nat × Oper × Value)):Prop where
 head:HeadInv .any ops n listed
 frame:a=frm ops val (st listed) n a0
 full:Fr dfs N L (frm ops val dec n a0)
 sub:∀ i,i<n->st listed i=true->dec i=true
 world:St H w0 bs W
 light:∀ i o,i<n->ops[i]? = some o->dec i=true->st listed i=false->∀ W,St H w0 bs W->Yq P ops o (val i) (frm ops val dec n a0) W
 past:∀ i o,i<n->ops[i]? = some o->dec i=true->st listed i=false->(i,o,val i)∈pa
 set:∀ j,dec j=D.contains j
 deps:∀ i j,i<n->j<n->dec i=true->Region.waitsFor .any ops i j=true->dec j=true
variable {l:List Oper} {a0:Act} {E:Sl->Hp->List Res->Prop} {Q:Exit->Act->World->Prop} {listed:Array Bool} {a:Act} {W:World} {val:Nat->Value} {dec:Nat->Bool} {D A:List Nat} {L:Sl} {H:Hp} {bs:List Res} {pa:List (Nat × Oper × Value)}
theorem KT {i:Nat} (h:∀ j,dec j=D.contains j):∀ j,upd dec i true j=(i::D).contains j:=λj=>by
 by_cases e:j=i
 ·subst e;rw [gW];simp
 ·rw [dY _ _ e,h j,List.contains_cons];have:(j == i)=false:=by simpa using e
  rw [this];simp
theorem GN {i:Nat} (h:((List.range n).all λj=>!Region.waitsFor .any ops i j || D.contains j)=true) {j:Nat} (hj:j<n) (hw:Region.waitsFor .any ops i j=true):D.contains j=true:=by
 have:=bC.1 h j (bU.2 hj);rw [hw] at this;simpa using this
theorem GT.decide (F:Fit ops n []) {i:Nat} {o:Oper} (I:GT dfs P ops l w0 n N a0 E listed a W val dec D L H bs pa) (hi:i<n) (ho:ops[i]? = some o) (hiD:D.contains i=false) (hwt:((List.range n).all λj=>!Region.waitsFor .any ops i j || D.contains j)=true)
 {v:Value} (hy:∀ a W,Fr dfs N L a->St H w0 bs W->Yq P ops o v a W) (hN:∀ t,o.dst=some t->t<N) :
 GT dfs P ops l w0 n N a0 E listed a W (upd val i v) (upd dec i true) (i::D) (putL o.dst v L) H bs ((i,o,v)::pa):=by
 have hdi:dec i=false:=(I.set i).trans hiD;have hdeps:∀ j,j<n->Region.waitsFor .any ops i j=true->dec j=true:=λj hj hw=>(I.set j).trans (GN hwt hj hw)
 have hii:∀ j,j<n->Region.waitsFor .any ops i j=true->j≠i:=λj hj hw e=>by
  have:=hdeps j hj hw;rw [e,hdi] at this;cases this
 have hli:st listed i=false:=by
  cases h:st listed i with
  | false=>rfl
  | true=>have:=I.sub i hi h;rw [hdi] at this;cases this
 have hput:=LI (a0:=a0) (val:=val) (v:=v) F hi ho hdi;refine ⟨I.head,?_,?_,?_,I.world,?_,?_,KT I.set,?_⟩
 ·rw [I.frame];refine jC _ _ _ _ a0 n λk _=>⟨Z,λhk=>(dY _ _ λe=>?_).symm⟩;subst e;rw [hli] at hk;cases hk
 ·rw [hput];exact I.full.putL v hN
 ·intro j hj hs
  by_cases e:j=i
  ·subst e;exact gW _ _ _
  ·rw [dY _ _ e];exact I.sub j hj hs
 ·intro j oj hj hoj hd hs W hW
  by_cases e:j=i
  ·subst e;obtain rfl:oj=o:=bH (hoj.symm.trans ho);rw [gW];refine Yq.same (λcs b=>F.sel j oj cs b ho) (λt ht=>?_) (hy _ W I.full hW);refine rS F hj ho (λk hk hw=>?_) t ht;have hkd:=hdeps k hk hw;have hki:=hii k hk hw;exact ⟨by rw [dY _ _ hki];exact hkd,hkd,dY _ _ hki⟩
  ·rw [dY _ _ e] at hd|-;refine Yq.same (λcs b=>F.sel j oj cs b hoj) (λt ht=>?_) (I.light j oj hj hoj hd hs W hW);refine rS F hj hoj (λk hk hw=>?_) t ht;have hkd:=I.deps j k hj hk hd hw;have hki:k≠i:=λe=>by subst e;rw [hdi] at hkd;cases hkd
   exact ⟨by rw [dY _ _ hki];exact hkd,hkd,dY _ _ hki⟩
 ·intro j oj hj hoj hd hs
  by_cases e:j=i
  ·subst e;obtain rfl:oj=o:=bH (hoj.symm.trans ho);rw [gW];exact .head _
  ·rw [dY _ _ e] at hd|-;exact .tail _ (I.past j oj hj hoj hd hs)
 ·intro j k hj hk hd hw
  by_cases e:j=i
  ·subst e;rw [dY _ _ (hii k hk hw)];exact hdeps k hk hw
  ·rw [dY _ _ e] at hd;have:=I.deps j k hj hk hd hw
   by_cases e2:k=i
   ·subst e2;exact gW _ _ _
   ·rw [dY _ _ e2];exact this
theorem GT.step (F:Fit ops n []) {i:Nat} {o:Oper} {W':World} (I:GT dfs P ops l w0 n N a0 E listed a W val dec D L H bs pa) (hi:i<n) (ho:ops[i]? = some o) (hr:i∈Region.ready .any ops listed) (hd:dec i=true) (hx:Ext W W') :
 GT dfs P ops l w0 n N a0 E (listed.setIfInBounds i true) (a.put o.dst (val i)) W' val dec D L H bs pa:=by
 have hun:st listed i=false:=(mem_ready.1 hr).1;have e1:iO ops i=o.dst:=by simp [iO,ho]
 refine ⟨I.head.set hr hi,?_,I.full,?_,I.world.more hx,?_,?_,I.set,I.deps⟩
 ·rw [I.frame,pS val (st listed) (st (listed.setIfInBounds i true)) a0 i eR hun (λk hk=>gS hk) n hi F.apart,e1]
 ·intro j hj hs
  by_cases e:j=i
  ·subst e;exact hd
  ·rw [gS e] at hs;exact I.sub j hj hs
 ·intro j oj hj hoj hdj hs;have e:j≠i:=λe=>by subst e;rw [eR] at hs;cases hs
  rw [gS e] at hs;exact I.light j oj hj hoj hdj hs
 ·intro j oj hj hoj hdj hs;have e:j≠i:=λe=>by subst e;rw [eR] at hs;cases hs
  rw [gS e] at hs;exact I.past j oj hj hoj hdj hs
theorem GT.heavy (F:Fit ops n []) {i k:Nat} {o:Oper} {v:Value} {W':World} {H':Hp} {bs':List Res} (I:GT dfs P ops l w0 n N a0 E listed a W val dec D L H bs pa) (hi:i<n) (ho:ops[i]? = some o) (hiD:D.contains i=false) (hwt:((List.range n).all λj=>!Region.waitsFor .any ops i j || D.contains j)=true) (hk1:(!(k == 1) || D.all λj=>mH ops n i j)=true) (hN:∀ t,o.dst=some t->t<N) (hr:i∈Region.ready .any ops listed)
 (hs:St H' w0 bs' W') (hws:k=1\/(∀ W,St H' w0 bs' W->St H w0 bs W)\/iX dfs P ops n w0 N L H' bs' i pa) :
 GT dfs P ops l w0 n N a0 E (listed.setIfInBounds i true) (a.put o.dst v) W' (upd val i v) (upd dec i true) (i::D) (putL o.dst v L) H' bs' pa:=by
 have hdi:dec i=false:=(I.set i).trans hiD;have hdeps:∀ j,j<n->Region.waitsFor .any ops i j=true->dec j=true:=λj hj hw=>(I.set j).trans (GN hwt hj hw)
 have hii:∀ j,j<n->Region.waitsFor .any ops i j=true->j≠i:=λj hj hw e=>by
  have:=hdeps j hj hw;rw [e,hdi] at this;cases this
 have hun:st listed i=false:=(mem_ready.1 hr).1;have e1:iO ops i=o.dst:=by simp [iO,ho]
 have hput:=LI (a0:=a0) (val:=val) (v:=v) F hi ho hdi;refine ⟨I.head.set hr hi,?_,?_,?_,hs,?_,?_,KT I.set,?_⟩
 ·rw [I.frame,pS (upd val i v) (st listed) (st (listed.setIfInBounds i true)) a0 i eR hun (λk hk=>gS hk) n hi F.apart,e1,gW]
  congr 1
  refine jC _ _ _ _ a0 n λk _=>⟨Z,λhk=>(dY _ _ λe=>?_).symm⟩;subst e;rw [hun] at hk;cases hk
 ·rw [hput];exact I.full.putL v hN
 ·intro j hj hs
  by_cases e:j=i
  ·subst e;exact gW _ _ _
  ·rw [dY _ _ e];rw [gS e] at hs;exact I.sub j hj hs
 ·intro j oj hj hoj hd hs W hW;have e:j≠i:=λe=>by subst e;rw [eR] at hs;cases hs
  rw [gS e] at hs;rw [dY _ _ e] at hd|-
  have hdone:mH ops n i j=true->False:=λh1=>by
   obtain ⟨_,oi,hoi,hall⟩:=mem_ready.1 hr
   have h2:=pH I.head n i j h1 (λok hok x hx hb=>by
    obtain rfl:ok=oi:=bH (hok.symm.trans hoi);exact hall x hx hb)
   rw [getD_both hs] at h2;cases h2
  have hy:Yq P ops oj (val j) (frm ops val dec n a0) W:=by
   rcases hws with hk | hw | hw
   ·subst hk;have hjD:j∈D:=by have:=(I.set j).symm.trans hd;simpa using this
    simp only [beq_self_eq_true,vJ,aL] at hk1;exact (hdone (bC.1 hk1 j hjD)).elim
   ·exact I.light j oj hj hoj hd hs W (hw W hW)
   ·rcases hw.at (I.past j oj hj hoj hd hs) with h1 | h1
    ·exact (hdone h1).elim
    ·exact h1 _ W I.full hW
  refine Yq.same (λcs b=>F.sel j oj cs b hoj) (λt ht=>?_) hy;refine rS F hj hoj (λk hk hw=>?_) t ht;have hkd:=I.deps j k hj hk hd hw;have hki:k≠i:=λe=>by subst e;rw [hdi] at hkd;cases hkd
  exact ⟨by rw [dY _ _ hki];exact hkd,hkd,dY _ _ hki⟩
 ·intro j oj hj hoj hd hs;have e:j≠i:=λe=>by subst e;rw [eR] at hs;cases hs
  rw [gS e] at hs;rw [dY _ _ e] at hd|-;exact I.past j oj hj hoj hd hs
 ·intro j k hj hk hd hw
  by_cases e:j=i
  ·subst e;rw [dY _ _ (hii k hk hw)];exact hdeps k hk hw
  ·rw [dY _ _ e] at hd;have:=I.deps j k hj hk hd hw
   by_cases e2:k=i
   ·subst e2;exact gW _ _ _
   ·rw [dY _ _ e2];exact this
theorem NT (hl:ops=l.toArray) {j:Nat} (hj:j<n) (hjD:D.contains j=false) (hnr:∀ i,D.contains i=false->i<n->mH ops n j i=false) :
 ∀ (q:Pi0) (A:List Nat),(q=.no\/∃ i k r q',q=.alt i k r q')->okT ops n D A q=true->(∀ i∈A,D.contains i=false/\i<n/\i≠j)->fU dfs P ops n w0 N E (wM l q) pa L H bs ->
  ∃ k r,((List.range n).all λx=>!Region.waitsFor .any ops j x || D.contains x)=true/\(!(k == 1) || D.all λx=>mH ops n j x)=true/\okT ops n (j::D) [] r=true/\(∀ t,(l[j]!).dst=some t->t<N) /\
   At dfs N L H w0 bs (one P ops (λ_ _ _=>False) l[j]! λa' W'=>∃ v H' bs',Fr dfs N (putL (l[j]!).dst v L) a'/\St H' w0 bs' W'/\(k=1\/(∀ W,St H' w0 bs' W->St H w0 bs W)\/iX dfs P ops n w0 N L H' bs' j pa)/\fU dfs P ops n w0 N E (wM l r) pa (putL (l[j]!).dst v L) H' bs'):=by
 intro q;induction q with
 | done=>rintro A (h | ⟨_,_,_,_,h⟩) <;> cases h
 | light i r=>rintro A (h | ⟨_,_,_,_,h⟩) <;> cases h
 | no =>
  intro A _ hok hA _
  exfalso
  simp only [okT,aC] at hok;have:=bC.1 hok.2 j (bU.2 hj);simp only [aT] at this;rcases this with (h | h) | h
  ·rw [hjD] at h;cases h
  ·exact (hA j (by simpa using h)).2.2 rfl
  ·obtain ⟨i,hi,hre⟩:=iZ.1 h;rw [hnr i (hA i hi).1 (hA i hi).2.1] at hre;cases hre
 | alt i k r q' ihr ihq =>
  intro A _ hok hA hF;simp only [okT,aC,aA,dX] at hok;obtain ⟨⟨⟨⟨⟨h1,h2⟩,h3⟩,h4⟩,h5⟩,h6⟩:=hok;unfold wM fU at hF
  by_cases e:i=j
  ·subst e;exact ⟨k,r,h3,h4,h5,hF.1.1,hF.1.2⟩
  ·have hq:q'=.no\/∃ i k r q'',q'=.alt i k r q'':=by
    cases q' with
    | done=>simp [okT] at h6
    | light i r=>simp [okT] at h6
    | no=>exact .inl rfl
    | alt i k r q=>exact .inr ⟨_,_,_,_,Z⟩
   refine ihq (i::A) hq h6 (λx hx=>?_) hF.2;rcases bP.1 hx with rfl | hx
   ·exact ⟨h2,h1,e⟩
   ·exact hA x hx
theorem aB1 (hl:ops=l.toArray) (F:Fit ops n []) (hend:∀ L H bs,E L H bs->At dfs N L H w0 bs (wpList P ops Q (ops.toList.drop n))) :
 ∀ (m:Nat) (p:Pi0) (listed:Array Bool) (a:Act) (W:World) (val:Nat->Value) (dec:Nat->Bool) (D:List Nat) (L:Sl) (H:Hp) (bs:List Res) (pa:List (Nat × Oper × Value)),cnt (st listed) n=m->okT ops n D [] p=true ->
  fU dfs P ops n w0 N E (wM l p) pa L H bs->GT dfs P ops l w0 n N a0 E listed a W val dec D L H bs pa->wpAny P .any ops Q (m+(ops.size - n)) listed a W:=by
 have hop:∀ i,i<n->ops[i]? = some l[i]! := λi hi=>by
  have h1:i<ops.size:=by have:=F.lt;omega
  subst hl;have h2:i<l.length:=by simpa using h1
  simp [h2]
 intro m;induction m with
 | zero =>
  intro p;induction p with
  | done =>
   intro listed a W val dec D L H bs pa hm hok hF I;have hall:=rC _ n hm
   have hcan:listed=((List.range ops.size).map λk=>Decidable.decide (k<n)).toArray:=by
    apply wZ
    ·simp [I.head.size]
    ·intro k h1 h2;have hk:k<ops.size:=by rw [<-I.head.size];exact h1
     simp only [oW,sG,qJ]
     by_cases hkn:k<n
     ·have:=hall k hkn;simp [st,h1] at this;simp [this,hkn]
     ·have:=I.head.tail k (by omega) hk;simp [h1] at this;simp [this,hkn]
   rw [dT];have hlen:(ops.toList.drop n).length=ops.size - n:=by simp
   rw [<-hlen];refine wpAny_of_seq (ops.toList.drop n) n listed a W (λj=>by simp [List.getElem?_drop]) (by rw [hlen,hcan];exact F.seq) ?_
   have hfr:a=frm ops val dec n a0:=by
    rw [I.frame];exact jC _ _ _ _ a0 n (λk hk=>⟨by rw [hall k hk,I.sub k hk (hall k hk)],λ_=>rfl⟩)
   rw [hfr];exact hend L H bs hF _ W I.full I.world
  | no =>
   intro listed a W val dec D L H bs pa hm hok hF I;simp [okT] at hok
  | light i r ih =>
   intro listed a W val dec D L H bs pa hm hok hF I;have hall:=rC _ n hm;simp only [okT,aC,aA,dX] at hok;have:=I.sub i hok.1.1.1.2 (hall i hok.1.1.1.2);rw [I.set i,hok.1.1.2] at this;cases this
  | alt i k r q ih1 ih2 =>
   intro listed a W val dec D L H bs pa hm hok hF I;have hall:=rC _ n hm;simp only [okT,aC,aA,dX] at hok;have:=I.sub i hok.1.1.1.1.1 (hall i hok.1.1.1.1.1);rw [I.set i,hok.1.1.1.1.2] at this;cases this
 | succ m ih =>
  have one_step:∀ (p:Pi0) (listed:Array Bool) (a:Act) (W:World) (val:Nat->Value) (dec:Nat->Bool) (D:List Nat) (L:Sl) (H:Hp) (bs:List Res) (pa:List (Nat × Oper × Value)),cnt (st listed) n=m+1->okT ops n D [] p=true ->
   fU dfs P ops n w0 N E (wM l p) pa L H bs->GT dfs P ops l w0 n N a0 E listed a W val dec D L H bs pa->(p=.done\/p=.no\/∃ i k r q,p=.alt i k r q)->wpAny P .any ops Q (m+1+(ops.size - n)) listed a W:=by
   intro p listed a W val dec D L H bs pa hm hok hF I hp;obtain ⟨k0,hk0,hun0,hbelow⟩:=DN (st listed) n (by omega);have hk0s:k0<ops.size:=by have:=F.lt;omega
   have hready0:k0∈Region.ready .any ops listed:=by
    refine mem_ready.2 ⟨hun0,ops[k0],Array.getElem?_eq_getElem hk0s,λe he hb=>?_⟩;have hlt:=F.back k0 _ (Array.getElem?_eq_getElem hk0s) e he hb;have:=hbelow e.on hlt;have hsz:e.on<listed.size:=by rw [I.head.size];omega
    simpa [st,hsz] using this
   rw [show m+1+(ops.size - n)=(m+(ops.size - n))+1 by omega];refine ⟨λh0=>(by rw [h0] at hready0;cases hready0),λj hj=>?_⟩
   have hjn:j<n:=by
    rcases iA j n with h | h
    ·exact h
    ·exact absurd hj (yM F.sink F.chain I.head _ k0 rfl hk0 rfl hun0 j h)
   obtain ⟨hun,oj,hoj,hall⟩:=mem_ready.1 hj
   have hcnt:cnt (st (listed.setIfInBounds j true)) n=m:=by
    have:=xW (st listed) (st (listed.setIfInBounds j true)) j eR hun (λk hk=>gS hk) n hjn;omega
   have hS:∀ k,k<n->Region.waitsFor .any ops j k=true->st listed k=true:=by
    intro k hk hw;obtain ⟨oi,hoi,e,he,hb,hon⟩:=Region.waitsFor_spec hw;obtain rfl:oi=oj:=bH (hoi.symm.trans hoj);have h1:=hall e he hb;rw [hon] at h1;have hsz:k<listed.size:=by rw [I.head.size];have:=F.lt;omega
    simp [hsz] at h1;simp [st,hsz,h1]
   have hev:∀ t∈oj.looksAt ops,a.eval (.tmp t)=(frm ops val dec n a0).eval (.tmp t):=λt ht=>by
    rw [I.frame];exact rS F hjn hoj (λk hk hw=>⟨hS k hk hw,I.sub k hk (hS k hk hw),Z⟩) t ht
   cases hd:dec j with
   | true =>
    have hy:Yq P ops oj (val j) a W:=Yq.same (λcs b=>F.sel j oj cs b hoj) hev (I.light j oj hjn hoj hd hun W I.world);exact hy.wpOp hoj λW' hx=>ih p _ _ _ _ _ _ _ _ _ _ hcnt hok hF (I.step F hjn hoj hj hd hx)
   | false =>
    have hjD:D.contains j=false:=(I.set j).symm.trans hd
    have hch:p=.no\/∃ i k r q',p=.alt i k r q':=by
     rcases hp with rfl | rfl | h
     ·exfalso
      simp only [okT,aC] at hok;have:=bC.1 hok.2 j (bU.2 hjn);rw [hjD] at this;cases this
     ·exact .inl Z
     ·exact .inr h
    obtain ⟨k,r,h1,h2,h3,h4,h5⟩:=NT hl hjn hjD (λi hi hin=>by
     cases hre:mH ops n j i with
     | false=>rfl
     | true =>
      have h2:=pH I.head n j i hre (λok hok e he hb=>by
       obtain rfl:ok=oj:=bH (hok.symm.trans hoj);exact hall e he hb)
      have h3:st listed i=false:=by
       cases h:st listed i with
       | false=>rfl
       | true=>have:=I.sub i hin h;rw [I.set i,hi] at this;cases this
      rw [getD_both h3] at h2;cases h2) p [] hch hok (λi hi=>by cases hi) hF
    have hoj2:=hop j hjn;obtain rfl:oj=l[j]! := bH (hoj.symm.trans hoj2);refine MP hoj (λcs b=>F.sel j _ cs b hoj) hev (λb W' ⟨v,H',bs',hf,_⟩=>hf.defers) I.full.defers ?_ (h5 _ W I.full I.world);rintro v W' ⟨v',H',bs',hf,hs,hw,hp'⟩
    have hvv:putL (l[j]!).dst v' L=putL (l[j]!).dst v L:=by
     cases hdst:(l[j]!).dst with
     | none=>rfl
     | some t =>
      rw [hdst] at hf;have h1:=hf.slot t v' (by unfold putL look;rw [lU,lI]);have h2:t<N:=h4 t hdst;have h3:=(I.full.put (by simpa [nZ] using h2) v).slot t v (by unfold look;rw [lU,lI]);rw [h3] at h1;rw [h1]
    rw [hvv] at hp';exact ih r _ _ _ _ _ _ _ _ _ _ hcnt h3 hp' (I.heavy F hjn hoj hjD h1 h2 h4 hj hs hw)
  intro p;induction p with
  | done=>exact λlisted a W val dec D L H bs pa hm hok hF I=>one_step _ listed a W val dec D L H bs pa hm hok hF I (.inl Z)
  | no=>exact λlisted a W val dec D L H bs pa hm hok hF I=>one_step _ listed a W val dec D L H bs pa hm hok hF I (.inr (.inl Z))
  | alt i k r q _ _=>exact λlisted a W val dec D L H bs pa hm hok hF I=>one_step _ listed a W val dec D L H bs pa hm hok hF I (.inr (.inr ⟨_,_,_,_,Z⟩))
  | light i r ihr =>
   intro listed a W val dec D L H bs pa hm hok hF I;simp only [okT,aC,aA,dX] at hok;obtain ⟨⟨⟨⟨_,hi⟩,hiD⟩,hwt⟩,hok'⟩:=hok;unfold wM fU at hF;obtain ⟨v,hy,hN,hF'⟩:=hF;exact ihr listed a W _ _ _ _ H bs _ hm hok' hF' (I.decide F hi (hop i hi) hiD hwt hy hN)
theorem cJ4 {id:Nat} {l:List Oper} {p:PlT} {Q:Exit->Act->World->Prop} {L:Sl} {H:Hp} {bs:List Res} (n:Nat) (p0:Pi0) (hm:P.follows .mixedOrders=true) (hB:(ZY l.toArray n [] && okT l.toArray n [] [] p0)=true) (ht:wM l p0=p)
 (h:fU dfs P l.toArray n w0 N (λL H bs=>At dfs N L H w0 bs (wpList P l.toArray Q (l.drop n))) p [] L H bs):At dfs N L H w0 bs ((Code.region id l.toArray true).wp P Q):=by
 simp only [aC] at hB;obtain ⟨h1,h2⟩:=hB;have F:=Fit.of h1;have hlt:n<l.length:=by simpa using F.lt
 subst ht;intro a W f s;refine wp_region_any hm ?_;have hsz:l.toArray.size=l.length:=by simp
 have hc0:∀ m,m<=n->cnt (st (Array.replicate l.toArray.size false)) m=m:=by
  intro m;induction m with
  | zero=>intro _;rfl
  | succ m ih =>
   intro hm;unfold cnt;rw [ih (by omega)]
   have:st (Array.replicate l.toArray.size false) m=false:=by
    have:m<l.length:=by omega
    simp [st,this]
   rw [this];simp
 have hfrm:∀ (val:Nat->Value) (m:Nat),frm l.toArray val (λ_=>false) m a=a:=λval m=>by
  induction m with
  | zero=>rfl
  | succ m ih=>unfold frm;simp [ih]
 have hall:∀ m,m<=n->∀ k,k<m->st (Array.replicate l.toArray.size false) k=false:=λm hm k hk=>by
  have:k<l.length:=by omega
  simp [st,this]
 have hh:HeadInv .any l.toArray n (Array.replicate l.toArray.size false):=by
  refine ⟨by simp,λj oj hj hl=>?_,λt ht ht'=>?_⟩
  ·exfalso
   rcases iA j l.length with h | h
   ·simp [h] at hl
   ·simp [h] at hl
  ·have:t<l.length:=by simpa using ht'
   simp [this]
 have key:=aB1 (Q:=Q) (a0:=a) (l:=l) rfl F (λL H bs h=>by simpa using h) n p0 (Array.replicate l.toArray.size false) a _ (λ_=>undef) (λ_=>false) [] L H bs [] (hc0 n (aW _)) h2 h
  ⟨hh,?_,by rw [hfrm];exact f,?_,s.more ((Ext.refl W).drew),λ_ _ _ _ h=>(by cases h),λ_ _ _ _ h=>(by cases h),λ_=>rfl,λ_ _ _ _ h=>(by cases h)⟩
 ·have:n+(l.toArray.size - n)=l.toArray.size:=by rw [hsz];omega
  rw [this] at key;exact key
 ·rw [jC (λ_=>undef) (λ_=>undef) _ (λ_=>false) a n (λk hk=>⟨hall n (aW _) k hk,λ_=>rfl⟩),hfrm]
 ·intro i hi hs;rw [hall n (aW _) i hi] at hs;cases hs
end
section
variable {dfs:List Deferred} {P:Program} {n:Nat} {L:Sl} {H:Hp} {w0:World} {bs:List Res} {Q:Exit->Act->World->Prop} {ops:Array Oper} {rest:List Oper} {K:Act->World->Prop}
variable {d:Option Tmp} {ty:TypeId} {pos:String} {aft:Array Edge} {g:Option (Nat × Bool)} {v:Value} {t:Tmp} {op:Op} {x y z:Operand} {T T':TypeId}
variable {N hn:Nat} {pa:List (Nat × Oper × Value)} {E:Sl->Hp->List Res->Prop} {r q:PlT} {i k:Nat}
def tG (dfs:List Deferred) (P:Program) (ops:Array Oper) (n:Nat) (w0:World) (N:Nat) (E:Sl->Hp->List Res->Prop) (i k:Nat) (o:Oper) (r:PlT) (pa:List (Nat × Oper × Value)) (L:Sl) (H:Hp) (bs:List Res):Prop :=
 (∀ t,o.dst=some t->t<N)/\At dfs N L H w0 bs (one P ops (λ_ _ _=>False) o λa' W'=>∃ v H' bs',Fr dfs N (putL o.dst v L) a'/\St H' w0 bs' W'/\(k=1\/(∀ W,St H' w0 bs' W->St H w0 bs W)\/iX dfs P ops n w0 N L H' bs' i pa)/\fU dfs P ops n w0 N E r pa (putL o.dst v L) H' bs')
theorem fU.h1 {o:Oper} (h:tG dfs P ops hn w0 N E i k o r pa L H bs):fU dfs P ops hn w0 N E (.alt i k o r .no) pa L H bs:=⟨h,Jt⟩
theorem fU.h {o:Oper} (h:tG dfs P ops hn w0 N E i k o r pa L H bs) (hq:fU dfs P ops hn w0 N E q pa L H bs):fU dfs P ops hn w0 N E (.alt i k o r q) pa L H bs:=⟨h,hq⟩
theorem fU.nn:fU dfs P ops hn w0 N E .no pa L H bs:=trivial
theorem fU.yv (hy:Yl P L H w0 bs ⟨some t,op,ty,pos,aft,none⟩ v) (ht:Nat.blt t N=true) (h:fU dfs P ops hn w0 N E r ((i,⟨some t,op,ty,pos,aft,none⟩,v)::pa) ((t,v)::L) H bs):fU dfs P ops hn w0 N E (.light i ⟨some t,op,ty,pos,aft,none⟩ r) pa L H bs :=
 ⟨v,λa W f s=>.inl ⟨by simp [Region.wanted],hy a W (λx u e=>f.ev e) s⟩,rD ht,h⟩
theorem fU.m (hx:ev L x=some v) (ht:Nat.blt t N=true) (h:fU dfs P ops hn w0 N E r ((i,⟨some t,.move x,ty,pos,aft,none⟩,v)::pa) ((t,v)::L) H bs):fU dfs P ops hn w0 N E (.light i ⟨some t,.move x,ty,pos,aft,none⟩ r) pa L H bs:=.yv (.move hx) ht h
theorem fU.a (hx:ev L x=some v) (ht:Nat.blt t N=true) (h:fU dfs P ops hn w0 N E r ((i,⟨some t,.assign x,ty,pos,aft,none⟩,v)::pa) ((t,v)::L) H bs):fU dfs P ops hn w0 N E (.light i ⟨some t,.assign x,ty,pos,aft,none⟩ r) pa L H bs:=.yv (.assign hx) ht h
theorem tG.into {H':Hp} {bs':List Res} (hw:k=1\/(∀ W,St H' w0 bs' W->St H w0 bs W)\/iX dfs P ops hn w0 N L H' bs' i pa) (h:fU dfs P ops hn w0 N E r pa ((t,v)::L) H' bs') :
 At dfs N ((t,v)::L) H' w0 bs' (λa' W'=>∃ v H' bs',Fr dfs N (putL (some t) v L) a'/\St H' w0 bs' W'/\(k=1\/(∀ W,St H' w0 bs' W->St H w0 bs W)\/iX dfs P ops hn w0 N L H' bs' i pa)/\fU dfs P ops hn w0 N E r pa (putL (some t) v L) H' bs'):=λ_ _ f s=>⟨v,H',bs',f,s,hw,h⟩
theorem tG.al {l:List Value} (hz:qK P T=some l) (ht:Nat.blt t N=true) (h:∀ b,fU dfs P ops hn w0 N E r pa ((t,.pointer (some ⟨b,0,none⟩))::L) H (.box b l T::bs)):tG dfs P ops hn w0 N E i k ⟨some t,.alloc T,ty,pos,aft,none⟩ r pa L H bs :=
 ⟨rD ht,alloc hz ht λb=>tG.into (.inr<|.inl λ_ s=>s.drop) (h b)⟩
theorem tG.c3 {X:Type} {f:FuncId} {xs:List Operand} {vs:List Value} {ats:Array TypeId} {C:X->Prop} {val:X->Value} {H':X->Hp} {bs':X->List Res} (hf:cV P f=true) (hv:evs L xs=some vs)
 (hc:∀ W,St H w0 bs W->Calls P f vs.toArray W λe W'=>∃ x,C x/\e=.returned (val x)/\St (H' x) w0 (bs' x) W') (ht:Nat.blt t N=true)
 (hr:∀ x,C x->iX dfs P ops hn w0 N L (H' x) (bs' x) i pa) (h:∀ x,C x->fU dfs P ops hn w0 N E r pa ((t,val x)::L) (H' x) (bs' x)):tG dfs P ops hn w0 N E i 2 ⟨some t,.call ⟨.value (.func f),xs.toArray,ats⟩,ty,pos,aft,none⟩ r pa L H bs :=
 ⟨rD ht,bJ4 hf hv hc ht λx hx=>tG.into (.inr<|.inr<|hr x hx) (h x hx)⟩
theorem fU.fn {l tl:List Oper} {nn:Nat} (ht:l.drop nn=tl) (h:At dfs N L H w0 bs (wpList P ops Q tl)):fU dfs P ops hn w0 N (λL H bs=>At dfs N L H w0 bs (wpList P ops Q (l.drop nn))) .done pa L H bs:=by
 subst ht;exact h
theorem At.ft {id:Nat} {l:List Oper} {p:PlT} (nn:Nat) (p0:Pi0) (hm:P.follows .mixedOrders=true) (hB:(ZY l.toArray nn [] && okT l.toArray nn [] [] p0)=true) (ht:wM l p0=p)
 (h:fU dfs P l.toArray nn w0 n (λL H bs=>At dfs n L H w0 bs (wpList P l.toArray Q (l.drop nn))) p [] L H bs):At dfs n L H w0 bs ((Code.region id l.toArray true).wp P Q):=cJ4 nn p0 hm hB ht h
end
end Go.Sx

namespace Go.Sx
open Go.RowKit Go.Par
section
variable {dfs:List Deferred} {P:Program} {L:Sl} {H H':Hp} {w0:World} {bs bs':List Res} {ty:TypeId} {pos:String} {aft:Array Edge} {t:Tmp} {op:Op} {ops:Array Oper} {N hn i n j:Nat} {pa:List (Nat × Oper × Value)} {E:Sl->Hp->List Res->Prop} {r:List (Nat × Nat × Oper)} {rest:List Oper} {Q:Exit->Act->World->Prop} {o:Oper} {v:Value} {b c:Bool} {u:Tmp}
theorem fU.yw {r:PlT} (hy:Yl P L H w0 bs ⟨some t,op,ty,pos,aft,none⟩ v) (h:fU dfs P ops hn w0 N E r ((i,⟨some t,op,ty,pos,aft,none⟩,v)::pa) ((t,v)::L) H bs) (ht:Nat.blt t N=true:=by rfl):fU dfs P ops hn w0 N E (.light i ⟨some t,op,ty,pos,aft,none⟩ r) pa L H bs:=.yv hy ht h
theorem fU.mv {r:PlT} {x:Operand} (hx:ev L x=some v) (h:fU dfs P ops hn w0 N E r ((i,⟨some t,.move x,ty,pos,aft,none⟩,v)::pa) ((t,v)::L) H bs) (ht:Nat.blt t N=true:=by rfl):fU dfs P ops hn w0 N E (.light i ⟨some t,.move x,ty,pos,aft,none⟩ r) pa L H bs:=.m hx ht h
end
section
variable {dfs:List Deferred} {P:Program} {L:Sl} {H H':Hp} {w0:World} {bs bs':List Res} {ty:TypeId} {pos:String} {aft:Array Edge} {t:Tmp} {op:Op} {ops:Array Oper} {N hn i n j:Nat} {pa:List (Nat × Oper × Value)} {E:Sl->Hp->List Res->Prop} {r:List (Nat × Nat × Oper)} {rest:List Oper} {Q:Exit->Act->World->Prop} {o:Oper} {v:Value} {b c:Bool} {u:Tmp}
theorem fU.fA {x:Operand} {T:TypeId} {k a off o':Nat} {r:PlT} (hp:ev L x=some (.pointer (some ⟨a,off,none⟩))) (hF:eN P T k=some o') (h:fU dfs P ops hn w0 N E r ((i,⟨some t,.fieldAddr T x k,ty,pos,aft,none⟩,(.pointer (some ⟨a,off+o',none⟩)))::pa) ((t,(.pointer (some ⟨a,off+o',none⟩)))::L) H bs) (ht:Nat.blt t N=true:=by rfl):fU dfs P ops hn w0 N E (.light i ⟨some t,.fieldAddr T x k,ty,pos,aft,none⟩ r) pa L H bs:=.yv (.fieldAddr hp hF) ht h
theorem fU.lD {x:Operand} {T t':TypeId} {a off:Nat} {l:List Value} {r:PlT} (hp:ev L x=some (.pointer (some ⟨a,off,none⟩))) (hT:lR P T=some none) (hm:Res.box a l t'∈bs) (hv:l[off]? = some v) (h:fU dfs P ops hn w0 N E r ((i,⟨some t,.load T x,ty,pos,aft,none⟩,v)::pa) ((t,v)::L) H bs) (ht:Nat.blt t N=true:=by rfl):fU dfs P ops hn w0 N E (.light i ⟨some t,.load T x,ty,pos,aft,none⟩ r) pa L H bs:=.yv (.load hp hT hm hv) ht h
theorem fU.nC {x:Operand} {p:Addr} {r:PlT} (hx:ev L x=some (.pointer (some p))) (h:fU dfs P ops hn w0 N E r ((i,⟨some t,.nilCheck x,ty,pos,aft,none⟩,(.pointer (some p)))::pa) ((t,(.pointer (some p)))::L) H bs) (ht:Nat.blt t N=true:=by rfl):fU dfs P ops hn w0 N E (.light i ⟨some t,.nilCheck x,ty,pos,aft,none⟩ r) pa L H bs:=.yv (.nilCheck hx) ht h
end
end Go.Sx
