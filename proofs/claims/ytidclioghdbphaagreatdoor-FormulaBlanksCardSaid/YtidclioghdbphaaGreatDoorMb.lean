/- Texts of the proof, one behind the other. -/
import Derived.Test.YtidclioghdbphaaGreatDoorMa
import Derived.Lib.Builder
import Derived.Lib.AppendStr
import Derived.Lib.UnsafeStr
import Derived.Lib.ItoaNum
import Derived.Lib.Join
import Derived.Lib.ItoaLen
import Derived.ProofKit
import Derived.Lib.LaidTab
import Derived.Deep.Slices
import Derived.Deep.Fields
import Derived.OpenShut
import Derived.ChangeKeysEq
import Derived.RangeFuncNested
import Derived.RangeFuncLeaves
import Derived.RangeFuncCalls
import Derived.OwnWalkIn
import Derived.TacticsIn
set_option linter.all false
set_option maxRecDepth 100000
/- Pointers, strings appended to bytes, and unsafe strings: what a strings.Builder inside an own box meets. -/
namespace Go.Sx
open Go.RowKit Go.Par
section
variable {dfs:List Deferred} {P:Program} {n:Nat} {L:Sl} {H:Hp} {w0:World} {bs:List Res} {Q:Exit->Act->World->Prop} {ops:Array Oper} {rest:List Oper} {K:Act->World->Prop}
variable {d:Option Tmp} {ty:TypeId} {pos:String} {aft:Array Edge} {g:Option (Nat × Bool)} {v:Value} {t:Tmp} {op:Op} {x y z:Operand} {T T':TypeId}
theorem Yl.ext {f:FuncId} {xs:List Operand} {vs:List Value} {ats:Array TypeId} (hv:evs L xs=some vs) (h:∀ W,(callFunc f vs.toArray).run P W=.ok (.value v) W):Yl P L H w0 bs ⟨d,.call ⟨.value (.func f),xs.toArray,ats⟩,ty,pos,aft,g⟩ v:=.of_run λa W f0 s=>by
 have hm:=evs_map f0 hv;have:(#[]:Array Value)=[].toArray:=rfl;unfold execOp;simp only [resolve,Act.eval,Deferred.ofValue,Sem.run_bind,Sem.run_pure,Result.andThen,invoke,Al_List_map_toArray,hm,this,List.append_toArray,Al_List_nil_append,Al_List_append_nil,h]
theorem St.pickT {W:World} {hd tl hd':List Res} (s:St H w0 (hd++tl) W) (ix:List Nat) (hn:nodupB ix=true) (hm:ix.map (λi=>hd[i]?)=hd'.map some):St H w0 (hd'++tl) W:=by
 have hlt:∀ i x,hd[i]? = some x->(hd++tl)[i]? = some x:=λi x e=>by
  rw [List.getElem?_append_left (List.getElem?_eq_some_iff.1 e).1];exact e
 have key:∀ (ix:List Nat) (hd':List Res),nodupB ix=true->ix.map (λi=>hd[i]?)=hd'.map some->(∀ x∈hd',∃ i∈ix,hd[i]? = some x)/\(hd'++tl).Pairwise Res.apart:=by
  intro ix;induction ix with
  | nil =>
   intro hd' _ hm;cases hd' with
   | nil=>exact ⟨λx hx=>(by cases hx),(Al_List_pairwise_append.1 s.apart).2.1⟩
   | cons a r=>simp at hm
  | cons i r ih =>
   intro hd' hn hm;cases hd' with
   | nil=>simp at hm
   | cons a q =>
    simp only [Al_List_map_cons,Al_List_cons_injEq] at hm;simp only [nodupB,Al_Bool_and_eq_true,Al_Bool_not_eq_true'] at hn;obtain ⟨h1,h2⟩:=ih q hn.2 hm.2;refine ⟨λx hx=>?_,?_⟩
    ·rcases Al_List_mem_cons.1 hx with rfl | hx
     ·exact ⟨i,.head _,hm.1⟩
     ·obtain ⟨j,hj,e⟩:=h1 x hx;exact ⟨j,.tail _ hj,e⟩
    ·rw [Al_List_cons_append,Al_List_pairwise_cons];refine ⟨λy hy=>?_,h2⟩;rcases Al_List_mem_append.1 hy with hy | hy
     ·obtain ⟨j,hj,e⟩:=h1 y hy;refine pairwise_at s.apart (hlt _ _ hm.1) (hlt _ _ e) λh=>?_;subst h;have:=hn.1;simp [hj] at this
     ·exact (Al_List_pairwise_append.1 s.apart).2.2 a (Al_List_mem_of_getElem? hm.1) y hy
 obtain ⟨h1,h2⟩:=key ix hd' hn hm;refine ⟨s.ext,s.agr,λx hx=>?_,h2,s.lo⟩;rcases Al_List_mem_append.1 hx with hx | hx
 ·obtain ⟨i,_,e⟩:=h1 x hx;exact s.own x (Al_List_mem_append_left _ (Al_List_mem_of_getElem? e))
 ·exact s.own x (Al_List_mem_append_right _ hx)
theorem At.mk {e:TypeId} {v0:Value} {bytes m:Nat} {kl kc:IntKind} {i j:Int} (hT:rowN P T=some (e,1,bytes)) (hz0:zeroN P e=some [v0]) (hx:ev L x=some (.int kl i)) (hy:ev L y=some (.int kc j)) (hi:i=(m:Int)) (hj:j=(m:Int)) (hb:bytes * m<=281474976710656) (h63:m<=9223372036854775807) (ht:Nat.blt t n=true)
 (h:∀ b,At dfs n ((t,.slice (some ⟨b,0,none⟩) m m)::L) H w0 (.box b (List.replicate m v0) e::bs) (wpList P ops Q rest)):At dfs n L H w0 bs (wpList P ops Q (⟨some t,.makeSlice T x y,ty,pos,aft,none⟩::rest)):=by
 subst hi hj;obtain ⟨hu,q,z,hq,hz,hsz,hby,hzs,h0⟩:=rowN_spec hT
 have hz1:z.cells.toList=[v0]:=by
  have h2:=hz0;unfold zeroN at h2;rw [hq] at h2;simp only [Al_Option_bind_some,hz,Al_Option_map_some,Al_Option_some_injEq] at h2;exact h2
 refine cons ?_;intro a W f s;refine one_plain rfl ?_
 have hbz:(q.bytes:Int) * (m:Int)<=281474976710656:=by
  have h5:((q.bytes * m:Nat):Int)<=281474976710656:=by rw [hby];omega
  rwa [Int.natCast_mul] at h5
 have hr:=run_make (P:=P) W T e q z hu hq hz kl kc m m (by omega) (Int.le_refl _) hbz (by omega)
 have hcs:madeCells z.cells (((m:Int)).toNat * q.size)=(List.replicate m v0).toArray:=by
  have e1:z.cells=#[v0]:=by rw [<-Array.toArray_toList (xs:=z.cells),hz1]
  rw [e1,hsz,Int.toNat_natCast,Nat.mul_one];apply Al_Array_ext
  ·simp [madeCells]
  ·intro i h1 h2;simp [madeCells,Nat.mod_one]
 rw [hcs,Int.toNat_natCast] at hr;unfold Oper.wp execOp;simp only [Sem.run_bind,Sem.run_pure,Result.andThen_ok,f.ev hx,f.ev hy,hr];exact h _ _ _ (f.put ht _) (s.alloc _ _)
end
theorem dt {p:Prop} [Decidable p]:(decide p=true)=p:=Al_decide_eq_true_eq
theorem df {p:Prop} [Decidable p]:(decide p=false)=¬ p:=propext Al_decide_eq_false_iff_not
theorem nb {a b:Nat} (h:Nat.ble a b=true):a<=b:=Al_Nat_le_of_ble_eq_true h
variable {l:List Value}
theorem z0:∀ (j:Nat) u,l[j]? = some u->l[0+j]? = some u:=λj u h=>by rw [Al_Nat_zero_add];exact h
theorem w6 {i:Int} (h:-9223372036854775808<=i/\i<=9223372036854775807):IntKind.i64.wrap i=i:=w64 h.1 h.2
section
variable {dfs:List Deferred} {P:Program} {n:Nat} {L:Sl} {H:Hp} {w0:World} {bs:List Res} {Q:Exit->Act->World->Prop} {ops:Array Oper}
theorem At.nt {K:Act->World->Prop} (h:At dfs n L H w0 bs K):At dfs n L H w0 bs (wpList P ops (Exit.then K Q) []):=.nl (.tN h)
theorem At.sr {id:Nat} {l:List Oper} {y:Code} (h:At dfs n L H w0 bs (wpList P l.toArray (Exit.then (y.wp P Q) Q) l)):At dfs n L H w0 bs ((Code.seq (Code.region id l.toArray false) y).wp P Q):=.sq (.rg h)
theorem At.ns {Q':Exit->Act->World->Prop} {id:Nat} {l:List Oper} {y:Code} (h:At dfs n L H w0 bs (wpList P l.toArray (Exit.then (y.wp P Q') Q') l)):At dfs n L H w0 bs (wpList P ops (Exit.then ((Code.seq (Code.region id l.toArray false) y).wp P Q') Q) []):=.nl (.tN (.sq (.rg h)))
end
end Go.Sx

namespace Go.Sx
open Go.RowKit Go.Par
section
variable {dfs:List Deferred} {P:Program} {L:Sl} {H H':Hp} {w0:World} {bs bs':List Res} {ty:TypeId} {pos:String} {aft:Array Edge} {t:Tmp} {op:Op} {ops:Array Oper} {N hn i n j:Nat} {pa:List (Nat × Oper × Value)} {E:Sl->Hp->List Res->Prop} {r:List (Nat × Nat × Oper)} {rest:List Oper} {Q:Exit->Act->World->Prop} {o:Oper} {v:Value} {b c:Bool} {u:Tmp}
theorem St.p1_1 {H:Hp} {w0 W:World} {a0 b0:Res} {tl:List Res} (s:St H w0 (a0::tl) W) (ix:List Nat) (hm:ix.map (λi=>([a0]:List Res)[i]?)=[some b0]) (hn:nodupB ix=true:=by rfl):St H w0 (b0::tl) W:=s.pickT (hd:=[a0]) (hd':=[b0]) ix hn hm
theorem St.p2_1 {H:Hp} {w0 W:World} {a0 a1 b0:Res} {tl:List Res} (s:St H w0 (a0::a1::tl) W) (ix:List Nat) (hm:ix.map (λi=>([a0,a1]:List Res)[i]?)=[some b0]) (hn:nodupB ix=true:=by rfl):St H w0 (b0::tl) W:=s.pickT (hd:=[a0,a1]) (hd':=[b0]) ix hn hm
theorem St.p2_2 {H:Hp} {w0 W:World} {a0 a1 b0 b1:Res} {tl:List Res} (s:St H w0 (a0::a1::tl) W) (ix:List Nat) (hm:ix.map (λi=>([a0,a1]:List Res)[i]?)=[some b0,some b1]) (hn:nodupB ix=true:=by rfl):St H w0 (b0::b1::tl) W:=s.pickT (hd:=[a0,a1]) (hd':=[b0,b1]) ix hn hm
theorem St.p3_1 {H:Hp} {w0 W:World} {a0 a1 a2 b0:Res} {tl:List Res} (s:St H w0 (a0::a1::a2::tl) W) (ix:List Nat) (hm:ix.map (λi=>([a0,a1,a2]:List Res)[i]?)=[some b0]) (hn:nodupB ix=true:=by rfl):St H w0 (b0::tl) W:=s.pickT (hd:=[a0,a1,a2]) (hd':=[b0]) ix hn hm
theorem St.p3_3 {H:Hp} {w0 W:World} {a0 a1 a2 b0 b1 b2:Res} {tl:List Res} (s:St H w0 (a0::a1::a2::tl) W) (ix:List Nat) (hm:ix.map (λi=>([a0,a1,a2]:List Res)[i]?)=[some b0,some b1,some b2]) (hn:nodupB ix=true:=by rfl):St H w0 (b0::b1::b2::tl) W:=s.pickT (hd:=[a0,a1,a2]) (hd':=[b0,b1,b2]) ix hn hm
theorem St.p4_2 {H:Hp} {w0 W:World} {a0 a1 a2 a3 b0 b1:Res} {tl:List Res} (s:St H w0 (a0::a1::a2::a3::tl) W) (ix:List Nat) (hm:ix.map (λi=>([a0,a1,a2,a3]:List Res)[i]?)=[some b0,some b1]) (hn:nodupB ix=true:=by rfl):St H w0 (b0::b1::tl) W:=s.pickT (hd:=[a0,a1,a2,a3]) (hd':=[b0,b1]) ix hn hm
theorem St.p4_3 {H:Hp} {w0 W:World} {a0 a1 a2 a3 b0 b1 b2:Res} {tl:List Res} (s:St H w0 (a0::a1::a2::a3::tl) W) (ix:List Nat) (hm:ix.map (λi=>([a0,a1,a2,a3]:List Res)[i]?)=[some b0,some b1,some b2]) (hn:nodupB ix=true:=by rfl):St H w0 (b0::b1::b2::tl) W:=s.pickT (hd:=[a0,a1,a2,a3]) (hd':=[b0,b1,b2]) ix hn hm
theorem St.p4_4 {H:Hp} {w0 W:World} {a0 a1 a2 a3 b0 b1 b2 b3:Res} {tl:List Res} (s:St H w0 (a0::a1::a2::a3::tl) W) (ix:List Nat) (hm:ix.map (λi=>([a0,a1,a2,a3]:List Res)[i]?)=[some b0,some b1,some b2,some b3]) (hn:nodupB ix=true:=by rfl):St H w0 (b0::b1::b2::b3::tl) W:=s.pickT (hd:=[a0,a1,a2,a3]) (hd':=[b0,b1,b2,b3]) ix hn hm
theorem At.aq {x:Operand} {K:Act->World->Prop} (hx:ev L x=some v) (h:At dfs n ((t,v)::L) H w0 bs K) (ht:Nat.blt t n=true:=by rfl):At dfs n L H w0 bs (wpList P ops (Exit.then K Q) [⟨some t,.assign x,ty,pos,aft,none⟩]):=.a hx ht (.nt h)
theorem At.sm {x:Operand} {id:Nat} {l:List Oper} {y:Code} (hx:ev L x=some v) (h:At dfs n ((t,v)::L) H w0 bs (wpList P (⟨some t,.move x,ty,pos,aft,none⟩::l).toArray (Exit.then (y.wp P Q) Q) l)) (ht:Nat.blt t n=true:=by rfl):At dfs n L H w0 bs ((Code.seq (Code.region id (⟨some t,.move x,ty,pos,aft,none⟩::l).toArray false) y).wp P Q):=.sr (.m hx ht h)
theorem w7 {i:Int} (h:-9223372036854775808<=i/\i<=9223372036854775807:=by omega):IntKind.i64.wrap i=i:=w6 h
theorem y6 {P:Program} {n:Nat} {f:FuncId} {fn:Func} {c:Code} {args:List Value} {w:World} {R:Ending->World->Prop} (hf:P.funcs[f]? = some fn) (hb:fn.body=some c) (hn:fn.ntmps=n) (hl:Nat.ble args.length n=true) (h:At [] n (slots 0 args) (⟨λ_=>none,0⟩:Hp) w [] (c.wp P (bodyPost P fn R))):Calls P f args.toArray w R:=enter hf hb hn hl ⟨λ_ _ e=>(by cases e),Al_Nat_zero_le _⟩ h
theorem At.zR {id:Nat} {K:Act->World->Prop} {Q':Exit->Act->World->Prop} (h:At dfs n L H w0 bs (Q .ret)):At dfs n L H w0 bs (wpList P ops (Exit.then (Code.ret.wp P (Exit.inBlock id (Exit.then K Q))) Q') []):=.nt (.rt (.bR (.tR h)))
theorem At.eb {id:Nat} {K K' K2:Act->World->Prop} {Q:Exit->Act->World->Prop} (h:At dfs n L H w0 bs K):At dfs n L H w0 bs (Exit.then K' (Exit.then K2 (Exit.inBlock id (Exit.then K Q))) (.exit id)):=.tE (.tE (.bE (.tN h)))
theorem At.az {x:Operand} {Q':Exit->Act->World->Prop} (hx:ev L x=some v) (h:At dfs n ((t,v)::L) H w0 bs (Q .ret)) (ht:Nat.blt t n=true:=by rfl):At dfs n L H w0 bs (wpList P ops (Exit.then (Code.ret.wp P Q) Q') [⟨some t,.assign x,ty,pos,aft,none⟩]):=.aq hx (.rt h) ht
end
end Go.Sx
namespace Go.Proofs.YtidclioghdbphaaGreatDoor
open Go.RowKit Go.Par Go.Sx
abbrev Str:=List UInt8
def strV (l:Str):Value:=.string ⟨l.toArray⟩
inductive Ex where
 | mk (op:UInt8) (nm:Str) (n:Int64) (args:List Ex)
inductive Sm where
 | mk (kind:UInt8) (nm hd:Str) (ex:List Ex) (th el:List Sm)
def Ex.op:Ex->UInt8 | .mk op _ _ _=>op
def Ex.nm:Ex->Str | .mk _ nm _ _=>nm
def Ex.n:Ex->Int64 | .mk _ _ n _=>n
def Ex.args:Ex->List Ex | .mk _ _ _ args=>args
mutual
def dEx (k:IntKind):Ex->D
 | .mk op nm n args=>.str [.val (.int k op.toNat),.val (strV nm),.val (.int .i64 n.toInt),.seq 4 (dExs k args)]
def dExs (k:IntKind):List Ex->List D
 | []=>[]
 | e::r=>dEx k e::dExs k r
end
theorem dExs_map (k:IntKind):∀ l,dExs k l=l.map (dEx k)
 | []=>rfl
 | e::r=>by rw [dExs,dExs_map k r];rfl
theorem dEx_mk (k:IntKind) (op:UInt8) (nm:Str) (n:Int64) (args:List Ex):dEx k (.mk op nm n args)=.str [.val (.int k op.toNat),.val (strV nm),.val (.int .i64 n.toInt),.seq 4 (args.map (dEx k))]:=by rw [dEx,dExs_map]
theorem Ex.ind {C:Ex->Prop} (h:∀ op nm n args,(∀ a∈args,C a)->C (.mk op nm n args)):∀ e,C e
 | .mk op nm n args=>h op nm n args λa ha=>Ex.ind h a
termination_by e=>SizeOf.sizeOf e
decreasing_by
 have:=Al_List_sizeOf_lt_of_mem ha;simp;omega
theorem Sm.ind {C:Sm->Prop} (h:∀ kd nm hd ex th el,(∀ a∈th,C a)->(∀ a∈el,C a)->C (.mk kd nm hd ex th el)):∀ e,C e
 | .mk kd nm hd ex th el=>h kd nm hd ex th el (λa ha=>Sm.ind h a) (λa ha=>Sm.ind h a)
termination_by e=>SizeOf.sizeOf e
decreasing_by
 all_goals
  have:=Al_List_sizeOf_lt_of_mem ha;simp;omega
structure Hd where
 nm:Str
 ps:List Str
 body:List Sm
structure Vr where
 nm:Str
 ty:UInt8
 init:Int64
structure Cp where
 nm:Str
 vars:List Vr
 vers:List (List Hd)
structure Fg where
 nm:Str
 init:Bool
structure Lk where
 fr:Str
 to:Str
 lat:Int64
structure Ft where
 nm:Str
 flags:List Fg
 links:List Lk
 comps:List Cp
/-! ### Structs opened and shut -/
section
variable {H:Hp}
theorem repV {v:Value} (h:v.oneCell'=true) (k:okV v):Rep H (.val v) [v]:=by unfold Rep;exact ⟨Z,h,k⟩
theorem okS {l:Str}:okV (strV l)↔l.length<=1000000:=by simp [okV,strV,ByteArray.size]
theorem repL_cons {d:D} {ds:List D} {l:List Value}:RepL H (d::ds) l↔∃ x y,l=x++y/\Rep H d x/\RepL H ds y:=by
 constructor
 ·intro h;unfold RepL at h;exact h
 ·intro h;unfold RepL;exact h
theorem repL_nil {l:List Value}:RepL H [] l↔l=[]:=by
 constructor
 ·intro h;unfold RepL at h;exact h
 ·intro h;unfold RepL;exact h
theorem repS {ds:List D} {l:List Value}:Rep H (.str ds) l↔RepL H ds l:=by
 constructor
 ·intro h;unfold Rep at h;exact h
 ·intro h;unfold Rep;exact h
theorem repL_val {v:Value} {ds:List D} {l:List Value}:RepL H (.val v::ds) l↔∃ y,l=v::y/\v.oneCell'=true/\okV v/\RepL H ds y:=by
 rw [repL_cons]
 constructor
 ·rintro ⟨x,y,rfl,hx,hy⟩;unfold Rep at hx;obtain ⟨rfl,h,k⟩:=hx;exact ⟨y,Z,h,k,hy⟩
 ·rintro ⟨y,rfl,h,k,hy⟩;exact ⟨[v],y,Z,repV h k,hy⟩
theorem repL_seq {z:Nat} {es ds:List D} {l:List Value}:RepL H (.seq z es::ds) l↔∃ p c y,l=.slice p es.length c::y/\Rep H (.seq z es) [.slice p es.length c]/\RepL H ds y:=by
 rw [repL_cons]
 constructor
 ·rintro ⟨x,y,rfl,hx,hy⟩;obtain ⟨p,c,rfl,_⟩:=hx.sl;exact ⟨p,c,y,Z,hx,hy⟩
 ·rintro ⟨p,c,y,rfl,hx,hy⟩;exact ⟨_,y,Z,hx,hy⟩
theorem map_at {α β:Type} {f:α->β} {l:List α} {k:Nat} (h:k<l.length):(l.map f)[k]? = some (f l[k]):=by simp [h]
theorem ex_open {k:IntKind} {op:UInt8} {nm:Str} {n:Int64} {args:List Ex} {cs:List Value} (h:Rep H (dEx k (.mk op nm n args)) cs) :
 ∃ p c,cs=[.int k op.toNat,strV nm,.int .i64 n.toInt,.slice p args.length c]/\Rep H (.seq 4 (args.map (dEx k))) [.slice p args.length c]/\nm.length<=1000000:=by
 rw [dEx_mk,repS] at h;obtain ⟨_,rfl,_,_,h⟩:=repL_val.1 h;obtain ⟨_,rfl,_,hn,h⟩:=repL_val.1 h;obtain ⟨_,rfl,_,_,h⟩:=repL_val.1 h;obtain ⟨p,c,_,rfl,hs,h⟩:=repL_seq.1 h;rw [repL_nil] at h;subst h;rw [Al_List_length_map] at hs|-;exact ⟨p,c,Z,hs,okS.1 hn⟩
theorem ex_shut {k:IntKind} {op:UInt8} {nm:Str} {n:Int64} {args:List Ex} {s:Value} (hn:nm.length<=1000000) (h:Rep H (.seq 4 (args.map (dEx k))) [s]) :
 Rep H (dEx k (.mk op nm n args)) [.int k op.toNat,strV nm,.int .i64 n.toInt,s]:=by
 rw [dEx_mk,repS];exact repL_val.2 ⟨_,Z,Z,Jt,repL_val.2 ⟨_,Z,Z,okS.2 hn,repL_val.2 ⟨_,Z,Z,Jt,repL_cons.2 ⟨[s],[],Z,h,repL_nil.2 rfl⟩⟩⟩⟩
end
inductive Fm where
 | mk (op:UInt8) (nm fd:Str) (a b:Int64) (ex:List Ex) (args:List Fm)
def Fm.op:Fm->UInt8 | .mk op _ _ _ _ _ _=>op
def Fm.nm:Fm->Str | .mk _ nm _ _ _ _ _=>nm
def Fm.fd:Fm->Str | .mk _ _ fd _ _ _ _=>fd
def Fm.a:Fm->Int64 | .mk _ _ _ a _ _ _=>a
def Fm.b:Fm->Int64 | .mk _ _ _ _ b _ _=>b
def Fm.ex:Fm->List Ex | .mk _ _ _ _ _ ex _=>ex
def Fm.args:Fm->List Fm | .mk _ _ _ _ _ _ args=>args
mutual
def dFm (k:IntKind):Fm->D
 | .mk op nm fd a b ex args=>.str [.val (.int k op.toNat),.val (strV nm),.val (strV fd),.val (.int .i64 a.toInt),.val (.int .i64 b.toInt),.seq 4 (ex.map (dEx k)),.seq 7 (dFms k args)]
def dFms (k:IntKind):List Fm->List D
 | []=>[]
 | f::r=>dFm k f::dFms k r
end
theorem dFms_map (k:IntKind):∀ l,dFms k l=l.map (dFm k)
 | []=>rfl
 | e::r=>by rw [dFms,dFms_map k r];rfl
theorem dFm_mk (k:IntKind) (op:UInt8) (nm fd:Str) (a b:Int64) (ex:List Ex) (args:List Fm):dFm k (.mk op nm fd a b ex args)=.str [.val (.int k op.toNat),.val (strV nm),.val (strV fd),.val (.int .i64 a.toInt),.val (.int .i64 b.toInt),.seq 4 (ex.map (dEx k)),.seq 7 (args.map (dFm k))]:=by rw [dFm,dFms_map]
theorem Fm.ind {C:Fm->Prop} (h:∀ op nm fd a b ex args,(∀ x∈args,C x)->C (.mk op nm fd a b ex args)):∀ e,C e
 | .mk op nm fd a b ex args=>h op nm fd a b ex args λx hx=>Fm.ind h x
termination_by e=>SizeOf.sizeOf e
decreasing_by
 have:=Al_List_sizeOf_lt_of_mem hx;simp;omega
section
variable {H:Hp}
abbrev cFm (k:IntKind) (op:UInt8) (nm fd:Str) (a b:Int64) (s1 s2:Value):List Value:=[.int k op.toNat,strV nm,strV fd,.int .i64 a.toInt,.int .i64 b.toInt,s1,s2]
theorem fm_open {k:IntKind} {op:UInt8} {nm fd:Str} {a b:Int64} {ex:List Ex} {args:List Fm} {cs:List Value} (h:Rep H (dFm k (.mk op nm fd a b ex args)) cs) :
 ∃ p c p1 c1,cs=cFm k op nm fd a b (.slice p ex.length c) (.slice p1 args.length c1)/\Rep H (.seq 4 (ex.map (dEx k))) [.slice p ex.length c]/\Rep H (.seq 7 (args.map (dFm k))) [.slice p1 args.length c1]/\nm.length<=1000000/\fd.length<=1000000:=by
 rw [dFm_mk,repS] at h;obtain ⟨_,rfl,_,_,h⟩:=repL_val.1 h;obtain ⟨_,rfl,_,hn,h⟩:=repL_val.1 h;obtain ⟨_,rfl,_,hm,h⟩:=repL_val.1 h;obtain ⟨_,rfl,_,_,h⟩:=repL_val.1 h;obtain ⟨_,rfl,_,_,h⟩:=repL_val.1 h;obtain ⟨p,c,_,rfl,hs,h⟩:=repL_seq.1 h;obtain ⟨p1,c1,_,rfl,hs1,h⟩:=repL_seq.1 h;rw [repL_nil] at h;subst h;rw [Al_List_length_map] at hs hs1;exact ⟨p,c,p1,c1,by rw [Al_List_length_map,Al_List_length_map],hs,hs1,okS.1 hn,okS.1 hm⟩
theorem fm_shut {k:IntKind} {op:UInt8} {nm fd:Str} {a b:Int64} {ex:List Ex} {args:List Fm} {s s1:Value} (hn:nm.length<=1000000) (hm:fd.length<=1000000) (h:Rep H (.seq 4 (ex.map (dEx k))) [s]) (h1:Rep H (.seq 7 (args.map (dFm k))) [s1]) :
 Rep H (dFm k (.mk op nm fd a b ex args)) (cFm k op nm fd a b s s1):=by
 rw [dFm_mk,repS];exact repL_val.2 ⟨_,Z,Z,Jt,repL_val.2 ⟨_,Z,Z,okS.2 hn,repL_val.2 ⟨_,Z,Z,okS.2 hm,repL_val.2 ⟨_,Z,Z,Jt,repL_val.2 ⟨_,Z,Z,Jt,repL_cons.2 ⟨[s],_,Z,h,repL_cons.2 ⟨[s1],[],Z,h1,repL_nil.2 rfl⟩⟩⟩⟩⟩⟩⟩
theorem fm_len {k:IntKind} {f:Fm} {cs:List Value} (h:Rep H (dFm k f) cs):cs.length=7:=by
 obtain ⟨op,nm,fd,a,b,ex,args⟩:=f;obtain ⟨_,_,_,_,rfl,_⟩:=fm_open h
 rfl
end
mutual
def Fm.all (q:Fm->Bool):Fm->Bool
 | .mk op nm fd a b ex args=>q (.mk op nm fd a b ex args) && Fm.alls q args
def Fm.alls (q:Fm->Bool):List Fm->Bool
 | []=>true
 | f::r=>Fm.all q f && Fm.alls q r
end
mutual
def Fm.depth:Fm->Nat
 | .mk _ _ _ _ _ _ args=>Fm.deeps args+1
def Fm.deeps:List Fm->Nat
 | []=>0
 | f::r=>max (Fm.depth f) (Fm.deeps r)
end
mutual
def Ex.count:Ex->Nat
 | .mk _ _ _ args=>Ex.counts args+1
def Ex.counts:List Ex->Nat
 | []=>0
 | e::r=>Ex.count e+Ex.counts r
end
mutual
def Fm.count:Fm->Nat
 | .mk _ _ _ _ _ ex args=>Ex.counts ex+Fm.counts args+1
def Fm.counts:List Fm->Nat
 | []=>0
 | f::r=>Fm.count f+Fm.counts r
end
mutual
def Ex.depth:Ex->Nat
 | .mk _ _ _ args=>Ex.deeps args+1
def Ex.deeps:List Ex->Nat
 | []=>0
 | e::r=>max (Ex.depth e) (Ex.deeps r)
end
variable {k:Nat}
theorem take_snoc {α:Type} {l:List α} (h:k<l.length):l.take (k+1)=l.take k++[l[k]]:=by simp
theorem deeps_app (a b:List Ex):Ex.deeps (a++b)=max (Ex.deeps a) (Ex.deeps b):=by
 induction a with
 | nil=>simp [Ex.deeps]
 | cons e r ih=>simp only [Al_List_cons_append,Ex.deeps,ih];omega
theorem deeps_succ {l:List Ex} (h:k<l.length):Ex.deeps (l.take (k+1))=max (Ex.deeps (l.take k)) (Ex.depth l[k]):=by
 rw [take_snoc h,deeps_app];simp [Ex.deeps]
theorem deeps_take (l:List Ex) (k:Nat):Ex.deeps (l.take k)<=Ex.deeps l:=by
 have:=deeps_app (l.take k) (l.drop k);rw [Al_List_take_append_drop] at this;omega
theorem deeps_mem {l:List Ex} {e:Ex} (h:e∈l):Ex.depth e<=Ex.deeps l:=by
 induction l with
 | nil=>cases h
 | cons a r ih =>
  simp only [Ex.deeps];rcases Al_List_mem_cons.1 h with rfl | h
  ·omega
  ·have:=ih h;omega
theorem deeps_at {l:List Ex} (h:k<l.length):Ex.depth l[k]<=Ex.deeps l:=deeps_mem (Al_List_getElem_mem h)
theorem depth_mk (op:UInt8) (nm:Str) (n:Int64) (args:List Ex):Ex.depth (.mk op nm n args)=Ex.deeps args+1:=by rw [Ex.depth]
def Sm.kd:Sm->UInt8 | .mk kd _ _ _ _ _=>kd
def Sm.nm:Sm->Str | .mk _ nm _ _ _ _=>nm
def Sm.hd:Sm->Str | .mk _ _ hd _ _ _=>hd
def Sm.ex:Sm->List Ex | .mk _ _ _ ex _ _=>ex
def Sm.th:Sm->List Sm | .mk _ _ _ _ th _=>th
def Sm.el:Sm->List Sm | .mk _ _ _ _ _ el=>el
mutual
def Sm.depth:Sm->Nat
 | .mk _ _ _ _ th el=>max (Sm.deeps th) (Sm.deeps el)+1
def Sm.deeps:List Sm->Nat
 | []=>0
 | e::r=>max (Sm.depth e) (Sm.deeps r)
end
mutual
def Sm.count:Sm->Nat
 | .mk _ _ _ _ th el=>Sm.counts th+Sm.counts el+1
def Sm.counts:List Sm->Nat
 | []=>0
 | e::r=>Sm.count e+Sm.counts r
end
theorem sdeeps_app (a b:List Sm):Sm.deeps (a++b)=max (Sm.deeps a) (Sm.deeps b):=by
 induction a with
 | nil=>simp [Sm.deeps]
 | cons e r ih=>simp only [Al_List_cons_append,Sm.deeps,ih];omega
theorem scounts_app (a b:List Sm):Sm.counts (a++b)=Sm.counts a+Sm.counts b:=by
 induction a with
 | nil=>simp [Sm.counts]
 | cons e r ih=>simp only [Al_List_cons_append,Sm.counts,ih];omega
theorem scount_mk (kd:UInt8) (nm hd:Str) (ex:List Ex) (th el:List Sm):Sm.count (.mk kd nm hd ex th el)=Sm.counts th+Sm.counts el+1:=by rw [Sm.count]
theorem scounts_len (l:List Sm):l.length<=Sm.counts l:=by
 induction l with
 | nil=>simp
 | cons e r ih =>
  obtain ⟨kd,nm,hd,ex,th,el⟩:=e;simp only [Al_List_length_cons,Sm.counts,scount_mk];omega
def letB (c:UInt8):Bool:=(decide (97<=c.toNat) && decide (c.toNat<=122)) || (decide (65<=c.toNat) && decide (c.toNat<=90))
def digB (c:UInt8):Bool:=decide (48<=c.toNat) && decide (c.toNat<=57)
def insB (c:UInt8):Bool:=letB c || digB c || decide (c.toNat=95)
def words:List Str:=[[97,102,116,101,114],[97,108,119,97,121,115],[97,110,100],[97,114,114,105,118,101,115],[98,111,111,108],[99,111,109,112,111,110,101,110,116],[99,111,117,110,116],[100,101,108,101,116,101],[100,111],[101,108,115,101],[101,120,105,115,116,115],[102,97,108,115,101],[102,101,116,99,104],[102,108,97,103],[102,108,101,101,116],[102,111,114,97,108,108],[104,97,115],[105,102],[105,109,112,108,105,101,115],[105,110],[105,110,116],[108,97,116,101,110,99,121],[108,105,110,107],[110,111,116],[110,111,119],[111,110],[111,110,99,101],[111,114],[112,114,101,118,105,111,117,115],[115,101,110,100],[115,105,110,99,101],[115,105,122,101],[115,116,111,112],[115,116,111,114,101],[116,97,98,108,101],[116,114,117,101],[118,97,114],[118,101,114,115,105,111,110],[119,104,105,108,101]]
def symbols:List Str:=[[46,46],[61,61],[33,61],[60,61],[62,61],[45,62],[123],[125],[40],[41],[91],[93],[44],[59],[58],[46],[61],[60],[62],[43],[45],[42],[47],[37],[95]]
def pre (q:UInt8->Bool) (l:Str):Nat:=(l.takeWhile q).length
theorem pre_le (q:UInt8->Bool) (l:Str):pre q l<=l.length:=by
 unfold pre;induction l with
 | nil=>simp
 | cons a r ih=>rw [Al_List_takeWhile_cons];split <;> simp;omega
theorem pre_step {q:UInt8->Bool}:∀ {l:Str} {k:Nat} (h:k<l.length),k<=pre q l->q l[k]=true->k+1<=pre q l
 | [],k,h,_,_=>by simp at h
 | a::r,0,h,_,hq=>by
  unfold pre;rw [Al_List_takeWhile_cons];simp at hq;simp [hq]
 | a::r,k+1,h,hk,hq=>by
  unfold pre at hk|-;rw [Al_List_takeWhile_cons] at hk|-;cases ha:q a with
  | false=>rw [ha] at hk;simp at hk
  | true =>
   rw [ha] at hk;simp at hk hq;have:=pre_step (l:=r) (k:=k) (by simpa using h) hk hq;unfold pre at this;simp;omega
theorem pre_stop {q:UInt8->Bool}:∀ {l:Str} {k:Nat} (h:k<l.length),k<=pre q l->q l[k]=false->k=pre q l
 | [],k,h,_,_=>by simp at h
 | a::r,0,h,_,hq=>by
  unfold pre;rw [Al_List_takeWhile_cons];simp at hq;simp [hq]
 | a::r,k+1,h,hk,hq=>by
  unfold pre at hk|-;rw [Al_List_takeWhile_cons] at hk|-;cases ha:q a with
  | false=>rw [ha] at hk;simp at hk
  | true =>
   rw [ha] at hk;simp at hk hq;have:=pre_stop (l:=r) (k:=k) (by simpa using h) hk hq;unfold pre at this;simp;omega
def readK (l:Str):UInt8 × Nat :=
 let c:=l.headD 0
 if letB c then
  if words.contains (l.take (pre insB l)) then (2,pre insB l) else if pre insB l<=12 then (1,pre insB l) else (5,l.length)
 else if digB c then
  if pre digB l=1\/c≠48 then (3,pre digB l) else (5,l.length)
 else match symbols.find? (λx=>x.isPrefixOf l) with
  | some x=>(4,x.length)
  | none=>(5,l.length)
def nameB (l:Str):Bool:=decide (l≠[]) && (readK l).1 == 1 && decide ((readK l).2=l.length)
def hasP (l m:Str):Bool:=decide (m.length<=l.length) && decide (l.take m.length=m)
theorem hasP_pre (l m:Str):hasP l m=m.isPrefixOf l:=by
 rw [Al_Bool_eq_iff_iff];simp only [hasP,Al_Bool_and_eq_true,Al_decide_eq_true_eq,Al_List_isPrefixOf_iff_prefix]
 constructor
 ·rintro ⟨_,h⟩;have:=Al_List_take_append_drop m.length l;rw [h] at this;exact ⟨_,this⟩
 ·rintro ⟨t,rfl⟩;simp
theorem getD_at {α:Type} {l:List α} (h:k<l.length) (d:α):l.getD k d=l[k]:=by simp [h]
theorem list_at {α β:Type} {f:α->β} {l:List α} (h:k<l.length) (d:α):(l.map f)[k]? = some (f (l.getD k d)):=by simp [h]
structure Shp where
 n:Nat
 nm:Bool
 lv:Nat
 tx:Str
structure Frm where
 nm:Bool
 hd:Bool
 lo:Nat
 hi:Nat
 th:Bool
 el:Bool
def shapes:List Shp:=[⟨0,false,0,[]⟩,⟨0,false,7,[]⟩,⟨0,false,7,[116,114,117,101]⟩,⟨0,false,7,[102,97,108,115,101]⟩,⟨0,false,7,[110,111,119]⟩,⟨0,true,7,[]⟩,⟨1,true,7,[]⟩,⟨1,true,7,[104,97,115,32]⟩,⟨0,true,7,[115,105,122,101,32]⟩,⟨1,false,6,[45]⟩,⟨1,false,6,[110,111,116,32]⟩,⟨2,false,5,[32,42,32]⟩,⟨2,false,5,[32,47,32]⟩,⟨2,false,5,[32,37,32]⟩,⟨2,false,4,[32,43,32]⟩,⟨2,false,4,[32,45,32]⟩,⟨2,false,3,[32,61,61,32]⟩,⟨2,false,3,[32,33,61,32]⟩,⟨2,false,3,[32,60,32]⟩,⟨2,false,3,[32,60,61,32]⟩,⟨2,false,3,[32,62,32]⟩,⟨2,false,3,[32,62,61,32]⟩,⟨2,false,2,[32,97,110,100,32]⟩,⟨2,false,1,[32,111,114,32]⟩]
def forms:List Frm:=[⟨false,false,0,0,false,false⟩,⟨true,false,1,1,false,false⟩,⟨true,false,2,2,false,false⟩,⟨true,false,1,1,false,false⟩,⟨false,false,1,1,true,true⟩,⟨false,false,1,1,true,false⟩,⟨true,true,0,4,false,false⟩,⟨false,true,1,5,false,false⟩,⟨false,false,2,2,false,true⟩,⟨true,false,1,1,false,true⟩,⟨false,false,0,0,false,false⟩]
def okOp (op:UInt8):Bool:=decide (1<=op.toNat) && decide (op.toNat<=23)
def okKd (op:UInt8):Bool:=decide (1<=op.toNat) && decide (op.toNat<=10)
def shapeOf (op:UInt8):Shp:=if okOp op then shapes.getD op.toNat ⟨0,false,0,[]⟩ else ⟨0,false,0,[]⟩
def formOf (op:UInt8):Frm:=if okKd op then forms.getD op.toNat ⟨false,false,0,0,false,false⟩ else ⟨false,false,0,0,false,false⟩
theorem flat_at {α:Type} {f:α->List Value} {z:Nat} (hz:∀ a,(f a).length=z):∀ {l:List α} {i:Nat} (d:α),i<l.length->∀ (j:Nat) u,(f (l.getD i d))[j]? = some u->(l.flatMap f)[i * z+j]? = some u
 | [],i,d,h,j,u,e=>by simp at h
 | a::r,0,d,h,j,u,e=>by
  simp only [List.flatMap_cons,Al_Nat_zero_mul,Al_Nat_zero_add];simp at e;rw [List.getElem?_append_left (List.getElem?_eq_some_iff.1 e).1];exact e
 | a::r,i+1,d,h,j,u,e=>by
  simp only [List.flatMap_cons];rw [List.getElem?_append_right (by rw [hz,Al_Nat_succ_mul];omega),hz,show (i+1) * z+j - z=i * z+j by rw [Al_Nat_succ_mul];omega];exact flat_at hz d (by simpa using h) j u (by simpa using e)
structure Gl (H:Hp):Prop where
 words:MemAt H 5 0 (words.map strV)
 symbols:MemAt H 3 0 (symbols.map strV)
variable {H H':Hp}
theorem Gl.up (g:Gl H) (u:Up H H'):Gl H':=⟨g.words.up u,g.symbols.up u⟩
mutual
def Ex.all (q:Ex->Bool):Ex->Bool
 | .mk op nm n args=>q (.mk op nm n args) && Ex.alls q args
def Ex.alls (q:Ex->Bool):List Ex->Bool
 | []=>true
 | e::r=>Ex.all q e && Ex.alls q r
end
theorem all_mk (q:Ex->Bool) (op:UInt8) (nm:Str) (n:Int64) (args:List Ex):Ex.all q (.mk op nm n args)=(q (.mk op nm n args) && Ex.alls q args):=by rw [Ex.all]
mutual
def Sm.all (q:Sm->Bool):Sm->Bool
 | .mk kd nm hd ex th el=>q (.mk kd nm hd ex th el) && Sm.alls q th && Sm.alls q el
def Sm.alls (q:Sm->Bool):List Sm->Bool
 | []=>true
 | e::r=>Sm.all q e && Sm.alls q r
end
theorem salls_app (q:Sm->Bool) (a b:List Sm):Sm.alls q (a++b)=(Sm.alls q a && Sm.alls q b):=by
 induction a with
 | nil=>simp [Sm.alls]
 | cons e r ih=>simp only [Al_List_cons_append,Sm.alls,ih,Al_Bool_and_assoc]
theorem sall_mk (q:Sm->Bool) (kd:UInt8) (nm hd:Str) (ex:List Ex) (th el:List Sm):Sm.all q (.mk kd nm hd ex th el)=(q (.mk kd nm hd ex th el) && Sm.alls q th && Sm.alls q el):=by rw [Sm.all]
def namE:Ex->Bool
 | .mk op nm _ _=>!(shapeOf op).nm || nameB nm
def frmE:Ex->Bool
 | .mk op nm n args=>okOp op && decide (args.length=(shapeOf op).n) && ((shapeOf op).nm || decide (nm=[])) && (if op=1 then decide (0<=n.toInt) else decide (n.toInt=0))
def namS:Sm->Bool
 | .mk kd nm hd ex _ _=>(!(formOf kd).nm || nameB nm) && (!(formOf kd).hd || nameB hd) && Ex.alls namE ex
def frmS:Sm->Bool
 | .mk kd nm hd ex th el=>okKd kd && decide ((formOf kd).lo<=ex.length) && decide (ex.length<=(formOf kd).hi) && ((formOf kd).nm || decide (nm=[])) && ((formOf kd).hd || decide (hd=[])) &&
  ((formOf kd).th || decide (th.length=0)) && ((formOf kd).el || decide (el.length=0)) && Ex.alls frmE ex
def smaS:Sm->Bool
 | .mk _ _ _ ex _ _=>ex.all λx=>decide (x.depth<=8)
def frmH (h:Hd):Bool:=Sm.alls frmS h.body
structure Fs where
 lv:Nat
 nm:Bool
 fd:Bool
 wn:Bool
 am:Bool
 ex:Nat
 ar:Nat
def zFs:Fs:=⟨0,false,false,false,false,0,0⟩
def fshapes:List Fs:=[zFs,⟨6,false,false,false,false,0,0⟩,⟨6,false,false,false,false,0,0⟩,⟨6,false,false,false,false,1,0⟩,⟨6,true,true,false,false,0,0⟩,⟨6,true,true,false,false,1,0⟩,⟨6,true,false,false,false,0,0⟩,⟨6,true,true,false,false,0,0⟩,
 ⟨5,false,false,false,false,0,1⟩,⟨3,false,false,false,false,0,2⟩,⟨2,false,false,false,false,0,2⟩,⟨1,false,false,false,false,0,2⟩,⟨5,false,false,false,false,0,1⟩,⟨5,false,false,true,false,0,1⟩,⟨5,false,false,true,false,0,1⟩,⟨4,false,false,true,false,0,2⟩,
 ⟨5,true,false,false,true,0,1⟩,⟨5,true,false,false,true,0,1⟩,⟨5,true,false,false,true,1,1⟩]
def fsOf (op:UInt8):Fs:=fshapes.getD op.toNat zFs
def splitF:Str->Option (Str × Str)
 | []=>none
 | c::r=>if c=46 then some ([],r) else (splitF r).map λx=>(c::x.1,x.2)
def bothB (n:Str):Bool:=match splitF n with | some (a,b)=>nameB a && nameB b | none=>false
def shalB (f:Fm):Bool:=!f.ex.any λe=>decide ((if f.op=3 then 9 else 8)<e.depth)
mutual
def misB:Ex->Bool
 | .mk op nm _ args=>(decide (op=5) && !bothB nm && !nameB nm) || ((decide (op=6) || decide (op=8)) && !bothB nm) || misBs args
def misBs:List Ex->Bool
 | []=>false
 | e::r=>misB e || misBs r
end
def namdB (f:Fm):Bool:=!((fsOf f.op).nm && !nameB f.nm || (fsOf f.op).fd && !nameB f.fd) && !misBs f.ex
mutual
def termB:Ex->Bool
 | .mk op nm n args =>
  if op=1 then decide (nm=[]) && decide (0<=n.toInt) && decide (args.length=0)
  else if op=4 then decide (nm=[]) && decide (n=0) && decide (args.length=0)
  else if op=5\/op=8 then decide (n=0) && decide (args.length=0)
  else if op=6 then decide (n=0) && (termBs args && decide (args.length=1))
  else if op=9 then decide (nm=[]) && decide (n=0) && (termBs args && decide (args.length=1))
  else if op=11\/op=12\/op=13\/op=14\/op=15 then decide (nm=[]) && decide (n=0) && (termBs args && decide (args.length=2))
  else false
def termBs:List Ex->Bool
 | []=>true
 | e::r=>termB e && termBs r
end
def anyB:Ex->Bool
 | .mk op nm n args=>decide (op=0) && decide (nm=[]) && decide (n=0) && decide (args.length=0)
def cmpB:Ex->Bool
 | .mk op nm n args=>decide (16<=op.toNat) && decide (op.toNat<=21) && decide (nm=[]) && decide (n=0) && (termBs args && decide (args.length=2))
def bndB (f:Fm):Bool :=
 if (fsOf f.op).wn then (decide (f.a=0) && decide (f.b.toInt=-1)) || (decide (0<=f.a.toInt) && decide (f.a.toInt<=f.b.toInt) && decide (f.b.toInt<=200))
 else if (fsOf f.op).am then decide (-1000000<=f.a.toInt) && decide (f.a.toInt<=f.b.toInt) && decide (f.b.toInt<=1000000) && decide (f.b.toInt - f.a.toInt<32)
 else decide (f.a=0) && decide (f.b=0)
def exsB (f:Fm):Bool :=
 if f.op=7 then decide (f.ex.length<=4) && f.ex.all λe=>anyB e || termB e
 else decide (f.ex.length=(fsOf f.op).ex) && (if f.op=3 then cmpB (f.ex.headD (.mk 0 [] 0 [])) else if f.op=5 then termB (f.ex.headD (.mk 0 [] 0 []))
  else if f.op=18 then decide ((f.ex.headD (.mk 0 [] 0 [])).op=1) && termB (f.ex.headD (.mk 0 [] 0 [])) && decide ((f.ex.headD (.mk 0 [] 0 [])).n.toInt<=32) else true)
def formB (f:Fm):Bool :=
 decide (¬ (fsOf f.op).lv=0) && ((fsOf f.op).nm || decide (f.nm=[])) && ((fsOf f.op).fd || decide (f.fd=[])) && decide (f.args.length=(fsOf f.op).ar) && bndB f && exsB f
def fcheck (f:Fm):Nat:=if 60<Fm.count f\/Fm.all shalB f=false then 3 else if Fm.all namdB f=false then 9 else if Fm.all formB f=false then 6 else 0
def opT (least:Nat) (x:Nat × Str):Str:=if x.1<least then [40]++x.2++[41] else x.2
def lftT (lv:Nat):Nat:=if lv=3 then lv+1 else lv
def txt (op:UInt8) (nm:Str) (n:Int64) (ls:List (Nat × Str)):Str :=
 if op=1 then Lib.itoa n.toInt
 else if op=5\/op=8 then (shapeOf op).tx++nm
 else if op=6\/op=7 then (shapeOf op).tx++nm++[91]++(ls.getD 0 (0,[])).2++[93]
 else if op=9\/op=10 then (shapeOf op).tx++opT (shapeOf op).lv (ls.getD 0 (0,[]))
 else if (shapeOf op).n=0 then (shapeOf op).tx
 else opT (lftT (shapeOf op).lv) (ls.getD 0 (0,[]))++(shapeOf op).tx++opT ((shapeOf op).lv+1) (ls.getD 1 (0,[]))
mutual
def Ex.text:Ex->Str
 | .mk op nm n args=>txt op nm n (Ex.texts args)
def Ex.texts:List Ex->List (Nat × Str)
 | []=>[]
 | e::r=>((shapeOf e.op).lv,Ex.text e)::Ex.texts r
end
theorem texts_map:∀ l:List Ex,Ex.texts l=l.map λe=>((shapeOf e.op).lv,Ex.text e)
 | []=>rfl
 | e::r=>by rw [Ex.texts,texts_map r];rfl
theorem text_mk (op:UInt8) (nm:Str) (n:Int64) (args:List Ex):Ex.text (.mk op nm n args)=txt op nm n (args.map λe=>((shapeOf e.op).lv,Ex.text e)):=by rw [Ex.text,texts_map]
def spT:Nat->Str
 | 0=>[]
 | k+1=>spT k++[32,32]
def lineT (ind:Nat) (parts:List Str):Str:=spT ind++parts.flatten++[10]
def joinT (l:List Str):Str:=Lib.join l [44,32]
def diskT (n:Nat) (first:Str) (noE:Bool) (E:Str):Str:=if noE then lineT n [first,[59]] else lineT n [first,[32,101,108,115,101,32,123]]++E++lineT n [[125]]
def stT (n:Nat) (kd:UInt8) (nm hd:Str) (es:List Str) (T:Str) (noE:Bool) (E:Str):Str :=
 if kd=1 then lineT n [nm,[32,61,32],es.getD 0 [],[59]]
 else if kd=2 then lineT n [nm,[91],es.getD 0 [],[93,32,61,32],es.getD 1 [],[59]]
 else if kd=3 then lineT n [[100,101,108,101,116,101,32],nm,[91],es.getD 0 [],[93,59]]
 else if kd=4 then lineT n [[105,102,32],es.getD 0 [],[32,123]]++T++(if noE then [] else lineT n [[125,32,101,108,115,101,32,123]]++E)++lineT n [[125]]
 else if kd=5 then lineT n [[119,104,105,108,101,32],es.getD 0 [],[32,123]]++T++lineT n [[125]]
 else if kd=6 then lineT n [[115,101,110,100,32],nm,[46],hd,[40],joinT es,[41,59]]
 else if kd=7 then lineT n [[97,102,116,101,114,32],es.getD 0 [],[32,100,111,32],hd,[40],joinT (es.drop 1),[41,59]]
 else if kd=8 then diskT n ([115,116,111,114,101,32]++es.getD 0 []++[32,61,32]++es.getD 1 []) noE E
 else if kd=9 then diskT n ([102,101,116,99,104,32]++nm++[32,61,32]++es.getD 0 []) noE E
 else if kd=10 then lineT n [[115,116,111,112,59]]
 else []
mutual
def Sm.text (n:Nat):Sm->Str
 | .mk kd nm hd ex th el=>stT n kd nm hd (ex.map Ex.text) (Sm.texts (n+1) th) (decide (el.length=0)) (Sm.texts (n+1) el)
def Sm.texts (n:Nat):List Sm->Str
 | []=>[]
 | s::r=>Sm.text n s++Sm.texts n r
end
theorem stext_mk (n:Nat) (kd:UInt8) (nm hd:Str) (ex:List Ex) (th el:List Sm):Sm.text n (.mk kd nm hd ex th el)=stT n kd nm hd (ex.map Ex.text) (Sm.texts (n+1) th) (decide (el.length=0)) (Sm.texts (n+1) el):=by rw [Sm.text]
theorem itoa_len (n:Int64):(Lib.itoa n.toInt).length<=21:=Lib.itoa_length_le n.toInt (by have:=n.le_toInt;omega) (by have:=n.toInt_lt;omega)
theorem name_len {l:Str} (h:nameB l=true):l.length<=12:=by
 simp only [nameB,Al_Bool_and_eq_true,Al_decide_eq_true_eq,Al_beq_iff_eq] at h;obtain ⟨⟨_,h1⟩,h2⟩:=h;unfold readK at h1 h2;dsimp only at h1 h2
 split at h1
 ·split at h1
  ·simp at h1
  ·split at h1
   ·rename_i a b c;simp only [a,b,c,Al_if_true,Al_Bool_false_eq_true,Al_if_false] at h2;omega
   ·simp at h1
 ·split at h1
  ·split at h1 <;> simp at h1
  ·split at h1 <;> simp at h1
theorem alls_mem {q:Ex->Bool}:∀ {l:List Ex} {a:Ex},a∈l->Ex.alls q l=true->Ex.all q a=true
 | [],a,h,_=>by cases h
 | b::r,a,h,k=>by
  rw [Ex.alls,Al_Bool_and_eq_true] at k;rcases Al_List_mem_cons.1 h with rfl | h
  ·exact k.1
  ·exact alls_mem h k.2
structure Nd where
 op:UInt8
 nm:UInt8
 ct:UInt8
 odd:Bool
 n:Int64
def arR (k:Nat):Int:=if k<1\/23<k then -1 else if k<=5\/k=8 then 0 else if k=6\/k=7\/k=9\/k=10 then 1 else 2
def narrow (e:Ex):Bool:=decide (e.args.length<=3)
def blkB (c:UInt8):Bool:=decide (c=32) || decide (c=9) || decide (c=10) || decide (c=13)
def skipS:Bool->Str->Str
 | _,[]=>[]
 | true,c::r=>if c=10 then skipS false r else skipS true r
 | false,c::r=>if blkB c then skipS false r else if c=47/\r.head? = some 47 then skipS true r else c::r
theorem skipS_nil (b:Bool):skipS b []=[]:=by cases b <;> rfl
variable {r:Str}
theorem skipS_com {c:UInt8} (h:¬ c=10):skipS true (c::r)=skipS true r:=by rw [skipS,Al_if_neg h]
theorem skipS_end (r:Str):skipS true (10::r)=skipS false (10::r):=by rw [skipS,Al_if_pos rfl,skipS,Al_if_pos (by decide)]
theorem skipS_blk {c:UInt8} (h:blkB c=true):skipS false (c::r)=skipS false r:=by rw [skipS,Al_if_pos h]
theorem skipS_two (r:Str):skipS false (47::47::r)=skipS true (47::47::r):=by simp [skipS,blkB]
theorem skipS_stop {c:UInt8} (h:blkB c=false) (h2:¬ (c=47/\r.head? = some 47)):skipS false (c::r)=c::r:=by rw [skipS,Al_if_neg (by simp [h]),Al_if_neg h2]
theorem skipS_suf:∀ (l:Str) (b:Bool),∃ p,l=p++skipS b l
 | [],b=>⟨[],by rw [skipS_nil];rfl⟩
 | c::r,true=>by
  rw [skipS]
  split
  ·obtain ⟨p,h⟩:=skipS_suf r false;exact ⟨c::p,by rw [Al_List_cons_append,<-h]⟩
  ·obtain ⟨p,h⟩:=skipS_suf r true;exact ⟨c::p,by rw [Al_List_cons_append,<-h]⟩
 | c::r,false=>by
  rw [skipS]
  split
  ·obtain ⟨p,h⟩:=skipS_suf r false;exact ⟨c::p,by rw [Al_List_cons_append,<-h]⟩
  ·split
   ·obtain ⟨p,h⟩:=skipS_suf r true;exact ⟨c::p,by rw [Al_List_cons_append,<-h]⟩
   ·exact ⟨[],Z⟩
theorem skipS_len (b:Bool) (l:Str):(skipS b l).length<=l.length:=by
 obtain ⟨p,h⟩:=skipS_suf l b;have:=congrArg List.length h;rw [Al_List_length_append] at this;omega
theorem skipS_drop (b:Bool) (l:Str):l.drop (l.length - (skipS b l).length)=skipS b l:=by
 obtain ⟨p,h⟩:=skipS_suf l b;generalize skipS b l=q at h;subst h;rw [show (p++q).length - q.length=p.length by rw [Al_List_length_append];omega,List.drop_left]
theorem readK_bnd {l:Str} (h:l≠[]):1<=(readK l).2/\(readK l).2<=l.length:=by
 match l,h with
 | c::r,_ =>
  have hp:∀ q:UInt8->Bool,q c=true->1<=pre q (c::r):=λq hq=>by unfold pre;rw [Al_List_takeWhile_cons,hq];simp
  cases h1:letB c with
  | true =>
   have h2:=hp insB (by simp [insB,h1]);have h3:=pre_le insB (c::r);cases h4:words.contains ((c::r).take (pre insB (c::r))) with
   | true=>simp only [readK,Al_List_headD_cons,h1,h4,Al_if_true];exact ⟨h2,h3⟩
   | false =>
    by_cases h5:pre insB (c::r)<=12
    ·simp only [readK,Al_List_headD_cons,h1,h4,h5,Al_if_true,Al_Bool_false_eq_true,Al_if_false];exact ⟨h2,h3⟩
    ·simp only [readK,Al_List_headD_cons,h1,h4,h5,Al_if_true,Al_Bool_false_eq_true,Al_if_false];simp
  | false =>
   cases h4:digB c with
   | true =>
    have h2:=hp digB h4;have h3:=pre_le digB (c::r)
    by_cases h5:pre digB (c::r)=1\/c≠48
    ·simp only [readK,Al_List_headD_cons,h1,h4,h5,Al_if_true,Al_Bool_false_eq_true,Al_if_false];exact ⟨h2,h3⟩
    ·simp only [readK,Al_List_headD_cons,h1,h4,h5,Al_if_true,Al_Bool_false_eq_true,Al_if_false];simp
   | false =>
    cases hx:symbols.find? (λx=>x.isPrefixOf (c::r)) with
    | none=>simp only [readK,Al_List_headD_cons,h1,h4,hx,Al_Bool_false_eq_true,Al_if_false];simp
    | some x =>
     have hm:=List.mem_of_find?_eq_some hx;have hpx:=List.find?_some hx
     have hl:x.length<=(c::r).length:=by
      obtain ⟨t,ht⟩:=Al_List_isPrefixOf_iff_prefix.1 hpx;rw [<-ht];simp
     have key:∀ y∈symbols,1<=y.length:=by decide
     simp only [readK,Al_List_headD_cons,h1,h4,hx,Al_Bool_false_eq_true,Al_if_false];exact ⟨key x hm,hl⟩
theorem readK_one {c:UInt8} (h:(readK (c::r)).1=1):letB c=true:=by
 cases h1:letB c with
 | true=>rfl
 | false =>
  cases h4:digB c with
  | true =>
   by_cases h5:pre digB (c::r)=1\/c≠48
   ·simp only [readK,Al_List_headD_cons,h1,h4,h5,Al_if_true,Al_Bool_false_eq_true,Al_if_false] at h;simp at h
   ·simp only [readK,Al_List_headD_cons,h1,h4,h5,Al_if_true,Al_Bool_false_eq_true,Al_if_false] at h;simp at h
  | false =>
   cases hx:symbols.find? (λx=>x.isPrefixOf (c::r)) <;> simp only [readK,Al_List_headD_cons,h1,h4,hx,Al_Bool_false_eq_true,Al_if_false] at h <;> simp at h
structure Tk where
 k:UInt8
 t:Str
 o:Nat
def dTk (k:IntKind) (x:Tk):D:=.str [.val (.int k x.k.toNat),.val (strV x.t),.val (iN x.o)]
def cTk (k:IntKind) (x:Tk):List Value:=[.int k x.k.toNat,strV x.t,iN x.o]
theorem tk_open {k:IntKind} {x:Tk} {cs:List Value} (h:Rep H (dTk k x) cs):cs=cTk k x/\x.t.length<=1000000:=by
 rw [dTk,repS] at h;obtain ⟨_,rfl,_,_,h⟩:=repL_val.1 h;obtain ⟨_,rfl,_,k0,h⟩:=repL_val.1 h;obtain ⟨_,rfl,_,_,h⟩:=repL_val.1 h;rw [repL_nil] at h;subst h;exact ⟨Z,okS.1 k0⟩
theorem tk_shut {k:IntKind} {x:Tk} (h:x.t.length<=1000000):Rep H (dTk k x) (cTk k x):=by
 rw [dTk,repS];exact repL_val.2 ⟨_,Z,Z,Jt,repL_val.2 ⟨_,Z,Z,okS.2 h,repL_val.2 ⟨_,Z,Z,Jt,repL_nil.2 rfl⟩⟩⟩
def tokF:Nat->Nat->Str->List Tk
 | 0,_,_=>[]
 | f+1,o,m=>if m=[] then [] else ⟨(readK m).1,m.take (readK m).2,o⟩::tokF f (o+(m.length - (skipS false (m.drop (readK m).2)).length)) (skipS false (m.drop (readK m).2))
def lexR (s:Str):List Tk:=tokF (s.length+1) (s.length - (skipS false s).length) (skipS false s)
theorem tokF_step {f o:Nat} {m:Str} (h:m≠[]):tokF (f+1) o m=⟨(readK m).1,m.take (readK m).2,o⟩::tokF f (o+(m.length - (skipS false (m.drop (readK m).2)).length)) (skipS false (m.drop (readK m).2)):=by rw [tokF,Al_if_neg h]
theorem tokF_nil (f o:Nat):tokF f o []=[]:=by cases f <;> simp [tokF]
theorem tokF_more:∀ (f g o:Nat) (m:Str),m.length<f->m.length<g->tokF f o m=tokF g o m
 | 0,_,_,_,h,_=>by omega
 | _,0,_,_,_,h=>by omega
 | f+1,g+1,o,m,h,k=>by
  by_cases h0:m=[]
  ·subst h0;rw [tokF_nil,tokF_nil]
  ·rw [tokF_step h0,tokF_step h0];have hr:=readK_bnd h0;have hs:=skipS_len false (m.drop (readK m).2);rw [Al_List_length_drop] at hs;rw [tokF_more f g _ _ (by omega) (by omega)]
inductive Rs (α:Type) where
 | ok (a:α) (r:List Tk)
 | er (r:List Tk) (code:Nat)
def Rs.bind {α β:Type} (x:Rs α) (f:α->List Tk->Rs β):Rs β:=match x with | .ok a r=>f a r | .er r c=>.er r c
def isT (w:Str):List Tk->Bool
 | []=>false
 | t::_=>(t.k == 2 || t.k == 4) && decide (t.t=w)
def needT {α:Type} (w:Str) (r:List Tk) (f:List Tk->Rs α):Rs α:=if isT w r then f r.tail else .er r 8
def nameT {α:Type} (r:List Tk) (f:Str->List Tk->Rs α):Rs α:=match r with | []=>.er r 8 | t::q=>if t.k=1 then f t.t q else .er r 8
def numV (s:Str):Nat:=s.foldl (λv c=>10 * v+(c.toNat - 48)) 0
def opsL:Nat->List (Str × UInt8)
 | 0=>[([111,114],23)]
 | 1=>[([97,110,100],22)]
 | 2=>[([61,61],16),([33,61],17),([60],18),([60,61],19),([62],20),([62,61],21)]
 | 3=>[([43],14),([45],15)]
 | _=>[([42],11),([47],12),([37],13)]
def opAt (lv:Nat) (r:List Tk):Option UInt8:=((opsL lv).find? λx=>isT x.1 r).map (·.2)
inductive Md where
 | ex (lv:Nat)
 | lp (lv:Nat) (a:Ex)
def opE (op:UInt8) (l:List Ex):Ex:=.mk op [] 0 l
def primE (rec:List Tk->Rs Ex) (r:List Tk):Rs Ex :=
 match r with
 | []=>.er r 8
 | t::q =>
  if t.k=3 then (if numV t.t<=9223372036854775807 then .ok (.mk 1 [] (Int64.ofNat (numV t.t)) []) q else .er r 2)
  else if isT [116,114,117,101] r then .ok (opE 2 []) q
  else if isT [102,97,108,115,101] r then .ok (opE 3 []) q
  else if isT [110,111,119] r then .ok (opE 4 []) q
  else if isT [115,105,122,101] r then nameT q λs r2=>.ok (.mk 8 s 0 []) r2
  else if isT [40] r then (rec q).bind λx r2=>needT [41] r2 λr3=>.ok x r3
  else if isT [104,97,115] r then nameT q λs r2=>needT [91] r2 λr3=>(rec r3).bind λx r4=>needT [93] r4 λr5=>.ok (.mk 7 s 0 [x]) r5
  else if t.k=1 then (if isT [91] q then (rec q.tail).bind λx r4=>needT [93] r4 λr5=>.ok (.mk 6 t.t 0 [x]) r5 else .ok (.mk 5 t.t 0 []) q)
  else .er r 8
def pE:Nat->Md->List Tk->Rs Ex
 | 0,_,r=>.er r 99
 | f+1,.ex lv,r =>
  if lv<5 then (pE f (.ex (lv+1)) r).bind λa r1=>pE f (.lp lv a) r1
  else if isT [45] r then (pE f (.ex 5) r.tail).bind λx r2=>.ok (opE 9 [x]) r2
  else if isT [110,111,116] r then (pE f (.ex 5) r.tail).bind λx r2=>.ok (opE 10 [x]) r2
  else primE (pE f (.ex 0)) r
 | f+1,.lp lv a,r =>
  match opAt lv r with
  | none=>.ok a r
  | some op=>(pE f (.ex (lv+1)) r.tail).bind λb r2=>if lv=2 then .ok (opE op [a,b]) r2 else pE f (.lp lv (opE op [a,b])) r2
/-! ### Enough fuel -/
theorem ifC {α:Type} {c:Prop} [Decidable c] {x y u v:α} (h1:x=u) (h2:y=v):(if c then x else y)=(if c then u else v):=by rw [h1,h2]
theorem ifI {α:Type} {c d:Prop} [Decidable c] [Decidable d] {x y:α} (h:c↔d):(if c then x else y)=(if d then x else y):=by
 by_cases e:c
 ·rw [Al_if_pos e,Al_if_pos (h.1 e)]
 ·rw [Al_if_neg e,Al_if_neg (λk=>e (h.2 k))]
variable {w:Str}
theorem isT_ne {r:List Tk} (h:isT w r=true):r.length=r.tail.length+1:=by cases r with | nil=>cases h | cons t q=>rfl
theorem opAt_ne {lv:Nat} {r:List Tk} {op:UInt8} (h:opAt lv r=some op):r.length=r.tail.length+1:=by
 unfold opAt at h;obtain ⟨x,hx,_⟩:=Al_Option_map_eq_some_iff.1 h;exact isT_ne (w:=x.1) (by have:=List.find?_some hx;exact this)
theorem Rs.bind_ok {α β:Type} {x:Rs α} {f:α->List Tk->Rs β} {b:β} {r:List Tk} (h:x.bind f=.ok b r):∃ a q,x=.ok a q/\f a q=.ok b r:=by
 cases x with
 | ok a q=>exact ⟨a,q,Z,h⟩
 | er q c=>cases h
theorem needT_ok {α:Type} {r:List Tk} {f:List Tk->Rs α} {a:α} {q:List Tk} (h:needT w r f=.ok a q):isT w r=true/\f r.tail=.ok a q:=by
 unfold needT at h
 split at h
 ·rename_i e;exact ⟨e,h⟩
 ·cases h
theorem nameT_ok {α:Type} {r:List Tk} {f:Str->List Tk->Rs α} {a:α} {q:List Tk} (h:nameT r f=.ok a q):∃ t r',r=t::r'/\t.k=1/\f t.t r'=.ok a q:=by
 unfold nameT at h;cases r with
 | nil=>cases h
 | cons t r' =>
  by_cases e:t.k=1
  ·simp only [e,Al_if_true] at h;exact ⟨t,r',Z,e,h⟩
  ·simp only [e,Al_if_false] at h;cases h
theorem primE_len {rec:List Tk->Rs Ex} (hr:∀ q a r',rec q=.ok a r'->r'.length<=q.length) {r:List Tk} {a:Ex} {r':List Tk} (h:primE rec r=.ok a r'):r'.length<r.length:=by
 unfold primE at h;cases r with
 | nil=>cases h
 | cons t q =>
  simp only at h
  have fin:∀ {b:Ex} {l:List Tk},(Rs.ok b l:Rs Ex)=.ok a r'->l.length<=q.length->r'.length<(t::q).length:=by
   intro b l e hl;injection e with _ e;subst e;simp;omega
  split at h
  ·split at h
   ·exact fin h (Al_Nat_le_refl _)
   ·cases h
  split at h
  ·exact fin h (Al_Nat_le_refl _)
  split at h
  ·exact fin h (Al_Nat_le_refl _)
  split at h
  ·exact fin h (Al_Nat_le_refl _)
  split at h
  ·obtain ⟨t2,r2,rfl,_,h⟩:=nameT_ok h;exact fin h (by simp)
  split at h
  ·obtain ⟨x,r2,h1,h⟩:=Rs.bind_ok h;obtain ⟨h2,h⟩:=needT_ok h;have:=hr _ _ _ h1;have:=isT_ne h2;exact fin h (by omega)
  split at h
  ·obtain ⟨t2,r2,rfl,_,h⟩:=nameT_ok h;obtain ⟨h2,h⟩:=needT_ok h;obtain ⟨x,r4,h1,h⟩:=Rs.bind_ok h;obtain ⟨h3,h⟩:=needT_ok h;have:=hr _ _ _ h1;have:=isT_ne h2;have:=isT_ne h3;exact fin h (by simp;omega)
  split at h
  ·split at h
   ·rename_i h2;obtain ⟨x,r4,h1,h⟩:=Rs.bind_ok h;obtain ⟨h3,h⟩:=needT_ok h;have:=hr _ _ _ h1;have:=isT_ne h2;have:=isT_ne h3;exact fin h (by omega)
   ·exact fin h (Al_Nat_le_refl _)
  ·cases h
theorem pE_len:∀ (f:Nat),(∀ lv r a r',pE f (.ex lv) r=.ok a r'->r'.length<r.length)/\(∀ lv x r a r',pE f (.lp lv x) r=.ok a r'->r'.length<=r.length)
 | 0=>⟨λ_ _ _ _ h=>(by cases h),λ_ _ _ _ _ h=>(by cases h)⟩
 | f+1=>by
  obtain ⟨ih1,ih2⟩:=pE_len f;refine ⟨λlv r a r' h=>?_,λlv x r a r' h=>?_⟩
  ·unfold pE at h
   split at h
   ·obtain ⟨b,q,h1,h2⟩:=Rs.bind_ok h;have:=ih1 _ _ _ _ h1;have:=ih2 _ _ _ _ _ h2;omega
   split at h
   ·rename_i e;obtain ⟨b,q,h1,h2⟩:=Rs.bind_ok h;have:=ih1 _ _ _ _ h1;have:=isT_ne e;injection h2 with _ e2;subst e2;omega
   split at h
   ·rename_i e;obtain ⟨b,q,h1,h2⟩:=Rs.bind_ok h;have:=ih1 _ _ _ _ h1;have:=isT_ne e;injection h2 with _ e2;subst e2;omega
   ·exact primE_len (λq b r2 e=>Al_Nat_le_of_lt (ih1 _ _ _ _ e)) h
  ·unfold pE at h
   split at h
   ·injection h with _ e;subst e;exact Al_Nat_le_refl _
   ·rename_i op e;obtain ⟨b,q,h1,h2⟩:=Rs.bind_ok h;have:=ih1 _ _ _ _ h1;have:=opAt_ne e
    split at h2
    ·injection h2 with _ e2;subst e2;omega
    ·have:=ih2 _ _ _ _ _ h2;omega
theorem Rs.bind_congr {α β:Type} {x y:Rs α} {f g:α->List Tk->Rs β} (h:x=y) (k:∀ a r,x=.ok a r->f a r=g a r):x.bind f=y.bind g:=by
 subst h;cases x with
 | ok a r=>exact k a r rfl
 | er r c=>rfl
theorem primE_congr {rec rec':List Tk->Rs Ex} {r:List Tk} (h:∀ q,q.length<r.length->rec q=rec' q):primE rec r=primE rec' r:=by
 unfold primE;cases r with
 | nil=>rfl
 | cons t q =>
  have hb:∀ (z:List Tk) (g:Ex->List Tk->Rs Ex),z.length<=q.length->(rec z).bind g=(rec' z).bind g:=λz g hz=>by rw [h z (by simp;omega)]
  have ht:∀ z:List Tk,z.tail.length<=z.length:=λz=>by simp
  simp only;rw [hb q _ (Al_Nat_le_refl _),hb q.tail _ (ht q)];refine ifC rfl (ifC rfl (ifC rfl (ifC rfl (ifC rfl (ifC rfl (ifC ?_ rfl))))));unfold nameT;cases q with
  | nil=>rfl
  | cons t2 r2 =>
   simp only;refine ifC ?_ rfl;unfold needT;refine ifC ?_ rfl;exact hb _ _ (by simp;omega)
def fuelE:Md->List Tk->Nat
 | .ex lv,r=>16 * r.length+9 - lv
 | .lp _ _,r=>16 * r.length+9
theorem pE_ex (f lv:Nat) (r:List Tk):pE (f+1) (.ex lv) r=if lv<5 then (pE f (.ex (lv+1)) r).bind λa r1=>pE f (.lp lv a) r1
 else if isT [45] r then (pE f (.ex 5) r.tail).bind λx r2=>.ok (opE 9 [x]) r2
 else if isT [110,111,116] r then (pE f (.ex 5) r.tail).bind λx r2=>.ok (opE 10 [x]) r2
 else primE (pE f (.ex 0)) r:=by rw [pE]
theorem pE_lp (f lv:Nat) (a:Ex) (r:List Tk):pE (f+1) (.lp lv a) r=match opAt lv r with
 | none=>.ok a r
 | some op=>(pE f (.ex (lv+1)) r.tail).bind λb r2=>if lv=2 then .ok (opE op [a,b]) r2 else pE f (.lp lv (opE op [a,b])) r2:=by rw [pE]
theorem pE_fuel:∀ (f:Nat),(∀ lv r,lv<=5->fuelE (.ex lv) r<=f->pE (f+1) (.ex lv) r=pE f (.ex lv) r)/\(∀ lv x r,lv<=4->fuelE (.lp lv x) r<=f->pE (f+1) (.lp lv x) r=pE f (.lp lv x) r)
 | 0=>⟨λlv r h1 h=>by simp only [fuelE] at h;omega,λlv x r h1 h=>by simp only [fuelE] at h;omega⟩
 | f+1=>by
  obtain ⟨ih1,ih2⟩:=pE_fuel f;simp only [fuelE] at ih1 ih2|-;refine ⟨λlv r h5 h=>?_,λlv x r h4 h=>?_⟩
  ·rw [pE_ex (f+1) lv r,pE_ex f lv r]
   by_cases hlv:lv<5
   ·rw [Al_if_pos hlv,Al_if_pos hlv];refine Rs.bind_congr (ih1 _ _ (by omega) (by omega)) λa q e=>?_;have:=(pE_len (f+1)).1 _ _ _ _ e;exact ih2 _ _ _ (by omega) (by omega)
   rw [Al_if_neg hlv,Al_if_neg hlv]
   by_cases e:isT [45] r=true
   ·have:=isT_ne e;rw [Al_if_pos e,Al_if_pos e];exact Rs.bind_congr (ih1 _ _ (by omega) (by omega)) λ_ _ _=>rfl
   rw [Al_if_neg e,Al_if_neg e]
   by_cases e:isT [110,111,116] r=true
   ·have:=isT_ne e;rw [Al_if_pos e,Al_if_pos e];exact Rs.bind_congr (ih1 _ _ (by omega) (by omega)) λ_ _ _=>rfl
   rw [Al_if_neg e,Al_if_neg e];exact primE_congr λq hq=>ih1 _ _ (by omega) (by omega)
  ·rw [pE_lp (f+1) lv x r,pE_lp f lv x r];cases e:opAt lv r with
   | none=>rfl
   | some op =>
    simp only;have:=opAt_ne e;refine Rs.bind_congr (ih1 _ _ (by omega) (by omega)) λa q e=>?_;have:=(pE_len (f+1)).1 _ _ _ _ e;refine ifC rfl ?_;exact ih2 _ _ _ (by omega) (by omega)
variable {g:Nat}
theorem pE_more {f lv:Nat} {r:List Tk} (h5:lv<=5) (h:fuelE (.ex lv) r<=f) (hg:f<=g):pE g (.ex lv) r=pE f (.ex lv) r:=by
 induction g with
 | zero => have : f = 0 := by omega
           rw [this]
 | succ g ih =>
  by_cases e:f=g+1
  ·rw [e]
  ·rw [(pE_fuel g).1 lv r h5 (by omega)];exact ih (by omega)
theorem pE_morel {f lv:Nat} {a:Ex} {r:List Tk} (h5:lv<=4) (h:fuelE (.lp lv a) r<=f) (hg:f<=g):pE g (.lp lv a) r=pE f (.lp lv a) r:=by
 induction g with
 | zero => have : f = 0 := by omega
           rw [this]
 | succ g ih =>
  by_cases e:f=g+1
  ·rw [e]
  ·rw [(pE_fuel g).2 lv a r h5 (by omega)];exact ih (by omega)
def pX (lv:Nat) (r:List Tk):Rs Ex:=pE (16 * r.length+9) (.ex lv) r
def pL (lv:Nat) (a:Ex) (r:List Tk):Rs Ex:=pE (16 * r.length+9) (.lp lv a) r
theorem pX_of {f lv:Nat} {r:List Tk} (h5:lv<=5) (h:fuelE (.ex lv) r<=f):pE f (.ex lv) r=pX lv r:=by
 unfold pX;rcases Nat.le_total f (16 * r.length+9) with h1 | h1
 ·rw [pE_more h5 h h1]
 ·rw [pE_more h5 (by simp only [fuelE];omega) h1]
theorem pL_of {f lv:Nat} {a:Ex} {r:List Tk} (h5:lv<=4) (h:fuelE (.lp lv a) r<=f):pE f (.lp lv a) r=pL lv a r:=by
 unfold pL;rcases Nat.le_total f (16 * r.length+9) with h1 | h1
 ·rw [pE_morel h5 h h1]
 ·rw [pE_morel h5 (by simp only [fuelE];omega) h1]
theorem pX_low {lv:Nat} {r:List Tk} (h:lv<5):pX lv r=(pX (lv+1) r).bind λa q=>pL lv a q:=by
 conv=>lhs;unfold pX
 rw [show 16 * r.length+9=(16 * r.length+8)+1 by omega,pE_ex,Al_if_pos h];refine Rs.bind_congr (pX_of (by omega) (by simp only [fuelE];omega)) λa q e=>?_;have:=(pE_len _).1 _ _ _ _ e;exact pL_of (by omega) (by simp only [fuelE];omega)
theorem pX_un {r:List Tk} :pX 5 r=if isT [45] r then (pX 5 r.tail).bind λx r2=>.ok (opE 9 [x]) r2 else if isT [110,111,116] r then (pX 5 r.tail).bind λx r2=>.ok (opE 10 [x]) r2 else primE (pX 0) r:=by
 conv=>lhs;unfold pX
 rw [show 16 * r.length+9=(16 * r.length+8)+1 by omega,pE_ex,Al_if_neg (by omega)]
 by_cases e:isT [45] r=true
 ·have:=isT_ne e;rw [Al_if_pos e,Al_if_pos e];exact Rs.bind_congr (pX_of (by omega) (by simp only [fuelE];omega)) λ_ _ _=>rfl
 rw [Al_if_neg e,Al_if_neg e]
 by_cases e:isT [110,111,116] r=true
 ·have:=isT_ne e;rw [Al_if_pos e,Al_if_pos e];exact Rs.bind_congr (pX_of (by omega) (by simp only [fuelE];omega)) λ_ _ _=>rfl
 rw [Al_if_neg e,Al_if_neg e];exact primE_congr λq hq=>pX_of (by omega) (by simp only [fuelE];omega)
theorem pL_none {lv:Nat} {a:Ex} {r:List Tk} (h:opAt lv r=none):pL lv a r=.ok a r:=by
 unfold pL;rw [show 16 * r.length+9=(16 * r.length+8)+1 by omega,pE_lp];rw [h]
theorem pL_some {lv:Nat} {a:Ex} {r:List Tk} {op:UInt8} (hl:lv<=4) (h:opAt lv r=some op):pL lv a r=(pX (lv+1) r.tail).bind λb r2=>if lv=2 then .ok (opE op [a,b]) r2 else pL lv (opE op [a,b]) r2:=by
 conv=>lhs;unfold pL
 rw [show 16 * r.length+9=(16 * r.length+8)+1 by omega,pE_lp];rw [h];have:=opAt_ne h;refine Rs.bind_congr (pX_of (by omega) (by simp only [fuelE];omega)) λb q e=>?_;have:=(pE_len _).1 _ _ _ _ e;refine ifC rfl ?_;exact pL_of hl (by simp only [fuelE];omega)
def zE:Ex:=.mk 0 [] 0 []
def zF:Fm:=.mk 0 [] [] 0 0 [] []
structure Ov where
 kd:UInt8
 lv:Nat
 tm:Bool
 op:UInt8
 f:Fm
structure Vl where
 tm:Bool
 wh:Bool
 e:Ex
 f:Fm
structure Rq where
 i:Nat
 off:Nat
 er:Nat
abbrev Vb:=List Vl × Bool
structure Ps where
 c:Rq
 op:List Ov
 x:Vb
 rd:Bool
 dn:Bool
abbrev Tks:=List Tk
def zV:Vl:=⟨false,false,zE,zF⟩
def bO:Ov:=⟨1,0,false,0,zF⟩
section
variable (l:Tks)
def tkf (i:Nat):Tk:=l.getD i ⟨0,[],0⟩
def Rq.fail (c:Nat) (q:Rq):Rq:=if q.er=0 then ⟨q.i,(tkf l q.i).o,c⟩ else q
def Rq.is (w:Str) (q:Rq):Bool:=(decide ((tkf l q.i).k=2) || decide ((tkf l q.i).k=4)) && decide ((tkf l q.i).t=w)
def Rq.ac (w:Str) (q:Rq):Bool:=decide (q.er=0) && q.is l w
def Rq.nx (q:Rq):Rq:=⟨q.i+1,q.off,q.er⟩
def Rq.acS (w:Str) (q:Rq):Rq:=if q.ac l w then q.nx else q
def Rq.exS (w:Str) (q:Rq):Rq:=if q.ac l w then q.nx else q.fail l 8
def Rq.nmK (q:Rq):Bool:=decide (q.er=0) && decide ((tkf l q.i).k=1)
def Rq.nmV (q:Rq):Str:=if q.nmK l then (tkf l q.i).t else []
def Rq.nmS (q:Rq):Rq:=if q.nmK l then q.nx else q.fail l 8
def Rq.nbB (q:Rq):Bool:=decide (q.er=0) && decide ((tkf l q.i).k=3)
def Rq.fit (q:Rq):Bool:=decide (numV (tkf l q.i).t<=9223372036854775807)
def Rq.nbV (q:Rq):Int64:=if q.nbB l && q.fit l then Int64.ofNat (numV (tkf l q.i).t) else 0
def Rq.nbS (q:Rq):Rq:=if q.nbB l then (if q.fit l then q.nx else q.fail l 2) else q.fail l 8
def Rq.paS (q:Rq):Rq:=((q.nmS l).exS l [46]).nmS l
def Rq.paN (q:Rq):Str:=q.nmV l
def Rq.paF (q:Rq):Str:=((q.nmS l).exS l [46]).nmV l
def Rq.paV (op:UInt8) (q:Rq):Fm:=.mk op (q.paN l) (q.paF l) 0 0 [] []
def Rq.wiA (q:Rq):Int64:=if q.ac l [91] then q.nx.nbV l else 0
def Rq.wiB (q:Rq):Int64:=if q.ac l [91] then ((q.nx.nbS l).exS l [44]).nbV l else -1
def Rq.wiS (q:Rq):Rq:=if q.ac l [91] then (((q.nx.nbS l).exS l [44]).nbS l).exS l [93] else q
def Rq.wiV (op:UInt8) (q:Rq):Fm:=.mk op [] [] (q.wiA l) (q.wiB l) [] []
def Rq.boV (q:Rq):Int64:=if q.ac l [45] then -(q.nx.nbV l) else q.nbV l
def Rq.boS (q:Rq):Rq:=if q.ac l [45] then q.nx.nbS l else q.nbS l
def Rq.ama (q:Rq):Rq:=(q.nmS l).exS l [105,110]
def Rq.amb (q:Rq):Rq:=((q.ama l).boS l).exS l [46,46]
def Rq.amV (op:UInt8) (q:Rq):Fm:=.mk op (q.nmV l) [] ((q.ama l).boV l) ((q.amb l).boV l) [] []
def Rq.amS (q:Rq):Rq:=(q.amb l).boS l
end
def topO (q:Ps):Ov:=q.op.headD bO
def topV (x:Vb):Vl:=x.1.headD zV
def Ps.at (c:Rq) (q:Ps):Ps:=⟨c,q.op,q.x,q.rd,q.dn⟩
def Ov.inh (o:Ov) (b:Bool):Ov:=if 0<o.lv then ⟨o.kd,o.lv,b,o.op,o.f⟩ else o
def pushS (o:Ov) (q:Ps):Ps:=⟨q.c,o.inh (topO q).tm::q.op,q.x,false,q.dn⟩
def giveS (v:Vl) (q:Ps):Ps:=⟨q.c,q.op,(v::q.x.1,q.x.2),true,q.dn⟩
def tE (x:Vb):Ex:=(topV x).e
def tS (x:Vb):Vb:=(x.1.tail,x.2 || !(topV x).tm)
def Vl.noF (v:Vl):Bool:=v.tm && (!decide (v.e.op=5) || (splitF v.e.nm).isNone)
def spA (n:Str):Str:=match splitF n with | some (a,_)=>a | none=>[]
def spB (n:Str):Str:=match splitF n with | some (_,b)=>b | none=>[]
def Vl.fm (v:Vl):Fm:=if v.tm then .mk 4 (spA v.e.nm) (spB v.e.nm) 0 0 [] [] else v.f
def fF (x:Vb):Fm:=(topV x).fm
def fS (x:Vb):Vb:=(x.1.tail,x.2 || (topV x).noF)
def tmv (e:Ex):Vl:=⟨true,false,e,zF⟩
def fmv (f:Fm):Vl:=⟨false,false,zE,f⟩
def Fm.wEx (f:Fm) (ex:List Ex):Fm:=.mk f.op f.nm f.fd f.a f.b ex f.args
def Fm.wAr (f:Fm) (args:List Fm):Fm:=.mk f.op f.nm f.fd f.a f.b f.ex args
def Vb.put (v:Vl) (x:Vb):Vb:=(v::x.1,x.2)
def comb (o:Ov) (x:Vb):Vb :=
 if o.kd=10 then (tS x).put (tmv (.mk 9 [] 0 [tE x]))
 else if o.kd=9 then (tS (tS x)).put (tmv (.mk o.op [] 0 [tE (tS x),tE x]))
 else if o.kd=8 then (tS (tS x)).put (fmv (.mk 3 [] [] 0 0 [.mk o.op [] 0 [tE (tS x),tE x]] []))
 else if o.kd=7 then (fS x).put (fmv (o.f.wAr [fF x]))
 else if o.kd=6 then (fS (fS x)).put (fmv (o.f.wAr [fF (fS x),fF x]))
 else x
def redL (lv:Nat):List Ov->Vb->List Ov × Vb
 | [],x=>([],x)
 | o::r,x=>if lv<=o.lv then redL lv r (comb o x) else (o::r,x)
def redP (lv:Nat) (q:Ps):Ps:=⟨q.c,(redL lv q.op q.x).1,(redL lv q.op q.x).2,q.rd,q.dn⟩
section
variable (l:Tks)
def prefS (q:Ps):Option Ps :=
 if q.c.ac l [110,111,116] then some (pushS ⟨7,5,false,0,.mk 8 [] [] 0 0 [] []⟩ (q.at q.c.nx))
 else if q.c.ac l [112,114,101,118,105,111,117,115] then some (pushS ⟨7,5,false,0,.mk 12 [] [] 0 0 [] []⟩ (q.at q.c.nx))
 else if q.c.ac l [111,110,99,101] then some (pushS ⟨7,5,false,0,q.c.nx.wiV l 13⟩ (q.at (q.c.nx.wiS l)))
 else if q.c.ac l [97,108,119,97,121,115] then some (pushS ⟨7,5,false,0,q.c.nx.wiV l 14⟩ (q.at (q.c.nx.wiS l)))
 else if q.c.ac l [102,111,114,97,108,108] then some (pushS ⟨7,5,false,0,q.c.nx.amV l 16⟩ (q.at (q.c.nx.amS l)))
 else if q.c.ac l [101,120,105,115,116,115] then some (pushS ⟨7,5,false,0,q.c.nx.amV l 17⟩ (q.at (q.c.nx.amS l)))
 else if q.c.ac l [99,111,117,110,116] then some (pushS ⟨3,0,false,0,q.c.nx.amV l 18⟩ (q.at ((q.c.nx.amS l).exS l [40])))
 else none
def Rq.ful (q:Rq):Str:=q.nmV l++[46]++(q.nmS l).nx.nmV l
def varP (q:Ps):Ps :=
 if (q.c.nmS l).ac l [46] then
  if ((q.c.nmS l).nx.nmS l).ac l [91] then pushS ⟨4,0,true,6,.mk 0 (q.c.ful l) [] 0 0 [] []⟩ (q.at ((q.c.nmS l).nx.nmS l).nx)
  else giveS (tmv (.mk 5 (q.c.ful l) 0 [])) (q.at ((q.c.nmS l).nx.nmS l))
 else giveS (tmv (.mk 5 (q.c.nmV l) 0 [])) (q.at (q.c.nmS l))
def arrP (q:Ps):Ps :=
 if ((q.c.paS l).exS l [40]).ac l [41] then giveS (fmv (q.c.paV l 7)) (q.at ((q.c.paS l).exS l [40]).nx)
 else pushS ⟨5,0,true,0,q.c.paV l 7⟩ (q.at ((q.c.paS l).exS l [40]))
def fmsB (q:Ps):Bool:=!(topO q).tm && decide ((topO q).lv<=5)
def re2P (q:Ps):Ps :=
 if q.c.ac l [45] then pushS ⟨10,9,false,0,zF⟩ (q.at q.c.nx)
 else if q.c.ac l [40] then pushS ⟨2,0,false,0,zF⟩ (q.at q.c.nx)
 else if (tkf l q.c.i).k=3 then giveS (tmv (.mk 1 [] (q.c.nbV l) [])) (q.at (q.c.nbS l))
 else if (tkf l q.c.i).k=1 then varP l q
 else if q.c.ac l [110,111,119] then giveS (tmv (.mk 4 [] 0 [])) (q.at q.c.nx)
 else if q.c.ac l [115,105,122,101] then giveS (tmv (.mk 8 (q.c.nx.paN l++[46]++q.c.nx.paF l) 0 [])) (q.at (q.c.nx.paS l))
 else if q.c.ac l [116,114,117,101] then giveS (fmv (.mk 1 [] [] 0 0 [] [])) (q.at q.c.nx)
 else if q.c.ac l [102,97,108,115,101] then giveS (fmv (.mk 2 [] [] 0 0 [] [])) (q.at q.c.nx)
 else if q.c.ac l [102,108,97,103] then giveS (fmv (.mk 6 (q.c.nx.nmV l) [] 0 0 [] [])) (q.at (q.c.nx.nmS l))
 else if q.c.ac l [104,97,115] then pushS ⟨4,0,true,0,q.c.nx.paV l 5⟩ (q.at ((q.c.nx.paS l).exS l [91]))
 else if q.c.ac l [97,114,114,105,118,101,115] then arrP l (q.at q.c.nx)
 else q.at (q.c.fail l 8)
def restP (q:Ps):Ps:=if (topO q).kd=5/\q.c.ac l [95]=true then giveS ⟨true,true,zE,zF⟩ (q.at q.c.nx) else re2P l q
def operandP (q:Ps):Ps:=match (if fmsB q then prefS l q else none) with | some q'=>q' | none=>restP l q
def fsyms:List Str:=[[],[],[],[],[],[],[],[],[],[],[],[42],[47],[37],[43],[45],[61,61],[33,61],[60],[60,61],[62],[62,61]]
def betP (op:UInt8) (q:Ps):Ps :=
 if 16<=op then
  (if (topV q.x).wh || (topO (redP 7 q)).tm || decide ((topO (redP 7 q)).kd=8) then (redP 7 q).at (q.c.fail l 8) else pushS ⟨8,6,false,op,zF⟩ ((redP 7 q).at q.c.nx))
 else if op<=13 then
  (if (topV q.x).wh then (redP 8 q).at (q.c.fail l 8) else pushS ⟨9,8,false,op,zF⟩ ((redP 8 q).at q.c.nx))
 else (if (topV q.x).wh then (redP 7 q).at (q.c.fail l 8) else pushS ⟨9,7,false,op,zF⟩ ((redP 7 q).at q.c.nx))
def Rq.joV (q:Rq):Fm:=if q.ac l [115,105,110,99,101] then q.nx.wiV l 15 else if q.ac l [97,110,100] then .mk 9 [] [] 0 0 [] [] else if q.ac l [111,114] then .mk 10 [] [] 0 0 [] [] else if q.ac l [105,109,112,108,105,101,115] then .mk 11 [] [] 0 0 [] [] else zF
def Rq.joS (q:Rq):Rq:=if q.ac l [115,105,110,99,101] then q.nx.wiS l else if q.ac l [97,110,100] then q.nx else if q.ac l [111,114] then q.nx else if q.ac l [105,109,112,108,105,101,115] then q.nx else q
def joiP (q:Ps):Ps:=if (topO q).tm then q.at (q.c.fail l 8) else pushS ⟨6,(fsOf (q.c.joV l).op).lv,false,0,q.c.joV l⟩ (redP (fsOf (q.c.joV l).op).lv (q.at (q.c.joS l)))
def cloS (c:Rq) (v:Vl) (x:Vb) (q:Ps):Ps:=⟨c,q.op.tail,x.put v,true,q.dn⟩
def clgP (q:Ps):Ps :=
 if (topO q).kd=1/\(tkf l q.c.i).k=0 then ⟨q.c,q.op,q.x,q.rd,true⟩
 else if (topO q).kd=2/\q.c.ac l [41]=true then cloS q.c.nx ⟨(topV q.x).tm,false,(topV q.x).e,(topV q.x).f⟩ (q.x.1.tail,q.x.2) q
 else if (topO q).kd=3/\q.c.ac l [41]=true then
  cloS ((q.c.nx.exS l [62,61]).nbS l) ⟨false,true,zE,((topO q).f.wEx [.mk 1 [] ((q.c.nx.exS l [62,61]).nbV l) []]).wAr [fF q.x]⟩ (fS q.x) q
 else if (topO q).kd=4/\q.c.ac l [93]=true then
  (if (topO q).op=6 then cloS q.c.nx (tmv (.mk 6 (topO q).f.nm 0 [tE q.x])) (tS q.x) q
  else cloS q.c.nx (fmv ((topO q).f.wEx [tE q.x])) (tS q.x) q)
 else if (topO q).kd=5/\q.c.ac l [44]=true then
  ⟨q.c.nx,⟨(topO q).kd,(topO q).lv,(topO q).tm,(topO q).op,(topO q).f.wEx ((topO q).f.ex++[tE q.x])⟩::q.op.tail,tS q.x,false,q.dn⟩
 else if (topO q).kd=5/\q.c.ac l [41]=true then cloS q.c.nx (fmv ((topO q).f.wEx ((topO q).f.ex++[tE q.x]))) (tS q.x) q
 else q.at (q.c.fail l 8)
def symF (t:Str):Option Nat:=(List.range 22).find? λi=>decide (fsyms.getD i []=t) && decide (¬ i=0)
def Rq.endB (q:Rq):Bool:=q.is l [41] || q.is l [93] || q.is l [44] || decide ((tkf l q.i).k=0)
def Rq.wrd (q:Rq):Bool:=q.is l [115,105,110,99,101] || q.is l [97,110,100] || q.is l [111,114] || q.is l [105,109,112,108,105,101,115]
def othP (q:Ps):Ps:=if q.c.wrd l then joiP l q else if q.c.endB l then clgP l (redP 1 q) else q.at (q.c.fail l 8)
def Rq.sym (q:Rq):Option Nat:=if (tkf l q.i).k=2\/(tkf l q.i).k=4 then symF (tkf l q.i).t else none
def operatorP (q:Ps):Ps:=match q.c.sym l with | some i=>betP l (UInt8.ofNat i) q | none=>othP l q
def stepP (q:Ps):Ps:=if q.rd then operatorP l q else operandP l q
def Ps.fin (q:Ps):Prop:=q.dn=true\/¬ q.c.er=0
instance (q:Ps):Decidable q.fin:=by unfold Ps.fin;infer_instance
def runP:Nat->Ps->Ps
 | 0,q=>q
 | n+1,q=>if q.fin then q else runP n (stepP l q)
def iniP:Ps:=⟨⟨0,0,0⟩,[bO],([],false),false,false⟩
def endP (q:Ps):Fm × Nat × Nat :=
 if ¬ q.c.er=0 then (zF,q.c.off,q.c.er)
 else if (fS q.x).2 then (zF,0,6)
 else if ¬ fcheck (fF q.x)=0 then (zF,0,fcheck (fF q.x))
 else (fF q.x,0,0)
def parF:Fm × Nat × Nat:=endP (runP l l.length iniP)
end
def Tlast (l:Tks):Prop:=∀ i,i<l.length->(tkf l i).k≠0->i+1<l.length
section
variable {l:Tks} {q:Rq} {w:Str} {c:Nat}
theorem fail_i:(q.fail l c).i=q.i:=by unfold Rq.fail;split <;> rfl
theorem is_k (h:q.is l w=true):(tkf l q.i).k≠0:=by
 unfold Rq.is at h;rw [Al_Bool_and_eq_true,Al_Bool_or_eq_true,Al_decide_eq_true_eq,Al_decide_eq_true_eq] at h;rcases h.1 with e | e <;> rw [e] <;> decide
theorem acF_is (h:q.ac l w=true):q.is l w=true:=by unfold Rq.ac at h;rw [Al_Bool_and_eq_true] at h;exact h.2
theorem acF_er (h:q.ac l w=true):q.er=0:=by unfold Rq.ac at h;rw [Al_Bool_and_eq_true,Al_decide_eq_true_eq] at h;exact h.1
theorem acF_t (h:q.ac l w=true):(tkf l q.i).t=w:=by
 have:=acF_is h;unfold Rq.is at this;rw [Al_Bool_and_eq_true,Al_decide_eq_true_eq] at this;exact this.2
theorem acF_k (h:q.ac l w=true):(tkf l q.i).k=2\/(tkf l q.i).k=4:=by
 have:=acF_is h;unfold Rq.is at this;rw [Al_Bool_and_eq_true,Al_Bool_or_eq_true,Al_decide_eq_true_eq,Al_decide_eq_true_eq] at this;exact this.1
structure Mq (q q':Rq):Prop where
 i:q.i<=q'.i
 er:q.er≠0->q'=q
theorem Mq.refl (q:Rq):Mq q q:=⟨Al_Nat_le_refl _,λ_=>rfl⟩
theorem Mq.trans {a b c:Rq} (h:Mq a b) (k:Mq b c):Mq a c:=⟨Al_Nat_le_trans h.i k.i,λe=>by have:=h.er e;subst this;exact k.er e⟩
theorem Mq.nx (h:q.er=0):Mq q q.nx:=⟨Nat.le_succ _,λe=>absurd h e⟩
theorem Mq.fail:Mq q (q.fail l c):=⟨by rw [fail_i];exact Al_Nat_le_refl _,λe=>by unfold Rq.fail;rw [Al_if_neg e]⟩
theorem Mq.exS:Mq q (q.exS l w):=by
 unfold Rq.exS
 split
 ·rename_i h;exact .nx (acF_er h)
 ·exact .fail
theorem nmK_er (h:q.nmK l=true):q.er=0/\(tkf l q.i).k=1:=by
 unfold Rq.nmK at h;rw [Al_Bool_and_eq_true,Al_decide_eq_true_eq,Al_decide_eq_true_eq] at h;exact h
theorem nbB_er (h:q.nbB l=true):q.er=0/\(tkf l q.i).k=3:=by
 unfold Rq.nbB at h;rw [Al_Bool_and_eq_true,Al_decide_eq_true_eq,Al_decide_eq_true_eq] at h;exact h
theorem Mq.nmS:Mq q (q.nmS l):=by
 unfold Rq.nmS
 split
 ·rename_i h;exact .nx (nmK_er h).1
 ·exact .fail
theorem Mq.nbS:Mq q (q.nbS l):=by
 unfold Rq.nbS
 split
 ·rename_i h
  split
  ·exact .nx (nbB_er h).1
  ·exact .fail
 ·exact .fail
theorem Mq.paS:Mq q (q.paS l):=(Mq.nmS.trans .exS).trans .nmS
theorem Mq.wiS:Mq q (q.wiS l):=by
 unfold Rq.wiS
 split
 ·rename_i h;exact (((Mq.nx (acF_er h)).trans .nbS).trans .exS).trans (.trans .nbS .exS)
 ·exact .refl q
theorem Mq.boS:Mq q (q.boS l):=by
 unfold Rq.boS
 split
 ·rename_i h;exact (Mq.nx (acF_er h)).trans .nbS
 ·exact .nbS
theorem Mq.ama:Mq q (q.ama l):=Mq.nmS.trans .exS
theorem Mq.amb:Mq q (q.amb l):=(Mq.ama.trans .boS).trans .exS
theorem Mq.amS:Mq q (q.amS l):=Mq.amb.trans .boS
theorem Mq.joS:Mq q (q.joS l):=by
 unfold Rq.joS
 split
 ·rename_i h;exact (Mq.nx (acF_er h)).trans .wiS
 split
 ·rename_i h;exact .nx (acF_er h)
 split
 ·rename_i h;exact .nx (acF_er h)
 split
 ·rename_i h;exact .nx (acF_er h)
 exact .refl q
variable (T:Tlast l) (hq:q.i<l.length)
include T hq
theorem wi_ac (h:q.ac l w=true):q.nx.i<l.length:=T _ hq (is_k (acF_is h))
theorem wi_ex:(q.exS l w).i<l.length:=by
 unfold Rq.exS
 split
 ·rename_i h;exact wi_ac T hq h
 ·rw [fail_i];exact hq
theorem wi_nmK (h:q.nmK l=true):q.nx.i<l.length:=T _ hq (by rw [(nmK_er h).2];decide)
theorem wi_nm:(q.nmS l).i<l.length:=by
 unfold Rq.nmS
 split
 ·rename_i h;exact wi_nmK T hq h
 ·rw [fail_i];exact hq
theorem wi_nb:(q.nbS l).i<l.length:=by
 unfold Rq.nbS
 split
 ·rename_i h
  split
  ·exact T _ hq (by rw [(nbB_er h).2];decide)
  ·rw [fail_i];exact hq
 ·rw [fail_i];exact hq
theorem wi_pa:(q.paS l).i<l.length:=wi_nm T (wi_ex T (wi_nm T hq))
theorem wi_wi:(q.wiS l).i<l.length:=by
 unfold Rq.wiS
 split
 ·rename_i h;exact wi_ex T (wi_nb T (wi_ex T (wi_nb T (wi_ac T hq h))))
 ·exact hq
theorem wi_bo:(q.boS l).i<l.length:=by
 unfold Rq.boS
 split
 ·rename_i h;exact wi_nb T (wi_ac T hq h)
 ·exact wi_nb T hq
theorem wi_ama:(q.ama l).i<l.length:=wi_ex T (wi_nm T hq)
theorem wi_amb:(q.amb l).i<l.length:=wi_ex T (wi_bo T (wi_ama T hq))
theorem wi_am:(q.amS l).i<l.length:=wi_bo T (wi_amb T hq)
theorem wi_jo:(q.joS l).i<l.length:=by
 unfold Rq.joS
 split
 ·rename_i h;exact wi_wi T (wi_ac T hq h)
 split
 ·rename_i h;exact wi_ac T hq h
 split
 ·rename_i h;exact wi_ac T hq h
 split
 ·rename_i h;exact wi_ac T hq h
 exact hq
end
def cnO (o:Ov):Bool:=decide (o.kd=6) || decide (o.kd=8) || decide (o.kd=9)
def cntB (l:List Ov):Nat:=(l.filter cnO).length
def okO (o:Ov):Bool:=decide (2<=o.kd.toNat) && decide (o.kd.toNat<=10) && (decide (5<o.kd.toNat) == decide (0<o.lv))
structure Fwf (l:Tks) (q:Ps):Prop where
 i:q.c.i<l.length
 op:∃ r,q.op=r++[bO]/\∀ o∈r,okO o=true
 vs:q.x.1.length=cntB q.op+(if q.rd then 1 else 0)
 so:q.op.length<=q.c.i+1
section
variable {l:Tks} {q:Ps} {w:Str} {c:Nat} {o:Ov} {b:Bool}
theorem cnt_cons (o:Ov) (r:List Ov):cntB (o::r)=(if cnO o then 1 else 0)+cntB r:=by unfold cntB;rw [List.filter_cons];split <;> simp [Nat.add_comm]
theorem inh_kd:(o.inh b).kd=o.kd:=by unfold Ov.inh;split <;> rfl
theorem inh_lv:(o.inh b).lv=o.lv:=by unfold Ov.inh;split <;> rfl
theorem inh_f:(o.inh b).f=o.f:=by unfold Ov.inh;split <;> rfl
theorem inh_ok:okO (o.inh b)=okO o:=by unfold okO;rw [inh_kd,inh_lv]
theorem inh_cn:cnO (o.inh b)=cnO o:=by unfold cnO;rw [inh_kd]
theorem wf_push {c:Rq} (h:Fwf l q) (hc:c.i<l.length) (hi:q.c.i<c.i) (ho:okO o=true) (hr:cnO o=q.rd):Fwf l (pushS o (q.at c)):=by
 obtain ⟨r,e,hr2⟩:=h.op;refine ⟨hc,⟨o.inh (topO q).tm::r,?_,?_⟩,?_,?_⟩
 ·show _::q.op=_;rw [e];rfl
 ·intro x hx;rcases Al_List_mem_cons.1 hx with rfl | hx
  ·rw [inh_ok];exact ho
  ·exact hr2 x hx
 ·show q.x.1.length=cntB (_::q.op)+0;rw [cnt_cons,inh_cn,hr,h.vs];cases q.rd <;> simp [Nat.add_comm]
 ·show q.op.length+1<=c.i+1;have:=h.so;omega
theorem wf_give {v:Vl} {c:Rq} (h:Fwf l q) (hc:c.i<l.length) (hi:q.c.i<=c.i) (hr:q.rd=false):Fwf l (giveS v (q.at c)):=by
 refine ⟨hc,h.op,?_,?_⟩
 ·show (v::q.x.1).length=cntB q.op+1;rw [Al_List_length_cons,h.vs,hr];simp
 ·show q.op.length<=c.i+1;have:=h.so;omega
theorem wf_at {c:Rq} (h:Fwf l q) (hc:c.i<l.length) (hi:q.c.i<=c.i):Fwf l (q.at c):=⟨hc,h.op,h.vs,by show q.op.length<=c.i+1;have:=h.so;omega⟩
theorem Fwf.top (h:Fwf l q):(q.op=[bO]/\topO q=bO)\/∃ r,q.op=topO q::(r++[bO])/\okO (topO q)=true/\∀ o∈r,okO o=true:=by
 obtain ⟨r,e,hr⟩:=h.op;unfold topO;rw [e];cases r with
 | nil=>exact .inl ⟨Z,Z⟩
 | cons o r=>exact .inr ⟨r,Z,hr _ (Al_List_mem_cons_self ..),λx hx=>hr x (Al_List_mem_cons_of_mem _ hx)⟩
theorem Fwf.ne (h:Fwf l q):q.op≠[]:=by
 obtain ⟨r,e,_⟩:=h.op;rw [e];simp
theorem put_len (v:Vl) (x:Vb):(x.put v).1.length=x.1.length+1:=rfl
theorem tS_len (x:Vb):(tS x).1.length=x.1.length - 1:=List.length_tail
theorem fS_len (x:Vb):(fS x).1.length=x.1.length - 1:=List.length_tail
theorem okO_kd (h:okO o=true):o.kd=2\/o.kd=3\/o.kd=4\/o.kd=5\/o.kd=6\/o.kd=7\/o.kd=8\/o.kd=9\/o.kd=10:=by
 unfold okO at h;rw [Al_Bool_and_eq_true,Al_Bool_and_eq_true,Al_decide_eq_true_eq,Al_decide_eq_true_eq] at h;have h1:=h.1.1;have h2:=h.1.2;have hk:∀ n:Nat,n<256->o.kd.toNat=n->o.kd=UInt8.ofNat n:=λn hn e=>Al_UInt8_toNat_inj.1 (by rw [Al_UInt8_toNat_ofNat_of_lt' hn];exact e);have:o.kd.toNat=2\/o.kd.toNat=3\/o.kd.toNat=4\/o.kd.toNat=5\/o.kd.toNat=6\/o.kd.toNat=7\/o.kd.toNat=8\/o.kd.toNat=9\/o.kd.toNat=10:=by omega
 rcases this with e | e | e | e | e | e | e | e | e <;> have:=hk _ (by decide) e <;> rw [this] <;> decide
theorem okO_lv (h:okO o=true):(o.kd=6\/o.kd=7\/o.kd=8\/o.kd=9\/o.kd=10)↔0<o.lv:=by
 have hk:=okO_kd h;unfold okO at h;rw [Al_Bool_and_eq_true,Al_beq_iff_eq] at h;have h2:=h.2;rcases hk with e | e | e | e | e | e | e | e | e <;> rw [e] at h2 <;> rw [e] <;> by_cases h0:0<o.lv <;> simp [h0] at h2|-
theorem comb_len (ho:okO o=true) (h0:0<o.lv) {x:Vb} (h:(if cnO o then 2 else 1)<=x.1.length):(comb o x).1.length=x.1.length - (if cnO o then 1 else 0):=by
 have hk:=(okO_lv ho).2 h0;unfold comb cnO at *;rcases hk with e | e | e | e | e <;> simp [e,put_len,tS_len,fS_len] at h|- <;> omega
theorem redL_wf {lv:Nat} (hl:1<=lv):∀ (r:List Ov) (x:Vb),(∀ o∈r,okO o=true)->x.1.length=cntB (r++[bO])+1->∃ r' y,redL lv (r++[bO]) x=(r'++[bO],y)/\r'<:+r/\y.1.length=cntB (r'++[bO])+1/\(∀ o,r'.head? = some o->o.lv<lv)
 | [],x,_,h=>⟨[],x,by rw [Al_List_nil_append,redL,Al_if_neg (by show ¬ lv<=0;omega)],Al_List_suffix_refl _,h,λo e=>by cases e⟩
 | o::r,x,ho,h=>by
  rw [Al_List_cons_append,redL];rw [Al_List_cons_append,cnt_cons] at h;have hok:=ho o (Al_List_mem_cons_self ..)
  split
  ·rename_i h1;have h2:=comb_len hok (by omega) (x:=x) (by rw [h];split <;> omega);obtain ⟨r',y,e,hs,hy,ht⟩:=redL_wf hl r (comb o x) (λz hz=>ho z (Al_List_mem_cons_of_mem _ hz)) (by rw [h2,h];split <;> omega);exact ⟨r',y,e,hs.trans (Al_List_suffix_cons o r),hy,ht⟩
  ·rename_i h1;exact ⟨o::r,x,Z,Al_List_suffix_refl _,by rw [Al_List_cons_append,cnt_cons];exact h,λz e=>by injection e with e;subst e;omega⟩
theorem wf_red {lv:Nat} (hl:1<=lv) (h:Fwf l q) (hr:q.rd=true):Fwf l (redP lv q):=by
 obtain ⟨r,e,ho⟩:=h.op;have hv:=h.vs;rw [e,hr] at hv;obtain ⟨r',y,e2,hs,hy,_⟩:=redL_wf hl r q.x ho hv;have h1:(redP lv q).op=r'++[bO]:=by unfold redP;rw [e,e2]
 have h2:(redP lv q).x=y:=by unfold redP;rw [e,e2]
 refine ⟨h.i,⟨r',h1,λo hz=>ho o (hs.subset hz)⟩,?_,?_⟩
 ·rw [h1,h2];show _=_+(if q.rd then 1 else 0);rw [hr];exact hy
 ·rw [h1];have:=hs.length_le;have h3:=h.so;rw [e] at h3;show _<=q.c.i+1;rw [Al_List_length_append] at h3|-;omega
end
section
variable {l:Tks} {q:Ps}
structure Fsp (l:Tks) (q q':Ps):Prop where
 wf:Fwf l q'
 go:q'.fin\/q.c.i<q'.c.i
theorem fail_er {l:Tks} {q:Rq} {c:Nat} (hc:c≠0):(q.fail l c).er≠0:=by
 unfold Rq.fail
 split
 ·exact hc
 ·assumption
theorem stp_if {c:Prop} [Decidable c] {a b:Ps} (h1:c->Fsp l q a) (h2:¬ c->Fsp l q b):Fsp l q (if c then a else b):=by
 by_cases hc:c
 ·rw [Al_if_pos hc];exact h1 hc
 ·rw [Al_if_neg hc];exact h2 hc
theorem Fsp.red {lv:Nat} {q':Ps} (h:Fsp l (redP lv q) q'):Fsp l q q':=⟨h.wf,h.go⟩
theorem stp_fail {c:Nat} (h:Fwf l q) (hc:c≠0):Fsp l q (q.at (q.c.fail l c)):=⟨wf_at h (by rw [fail_i];exact h.i) (by rw [fail_i];exact Al_Nat_le_refl _),.inl (.inr (fail_er hc))⟩
theorem stp_push {o:Ov} {c:Rq} (h:Fwf l q) (hc:c.i<l.length) (hi:q.c.i<c.i) (ho:okO o=true) (hr:cnO o=q.rd):Fsp l q (pushS o (q.at c)):=⟨wf_push h hc hi ho hr,.inr hi⟩
theorem stp_give {v:Vl} {c:Rq} (h:Fwf l q) (hc:c.i<l.length) (hi:q.c.i<c.i) (hr:q.rd=false):Fsp l q (giveS v (q.at c)):=⟨wf_give h hc (Al_Nat_le_of_lt hi) hr,.inr hi⟩
variable (T:Tlast l)
include T
theorem stp_pref {q':Ps} (h:Fwf l q) (hr:q.rd=false) (e:prefS l q=some q'):Fsp l q q':=by
 have n {w:Str} (a:q.c.ac l w=true):q.c.nx.i<l.length:=wi_ac T h.i a;have m {c:Rq} (k:Mq q.c.nx c):q.c.i<c.i:=Al_Nat_lt_of_lt_of_le (Al_Nat_lt_succ_self _) k.i;unfold prefS at e
 split at e
 ·rename_i a;injection e with e;subst e;exact stp_push h (n a) (m (.refl _)) rfl (by rw [hr];rfl)
 split at e
 ·rename_i a;injection e with e;subst e;exact stp_push h (n a) (m (.refl _)) rfl (by rw [hr];rfl)
 split at e
 ·rename_i a;injection e with e;subst e;exact stp_push h (wi_wi T (n a)) (m .wiS) rfl (by rw [hr];rfl)
 split at e
 ·rename_i a;injection e with e;subst e;exact stp_push h (wi_wi T (n a)) (m .wiS) rfl (by rw [hr];rfl)
 split at e
 ·rename_i a;injection e with e;subst e;exact stp_push h (wi_am T (n a)) (m .amS) rfl (by rw [hr];rfl)
 split at e
 ·rename_i a;injection e with e;subst e;exact stp_push h (wi_am T (n a)) (m .amS) rfl (by rw [hr];rfl)
 split at e
 ·rename_i a;injection e with e;subst e;exact stp_push h (wi_ex T (wi_am T (n a))) (m (.trans .amS .exS)) rfl (by rw [hr];rfl)
 ·cases e
theorem stp_var (h:Fwf l q) (h0:q.c.er=0) (hr:q.rd=false) (hk:(tkf l q.c.i).k=1):Fsp l q (varP l q):=by
 have k1:q.c.nmK l=true:=by unfold Rq.nmK;rw [Al_decide_eq_true h0,Al_decide_eq_true hk];rfl
 have e1:q.c.nmS l=q.c.nx:=by unfold Rq.nmS;rw [Al_if_pos k1]
 have n1:q.c.nx.i<l.length:=wi_nmK T h.i k1;have lt {c:Rq} (k:Mq q.c.nx c):q.c.i<c.i:=Al_Nat_lt_of_lt_of_le (Al_Nat_lt_succ_self _) k.i;unfold varP;rw [e1]
 split
 ·rename_i a;have n2:=wi_nm T (wi_ac T n1 a);have m2:Mq q.c.nx (q.c.nx.nx.nmS l):=(Mq.nx (acF_er a)).trans .nmS
  split
  ·rename_i b;exact stp_push h (wi_ac T n2 b) (lt (m2.trans (.nx (acF_er b)))) rfl (by rw [hr];rfl)
  ·exact stp_give h n2 (lt m2) hr
 ·exact stp_give h n1 (lt (.refl _)) hr
theorem stp_arr {w:Str} (h:Fwf l q) (hr:q.rd=false) (a:q.c.ac l w=true):Fsp l q (arrP l (q.at q.c.nx)):=by
 have n1:q.c.nx.i<l.length:=wi_ac T h.i a;have n2:=wi_ex T (w:=[40]) (wi_pa T n1);have m2:Mq q.c.nx ((q.c.nx.paS l).exS l [40]):=Mq.paS.trans .exS;have lt {c:Rq} (k:Mq q.c.nx c):q.c.i<c.i:=Al_Nat_lt_of_lt_of_le (Al_Nat_lt_succ_self _) k.i;unfold arrP
 split
 ·rename_i b;exact stp_give (c:=((q.c.nx.paS l).exS l [40]).nx) h (wi_ac T n2 b) (lt (m2.trans (.nx (acF_er b)))) hr
 ·exact stp_push (c:=(q.c.nx.paS l).exS l [40]) h n2 (lt m2) rfl (by rw [hr];rfl)
theorem stp_re2 (h:Fwf l q) (h0:q.c.er=0) (hr:q.rd=false):Fsp l q (re2P l q):=by
 have n {w:Str} (a:q.c.ac l w=true):q.c.nx.i<l.length:=wi_ac T h.i a;have m {c:Rq} (k:Mq q.c.nx c):q.c.i<c.i:=Al_Nat_lt_of_lt_of_le (Al_Nat_lt_succ_self _) k.i
 have num:(tkf l q.c.i).k=3->Fsp l q (giveS (tmv (.mk 1 [] (q.c.nbV l) [])) (q.at (q.c.nbS l))):=λhk=>by
  have k1:q.c.nbB l=true:=by unfold Rq.nbB;rw [Al_decide_eq_true h0,Al_decide_eq_true hk];rfl
  refine ⟨wf_give h (wi_nb T h.i) Mq.nbS.i hr,?_⟩
  by_cases hf:q.c.fit l=true
  ·refine .inr ?_;show q.c.i<(q.c.nbS l).i;unfold Rq.nbS;rw [Al_if_pos k1,Al_if_pos hf];exact Al_Nat_lt_succ_self _
  ·refine .inl (.inr ?_);show (q.c.nbS l).er≠0;unfold Rq.nbS;rw [Al_if_pos k1,Al_if_neg hf];exact fail_er (by decide)
 unfold re2P
 exact stp_if (λa=>stp_push h (n a) (m (.refl _)) rfl (by rw [hr];rfl)) λ_ =>
  stp_if (λa=>stp_push h (n a) (m (.refl _)) rfl (by rw [hr];rfl)) λ_ =>
  stp_if num λ_=>stp_if (λhk=>stp_var T h h0 hr hk) λ_ =>
  stp_if (λa=>stp_give h (n a) (m (.refl _)) hr) λ_ =>
  stp_if (λa=>stp_give h (wi_pa T (n a)) (m .paS) hr) λ_ =>
  stp_if (λa=>stp_give h (n a) (m (.refl _)) hr) λ_ =>
  stp_if (λa=>stp_give h (n a) (m (.refl _)) hr) λ_ =>
  stp_if (λa=>stp_give h (wi_nm T (n a)) (m .nmS) hr) λ_ =>
  stp_if (λa=>stp_push h (wi_ex T (wi_pa T (n a))) (m (.trans .paS .exS)) rfl (by rw [hr];rfl)) λ_ =>
  stp_if (λa=>stp_arr T h hr a) λ_=>stp_fail h (by decide)
theorem stp_operand (h:Fwf l q) (h0:q.c.er=0) (hr:q.rd=false):Fsp l q (operandP l q):=by
 unfold operandP;cases e:(if fmsB q then prefS l q else none) with
 | some q' =>
  split at e
  ·exact stp_pref T h hr e
  ·cases e
 | none =>
  show Fsp l q (restP l q);unfold restP
  split
  ·rename_i a;exact stp_give h (wi_ac T h.i a.2) (Al_Nat_lt_succ_self _) hr
  ·exact stp_re2 T h h0 hr
theorem stp_bet {op:UInt8} {w:Str} (h:Fwf l q) (hr:q.rd=true) (a:q.c.ac l w=true):Fsp l q (betP l op q):=by
 have n:=wi_ac T h.i a;have w7:=wf_red (lv:=7) (by decide) h hr;have w8:=wf_red (lv:=8) (by decide) h hr;unfold betP
 exact stp_if (λ_=>stp_if (λ_=>(stp_fail (c:=8) w7 (by decide)).red) λ_=>(stp_push (o:=⟨8,6,false,op,zF⟩) (c:=q.c.nx) w7 n (Al_Nat_lt_succ_self _) rfl hr.symm).red) λ_ =>
  stp_if (λ_=>stp_if (λ_=>(stp_fail (c:=8) w8 (by decide)).red) λ_=>(stp_push (o:=⟨9,8,false,op,zF⟩) (c:=q.c.nx) w8 n (Al_Nat_lt_succ_self _) rfl hr.symm).red) λ_ =>
  stp_if (λ_=>(stp_fail (c:=8) w7 (by decide)).red) λ_=>(stp_push (o:=⟨9,7,false,op,zF⟩) (c:=q.c.nx) w7 n (Al_Nat_lt_succ_self _) rfl hr.symm).red
theorem jo_lv {c:Rq} (h0:c.er=0) (hw:c.wrd l=true):(1<=(fsOf (c.joV l).op).lv/\(fsOf (c.joV l).op).lv<=4)/\c.i<(c.joS l).i:=by
 have ac {w:Str} (e:c.is l w=true):c.ac l w=true:=by unfold Rq.ac;rw [e,Al_decide_eq_true h0];rfl
 have lt {c':Rq} (k:Mq c.nx c'):c.i<c'.i:=Al_Nat_lt_of_lt_of_le (Al_Nat_lt_succ_self _) k.i;unfold Rq.joV Rq.joS
 by_cases a1:c.ac l [115,105,110,99,101]=true
 ·rw [Al_if_pos a1,Al_if_pos a1];exact ⟨by show 1<=(fsOf 15).lv/\(fsOf 15).lv<=4;decide,lt .wiS⟩
 by_cases a2:c.ac l [97,110,100]=true
 ·rw [Al_if_neg a1,Al_if_neg a1,Al_if_pos a2,Al_if_pos a2];exact ⟨by show 1<=(fsOf 9).lv/\(fsOf 9).lv<=4;decide,lt (.refl _)⟩
 by_cases a3:c.ac l [111,114]=true
 ·rw [Al_if_neg a1,Al_if_neg a1,Al_if_neg a2,Al_if_neg a2,Al_if_pos a3,Al_if_pos a3];exact ⟨by show 1<=(fsOf 10).lv/\(fsOf 10).lv<=4;decide,lt (.refl _)⟩
 by_cases a4:c.ac l [105,109,112,108,105,101,115]=true
 ·rw [Al_if_neg a1,Al_if_neg a1,Al_if_neg a2,Al_if_neg a2,Al_if_neg a3,Al_if_neg a3,Al_if_pos a4,Al_if_pos a4];exact ⟨by show 1<=(fsOf 11).lv/\(fsOf 11).lv<=4;decide,lt (.refl _)⟩
 unfold Rq.wrd at hw;rw [Al_Bool_or_eq_true,Al_Bool_or_eq_true,Al_Bool_or_eq_true] at hw;rcases hw with ((e | e) | e) | e
 ·exact absurd (ac e) a1
 ·exact absurd (ac e) a2
 ·exact absurd (ac e) a3
 ·exact absurd (ac e) a4
theorem okJ {f:Fm} {lv:Nat} (h:1<=lv):okO ⟨6,lv,false,0,f⟩=true:=by
 unfold okO;rw [Al_decide_eq_true (show 0<lv by omega)];rfl
theorem stp_joi (h:Fwf l q) (h0:q.c.er=0) (hr:q.rd=true) (hw:q.c.wrd l=true):Fsp l q (joiP l q):=by
 obtain ⟨⟨h1,_⟩,hi⟩:=jo_lv T h0 hw;unfold joiP
 split
 ·exact stp_fail h (by decide)
 ·exact (stp_push (o:=⟨6,_,false,0,q.c.joV l⟩) (c:=q.c.joS l) (wf_red h1 h hr) (wi_jo T h.i) hi (okJ T h1) hr.symm).red
theorem stp_clo {c:Rq} {v:Vl} {x:Vb} (h:Fwf l q) (hr:q.rd=true) (ho:okO (topO q)=true) (hk:cnO (topO q)=false) (hc:c.i<l.length) (hi:q.c.i<c.i) (hx:x.1.length=q.x.1.length - 1):Fsp l q (cloS c v x q):=by
 obtain ⟨r,e,hro⟩:=h.op;have hv:=h.vs
 have ht:topO q=bO\/∃ o r',r=o::r'/\topO q=o:=by
  unfold topO;rw [e];cases r with
  | nil=>exact .inl rfl
  | cons o r'=>exact .inr ⟨o,r',Z,Z⟩
 rcases ht with ht | ⟨o,r',rfl,ht⟩
 ·rw [ht] at ho;exact absurd ho (by decide)
 ·rw [ht] at hk;rw [e,Al_List_cons_append,cnt_cons,hk,hr] at hv;simp only [Al_Bool_false_eq_true,Al_if_false,Al_if_true] at hv;refine ⟨⟨hc,⟨r',by show q.op.tail=_;rw [e];rfl,λo ho=>hro o (Al_List_mem_cons_of_mem _ ho)⟩,?_,?_⟩,.inr hi⟩
  ·show x.1.length+1=cntB q.op.tail+1;rw [e];show _=cntB (r'++[bO])+1;omega
  ·show q.op.tail.length<=c.i+1;have:=h.so;rw [List.length_tail];omega
theorem top_ok (h:Fwf l q) {k:UInt8} (hk:(topO q).kd=k) (h1:¬ k=1):okO (topO q)=true:=by
 rcases h.top with ⟨_,e⟩ | ⟨r,_,ho,_⟩
 ·rw [e] at hk;exact absurd hk.symm h1
 ·exact ho
theorem stp_clg (h:Fwf l q) (hr:q.rd=true):Fsp l q (clgP l q):=by
 unfold clgP
 split
 ·exact ⟨⟨h.i,h.op,h.vs,h.so⟩,.inl (.inl Z)⟩
 split
 ·rename_i a;exact stp_clo T h hr (top_ok T h a.1 (by decide)) (by unfold cnO;rw [a.1];decide) (wi_ac T h.i a.2) (Al_Nat_lt_succ_self _) List.length_tail
 split
 ·rename_i a;exact stp_clo T h hr (top_ok T h a.1 (by decide)) (by unfold cnO;rw [a.1];decide) (wi_nb T (wi_ex T (wi_ac T h.i a.2))) (Al_Nat_lt_of_lt_of_le (Al_Nat_lt_succ_self _) (Mq.trans (a:=q.c.nx) .exS .nbS).i) (fS_len _)
 split
 ·rename_i a
  split
  ·exact stp_clo T h hr (top_ok T h a.1 (by decide)) (by unfold cnO;rw [a.1];decide) (wi_ac T h.i a.2) (Al_Nat_lt_succ_self _) (tS_len _)
  ·exact stp_clo T h hr (top_ok T h a.1 (by decide)) (by unfold cnO;rw [a.1];decide) (wi_ac T h.i a.2) (Al_Nat_lt_succ_self _) (tS_len _)
 split
 ·rename_i a;have ho:=top_ok T h a.1 (by decide);obtain ⟨r,e,hro⟩:=h.op;have hv:=h.vs;rcases h.top with ⟨_,e1⟩ | ⟨r,e1,_,hr1⟩
  ·rw [e1] at ho;exact absurd ho (by decide)
  ·have hc:cnO (topO q)=false:=by unfold cnO;rw [a.1];decide
   rw [e1,cnt_cons,hc,hr] at hv;simp only [Al_Bool_false_eq_true,Al_if_false,Al_if_true] at hv;refine ⟨⟨wi_ac T h.i a.2,⟨_::r,by rw [e1];rfl,?_⟩,?_,?_⟩,.inr (Al_Nat_lt_succ_self _)⟩
   ·intro o hz;rcases Al_List_mem_cons.1 hz with rfl | hz
    ·exact ho
    ·exact hr1 o hz
   ·show (tS q.x).1.length=cntB (_::q.op.tail)+0;rw [tS_len,e1,cnt_cons];show _=(if cnO (topO q) then 1 else 0)+cntB (r++[bO])+0;rw [hc];simp only [Al_Bool_false_eq_true,Al_if_false];omega
   ·show q.op.tail.length+1<=q.c.i+1+1;have:=h.so;rw [List.length_tail];omega
 split
 ·rename_i a;exact stp_clo T h hr (top_ok T h a.1 (by decide)) (by unfold cnO;rw [a.1];decide) (wi_ac T h.i a.2) (Al_Nat_lt_succ_self _) (tS_len _)
 ·exact stp_fail h (by decide)
theorem stp_oth (h:Fwf l q) (h0:q.c.er=0) (hr:q.rd=true):Fsp l q (othP l q):=by
 unfold othP
 split
 ·rename_i hw;exact stp_joi T h h0 hr hw
 split
 ·have:=stp_clg T (wf_red (lv:=1) (by decide) h hr) hr;exact ⟨this.wf,this.go⟩
 ·exact stp_fail h (by decide)
theorem sym_ac {c:Rq} {i:Nat} (h0:c.er=0) (e:c.sym l=some i):c.ac l (fsyms.getD i [])=true/\i<22/\i≠0:=by
 unfold Rq.sym at e
 split at e
 ·rename_i hk;unfold symF at e;have h1:=List.find?_some e;have h2:=Al_List_mem_range.1 (List.mem_of_find?_eq_some e);rw [Al_Bool_and_eq_true,Al_decide_eq_true_eq,Al_decide_eq_true_eq] at h1;refine ⟨?_,h2,h1.2⟩;unfold Rq.ac Rq.is;rw [h1.1,Al_decide_eq_true h0,Al_decide_eq_true (show (tkf l c.i).t=(tkf l c.i).t from rfl)];rcases hk with e | e <;> rw [e] <;> decide
 ·cases e
theorem stp_operator (h:Fwf l q) (h0:q.c.er=0) (hr:q.rd=true):Fsp l q (operatorP l q):=by
 unfold operatorP;cases e:q.c.sym l with
 | some i=>exact stp_bet T h hr (sym_ac T h0 e).1
 | none=>exact stp_oth T h h0 hr
theorem stp_step (h:Fwf l q) (hf:¬ q.fin):Fsp l q (stepP l q):=by
 have h0:q.c.er=0:=Classical.byContradiction λe=>hf (.inr e);unfold stepP
 split
 ·rename_i hr;exact stp_operator T h h0 hr
 ·rename_i hr;exact stp_operand T h h0 (by simpa using hr)
omit T in
theorem wf_ini (h:0<l.length):Fwf l iniP:=⟨h,⟨[],Z,λ_ h=>(by cases h)⟩,Z,by decide⟩
theorem run_end:∀ (n:Nat) (q:Ps),Fwf l q->l.length<=q.c.i+n->(runP l n q).fin/\Fwf l (runP l n q)
 | 0,q,h,hn=>by have:=h.i;omega
 | n+1,q,h,hn=>by
  rw [runP]
  split
  ·rename_i hf;exact ⟨hf,h⟩
  ·rename_i hf;have s:=stp_step T h hf;rcases s.go with hg | hg
   ·cases n with
    | zero=>exact ⟨hg,s.wf⟩
    | succ n=>rw [runP,Al_if_pos hg];exact ⟨hg,s.wf⟩
   ·exact run_end n _ s.wf (by omega)
end
theorem run_fin {l:Tks} {q:Ps} (h:q.fin):∀ n,runP l n q=q
 | 0=>rfl
 | n+1=>by rw [runP,Al_if_pos h]
theorem run_add {l:Tks}:∀ (n m:Nat) (q:Ps),runP l (n+m) q=runP l m (runP l n q)
 | 0,m,q=>by rw [Al_Nat_zero_add];rfl
 | n+1,m,q=>by
  rw [show n+1+m=(n+m)+1 by omega,runP,runP]
  split
  ·rename_i hf;rw [run_fin hf]
  ·exact run_add n m _
structure Fn where
 fm:Bool
 tm:Bool
 f:Fm
 e:Ex
def mdN (f:Fm):Fn:=⟨true,false,f,zE⟩
def vlN (e:Ex):Fn:=⟨false,true,zF,e⟩
def zN:Fn:=⟨false,false,zF,zE⟩
inductive Nt where
 | lev (k:Nat)
 | lp (k:Nat) (a:Fn)
 | arg (f:Fm)
 | aft (f:Fm)
def joW (k:Nat):Str:=if k=1 then [105,109,112,108,105,101,115] else if k=2 then [111,114] else if k=3 then [97,110,100] else [115,105,110,99,101]
def preW:List (Str × UInt8):=[([110,111,116],8),([112,114,101,118,105,111,117,115],12),([111,110,99,101],13),([97,108,119,97,121,115],14),([102,111,114,97,108,108],16),([101,120,105,115,116,115],17)]
def priW:List Str:=[[110,111,119],[116,114,117,101],[102,97,108,115,101],[102,108,97,103],[104,97,115],[97,114,114,105,118,101,115],[115,105,122,101],[40]]
section
variable (l:Tks)
def Rq.prS (op:UInt8) (r:Rq):Rq:=if op=13\/op=14 then r.nx.wiS l else if op=16\/op=17 then r.nx.amS l else r.nx
def Rq.prF (op:UInt8) (r:Rq):Fm:=if op=13\/op=14 then r.nx.wiV l op else if op=16\/op=17 then r.nx.amV l op else .mk op [] [] 0 0 [] []
def Rq.jnS (k:Nat) (r:Rq):Rq:=if k=4 then r.nx.wiS l else r.nx
def Rq.jnF (k:Nat) (r:Rq):Fm:=if k=4 then r.nx.wiV l 15 else .mk (UInt8.ofNat (12 - k)) [] [] 0 0 [] []
def ariK (k i:Nat):Prop:=(k=7/\(i=14\/i=15))\/(k=8/\(i=11\/i=12\/i=13))
def opB (i:Nat) (es:List Ex):Ex:=.mk (UInt8.ofNat i) [] 0 es
inductive Gd:Nt->Rq->Fn->Bool->Rq->Prop
 | seq {k:Nat} {r r1 r2:Rq} {x n:Fn} {m m':Bool} (hk:(1<=k/\k<=4)\/k=7\/k=8) (h1:Gd (.lev (k+1)) r x m r1) (h2:Gd (.lp k x) r1 n m' r2):Gd (.lev k) r n (m || m') r2
 | outJ {k:Nat} {r:Rq} {a:Fn} (hk:1<=k/\k<=4) (h:r.ac l (joW k)=false):Gd (.lp k a) r a false r
 | outA {k:Nat} {r:Rq} {a:Fn} (hk:k=7\/k=8) (h:∀ i,ariK k i->r.ac l (fsyms.getD i [])=false):Gd (.lp k a) r a false r
 | join {k:Nat} {r r1 r2:Rq} {a y n:Fn} {m m':Bool} (hk:1<=k/\k<=4) (h:r.ac l (joW k)=true) (h1:Gd (.lev (k+1)) (r.jnS l k) y m r1) (h2:Gd (.lp k (mdN ((r.jnF l k).wAr [a.f,y.f]))) r1 n m' r2):Gd (.lp k a) r n ((m || (!a.fm || !y.fm)) || m') r2
 | ari {k i:Nat} {r r1 r2:Rq} {a y n:Fn} {m m':Bool} (hk:ariK k i) (h:r.ac l (fsyms.getD i [])=true) (h1:Gd (.lev (k+1)) r.nx y m r1) (h2:Gd (.lp k (vlN (opB i [a.e,y.e]))) r1 n m' r2):Gd (.lp k a) r n ((m || (!a.tm || !y.tm)) || m') r2
 | pre {w:Str} {op:UInt8} {r r1:Rq} {x:Fn} {m:Bool} (hp:(w,op)∈preW) (h:r.ac l w=true) (h1:Gd (.lev 5) (r.prS l op) x m r1):Gd (.lev 5) r (mdN ((r.prF l op).wAr [x.f])) (m || !x.fm) r1
 | cnt {r r1:Rq} {x:Fn} {m:Bool} (h:r.ac l [99,111,117,110,116]=true) (h1:Gd (.lev 1) ((r.nx.amS l).exS l [40]) x m r1):Gd (.lev 5) r (mdN (((r.nx.amV l 18).wEx [.mk 1 [] (((r1.exS l [41]).exS l [62,61]).nbV l) []]).wAr [x.f])) (m || !x.fm) (((r1.exS l [41]).exS l [62,61]).nbS l)
 | cmp0 {r r1:Rq} {x:Fn} {m:Bool} (hp:∀ w op,(w,op)∈preW->r.ac l w=false) (hc:r.ac l [99,111,117,110,116]=false) (h1:Gd (.lev 6) r x m r1):Gd (.lev 5) r x m r1
 | cm0 {r r1:Rq} {x:Fn} {m:Bool} (h1:Gd (.lev 7) r x m r1) (h:∀ i,16<=i->i<=21->r1.ac l (fsyms.getD i [])=false):Gd (.lev 6) r x m r1
 | cm1 {i:Nat} {r r1 r2:Rq} {x y:Fn} {m m':Bool} (hi:16<=i/\i<=21) (h1:Gd (.lev 7) r x m r1) (h:r1.ac l (fsyms.getD i [])=true) (h2:Gd (.lev 7) r1.nx y m' r2):Gd (.lev 6) r (mdN (.mk 3 [] [] 0 0 [opB i [x.e,y.e]] [])) ((m || m') || (!x.tm || !y.tm)) r2
 | neg {r r1:Rq} {x:Fn} {m:Bool} (h:r.ac l [45]=true) (h1:Gd (.lev 9) r.nx x m r1):Gd (.lev 9) r (vlN (.mk 9 [] 0 [x.e])) (m || !x.tm) r1
 | pri {r r1:Rq} {x:Fn} {m:Bool} (h:r.ac l [45]=false) (h1:Gd (.lev 10) r x m r1):Gd (.lev 9) r x m r1
 | bad {r:Rq} (h:r.er≠0):Gd (.lev 10) r zN false r
 | num {r:Rq} (h:r.er=0) (hk:(tkf l r.i).k=3):Gd (.lev 10) r (vlN (.mk 1 [] (r.nbV l) [])) false (r.nbS l)
 | now {r:Rq} (h:r.ac l [110,111,119]=true):Gd (.lev 10) r (vlN (.mk 4 [] 0 [])) false r.nx
 | tru {r:Rq} (h:r.ac l [116,114,117,101]=true):Gd (.lev 10) r (mdN (.mk 1 [] [] 0 0 [] [])) false r.nx
 | fal {r:Rq} (h:r.ac l [102,97,108,115,101]=true):Gd (.lev 10) r (mdN (.mk 2 [] [] 0 0 [] [])) false r.nx
 | flg {r:Rq} (h:r.ac l [102,108,97,103]=true):Gd (.lev 10) r (mdN (.mk 6 (r.nx.nmV l) [] 0 0 [] [])) false (r.nx.nmS l)
 | has {r r1:Rq} {x:Fn} {m:Bool} (h:r.ac l [104,97,115]=true) (h1:Gd (.lev 7) ((r.nx.paS l).exS l [91]) x m r1):Gd (.lev 10) r (mdN ((r.nx.paV l 5).wEx [x.e])) (m || !x.tm) (r1.exS l [93])
 | arr0 {r:Rq} (h:r.ac l [97,114,114,105,118,101,115]=true) (h1:((r.nx.paS l).exS l [40]).ac l [41]=true):Gd (.lev 10) r (mdN (r.nx.paV l 7)) false ((r.nx.paS l).exS l [40]).nx
 | arr {r r1:Rq} {n:Fn} {m:Bool} (h:r.ac l [97,114,114,105,118,101,115]=true) (h0:((r.nx.paS l).exS l [40]).ac l [41]=false) (h1:Gd (.arg (r.nx.paV l 7)) ((r.nx.paS l).exS l [40]) n m r1):Gd (.lev 10) r n m r1
 | siz {r:Rq} (h:r.ac l [115,105,122,101]=true):Gd (.lev 10) r (vlN (.mk 8 (r.nx.paN l++[46]++r.nx.paF l) 0 [])) false (r.nx.paS l)
 | par {r r1:Rq} {x:Fn} {m:Bool} (h:r.ac l [40]=true) (h1:Gd (.lev 1) r.nx x m r1):Gd (.lev 10) r x m (r1.exS l [41])
 | nam0 {r:Rq} (h:r.er=0) (hk:(tkf l r.i).k=1) (hd:r.nx.ac l [46]=false):Gd (.lev 10) r (vlN (.mk 5 (r.nmV l) 0 [])) false r.nx
 | nam1 {r:Rq} (h:r.er=0) (hk:(tkf l r.i).k=1) (hd:r.nx.ac l [46]=true) (hb:(r.nx.nx.nmS l).ac l [91]=false):Gd (.lev 10) r ⟨true,true,.mk 4 (r.nmV l) (r.nx.nx.nmV l) 0 0 [] [],.mk 5 (r.ful l) 0 []⟩ false (r.nx.nx.nmS l)
 | get {r r1:Rq} {x:Fn} {m:Bool} (h:r.er=0) (hk:(tkf l r.i).k=1) (hd:r.nx.ac l [46]=true) (hb:(r.nx.nx.nmS l).ac l [91]=true) (h1:Gd (.lev 7) (r.nx.nx.nmS l).nx x m r1):Gd (.lev 10) r (vlN (.mk 6 (r.ful l) 0 [x.e])) (m || !x.tm) (r1.exS l [93])
 | non {r:Rq} (h:r.er=0) (h0:r.ac l [45]=false) (h3:(tkf l r.i).k≠3) (h1:(tkf l r.i).k≠1) (hw:∀ w∈priW,r.ac l w=false):Gd (.lev 10) r zN false (r.fail l 8)
 | arU {r r1:Rq} {f:Fm} {n:Fn} {m:Bool} (h:r.ac l [95]=true) (h1:Gd (.aft (f.wEx (f.ex++[zE]))) r.nx n m r1):Gd (.arg f) r n m r1
 | arT {r r1 r2:Rq} {f:Fm} {x n:Fn} {m m':Bool} (h:r.ac l [95]=false) (h1:Gd (.lev 7) r x m r1) (h2:Gd (.aft (f.wEx (f.ex++[x.e]))) r1 n m' r2):Gd (.arg f) r n ((m || !x.tm) || m') r2
 | afC {r r1:Rq} {f:Fm} {n:Fn} {m:Bool} (h:r.ac l [44]=true) (h1:Gd (.arg f) r.nx n m r1):Gd (.aft f) r n m r1
 | afE {r:Rq} {f:Fm} (h:r.ac l [44]=false):Gd (.aft f) r (mdN f) false (r.exS l [41])
end
section
variable {l:Tks} {r r':Rq} {w:Str}
theorem acF_bad (h:r.er≠0):r.ac l w=false:=by unfold Rq.ac;rw [Al_decide_eq_false h];rfl
theorem ac_bad' (h:r.er≠0) (h2:r.ac l w=true):False:=by rw [acF_bad h] at h2;cases h2
theorem ex_bad (h:r.er≠0):r.exS l w=r:=Mq.exS.er h
theorem gd_er {nt:Nt} {n:Fn} {m:Bool} (g:Gd l nt r n m r'):r.er≠0->r'=r:=by
 induction g with
 | seq hk h1 h2 i1 i2=>intro e;have:=i1 e;subst this;exact i2 e
 | outJ=>intro _;rfl
 | outA=>intro _;rfl
 | join hk h=>intro e;exact (ac_bad' e h).elim
 | ari hk h=>intro e;exact (ac_bad' e h).elim
 | pre hp h=>intro e;exact (ac_bad' e h).elim
 | cnt h=>intro e;exact (ac_bad' e h).elim
 | cmp0 hp hc h1 i1=>exact i1
 | cm0 h1 h i1=>exact i1
 | cm1 hi h1 h h2 i1 i2=>intro e;have:=i1 e;subst this;exact (ac_bad' e h).elim
 | neg h=>intro e;exact (ac_bad' e h).elim
 | pri h h1 i1=>exact i1
 | bad=>intro _;rfl
 | num h=>intro e;exact absurd h e
 | now h=>intro e;exact (ac_bad' e h).elim
 | tru h=>intro e;exact (ac_bad' e h).elim
 | fal h=>intro e;exact (ac_bad' e h).elim
 | flg h=>intro e;exact (ac_bad' e h).elim
 | has h=>intro e;exact (ac_bad' e h).elim
 | arr0 h=>intro e;exact (ac_bad' e h).elim
 | arr h=>intro e;exact (ac_bad' e h).elim
 | siz h=>intro e;exact (ac_bad' e h).elim
 | par h=>intro e;exact (ac_bad' e h).elim
 | nam0 h=>intro e;exact absurd h e
 | nam1 h=>intro e;exact absurd h e
 | get h=>intro e;exact absurd h e
 | non h=>intro e;exact absurd h e
 | arU h=>intro e;exact (ac_bad' e h).elim
 | arT h h1 h2 i1 i2=>intro e;have:=i1 e;subst this;exact i2 e
 | afC h=>intro e;exact (ac_bad' e h).elim
 | afE h=>intro e;exact ex_bad e
end
structure Nok (v:Vl) (n:Fn):Prop where
 tm:v.tm=n.tm
 e:n.tm=true->v.e=n.e
 fm:n.fm=!v.noF
 f:n.fm=true->v.fm=n.f
def foldC (P:List Ov) (x:Vb):Vb:=P.foldl (λx o=>comb o x) x
theorem foldC_app (P R:List Ov) (x:Vb):foldC (P++R) x=foldC R (foldC P x):=Al_List_foldl_append ..
def Rch (l:Tks) (q q':Ps):Prop:=∃ n,runP l n q=q'
section
variable {l:Tks} {q q' q'':Ps}
theorem Rch.refl:Rch l q q:=⟨0,Z⟩
theorem Rch.trans (h:Rch l q q') (k:Rch l q' q''):Rch l q q'':=by
 obtain ⟨n,h⟩:=h;obtain ⟨m,k⟩:=k;exact ⟨n+m,by rw [run_add,h,k]⟩
theorem Rch.one (h0:q.c.er=0) (hd:q.dn=false) (h:stepP l q=q'):Rch l q q':=⟨1,by
 rw [runP,Al_if_neg,h];rfl;rintro (e | e)
 ·rw [hd] at e;cases e
 ·exact e h0⟩
structure Rdy (k:Nat) (q q':Ps) (n:Fn) (m:Bool) (r:Rq):Prop where
 c:q'.c=r
 rd:q'.rd=true
 dn:q'.dn=false
 st:∃ P v,q'.op=P++q.op/\(∀ p∈P,k<=p.lv/\p.tm=(topO q).tm)/\foldC P q'.x=(v::q.x.1,q.x.2 || m)/\(m=false->Nok v n)
 wh:6<=k->(topV q'.x).wh=false
theorem Rdy.mono {k j:Nat} {n:Fn} {m:Bool} {r:Rq} (h:Rdy k q q' n m r) (hj:j<=k) (hw:6<=j->6<=k):Rdy j q q' n m r:=by
 obtain ⟨P,v,a,b,c,d⟩:=h.st;exact ⟨h.c,h.rd,h.dn,⟨P,v,a,λp hp=>⟨Al_Nat_le_trans hj (b p hp).1,(b p hp).2⟩,c,d⟩,λe=>h.wh (hw e)⟩
theorem Rdy.up {k j:Nat} {o:Ov} {q1 q2 q3:Ps} {n N:Fn} {m M:Bool} {r:Rq} (h:Rdy j q2 q3 n m r) (hop:q2.op=o::q1.op) (hk:k<=o.lv) (hj:k<=j) (ht:o.tm=(topO q1).tm)
 (hx:∀ v,(m=false->Nok v n)->∃ u,comb o (v::q2.x.1,q2.x.2 || m)=(u::q1.x.1,q1.x.2 || M)/\(M=false->Nok u N)) (hw:6<=k->(topV q3.x).wh=false):Rdy k q1 q3 N M r:=by
 obtain ⟨P,v,a,b,c,d⟩:=h.st;obtain ⟨u,e,f⟩:=hx v d;have ht2:(topO q2)=o:=by unfold topO;rw [hop];rfl
 refine ⟨h.c,h.rd,h.dn,⟨P++[o],u,by rw [a,hop,Al_List_append_assoc];rfl,?_,?_,f⟩,hw⟩
 ·intro p hp;rcases Al_List_mem_append.1 hp with hp | hp
  ·have:=b p hp;rw [ht2,ht] at this;exact ⟨Al_Nat_le_trans hj this.1,this.2⟩
  ·rw [Al_List_mem_singleton] at hp;subst hp;exact ⟨hk,ht⟩
 ·rw [foldC_app,c];exact e
theorem acF_ne {c:Rq} {w w':Str} (h:c.ac l w=true) (hw:w≠w'):c.ac l w'=false:=by
 cases h2:c.ac l w' with
 | false=>rfl
 | true=>exact absurd ((acF_t h).symm.trans (acF_t h2)) hw
theorem acF_k3 {c:Rq} {w:Str} (h:c.ac l w=true):¬ (tkf l c.i).k=3:=by rcases acF_k h with e | e <;> rw [e] <;> decide
theorem acF_k1 {c:Rq} {w:Str} (h:c.ac l w=true):¬ (tkf l c.i).k=1:=by rcases acF_k h with e | e <;> rw [e] <;> decide
theorem k_ac {c:Rq} {w:Str} (h:¬ ((tkf l c.i).k=2\/(tkf l c.i).k=4)):c.ac l w=false:=by
 cases h2:c.ac l w with
 | false=>rfl
 | true=>exact absurd (acF_k h2) h
theorem sym_w {c:Rq} {w:Str} (h:c.ac l w=true) (hw:symF w=none):c.sym l=none:=by
 unfold Rq.sym
 split
 ·rw [acF_t h];exact hw
 ·rfl
theorem is_of {c:Rq} {w:Str} (h:c.ac l w=true):c.is l w=true:=acF_is h
theorem is_ac0 {c:Rq} {w:Str} (h0:c.er=0):c.is l w=c.ac l w:=by unfold Rq.ac;rw [Al_decide_eq_true h0,Al_Bool_true_and]
end
structure Tgd (l:Tks):Prop where
 last:Tlast l
 ne:∀ i,(tkf l i).k=2\/(tkf l i).k=4->(tkf l i).t≠[]
 nm:∀ i,(tkf l i).k=1->splitF (tkf l i).t=none
section
variable {l:Tks} {q q' q'':Ps} {w w':Str} {c r r':Rq} {k i:Nat} {n:Fn} {m:Bool} {v:Vl}
theorem nw (h:c.ac l w=true) (hw:w≠w'):¬ c.ac l w'=true:=by rw [acF_ne h hw];decide
theorem pref_of {op:UInt8} (h:q.c.ac l w=true) (hp:(w,op)∈preW):prefS l q=some (pushS ⟨7,5,false,0,q.c.prF l op⟩ (q.at (q.c.prS l op))):=by
 unfold preW at hp;simp only [Al_List_mem_cons,Al_Prod_mk_injEq,List.not_mem_nil,or_false] at hp;unfold prefS Rq.prF Rq.prS;rcases hp with ⟨rfl,rfl⟩ | ⟨rfl,rfl⟩ | ⟨rfl,rfl⟩ | ⟨rfl,rfl⟩ | ⟨rfl,rfl⟩ | ⟨rfl,rfl⟩
 ·rw [Al_if_pos h];rfl
 ·rw [Al_if_neg (nw h (by decide)),Al_if_pos h];rfl
 ·rw [Al_if_neg (nw h (by decide)),Al_if_neg (nw h (by decide)),Al_if_pos h];rfl
 ·rw [Al_if_neg (nw h (by decide)),Al_if_neg (nw h (by decide)),Al_if_neg (nw h (by decide)),Al_if_pos h];rfl
 ·rw [Al_if_neg (nw h (by decide)),Al_if_neg (nw h (by decide)),Al_if_neg (nw h (by decide)),Al_if_neg (nw h (by decide)),Al_if_pos h];rfl
 ·rw [Al_if_neg (nw h (by decide)),Al_if_neg (nw h (by decide)),Al_if_neg (nw h (by decide)),Al_if_neg (nw h (by decide)),Al_if_neg (nw h (by decide)),Al_if_pos h];rfl
theorem pref_cnt (h:q.c.ac l [99,111,117,110,116]=true):prefS l q=some (pushS ⟨3,0,false,0,q.c.nx.amV l 18⟩ (q.at ((q.c.nx.amS l).exS l [40]))):=by
 unfold prefS;rw [Al_if_neg (nw h (by decide)),Al_if_neg (nw h (by decide)),Al_if_neg (nw h (by decide)),Al_if_neg (nw h (by decide)),Al_if_neg (nw h (by decide)),Al_if_neg (nw h (by decide)),Al_if_pos h]
theorem pref_no (hp:∀ w op,(w,op)∈preW->q.c.ac l w=false) (hc:q.c.ac l [99,111,117,110,116]=false):prefS l q=none:=by
 have no {w:Str} {op:UInt8} (h:(w,op)∈preW):¬ q.c.ac l w=true:=by rw [hp w op h];decide
 unfold prefS;rw [Al_if_neg (no (op:=8) (by decide)),Al_if_neg (no (op:=12) (by decide)),Al_if_neg (no (op:=13) (by decide)),Al_if_neg (no (op:=14) (by decide)),Al_if_neg (no (op:=16) (by decide)),Al_if_neg (no (op:=17) (by decide)),Al_if_neg (by rw [hc];decide)]
theorem opd_no (hf:fmsB q=false\/prefS l q=none) (hk:(topO q).kd=5->q.c.ac l [95]=false):operandP l q=re2P l q:=by
 have e:(if fmsB q then prefS l q else none)=none:=by
  rcases hf with e | e
  ·rw [e];rfl
  ·rw [e];split <;> rfl
 unfold operandP;rw [e];show restP l q=_;unfold restP;rw [Al_if_neg];rintro ⟨h1,h2⟩;rw [hk h1] at h2;cases h2
theorem re2_neg (h:q.c.ac l [45]=true):re2P l q=pushS ⟨10,9,false,0,zF⟩ (q.at q.c.nx):=by unfold re2P;rw [Al_if_pos h]
theorem re2_par (h:q.c.ac l [40]=true):re2P l q=pushS ⟨2,0,false,0,zF⟩ (q.at q.c.nx):=by unfold re2P;rw [Al_if_neg (nw h (by decide)),Al_if_pos h]
theorem k3_ac (h:(tkf l c.i).k=3):¬ c.ac l w=true:=by rw [k_ac (by rw [h];decide)];decide
theorem k1_ac (h:(tkf l c.i).k=1):¬ c.ac l w=true:=by rw [k_ac (by rw [h];decide)];decide
theorem re2_num (h:(tkf l q.c.i).k=3):re2P l q=giveS (tmv (.mk 1 [] (q.c.nbV l) [])) (q.at (q.c.nbS l)):=by unfold re2P;rw [Al_if_neg (k3_ac h),Al_if_neg (k3_ac h),Al_if_pos h]
theorem re2_nam (h:(tkf l q.c.i).k=1):re2P l q=varP l q:=by unfold re2P;rw [Al_if_neg (k1_ac h),Al_if_neg (k1_ac h),Al_if_neg (by rw [h];decide),Al_if_pos h]
theorem re2_now (h:q.c.ac l [110,111,119]=true):re2P l q=giveS (tmv (.mk 4 [] 0 [])) (q.at q.c.nx):=by
 unfold re2P;rw [Al_if_neg (nw h (by decide)),Al_if_neg (nw h (by decide)),Al_if_neg (acF_k3 h),Al_if_neg (acF_k1 h),Al_if_pos h]
theorem re2_siz (h:q.c.ac l [115,105,122,101]=true):re2P l q=giveS (tmv (.mk 8 (q.c.nx.paN l++[46]++q.c.nx.paF l) 0 [])) (q.at (q.c.nx.paS l)):=by
 unfold re2P;rw [Al_if_neg (nw h (by decide)),Al_if_neg (nw h (by decide)),Al_if_neg (acF_k3 h),Al_if_neg (acF_k1 h),Al_if_neg (nw h (by decide)),Al_if_pos h]
theorem re2_tru (h:q.c.ac l [116,114,117,101]=true):re2P l q=giveS (fmv (.mk 1 [] [] 0 0 [] [])) (q.at q.c.nx):=by
 unfold re2P;rw [Al_if_neg (nw h (by decide)),Al_if_neg (nw h (by decide)),Al_if_neg (acF_k3 h),Al_if_neg (acF_k1 h),Al_if_neg (nw h (by decide)),Al_if_neg (nw h (by decide)),Al_if_pos h]
theorem re2_fal (h:q.c.ac l [102,97,108,115,101]=true):re2P l q=giveS (fmv (.mk 2 [] [] 0 0 [] [])) (q.at q.c.nx):=by
 unfold re2P;rw [Al_if_neg (nw h (by decide)),Al_if_neg (nw h (by decide)),Al_if_neg (acF_k3 h),Al_if_neg (acF_k1 h),Al_if_neg (nw h (by decide)),Al_if_neg (nw h (by decide)),Al_if_neg (nw h (by decide)),Al_if_pos h]
theorem re2_flg (h:q.c.ac l [102,108,97,103]=true):re2P l q=giveS (fmv (.mk 6 (q.c.nx.nmV l) [] 0 0 [] [])) (q.at (q.c.nx.nmS l)):=by
 unfold re2P;rw [Al_if_neg (nw h (by decide)),Al_if_neg (nw h (by decide)),Al_if_neg (acF_k3 h),Al_if_neg (acF_k1 h),Al_if_neg (nw h (by decide)),Al_if_neg (nw h (by decide)),Al_if_neg (nw h (by decide)),Al_if_neg (nw h (by decide)),Al_if_pos h]
theorem re2_has (h:q.c.ac l [104,97,115]=true):re2P l q=pushS ⟨4,0,true,0,q.c.nx.paV l 5⟩ (q.at ((q.c.nx.paS l).exS l [91])):=by
 unfold re2P;rw [Al_if_neg (nw h (by decide)),Al_if_neg (nw h (by decide)),Al_if_neg (acF_k3 h),Al_if_neg (acF_k1 h),Al_if_neg (nw h (by decide)),Al_if_neg (nw h (by decide)),Al_if_neg (nw h (by decide)),Al_if_neg (nw h (by decide)),Al_if_neg (nw h (by decide)),Al_if_pos h]
theorem re2_arr (h:q.c.ac l [97,114,114,105,118,101,115]=true):re2P l q=arrP l (q.at q.c.nx):=by
 unfold re2P;rw [Al_if_neg (nw h (by decide)),Al_if_neg (nw h (by decide)),Al_if_neg (acF_k3 h),Al_if_neg (acF_k1 h),Al_if_neg (nw h (by decide)),Al_if_neg (nw h (by decide)),Al_if_neg (nw h (by decide)),Al_if_neg (nw h (by decide)),Al_if_neg (nw h (by decide)),Al_if_neg (nw h (by decide)),Al_if_pos h]
theorem re2_non (h0:q.c.ac l [45]=false) (h3:(tkf l q.c.i).k≠3) (h1:(tkf l q.c.i).k≠1) (hw:∀ w∈priW,q.c.ac l w=false):re2P l q=q.at (q.c.fail l 8):=by
 have no {w:Str} (h:w∈priW):¬ q.c.ac l w=true:=by rw [hw w h];decide
 unfold re2P;rw [Al_if_neg (by rw [h0];decide),Al_if_neg (no (by decide)),Al_if_neg h3,Al_if_neg h1,Al_if_neg (no (by decide)),Al_if_neg (no (by decide)),Al_if_neg (no (by decide)),Al_if_neg (no (by decide)),Al_if_neg (no (by decide)),Al_if_neg (no (by decide)),Al_if_neg (no (by decide))]
theorem clg_fail (h1:(topO q).kd=1->(tkf l q.c.i).k≠0) (h2:(topO q).kd=2\/(topO q).kd=3\/(topO q).kd=5->q.c.ac l [41]=false) (h4:(topO q).kd=4->q.c.ac l [93]=false) (h5:(topO q).kd=5->q.c.ac l [44]=false):clgP l q=q.at (q.c.fail l 8):=by
 have no {w:Str} (e:q.c.ac l w=false):¬ q.c.ac l w=true:=by rw [e];decide
 unfold clgP;rw [Al_if_neg (λe=>h1 e.1 e.2),Al_if_neg (λe=>no (h2 (.inl e.1)) e.2),Al_if_neg (λe=>no (h2 (.inr (.inl e.1))) e.2),Al_if_neg (λe=>no (h4 e.1) e.2),Al_if_neg (λe=>no (h5 e.1) e.2),Al_if_neg (λe=>no (h2 (.inr (.inr e.1))) e.2)]
end
section
variable {l:Tks} {q q' q'':Ps} {w w':Str} {c r r':Rq} {k i:Nat} {n x y:Fn} {m ma b:Bool} {v u:Vl} {V:List Vl}
theorem ex_ac (h:r.ac l w=true):r.exS l w=r.nx:=by unfold Rq.exS;rw [Al_if_pos h]
theorem ex_no (h:r.ac l w=false):r.exS l w=r.fail l 8:=by unfold Rq.exS;rw [Al_if_neg (by rw [h];decide)]
theorem jn_lv (hk:1<=k/\k<=4) (h:r.ac l (joW k)=true):r.joV l=r.jnF l k/\r.joS l=r.jnS l k/\(fsOf (r.jnF l k).op).lv=k/\r.wrd l=true/\r.sym l=none:=by
 have h0:=acF_er h;have e:k=1\/k=2\/k=3\/k=4:=by omega
 rcases e with rfl | rfl | rfl | rfl
 ·replace h:r.ac l [105,109,112,108,105,101,115]=true:=h;refine ⟨?_,?_,Z,?_,sym_w h (by decide +kernel)⟩
  ·unfold Rq.joV;rw [Al_if_neg (nw h (by decide)),Al_if_neg (nw h (by decide)),Al_if_neg (nw h (by decide)),Al_if_pos h];rfl
  ·unfold Rq.joS;rw [Al_if_neg (nw h (by decide)),Al_if_neg (nw h (by decide)),Al_if_neg (nw h (by decide)),Al_if_pos h];rfl
  ·unfold Rq.wrd;rw [show r.is l [105,109,112,108,105,101,115]=true from is_of h,Bool.or_true]
 ·replace h:r.ac l [111,114]=true:=h;refine ⟨?_,?_,Z,?_,sym_w h (by decide +kernel)⟩
  ·unfold Rq.joV;rw [Al_if_neg (nw h (by decide)),Al_if_neg (nw h (by decide)),Al_if_pos h];rfl
  ·unfold Rq.joS;rw [Al_if_neg (nw h (by decide)),Al_if_neg (nw h (by decide)),Al_if_pos h];rfl
  ·unfold Rq.wrd;rw [show r.is l [111,114]=true from is_of h,Bool.or_true];rfl
 ·replace h:r.ac l [97,110,100]=true:=h;refine ⟨?_,?_,Z,?_,sym_w h (by decide +kernel)⟩
  ·unfold Rq.joV;rw [Al_if_neg (nw h (by decide)),Al_if_pos h];rfl
  ·unfold Rq.joS;rw [Al_if_neg (nw h (by decide)),Al_if_pos h];rfl
  ·unfold Rq.wrd;rw [show r.is l [97,110,100]=true from is_of h,Bool.or_true];rfl
 ·replace h:r.ac l [115,105,110,99,101]=true:=h;refine ⟨?_,?_,Z,?_,sym_w h (by decide +kernel)⟩
  ·unfold Rq.joV;rw [Al_if_pos h];rfl
  ·unfold Rq.joS;rw [Al_if_pos h];rfl
  ·unfold Rq.wrd;rw [show r.is l [115,105,110,99,101]=true from is_of h];rfl
end
section
variable {l:Tks} {q q' q'':Ps} {w w':Str} {c r r' r1 r2:Rq} {k i:Nat} {n x y a:Fn} {m m' ma b:Bool} {v u:Vl} {V:List Vl}
end
section
variable {l:Tks} {q q' q'':Ps} {w w':Str} {c r r' r1 r2:Rq} {k i:Nat} {n x y a:Fn} {m m' ma b:Bool} {v u:Vl} {V:List Vl} {f:Fm}
theorem clg_par {o:Ov} (ht:topO q=o) (hk:o.kd=2) (h:q.c.ac l [41]=true):clgP l q=cloS q.c.nx ⟨(topV q.x).tm,false,(topV q.x).e,(topV q.x).f⟩ (q.x.1.tail,q.x.2) q:=by
 subst ht;unfold clgP;rw [Al_if_neg (λe=>by rw [hk] at e;exact absurd e.1 (by decide)),Al_if_pos ⟨hk,h⟩]
theorem clg_cnt {o:Ov} (ht:topO q=o) (hk:o.kd=3) (h:q.c.ac l [41]=true):clgP l q=cloS ((q.c.nx.exS l [62,61]).nbS l) ⟨false,true,zE,((topO q).f.wEx [.mk 1 [] ((q.c.nx.exS l [62,61]).nbV l) []]).wAr [fF q.x]⟩ (fS q.x) q:=by
 subst ht;unfold clgP;rw [Al_if_neg (λe=>by rw [hk] at e;exact absurd e.1 (by decide)),Al_if_neg (λe=>by rw [hk] at e;exact absurd e.1 (by decide)),Al_if_pos ⟨hk,h⟩]
theorem clg_get {o:Ov} (ht:topO q=o) (hk:o.kd=4) (ho:o.op=6) (h:q.c.ac l [93]=true):clgP l q=cloS q.c.nx (tmv (.mk 6 o.f.nm 0 [tE q.x])) (tS q.x) q:=by
 subst ht;unfold clgP;rw [Al_if_neg (λe=>by rw [hk] at e;exact absurd e.1 (by decide)),Al_if_neg (λe=>by rw [hk] at e;exact absurd e.1 (by decide)),Al_if_neg (λe=>by rw [hk] at e;exact absurd e.1 (by decide)),Al_if_pos ⟨hk,h⟩,Al_if_pos ho]
theorem clg_has {o:Ov} (ht:topO q=o) (hk:o.kd=4) (ho:¬ o.op=6) (h:q.c.ac l [93]=true):clgP l q=cloS q.c.nx (fmv (o.f.wEx [tE q.x])) (tS q.x) q:=by
 subst ht;unfold clgP;rw [Al_if_neg (λe=>by rw [hk] at e;exact absurd e.1 (by decide)),Al_if_neg (λe=>by rw [hk] at e;exact absurd e.1 (by decide)),Al_if_neg (λe=>by rw [hk] at e;exact absurd e.1 (by decide)),Al_if_pos ⟨hk,h⟩,Al_if_neg ho]
theorem clg_com {o:Ov} (ht:topO q=o) (hk:o.kd=5) (h:q.c.ac l [44]=true):clgP l q=⟨q.c.nx,⟨o.kd,o.lv,o.tm,o.op,o.f.wEx (o.f.ex++[tE q.x])⟩::q.op.tail,tS q.x,false,q.dn⟩:=by
 subst ht;unfold clgP;rw [Al_if_neg (λe=>by rw [hk] at e;exact absurd e.1 (by decide)),Al_if_neg (λe=>by rw [hk] at e;exact absurd e.1 (by decide)),Al_if_neg (λe=>by rw [hk] at e;exact absurd e.1 (by decide)),Al_if_neg (λe=>by rw [hk] at e;exact absurd e.1 (by decide)),Al_if_pos ⟨hk,h⟩]
theorem clg_arg {o:Ov} (ht:topO q=o) (hk:o.kd=5) (h:q.c.ac l [41]=true):clgP l q=cloS q.c.nx (fmv (o.f.wEx (o.f.ex++[tE q.x]))) (tS q.x) q:=by
 subst ht;unfold clgP;rw [Al_if_neg (λe=>by rw [hk] at e;exact absurd e.1 (by decide)),Al_if_neg (λe=>by rw [hk] at e;exact absurd e.1 (by decide)),Al_if_neg (λe=>by rw [hk] at e;exact absurd e.1 (by decide)),Al_if_neg (λe=>by rw [hk] at e;exact absurd e.1 (by decide)),Al_if_neg (λe=>absurd e.2 (nw h (by decide))),Al_if_pos ⟨hk,h⟩]
end
section
variable {l:Tks} {q q' q'':Ps} {w w':Str} {c r r' r1 r2:Rq} {k i:Nat} {n x y a:Fn} {m m' ma b:Bool} {v u:Vl} {V:List Vl} {f:Fm}
theorem run_unique {N:Nat} (h:Rch l q q') (hf:q'.fin) (hN:(runP l N q).fin):runP l N q=q':=by
 obtain ⟨k,e⟩:=h;have e1:=run_add (l:=l) k N q;have e2:=run_add (l:=l) N k q;rw [e,run_fin hf] at e1;rw [run_fin hN] at e2;rw [<-e2,Nat.add_comm,e1]
end
end Go.Proofs.YtidclioghdbphaaGreatDoor
namespace Go.Sx
open Go.RowKit Go.Par
section
variable {dfs:List Deferred} {P:Program} {n:Nat} {L:Sl} {H:Hp} {w0:World} {bs:List Res} {Q:Exit->Act->World->Prop} {ops:Array Oper} {K:Act->World->Prop}
def exN (K:Act->World->Prop) (Q:Exit->Act->World->Prop):Exit->Act->World->Prop:=λe=>match e with | .normal=>K | e=>Q e
theorem At.nx (h:At dfs n L H w0 bs K):At dfs n L H w0 bs (wpList P ops (exN K Q) []):=nil h
theorem At.ae {listed:Array Bool} (hr:Region.ready .any ops listed=[]) (h:At dfs n L H w0 bs (Q .normal)):At dfs n L H w0 bs (wpAny P .any ops Q 0 listed):=anyEnd hr h
end
inductive Ty where
 | int (k:IntKind)
 | bool
 | strg
 | seq (τ:Ty)
 | str (fs:List Ty)
 | arr (n:Nat) (τ:Ty)
mutual
def Ty.cells:Ty->Nat
 | .int _=>1
 | .bool=>1
 | .strg=>1
 | .seq _=>1
 | .str fs=>Ty.cellsL fs
 | .arr n τ=>n * Ty.cells τ
def Ty.cellsL:List Ty->Nat
 | []=>0
 | τ::r=>Ty.cells τ+Ty.cellsL r
end
mutual
def Ty.at (P:Program):Ty->TypeId->Bool
 | .int k,t=>match P.underlying t with | some (.int k')=>decide (k'=k) | _=>false
 | .bool,t=>match P.underlying t with | some .bool=>true | _=>false
 | .strg,t=>match P.underlying t with | some .string=>true | _=>false
 | .seq τ,t=>match P.underlying t with | some (.slice e)=>Ty.at P τ e && decide (P.cellsOf e=Ty.cells τ) && decide (0<Ty.cells τ) | _=>false
 | .str fs,t=>match P.underlying t with | some (.struct g)=>decide (P.cellsOf t=Ty.cellsL fs) && Ty.atL P fs g.toList 0 | _=>false
 | .arr n τ,t=>match P.underlying t with | some (.array m e)=>decide (m=n) && Ty.at P τ e && decide (P.cellsOf e=Ty.cells τ) && decide (P.cellsOf t=n * Ty.cells τ) | _=>false
def Ty.atL (P:Program):List Ty->List Field->Nat->Bool
 | [],[],_=>true
 | τ::r,f::g,o=>Ty.at P τ f.type && decide (f.offset=o) && decide (P.cellsOf f.type=Ty.cells τ) && Ty.atL P r g (o+Ty.cells τ)
 | _,_,_=>false
end
mutual
def Ty.has:Ty->D->Prop
 | .int k,d=>∃ n,d=.val (.int k n)/\(Lit.int k n).wf=true
 | .bool,d=>∃ b,d=.val (.bool b)
 | .strg,d=>∃ s:ByteArray,d=.any (.string s)
 | .seq τ,d=>∃ ds,d=.seq (Ty.cells τ) ds/\∀ x∈ds,Ty.has τ x
 | .str fs,d=>∃ ds,d=.str ds/\Ty.hasL fs ds
 | .arr _ _,_=>False
def Ty.hasL:List Ty->List D->Prop
 | [],ds=>ds=[]
 | τ::r,ds=>∃ d q,ds=d::q/\Ty.has τ d/\Ty.hasL r q
end
mutual
def Ty.opn:Ty->Bool
 | .int _=>true
 | .bool=>true
 | .strg=>true
 | .seq τ=>Ty.opn τ
 | .str fs=>Ty.opnL fs
 | .arr _ _=>false
def Ty.opnL:List Ty->Bool
 | []=>true
 | τ::r=>Ty.opn τ && Ty.opnL r
end
mutual
def Ty.pln:Ty->Bool
 | .int _=>true
 | .bool=>true
 | .strg=>true
 | .seq _=>false
 | .str fs=>Ty.plnL fs
 | .arr _ τ=>Ty.pln τ
def Ty.plnL:List Ty->Bool
 | []=>true
 | τ::r=>Ty.pln τ && Ty.plnL r
end
def allH (W:World):Hp:=⟨λb=>W.heap[b]?,0⟩
theorem allH_agr (W:World):Agr (allH W) W:=⟨λ_ _ h=>h,Al_Nat_zero_le _⟩
variable {W:World} {v:Value}
theorem cell_block {a:Addr} (h:W.cell? a=some v):∃ cs t m,W.heap[a.block]? = some (.cells cs t m)/\a.spot=Option.none/\cs[a.off]? = some v:=by
 unfold World.cell? at h
 split at h
 ·rename_i cs t m e
  split at h
  ·cases h
  ·rename_i hs;exact ⟨cs,t,m,e,by simpa using hs,h⟩
 ·cases h
theorem add_add (a:Addr) (x y:Nat):(a.add x).add y=a.add (x+y):=by
 by_cases hx:x=0
 ·subst hx;simp [Addr.add]
 ·by_cases hy:y=0
  ·subst hy;simp [Addr.add]
  ·simp [Addr.add,hx,hy,Al_Nat_add_assoc]
mutual
theorem Ty.plain:∀ (τ:Ty) (d:D),Ty.has τ d->d.txt=false
 | .int k,d,h=>by
  unfold Ty.has at h;obtain ⟨n,rfl,_⟩:=h
  rfl
 | .bool,d,h=>by
  unfold Ty.has at h;obtain ⟨n,rfl⟩:=h
  rfl
 | .strg,d,h=>by
  unfold Ty.has at h;obtain ⟨n,rfl⟩:=h
  rfl
 | .seq τ,d,h=>by
  unfold Ty.has at h;obtain ⟨ds,rfl,h⟩:=h;show D.txtL ds=false;rw [D.txtL_any,List.any_eq_false];intro x hx;rw [Ty.plain τ x (h x hx)]
  decide
 | .str fs,d,h=>by
  unfold Ty.has at h;obtain ⟨ds,rfl,h⟩:=h;exact Ty.plainL fs ds h
 | .arr n τ,d,h=>by
  unfold Ty.has at h;exact h.elim
theorem Ty.plainL:∀ (fs:List Ty) (ds:List D),Ty.hasL fs ds->D.txtL ds=false
 | [],ds,h=>by
  unfold Ty.hasL at h;subst h
  rfl
 | τ::r,ds,h=>by
  unfold Ty.hasL at h;obtain ⟨d,q,rfl,h1,h2⟩:=h;rw [D.txtL,Ty.plain τ d h1,Ty.plainL r q h2]
  rfl
end
section
variable {H:Type} {enc:TypeId × Value->H} {P:Program} {base:Nat} {sp:Nat->Bool} {held:Bool}
mutual
theorem Ty.opens (W:World):∀ (τ:Ty) (t:TypeId) (fuel:Nat) (cs:List Value) (x:DataW H × List MemPlace),Ty.at P τ t=true->Ty.opn τ=true->DataW.trod enc P W base sp held fuel t cs=some x->∃ d,Ty.has τ d/\Rep (allH W) d cs
 | .int k,t,fuel,cs,x,ha,_,h=>by
  unfold Ty.at at ha
  split at ha
  ·rename_i k' hu;obtain rfl:k'=k:=by simpa using ha
   obtain ⟨n,rfl,_,hw⟩:=DataW.trod_int hu h;refine ⟨.val (.int k' n),?_,?_⟩
   ·unfold Ty.has;exact ⟨n,Z,hw⟩
   ·unfold Rep;exact ⟨Z,Z,Jt⟩
  ·cases ha
 | .bool,t,fuel,cs,x,ha,_,h=>by
  unfold Ty.at at ha
  split at ha
  ·rename_i hu;obtain ⟨b,rfl,_⟩:=DataW.trod_bool hu h;refine ⟨.val (.bool b),?_,?_⟩
   ·unfold Ty.has;exact ⟨b,Z⟩
   ·unfold Rep;exact ⟨Z,Z,Jt⟩
  ·cases ha
 | .strg,t,fuel,cs,x,ha,_,h=>by
  unfold Ty.at at ha
  split at ha
  ·rename_i hu;obtain ⟨s,rfl,_⟩:=DataW.trod_string hu h;refine ⟨.any (.string s),?_,?_⟩
   ·unfold Ty.has;exact ⟨s,Z⟩
   ·unfold Rep;exact ⟨Z,Z⟩
  ·cases ha
 | .arr _ _,_,_,_,_,_,ho,_=>by simp [Ty.opn] at ho
 | .str fs,t,fuel,cs,x,ha,ho,h=>by
  unfold Ty.at at ha
  split at ha
  ·rename_i g hu;simp only [Al_Bool_and_eq_true,Al_decide_eq_true_eq] at ha;unfold Ty.opn at ho;obtain ⟨xs,n,_,rfl,hl,hlen,hf⟩:=DataW.trod_struct hu h
   obtain ⟨ds,h1,h2⟩:=Ty.opensL W fs g.toList 0 n cs ha.2 ho (by rw [hl,ha.1];omega) (λi f hi=>by
    have hi2:g[i]? = some f:=by simpa using hi
    have:=hf i f hi2;have hlt:i<xs.length:=by rw [hlen];exact (Array.getElem?_eq_some_iff.1 hi2).1
    rw [List.getElem?_eq_getElem hlt] at this;exact ⟨_,this⟩)
   refine ⟨.str ds,?_,?_⟩
   ·unfold Ty.has;exact ⟨ds,Z,h1⟩
   ·unfold Rep;simpa using h2
  ·cases ha
 | .seq τ,t,fuel,cs,x,ha,ho,h=>by
  unfold Ty.at at ha
  split at ha
  ·rename_i e hu;simp only [Al_Bool_and_eq_true,Al_decide_eq_true_eq] at ha;obtain ⟨⟨ha,hz⟩,h0⟩:=ha;unfold Ty.opn at ho;rcases Go.Deep.open_slice hu h with ⟨rfl,-⟩ | ⟨a,len,cap,m,n,D,Pl,rfl,-,hl,hm,hmm,-,hi⟩
   ·refine ⟨.seq (Ty.cells τ) [],?_,.empty (by simp [maxLen])⟩;unfold Ty.has;exact ⟨[],Z,by simp⟩
   have hlm:len<=m:=by rw [hmm];split <;> omega
   have key:∀ q,q<=len->∃ ds l,ds.length=q/\(∀ x∈ds,Ty.has τ x)/\RepZ (allH W) (Ty.cells τ) ds l/\l.length=q * Ty.cells τ/\∀ (j:Nat) u,l[j]? = some u->W.cell? (a.add j)=some u:=by
    intro q;induction q with
    | zero=>intro _;exact ⟨[],[],Z,by simp,RepZ.nil,by simp,by simp⟩
    | succ q ih =>
     intro hq;obtain ⟨ds,l,h1,h2,h3,h4,h5⟩:=ih (by omega);obtain ⟨cs',hc,ht⟩:=hi q (by omega);rw [hz] at hc;obtain ⟨_,hcl,hat⟩:=World.cells?_some hc;obtain ⟨d,hd,hr⟩:=Ty.opens W τ e n cs' _ ha ho ht;refine ⟨ds++[d],l++cs',by simp [h1],?_,h3.snoc hr hcl,by rw [Al_List_length_append,h4,hcl,Al_Nat_succ_mul],?_⟩
     ·intro x hx;rcases Al_List_mem_append.1 hx with hx | hx
      ·exact h2 x hx
      ·rw [Al_List_mem_singleton.1 hx];exact hd
     ·intro j u hj
      by_cases hjl:j<l.length
      ·rw [List.getElem?_append_left hjl] at hj;exact h5 j u hj
      ·rw [List.getElem?_append_right (by omega)] at hj;have hjc:=(List.getElem?_eq_some_iff.1 hj).1;have:=hat (j - l.length) (by omega);rw [hj] at this;have h9:q * Ty.cells τ+(j - l.length)=j:=by omega
       have h10:(a.add (q * Ty.cells τ)).add (j - l.length)=a.add j:=by rw [add_add,h9]
       rw [<-h10];exact this
   obtain ⟨ds,l,h1,h2,h3,h4,h5⟩:=key len (Al_Nat_le_refl _);refine ⟨.seq (Ty.cells τ) ds,?_,?_⟩
   ·unfold Ty.has;exact ⟨ds,Z,h2⟩
   by_cases hl0:len=0
   ·subst hl0;obtain rfl:=Al_List_eq_nil_of_length_eq_zero h1;exact .empty hm
   ·have hlp:0<l.length:=by rw [h4];exact Nat.mul_pos (by omega) h0
    have hc0:=h5 0 _ (List.getElem?_eq_getElem hlp);rw [show a.add 0=a by simp [Addr.add]] at hc0;obtain ⟨arr,t',mk,hb,hs,_⟩:=cell_block hc0;obtain ⟨ab,ao,ap⟩:=a;simp only at hs hb;subst hs
    refine .mkM ⟨arr,t',mk,hb,λj u hu=>?_⟩ h3 h1 hl hm λe=>by
     have hp:=Ty.plain (.seq τ) (.seq (Ty.cells τ) ds) (by unfold Ty.has;exact ⟨ds,Z,h2⟩);rw [show Go.Sx.D.txtL ds=false from hp] at e;cases e
    have h6:=h5 j u hu;rw [Addr.add_lit] at h6;obtain ⟨arr',t'',mk',hb',_,h7⟩:=cell_block h6;have e2:=Al_Option_some_inj (hb.symm.trans hb');injection e2 with e3
    subst e3;exact h7
  ·cases ha
theorem Ty.opensL (W:World):∀ (fs:List Ty) (g:List Field) (o n:Nat) (cs:List Value),Ty.atL P fs g o=true->Ty.opnL fs=true->cs.length=o+Ty.cellsL fs ->
 (∀ (i:Nat) f,g[i]? = some f->∃ y,DataW.trod enc P W base sp held n f.type ((cs.drop f.offset).take (P.cellsOf f.type))=some y)->∃ ds,Ty.hasL fs ds/\RepL (allH W) ds (cs.drop o)
 | [],[],o,n,cs,_,_,hl,_=>by
  refine ⟨[],by unfold Ty.hasL;rfl,?_⟩;unfold RepL;exact Al_List_drop_of_length_le (by simp only [Ty.cellsL] at hl;omega)
 | [],_::_,_,_,_,ha,_,_,_=>by simp [Ty.atL] at ha
 | _::_,[],_,_,_,ha,_,_,_=>by simp [Ty.atL] at ha
 | τ::r,f::g,o,n,cs,ha,ho,hl,hf=>by
  unfold Ty.atL at ha;unfold Ty.opnL at ho;simp only [Al_Bool_and_eq_true,Al_decide_eq_true_eq] at ha ho;obtain ⟨⟨⟨a1,a2⟩,a3⟩,a4⟩:=ha;obtain ⟨y,hy⟩:=hf 0 f rfl;rw [a2,a3] at hy;obtain ⟨d,h1,h2⟩:=Ty.opens W τ f.type n _ y a1 ho.1 hy;unfold Ty.cellsL at hl;obtain ⟨ds,h3,h4⟩:=Ty.opensL W r g (o+Ty.cells τ) n cs a4 ho.2 (by omega) (λi f' hi=>hf (i+1) f' (by simpa using hi));refine ⟨d::ds,by unfold Ty.hasL;exact ⟨d,ds,Z,h1,h3⟩,?_⟩;unfold RepL;exact ⟨_,_,by rw [<-Al_List_drop_drop,Al_List_take_append_drop],h2,h4⟩
end
mutual
def flatD:DataW H->List Value
 | .lit (.int k n)=>[.int k n]
 | .lit (.bool b)=>[.bool b]
 | .lit (.string l)=>[.string ⟨l.toArray⟩]
 | .agg ps=>flatDs ps
 | _=>[]
def flatDs:List (DataW H)->List Value
 | []=>[]
 | d::r=>flatD d++flatDs r
end
mutual
theorem Ty.flat (W:World):∀ (τ:Ty) (t:TypeId) (fuel:Nat) (cs:List Value) (x:DataW H × List MemPlace),Ty.at P τ t=true->Ty.pln τ=true->DataW.trod enc P W base sp held fuel t cs=some x->cs=flatD x.1
 | .int k,t,fuel,cs,x,ha,_,h=>by
  unfold Ty.at at ha
  split at ha
  ·rename_i k' hu;obtain ⟨n,rfl,rfl,hw⟩:=DataW.trod_int hu h;simp only [flatD]
  ·cases ha
 | .bool,t,fuel,cs,x,ha,_,h=>by
  unfold Ty.at at ha
  split at ha
  ·rename_i hu;obtain ⟨b,rfl,rfl⟩:=DataW.trod_bool hu h;simp only [flatD]
  ·cases ha
 | .strg,t,fuel,cs,x,ha,_,h=>by
  unfold Ty.at at ha
  split at ha
  ·rename_i hu;obtain ⟨s,rfl,rfl,_⟩:=DataW.trod_string hu h;simp only [flatD]
  ·cases ha
 | .seq _,_,_,_,_,_,ho,_=>by simp [Ty.pln] at ho
 | .str fs,t,fuel,cs,x,ha,ho,h=>by
  unfold Ty.at at ha
  split at ha
  ·rename_i g hu;simp only [Al_Bool_and_eq_true,Al_decide_eq_true_eq] at ha;unfold Ty.pln at ho;obtain ⟨xs,n,_,rfl,hl,hlen,hf⟩:=DataW.trod_struct hu h;have h2:=Ty.flatL W fs g.toList 0 n cs xs ha.2 ho (by rw [hl,ha.1];omega) (by simpa using hlen) (λi f hi=>hf i f (by simpa using hi));simpa [flatD] using h2
  ·cases ha
 | .arr k τ,t,fuel,cs,x,ha,ho,h=>by
  unfold Ty.at at ha
  split at ha
  ·rename_i m e hu;simp only [Al_Bool_and_eq_true,Al_decide_eq_true_eq] at ha;obtain ⟨⟨⟨hm,ha⟩,hz⟩,hct⟩:=ha;subst hm;unfold Ty.pln at ho;obtain ⟨xs,n,_,rfl,hl,hlen,hf⟩:=DataW.trod_array hu h
   have key:∀ (xs:List (DataW H × List MemPlace)) (cs:List Value),cs.length=xs.length * Ty.cells τ->(∀ i,i<xs.length->DataW.trod enc P W base sp held n e ((cs.drop (i * Ty.cells τ)).take (Ty.cells τ))=xs[i]?)->cs=flatDs (xs.map (·.1)):=by
    intro xs;induction xs with
    | nil=>intro cs hc _;simp at hc;simp [hc,flatDs]
    | cons y r ih =>
     intro cs hc hi;have h0:=hi 0 (by simp);simp only [Al_Nat_zero_mul,Al_List_drop_zero,List.getElem?_cons_zero] at h0;have e0:=Ty.flat W τ e n _ y ha ho h0
     have e1:=ih (cs.drop (Ty.cells τ)) (by rw [Al_List_length_drop,hc,Al_List_length_cons,Al_Nat_succ_mul];omega) (λi hlt=>by
      have:=hi (i+1) (by simp;omega);rw [List.getElem?_cons_succ] at this;rw [<-this,Al_List_drop_drop,show Ty.cells τ+i * Ty.cells τ=(i+1) * Ty.cells τ by rw [Al_Nat_succ_mul];omega])
     simp only [Al_List_map_cons,flatDs];rw [<-e0,<-e1,Al_List_take_append_drop]
   have h2:=key xs cs (by rw [hl,hct,hlen]) (λi hlt=>by
    have:=hf i (by omega);rw [hz] at this;exact this)
   simpa [flatD] using h2
  ·cases ha
theorem Ty.flatL (W:World):∀ (fs:List Ty) (g:List Field) (o n:Nat) (cs:List Value) (xs:List (DataW H × List MemPlace)),Ty.atL P fs g o=true->Ty.plnL fs=true->cs.length=o+Ty.cellsL fs->xs.length=g.length ->
 (∀ (i:Nat) f,g[i]? = some f->DataW.trod enc P W base sp held n f.type ((cs.drop f.offset).take (P.cellsOf f.type))=xs[i]?)->cs.drop o=flatDs (xs.map (·.1))
 | [],[],o,n,cs,xs,_,_,hl,hx,_=>by
  obtain rfl:=Al_List_eq_nil_of_length_eq_zero hx;simp only [Al_List_map_nil,flatDs];exact Al_List_drop_of_length_le (by simp only [Ty.cellsL] at hl;omega)
 | [],_::_,_,_,_,_,ha,_,_,_,_=>by simp [Ty.atL] at ha
 | _::_,[],_,_,_,_,ha,_,_,_,_=>by simp [Ty.atL] at ha
 | τ::r,f::g,o,n,cs,[],ha,ho,hl,hx,hf=>by simp at hx
 | τ::r,f::g,o,n,cs,y::xs,ha,ho,hl,hx,hf=>by
  unfold Ty.atL at ha;unfold Ty.plnL at ho;simp only [Al_Bool_and_eq_true,Al_decide_eq_true_eq] at ha ho;obtain ⟨⟨⟨a1,a2⟩,a3⟩,a4⟩:=ha;have hy:=hf 0 f rfl;rw [a2,a3,List.getElem?_cons_zero] at hy;have e0:=Ty.flat W τ f.type n _ y a1 ho.1 hy;unfold Ty.cellsL at hl
  have e1:=Ty.flatL W r g (o+Ty.cells τ) n cs xs a4 ho.2 (by omega) (by simpa using hx) (λi f' hi=>by
   have:=hf (i+1) f' (by simpa using hi);rw [List.getElem?_cons_succ] at this;exact this)
  simp only [Al_List_map_cons,flatDs];rw [<-e0,<-e1,<-Al_List_drop_drop,Al_List_take_append_drop]
end
end
variable {g:Nat} {t:TypeId}
theorem laid_mem {P:Program} {name:String} {dat:DataW Unit} {rest:List (String × DataW Unit)} (τ:Ty) (cs:List Value)
 (hg:P.globalNamed name=some g) (hty:(P.globals[g]?).map (·.type)=some t) (ha:Ty.at P τ t=true) (hp:Ty.pln τ=true) (hc:flatD dat=cs) (h:laidMet P ((name,dat)::rest) W):MemAt (allH W) g 0 cs:=by
 obtain ⟨ps,⟨g',t',cs',fuel,p,q,hg',ht',hvar,hd,_,_⟩,_⟩:=h;obtain rfl:=Al_Option_some_inj (hg.symm.trans hg');obtain rfl:=Al_Option_some_inj (hty.symm.trans ht');have e:=Ty.flat W τ t fuel cs'.toList _ ha hp hd;dsimp only at e;rw [hc] at e;unfold World.var? at hvar;rw [hg] at hvar;simp only [Al_Option_bind_some] at hvar
 split at hvar
 ·rename_i arr T m hb;refine ⟨arr,T,m,hb,λj u hu=>?_⟩;obtain rfl:=Al_Option_some_inj hvar;rw [Al_Nat_zero_add];rw [<-e] at hu;simpa using hu
 ·cases hvar
theorem list_of {α β:Type} {f:α->β}:∀ {ds:List β},(∀ x∈ds,∃ y,x=f y)->∃ l:List α,ds=l.map f
 | [],_=>⟨[],Z⟩
 | d::r,h=>by
  obtain ⟨y,rfl⟩:=h d Hm;obtain ⟨l,rfl⟩:=list_of (ds:=r) λx hx=>h x (.tail _ hx);exact ⟨y::l,Z⟩
theorem has_u8 {n:Int} (h:(Lit.int .u8 n).wf=true):∃ x:UInt8,n=x.toNat:=by
 have e1:IntKind.u8.min=0:=rfl;have e2:IntKind.u8.max=255:=rfl;simp only [Lit.wf,e1,e2,Al_Bool_and_eq_true,Al_decide_eq_true_eq] at h;exact ⟨UInt8.ofNat n.toNat,by simp [Al_UInt8_toNat_ofNat'];omega⟩
end Go.Sx
/- Drawn regions with several heavy operations that do not wait for one another: the light ones are decided as early as they can, the heavy ones in every order. -/
namespace Go.Sx
open Go.RowKit Go.Par
inductive Pi0 where
 | done
 | no
 | light (i:Nat) (r:Pi0)
 | alt (i k:Nat) (r q:Pi0)
inductive PlT where
 | done
 | no
 | light (i:Nat) (o:Oper) (r:PlT)
 | alt (i k:Nat) (o:Oper) (r q:PlT)
def fillT (l:List Oper):Pi0->PlT
 | .done=>.done
 | .no=>.no
 | .light i r=>.light i l[i]! (fillT l r)
 | .alt i k r q=>.alt i k l[i]! (fillT l r) (fillT l q)
def okT (ops:Array Oper) (n:Nat):List Nat->List Nat->Pi0->Bool
 | D,A,.done=>A.isEmpty && (List.range n).all λj=>D.contains j
 | D,A,.no=>!A.isEmpty && (List.range n).all λj=>D.contains j || A.contains j || A.any λi=>reach ops n j i
 | D,A,.light i r=>A.isEmpty && decide (i<n) && !D.contains i && ((List.range n).all λj=>!Region.waitsFor .any ops i j || D.contains j) && okT ops n (i::D) [] r
 | D,A,.alt i k r q=>decide (i<n) && !D.contains i && ((List.range n).all λj=>!Region.waitsFor .any ops i j || D.contains j) && (!(k == 1) || D.all λj=>reach ops n i j) && okT ops n (i::D) [] r && okT ops n D (i::A) q
section
variable {dfs:List Deferred} {P:Program} {ops:Array Oper} {w0:World} {n N:Nat}
def FlowT (dfs:List Deferred) (P:Program) (ops:Array Oper) (n:Nat) (w0:World) (N:Nat) (E:Sl->Hp->List Res->Prop):PlT->List (Nat × Oper × Value)->Sl->Hp->List Res->Prop
 | .done,_,L,H,bs=>E L H bs
 | .no,_,_,_,_=>True
 | .light i o r,pa,L,H,bs=>∃ v,(∀ a W,Fr dfs N L a->St H w0 bs W->Yq P ops o v a W)/\(∀ t,o.dst=some t->t<N)/\FlowT dfs P ops n w0 N E r ((i,o,v)::pa) (putL o.dst v L) H bs
 | .alt i k o r q,pa,L,H,bs=>((∀ t,o.dst=some t->t<N)/\At dfs N L H w0 bs (one P ops (λ_ _ _=>False) o λa' W'=>∃ v H' bs',Fr dfs N (putL o.dst v L) a'/\St H' w0 bs' W'/\(k=1\/(∀ W,St H' w0 bs' W->St H w0 bs W)\/RedoP dfs P ops n w0 N L H' bs' i pa)/\FlowT dfs P ops n w0 N E r pa (putL o.dst v L) H' bs'))/\FlowT dfs P ops n w0 N E q pa L H bs
structure GT (dfs:List Deferred) (P:Program) (ops:Array Oper) (l:List Oper) (w0:World) (n N:Nat) (a0:Act) (E:Sl->Hp->List Res->Prop) (listed:Array Bool) (a:Act) (W:World) (val:Nat->Value) (dec:Nat->Bool) (D:List Nat) (L:Sl) (H:Hp) (bs:List Res) (pa:List (Nat × Oper × Value)):Prop where
 head:HeadInv .any ops n listed
 frame:a=frm ops val (st listed) n a0
 full:Fr dfs N L (frm ops val dec n a0)
 sub:∀ i,i<n->st listed i=true->dec i=true
 world:St H w0 bs W
 light:∀ i o,i<n->ops[i]? = some o->dec i=true->st listed i=false->∀ W,St H w0 bs W->Yq P ops o (val i) (frm ops val dec n a0) W
 past:∀ i o,i<n->ops[i]? = some o->dec i=true->st listed i=false->(i,o,val i)∈pa
 set:∀ j,dec j=D.contains j
 deps:∀ i j,i<n->j<n->dec i=true->Region.waitsFor .any ops i j=true->dec j=true
variable {l:List Oper} {a0:Act} {E:Sl->Hp->List Res->Prop} {Q:Exit->Act->World->Prop} {listed:Array Bool} {a:Act} {W:World} {val:Nat->Value} {dec:Nat->Bool} {D A:List Nat} {L:Sl} {H:Hp} {bs:List Res} {pa:List (Nat × Oper × Value)}
theorem upd_set {i:Nat} (h:∀ j,dec j=D.contains j):∀ j,upd dec i true j=(i::D).contains j:=λj=>by
 by_cases e:j=i
 ·subst e;rw [upd_same];simp
 ·rw [upd_ne _ _ e,h j,List.contains_cons];have:(j == i)=false:=by simpa using e
  rw [this];simp
theorem waits_ok {i:Nat} (h:((List.range n).all λj=>!Region.waitsFor .any ops i j || D.contains j)=true) {j:Nat} (hj:j<n) (hw:Region.waitsFor .any ops i j=true):D.contains j=true:=by
 have:=Al_List_all_eq_true.1 h j (Al_List_mem_range.2 hj);rw [hw] at this;simpa using this
theorem GT.decide (F:Fit ops n []) {i:Nat} {o:Oper} (I:GT dfs P ops l w0 n N a0 E listed a W val dec D L H bs pa) (hi:i<n) (ho:ops[i]? = some o) (hiD:D.contains i=false) (hwt:((List.range n).all λj=>!Region.waitsFor .any ops i j || D.contains j)=true)
 {v:Value} (hy:∀ a W,Fr dfs N L a->St H w0 bs W->Yq P ops o v a W) (hN:∀ t,o.dst=some t->t<N) :
 GT dfs P ops l w0 n N a0 E listed a W (upd val i v) (upd dec i true) (i::D) (putL o.dst v L) H bs ((i,o,v)::pa):=by
 have hdi:dec i=false:=(I.set i).trans hiD;have hdeps:∀ j,j<n->Region.waitsFor .any ops i j=true->dec j=true:=λj hj hw=>(I.set j).trans (waits_ok hwt hj hw)
 have hii:∀ j,j<n->Region.waitsFor .any ops i j=true->j≠i:=λj hj hw e=>by
  have:=hdeps j hj hw;rw [e,hdi] at this;cases this
 have hli:st listed i=false:=by
  cases h:st listed i with
  | false=>rfl
  | true=>have:=I.sub i hi h;rw [hdi] at this;cases this
 have hput:=frm_put (a0:=a0) (val:=val) (v:=v) F hi ho hdi;refine ⟨I.head,?_,?_,?_,I.world,?_,?_,upd_set I.set,?_⟩
 ·rw [I.frame];refine frm_congr _ _ _ _ a0 n λk _=>⟨Z,λhk=>(upd_ne _ _ λe=>?_).symm⟩;subst e;rw [hli] at hk;cases hk
 ·rw [hput];exact I.full.putL v hN
 ·intro j hj hs
  by_cases e:j=i
  ·subst e;exact upd_same _ _ _
  ·rw [upd_ne _ _ e];exact I.sub j hj hs
 ·intro j oj hj hoj hd hs W hW
  by_cases e:j=i
  ·subst e;obtain rfl:oj=o:=Al_Option_some_inj (hoj.symm.trans ho);rw [upd_same];refine Yq.same (λcs b=>F.sel j oj cs b ho) (λt ht=>?_) (hy _ W I.full hW);refine eval_same F hj ho (λk hk hw=>?_) t ht;have hkd:=hdeps k hk hw;have hki:=hii k hk hw;exact ⟨by rw [upd_ne _ _ hki];exact hkd,hkd,upd_ne _ _ hki⟩
  ·rw [upd_ne _ _ e] at hd|-;refine Yq.same (λcs b=>F.sel j oj cs b hoj) (λt ht=>?_) (I.light j oj hj hoj hd hs W hW);refine eval_same F hj hoj (λk hk hw=>?_) t ht;have hkd:=I.deps j k hj hk hd hw;have hki:k≠i:=λe=>by subst e;rw [hdi] at hkd;cases hkd
   exact ⟨by rw [upd_ne _ _ hki];exact hkd,hkd,upd_ne _ _ hki⟩
 ·intro j oj hj hoj hd hs
  by_cases e:j=i
  ·subst e;obtain rfl:oj=o:=Al_Option_some_inj (hoj.symm.trans ho);rw [upd_same];exact .head _
  ·rw [upd_ne _ _ e] at hd|-;exact .tail _ (I.past j oj hj hoj hd hs)
 ·intro j k hj hk hd hw
  by_cases e:j=i
  ·subst e;rw [upd_ne _ _ (hii k hk hw)];exact hdeps k hk hw
  ·rw [upd_ne _ _ e] at hd;have:=I.deps j k hj hk hd hw
   by_cases e2:k=i
   ·subst e2;exact upd_same _ _ _
   ·rw [upd_ne _ _ e2];exact this
theorem GT.step (F:Fit ops n []) {i:Nat} {o:Oper} {W':World} (I:GT dfs P ops l w0 n N a0 E listed a W val dec D L H bs pa) (hi:i<n) (ho:ops[i]? = some o) (hr:i∈Region.ready .any ops listed) (hd:dec i=true) (hx:Ext W W') :
 GT dfs P ops l w0 n N a0 E (listed.setIfInBounds i true) (a.put o.dst (val i)) W' val dec D L H bs pa:=by
 have hun:st listed i=false:=(mem_ready.1 hr).1;have e1:dstOf ops i=o.dst:=by simp [dstOf,ho]
 refine ⟨I.head.set hr hi,?_,I.full,?_,I.world.more hx,?_,?_,I.set,I.deps⟩
 ·rw [I.frame,frm_more val (st listed) (st (listed.setIfInBounds i true)) a0 i st_set_same hun (λk hk=>st_set hk) n hi F.apart,e1]
 ·intro j hj hs
  by_cases e:j=i
  ·subst e;exact hd
  ·rw [st_set e] at hs;exact I.sub j hj hs
 ·intro j oj hj hoj hdj hs;have e:j≠i:=λe=>by subst e;rw [st_set_same] at hs;cases hs
  rw [st_set e] at hs;exact I.light j oj hj hoj hdj hs
 ·intro j oj hj hoj hdj hs;have e:j≠i:=λe=>by subst e;rw [st_set_same] at hs;cases hs
  rw [st_set e] at hs;exact I.past j oj hj hoj hdj hs
theorem GT.heavy (F:Fit ops n []) {i k:Nat} {o:Oper} {v:Value} {W':World} {H':Hp} {bs':List Res} (I:GT dfs P ops l w0 n N a0 E listed a W val dec D L H bs pa) (hi:i<n) (ho:ops[i]? = some o) (hiD:D.contains i=false) (hwt:((List.range n).all λj=>!Region.waitsFor .any ops i j || D.contains j)=true) (hk1:(!(k == 1) || D.all λj=>reach ops n i j)=true) (hN:∀ t,o.dst=some t->t<N) (hr:i∈Region.ready .any ops listed)
 (hs:St H' w0 bs' W') (hws:k=1\/(∀ W,St H' w0 bs' W->St H w0 bs W)\/RedoP dfs P ops n w0 N L H' bs' i pa) :
 GT dfs P ops l w0 n N a0 E (listed.setIfInBounds i true) (a.put o.dst v) W' (upd val i v) (upd dec i true) (i::D) (putL o.dst v L) H' bs' pa:=by
 have hdi:dec i=false:=(I.set i).trans hiD;have hdeps:∀ j,j<n->Region.waitsFor .any ops i j=true->dec j=true:=λj hj hw=>(I.set j).trans (waits_ok hwt hj hw)
 have hii:∀ j,j<n->Region.waitsFor .any ops i j=true->j≠i:=λj hj hw e=>by
  have:=hdeps j hj hw;rw [e,hdi] at this;cases this
 have hun:st listed i=false:=(mem_ready.1 hr).1;have e1:dstOf ops i=o.dst:=by simp [dstOf,ho]
 have hput:=frm_put (a0:=a0) (val:=val) (v:=v) F hi ho hdi;refine ⟨I.head.set hr hi,?_,?_,?_,hs,?_,?_,upd_set I.set,?_⟩
 ·rw [I.frame,frm_more (upd val i v) (st listed) (st (listed.setIfInBounds i true)) a0 i st_set_same hun (λk hk=>st_set hk) n hi F.apart,e1,upd_same]
  congr 1
  refine frm_congr _ _ _ _ a0 n λk _=>⟨Z,λhk=>(upd_ne _ _ λe=>?_).symm⟩;subst e;rw [hun] at hk;cases hk
 ·rw [hput];exact I.full.putL v hN
 ·intro j hj hs
  by_cases e:j=i
  ·subst e;exact upd_same _ _ _
  ·rw [upd_ne _ _ e];rw [st_set e] at hs;exact I.sub j hj hs
 ·intro j oj hj hoj hd hs W hW;have e:j≠i:=λe=>by subst e;rw [st_set_same] at hs;cases hs
  rw [st_set e] at hs;rw [upd_ne _ _ e] at hd|-
  have hdone:reach ops n i j=true->False:=λh1=>by
   obtain ⟨_,oi,hoi,hall⟩:=mem_ready.1 hr
   have h2:=reach_listed I.head n i j h1 (λok hok x hx hb=>by
    obtain rfl:ok=oi:=Al_Option_some_inj (hok.symm.trans hoi);exact hall x hx hb)
   rw [getD_both hs] at h2;cases h2
  have hy:Yq P ops oj (val j) (frm ops val dec n a0) W:=by
   rcases hws with hk | hw | hw
   ·subst hk;have hjD:j∈D:=by have:=(I.set j).symm.trans hd;simpa using this
    simp only [beq_self_eq_true,Al_Bool_not_true,Al_Bool_false_or] at hk1;exact (hdone (Al_List_all_eq_true.1 hk1 j hjD)).elim
   ·exact I.light j oj hj hoj hd hs W (hw W hW)
   ·rcases hw.at (I.past j oj hj hoj hd hs) with h1 | h1
    ·exact (hdone h1).elim
    ·exact h1 _ W I.full hW
  refine Yq.same (λcs b=>F.sel j oj cs b hoj) (λt ht=>?_) hy;refine eval_same F hj hoj (λk hk hw=>?_) t ht;have hkd:=I.deps j k hj hk hd hw;have hki:k≠i:=λe=>by subst e;rw [hdi] at hkd;cases hkd
  exact ⟨by rw [upd_ne _ _ hki];exact hkd,hkd,upd_ne _ _ hki⟩
 ·intro j oj hj hoj hd hs;have e:j≠i:=λe=>by subst e;rw [st_set_same] at hs;cases hs
  rw [st_set e] at hs;rw [upd_ne _ _ e] at hd|-;exact I.past j oj hj hoj hd hs
 ·intro j k hj hk hd hw
  by_cases e:j=i
  ·subst e;rw [upd_ne _ _ (hii k hk hw)];exact hdeps k hk hw
  ·rw [upd_ne _ _ e] at hd;have:=I.deps j k hj hk hd hw
   by_cases e2:k=i
   ·subst e2;exact upd_same _ _ _
   ·rw [upd_ne _ _ e2];exact this
theorem chain_find (hl:ops=l.toArray) {j:Nat} (hj:j<n) (hjD:D.contains j=false) (hnr:∀ i,D.contains i=false->i<n->reach ops n j i=false) :
 ∀ (q:Pi0) (A:List Nat),(q=.no\/∃ i k r q',q=.alt i k r q')->okT ops n D A q=true->(∀ i∈A,D.contains i=false/\i<n/\i≠j)->FlowT dfs P ops n w0 N E (fillT l q) pa L H bs ->
  ∃ k r,((List.range n).all λx=>!Region.waitsFor .any ops j x || D.contains x)=true/\(!(k == 1) || D.all λx=>reach ops n j x)=true/\okT ops n (j::D) [] r=true/\(∀ t,(l[j]!).dst=some t->t<N) /\
   At dfs N L H w0 bs (one P ops (λ_ _ _=>False) l[j]! λa' W'=>∃ v H' bs',Fr dfs N (putL (l[j]!).dst v L) a'/\St H' w0 bs' W'/\(k=1\/(∀ W,St H' w0 bs' W->St H w0 bs W)\/RedoP dfs P ops n w0 N L H' bs' j pa)/\FlowT dfs P ops n w0 N E (fillT l r) pa (putL (l[j]!).dst v L) H' bs'):=by
 intro q;induction q with
 | done=>rintro A (h | ⟨_,_,_,_,h⟩) <;> cases h
 | light i r=>rintro A (h | ⟨_,_,_,_,h⟩) <;> cases h
 | no =>
  intro A _ hok hA _
  exfalso
  simp only [okT,Al_Bool_and_eq_true] at hok;have:=Al_List_all_eq_true.1 hok.2 j (Al_List_mem_range.2 hj);simp only [Al_Bool_or_eq_true] at this;rcases this with (h | h) | h
  ·rw [hjD] at h;cases h
  ·exact (hA j (by simpa using h)).2.2 rfl
  ·obtain ⟨i,hi,hre⟩:=Al_List_any_eq_true.1 h;rw [hnr i (hA i hi).1 (hA i hi).2.1] at hre;cases hre
 | alt i k r q' ihr ihq =>
  intro A _ hok hA hF;simp only [okT,Al_Bool_and_eq_true,Al_decide_eq_true_eq,Al_Bool_not_eq_true'] at hok;obtain ⟨⟨⟨⟨⟨h1,h2⟩,h3⟩,h4⟩,h5⟩,h6⟩:=hok;unfold fillT FlowT at hF
  by_cases e:i=j
  ·subst e;exact ⟨k,r,h3,h4,h5,hF.1.1,hF.1.2⟩
  ·have hq:q'=.no\/∃ i k r q'',q'=.alt i k r q'':=by
    cases q' with
    | done=>simp [okT] at h6
    | light i r=>simp [okT] at h6
    | no=>exact .inl rfl
    | alt i k r q=>exact .inr ⟨_,_,_,_,Z⟩
   refine ihq (i::A) hq h6 (λx hx=>?_) hF.2;rcases Al_List_mem_cons.1 hx with rfl | hx
   ·exact ⟨h2,h1,e⟩
   ·exact hA x hx
theorem flowT_game (hl:ops=l.toArray) (F:Fit ops n []) (hend:∀ L H bs,E L H bs->At dfs N L H w0 bs (wpList P ops Q (ops.toList.drop n))) :
 ∀ (m:Nat) (p:Pi0) (listed:Array Bool) (a:Act) (W:World) (val:Nat->Value) (dec:Nat->Bool) (D:List Nat) (L:Sl) (H:Hp) (bs:List Res) (pa:List (Nat × Oper × Value)),cnt (st listed) n=m->okT ops n D [] p=true ->
  FlowT dfs P ops n w0 N E (fillT l p) pa L H bs->GT dfs P ops l w0 n N a0 E listed a W val dec D L H bs pa->wpAny P .any ops Q (m+(ops.size - n)) listed a W:=by
 have hop:∀ i,i<n->ops[i]? = some l[i]! := λi hi=>by
  have h1:i<ops.size:=by have:=F.lt;omega
  subst hl;have h2:i<l.length:=by simpa using h1
  simp [h2]
 intro m;induction m with
 | zero =>
  intro p;induction p with
  | done =>
   intro listed a W val dec D L H bs pa hm hok hF I;have hall:=cnt_zero _ n hm
   have hcan:listed=((List.range ops.size).map λk=>Decidable.decide (k<n)).toArray:=by
    apply Al_Array_ext
    ·simp [I.head.size]
    ·intro k h1 h2;have hk:k<ops.size:=by rw [<-I.head.size];exact h1
     simp only [Al_List_getElem_toArray,Al_List_getElem_map,Al_List_getElem_range]
     by_cases hkn:k<n
     ·have:=hall k hkn;simp [st,h1] at this;simp [this,hkn]
     ·have:=I.head.tail k (by omega) hk;simp [h1] at this;simp [this,hkn]
   rw [Al_Nat_zero_add];have hlen:(ops.toList.drop n).length=ops.size - n:=by simp
   rw [<-hlen];refine wpAny_of_seq (ops.toList.drop n) n listed a W (λj=>by simp [List.getElem?_drop]) (by rw [hlen,hcan];exact F.seq) ?_
   have hfr:a=frm ops val dec n a0:=by
    rw [I.frame];exact frm_congr _ _ _ _ a0 n (λk hk=>⟨by rw [hall k hk,I.sub k hk (hall k hk)],λ_=>rfl⟩)
   rw [hfr];exact hend L H bs hF _ W I.full I.world
  | no =>
   intro listed a W val dec D L H bs pa hm hok hF I;simp [okT] at hok
  | light i r ih =>
   intro listed a W val dec D L H bs pa hm hok hF I;have hall:=cnt_zero _ n hm;simp only [okT,Al_Bool_and_eq_true,Al_decide_eq_true_eq,Al_Bool_not_eq_true'] at hok;have:=I.sub i hok.1.1.1.2 (hall i hok.1.1.1.2);rw [I.set i,hok.1.1.2] at this;cases this
  | alt i k r q ih1 ih2 =>
   intro listed a W val dec D L H bs pa hm hok hF I;have hall:=cnt_zero _ n hm;simp only [okT,Al_Bool_and_eq_true,Al_decide_eq_true_eq,Al_Bool_not_eq_true'] at hok;have:=I.sub i hok.1.1.1.1.1 (hall i hok.1.1.1.1.1);rw [I.set i,hok.1.1.1.1.2] at this;cases this
 | succ m ih =>
  have one_step:∀ (p:Pi0) (listed:Array Bool) (a:Act) (W:World) (val:Nat->Value) (dec:Nat->Bool) (D:List Nat) (L:Sl) (H:Hp) (bs:List Res) (pa:List (Nat × Oper × Value)),cnt (st listed) n=m+1->okT ops n D [] p=true ->
   FlowT dfs P ops n w0 N E (fillT l p) pa L H bs->GT dfs P ops l w0 n N a0 E listed a W val dec D L H bs pa->(p=.done\/p=.no\/∃ i k r q,p=.alt i k r q)->wpAny P .any ops Q (m+1+(ops.size - n)) listed a W:=by
   intro p listed a W val dec D L H bs pa hm hok hF I hp;obtain ⟨k0,hk0,hun0,hbelow⟩:=cnt_pos (st listed) n (by omega);have hk0s:k0<ops.size:=by have:=F.lt;omega
   have hready0:k0∈Region.ready .any ops listed:=by
    refine mem_ready.2 ⟨hun0,ops[k0],Array.getElem?_eq_getElem hk0s,λe he hb=>?_⟩;have hlt:=F.back k0 _ (Array.getElem?_eq_getElem hk0s) e he hb;have:=hbelow e.on hlt;have hsz:e.on<listed.size:=by rw [I.head.size];omega
    simpa [st,hsz] using this
   rw [show m+1+(ops.size - n)=(m+(ops.size - n))+1 by omega];refine ⟨λh0=>(by rw [h0] at hready0;cases hready0),λj hj=>?_⟩
   have hjn:j<n:=by
    rcases Al_Nat_lt_or_ge j n with h | h
    ·exact h
    ·exact absurd hj (tail_waitsF F.sink F.chain I.head _ k0 rfl hk0 rfl hun0 j h)
   obtain ⟨hun,oj,hoj,hall⟩:=mem_ready.1 hj
   have hcnt:cnt (st (listed.setIfInBounds j true)) n=m:=by
    have:=cnt_more (st listed) (st (listed.setIfInBounds j true)) j st_set_same hun (λk hk=>st_set hk) n hjn;omega
   have hS:∀ k,k<n->Region.waitsFor .any ops j k=true->st listed k=true:=by
    intro k hk hw;obtain ⟨oi,hoi,e,he,hb,hon⟩:=Region.waitsFor_spec hw;obtain rfl:oi=oj:=Al_Option_some_inj (hoi.symm.trans hoj);have h1:=hall e he hb;rw [hon] at h1;have hsz:k<listed.size:=by rw [I.head.size];have:=F.lt;omega
    simp [hsz] at h1;simp [st,hsz,h1]
   have hev:∀ t∈oj.looksAt ops,a.eval (.tmp t)=(frm ops val dec n a0).eval (.tmp t):=λt ht=>by
    rw [I.frame];exact eval_same F hjn hoj (λk hk hw=>⟨hS k hk hw,I.sub k hk (hS k hk hw),Z⟩) t ht
   cases hd:dec j with
   | true =>
    have hy:Yq P ops oj (val j) a W:=Yq.same (λcs b=>F.sel j oj cs b hoj) hev (I.light j oj hjn hoj hd hun W I.world);exact hy.wpOp hoj λW' hx=>ih p _ _ _ _ _ _ _ _ _ _ hcnt hok hF (I.step F hjn hoj hj hd hx)
   | false =>
    have hjD:D.contains j=false:=(I.set j).symm.trans hd
    have hch:p=.no\/∃ i k r q',p=.alt i k r q':=by
     rcases hp with rfl | rfl | h
     ·exfalso
      simp only [okT,Al_Bool_and_eq_true] at hok;have:=Al_List_all_eq_true.1 hok.2 j (Al_List_mem_range.2 hjn);rw [hjD] at this;cases this
     ·exact .inl Z
     ·exact .inr h
    obtain ⟨k,r,h1,h2,h3,h4,h5⟩:=chain_find hl hjn hjD (λi hi hin=>by
     cases hre:reach ops n j i with
     | false=>rfl
     | true =>
      have h2:=reach_listed I.head n j i hre (λok hok e he hb=>by
       obtain rfl:ok=oj:=Al_Option_some_inj (hok.symm.trans hoj);exact hall e he hb)
      have h3:st listed i=false:=by
       cases h:st listed i with
       | false=>rfl
       | true=>have:=I.sub i hin h;rw [I.set i,hi] at this;cases this
      rw [getD_both h3] at h2;cases h2) p [] hch hok (λi hi=>by cases hi) hF
    have hoj2:=hop j hjn;obtain rfl:oj=l[j]! := Al_Option_some_inj (hoj.symm.trans hoj2);refine one_same hoj (λcs b=>F.sel j _ cs b hoj) hev (λb W' ⟨v,H',bs',hf,_⟩=>hf.defers) I.full.defers ?_ (h5 _ W I.full I.world);rintro v W' ⟨v',H',bs',hf,hs,hw,hp'⟩
    have hvv:putL (l[j]!).dst v' L=putL (l[j]!).dst v L:=by
     cases hdst:(l[j]!).dst with
     | none=>rfl
     | some t =>
      rw [hdst] at hf;have h1:=hf.slot t v' (by unfold putL look;rw [Al_Nat_beq_refl,Al_cond_true]);have h2:t<N:=h4 t hdst;have h3:=(I.full.put (by simpa [Al_Nat_blt_eq] using h2) v).slot t v (by unfold look;rw [Al_Nat_beq_refl,Al_cond_true]);rw [h3] at h1;rw [h1]
    rw [hvv] at hp';exact ih r _ _ _ _ _ _ _ _ _ _ hcnt h3 hp' (I.heavy F hjn hoj hjD h1 h2 h4 hj hs hw)
  intro p;induction p with
  | done=>exact λlisted a W val dec D L H bs pa hm hok hF I=>one_step _ listed a W val dec D L H bs pa hm hok hF I (.inl Z)
  | no=>exact λlisted a W val dec D L H bs pa hm hok hF I=>one_step _ listed a W val dec D L H bs pa hm hok hF I (.inr (.inl Z))
  | alt i k r q _ _=>exact λlisted a W val dec D L H bs pa hm hok hF I=>one_step _ listed a W val dec D L H bs pa hm hok hF I (.inr (.inr ⟨_,_,_,_,Z⟩))
  | light i r ihr =>
   intro listed a W val dec D L H bs pa hm hok hF I;simp only [okT,Al_Bool_and_eq_true,Al_decide_eq_true_eq,Al_Bool_not_eq_true'] at hok;obtain ⟨⟨⟨⟨_,hi⟩,hiD⟩,hwt⟩,hok'⟩:=hok;unfold fillT FlowT at hF;obtain ⟨v,hy,hN,hF'⟩:=hF;exact ihr listed a W _ _ _ _ H bs _ hm hok' hF' (I.decide F hi (hop i hi) hiD hwt hy hN)
theorem flowT {id:Nat} {l:List Oper} {p:PlT} {Q:Exit->Act->World->Prop} {L:Sl} {H:Hp} {bs:List Res} (n:Nat) (p0:Pi0) (hm:P.follows .mixedOrders=true) (hB:(parB l.toArray n [] && okT l.toArray n [] [] p0)=true) (ht:fillT l p0=p)
 (h:FlowT dfs P l.toArray n w0 N (λL H bs=>At dfs N L H w0 bs (wpList P l.toArray Q (l.drop n))) p [] L H bs):At dfs N L H w0 bs ((Code.region id l.toArray true).wp P Q):=by
 simp only [Al_Bool_and_eq_true] at hB;obtain ⟨h1,h2⟩:=hB;have F:=Fit.of h1;have hlt:n<l.length:=by simpa using F.lt
 subst ht;intro a W f s;refine wp_region_any hm ?_;have hsz:l.toArray.size=l.length:=by simp
 have hc0:∀ m,m<=n->cnt (st (Array.replicate l.toArray.size false)) m=m:=by
  intro m;induction m with
  | zero=>intro _;rfl
  | succ m ih =>
   intro hm;unfold cnt;rw [ih (by omega)]
   have:st (Array.replicate l.toArray.size false) m=false:=by
    have:m<l.length:=by omega
    simp [st,this]
   rw [this];simp
 have hfrm:∀ (val:Nat->Value) (m:Nat),frm l.toArray val (λ_=>false) m a=a:=λval m=>by
  induction m with
  | zero=>rfl
  | succ m ih=>unfold frm;simp [ih]
 have hall:∀ m,m<=n->∀ k,k<m->st (Array.replicate l.toArray.size false) k=false:=λm hm k hk=>by
  have:k<l.length:=by omega
  simp [st,this]
 have hh:HeadInv .any l.toArray n (Array.replicate l.toArray.size false):=by
  refine ⟨by simp,λj oj hj hl=>?_,λt ht ht'=>?_⟩
  ·exfalso
   rcases Al_Nat_lt_or_ge j l.length with h | h
   ·simp [h] at hl
   ·simp [h] at hl
  ·have:t<l.length:=by simpa using ht'
   simp [this]
 have key:=flowT_game (Q:=Q) (a0:=a) (l:=l) rfl F (λL H bs h=>by simpa using h) n p0 (Array.replicate l.toArray.size false) a _ (λ_=>undef) (λ_=>false) [] L H bs [] (hc0 n (Al_Nat_le_refl _)) h2 h
  ⟨hh,?_,by rw [hfrm];exact f,?_,s.more ((Ext.refl W).drew),λ_ _ _ _ h=>(by cases h),λ_ _ _ _ h=>(by cases h),λ_=>rfl,λ_ _ _ _ h=>(by cases h)⟩
 ·have:n+(l.toArray.size - n)=l.toArray.size:=by rw [hsz];omega
  rw [this] at key;exact key
 ·rw [frm_congr (λ_=>undef) (λ_=>undef) _ (λ_=>false) a n (λk hk=>⟨hall n (Al_Nat_le_refl _) k hk,λ_=>rfl⟩),hfrm]
 ·intro i hi hs;rw [hall n (Al_Nat_le_refl _) i hi] at hs;cases hs
end
section
variable {dfs:List Deferred} {P:Program} {n:Nat} {L:Sl} {H:Hp} {w0:World} {bs:List Res} {Q:Exit->Act->World->Prop} {ops:Array Oper} {rest:List Oper} {K:Act->World->Prop}
variable {d:Option Tmp} {ty:TypeId} {pos:String} {aft:Array Edge} {g:Option (Nat × Bool)} {v:Value} {t:Tmp} {op:Op} {x y z:Operand} {T T':TypeId}
variable {N hn:Nat} {pa:List (Nat × Oper × Value)} {E:Sl->Hp->List Res->Prop} {r q:PlT} {i k:Nat}
def AltT (dfs:List Deferred) (P:Program) (ops:Array Oper) (n:Nat) (w0:World) (N:Nat) (E:Sl->Hp->List Res->Prop) (i k:Nat) (o:Oper) (r:PlT) (pa:List (Nat × Oper × Value)) (L:Sl) (H:Hp) (bs:List Res):Prop :=
 (∀ t,o.dst=some t->t<N)/\At dfs N L H w0 bs (one P ops (λ_ _ _=>False) o λa' W'=>∃ v H' bs',Fr dfs N (putL o.dst v L) a'/\St H' w0 bs' W'/\(k=1\/(∀ W,St H' w0 bs' W->St H w0 bs W)\/RedoP dfs P ops n w0 N L H' bs' i pa)/\FlowT dfs P ops n w0 N E r pa (putL o.dst v L) H' bs')
theorem FlowT.h1 {o:Oper} (h:AltT dfs P ops hn w0 N E i k o r pa L H bs):FlowT dfs P ops hn w0 N E (.alt i k o r .no) pa L H bs:=⟨h,Jt⟩
theorem FlowT.h {o:Oper} (h:AltT dfs P ops hn w0 N E i k o r pa L H bs) (hq:FlowT dfs P ops hn w0 N E q pa L H bs):FlowT dfs P ops hn w0 N E (.alt i k o r q) pa L H bs:=⟨h,hq⟩
theorem FlowT.nn:FlowT dfs P ops hn w0 N E .no pa L H bs:=trivial
theorem FlowT.yv (hy:Yl P L H w0 bs ⟨some t,op,ty,pos,aft,none⟩ v) (ht:Nat.blt t N=true) (h:FlowT dfs P ops hn w0 N E r ((i,⟨some t,op,ty,pos,aft,none⟩,v)::pa) ((t,v)::L) H bs):FlowT dfs P ops hn w0 N E (.light i ⟨some t,op,ty,pos,aft,none⟩ r) pa L H bs :=
 ⟨v,λa W f s=>.inl ⟨by simp [Region.wanted],hy a W (λx u e=>f.ev e) s⟩,blt_of ht,h⟩
theorem FlowT.m (hx:ev L x=some v) (ht:Nat.blt t N=true) (h:FlowT dfs P ops hn w0 N E r ((i,⟨some t,.move x,ty,pos,aft,none⟩,v)::pa) ((t,v)::L) H bs):FlowT dfs P ops hn w0 N E (.light i ⟨some t,.move x,ty,pos,aft,none⟩ r) pa L H bs:=.yv (.move hx) ht h
theorem FlowT.a (hx:ev L x=some v) (ht:Nat.blt t N=true) (h:FlowT dfs P ops hn w0 N E r ((i,⟨some t,.assign x,ty,pos,aft,none⟩,v)::pa) ((t,v)::L) H bs):FlowT dfs P ops hn w0 N E (.light i ⟨some t,.assign x,ty,pos,aft,none⟩ r) pa L H bs:=.yv (.assign hx) ht h
theorem AltT.into {H':Hp} {bs':List Res} (hw:k=1\/(∀ W,St H' w0 bs' W->St H w0 bs W)\/RedoP dfs P ops hn w0 N L H' bs' i pa) (h:FlowT dfs P ops hn w0 N E r pa ((t,v)::L) H' bs') :
 At dfs N ((t,v)::L) H' w0 bs' (λa' W'=>∃ v H' bs',Fr dfs N (putL (some t) v L) a'/\St H' w0 bs' W'/\(k=1\/(∀ W,St H' w0 bs' W->St H w0 bs W)\/RedoP dfs P ops hn w0 N L H' bs' i pa)/\FlowT dfs P ops hn w0 N E r pa (putL (some t) v L) H' bs'):=λ_ _ f s=>⟨v,H',bs',f,s,hw,h⟩
theorem AltT.al {l:List Value} (hz:zeroN P T=some l) (ht:Nat.blt t N=true) (h:∀ b,FlowT dfs P ops hn w0 N E r pa ((t,.pointer (some ⟨b,0,none⟩))::L) H (.box b l T::bs)):AltT dfs P ops hn w0 N E i k ⟨some t,.alloc T,ty,pos,aft,none⟩ r pa L H bs :=
 ⟨blt_of ht,alloc hz ht λb=>AltT.into (.inr<|.inl λ_ s=>s.drop) (h b)⟩
theorem AltT.c3 {X:Type} {f:FuncId} {xs:List Operand} {vs:List Value} {ats:Array TypeId} {C:X->Prop} {val:X->Value} {H':X->Hp} {bs':X->List Res} (hf:callN P f=true) (hv:evs L xs=some vs)
 (hc:∀ W,St H w0 bs W->Calls P f vs.toArray W λe W'=>∃ x,C x/\e=.returned (val x)/\St (H' x) w0 (bs' x) W') (ht:Nat.blt t N=true)
 (hr:∀ x,C x->RedoP dfs P ops hn w0 N L (H' x) (bs' x) i pa) (h:∀ x,C x->FlowT dfs P ops hn w0 N E r pa ((t,val x)::L) (H' x) (bs' x)):AltT dfs P ops hn w0 N E i 2 ⟨some t,.call ⟨.value (.func f),xs.toArray,ats⟩,ty,pos,aft,none⟩ r pa L H bs :=
 ⟨blt_of ht,callS hf hv hc ht λx hx=>AltT.into (.inr<|.inr<|hr x hx) (h x hx)⟩
theorem FlowT.fn {l tl:List Oper} {nn:Nat} (ht:l.drop nn=tl) (h:At dfs N L H w0 bs (wpList P ops Q tl)):FlowT dfs P ops hn w0 N (λL H bs=>At dfs N L H w0 bs (wpList P ops Q (l.drop nn))) .done pa L H bs:=by
 subst ht;exact h
theorem At.ft {id:Nat} {l:List Oper} {p:PlT} (nn:Nat) (p0:Pi0) (hm:P.follows .mixedOrders=true) (hB:(parB l.toArray nn [] && okT l.toArray nn [] [] p0)=true) (ht:fillT l p0=p)
 (h:FlowT dfs P l.toArray nn w0 n (λL H bs=>At dfs n L H w0 bs (wpList P l.toArray Q (l.drop nn))) p [] L H bs):At dfs n L H w0 bs ((Code.region id l.toArray true).wp P Q):=flowT nn p0 hm hB ht h
end
end Go.Sx

namespace Go.Sx
open Go.RowKit Go.Par
section
variable {dfs:List Deferred} {P:Program} {L:Sl} {H H':Hp} {w0:World} {bs bs':List Res} {ty:TypeId} {pos:String} {aft:Array Edge} {t:Tmp} {op:Op} {ops:Array Oper} {N hn i n j:Nat} {pa:List (Nat × Oper × Value)} {E:Sl->Hp->List Res->Prop} {r:List (Nat × Nat × Oper)} {rest:List Oper} {Q:Exit->Act->World->Prop} {o:Oper} {v:Value} {b c:Bool} {u:Tmp}
theorem FlowT.yw {r:PlT} (hy:Yl P L H w0 bs ⟨some t,op,ty,pos,aft,none⟩ v) (h:FlowT dfs P ops hn w0 N E r ((i,⟨some t,op,ty,pos,aft,none⟩,v)::pa) ((t,v)::L) H bs) (ht:Nat.blt t N=true:=by rfl):FlowT dfs P ops hn w0 N E (.light i ⟨some t,op,ty,pos,aft,none⟩ r) pa L H bs:=.yv hy ht h
theorem FlowT.mv {r:PlT} {x:Operand} (hx:ev L x=some v) (h:FlowT dfs P ops hn w0 N E r ((i,⟨some t,.move x,ty,pos,aft,none⟩,v)::pa) ((t,v)::L) H bs) (ht:Nat.blt t N=true:=by rfl):FlowT dfs P ops hn w0 N E (.light i ⟨some t,.move x,ty,pos,aft,none⟩ r) pa L H bs:=.m hx ht h
end
section
variable {dfs:List Deferred} {P:Program} {L:Sl} {H H':Hp} {w0:World} {bs bs':List Res} {ty:TypeId} {pos:String} {aft:Array Edge} {t:Tmp} {op:Op} {ops:Array Oper} {N hn i n j:Nat} {pa:List (Nat × Oper × Value)} {E:Sl->Hp->List Res->Prop} {r:List (Nat × Nat × Oper)} {rest:List Oper} {Q:Exit->Act->World->Prop} {o:Oper} {v:Value} {b c:Bool} {u:Tmp}
theorem FlowT.fA {x:Operand} {T:TypeId} {k a off o':Nat} {r:PlT} (hp:ev L x=some (.pointer (some ⟨a,off,none⟩))) (hF:fieldN P T k=some o') (h:FlowT dfs P ops hn w0 N E r ((i,⟨some t,.fieldAddr T x k,ty,pos,aft,none⟩,(.pointer (some ⟨a,off+o',none⟩)))::pa) ((t,(.pointer (some ⟨a,off+o',none⟩)))::L) H bs) (ht:Nat.blt t N=true:=by rfl):FlowT dfs P ops hn w0 N E (.light i ⟨some t,.fieldAddr T x k,ty,pos,aft,none⟩ r) pa L H bs:=.yv (.fieldAddr hp hF) ht h
theorem FlowT.lD {x:Operand} {T t':TypeId} {a off:Nat} {l:List Value} {r:PlT} (hp:ev L x=some (.pointer (some ⟨a,off,none⟩))) (hT:aggN P T=some none) (hm:Res.box a l t'∈bs) (hv:l[off]? = some v) (h:FlowT dfs P ops hn w0 N E r ((i,⟨some t,.load T x,ty,pos,aft,none⟩,v)::pa) ((t,v)::L) H bs) (ht:Nat.blt t N=true:=by rfl):FlowT dfs P ops hn w0 N E (.light i ⟨some t,.load T x,ty,pos,aft,none⟩ r) pa L H bs:=.yv (.load hp hT hm hv) ht h
theorem FlowT.nC {x:Operand} {p:Addr} {r:PlT} (hx:ev L x=some (.pointer (some p))) (h:FlowT dfs P ops hn w0 N E r ((i,⟨some t,.nilCheck x,ty,pos,aft,none⟩,(.pointer (some p)))::pa) ((t,(.pointer (some p)))::L) H bs) (ht:Nat.blt t N=true:=by rfl):FlowT dfs P ops hn w0 N E (.light i ⟨some t,.nilCheck x,ty,pos,aft,none⟩ r) pa L H bs:=.yv (.nilCheck hx) ht h
end
def SliceAt (H:Hp) (v:Value) (n:Nat) (xs:List Value):Prop:=(v=.slice none 0 0/\n=0)\/∃ b c,v=.slice (some ⟨b,0,none⟩) n c/\n<=c/\c<=maxLen/\MemN H b 0 xs
variable {bs bs':List Res}
theorem Upd.new {x y:Res} (h:Upd bs x y bs'):y∈bs':=by
 induction h with
 | head=>exact .head _
 | tail _ ih=>exact .tail _ ih
variable {H H':Hp} {v:Value} {xs:List Value}
theorem SliceAt.up {n:Nat} (h:SliceAt H v n xs) (u:Up H H'):SliceAt H' v n xs:=by
 rcases h with h | ⟨b,c,e,h1,h2,h3⟩
 ·exact .inl h
 ·exact .inr ⟨b,c,e,h1,h2,h3.up u⟩
section
variable {dfs:List Deferred} {P:Program} {n:Nat} {L:Sl} {H:Hp} {w0:World} {bs:List Res} {Q:Exit->Act->World->Prop} {ops:Array Oper} {rest:List Oper} {K:Act->World->Prop}
variable {d:Option Tmp} {ty:TypeId} {pos:String} {aft:Array Edge} {v:Value} {t:Tmp} {x y:Operand} {T:TypeId}
theorem St.boxRowZ {b m z:Nat} {l:List Value} {e:TypeId} {W:World} (h:St H w0 (.box b l e::bs) W) (hz:l.length=m * z) (hl:m<=maxLen):St H w0 (.row e z (.slice (some ⟨b,0,none⟩) m m) m l::bs) W:=by
 have hb:=h.own _ Hm;refine ⟨h.ext,h.agr,λx hx=>?_,?_,h.lo⟩
 ·rcases Al_List_mem_cons.1 hx with rfl | hx
  ·exact ⟨⟨hz,.inr ⟨b,m,l.toArray,Z,hb.1.1,hb.1.2,Al_Nat_le_refl _,hl,by simpa using hz,by rw [<-hz];simp⟩⟩,λc e=>hb.2 c e⟩
  ·exact h.own x (.tail _ hx)
 ·have h1:=h.apart;rw [Al_List_pairwise_cons] at h1|-;exact ⟨λz hz c e=>h1.1 z hz c e,h1.2⟩
variable {N hn i:Nat} {pa:List (Nat × Oper × Value)} {E:Sl->Hp->List Res->Prop} {q:PlT}
theorem AltT.blR {ps:List (Nat × Operand)} {pv:List (Nat × Value)} {len z k:Nat} {e:TypeId} {l:List Value} (hv:evp L ps=some pv) (hb:bslN P T len pv=some (e,l)) (ht:Nat.blt t N=true) (hz:l.length=len * z) (hl:len<=maxLen)
 (h:∀ b,FlowT dfs P ops hn w0 N E q pa ((t,.slice (some ⟨b,0,none⟩) len len)::L) H (.row e z (.slice (some ⟨b,0,none⟩) len len) len l::bs)):AltT dfs P ops hn w0 N E i k ⟨some t,.buildSlice T len ps.toArray,ty,pos,aft,none⟩ q pa L H bs :=
 ⟨blt_of ht,buildSlice hv hb ht λb=>reSt (λ_ s=>s.boxRowZ hz hl) (AltT.into (.inr<|.inl λ_ s=>s.drop) (h b))⟩
end
section
variable {dfs:List Deferred} {P:Program} {n:Nat} {L:Sl} {H:Hp} {w0:World} {bs:List Res} {Q:Exit->Act->World->Prop} {ops:Array Oper} {rest:List Oper} {K:Act->World->Prop}
variable {d:Option Tmp} {ty:TypeId} {pos:String} {aft:Array Edge} {v:Value} {t:Tmp} {x y:Operand} {T:TypeId}
theorem appendD {e:TypeId} {size bytes m c k:Nat} {p:Option Addr} {r:Value} {xs:List Value} {ds:List D} {bs':List Value->Value->List Res} (hT:rowN P T=some (e,size,bytes)) (hx:ev L x=some r)
 (hm:∀ news r',Upd bs (.row e size r k xs) (.row e size r' (k+m) (xs++news)) (bs' news r')) (hy:ev L y=some (.slice p m c)) (hr:Rep H (.seq size ds) [.slice p m c])
 (h63:k+m<=maxLen) (hb:(k+m) * bytes<=140737488355328) (ht:Nat.blt t n=true)
 (h:∀ news r',RepZ H size ds news->At dfs n ((t,r')::L) H w0 (bs' news r') K):At dfs n L H w0 bs (one P ops Q ⟨some t,.call ⟨.builtin .append,#[x,y],#[T,T]⟩,ty,pos,aft,none⟩ K):=by
 have hlen:=hr.len;unfold Rep at hr;obtain ⟨p',c',h1,h2,h3,h4⟩:=hr;injection h1 with h1 _
 injection h1 with e1 e2 e3
 subst e1 e3;rcases h4 with h4 | ⟨b,off,cs,rfl,hmem,hz,_⟩
 ·subst h4;obtain rfl:m=0:=e2;cases p with
  | some A=>exact appendA hT hx (hm []) hy (λW s j u e=>by simp at e) (by simp) (by simp) h63 hb ht λr' _=>h [] r' .nil
  | none =>
   obtain ⟨hu,i,z,hi,hz,hsz,hby,hzs,h0⟩:=rowN_spec hT;have e4:bs' [] r=bs:=(hm [] r).same (by rw [Al_Nat_add_zero,Al_List_append_nil]);have h5:=h [] r .nil;rw [e4] at h5;intro a W f s;refine one_plain rfl ?_;unfold Oper.wp;have hown:W.ownsRow w0.heap.size e size r k xs:=(s.own _ (hm [] r).mem).1
   have hrun:(Builtin.append_ #[T,T] ty #[r,.slice none 0 c]).run P W=.ok r W:=by
    rcases hown.2 with ⟨rfl,rfl⟩ | ⟨g,cap,cur,rfl,hbg,hgc,hnc,hcm,hcs,htake⟩
    ·simp [Builtin.append_,run_underlying hu,sizeOf,typeInfo,hi,Builtin.lenOf,Builtin.firstCells]
    ·simp [Builtin.append_,run_underlying hu,sizeOf,typeInfo,hi,Builtin.lenOf,Builtin.firstCells,hnc,storeCells]
   simp [execOp,resolve,invoke,builtin,f.ev hx,f.ev hy,hrun,Result.andThen,Oper.upon];exact h5 _ _ (f.put ht _) s
 ·exact appendA hT hx (hm cs) hy (λW s j u e=>by rw [Addr.add_lit];exact hmem.cell s.agr e) (by rw [hz.len,e2]) hz.one h63 hb ht λr' _=>h cs r' hz
theorem At.apD {e:TypeId} {size bytes m c k:Nat} {p:Option Addr} {r:Value} {xs:List Value} {ds:List D} {bs':List Value->Value->List Res} (hT:rowN P T=some (e,size,bytes)) (hx:ev L x=some r)
 (hm:∀ news r',Upd bs (.row e size r k xs) (.row e size r' (k+m) (xs++news)) (bs' news r')) (hy:ev L y=some (.slice p m c)) (hr:Rep H (.seq size ds) [.slice p m c])
 (h63:k+m<=maxLen) (hb:(k+m) * bytes<=140737488355328) (ht:Nat.blt t n=true)
 (h:∀ news r',RepZ H size ds news->At dfs n ((t,r')::L) H w0 (bs' news r') (wpList P ops Q rest)):At dfs n L H w0 bs (wpList P ops Q (⟨some t,.call ⟨.builtin .append,#[x,y],#[T,T]⟩,ty,pos,aft,none⟩::rest)):=cons (appendD hT hx hm hy hr h63 hb ht h)
theorem At.blR {ps:List (Nat × Operand)} {pv:List (Nat × Value)} {len z:Nat} {e:TypeId} {l:List Value} (hv:evp L ps=some pv) (hb:bslN P T len pv=some (e,l)) (ht:Nat.blt t n=true) (hz:l.length=len * z) (hl:len<=maxLen)
 (h:∀ b,At dfs n ((t,.slice (some ⟨b,0,none⟩) len len)::L) H w0 (.row e z (.slice (some ⟨b,0,none⟩) len len) len l::bs) (wpList P ops Q rest)):At dfs n L H w0 bs (wpList P ops Q (⟨some t,.buildSlice T len ps.toArray,ty,pos,aft,none⟩::rest)) :=
 .bl hv hb ht λb=>reSt (λ_ s=>s.boxRowZ hz hl) (h b)
theorem At.rs {e:TypeId} {size k:Nat} {r:Value} {xs:List Value} {G:Act->World->Prop} (hm:Res.row e size r k xs∈bs) (hk:0<k) (h:∀ g c,r=.slice (some ⟨g,0,none⟩) k c->At dfs n L H w0 bs G):At dfs n L H w0 bs G:=λa W f s=>by
 have ho:W.ownsRow w0.heap.size e size r k xs:=(s.own _ hm).1;rcases ho.2 with ⟨hr,h0⟩ | ⟨g,cap,cur,hr,_⟩
 ·omega
 ·exact h g cap hr a W f s
theorem Yl.loadR {e:TypeId} {size k g c off m:Nat} {xs vs:List Value} (hp:ev L x=some (.pointer (some ⟨g,off,none⟩))) (hT:aggN P T=some (some m)) (hm:Res.row e size (.slice (some ⟨g,0,none⟩) k c) k xs∈bs) (hl:vs.length=m) (hv:∀ (j:Nat) u,vs[j]? = some u->xs[off+j]? = some u) {gd:Option (Nat × Bool)}:Yl P L H w0 bs ⟨d,.load T x,ty,pos,aft,gd⟩ (.agg vs.toArray):=.of_run λa W f s=>by
 subst hl;have ho:W.ownsRow w0.heap.size e size (.slice (some ⟨g,0,none⟩) k c) k xs:=(s.own _ hm).1;obtain ⟨h1,h2⟩:=run_isAgg_yes (W:=W) hT
 have h3:(loadCells ⟨g,off,none⟩ vs.length).run P W=.ok vs.toArray W:=run_loadCells_list W _ vs λj u e=>by
  have:=World.ownsRow.cells ho (g:=g) rfl (off+j) u (hv j u e);rw [Addr.add_lit,Al_Nat_zero_add] at this;rw [Addr.add_lit];exact this
 unfold execOp;simp only [f x _ hp,Instr.loadAt,Instr.sureAddr,loadVar,Sem.run_bind,Sem.run_pure,Result.andThen,h1,h2,Al_if_true,h3]
theorem Yl.fld {i:Nat} {u:Value} (hx:ev L x=some v) (hr:∀ W,(Instr.field T v i).run P W=.ok u W) {gd:Option (Nat × Bool)}:Yl P L H w0 bs ⟨d,.field T x i,ty,pos,aft,gd⟩ u:=.of_run λa W f s=>by
 unfold execOp;simp only [f x _ hx,Sem.run_bind,hr W,Result.andThen,Sem.run_pure]
theorem setsL_app:∀ (vs l more:List Value) (off:Nat),off+vs.length<=l.length->setsL (l++more) off vs=setsL l off vs++more
 | [],l,more,off,_=>rfl
 | v::r,l,more,off,h=>by
  unfold setsL;rw [Al_List_length_cons] at h;rw [List.set_append_left _ _ (by omega)];exact setsL_app r (l.set off v) more (off+1) (by rw [List.length_set];omega)
theorem setsL_right:∀ (vs p l:List Value) (off:Nat),setsL (p++l) (p.length+off) vs=p++setsL l off vs
 | [],p,l,off=>rfl
 | v::r,p,l,off=>by
  unfold setsL;rw [Al_List_set_append_right _ _ (by omega),show p.length+off - p.length=off by omega,Al_Nat_add_assoc];exact setsL_right r p (l.set off v) (off+1)
theorem RepZ.put {H:Hp} {z:Nat} {d:D} {vs:List Value} (hd:Rep H d vs) (hz:vs.length=z):∀ {ds:List D} {l:List Value} {i:Nat},RepZ H z ds l->i<ds.length->RepZ H z (ds.set i d) (setsL l (i * z) vs)
 | [],l,i,_,hi=>by simp at hi
 | d0::r,l,0,h,_=>by
  unfold RepZ at h;obtain ⟨x,y,rfl,h1,h2,h3⟩:=h;rw [Al_List_set_cons_zero,Al_Nat_zero_mul,setsL_app _ _ _ _ (by omega)];have:=setsL_all vs [] x (by omega);simp only [Al_List_nil_append,Al_List_length_nil] at this;rw [this];unfold RepZ;exact ⟨vs,y,Z,hz,hd,h3⟩
 | d0::r,l,i+1,h,hi=>by
  unfold RepZ at h;obtain ⟨x,y,rfl,h1,h2,h3⟩:=h;have:=RepZ.put hd hz (i:=i) h3 (by simpa using hi);rw [List.set_cons_succ,show (i+1) * z=x.length+i * z by rw [h1,Al_Nat_succ_mul];omega,setsL_right];unfold RepZ;exact ⟨x,_,Z,h1,h2,this⟩
theorem setsL_len:∀ (vs l:List Value) (off:Nat),(setsL l off vs).length=l.length
 | [],l,off=>rfl
 | v::r,l,off=>by unfold setsL;rw [setsL_len r,List.length_set]
variable {N hn i:Nat} {pa:List (Nat × Oper × Value)} {E:Sl->Hp->List Res->Prop} {q:PlT} {fr:List (Nat × Nat × Oper)}
theorem FlowP.apD {e:TypeId} {size bytes m c k:Nat} {p:Option Addr} {r:Value} {xs:List Value} {ds:List D} {bs':List Value->Value->List Res} (hT:rowN P T=some (e,size,bytes)) (hx:ev L x=some r)
 (hm:∀ news r',Upd bs (.row e size r k xs) (.row e size r' (k+m) (xs++news)) (bs' news r')) (hy:ev L y=some (.slice p m c)) (hr:Rep H (.seq size ds) [.slice p m c])
 (h63:k+m<=maxLen) (hb:(k+m) * bytes<=140737488355328) (ht:Nat.blt t N=true)
 (hr2:∀ news r',RedoP dfs P ops hn w0 N L H (bs' news r') i pa) (h:∀ news p c,RepZ H size ds news->FlowP dfs P ops hn w0 N E fr pa ((t,.slice p (k+m) c)::L) H (bs' news (.slice p (k+m) c))) :
 FlowP dfs P ops hn w0 N E ((i,3,⟨some t,.call ⟨.builtin .append,#[x,y],#[T,T]⟩,ty,pos,aft,none⟩)::fr) pa L H bs :=
 ⟨blt_of ht,appendD hT hx hm hy hr h63 hb ht λnews r' hz=>At.ra (hm news r').new λp c e=>by subst e;exact FlowP.into (.inr<|.inr<|hr2 _ _) (h news p c hz)⟩
end
section
variable {dfs:List Deferred} {P:Program}
variable {n:Nat} {L:Sl} {H:Hp} {w0:World} {bs:List Res} {d:Option Tmp} {ty:TypeId} {pos:String} {aft:Array Edge} {g:Option (Nat × Bool)} {x y:Operand} {T T':TypeId}
end
variable {z c:Nat}
theorem Rep.cells {n:Nat} {ds:List D} {p:Option Addr} (h:Rep H (.seq z ds) [.slice p n c]):∃ cf:Nat->List Value,∀ i d,ds[i]? = some d->∃ b off,p=some ⟨b,off,none⟩/\Rep H d (cf i)/\(cf i).length=z/\MemAt H b (off+i * z) (cf i):=by
 classical
 refine ⟨λi=>if h:∃ cs,∀ d,ds[i]? = some d->∃ b off,p=some ⟨b,off,none⟩/\Rep H d cs/\cs.length=z/\MemAt H b (off+i * z) cs then Classical.choose h else [],λi d hd=>?_⟩
 have ex:∃ cs,∀ d,ds[i]? = some d->∃ b off,p=some ⟨b,off,none⟩/\Rep H d cs/\cs.length=z/\MemAt H b (off+i * z) cs:=by
  obtain ⟨b,off,cs,h1,h2,h3,h4⟩:=h.elem hd;refine ⟨cs,λd' hd'=>?_⟩;rw [hd] at hd';injection hd' with e
  subst e;exact ⟨b,off,h1,h2,h3,h4⟩
 simp only [Al_dif_pos ex];exact Classical.choose_spec ex d hd
variable {l:List Value} {k:Nat}
theorem subL {vs:List Value} (h:(l.drop k).take vs.length=vs):∀ (j:Nat) u,vs[j]? = some u->l[k+j]? = some u:=λj u hj=>by
 rw [<-h,List.getElem?_take] at hj
 split at hj
 ·rw [List.getElem?_drop] at hj;exact hj
 ·cases hj
section
variable {dfs:List Deferred} {P:Program} {n:Nat} {L:Sl} {H:Hp} {w0:World} {bs:List Res} {Q:Exit->Act->World->Prop} {ops:Array Oper} {rest:List Oper} {K:Act->World->Prop}
variable {d:Option Tmp} {ty:TypeId} {pos:String} {aft:Array Edge} {v:Value} {t:Tmp} {x:Operand}
theorem Yl.mkF {fn:Fn} {fs cs:List Operand} {fi ca:List Value} {g:Option (Nat × Bool)} (h1:evs L fs=some fi) (h2:evs L cs=some ca):Yl P L H w0 bs ⟨d,.makeFunc fn fs.toArray cs.toArray,ty,pos,aft,g⟩ (.func fn fi.toArray ca.toArray):=.of_run λa W f _=>by
 unfold execOp;simp [evs_map f h1,evs_map f h2,Instr.makeFunc]
theorem Fr.know {a:Act} {p:Value} (f:Fr dfs n L a) (h:look L t=some p):Fr dfs n ((t,p)::L) a:=⟨f.size,f.defers,λs u e=>by
 unfold look at e;cases hb:Nat.beq t s
 ·rw [hb,cond_false] at e;exact f.slot s u e
 ·rw [hb,Al_cond_true] at e;rw [<-Al_Nat_eq_of_beq_eq_true hb,<-Al_Option_some_inj e];exact f.slot t p h⟩
theorem At.cr {y z:Code} {p:Bool} (hc:look L t=some (.bool p)) (h1:p=true->At dfs n ((t,.bool true)::L) H w0 bs (y.wp P Q)) (h2:p=false->At dfs n ((t,.bool false)::L) H w0 bs (z.wp P Q)):At dfs n L H w0 bs ((Code.cond (.tmp t) y z).wp P Q) :=
 At.cd (t:=p) (by exact hc) (λe a W f s=>h1 e a W (f.know (e ▸ hc)) s) (λe a W f s=>h2 e a W (f.know (e ▸ hc)) s)
/-! ### Stores in a drawn region's head -/
section
variable {N hn i:Nat} {pa:List (Nat × Oper × Value)} {E:Sl->Hp->List Res->Prop} {r:List (Nat × Nat × Oper)} {T:TypeId} {y:Operand} {bs':List Res}
theorem FlowP.into0 (hr:RedoP dfs P ops hn w0 N L H bs' i pa) (h:FlowP dfs P ops hn w0 N E r pa L H bs') :
 At dfs N L H w0 bs' (λa' W'=>∃ v H' bs'',Fr dfs N (putL none v L) a'/\St H' w0 bs'' W'/\(2=1\/(∀ W,St H' w0 bs'' W->St H w0 bs W)\/RedoP dfs P ops hn w0 N L H' bs'' i pa)/\FlowP dfs P ops hn w0 N E r pa (putL none v L) H' bs''):=λ_ _ f s=>⟨undef,H,bs',f,s,.inr (.inr hr),h⟩
theorem FlowP.sW {b:Nat} {l vs:List Value} {t':TypeId} (hm:Upd bs (.box b l t') (.box b vs t') bs') (hp:ev L x=some (.pointer (some ⟨b,0,none⟩))) (hv:ev L y=some (.agg vs.toArray)) (hT:sizeN P T=some vs.length) (h1:∀ u∈vs,u.oneCell'=true) (ho:l.length=vs.length)
 (hr:RedoP dfs P ops hn w0 N L H bs' i pa) (h:FlowP dfs P ops hn w0 N E r pa L H bs'):FlowP dfs P ops hn w0 N E ((i,3,⟨none,.store T x y,ty,pos,aft,none⟩)::r) pa L H bs :=
 ⟨λ_ e=>(by cases e),storeW hp hv hT h1 hm ho (into0 hr h)⟩
theorem FlowP.st {b off:Nat} {l l':List Value} {t':TypeId} (hm:Upd bs (.box b l t') (.box b l' t') bs') (hp:ev L x=some (.pointer (some ⟨b,off,none⟩))) (hv:ev L y=some v) (hT:sizeN P T=some 1) (h1:v.oneCell'=true) (ho:Nat.blt off l.length=true) (hl:l.set off v=l')
 (hr:RedoP dfs P ops hn w0 N L H bs' i pa) (h:FlowP dfs P ops hn w0 N E r pa L H bs'):FlowP dfs P ops hn w0 N E ((i,3,⟨none,.store T x y,ty,pos,aft,none⟩)::r) pa L H bs :=
 ⟨λ_ e=>(by cases e),store hp hv hT h1 hm (by simpa [Al_Nat_blt_eq] using ho) hl (into0 hr h)⟩
end
section
variable {N hn i k:Nat} {pa:List (Nat × Oper × Value)} {E:Sl->Hp->List Res->Prop} {r:PlT} {T:TypeId} {y:Operand} {bs':List Res}
theorem AltT.blF {ps:List (Nat × Operand)} {pv:List (Nat × Value)} {len:Nat} {e:TypeId} {l:List Value} (hv:evp L ps=some pv) (hb:bslN P T len pv=some (e,l)) (ht:Nat.blt t N=true)
 (h:∀ b H1,HUp w0 H H1->MemN H1 b 0 l->FlowT dfs P ops hn w0 N E r pa ((t,.slice (some ⟨b,0,none⟩) len len)::L) H1 bs):AltT dfs P ops hn w0 N E i k ⟨some t,.buildSlice T len ps.toArray,ty,pos,aft,none⟩ r pa L H bs :=
 ⟨blt_of ht,buildSlice hv hb ht λb=>freezeBoxN λH1 u m=>AltT.into (.inr<|.inl λ_ s=>s.weakH u.up) (h b H1 u m)⟩
theorem AltT.into0 (hr:RedoP dfs P ops hn w0 N L H bs' i pa) (h:FlowT dfs P ops hn w0 N E r pa L H bs') :
 At dfs N L H w0 bs' (λa' W'=>∃ v H' bs'',Fr dfs N (putL none v L) a'/\St H' w0 bs'' W'/\(k=1\/(∀ W,St H' w0 bs'' W->St H w0 bs W)\/RedoP dfs P ops hn w0 N L H' bs'' i pa)/\FlowT dfs P ops hn w0 N E r pa (putL none v L) H' bs''):=λ_ _ f s=>⟨undef,H,bs',f,s,.inr (.inr hr),h⟩
theorem AltT.sW {b:Nat} {l vs:List Value} {t':TypeId} (hm:Upd bs (.box b l t') (.box b vs t') bs') (hp:ev L x=some (.pointer (some ⟨b,0,none⟩))) (hv:ev L y=some (.agg vs.toArray)) (hT:sizeN P T=some vs.length) (h1:∀ u∈vs,u.oneCell'=true) (ho:l.length=vs.length)
 (hr:RedoP dfs P ops hn w0 N L H bs' i pa) (h:FlowT dfs P ops hn w0 N E r pa L H bs'):AltT dfs P ops hn w0 N E i k ⟨none,.store T x y,ty,pos,aft,none⟩ r pa L H bs :=
 ⟨λ_ e=>(by cases e),storeW hp hv hT h1 hm ho (AltT.into0 hr h)⟩
end
end
section
variable {dfs:List Deferred} {P:Program} {L:Sl} {H:Hp} {w0:World} {bs:List Res} {ops:Array Oper}
variable {ty:TypeId} {pos:String} {aft:Array Edge} {t:Tmp}
variable {N hn i k:Nat} {pa:List (Nat × Oper × Value)} {E:Sl->Hp->List Res->Prop} {r:List (Nat × Nat × Oper)} {T:TypeId}
theorem FlowP.blF {ps:List (Nat × Operand)} {pv:List (Nat × Value)} {len:Nat} {e:TypeId} {l:List Value} (hv:evp L ps=some pv) (hb:bslN P T len pv=some (e,l)) (ht:Nat.blt t N=true)
 (h:∀ b H1,HUp w0 H H1->MemN H1 b 0 l->FlowP dfs P ops hn w0 N E r pa ((t,.slice (some ⟨b,0,none⟩) len len)::L) H1 bs):FlowP dfs P ops hn w0 N E ((i,k+1,⟨some t,.buildSlice T len ps.toArray,ty,pos,aft,none⟩)::r) pa L H bs :=
 ⟨blt_of ht,buildSlice hv hb ht λb=>freezeBoxN λH1 u m=>FlowP.into (.inr<|.inl λ_ s=>s.weakH u.up) (h b H1 u m)⟩
end
class FW (F:Fence):Prop where
 fn:∀ f,F.fn f
 depth:F.depth=none
 calls:∀ {n:Nat} {P:Program} {f:FuncId} {args:Array Value} {w:World} {R:Ending->World->Prop},Calls P f args w R->CallsIn F n P f args w R
 rows:∀ {n:Nat} {P:Program} {r:String} {args:Array Value} {w:World} {R:Value->World->Prop},Rows P r args w R->RowsIn F n P r args w R
instance:FW Fence.wide:=⟨λ_=>trivial,Z,λh=>callsIn_wide.2 h,λh c cs _=>let ⟨v,w',r,s⟩:=h c cs;⟨v,w',r,stepsIn_wide.2 s⟩⟩
instance {l:Nat}:FW (Fence.wide.inRound l):=⟨λ_=>trivial,Z,λh=>CallsIn.inRound l (callsIn_wide.2 h),λh c cs _=>let ⟨v,w',r,s⟩:=h c cs;⟨v,w',r,stepsIn_wide.2 s⟩⟩
section
variable {dfs:List Deferred} {P:Program} {n m:Nat} {L:Sl} {H:Hp} {w0:World} {bs:List Res} {Q:Exit->Act->World->Prop} {ops:Array Oper} {rest:List Oper} {K:Act->World->Prop} {F:Fence}
variable {d:Option Tmp} {ty:TypeId} {pos:String} {aft:Array Edge} {g:Option (Nat × Bool)} {v:Value} {t:Tmp} {op:Op} {x y:Operand} {T:TypeId}
theorem wpIn_of_wp [hF:FW F] {o:Oper} {a:Act} {w:World} (hd:∀ c,o.op≠.defer c) (h:o.wp P a w K (λ_ _ _=>False)):o.wpIn F m P a w K Q:=by
 unfold Oper.wpIn;refine ⟨λf _=>hF.fn f,?_⟩;rw [Oper.semAt_plain F _ _ hd];unfold Oper.wp at h;generalize (execOp a.eval o).run P w=r at *;cases r with
 | ok z w' =>
  cases z <;> simp only [Oper.upon] at h <;> simp only [Oper.uponIn]
  case value u=>exact h
  case skip=>exact h
  case defer d=>exact h
  case enter f args =>
   refine ⟨λe=>(by rw [hF.depth] at e;cases e),hF.calls (h.mono ?_)⟩;intro e w'' q;cases e with
   | returned v=>exact q
   | panicked c=>exact q.elim
   | outgrown=>obtain ⟨_,_,q⟩:=q;exact q.elim
  case row rw args=>exact ⟨λe=>(by rw [hF.depth] at e;cases e),hF.rows h⟩
 | halt z w' =>
  cases z <;> simp only [Oper.upon] at h
theorem consI [hF:FW F] {o:Oper} (hd:∀ c,o.op≠.defer c) (h:At dfs n L H w0 bs (one P ops (λ_ _ _=>False) o (wpListIn F m P ops Q rest))):At dfs n L H w0 bs (wpListIn F m P ops Q (o::rest)):=by
 intro a W f s;have h1:=h a W f s;unfold one at h1;unfold wpListIn;cases hw:Region.wanted o (yielded ops a.tmps) with
 | true =>
  rw [hw] at h1;simp only [Al_if_true] at h1|-;rcases h1 with h1 | ⟨_,_,_,h1⟩
  ·exact wpIn_of_wp hd h1
  ·exact h1.elim
 | false =>
  rw [hw] at h1;simp only [Al_Bool_false_eq_true,Al_if_false] at h1|-;exact ⟨λf _=>hF.fn f,h1⟩
theorem At.rgI {id:Nat} {l:List Oper} (h:At dfs n L H w0 bs (wpListIn F m P l.toArray Q l)):At dfs n L H w0 bs ((Code.region id l.toArray false).wpIn F m P Q):=λa W f s=>wpIn_region_lit (h a W f s)
theorem At.rgW {id:Nat} {l:List Oper} (m:Nat) (h:At dfs n L H w0 bs (wpListIn Fence.wide m P l.toArray Q l)):At dfs n L H w0 bs ((Code.region id l.toArray false).wp P Q):=λa W f s=>wpIn_wide.1 (wpIn_region_lit (h a W f s))
theorem At.nlI (h:At dfs n L H w0 bs (Q .normal)):At dfs n L H w0 bs (wpListIn F m P ops Q []):=h
theorem At.yvI [FW F] (hy:Yl P L H w0 bs ⟨some t,op,ty,pos,aft,none⟩ v) (ht:Nat.blt t n=true) (h:At dfs n ((t,v)::L) H w0 bs (wpListIn F m P ops Q rest)) (hd:∀ c,op≠.defer c:=by intro c e;cases e):At dfs n L H w0 bs (wpListIn F m P ops Q (⟨some t,op,ty,pos,aft,none⟩::rest)):=consI hd (yl hy ht h)
theorem At.mI [FW F] (hx:ev L x=some v) (ht:Nat.blt t n=true) (h:At dfs n ((t,v)::L) H w0 bs (wpListIn F m P ops Q rest)):At dfs n L H w0 bs (wpListIn F m P ops Q (⟨some t,.move x,ty,pos,aft,none⟩::rest)):=.yvI (.move hx) ht h
theorem At.alI [FW F] {l:List Value} (hz:zeroN P T=some l) (ht:Nat.blt t n=true) (h:∀ b,At dfs n ((t,.pointer (some ⟨b,0,none⟩))::L) H w0 (.box b l T::bs) (wpListIn F m P ops Q rest)):At dfs n L H w0 bs (wpListIn F m P ops Q (⟨some t,.alloc T,ty,pos,aft,none⟩::rest)):=consI (by intro c e;cases e) (alloc hz ht h)
theorem At.sWI [FW F] {b:Nat} {l vs:List Value} {t':TypeId} {bs':List Res} (hm:Upd bs (.box b l t') (.box b vs t') bs') (hp:ev L x=some (.pointer (some ⟨b,0,none⟩))) (hv:ev L y=some (.agg vs.toArray)) (hT:sizeN P T=some vs.length) (h1:∀ u∈vs,u.oneCell'=true) (ho:l.length=vs.length) (h:At dfs n L H w0 bs' (wpListIn F m P ops Q rest)) :
 At dfs n L H w0 bs (wpListIn F m P ops Q (⟨none,.store T x y,ty,pos,aft,none⟩::rest)):=consI (by intro c e;cases e) (storeW hp hv hT h1 hm ho h)
end
/-! ### The caller's side of a range over a function -/
section
variable {H:Hp} {w0 W W':World} {bs:List Res}
theorem St.beside {row:Option Nat} (s:St H w0 bs W) (g:W.grownBy W' row) (hr:∀ r,row=some r->w0.heap.size<=r/\H r=none/\∀ x∈bs,x.blk≠some r):St H w0 bs W':=by
 have hb:∀ k,k<W.heap.size->(∀ r,row=some r->k≠r)->W'.heap[k]? = W.heap[k]? := λk hk hn=>g.block k hk (λe=>hn k e.symm rfl);refine ⟨?_,⟨?_,Al_Nat_le_trans s.agr.lo g.size⟩,?_,s.apart,s.lo⟩
 ·have e:=s.ext;unfold Ext at e|-;refine ⟨g.os.trans e.os,g.tape.trans e.tape,g.output.trans e.output,Al_Nat_le_trans e.size g.size,λk hk=>?_⟩;exact (hb k (Al_Nat_lt_of_lt_of_le hk e.size) (λr e' h=>by have:=(hr r e').1;omega)).trans (e.block k hk)
 ·intro b o e;have:=s.agr b o e;rw [hb b (block_lt this) (λr e' h=>by subst h;rw [(hr b e').2.1] at e;cases e)];exact this
 ·intro x hx;exact ⟨(s.own x hx).1.keep g.size (λb e=>hb b ((s.own x hx).1.lt e).2 (λr e' h=>by subst h;exact (hr b e').2.2 x hx e)),(s.own x hx).2⟩
def nobj:List Res->Bool
 | []=>true
 | .box ..::r=>nobj r
 | .row ..::r=>nobj r
 | _::_=>false
theorem nobj_cells:∀ {bs:List Res},nobj bs=true->∀ x∈bs,∀ base,x.ok base W->∀ b,x.blk=some b->∃ o,W.heap[b]? = some o/\o.isCells=true
 | [],_,x,hx,_,_,_,_=>by cases hx
 | .box c l t::r,h,x,hx,base,ho,b,e=>by
  rcases Al_List_mem_cons.1 hx with rfl | hx
  ·obtain rfl:c=b:=Al_Option_some_inj e;exact ⟨_,ho.2,Z⟩
  ·exact nobj_cells (bs:=r) h x hx base ho b e
 | .row et size v n xs::r,h,x,hx,base,ho,b,e=>by
  rcases Al_List_mem_cons.1 hx with rfl | hx
  ·obtain ⟨_,⟨rfl,_⟩ | ⟨g,cap,cur,rfl,hg,hc,_⟩⟩:=ho
   ·cases e
   ·obtain rfl:g=b:=Al_Option_some_inj e;exact ⟨_,hc,Z⟩
  ·exact nobj_cells (bs:=r) h x hx base ho b e
 | .obj ..::_,h,_,_,_,_,_,_=>by cases h
 | .big ..::_,h,_,_,_,_,_,_=>by cases h
theorem nobj_ne (s:St H w0 bs W) (h:nobj bs=true) {r:Nat} {o:Obj} (ho:W.heap[r]? = some o) (hc:o.isCells=false):∀ x∈bs,x.blk≠some r:=by
 intro x hx e;obtain ⟨o',h1,h2⟩:=nobj_cells h x hx _ (s.own x hx).1 r e;rw [ho] at h1;cases h1;rw [hc] at h2;cases h2
theorem ownSt {α Z:Type} {B:Nat} {C:List α->Z->Prop} {rs:Z->List Res} (hB:w0.heap.size<=B) (hH:∀ r,B<=r->H r=none) (hn:∀ pre z,C pre z->nobj (rs z)=true) :
 OwnFrom B (λpre W=>∃ z,C pre z/\St H w0 (rs z) W):=by
 rintro pre X Y row ⟨z,hz,s⟩ hg hr
 exact ⟨z,hz,s.beside hg λr e=>by
  obtain ⟨h1,o,h2,h3⟩:=hr r e;exact ⟨Al_Nat_le_trans hB h1,hH r h1,nobj_ne s (hn _ _ hz) h2 h3⟩⟩
theorem St.less {H':Hp} (s:St H' w0 bs W) (u:Up H H'):St H w0 bs W:=⟨s.ext,⟨λb o e=>s.agr b o (u b o e),u.lo ▸ s.agr.lo⟩,λx hx=>⟨(s.own x hx).1,λb e=>by
 cases h:H b with
 | none=>rfl
 | some o=>have:=(s.own x hx).2 b e;rw [u b o h] at this;cases this⟩,s.apart,u.lo ▸ s.lo⟩
theorem St.front {tl:List Res} (s:St H w0 (bs++tl) W):St H w0 bs W:=⟨s.ext,s.agr,λx hx=>s.own x (Al_List_mem_append_left _ hx),(Al_List_pairwise_append.1 s.apart).1,s.lo⟩
def tailOf (B:Nat) (W:World):List Res:=.big W.heap.size::(List.range' B (W.heap.size - B)).filterMap λk=>match W.heap[k]? with
 | some o=>if o.isCells then none else some (.obj k o)
 | none=>none
theorem mem_tailOf {B:Nat} {x:Res} (h:x∈tailOf B W):x=.big W.heap.size\/∃ k o,x=.obj k o/\W.heap[k]? = some o/\o.isCells=false/\B<=k:=by
 rcases Al_List_mem_cons.1 h with rfl | h
 ·exact .inl Z
 ·obtain ⟨k,hk,he⟩:=Al_List_mem_filterMap.1 h;cases ho:W.heap[k]? with
  | none=>rw [ho] at he;cases he
  | some o =>
   rw [ho] at he;cases hc:o.isCells with
   | true=>simp [hc] at he
   | false=>exact .inr ⟨k,o,by simpa [hc] using he.symm,ho,hc,by have:=List.mem_range'_1.1 hk;omega⟩
theorem St.tailOf {B:Nat} (s:St H w0 bs W) (hn:nobj bs=true) (hB:w0.heap.size<=B) (hH:∀ r,B<=r->H r=none):St H w0 (bs++tailOf B W) W:=by
 refine ⟨s.ext,s.agr,?_,Al_List_pairwise_append.2 ⟨s.apart,?_,?_⟩,s.lo⟩
 ·intro x hx;rcases Al_List_mem_append.1 hx with hx | hx
  ·exact s.own x hx
  ·rcases mem_tailOf hx with rfl | ⟨k,o,rfl,ho,hc,hk⟩
   ·exact ⟨Al_Nat_le_refl _,λb e=>by cases e⟩
   ·exact ⟨⟨Al_Nat_le_trans hB hk,ho⟩,λb e=>by obtain rfl:k=b:=Al_Option_some_inj e;exact hH k hk⟩
 ·refine .cons (λy _ b e=>by cases e) ?_;refine List.Pairwise.filterMap _ ?_ (List.pairwise_lt_range' (s:=B) (n:=W.heap.size - B));intro k j hlt x hx y hy b e e'
  have key:∀ (m:Nat) (u:Res),(match W.heap[m]? with | some o=>if o.isCells then none else some (Res.obj m o) | none=>none)=some u->u.blk=some m:=by
   intro m u hu;cases ho:W.heap[m]? with
   | none=>rw [ho] at hu;cases hu
   | some o =>
    rw [ho] at hu;cases hc:o.isCells with
    | true=>simp [hc] at hu
    | false =>
     simp [hc] at hu;rw [<-hu];rfl
  have h1:=key k x hx;have h2:=key j y hy;rw [h1] at e;rw [h2] at e';cases e;cases e';omega
 ·intro x hx y hy b e e';rcases mem_tailOf hy with rfl | ⟨k,o,rfl,ho,hc,hk⟩
  ·cases e'
  ·obtain rfl:k=b:=Al_Option_some_inj e';exact nobj_ne s hn ho hc x hx e
theorem St.keepsFrom {B:Nat} (s:St H w0 (bs++Sx.tailOf B W) W'):KeepsFrom B W W':=by
 refine ⟨?_,λk o hk ho hc=>?_⟩
 ·exact (s.own _ (Al_List_mem_append_right _ (Al_List_mem_cons_self ..))).1
 ·have hm:Res.obj k o∈Sx.tailOf B W:=by
   refine Al_List_mem_cons_of_mem _ (Al_List_mem_filterMap.2 ⟨k,List.mem_range'_1.2 ?_,?_⟩)
   ·have:=block_lt ho;omega
   ·rw [ho];simp [hc]
  exact ((s.own _ (Al_List_mem_append_right _ hm)).1).2
def KpH (H:Hp) (W W':World):Prop:=Agr H W->Agr H W'
def rE {α Z:Type} (C:List α->Z->Prop) (rs:Z->List Res) (H:Hp) (w0:World) (tl:List Res) (xs:List α):Exit->Act->World->Prop
 | .normal,_,W=>∃ z,C xs z/\St H w0 (rs z++tl) W
 | _,_,_=>False
theorem At.rE {α Z:Type} {C:List α->Z->Prop} {rs:Z->List Res} {tl:List Res} {xs:List α} {dfs:List Deferred} {n:Nat} {L:Sl} {H':Hp} (z:Z) (u:Up H H') (hz:C xs z) (hb:bs=rs z++tl) :
 At dfs n L H' w0 bs (Sx.rE C rs H w0 tl xs .normal):=λa W f s=>⟨z,hz,by rw [<-hb];exact s.less u⟩
end
/-! ### A function with a range over a function in it -/
section
variable {P:Program} {n:Nat} {L:Sl} {H:Hp} {w0:World} {bs bs':List Res} {fn:Func} {R:Ending->World->Prop} {v:Value} {D:Nat}
theorem enterM {f:FuncId} {c:Code} {args:List Value} {w:World} (hf:P.funcs[f]? = some fn) (hb:fn.body=some c) (hn:fn.ntmps=n) (hl:Nat.ble args.length n=true) (hA:Agr H w)
 (h:At [] n (slots 0 args) H w [] (c.wp P (bodyPostM Fence.wide 9 P fn R))):Calls P f args.toArray w R:=by
 refine callsIn_wide.1 (callsIn_of_wp_marks (n:=9) hf hb trivial (wpIn_wide.2 (h _ _ ⟨?_,Z,?_⟩ (.start hA))))
 ·have:args.length<=n:=Al_Nat_le_of_ble_eq_true hl;simp [hn];omega
 ·intro t v e;obtain ⟨_,h2⟩:=slots_at args 0 t v e;rw [Al_Nat_sub_zero] at h2;have hlt:t<args.length:=(List.getElem?_eq_some_iff.1 h2).1;rw [Al_Array_getD_eq_getD_getElem?];rw [Array.getElem?_append_left (by simpa using hlt)];simp [h2]
theorem St.shut {W:World} (s:St H w0 bs W) (u:Upd bs (.obj D (.deferred (some []))) (.obj D (.deferred none)) bs'):St H w0 bs' (W.putObj D (.deferred none)):=by
 obtain ⟨h1,h2⟩:=(s.own _ u.mem).1;have hlt:=block_lt h2;have e:=s.ext;refine s.upd u ?_ (by simp [World.putObj]) ?_ ⟨h1,World.putObj_heap_same hlt⟩ (λb e=>.inl e)
 ·unfold Ext at e|-;exact e.grown (grownBy_putObj' W D _) (by omega) (λk e=>by cases e;exact h1)
 ·intro b _ hne;exact World.putObj_heap_other (λh=>hne (by rw [h];rfl))
theorem retM {e:Exit} (he:e=.ret\/e=.normal) (u:Upd bs (.obj D (.deferred (some []))) (.obj D (.deferred none)) bs') (h:At [] n L H w0 bs' (bodyPost P fn R .ret)) :
 At [{ target:=.collected D,args:=#[] }] n L H w0 bs (bodyPostM Fence.wide 9 P fn R e):=by
 intro a W f s;obtain ⟨_,v,h2,h3⟩:=h { a with defers:=[] } _ ⟨f.size,Z,f.slot⟩ (s.shut u)
 have h4:LeavesInM Fence.wide 9 P fn a.tmps R a.defers .returning W:=by
  rw [f.defers];exact ⟨(by intro e;cases e),.inl ⟨D,_,Z,run_takeDeferred (s.own _ u.mem).1.2,v,h2,h3⟩⟩
 rcases he with rfl | rfl <;> exact h4
end
/-! ### The iterator's side -/
section
variable {dfs:List Deferred} {P:Program} {n m l:Nat} {L:Sl} {H:Hp} {w0:World} {bs:List Res} {Q:Exit->Act->World->Prop} {ops:Array Oper} {rest:List Oper} {F:Fence}
variable {d:Option Tmp} {ty:TypeId} {pos:String} {aft:Array Edge} {g:Option (Nat × Bool)} {t:Tmp} {x:Operand} {xs:List Operand} {vs:List Value} {ats:Array TypeId}
theorem Ext.grownBy {W W':World} (e:Ext W W'):W.grownBy W' none:=by
 unfold Ext at e;exact ⟨e.os,e.tape,e.output,e.size,λk hk _=>e.block k hk⟩
theorem AbidesFrom.ext {β:Type} {B:Nat} {J:β->World->Prop} (h:AbidesFrom B J) {s:β} {W W':World} (hs:J s W) (e:Ext W W'):J s W':=h s W W' none hs (Ext.grownBy e) (λr h=>by cases h)
theorem exec_yield {a:Act} {W W':World} {r:Next} (f0:∀ x u,ev L x=some u->a.eval x=u) (hx:ev L x=some (.func (.yield l) #[] #[])) (hv:evs L xs=some vs) (hr:(Instr.yield l vs.toArray).run P W=.ok r W') :
 (execOp a.eval ⟨d,.call ⟨.value x,xs.toArray,ats⟩,ty,pos,aft,g⟩).run P W=.ok r W':=by
 unfold execOp;simp [resolve,Deferred.ofValue,f0 _ _ hx,invoke,evs_map f0 hv,hr]
def noH:Hp:=⟨λ_=>none,0⟩
theorem At.yd [hF:FW F] {J Jx:World->Prop} (hx:ev L x=some (.func (.yield l) #[] #[])) (hv:evs L xs=some vs) (ht:Nat.blt t n=true)
 (hy:∀ W,St H w0 bs W->YieldAt F (m - 1) P l vs.toArray W λe W'=>(e=.returned (.bool true)/\J W'/\KpH H W W')\/(e=.returned (.bool false)/\Jx W'))
 (h1:∀ w1,J w1->At dfs n ((t,.bool true)::L) H w1 [] (wpListIn F m P ops Q rest))
 (h2:∀ w1,Jx w1->At dfs n ((t,.bool false)::L) noH w1 [] (wpListIn F m P ops Q rest)) :
 At dfs n L H w0 bs (wpListIn F m P ops Q (⟨some t,.call ⟨.value x,xs.toArray,ats⟩,ty,pos,aft,none⟩::rest)):=by
 intro a W f s;unfold wpListIn;rw [Al_if_pos (by simp [Region.wanted])];unfold Oper.wpIn;refine ⟨λf _=>hF.fn f,?_⟩;rw [Oper.semAt_plain F _ _ (by intro c e;cases e)];obtain ⟨fn,tmps,assign,body,hr,hR⟩:=hy W s;rw [exec_yield (λx u e=>f.ev e) hx hv hr];refine ⟨λe=>(by rw [hF.depth] at e;cases e),hR.mono ?_⟩;rintro e W' (⟨rfl,hj,hk⟩ | ⟨rfl,hj⟩)
 ·exact h1 W' hj _ _ (f.put ht _) (.start (hk s.agr))
 ·exact h2 W' hj _ _ (f.put ht _) (.start ⟨λb o e=>(by cases e),Al_Nat_zero_le _⟩)
theorem At.lj {c:Code} {X:Type} (L':X->Sl) (J:X->World->Prop) (C:X->Prop) (μ:X->Nat) (x0:X) (hC:C x0) (hL:Sub L (L' x0)) (hJ:J x0 w0)
 (round:∀ x w1,C x->J x w1->At dfs n (L' x) H w1 [] (c.wp P (Exit.then (λa W=>∃ y w2,(C y/\μ y<μ x)/\J y w2/\Fr dfs n (L' y) a/\St H w2 [] W) Q))) :
 At dfs n L H w0 [] ((Code.loop c).wp P Q):=by
 intro a W f s;refine wp_loop_ghost (λm a W=>∃ x w1,μ x=m/\C x/\J x w1/\Fr dfs n (L' x) a/\St H w1 [] W) _ ⟨x0,w0,Z,hC,hJ,f.sub hL,s⟩ ?_;rintro m a W ⟨x,w1,rfl,hx,hj,f,s⟩;refine wp_mono (round x w1 hx hj a W f s) λe a' W' q=>?_;cases e <;> first | exact q | skip
 obtain ⟨y,w2,⟨hy,hlt⟩,hj,fy,sy⟩:=q;exact ⟨_,hlt,y,w2,Z,hy,hj,fy,sy⟩
theorem At.aj {X:Type} {J:X->World->Prop} {L':X->Sl} {C:X->Prop} {μ:X->Nat} {x:X} (y:X) (hC:C y) (hm:μ y<μ x) (hJ:J y w0) (hL:Sub L (L' y)) :
 At dfs n L H w0 [] (λa W=>∃ y w2,(C y/\μ y<μ x)/\J y w2/\Fr dfs n (L' y) a/\St H w2 [] W):=λ_ W f s=>⟨y,w0,⟨hC,hm⟩,hJ,f.sub hL,s⟩
theorem seqStops {α:Type} {gf:Nat} {lb:List Value} {enc:α->Value} {S:List α->Prop} {N:Nat} {w:World} {fn:Func} {c:Code} (hf:P.funcs[gf]? = some fn) (hb:fn.body=some c) (hn:fn.ntmps=n) (hl:Nat.ble (lb.length+1) n=true)
 (hA:∀ W,Ext w W->Agr H W)
 (h:∀ l (J Jx:List α->World->Prop) W,(∀ s A B,J s A->Ext A B->J s B)->(∀ s A B,Jx s A->Ext A B->Jx s B) ->
  (∀ pre x W1,J pre W1->pre.length<N->YieldAt Fence.wide 7 P l #[enc x] W1 λe W'=>(e=.returned (.bool true)/\J (pre++[x]) W'/\KpH H W1 W')\/(e=.returned (.bool false)/\Jx (pre++[x]) W')) ->
  J [] W->At [] n (slots 0 (.func (.yield l) #[] #[]::lb)) H W [] (c.wp P (bodyPost P fn λe W'=>(∃ v,e=.returned v)/\((∃ xs,S xs/\J xs W')\/(∃ pre,True/\Jx pre W'))))) :
 SeqStopsK Fence.wide 8 P gf lb.toArray (λx=>#[enc x]) (KpH H) S (λ_=>True) N w:=by
 intro l J Jx W hW hJ hJx hY h0;refine callsIn_wide.2 ?_;have:(#[Value.func (.yield l) #[] #[]]++lb.toArray:Array Value)=(Value.func (.yield l) #[] #[]::lb).toArray:=by simp
 rw [this];exact enter hf hb hn hl (hA W (by unfold Ext;exact hW)) (h l J Jx W (λs A B h e=>Sx.AbidesFrom.ext hJ h e) (λs A B h e=>Sx.AbidesFrom.ext hJx h e) hY h0)
end
variable {W:World}
theorem Res.ok.base {b:Nat} {x:Res} (h:x.ok c W) (hb:b<=c):x.ok b W:=by
 cases x with
 | box d l t=>exact ⟨Al_Nat_le_trans hb h.1,h.2⟩
 | obj d o=>exact ⟨Al_Nat_le_trans hb h.1,h.2⟩
 | big d=>exact h
 | ps et v xs =>
  obtain ⟨rfl,h0⟩ | ⟨g,cap,cur,rfl,hg,hc,hr⟩:=h
  ·exact .inl ⟨Z,h0⟩
  ·exact .inr ⟨g,cap,cur,Z,Al_Nat_le_trans hb hg,hc,hr⟩
 | row et size v n xs =>
  obtain ⟨hl,⟨rfl,h0⟩ | ⟨g,cap,cur,rfl,hg,hc,hr⟩⟩:=h
  ·exact ⟨hl,.inl ⟨Z,h0⟩⟩
  ·exact ⟨hl,.inr ⟨g,cap,cur,Z,Al_Nat_le_trans hb hg,hc,hr⟩⟩
variable {w0 W':World}
theorem St.join (s:St H w0 bs W) (u:HUp W H H') (k:St H' W bs' W'):St H' w0 (bs'++bs) W':=by
 refine ⟨s.ext.trans k.ext,k.agr,λx hx=>?_,Al_List_pairwise_append.2 ⟨k.apart,s.apart,λx hx y hy b e e'=>?_⟩,u.up.lo ▸ s.lo⟩
 ·rcases Al_List_mem_append.1 hx with hx | hx
  ·exact ⟨(k.own x hx).1.base s.ext.size,(k.own x hx).2⟩
  ·exact ⟨(s.own x hx).1.ext k.ext,λb e=>u.new b ((s.own x hx).2 b e) ((s.own x hx).1.lt e).2⟩
 ·have h1:=((k.own x hx).1.lt e).1;have h2:=((s.own y hy).1.lt e').2;omega
section
variable {dfs:List Deferred} {P:Program} {L:Sl} {H:Hp} {w0:World} {bs:List Res} {ops:Array Oper}
variable {ty:TypeId} {pos:String} {aft:Array Edge} {t:Tmp} {x:Operand}
variable {N hn i k:Nat} {pa:List (Nat × Oper × Value)} {E:Sl->Hp->List Res->Prop} {r:List (Nat × Nat × Oper)}
end
end Go.Sx
