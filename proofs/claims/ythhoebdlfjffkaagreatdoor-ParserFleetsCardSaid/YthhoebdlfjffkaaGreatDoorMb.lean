/- Texts of the proof, one behind the other. -/
import Derived.Test.YthhoebdlfjffkaaGreatDoorMa
import Derived.Lib.Builder
import Derived.Lib.AppendStr
import Derived.Lib.UnsafeStr
import Derived.Lib.ItoaNum
import Derived.Lib.Join
import Derived.Lib.ItoaLen
import Derived.Lib.ParseIntB
import Derived.Lib.ParseIntBCases
import Derived.Lib.IndexMore
import Derived.Test.YthhoebdlfjffkaaGreatDoorProg
set_option linter.all false
/- Pointers, strings appended to bytes, and unsafe strings: what a strings.Builder inside an own box meets. -/
namespace Go.Sx
open Go.RowKit Go.Par
section
variable {dfs:List Deferred} {P:Program} {n:Nat} {L:Sl} {H:Hp} {w0:World} {bs:List Res} {Q:Exit→Act→World→Prop} {ops:Array Oper} {rest:List Oper} {K:Act→World→Prop}
variable {d:Option Tmp} {ty:TypeId} {pos:String} {aft:Array Edge} {g:Option (Nat × Bool)} {v:Value} {t:Tmp} {op:Op} {x y z:Operand} {T T':TypeId}
def LP (P:Program) (T:TypeId):Option TypeId:=match P.underlying T with | some (.pointer e)=>if (P.info? e).isSome then some e else none | _=>none
theorem wY {e:TypeId} (h:LP P T=some e):P.underlying T=some (.pointer e)∧∃ j,P.info? e=some j:=by
 unfold LP at h;cases hu:P.underlying T with
 | none=>rw [hu] at h;cases h
 | some q =>
  rw [hu] at h;cases q <;> simp only [reduceCtorEq] at h;rename_i e'
  split at h
  ·rename_i hi;cases h;exact ⟨rfl,Option.isSome_iff_exists.1 hi⟩
  ·cases h
theorem Yl.neqP {e:TypeId} {a:Addr} (hT:LP P T=some e) (hx:ev L x=some (.pointer (some a))) (hy:ev L y=some (.pointer (some a))):Yl P L H w0 bs ⟨d,.binOp .neq T x y T',ty,pos,aft,g⟩ (.bool false):=.of_run fun ac W f _=>by
 obtain ⟨hp,j,hj⟩:=wY hT;have h:=Lib.run_neq_ptr_same (P:=P) W a hp hj;unfold execOp;simp [f x _ hx,f y _ hy,Sem.run_bind,eqGuard,Sem.run_pure,Result.andThen,h]
theorem Yl.eqPn {e:TypeId} {p:Option Addr} (hT:LP P T=some e) (hx:ev L x=some (.pointer p)) (hy:ev L y=some (.pointer none)):Yl P L H w0 bs ⟨d,.binOp .eql T x y T',ty,pos,aft,g⟩ (.bool p.isNone):=.of_run fun ac W f _=>by
 obtain ⟨hp,j,hj⟩:=wY hT
 have h:∀ q:Nat,(Op.equalIn (q+1) T (.pointer p) (.pointer none)).run P W=.ok p.isNone W:=fun q=>by
  cases p <;> simp [Op.equalIn,run_underlying hp]
 unfold execOp;simp [f x _ hx,f y _ hy,Sem.run_bind,eqGuard,Sem.run_pure,Result.andThen,binOp,Op.equal,Op.maxDepth,h 9999]
theorem Yl.ext {f:FuncId} {xs:List Operand} {vs:List Value} {ats:Array TypeId} (hv:evs L xs=some vs) (h:∀ W,(callFunc f vs.toArray).run P W=.ok (.value v) W):Yl P L H w0 bs ⟨d,.call ⟨.value (.func f),xs.toArray,ats⟩,ty,pos,aft,g⟩ v:=.of_run fun a W f0 s=>by
 have hm:=mS f0 hv;have:(#[]:Array Value)=[].toArray:=rfl;unfold execOp;simp only [resolve,Act.eval,Deferred.ofValue,Sem.run_bind,Sem.run_pure,Result.andThen,invoke,List.map_toArray,hm,this,List.append_toArray,List.nil_append,List.append_nil,h]
def KJ (P:Program) (T:TypeId):Bool:=match P.underlying T with | some .unsafePointer=>true | _=>false
theorem wN (h:KJ P T=true):P.underlying T=some .unsafePointer:=by
 unfold KJ at h;cases hu:P.underlying T with
 | none=>rw [hu] at h;cases h
 | some q=>rw [hu] at h;cases q <;> simp_all
def DQ (P:Program) (T:TypeId):Option (TypeId × Nat):=match P.underlying T with | some (.pointer e)=>(P.info? e).map fun j=>(e,j.size) | _=>none
theorem rO {e:TypeId} {m:Nat} (h:DQ P T=some (e,m)):P.underlying T=some (.pointer e)∧∃ j,P.info? e=some j∧j.size=m:=by
 unfold DQ at h;cases hu:P.underlying T with
 | none=>rw [hu] at h;cases h
 | some q =>
  rw [hu] at h;cases q <;> simp only [reduceCtorEq] at h;rename_i e';obtain ⟨j,hj,h2⟩:=Option.map_eq_some_iff.1 h;injection h2 with h3 h4
  subst h3 h4;exact ⟨rfl,j,hj,rfl⟩
theorem St.shape {W:World} {b:Nat} {l:List Value} {t':TypeId} (s:St H w0 bs W) (hm:Res.box b l t'∈bs):W.shape? b=some (t',l.length):=by
 have hb:=(s.own _ hm).1.2;simp [World.shape?,hb]
theorem Yl.toU {e:TypeId} {m b:Nat} {l:List Value} {t':TypeId} (hT:DQ P T=some (e,m+1)) (hT':KJ P T'=true) (hm:Res.box b l t'∈bs) (hl:0<l.length) (hx:ev L x=some (.pointer (some ⟨b,0,none⟩))):Yl P L H w0 bs ⟨d,.convert T T' x,ty,pos,aft,g⟩ (.pointer (some ⟨b,0,none⟩)):=.of_run fun ac W f s=>by
 obtain ⟨hp,j,hj,hjs⟩:=rO hT;have h:=Lib.run_to_unsafe (P:=P) W ⟨b,0,none⟩ hp (wN hT') hj (by omega) (s.shape hm) hl;unfold execOp;simp only [f x _ hx,Sem.run_bind,h,Result.andThen,Sem.run_pure]
theorem Yl.fromU {e:TypeId} {m b:Nat} {l:List Value} {t':TypeId} (hT:KJ P T=true) (hT':DQ P T'=some (e,m)) (hm:Res.box b l t'∈bs) (hlies:liesAt P P.depth t' (l.length / P.cellsOf t') 0 e 1=true) (hx:ev L x=some (.pointer (some ⟨b,0,none⟩))):Yl P L H w0 bs ⟨d,.convert T T' x,ty,pos,aft,g⟩ (.pointer (some ⟨b,0,none⟩)):=.of_run fun ac W f s=>by
 obtain ⟨hp,j,hj,hjs⟩:=rO hT';have h:=Lib.run_from_unsafe (P:=P) W ⟨b,0,none⟩ (wN hT) hp hj (s.shape hm) hlies;unfold execOp;simp only [f x _ hx,Sem.run_bind,h,Result.andThen,Sem.run_pure]
theorem AQ (l:List UInt8):Lib.strCells ⟨l.toArray⟩=l.map dE:=by simp [Lib.strCells,dE]
def GO (P:Program) (T:TypeId):Option TypeId:=match P.underlying T with | some (.slice e)=>(P.info? e).bind fun i=>(match i.zero with | some (.int .u8 0)=>if i.size=1∧i.bytes=1 then some e else none | _=>none) | _=>none
theorem EN {e:TypeId} (h:GO P T=some e):P.underlying T=some (.slice e)∧∃ i,P.info? e=some i∧i.zero=some (.int .u8 0)∧i.size=1∧i.bytes=1:=by
 unfold GO at h;cases hu:P.underlying T with
 | none=>rw [hu] at h;cases h
 | some q =>
  rw [hu] at h;cases q <;> simp only [reduceCtorEq] at h;rename_i e';obtain ⟨i,hi,h2⟩:=Option.bind_eq_some_iff.1 h
  split at h2
  ·rename_i hz
   split at h2
   ·rename_i hs;cases h2;exact ⟨rfl,i,hi,hz,hs.1,hs.2⟩
   ·cases h2
  ·cases h2
theorem At.as {e T2:TypeId} {k:Nat} {r:Value} {l s0:List UInt8} {bs':Value→List Res} (hT:GO P T=some e) (hT2:kX P T2=true) (hx:ev L x=some r) (hm:∀ r',Upd bs (.row e 1 r k (l.map dE)) (.row e 1 r' (k+s0.length) ((l++s0).map dE)) (bs' r'))
 (hy:ev L y=some (.string ⟨s0.toArray⟩)) (hb:k+s0.length≤140737488355328) (ht:Nat.blt t n=true)
 (h:∀ r',At dfs n ((t,r')::L) H w0 (bs' r') (wpList P ops Q rest)):At dfs n L H w0 bs (wpList P ops Q (⟨some t,.call ⟨.builtin .append,#[x,y],#[T,T2]⟩,ty,pos,aft,none⟩::rest)):=by
 obtain ⟨hu,i,hi,hz,hs1,hby⟩:=EN hT;refine cons ?_;intro a W f s;have hown:W.ownsRow w0.heap.size e 1 r k (l.map dE):=(s.own _ (hm r).mem).1;have hsz:(⟨s0.toArray⟩:ByteArray).size=s0.length:=qG s0;obtain ⟨v',W',hr,ho,hg,hnil⟩:=Lib.run_append_own_string (P:=P) W w0.heap.size T T2 ty e i hu (iH hT2) hi hz hs1 hby r k (l.map dE) hown ⟨s0.toArray⟩ (by rw [hsz];simp only [maxLen];omega) (by rw [hsz];exact hb) s.ext.size;rw [AQ,← List.map_append,hsz] at ho
 have hblk:∀ q,v'.ownBlock=some q→r.ownBlock=some q∨W.heap.size≤q:=by
  have hus:=iH hT2;rcases hown.2 with ⟨rfl,rfl⟩ | ⟨g,cap,cur,rfl,hbg,hgc,hnc,hcm,hcs,htake⟩
  ·intro q hq
   by_cases hm0:s0.length=0
   ·rw [hnil.2 ⟨rfl,by rw [hsz];exact hm0⟩] at hq;cases hq
   ·have h2:=run_append_nil_string (P:=P) W T T2 ty e i (.int .u8 0) hu hus hi hz ⟨s0.toArray⟩ (by omega) (by omega) (by rw [hby,hsz];omega);rw [h2] at hr;injection hr with e1 e2
    rw [← e1] at hq
    right
    have:=Option.some.inj hq;simp at this;omega
  ·intro q hq
   by_cases hroom:k+s0.length≤cap
   ·have hcs':cur.size=cap:=by simpa using hcs
    have h2:=Lib.run_append_room_string (P:=P) W T T2 ty e i hu hus hi hs1 g k cap cur hgc ⟨s0.toArray⟩ (by rw [hsz];exact hroom) (by rw [hsz];omega);rw [h2] at hr;injection hr with e1 e2
    rw [← e1] at hq;exact .inl hq
   ·have h2:=Lib.run_append_grow_string (P:=P) W T T2 ty e i (.int .u8 0) hu hus hi hz ⟨g,0,none⟩ k cap (l.map dE) (by rw [hs1];exact hown.1) (World.ownsRow.cells hown (g:=g) rfl) ⟨s0.toArray⟩ (by omega) (by omega) (by rw [hby,hsz];exact growslice_fits (by omega) (by omega));rw [h2] at hr;injection hr with e1 e2
    rw [← e1] at hq
    right
    have:=Option.some.inj hq;simp at this;omega
 refine dN rfl ?_;unfold Oper.wp execOp;simp only [resolve,invoke,builtin,Sem.run_bind,Sem.run_pure,Result.andThen_ok,List.map_toArray,List.map_cons,List.map_nil,f.ev hx,f.ev hy,hr];refine h v' _ _ (f.put ht _) ?_;have hlt:∀ q,r.ownBlock=some q→w0.heap.size≤q:=fun q hq=>(World.ownsRow.lt hown q hq).1;refine s.upd (hm v') ?_ hg.size (fun q hq hn=>hg.block q hq (fun e=>hn e.symm)) ho hblk;refine Ext.of_below ⟨hg.os.trans s.ext.below.os,hg.tape.trans s.ext.below.tape,hg.output.trans s.ext.below.output,Nat.le_trans s.ext.below.size hg.size,fun q hq=>?_⟩;rw [hg.block q (Nat.lt_of_lt_of_le hq s.ext.size) (fun e=>by have:=hlt q e.symm;omega)];exact s.ext.below.block q hq
theorem Yl.sliceData {b m c:Nat} {ts:Array TypeId} (hc:c≠0) (hx:ev L x=some (.slice (some ⟨b,0,none⟩) m c)):Yl P L H w0 bs ⟨d,.call ⟨.builtin .unsafeSliceData,#[x],ts⟩,ty,pos,aft,g⟩ (.pointer (some ⟨b,0,none⟩)):=.of_run fun ac W f _=>by
 have h1:(Builtin.unsafeSliceData_ ts ty #[.slice (some ⟨b,0,none⟩) m c]).run P W=.ok (.pointer (some ⟨b,0,none⟩)) W:=by
  have e:Builtin.unsafeSliceData_ ts ty #[.slice (some ⟨b,0,none⟩) m c]=(if c≠0 then pure (.pointer (some ⟨b,0,none⟩)) else do
   if (← viewAt b).isSome then pure (.pointer (some ⟨b,0,none⟩)) else pure (.pointer (some ⟨← newObj (.view ⟨b,0,none⟩ (← elemOf ty)),0,none⟩))):=rfl
  rw [e,if_pos hc];simp
 unfold execOp;simp only [f x _ hx,resolve,invoke,builtin,Sem.run_bind,Sem.run_pure,Result.andThen_ok,List.map_toArray,List.map_cons,List.map_nil,h1]
theorem At.us {e pt it:TypeId} {b c k:Nat} {l:List UInt8} {z:Int} (hp:DQ P pt=some (e,k)) (hc1:P.cellsOf e=1) (hm:Res.row e 1 (.slice (some ⟨b,0,none⟩) l.length c) l.length (l.map dE)∈bs) (h0:l≠[]) (h63:l.length≤9223372036854775807) (hx:ev L x=some (.pointer (some ⟨b,0,none⟩))) (hy:ev L y=some (.int .i64 z)) (hz:z=(l.length:Nat)) (ht:Nat.blt t n=true)
 (h:At dfs n ((t,.string ⟨l.toArray⟩)::L) H w0 [] (wpList P ops Q rest)):At dfs n L H w0 bs (wpList P ops Q (⟨some t,.call ⟨.builtin .unsafeString,#[x,y],#[pt,it]⟩,ty,pos,aft,none⟩::rest)):=by
 subst hz;refine cons ?_;intro a W f s;obtain ⟨hu,j,hj,hjs⟩:=rO hp;have hown:=(s.own _ hm).1;have hH:=(s.own _ hm).2 b rfl;obtain ⟨_,⟨h1,_⟩ | ⟨g,cap,cur,e1,hg,hc,hn,hcm,hcs,htk⟩⟩:=hown
 ·cases h1
 injection e1 with e2 e3 e4
 obtain rfl:b=g:=by injection (Option.some.inj e2)
 have hcells:=World.ownsRow.cells (s.own _ hm).1 (g:=b) rfl;have hcs':cur.size=cap:=by simpa using hcs
 have hr:=Lib.run_unsafeString_row (P:=P) W pt it ty e hu hc1 b cur.size (by simp [World.shape?,hc]) l h0 (by omega) h63 (fun q u hq=>hcells q _ (by rw [List.getElem?_map,hq];rfl));have hl0:l.length≠0:=by simpa using h0
 refine dN rfl ?_;unfold Oper.wp execOp;simp only [resolve,invoke,builtin,Sem.run_bind,Sem.run_pure,Result.andThen_ok,List.map_toArray,List.map_cons,List.map_nil,f.ev hx,f.ev hy,hr];refine h _ _ (f.put ht _) ?_
 have hk:∀ q,q≠b→(W.freeze ⟨b,0,none⟩ l.length).heap[q]? = W.heap[q]? := fun q hq=>by
  unfold World.freeze;rw [if_neg hl0];show (W.heap.modify b _)[q]? = _;rw [Array.getElem?_modify,if_neg (Ne.symm hq)]
 have hsz:(W.freeze ⟨b,0,none⟩ l.length).heap.size=W.heap.size:=by unfold World.freeze;rw [if_neg hl0];simp
 have hx:=s.ext.below;have h5:(W.freeze ⟨b,0,none⟩ l.length).os=W.os∧(W.freeze ⟨b,0,none⟩ l.length).tape=W.tape∧(W.freeze ⟨b,0,none⟩ l.length).output=W.output:=by unfold World.freeze;rw [if_neg hl0];exact ⟨rfl,rfl,rfl⟩
 refine ⟨Ext.of_below ⟨h5.1.trans hx.os,h5.2.1.trans hx.tape,h5.2.2.trans hx.output,by rw [hsz];exact hx.size,fun q hq=>?_⟩,fun q o hq=>?_,(fun _ h=>by cases h),.nil⟩
 ·rw [hk q (by omega)];exact hx.block q hq
 ·rw [hk q (fun e=>by rw [e,hH] at hq;cases hq)];exact s.agr q o hq
theorem St.pickT {W:World} {hd tl hd':List Res} (s:St H w0 (hd++tl) W) (ix:List Nat) (hn:dT ix=true) (hm:ix.map (fun i=>hd[i]?)=hd'.map some):St H w0 (hd'++tl) W:=by
 have hlt:∀ i x,hd[i]? = some x→(hd++tl)[i]? = some x:=fun i x e=>by
  rw [List.getElem?_append_left (List.getElem?_eq_some_iff.1 e).1];exact e
 have key:∀ (ix:List Nat) (hd':List Res),dT ix=true→ix.map (fun i=>hd[i]?)=hd'.map some→(∀ x∈hd',∃ i∈ix,hd[i]? = some x)∧(hd'++tl).Pairwise Res.apart:=by
  intro ix;induction ix with
  | nil =>
   intro hd' _ hm;cases hd' with
   | nil=>exact ⟨fun x hx=>(by cases hx),(List.pairwise_append.1 s.apart).2.1⟩
   | cons a r=>simp at hm
  | cons i r ih =>
   intro hd' hn hm;cases hd' with
   | nil=>simp at hm
   | cons a q =>
    simp only [List.map_cons,List.cons.injEq] at hm;simp only [dT,Bool.and_eq_true,Bool.not_eq_true'] at hn;obtain ⟨h1,h2⟩:=ih q hn.2 hm.2;refine ⟨fun x hx=>?_,?_⟩
    ·rcases List.mem_cons.1 hx with rfl | hx
     ·exact ⟨i,.head _,hm.1⟩
     ·obtain ⟨j,hj,e⟩:=h1 x hx;exact ⟨j,.tail _ hj,e⟩
    ·rw [List.cons_append,List.pairwise_cons];refine ⟨fun y hy=>?_,h2⟩;rcases List.mem_append.1 hy with hy | hy
     ·obtain ⟨j,hj,e⟩:=h1 y hy;refine sK s.apart (hlt _ _ hm.1) (hlt _ _ e) fun h=>?_;subst h;have:=hn.1;simp [hj] at this
     ·exact (List.pairwise_append.1 s.apart).2.2 a (List.mem_of_getElem? hm.1) y hy
 obtain ⟨h1,h2⟩:=key ix hd' hn hm;refine ⟨s.ext,s.agr,fun x hx=>?_,h2⟩;rcases List.mem_append.1 hx with hx | hx
 ·obtain ⟨i,_,e⟩:=h1 x hx;exact s.own x (List.mem_append_left _ (List.mem_of_getElem? e))
 ·exact s.own x (List.mem_append_right _ hx)
theorem At.pt {G:Act→World→Prop} {hd tl hd':List Res} (ix:List Nat) (hn:dT ix=true) (hm:ix.map (fun i=>hd[i]?)=hd'.map some) (h:At dfs n L H w0 (hd'++tl) G):At dfs n L H w0 (hd++tl) G:=fun a W f s=>h a W f (s.pickT ix hn hm)
theorem At.mk {e:TypeId} {v0:Value} {bytes m:Nat} {kl kc:IntKind} {i j:Int} (hT:gN P T=some (e,1,bytes)) (hz0:dS P e=some [v0]) (hx:ev L x=some (.int kl i)) (hy:ev L y=some (.int kc j)) (hi:i=(m:Int)) (hj:j=(m:Int)) (hb:bytes * m≤281474976710656) (h63:m≤9223372036854775807) (ht:Nat.blt t n=true)
 (h:∀ b,At dfs n ((t,.slice (some ⟨b,0,none⟩) m m)::L) H w0 (.box b (List.replicate m v0) e::bs) (wpList P ops Q rest)):At dfs n L H w0 bs (wpList P ops Q (⟨some t,.makeSlice T x y,ty,pos,aft,none⟩::rest)):=by
 subst hi hj;obtain ⟨hu,q,z,hq,hz,hsz,hby,hzs,h0⟩:=lR hT
 have hz1:z.cells.toList=[v0]:=by
  have h2:=hz0;unfold dS at h2;rw [hq] at h2;simp only [Option.bind_some,hz,Option.map_some,Option.some.injEq] at h2;exact h2
 refine cons ?_;intro a W f s;refine dN rfl ?_
 have hbz:(q.bytes:Int) * (m:Int)≤281474976710656:=by
  have h5:((q.bytes * m:Nat):Int)≤281474976710656:=by rw [hby];omega
  rwa [Int.natCast_mul] at h5
 have hr:=run_make (P:=P) W T e q z hu hq hz kl kc m m (by omega) (Int.le_refl _) hbz (by omega)
 have hcs:madeCells z.cells (((m:Int)).toNat * q.size)=(List.replicate m v0).toArray:=by
  have e1:z.cells=#[v0]:=by rw [← Array.toArray_toList (xs:=z.cells),hz1]
  rw [e1,hsz,Int.toNat_natCast,Nat.mul_one];apply Array.ext
  ·simp [madeCells]
  ·intro i h1 h2;simp [madeCells,Nat.mod_one]
 rw [hcs,Int.toNat_natCast] at hr;unfold Oper.wp execOp;simp only [Sem.run_bind,Sem.run_pure,Result.andThen_ok,f.ev hx,f.ev hy,hr];exact h _ _ _ (f.put ht _) (s.alloc _ _)
end
theorem dt {p:Prop} [Decidable p]:(decide p=true)=p:=decide_eq_true_eq
theorem df {p:Prop} [Decidable p]:(decide p=false)=¬ p:=propext decide_eq_false_iff_not
theorem nb {a b:Nat} (h:Nat.ble a b=true):a≤b:=Nat.le_of_ble_eq_true h
theorem z0 {l:List Value}:∀ (j:Nat) u,l[j]? = some u→l[0+j]? = some u:=fun j u h=>by rw [Nat.zero_add];exact h
theorem w6 {i:Int} (h:-9223372036854775808≤i∧i≤9223372036854775807):IntKind.i64.wrap i=i:=w64 h.1 h.2
section
variable {dfs:List Deferred} {P:Program} {n:Nat} {L:Sl} {H:Hp} {w0:World} {bs:List Res} {Q:Exit→Act→World→Prop} {ops:Array Oper}
theorem At.nt {K:Act→World→Prop} (h:At dfs n L H w0 bs K):At dfs n L H w0 bs (wpList P ops (Exit.then K Q) []):=.nl (.tN h)
theorem At.sr {id:Nat} {l:List Oper} {y:Code} (h:At dfs n L H w0 bs (wpList P l.toArray (Exit.then (y.wp P Q) Q) l)):At dfs n L H w0 bs ((Code.seq (Code.region id l.toArray false) y).wp P Q):=.sq (.rg h)
theorem At.ns {Q':Exit→Act→World→Prop} {id:Nat} {l:List Oper} {y:Code} (h:At dfs n L H w0 bs (wpList P l.toArray (Exit.then (y.wp P Q') Q') l)):At dfs n L H w0 bs (wpList P ops (Exit.then ((Code.seq (Code.region id l.toArray false) y).wp P Q') Q) []):=.nl (.tN (.sq (.rg h)))
end
end Go.Sx

namespace Go.Sx
open Go.RowKit Go.Par
section
variable {dfs:List Deferred} {P:Program} {L:Sl} {H H':Hp} {w0:World} {bs bs':List Res} {ty:TypeId} {pos:String} {aft:Array Edge} {t:Tmp} {op:Op} {ops:Array Oper} {N hn i n j:Nat} {pa:List (Nat × Oper × Value)} {E:Sl→Hp→List Res→Prop} {r:List (Nat × Nat × Oper)} {rest:List Oper} {Q:Exit→Act→World→Prop} {o:Oper} {v:Value} {b c:Bool} {u:Tmp}
theorem St.p1_1 {H:Hp} {w0 W:World} {a0 b0:Res} {tl:List Res} (s:St H w0 (a0::tl) W) (ix:List Nat) (hn:dT ix=true) (hm:ix.map (fun i=>([a0]:List Res)[i]?)=[some b0]):St H w0 (b0::tl) W:=s.pickT (hd:=[a0]) (hd':=[b0]) ix hn hm
theorem St.p2_0 {H:Hp} {w0 W:World} {a0 a1:Res} {tl:List Res} (s:St H w0 (a0::a1::tl) W) (ix:List Nat) (hn:dT ix=true) (hm:ix.map (fun i=>([a0,a1]:List Res)[i]?)=[]):St H w0 (tl) W:=s.pickT (hd:=[a0,a1]) (hd':=[]) ix hn hm
theorem St.p2_1 {H:Hp} {w0 W:World} {a0 a1 b0:Res} {tl:List Res} (s:St H w0 (a0::a1::tl) W) (ix:List Nat) (hn:dT ix=true) (hm:ix.map (fun i=>([a0,a1]:List Res)[i]?)=[some b0]):St H w0 (b0::tl) W:=s.pickT (hd:=[a0,a1]) (hd':=[b0]) ix hn hm
theorem St.p2_2 {H:Hp} {w0 W:World} {a0 a1 b0 b1:Res} {tl:List Res} (s:St H w0 (a0::a1::tl) W) (ix:List Nat) (hn:dT ix=true) (hm:ix.map (fun i=>([a0,a1]:List Res)[i]?)=[some b0,some b1]):St H w0 (b0::b1::tl) W:=s.pickT (hd:=[a0,a1]) (hd':=[b0,b1]) ix hn hm
theorem St.p3_0 {H:Hp} {w0 W:World} {a0 a1 a2:Res} {tl:List Res} (s:St H w0 (a0::a1::a2::tl) W) (ix:List Nat) (hn:dT ix=true) (hm:ix.map (fun i=>([a0,a1,a2]:List Res)[i]?)=[]):St H w0 (tl) W:=s.pickT (hd:=[a0,a1,a2]) (hd':=[]) ix hn hm
theorem St.p3_1 {H:Hp} {w0 W:World} {a0 a1 a2 b0:Res} {tl:List Res} (s:St H w0 (a0::a1::a2::tl) W) (ix:List Nat) (hn:dT ix=true) (hm:ix.map (fun i=>([a0,a1,a2]:List Res)[i]?)=[some b0]):St H w0 (b0::tl) W:=s.pickT (hd:=[a0,a1,a2]) (hd':=[b0]) ix hn hm
theorem St.p3_2 {H:Hp} {w0 W:World} {a0 a1 a2 b0 b1:Res} {tl:List Res} (s:St H w0 (a0::a1::a2::tl) W) (ix:List Nat) (hn:dT ix=true) (hm:ix.map (fun i=>([a0,a1,a2]:List Res)[i]?)=[some b0,some b1]):St H w0 (b0::b1::tl) W:=s.pickT (hd:=[a0,a1,a2]) (hd':=[b0,b1]) ix hn hm
theorem St.p3_3 {H:Hp} {w0 W:World} {a0 a1 a2 b0 b1 b2:Res} {tl:List Res} (s:St H w0 (a0::a1::a2::tl) W) (ix:List Nat) (hn:dT ix=true) (hm:ix.map (fun i=>([a0,a1,a2]:List Res)[i]?)=[some b0,some b1,some b2]):St H w0 (b0::b1::b2::tl) W:=s.pickT (hd:=[a0,a1,a2]) (hd':=[b0,b1,b2]) ix hn hm
theorem St.p4_2 {H:Hp} {w0 W:World} {a0 a1 a2 a3 b0 b1:Res} {tl:List Res} (s:St H w0 (a0::a1::a2::a3::tl) W) (ix:List Nat) (hn:dT ix=true) (hm:ix.map (fun i=>([a0,a1,a2,a3]:List Res)[i]?)=[some b0,some b1]):St H w0 (b0::b1::tl) W:=s.pickT (hd:=[a0,a1,a2,a3]) (hd':=[b0,b1]) ix hn hm
theorem St.p4_3 {H:Hp} {w0 W:World} {a0 a1 a2 a3 b0 b1 b2:Res} {tl:List Res} (s:St H w0 (a0::a1::a2::a3::tl) W) (ix:List Nat) (hn:dT ix=true) (hm:ix.map (fun i=>([a0,a1,a2,a3]:List Res)[i]?)=[some b0,some b1,some b2]):St H w0 (b0::b1::b2::tl) W:=s.pickT (hd:=[a0,a1,a2,a3]) (hd':=[b0,b1,b2]) ix hn hm
theorem St.p4_4 {H:Hp} {w0 W:World} {a0 a1 a2 a3 b0 b1 b2 b3:Res} {tl:List Res} (s:St H w0 (a0::a1::a2::a3::tl) W) (ix:List Nat) (hn:dT ix=true) (hm:ix.map (fun i=>([a0,a1,a2,a3]:List Res)[i]?)=[some b0,some b1,some b2,some b3]):St H w0 (b0::b1::b2::b3::tl) W:=s.pickT (hd:=[a0,a1,a2,a3]) (hd':=[b0,b1,b2,b3]) ix hn hm
theorem St.p5_2 {H:Hp} {w0 W:World} {a0 a1 a2 a3 a4 b0 b1:Res} {tl:List Res} (s:St H w0 (a0::a1::a2::a3::a4::tl) W) (ix:List Nat) (hn:dT ix=true) (hm:ix.map (fun i=>([a0,a1,a2,a3,a4]:List Res)[i]?)=[some b0,some b1]):St H w0 (b0::b1::tl) W:=s.pickT (hd:=[a0,a1,a2,a3,a4]) (hd':=[b0,b1]) ix hn hm
theorem St.p5_3 {H:Hp} {w0 W:World} {a0 a1 a2 a3 a4 b0 b1 b2:Res} {tl:List Res} (s:St H w0 (a0::a1::a2::a3::a4::tl) W) (ix:List Nat) (hn:dT ix=true) (hm:ix.map (fun i=>([a0,a1,a2,a3,a4]:List Res)[i]?)=[some b0,some b1,some b2]):St H w0 (b0::b1::b2::tl) W:=s.pickT (hd:=[a0,a1,a2,a3,a4]) (hd':=[b0,b1,b2]) ix hn hm
theorem St.p5_4 {H:Hp} {w0 W:World} {a0 a1 a2 a3 a4 b0 b1 b2 b3:Res} {tl:List Res} (s:St H w0 (a0::a1::a2::a3::a4::tl) W) (ix:List Nat) (hn:dT ix=true) (hm:ix.map (fun i=>([a0,a1,a2,a3,a4]:List Res)[i]?)=[some b0,some b1,some b2,some b3]):St H w0 (b0::b1::b2::b3::tl) W:=s.pickT (hd:=[a0,a1,a2,a3,a4]) (hd':=[b0,b1,b2,b3]) ix hn hm
theorem St.p5_5 {H:Hp} {w0 W:World} {a0 a1 a2 a3 a4 b0 b1 b2 b3 b4:Res} {tl:List Res} (s:St H w0 (a0::a1::a2::a3::a4::tl) W) (ix:List Nat) (hn:dT ix=true) (hm:ix.map (fun i=>([a0,a1,a2,a3,a4]:List Res)[i]?)=[some b0,some b1,some b2,some b3,some b4]):St H w0 (b0::b1::b2::b3::b4::tl) W:=s.pickT (hd:=[a0,a1,a2,a3,a4]) (hd':=[b0,b1,b2,b3,b4]) ix hn hm
theorem St.p6_3 {H:Hp} {w0 W:World} {a0 a1 a2 a3 a4 a5 b0 b1 b2:Res} {tl:List Res} (s:St H w0 (a0::a1::a2::a3::a4::a5::tl) W) (ix:List Nat) (hn:dT ix=true) (hm:ix.map (fun i=>([a0,a1,a2,a3,a4,a5]:List Res)[i]?)=[some b0,some b1,some b2]):St H w0 (b0::b1::b2::tl) W:=s.pickT (hd:=[a0,a1,a2,a3,a4,a5]) (hd':=[b0,b1,b2]) ix hn hm
theorem St.p6_5 {H:Hp} {w0 W:World} {a0 a1 a2 a3 a4 a5 b0 b1 b2 b3 b4:Res} {tl:List Res} (s:St H w0 (a0::a1::a2::a3::a4::a5::tl) W) (ix:List Nat) (hn:dT ix=true) (hm:ix.map (fun i=>([a0,a1,a2,a3,a4,a5]:List Res)[i]?)=[some b0,some b1,some b2,some b3,some b4]):St H w0 (b0::b1::b2::b3::b4::tl) W:=s.pickT (hd:=[a0,a1,a2,a3,a4,a5]) (hd':=[b0,b1,b2,b3,b4]) ix hn hm
theorem St.p6_6 {H:Hp} {w0 W:World} {a0 a1 a2 a3 a4 a5 b0 b1 b2 b3 b4 b5:Res} {tl:List Res} (s:St H w0 (a0::a1::a2::a3::a4::a5::tl) W) (ix:List Nat) (hn:dT ix=true) (hm:ix.map (fun i=>([a0,a1,a2,a3,a4,a5]:List Res)[i]?)=[some b0,some b1,some b2,some b3,some b4,some b5]):St H w0 (b0::b1::b2::b3::b4::b5::tl) W:=s.pickT (hd:=[a0,a1,a2,a3,a4,a5]) (hd':=[b0,b1,b2,b3,b4,b5]) ix hn hm
theorem St.p7_7 {H:Hp} {w0 W:World} {a0 a1 a2 a3 a4 a5 a6 b0 b1 b2 b3 b4 b5 b6:Res} {tl:List Res} (s:St H w0 (a0::a1::a2::a3::a4::a5::a6::tl) W) (ix:List Nat) (hn:dT ix=true) (hm:ix.map (fun i=>([a0,a1,a2,a3,a4,a5,a6]:List Res)[i]?)=[some b0,some b1,some b2,some b3,some b4,some b5,some b6]):St H w0 (b0::b1::b2::b3::b4::b5::b6::tl) W:=s.pickT (hd:=[a0,a1,a2,a3,a4,a5,a6]) (hd':=[b0,b1,b2,b3,b4,b5,b6]) ix hn hm
end
end Go.Sx
namespace Go.Proofs.YthhoebdlfjffkaaGreatDoor
open Go.RowKit Go.Par Go.Sx
abbrev Str:=List UInt8
def aD (l:Str):Value:=.string ⟨l.toArray⟩
inductive Ex where
 | mk (op:UInt8) (nm:Str) (n:Int64) (args:List Ex)
inductive Sm where
 | mk (kind:UInt8) (nm hd:Str) (ex:List Ex) (th el:List Sm)
def Ex.op:Ex→UInt8 | .mk op _ _ _=>op
def Ex.args:Ex→List Ex | .mk _ _ _ args=>args
mutual
def dEx (k:IntKind):Ex→D
 | .mk op nm n args=>.str [.val (.int k op.toNat),.val (aD nm),.val (.int .i64 n.toInt),.seq 4 (RG k args)]
def RG (k:IntKind):List Ex→List D
 | []=>[]
 | e::r=>dEx k e::RG k r
end
theorem CV (k:IntKind):∀ l,RG k l=l.map (dEx k)
 | []=>rfl
 | e::r=>by rw [RG,CV k r];rfl
theorem NU (k:IntKind) (op:UInt8) (nm:Str) (n:Int64) (args:List Ex):dEx k (.mk op nm n args)=.str [.val (.int k op.toNat),.val (aD nm),.val (.int .i64 n.toInt),.seq 4 (args.map (dEx k))]:=by rw [dEx,CV]
mutual
def dSm (k:IntKind):Sm→D
 | .mk kd nm hd ex th el=>.str [.val (.int k kd.toNat),.val (aD nm),.val (aD hd),.seq 4 (ex.map (dEx k)),.seq 6 (NS k th),.seq 6 (NS k el)]
def NS (k:IntKind):List Sm→List D
 | []=>[]
 | e::r=>dSm k e::NS k r
end
theorem vS (k:IntKind):∀ l,NS k l=l.map (dSm k)
 | []=>rfl
 | e::r=>by rw [NS,vS k r];rfl
theorem NT (k:IntKind) (kd:UInt8) (nm hd:Str) (ex:List Ex) (th el:List Sm):dSm k (.mk kd nm hd ex th el)=.str [.val (.int k kd.toNat),.val (aD nm),.val (aD hd),.seq 4 (ex.map (dEx k)),.seq 6 (th.map (dSm k)),.seq 6 (el.map (dSm k))]:=by rw [dSm,vS,vS]
theorem Ex.ind {C:Ex→Prop} (h:∀ op nm n args,(∀ a∈args,C a)→C (.mk op nm n args)):∀ e,C e
 | .mk op nm n args=>h op nm n args fun a ha=>Ex.ind h a
termination_by e=>SizeOf.sizeOf e
decreasing_by
 have:=List.sizeOf_lt_of_mem ha;simp;omega
theorem Sm.ind {C:Sm→Prop} (h:∀ kd nm hd ex th el,(∀ a∈th,C a)→(∀ a∈el,C a)→C (.mk kd nm hd ex th el)):∀ e,C e
 | .mk kd nm hd ex th el=>h kd nm hd ex th el (fun a ha=>Sm.ind h a) (fun a ha=>Sm.ind h a)
termination_by e=>SizeOf.sizeOf e
decreasing_by
 all_goals
  have:=List.sizeOf_lt_of_mem ha;simp;omega
structure Hd where
 nm:Str
 ps:List Str
 body:List Sm
structure Vr where
 nm:Str
 ty:UInt8
 init:Int64
structure Cp where
 nm:Str
 vars:List Vr
 vers:List (List Hd)
structure Fg where
 nm:Str
 init:Bool
structure Lk where
 fr:Str
 to:Str
 lat:Int64
structure Ft where
 nm:Str
 flags:List Fg
 links:List Lk
 comps:List Cp
def iV (s:Str):D:=.val (aD s)
def vR (s:Str):D:=.any (aD s)
def dHd (k:IntKind) (h:Hd):D:=.str [.val (aD h.nm),.seq 1 (h.ps.map iV),.seq 6 (h.body.map (dSm k))]
def dVr (k:IntKind) (v:Vr):D:=.str [.val (aD v.nm),.val (.int k v.ty.toNat),.val (.int .i64 v.init.toInt)]
def dVs (k:IntKind) (v:List Hd):D:=.seq 3 (v.map (dHd k))
def dCp (k:IntKind) (c:Cp):D:=.str [.val (aD c.nm),.seq 3 (c.vars.map (dVr k)),.seq 1 (c.vers.map (dVs k))]
def dFg (f:Fg):D:=.str [.val (aD f.nm),.val (.bool f.init)]
def dLk (l:Lk):D:=.str [.val (aD l.fr),.val (aD l.to),.val (.int .i64 l.lat.toInt)]
def dFt (k:IntKind) (f:Ft):D:=.str [.val (aD f.nm),.seq 2 (f.flags.map dFg),.seq 3 (f.links.map dLk),.seq 3 (f.comps.map (dCp k))]
/-! ### Structs opened and shut -/
section
variable {H:Hp}
theorem TF {v:Value} (h:v.oneCell'=true) (k:okV v):Rep H (.val v) [v]:=by unfold Rep;exact ⟨rfl,h,k⟩
theorem okS {l:Str}:okV (aD l)↔l.length≤1000000:=by simp [okV,aD,ByteArray.size]
theorem dR {d:D} {ds:List D} {l:List Value}:iP H (d::ds) l↔∃ x y,l=x++y∧Rep H d x∧iP H ds y:=by
 constructor
 ·intro h;unfold iP at h;exact h
 ·intro h;unfold iP;exact h
theorem cY {l:List Value}:iP H [] l↔l=[]:=by
 constructor
 ·intro h;unfold iP at h;exact h
 ·intro h;unfold iP;exact h
theorem jP {ds:List D} {l:List Value}:Rep H (.str ds) l↔iP H ds l:=by
 constructor
 ·intro h;unfold Rep at h;exact h
 ·intro h;unfold Rep;exact h
theorem aR {v:Value} {ds:List D} {l:List Value}:iP H (.val v::ds) l↔∃ y,l=v::y∧v.oneCell'=true∧okV v∧iP H ds y:=by
 rw [dR]
 constructor
 ·rintro ⟨x,y,rfl,hx,hy⟩;unfold Rep at hx;obtain ⟨rfl,h,k⟩:=hx;exact ⟨y,rfl,h,k,hy⟩
 ·rintro ⟨y,rfl,h,k,hy⟩;exact ⟨[v],y,rfl,TF h k,hy⟩
theorem eL {z:Nat} {es ds:List D} {l:List Value}:iP H (.seq z es::ds) l↔∃ p c y,l=.slice p es.length c::y∧Rep H (.seq z es) [.slice p es.length c]∧iP H ds y:=by
 rw [dR]
 constructor
 ·rintro ⟨x,y,rfl,hx,hy⟩;obtain ⟨p,c,rfl,_⟩:=hx.sl;exact ⟨p,c,y,rfl,hx,hy⟩
 ·rintro ⟨p,c,y,rfl,hx,hy⟩;exact ⟨_,y,rfl,hx,hy⟩
theorem aS {α β:Type} {f:α→β} {l:List α} {k:Nat} (h:k<l.length):(l.map f)[k]? = some (f l[k]):=by simp [h]
theorem bU {k:IntKind} {op:UInt8} {nm:Str} {n:Int64} {args:List Ex} {cs:List Value} (h:Rep H (dEx k (.mk op nm n args)) cs) :
 ∃ p c,cs=[.int k op.toNat,aD nm,.int .i64 n.toInt,.slice p args.length c]∧Rep H (.seq 4 (args.map (dEx k))) [.slice p args.length c]∧nm.length≤1000000:=by
 rw [NU,jP] at h;obtain ⟨_,rfl,_,_,h⟩:=aR.1 h;obtain ⟨_,rfl,_,hn,h⟩:=aR.1 h;obtain ⟨_,rfl,_,_,h⟩:=aR.1 h;obtain ⟨p,c,_,rfl,hs,h⟩:=eL.1 h;rw [cY] at h;subst h;rw [List.length_map] at hs ⊢;exact ⟨p,c,rfl,hs,okS.1 hn⟩
theorem dJ {k:IntKind} {op:UInt8} {nm:Str} {n:Int64} {args:List Ex} {s:Value} (hn:nm.length≤1000000) (h:Rep H (.seq 4 (args.map (dEx k))) [s]) :
 Rep H (dEx k (.mk op nm n args)) [.int k op.toNat,aD nm,.int .i64 n.toInt,s]:=by
 rw [NU,jP];exact aR.2 ⟨_,rfl,rfl,trivial,aR.2 ⟨_,rfl,rfl,okS.2 hn,aR.2 ⟨_,rfl,rfl,trivial,dR.2 ⟨[s],[],rfl,h,cY.2 rfl⟩⟩⟩⟩
theorem gW {k:IntKind} {kd:UInt8} {nm hd:Str} {ex:List Ex} {th el:List Sm} {cs:List Value} (h:Rep H (dSm k (.mk kd nm hd ex th el)) cs) :
 ∃ p c p1 c1 p2 c2,cs=[.int k kd.toNat,aD nm,aD hd,.slice p ex.length c,.slice p1 th.length c1,.slice p2 el.length c2]∧Rep H (.seq 4 (ex.map (dEx k))) [.slice p ex.length c]∧Rep H (.seq 6 (th.map (dSm k))) [.slice p1 th.length c1]∧Rep H (.seq 6 (el.map (dSm k))) [.slice p2 el.length c2]∧nm.length≤1000000∧hd.length≤1000000:=by
 rw [NT,jP] at h;obtain ⟨_,rfl,_,_,h⟩:=aR.1 h;obtain ⟨_,rfl,_,hn,h⟩:=aR.1 h;obtain ⟨_,rfl,_,hm,h⟩:=aR.1 h;obtain ⟨p,c,_,rfl,hs,h⟩:=eL.1 h;obtain ⟨p1,c1,_,rfl,hs1,h⟩:=eL.1 h;obtain ⟨p2,c2,_,rfl,hs2,h⟩:=eL.1 h;rw [cY] at h;subst h;rw [List.length_map] at hs hs1 hs2;exact ⟨p,c,p1,c1,p2,c2,by rw [List.length_map,List.length_map,List.length_map],hs,hs1,hs2,okS.1 hn,okS.1 hm⟩
theorem dB {k:IntKind} {kd:UInt8} {nm hd:Str} {ex:List Ex} {th el:List Sm} {s s1 s2:Value} (hn:nm.length≤1000000) (hm:hd.length≤1000000) (h:Rep H (.seq 4 (ex.map (dEx k))) [s]) (h1:Rep H (.seq 6 (th.map (dSm k))) [s1]) (h2:Rep H (.seq 6 (el.map (dSm k))) [s2]) :
 Rep H (dSm k (.mk kd nm hd ex th el)) [.int k kd.toNat,aD nm,aD hd,s,s1,s2]:=by
 rw [NT,jP];exact aR.2 ⟨_,rfl,rfl,trivial,aR.2 ⟨_,rfl,rfl,okS.2 hn,aR.2 ⟨_,rfl,rfl,okS.2 hm,dR.2 ⟨[s],_,rfl,h,dR.2 ⟨[s1],_,rfl,h1,dR.2 ⟨[s2],[],rfl,h2,cY.2 rfl⟩⟩⟩⟩⟩⟩
theorem kY {k:IntKind} {x:Hd} {cs:List Value} (h:Rep H (dHd k x) cs) :
 ∃ p1 c1 p2 c2,cs=[aD x.nm,.slice p1 x.ps.length c1,.slice p2 x.body.length c2]∧x.nm.length≤1000000∧Rep H (.seq 1 (x.ps.map iV)) [.slice p1 x.ps.length c1]∧Rep H (.seq 6 (x.body.map (dSm k))) [.slice p2 x.body.length c2]:=by
 rw [dHd,jP] at h;obtain ⟨_,rfl,_,k0,h⟩:=aR.1 h;obtain ⟨p1,c1,_,rfl,k1,h⟩:=eL.1 h;obtain ⟨p2,c2,_,rfl,k2,h⟩:=eL.1 h;rw [cY] at h;subst h;exact ⟨p1,c1,p2,c2,by simp,okS.1 k0,(by simpa using k1),(by simpa using k2)⟩
theorem zG {k:IntKind} {x:Hd} (k0:x.nm.length≤1000000) {s1:Value} (k1:Rep H (.seq 1 (x.ps.map iV)) [s1]) {s2:Value} (k2:Rep H (.seq 6 (x.body.map (dSm k))) [s2]):Rep H (dHd k x) [aD x.nm,s1,s2]:=by
 rw [dHd,jP];exact aR.2 ⟨_,rfl,rfl,okS.2 k0,dR.2 ⟨[s1],_,rfl,k1,dR.2 ⟨[s2],_,rfl,k2,cY.2 rfl⟩⟩⟩
theorem mJ {k:IntKind} {x:Vr} {cs:List Value} (h:Rep H (dVr k x) cs) :
 cs=[aD x.nm,.int k x.ty.toNat,.int .i64 x.init.toInt]∧x.nm.length≤1000000:=by
 rw [dVr,jP] at h;obtain ⟨_,rfl,_,k0,h⟩:=aR.1 h;obtain ⟨_,rfl,_,_,h⟩:=aR.1 h;obtain ⟨_,rfl,_,_,h⟩:=aR.1 h;rw [cY] at h;subst h;exact ⟨by simp,okS.1 k0⟩
theorem qE {k:IntKind} {x:Vr} (k0:x.nm.length≤1000000):Rep H (dVr k x) [aD x.nm,.int k x.ty.toNat,.int .i64 x.init.toInt]:=by
 rw [dVr,jP];exact aR.2 ⟨_,rfl,rfl,okS.2 k0,aR.2 ⟨_,rfl,rfl,trivial,aR.2 ⟨_,rfl,rfl,trivial,cY.2 rfl⟩⟩⟩
theorem lA {k:IntKind} {x:Cp} {cs:List Value} (h:Rep H (dCp k x) cs) :
 ∃ p1 c1 p2 c2,cs=[aD x.nm,.slice p1 x.vars.length c1,.slice p2 x.vers.length c2]∧x.nm.length≤1000000∧Rep H (.seq 3 (x.vars.map (dVr k))) [.slice p1 x.vars.length c1]∧Rep H (.seq 1 (x.vers.map (dVs k))) [.slice p2 x.vers.length c2]:=by
 rw [dCp,jP] at h;obtain ⟨_,rfl,_,k0,h⟩:=aR.1 h;obtain ⟨p1,c1,_,rfl,k1,h⟩:=eL.1 h;obtain ⟨p2,c2,_,rfl,k2,h⟩:=eL.1 h;rw [cY] at h;subst h;exact ⟨p1,c1,p2,c2,by simp,okS.1 k0,(by simpa using k1),(by simpa using k2)⟩
theorem tP {k:IntKind} {x:Cp} (k0:x.nm.length≤1000000) {s1:Value} (k1:Rep H (.seq 3 (x.vars.map (dVr k))) [s1]) {s2:Value} (k2:Rep H (.seq 1 (x.vers.map (dVs k))) [s2]):Rep H (dCp k x) [aD x.nm,s1,s2]:=by
 rw [dCp,jP];exact aR.2 ⟨_,rfl,rfl,okS.2 k0,dR.2 ⟨[s1],_,rfl,k1,dR.2 ⟨[s2],_,rfl,k2,cY.2 rfl⟩⟩⟩
theorem qY {x:Fg} {cs:List Value} (h:Rep H (dFg x) cs) :
 cs=[aD x.nm,.bool x.init]∧x.nm.length≤1000000:=by
 rw [dFg,jP] at h;obtain ⟨_,rfl,_,k0,h⟩:=aR.1 h;obtain ⟨_,rfl,_,_,h⟩:=aR.1 h;rw [cY] at h;subst h;exact ⟨by simp,okS.1 k0⟩
theorem zO {x:Fg} (k0:x.nm.length≤1000000):Rep H (dFg x) [aD x.nm,.bool x.init]:=by
 rw [dFg,jP];exact aR.2 ⟨_,rfl,rfl,okS.2 k0,aR.2 ⟨_,rfl,rfl,trivial,cY.2 rfl⟩⟩
theorem oO {x:Lk} {cs:List Value} (h:Rep H (dLk x) cs) :
 cs=[aD x.fr,aD x.to,.int .i64 x.lat.toInt]∧x.fr.length≤1000000∧x.to.length≤1000000:=by
 rw [dLk,jP] at h;obtain ⟨_,rfl,_,k0,h⟩:=aR.1 h;obtain ⟨_,rfl,_,k1,h⟩:=aR.1 h;obtain ⟨_,rfl,_,_,h⟩:=aR.1 h;rw [cY] at h;subst h;exact ⟨by simp,okS.1 k0,okS.1 k1⟩
theorem zA {x:Lk} (k0:x.fr.length≤1000000) (k1:x.to.length≤1000000):Rep H (dLk x) [aD x.fr,aD x.to,.int .i64 x.lat.toInt]:=by
 rw [dLk,jP];exact aR.2 ⟨_,rfl,rfl,okS.2 k0,aR.2 ⟨_,rfl,rfl,okS.2 k1,aR.2 ⟨_,rfl,rfl,trivial,cY.2 rfl⟩⟩⟩
theorem jH {k:IntKind} {x:Ft} {cs:List Value} (h:Rep H (dFt k x) cs) :
 ∃ p1 c1 p2 c2 p3 c3,cs=[aD x.nm,.slice p1 x.flags.length c1,.slice p2 x.links.length c2,.slice p3 x.comps.length c3]∧x.nm.length≤1000000∧Rep H (.seq 2 (x.flags.map dFg)) [.slice p1 x.flags.length c1]∧Rep H (.seq 3 (x.links.map dLk)) [.slice p2 x.links.length c2]∧Rep H (.seq 3 (x.comps.map (dCp k))) [.slice p3 x.comps.length c3]:=by
 rw [dFt,jP] at h;obtain ⟨_,rfl,_,k0,h⟩:=aR.1 h;obtain ⟨p1,c1,_,rfl,k1,h⟩:=eL.1 h;obtain ⟨p2,c2,_,rfl,k2,h⟩:=eL.1 h;obtain ⟨p3,c3,_,rfl,k3,h⟩:=eL.1 h;rw [cY] at h;subst h;exact ⟨p1,c1,p2,c2,p3,c3,by simp,okS.1 k0,(by simpa using k1),(by simpa using k2),(by simpa using k3)⟩
theorem zJ {k:IntKind} {x:Ft} (k0:x.nm.length≤1000000) {s1:Value} (k1:Rep H (.seq 2 (x.flags.map dFg)) [s1]) {s2:Value} (k2:Rep H (.seq 3 (x.links.map dLk)) [s2]) {s3:Value} (k3:Rep H (.seq 3 (x.comps.map (dCp k))) [s3]):Rep H (dFt k x) [aD x.nm,s1,s2,s3]:=by
 rw [dFt,jP];exact aR.2 ⟨_,rfl,rfl,okS.2 k0,dR.2 ⟨[s1],_,rfl,k1,dR.2 ⟨[s2],_,rfl,k2,dR.2 ⟨[s3],_,rfl,k3,cY.2 rfl⟩⟩⟩⟩
theorem nS {k:IntKind} {x:List Hd} {cs:List Value} (h:Rep H (dVs k x) cs):∃ p c,cs=[.slice p x.length c]∧Rep H (.seq 3 (x.map (dHd k))) [.slice p x.length c]:=by
 rw [dVs] at h;obtain ⟨p,c,rfl,_⟩:=h.sl;rw [List.length_map] at h ⊢;exact ⟨p,c,rfl,h⟩
theorem nD {x:Str} {cs:List Value} (h:Rep H (iV x) cs):cs=[aD x]∧x.length≤1000000:=by
 unfold iV Rep at h;exact ⟨h.1,okS.1 h.2.2⟩
theorem HR {x:Str} {cs:List Value} (h:Rep H (vR x) cs):cs=[aD x]:=by
 unfold vR Rep at h;exact h.1
theorem HQ (x:Str):Rep H (vR x) [aD x]:=by unfold vR Rep;exact ⟨rfl,rfl⟩
theorem KW {x:Str} (h:x.length≤1000000):Rep H (iV x) [aD x]:=TF rfl (okS.2 h)
end
end Go.Proofs.YthhoebdlfjffkaaGreatDoor
namespace Go.Proofs.YthhoebdlfjffkaaGreatDoor
mutual
def Ex.depth:Ex→Nat
 | .mk _ _ _ args=>Ex.deeps args+1
def Ex.deeps:List Ex→Nat
 | []=>0
 | e::r=>max (Ex.depth e) (Ex.deeps r)
end
theorem bJ {α:Type} {l:List α} {k:Nat} (h:k<l.length):l.take (k+1)=l.take k++[l[k]]:=by simp
theorem xQ (a b:List Ex):Ex.deeps (a++b)=max (Ex.deeps a) (Ex.deeps b):=by
 induction a with
 | nil=>simp [Ex.deeps]
 | cons e r ih=>simp only [List.cons_append,Ex.deeps,ih];omega
theorem EJ {l:List Ex} {k:Nat} (h:k<l.length):Ex.deeps (l.take (k+1))=max (Ex.deeps (l.take k)) (Ex.depth l[k]):=by
 rw [bJ h,xQ];simp [Ex.deeps]
theorem EI (l:List Ex) (k:Nat):Ex.deeps (l.take k)≤Ex.deeps l:=by
 have:=xQ (l.take k) (l.drop k);rw [List.take_append_drop] at this;omega
theorem sA {l:List Ex} {e:Ex} (h:e∈l):Ex.depth e≤Ex.deeps l:=by
 induction l with
 | nil=>cases h
 | cons a r ih =>
  simp only [Ex.deeps];rcases List.mem_cons.1 h with rfl | h
  ·omega
  ·have:=ih h;omega
theorem NQ {l:List Ex} {k:Nat} (h:k<l.length):Ex.depth l[k]≤Ex.deeps l:=sA (List.getElem_mem h)
theorem fQ (op:UInt8) (nm:Str) (n:Int64) (args:List Ex):Ex.depth (.mk op nm n args)=Ex.deeps args+1:=by rw [Ex.depth]
def Sm.kd:Sm→UInt8 | .mk kd _ _ _ _ _=>kd
def Sm.th:Sm→List Sm | .mk _ _ _ _ th _=>th
def Sm.el:Sm→List Sm | .mk _ _ _ _ _ el=>el
theorem Sm.lists {C:List Sm→Prop} (h:∀ l,(∀ s∈l,C s.th∧C s.el)→C l):∀ l,C l:=by
 have key:∀ s:Sm,C s.th∧C s.el:=fun s=>by
  induction s using Sm.ind with
  | _ kd nm hd ex th el ih1 ih2=>exact ⟨h th fun a ha=>ih1 a ha,h el fun a ha=>ih2 a ha⟩
 exact fun l=>h l fun s _=>key s
mutual
def Sm.depth:Sm→Nat
 | .mk _ _ _ _ th el=>max (Sm.deeps th) (Sm.deeps el)+1
def Sm.deeps:List Sm→Nat
 | []=>0
 | e::r=>max (Sm.depth e) (Sm.deeps r)
end
mutual
def Sm.count:Sm→Nat
 | .mk _ _ _ _ th el=>Sm.counts th+Sm.counts el+1
def Sm.counts:List Sm→Nat
 | []=>0
 | e::r=>Sm.count e+Sm.counts r
end
theorem eU (a b:List Sm):Sm.deeps (a++b)=max (Sm.deeps a) (Sm.deeps b):=by
 induction a with
 | nil=>simp [Sm.deeps]
 | cons e r ih=>simp only [List.cons_append,Sm.deeps,ih];omega
theorem AX {l:List Sm} {k:Nat} (h:k<l.length):Sm.deeps (l.take (k+1))=max (Sm.deeps (l.take k)) (Sm.depth l[k]):=by
 rw [bJ h,eU];simp [Sm.deeps]
theorem AW (l:List Sm) (k:Nat):Sm.deeps (l.take k)≤Sm.deeps l:=by
 have:=eU (l.take k) (l.drop k);rw [List.take_append_drop] at this;omega
theorem eG (a b:List Sm):Sm.counts (a++b)=Sm.counts a+Sm.counts b:=by
 induction a with
 | nil=>simp [Sm.counts]
 | cons e r ih=>simp only [List.cons_append,Sm.counts,ih];omega
theorem yL {l:List Sm} {k:Nat} (h:k<l.length):Sm.counts (l.take (k+1))=Sm.counts (l.take k)+Sm.count l[k]:=by
 rw [bJ h,eG];simp [Sm.counts]
theorem yK (l:List Sm) (k:Nat):Sm.counts (l.take k)≤Sm.counts l:=by
 have:=eG (l.take k) (l.drop k);rw [List.take_append_drop] at this;omega
theorem dM (kd:UInt8) (nm hd:Str) (ex:List Ex) (th el:List Sm):Sm.count (.mk kd nm hd ex th el)=Sm.counts th+Sm.counts el+1:=by rw [Sm.count]
theorem iK (kd:UInt8) (nm hd:Str) (ex:List Ex) (th el:List Sm):Sm.depth (.mk kd nm hd ex th el)=max (Sm.deeps th) (Sm.deeps el)+1:=by rw [Sm.depth]
theorem iL (l:List Sm):l.length≤Sm.counts l:=by
 induction l with
 | nil=>simp
 | cons e r ih =>
  obtain ⟨kd,nm,hd,ex,th,el⟩:=e;simp only [List.length_cons,Sm.counts,dM];omega
end Go.Proofs.YthhoebdlfjffkaaGreatDoor
namespace Go.Proofs.YthhoebdlfjffkaaGreatDoor
open Go.RowKit Go.Par Go.Sx
def iC (c:UInt8):Bool:=(decide (97≤c.toNat) && decide (c.toNat≤122)) || (decide (65≤c.toNat) && decide (c.toNat≤90))
def dW (c:UInt8):Bool:=decide (48≤c.toNat) && decide (c.toNat≤57)
def eE (c:UInt8):Bool:=iC c || dW c || decide (c.toNat=95)
def words:List Str:=[[97,102,116,101,114],[97,108,119,97,121,115],[97,110,100],[97,114,114,105,118,101,115],[98,111,111,108],[99,111,109,112,111,110,101,110,116],[99,111,117,110,116],[100,101,108,101,116,101],[100,111],[101,108,115,101],[101,120,105,115,116,115],[102,97,108,115,101],[102,101,116,99,104],[102,108,97,103],[102,108,101,101,116],[102,111,114,97,108,108],[104,97,115],[105,102],[105,109,112,108,105,101,115],[105,110],[105,110,116],[108,97,116,101,110,99,121],[108,105,110,107],[110,111,116],[110,111,119],[111,110],[111,110,99,101],[111,114],[112,114,101,118,105,111,117,115],[115,101,110,100],[115,105,110,99,101],[115,105,122,101],[115,116,111,112],[115,116,111,114,101],[116,97,98,108,101],[116,114,117,101],[118,97,114],[118,101,114,115,105,111,110],[119,104,105,108,101]]
def symbols:List Str:=[[46,46],[61,61],[33,61],[60,61],[62,61],[45,62],[123],[125],[40],[41],[91],[93],[44],[59],[58],[46],[61],[60],[62],[43],[45],[42],[47],[37],[95]]
def pre (q:UInt8→Bool) (l:Str):Nat:=(l.takeWhile q).length
theorem nF (q:UInt8→Bool) (l:Str):pre q l≤l.length:=by
 unfold pre;induction l with
 | nil=>simp
 | cons a r ih=>rw [List.takeWhile_cons];split <;> simp;omega
theorem BG {q:UInt8→Bool}:∀ {l:Str} {k:Nat} (h:k<l.length),k≤pre q l→q l[k]=true→k+1≤pre q l
 | [],k,h,_,_=>by simp at h
 | a::r,0,h,_,hq=>by
  unfold pre;rw [List.takeWhile_cons];simp at hq;simp [hq]
 | a::r,k+1,h,hk,hq=>by
  unfold pre at hk ⊢;rw [List.takeWhile_cons] at hk ⊢;cases ha:q a with
  | false=>rw [ha] at hk;simp at hk
  | true =>
   rw [ha] at hk;simp at hk hq;have:=BG (l:=r) (k:=k) (by simpa using h) hk hq;unfold pre at this;simp;omega
theorem uM {q:UInt8→Bool}:∀ {l:Str} {k:Nat} (h:k<l.length),k≤pre q l→q l[k]=false→k=pre q l
 | [],k,h,_,_=>by simp at h
 | a::r,0,h,_,hq=>by
  unfold pre;rw [List.takeWhile_cons];simp at hq;simp [hq]
 | a::r,k+1,h,hk,hq=>by
  unfold pre at hk ⊢;rw [List.takeWhile_cons] at hk ⊢;cases ha:q a with
  | false=>rw [ha] at hk;simp at hk
  | true =>
   rw [ha] at hk;simp at hk hq;have:=uM (l:=r) (k:=k) (by simpa using h) hk hq;unfold pre at this;simp;omega
def aJ (l:Str):UInt8 × Nat :=
 let c:=l.headD 0
 if iC c then
  if words.contains (l.take (pre eE l)) then (2,pre eE l) else if pre eE l≤12 then (1,pre eE l) else (5,l.length)
 else if dW c then
  if pre dW l=1∨c≠48 then (3,pre dW l) else (5,l.length)
 else match symbols.find? (fun x=>x.isPrefixOf l) with
  | some x=>(4,x.length)
  | none=>(5,l.length)
def aU (l:Str):Bool:=decide (l≠[]) && (aJ l).1 == 1 && decide ((aJ l).2=l.length)
def mZ (l m:Str):Bool:=decide (m.length≤l.length) && decide (l.take m.length=m)
theorem nM (l m:Str):mZ l m=m.isPrefixOf l:=by
 rw [Bool.eq_iff_iff];simp only [mZ,Bool.and_eq_true,decide_eq_true_eq,List.isPrefixOf_iff_prefix]
 constructor
 ·rintro ⟨_,h⟩;have:=List.take_append_drop m.length l;rw [h] at this;exact ⟨_,this⟩
 ·rintro ⟨t,rfl⟩;simp
theorem eW {α:Type} {l:List α} {k:Nat} (h:k<l.length) (d:α):l.getD k d=l[k]:=by simp [h]
theorem GA {α β:Type} {f:α→β} {l:List α} {k:Nat} (h:k<l.length) (d:α):(l.map f)[k]? = some (f (l.getD k d)):=by simp [h]
structure Shp where
 n:Nat
 nm:Bool
 lv:Nat
 tx:Str
structure Frm where
 nm:Bool
 hd:Bool
 lo:Nat
 hi:Nat
 th:Bool
 el:Bool
def shapes:List Shp:=[⟨0,false,0,[]⟩,⟨0,false,7,[]⟩,⟨0,false,7,[116,114,117,101]⟩,⟨0,false,7,[102,97,108,115,101]⟩,⟨0,false,7,[110,111,119]⟩,⟨0,true,7,[]⟩,⟨1,true,7,[]⟩,⟨1,true,7,[104,97,115,32]⟩,⟨0,true,7,[115,105,122,101,32]⟩,⟨1,false,6,[45]⟩,⟨1,false,6,[110,111,116,32]⟩,⟨2,false,5,[32,42,32]⟩,⟨2,false,5,[32,47,32]⟩,⟨2,false,5,[32,37,32]⟩,⟨2,false,4,[32,43,32]⟩,⟨2,false,4,[32,45,32]⟩,⟨2,false,3,[32,61,61,32]⟩,⟨2,false,3,[32,33,61,32]⟩,⟨2,false,3,[32,60,32]⟩,⟨2,false,3,[32,60,61,32]⟩,⟨2,false,3,[32,62,32]⟩,⟨2,false,3,[32,62,61,32]⟩,⟨2,false,2,[32,97,110,100,32]⟩,⟨2,false,1,[32,111,114,32]⟩]
def forms:List Frm:=[⟨false,false,0,0,false,false⟩,⟨true,false,1,1,false,false⟩,⟨true,false,2,2,false,false⟩,⟨true,false,1,1,false,false⟩,⟨false,false,1,1,true,true⟩,⟨false,false,1,1,true,false⟩,⟨true,true,0,4,false,false⟩,⟨false,true,1,5,false,false⟩,⟨false,false,2,2,false,true⟩,⟨true,false,1,1,false,true⟩,⟨false,false,0,0,false,false⟩]
def jA (s:Shp):List Value:=[.int .i64 (s.n:Nat),.bool s.nm,.int .i64 (s.lv:Nat),aD s.tx]
def pK (s:Frm):List Value:=[.bool s.nm,.bool s.hd,.int .i64 (s.lo:Nat),.int .i64 (s.hi:Nat),.bool s.th,.bool s.el]
def iB (op:UInt8):Bool:=decide (1≤op.toNat) && decide (op.toNat≤23)
def gE (op:UInt8):Bool:=decide (1≤op.toNat) && decide (op.toNat≤10)
def aI (op:UInt8):Shp:=if iB op then shapes.getD op.toNat ⟨0,false,0,[]⟩ else ⟨0,false,0,[]⟩
def aV (op:UInt8):Frm:=if gE op then forms.getD op.toNat ⟨false,false,0,0,false,false⟩ else ⟨false,false,0,0,false,false⟩
theorem zN {α:Type} {f:α→List Value} {z:Nat} (hz:∀ a,(f a).length=z):∀ {l:List α} {i:Nat} (d:α),i<l.length→∀ (j:Nat) u,(f (l.getD i d))[j]? = some u→(l.flatMap f)[i * z+j]? = some u
 | [],i,d,h,j,u,e=>by simp at h
 | a::r,0,d,h,j,u,e=>by
  simp only [List.flatMap_cons,Nat.zero_mul,Nat.zero_add];simp at e;rw [List.getElem?_append_left (List.getElem?_eq_some_iff.1 e).1];exact e
 | a::r,i+1,d,h,j,u,e=>by
  simp only [List.flatMap_cons];rw [List.getElem?_append_right (by rw [hz,Nat.succ_mul];omega),hz,show (i+1) * z+j - z=i * z+j by rw [Nat.succ_mul];omega];exact zN hz d (by simpa using h) j u (by simpa using e)
structure Gl (H:Hp):Prop where
 shapes:dP H 0 0 (shapes.flatMap jA)
 forms:dP H 3 0 (forms.flatMap pK)
 words:dP H 2 0 (words.map aD)
 symbols:dP H 1 0 (symbols.map aD)
theorem Gl.up {H H':Hp} (g:Gl H) (u:Up H H'):Gl H':=⟨g.shapes.up u,g.forms.up u,g.words.up u,g.symbols.up u⟩
mutual
def Ex.all (q:Ex→Bool):Ex→Bool
 | .mk op nm n args=>q (.mk op nm n args) && Ex.alls q args
def Ex.alls (q:Ex→Bool):List Ex→Bool
 | []=>true
 | e::r=>Ex.all q e && Ex.alls q r
end
theorem DA (q:Ex→Bool) (a b:List Ex):Ex.alls q (a++b)=(Ex.alls q a && Ex.alls q b):=by
 induction a with
 | nil=>simp [Ex.alls]
 | cons e r ih=>simp only [List.cons_append,Ex.alls,ih,Bool.and_assoc]
theorem sE {q:Ex→Bool} {l:List Ex} {k:Nat} (h:k<l.length):Ex.alls q (l.take (k+1))=(Ex.alls q (l.take k) && Ex.all q l[k]):=by
 rw [bJ h,DA];simp [Ex.alls]
theorem mH {q:Ex→Bool} {l:List Ex} {k:Nat} (h:k<l.length) (hb:Ex.all q l[k]=false):Ex.alls q l=false:=by
 have h1:=DA q (l.take (k+1)) (l.drop (k+1));rw [List.take_append_drop,sE h,hb] at h1;simpa using h1
theorem eK (q:Ex→Bool) (op:UInt8) (nm:Str) (n:Int64) (args:List Ex):Ex.all q (.mk op nm n args)=(q (.mk op nm n args) && Ex.alls q args):=by rw [Ex.all]
mutual
def Sm.all (q:Sm→Bool):Sm→Bool
 | .mk kd nm hd ex th el=>q (.mk kd nm hd ex th el) && Sm.alls q th && Sm.alls q el
def Sm.alls (q:Sm→Bool):List Sm→Bool
 | []=>true
 | e::r=>Sm.all q e && Sm.alls q r
end
theorem fM (q:Sm→Bool) (a b:List Sm):Sm.alls q (a++b)=(Sm.alls q a && Sm.alls q b):=by
 induction a with
 | nil=>simp [Sm.alls]
 | cons e r ih=>simp only [List.cons_append,Sm.alls,ih,Bool.and_assoc]
theorem uI {q:Sm→Bool} {l:List Sm} {k:Nat} (h:k<l.length):Sm.alls q (l.take (k+1))=(Sm.alls q (l.take k) && Sm.all q l[k]):=by
 rw [bJ h,fM];simp [Sm.alls]
theorem wV {q:Sm→Bool} {l:List Sm} {k:Nat} (h:k<l.length) (hb:Sm.all q l[k]=false):Sm.alls q l=false:=by
 have h1:=fM q (l.take (k+1)) (l.drop (k+1));rw [List.take_append_drop,uI h,hb] at h1;simpa using h1
theorem eQ (q:Sm→Bool) (kd:UInt8) (nm hd:Str) (ex:List Ex) (th el:List Sm):Sm.all q (.mk kd nm hd ex th el)=(q (.mk kd nm hd ex th el) && Sm.alls q th && Sm.alls q el):=by rw [Sm.all]
theorem AY {q:Sm→Bool} {l:List Sm} {k:Nat} (h:k<l.length) (ha:Sm.alls q l=true):Sm.all q l[k]=true:=by
 cases hb:Sm.all q l[k] with
 | true=>rfl
 | false=>rw [wV h hb] at ha;cases ha
def uU:Sm→Bool
 | .mk _ _ _ ex _ _=>ex.all fun x=>decide (x.depth≤1000000)
def iE:Ex→Bool
 | .mk op nm _ _=>!(aI op).nm || aU nm
def dL:Ex→Bool
 | .mk op nm n args=>iB op && decide (args.length=(aI op).n) && ((aI op).nm || decide (nm=[])) && (if op=1 then decide (0≤n.toInt) else decide (n.toInt=0))
def eT (e:Ex):Nat:=if 8<e.depth then 3 else if Ex.all iE e=false then 9 else if Ex.all dL e=false then 6 else 0
def gP:Sm→Bool
 | .mk kd nm hd ex _ _=>(!(aV kd).nm || aU nm) && (!(aV kd).hd || aU hd) && Ex.alls iE ex
def jQ:Sm→Bool
 | .mk kd nm hd ex th el=>gE kd && decide ((aV kd).lo≤ex.length) && decide (ex.length≤(aV kd).hi) && ((aV kd).nm || decide (nm=[])) && ((aV kd).hd || decide (hd=[])) &&
  ((aV kd).th || decide (th.length=0)) && ((aV kd).el || decide (el.length=0)) && Ex.alls dL ex
theorem fJ (kd:UInt8) (nm hd:Str) (ex:List Ex) (th el:List Sm):jQ (.mk kd nm hd ex th el) =
 (!(!gE kd || decide ((ex.length:Int)<((aV kd).lo:Nat)) || decide (((aV kd).hi:Nat)<(ex.length:Int))) && !((!(aV kd).nm && decide (¬ nm=[])) || (!(aV kd).hd && decide (¬ hd=[]))) &&
  !((!(aV kd).th && decide ((0:Int)<th.length)) || (!(aV kd).el && decide ((0:Int)<el.length))) && Ex.alls dL ex):=by
 have h1:decide ((ex.length:Int)<((aV kd).lo:Nat))=!decide ((aV kd).lo≤ex.length):=by rw [Bool.eq_iff_iff];simp
 have h2:decide (((aV kd).hi:Nat)<(ex.length:Int))=!decide (ex.length≤(aV kd).hi):=by rw [Bool.eq_iff_iff];simp
 have h3:decide ((0:Int)<th.length)=!decide (th.length=0):=by rw [Bool.eq_iff_iff];simp only [decide_eq_true_eq,Bool.not_eq_true',decide_eq_false_iff_not];omega
 have h4:decide ((0:Int)<el.length)=!decide (el.length=0):=by rw [Bool.eq_iff_iff];simp only [decide_eq_true_eq,Bool.not_eq_true',decide_eq_false_iff_not];omega
 have h5:decide (¬ nm=[])=!decide (nm=[]):=by simp
 have h6:decide (¬ hd=[])=!decide (hd=[]):=by simp
 rw [jQ,h1,h2,h3,h4,h5,h6];generalize decide ((aV kd).lo≤ex.length)=a1;generalize decide (ex.length≤(aV kd).hi)=a2;generalize decide (th.length=0)=a3;generalize decide (el.length=0)=a4;generalize decide (nm=[])=a5;generalize decide (hd=[])=a6;cases gE kd <;> cases a1 <;> cases a2 <;> cases (aV kd).nm <;> cases a5 <;> cases (aV kd).hd <;> cases a6 <;> cases (aV kd).th <;> cases a3 <;> cases (aV kd).el <;> cases a4 <;> simp
def mY:Sm→Bool
 | .mk _ _ _ ex _ _=>ex.all fun x=>decide (x.depth≤8)
def kQ (h:Hd):Bool:=!(decide (4<h.ps.length) || decide (40<Sm.counts h.body) || decide (8<Sm.deeps h.body)) && Sm.alls mY h.body
def jZ (h:Hd):Bool:=aU h.nm && h.ps.all aU && Sm.alls gP h.body
def kR (h:Hd):Bool:=Sm.alls jQ h.body
def okH (h:Hd):Bool:=decide (Sm.counts h.body≤1000000) && decide (Sm.deeps h.body≤1000000) && Sm.alls uU h.body
def evH (q:Hd→Bool) (f:Ft):Bool:=f.comps.all fun c=>c.vers.all fun v=>v.all q
def gH (v:Vr):Bool:=if v.ty=1 then decide (v.init.toInt≠-9223372036854775808) else if v.ty=2 then decide (v.init.toInt=0∨v.init.toInt=1) else if v.ty=3 then decide (v.init.toInt=0) else false
theorem dC {α:Type} {q:α→Bool} {l:List α} {k:Nat} (h:k<l.length):(l.take (k+1)).all q=((l.take k).all q && q l[k]):=by
 rw [bJ h,List.all_append];simp
theorem bY {α:Type} {q:α→Bool} {l:List α} {k:Nat} (h:k<l.length) (hb:q l[k]=false):l.all q=false:=by
 rw [List.all_eq_false];exact ⟨l[k],List.getElem_mem h,by simp [hb]⟩
theorem kW {α:Type} {q:α→Bool} {l:List α} {k:Nat} (h:k<l.length) (ha:l.all q=true):q l[k]=true:=List.all_eq_true.1 ha _ (List.getElem_mem h)
def lB (q:Hd→Bool) (c:Cp):Bool:=c.vers.all fun v=>v.all q
theorem mU (q:Hd→Bool) (f:Ft):evH q f=f.comps.all (lB q):=rfl
def sU (f:Ft):Bool:=aU f.nm && f.flags.all (fun x=>aU x.nm) && f.links.all (fun x=>aU x.fr && aU x.to) && f.comps.all (fun c=>aU c.nm && c.vars.all fun v=>aU v.nm) && evH jZ f
def lkB (x:Lk):Bool:=decide (1≤x.lat.toInt) && decide (x.lat.toInt≤50)
def lJ (f:Ft):Bool:=f.links.all lkB && f.comps.all (fun c=>c.vars.all gH) && evH kR f
def AS (ks:List Str) (h:Hd):List Str:=wM ks h.nm
def pD (ks:List Str) (v:List Hd):List Str:=v.foldl AS ks
def tH (c:Cp):List Str:=c.vers.foldl pD []
theorem xK {α β:Type} {f:β→α→β} {a:β} {l:List α} {k:Nat} (h:k<l.length):(l.take (k+1)).foldl f a=f ((l.take k).foldl f a) l[k]:=by
 rw [bJ h,List.foldl_append];rfl
def fW (f:Ft):Bool:=decide (1≤f.comps.length) && decide (f.comps.length≤8) && decide (f.flags.length≤8) && decide (f.links.length≤64)
def jO (c:Cp):Bool:=decide (c.vars.length≤8) && decide (1≤c.vers.length) && decide (c.vers.length≤3) && decide ((tH c).length≤8)
def gI (f:Ft):Bool:=fW f && (f.comps.all jO && evH kQ f)
def cU (f:Ft):Nat:=if gI f=false then 3 else if sU f=false then 9 else if lJ f=false then 6 else 0
def opT (least:Nat) (x:Nat × Str):Str:=if x.1<least then [40]++x.2++[41] else x.2
def oZ (lv:Nat):Nat:=if lv=3 then lv+1 else lv
def txt (op:UInt8) (nm:Str) (n:Int64) (ls:List (Nat × Str)):Str :=
 if op=1 then Lib.itoa n.toInt
 else if op=5∨op=8 then (aI op).tx++nm
 else if op=6∨op=7 then (aI op).tx++nm++[91]++(ls.getD 0 (0,[])).2++[93]
 else if op=9∨op=10 then (aI op).tx++opT (aI op).lv (ls.getD 0 (0,[]))
 else if (aI op).n=0 then (aI op).tx
 else opT (oZ (aI op).lv) (ls.getD 0 (0,[]))++(aI op).tx++opT ((aI op).lv+1) (ls.getD 1 (0,[]))
mutual
def Ex.text:Ex→Str
 | .mk op nm n args=>txt op nm n (Ex.texts args)
def Ex.texts:List Ex→List (Nat × Str)
 | []=>[]
 | e::r=>((aI e.op).lv,Ex.text e)::Ex.texts r
end
theorem wQ:∀ l:List Ex,Ex.texts l=l.map fun e=>((aI e.op).lv,Ex.text e)
 | []=>rfl
 | e::r=>by rw [Ex.texts,wQ r];rfl
theorem bD (op:UInt8) (nm:Str) (n:Int64) (args:List Ex):Ex.text (.mk op nm n args)=txt op nm n (args.map fun e=>((aI e.op).lv,Ex.text e)):=by rw [Ex.text,wQ]
theorem cL {α β:Type} {f:α→β} {l:List α} {k:Nat} (h:k<l.length) (d:β):(l.map f).getD k d=f l[k]:=by simp [h]
theorem LB {op:UInt8} (h:iB op=true):aI op=shapes.getD op.toNat ⟨0,false,0,[]⟩:=by rw [aI,h];rfl
theorem PJ {op:UInt8} (h:iB op=true) (h6:op≠6) (h7:op≠7) (h9:op≠9) (h10:op≠10):(aI op).n=0∨(aI op).n=2:=by
 rw [LB h];simp only [iB,Bool.and_eq_true,decide_eq_true_eq] at h;have e:∀ v:UInt8,op≠v→op.toNat≠v.toNat:=fun v hv e=>hv (UInt8.toNat_inj.1 e);have key:∀ i∈List.range 24,i=6∨i=7∨i=9∨i=10∨(shapes.getD i ⟨0,false,0,[]⟩).n=0∨(shapes.getD i ⟨0,false,0,[]⟩).n=2:=by decide
 have h1:op.toNat≠6:=e 6 h6;have h2:op.toNat≠7:=e 7 h7;have h3:op.toNat≠9:=e 9 h9;have h4:op.toNat≠10:=e 10 h10;have:=key op.toNat (List.mem_range.2 (by omega));omega
theorem LC (op:UInt8):(aI op).lv≤7:=by
 unfold aI
 split
 ·rename_i h;simp only [iB,Bool.and_eq_true,decide_eq_true_eq] at h;have key:∀ i∈List.range 24,(shapes.getD i ⟨0,false,0,[]⟩).lv≤7:=by decide
  exact key _ (List.mem_range.2 (by omega))
 ·simp
theorem lO (op:UInt8):(aI op).tx.length≤10:=by
 unfold aI
 split
 ·rename_i h;simp only [iB,Bool.and_eq_true,decide_eq_true_eq] at h;have key:∀ i∈List.range 24,(shapes.getD i ⟨0,false,0,[]⟩).tx.length≤10:=by decide
  exact key _ (List.mem_range.2 (by omega))
 ·simp
theorem jY (k:Nat) (x:Nat × Str):x.2.length≤(opT k x).length∧(opT k x).length≤x.2.length+2:=by unfold opT;split <;> simp <;> omega
def spT:Nat→Str
 | 0=>[]
 | k+1=>spT k++[32,32]
def cO (ind:Nat) (parts:List Str):Str:=spT ind++parts.flatten++[10]
theorem yJ (k:Nat):(spT k).length=2 * k:=by
 induction k with
 | zero=>rfl
 | succ k ih=>simp [spT,ih];omega
theorem xL {l:List Str} {k:Nat} (h:k<l.length):(l.take (k+1)).flatten=(l.take k).flatten++l[k]:=by
 rw [bJ h,List.flatten_append];simp
theorem lK (l:List Str) (k:Nat):(l.take k).flatten.length≤l.flatten.length:=by
 have:=congrArg (fun m:List Str=>m.flatten.length) (List.take_append_drop k l);simp only [List.flatten_append,List.length_append] at this;omega
def iA (l:List Str):Str:=Lib.join l [44,32]
def jL (n:Nat) (first:Str) (noE:Bool) (E:Str):Str:=if noE then cO n [first,[59]] else cO n [first,[32,101,108,115,101,32,123]]++E++cO n [[125]]
def stT (n:Nat) (kd:UInt8) (nm hd:Str) (es:List Str) (T:Str) (noE:Bool) (E:Str):Str :=
 if kd=1 then cO n [nm,[32,61,32],es.getD 0 [],[59]]
 else if kd=2 then cO n [nm,[91],es.getD 0 [],[93,32,61,32],es.getD 1 [],[59]]
 else if kd=3 then cO n [[100,101,108,101,116,101,32],nm,[91],es.getD 0 [],[93,59]]
 else if kd=4 then cO n [[105,102,32],es.getD 0 [],[32,123]]++T++(if noE then [] else cO n [[125,32,101,108,115,101,32,123]]++E)++cO n [[125]]
 else if kd=5 then cO n [[119,104,105,108,101,32],es.getD 0 [],[32,123]]++T++cO n [[125]]
 else if kd=6 then cO n [[115,101,110,100,32],nm,[46],hd,[40],iA es,[41,59]]
 else if kd=7 then cO n [[97,102,116,101,114,32],es.getD 0 [],[32,100,111,32],hd,[40],iA (es.drop 1),[41,59]]
 else if kd=8 then jL n ([115,116,111,114,101,32]++es.getD 0 []++[32,61,32]++es.getD 1 []) noE E
 else if kd=9 then jL n ([102,101,116,99,104,32]++nm++[32,61,32]++es.getD 0 []) noE E
 else if kd=10 then cO n [[115,116,111,112,59]]
 else []
mutual
def Sm.text (n:Nat):Sm→Str
 | .mk kd nm hd ex th el=>stT n kd nm hd (ex.map Ex.text) (Sm.texts (n+1) th) (decide (el.length=0)) (Sm.texts (n+1) el)
def Sm.texts (n:Nat):List Sm→Str
 | []=>[]
 | s::r=>Sm.text n s++Sm.texts n r
end
theorem aE (n:Nat) (kd:UInt8) (nm hd:Str) (ex:List Ex) (th el:List Sm):Sm.text n (.mk kd nm hd ex th el)=stT n kd nm hd (ex.map Ex.text) (Sm.texts (n+1) th) (decide (el.length=0)) (Sm.texts (n+1) el):=by rw [Sm.text]
theorem tZ (n:Nat) (a b:List Sm):Sm.texts n (a++b)=Sm.texts n a++Sm.texts n b:=by
 induction a with
 | nil=>simp [Sm.texts]
 | cons e r ih=>simp only [List.cons_append,Sm.texts,ih,List.append_assoc]
theorem sH {n:Nat} {l:List Sm} {k:Nat} (h:k<l.length):Sm.texts n (l.take (k+1))=Sm.texts n (l.take k)++Sm.text n l[k]:=by
 rw [bJ h,tZ];simp [Sm.texts]
theorem AR (n:Nat) (l:List Sm) (k:Nat):(Sm.texts n (l.take k)).length≤(Sm.texts n l).length:=by
 have:=tZ n (l.take k) (l.drop k);rw [List.take_append_drop] at this;rw [this,List.length_append];omega
def hdT (n:Nat) (h:Hd):Str:=cO n [[111,110,32],h.nm,[40],iA h.ps,[41,32,123]]++Sm.texts (n+1) h.body++cO n [[125]]
def pW (n:Nat) (l:List Hd):Str:=(l.map (hdT n)).flatten
def sS (b:Bool):Str:=if b then [116,114,117,101] else [102,97,108,115,101]
def vrT (n:Nat) (v:Vr):Str:=if v.ty=1 then cO n [[118,97,114,32],v.nm,[58,32,105,110,116,32,61,32],Lib.itoa v.init.toInt,[59]] else if v.ty=2 then cO n [[118,97,114,32],v.nm,[58,32,98,111,111,108,32,61,32],sS (decide (v.init.toInt=1)),[59]] else if v.ty=3 then cO n [[118,97,114,32],v.nm,[58,32,116,97,98,108,101,59]] else []
def vsT (n:Nat) (i:Nat) (v:List Hd):Str:=if i=0 then pW n v else cO n [[118,101,114,115,105,111,110,32],Lib.itoa ((i+1:Nat):Int),[32,123]]++pW (n+1) v++cO n [[125]]
def kP (n:Nat):Nat→List (List Hd)→Str
 | _,[]=>[]
 | i,v::r=>vsT n i v++kP n (i+1) r
def cpT (c:Cp):Str:=cO 1 [[99,111,109,112,111,110,101,110,116,32],c.nm,[32,123]]++(c.vars.map (vrT 2)).flatten++kP 2 0 c.vers++cO 1 [[125]]
def fgT (f:Fg):Str:=cO 1 [[102,108,97,103,32],f.nm,[32,61,32],sS f.init,[59]]
def lkT (l:Lk):Str:=cO 1 [[108,105,110,107,32],l.fr,[32,45,62,32],l.to,[32,108,97,116,101,110,99,121,32],Lib.itoa l.lat.toInt,[59]]
def ftT (f:Ft):Str:=cO 0 [[102,108,101,101,116,32],f.nm,[32,123]]++(f.flags.map fgT).flatten++(f.links.map lkT).flatten++(f.comps.map cpT).flatten++cO 0 [[125]]
theorem eJ {α:Type} {g:α→Str} {l:List α} {k:Nat} (h:k<l.length):((l.take (k+1)).map g).flatten=((l.take k).map g).flatten++g l[k]:=by
 rw [bJ h,List.map_append,List.flatten_append,List.map_cons,List.map_nil,List.flatten_cons,List.flatten_nil,List.append_nil]
theorem kK {α:Type} {g:α→Str} (l:List α) (k:Nat):((l.take k).map g).flatten.length≤(l.map g).flatten.length:=by
 have:=lK (l.map g) k
 rwa [← List.map_take] at this
theorem tT (n:Nat):∀ (a:List (List Hd)) (i:Nat) (b:List (List Hd)),kP n i (a++b)=kP n i a++kP n (i+a.length) b
 | [],i,b=>by simp [kP]
 | v::r,i,b=>by
  simp only [List.cons_append,kP,tT n r (i+1) b,List.append_assoc,List.length_cons];rw [show i+1+r.length=i+(r.length+1) by omega]
theorem rH {n:Nat} {l:List (List Hd)} {k:Nat} (h:k<l.length):kP n 0 (l.take (k+1))=kP n 0 (l.take k)++vsT n k l[k]:=by
 rw [bJ h,tT,List.length_take,Nat.min_eq_left (by omega)];simp [kP]
theorem GW (n:Nat) (l:List (List Hd)) (k:Nat):(kP n 0 (l.take k)).length≤(kP n 0 l).length:=by
 have:=tT n (l.take k) 0 (l.drop k);rw [List.take_append_drop] at this;rw [this,List.length_append];omega
theorem qS (n:Int64):(Lib.itoa n.toInt).length≤21:=Lib.itoa_length_le n.toInt (by have:=n.le_toInt;omega) (by have:=n.toInt_lt;omega)
theorem fZ {l:Str} (h:aU l=true):l.length≤12:=by
 simp only [aU,Bool.and_eq_true,decide_eq_true_eq,beq_iff_eq] at h;obtain ⟨⟨_,h1⟩,h2⟩:=h;unfold aJ at h1 h2;dsimp only at h1 h2
 split at h1
 ·split at h1
  ·simp at h1
  ·split at h1
   ·rename_i a b c;simp only [a,b,c,if_true,Bool.false_eq_true,if_false] at h2;omega
   ·simp at h1
 ·split at h1
  ·split at h1 <;> simp at h1
  ·split at h1 <;> simp at h1
theorem PA (op:UInt8) (nm:Str) (n:Int64) (ls:List (Nat × Str)) (A:Nat) (hA:24≤A) (hn:nm.length≤12) (h:∀ x∈ls,x.2.length≤A):(txt op nm n ls).length≤3 * A:=by
 have hg:∀ i,(ls.getD i (0,[])).2.length≤A:=fun i=>by
  rw [List.getD_eq_getElem?_getD];cases e:ls[i]? with
  | none=>simp
  | some x=>simpa using h x (List.mem_of_getElem? e)
 have h0:=hg 0;have h1:=hg 1;have ht:=lO op;have hi:=qS n;have o1:=jY (aI op).lv (ls.getD 0 (0,[]));have o2:=jY (oZ (aI op).lv) (ls.getD 0 (0,[]));have o3:=jY ((aI op).lv+1) (ls.getD 1 (0,[]));unfold txt
 split
 ·omega
 split
 ·simp only [List.length_append];omega
 split
 ·simp only [List.length_append,List.length_cons,List.length_nil];omega
 split
 ·simp only [List.length_append];omega
 split
 ·omega
 ·simp only [List.length_append];omega
theorem bV {q:Ex→Bool}:∀ {l:List Ex} {a:Ex},a∈l→Ex.alls q l=true→Ex.all q a=true
 | [],a,h,_=>by cases h
 | b::r,a,h,k=>by
  rw [Ex.alls,Bool.and_eq_true] at k;rcases List.mem_cons.1 h with rfl | h
  ·exact k.1
  ·exact bV h k.2
theorem MF {op:UInt8} {nm:Str} {n:Int64} {args:List Ex} (h1:iE (.mk op nm n args)=true) (h2:dL (.mk op nm n args)=true):nm.length≤12:=by
 simp only [iE,Bool.or_eq_true,Bool.not_eq_true'] at h1;simp only [dL,Bool.and_eq_true,Bool.or_eq_true,decide_eq_true_eq] at h2;rcases h1 with h1 | h1
 ·rcases h2.1.2 with h2 | h2
  ·rw [h1] at h2;cases h2
  ·simp [h2]
 ·exact fZ h1
theorem KR (e:Ex):∀ d,e.depth≤d→Ex.all iE e=true→Ex.all dL e=true→e.text.length≤24 * 3 ^ d:=by
 induction e using Ex.ind with | _ op nm n args ih
 intro d hd h1 h2;rw [fQ] at hd;rw [eK,Bool.and_eq_true] at h1 h2;obtain ⟨d,rfl⟩:∃ k,d=k+1:=⟨d - 1,by omega⟩;rw [bD,Nat.pow_succ,show 24 * (3 ^ d * 3)=3 * (24 * 3 ^ d) by omega];have hp:0<3 ^ d:=Nat.pow_pos (by omega);refine PA _ _ _ _ _ (by omega) (MF h1.1 h2.1) fun x hx=>?_;obtain ⟨a,ha,rfl⟩:=List.mem_map.1 hx;have:=sA ha;exact ih a ha d (by omega) (bV ha h1.2) (bV ha h2.2)
theorem HJ {e:Ex} (h:e.depth≤8) (h1:Ex.all iE e=true) (h2:Ex.all dL e=true):e.text.length≤157464:=KR e 8 h h1 h2
def HC:Sm→Bool
 | .mk kd nm hd ex th el=>jQ (.mk kd nm hd ex th el) && ex.all fun x=>decide (x.text.length≤1000000000)
structure Nd where
 op:UInt8
 nm:UInt8
 ct:UInt8
 odd:Bool
 n:Int64
theorem LK {H:Hp} {z b off n c lo:Nat} {ds:List D} (h:Rep H (.seq z ds) [.slice (some ⟨b,off,none⟩) n c]) (hl:lo≤n):Rep H (.seq z (ds.drop lo)) [.slice (some (if c=lo then ⟨b,off,none⟩ else ⟨b,off+lo * z,none⟩)) (n - lo) (c - lo)]:=by
 have hn:=h.len
 by_cases hc:c=lo
 ·rw [if_pos hc];rw [show ds.drop lo=[] from List.drop_of_length_le (by omega),show n - lo=0 by omega];exact .empty (by omega)
 ·rw [if_neg hc];unfold Rep at h;obtain ⟨p',c',h1,h2,h3,h4⟩:=h;injection h1 with h1 _
  injection h1 with h5 h6 h7
  subst h5 h7;rcases h4 with h4 | ⟨b',off',cs,h8,h9,h10⟩
  ·subst h4;rw [List.drop_nil,show n - lo=0 by simp only [List.length_nil] at h6;omega];exact .empty (by omega)
  ·cases h8;exact .mk (h9.drop (lo * z)) (h10.drop lo) (by rw [List.length_drop];omega) (by omega) (by omega)
def mO (e:Ex):Bool:=decide (e.args.length≤3)
theorem oK (op:UInt8) (nm:Str) (n:Int64) (args:List Ex):mO (.mk op nm n args)=decide (args.length≤3):=rfl
def fC (c:UInt8):Bool:=decide (c=32) || decide (c=9) || decide (c=10) || decide (c=13)
def cN:Bool→Str→Str
 | _,[]=>[]
 | true,c::r=>if c=10 then cN false r else cN true r
 | false,c::r=>if fC c then cN false r else if c=47∧r.head? = some 47 then cN true r else c::r
theorem lN (b:Bool):cN b []=[]:=by cases b <;> rfl
theorem IA {c:UInt8} {r:Str} (h:¬ c=10):cN true (c::r)=cN true r:=by rw [cN,if_neg h]
theorem HY (r:Str):cN true (10::r)=cN false (10::r):=by rw [cN,if_pos rfl,cN,if_pos (by decide)]
theorem wT {c:UInt8} {r:Str} (h:fC c=true):cN false (c::r)=cN false r:=by rw [cN,if_pos h]
theorem HX (r:Str):cN false (47::47::r)=cN true (47::47::r):=by simp [cN,fC]
theorem iZ {c:UInt8} {r:Str} (h:fC c=false) (h2:¬ (c=47∧r.head? = some 47)):cN false (c::r)=c::r:=by rw [cN,if_neg (by simp [h]),if_neg h2]
theorem kD:∀ (l:Str) (b:Bool),∃ p,l=p++cN b l
 | [],b=>⟨[],by rw [lN];rfl⟩
 | c::r,true=>by
  rw [cN]
  split
  ·obtain ⟨p,h⟩:=kD r false;exact ⟨c::p,by rw [List.cons_append,← h]⟩
  ·obtain ⟨p,h⟩:=kD r true;exact ⟨c::p,by rw [List.cons_append,← h]⟩
 | c::r,false=>by
  rw [cN]
  split
  ·obtain ⟨p,h⟩:=kD r false;exact ⟨c::p,by rw [List.cons_append,← h]⟩
  ·split
   ·obtain ⟨p,h⟩:=kD r true;exact ⟨c::p,by rw [List.cons_append,← h]⟩
   ·exact ⟨[],rfl⟩
theorem fL (b:Bool) (l:Str):(cN b l).length≤l.length:=by
 obtain ⟨p,h⟩:=kD l b;have:=congrArg List.length h;rw [List.length_append] at this;omega
theorem DK (b:Bool) (l:Str):l.drop (l.length - (cN b l).length)=cN b l:=by
 obtain ⟨p,h⟩:=kD l b;generalize cN b l=q at h;subst h;rw [show (p++q).length - q.length=p.length by rw [List.length_append];omega,List.drop_left]
theorem kE {l:Str} (h:l≠[]):1≤(aJ l).2∧(aJ l).2≤l.length:=by
 match l,h with
 | c::r,_ =>
  have hp:∀ q:UInt8→Bool,q c=true→1≤pre q (c::r):=fun q hq=>by unfold pre;rw [List.takeWhile_cons,hq];simp
  cases h1:iC c with
  | true =>
   have h2:=hp eE (by simp [eE,h1]);have h3:=nF eE (c::r);cases h4:words.contains ((c::r).take (pre eE (c::r))) with
   | true=>simp only [aJ,List.headD_cons,h1,h4,if_true];exact ⟨h2,h3⟩
   | false =>
    by_cases h5:pre eE (c::r)≤12
    ·simp only [aJ,List.headD_cons,h1,h4,h5,if_true,Bool.false_eq_true,if_false];exact ⟨h2,h3⟩
    ·simp only [aJ,List.headD_cons,h1,h4,h5,if_true,Bool.false_eq_true,if_false];simp
  | false =>
   cases h4:dW c with
   | true =>
    have h2:=hp dW h4;have h3:=nF dW (c::r)
    by_cases h5:pre dW (c::r)=1∨c≠48
    ·simp only [aJ,List.headD_cons,h1,h4,h5,if_true,Bool.false_eq_true,if_false];exact ⟨h2,h3⟩
    ·simp only [aJ,List.headD_cons,h1,h4,h5,if_true,Bool.false_eq_true,if_false];simp
   | false =>
    cases hx:symbols.find? (fun x=>x.isPrefixOf (c::r)) with
    | none=>simp only [aJ,List.headD_cons,h1,h4,hx,Bool.false_eq_true,if_false];simp
    | some x =>
     have hm:=List.mem_of_find?_eq_some hx;have hpx:=List.find?_some hx
     have hl:x.length≤(c::r).length:=by
      obtain ⟨t,ht⟩:=List.isPrefixOf_iff_prefix.1 hpx;rw [← ht];simp
     have key:∀ y∈symbols,1≤y.length:=by decide
     simp only [aJ,List.headD_cons,h1,h4,hx,Bool.false_eq_true,if_false];exact ⟨key x hm,hl⟩
theorem IE {c:UInt8} {r:Str} (h:(aJ (c::r)).1=1):iC c=true:=by
 cases h1:iC c with
 | true=>rfl
 | false =>
  cases h4:dW c with
  | true =>
   by_cases h5:pre dW (c::r)=1∨c≠48
   ·simp only [aJ,List.headD_cons,h1,h4,h5,if_true,Bool.false_eq_true,if_false] at h;simp at h
   ·simp only [aJ,List.headD_cons,h1,h4,h5,if_true,Bool.false_eq_true,if_false] at h;simp at h
  | false =>
   cases hx:symbols.find? (fun x=>x.isPrefixOf (c::r)) <;> simp only [aJ,List.headD_cons,h1,h4,hx,Bool.false_eq_true,if_false] at h <;> simp at h
structure Tk where
 k:UInt8
 t:Str
 o:Nat
def dTk (k:IntKind) (x:Tk):D:=.str [.val (.int k x.k.toNat),.val (aD x.t),.val (.int .i64 (x.o:Nat))]
def cTk (k:IntKind) (x:Tk):List Value:=[.int k x.k.toNat,aD x.t,.int .i64 (x.o:Nat)]
theorem FG {H:Hp} {k:IntKind} {x:Tk} {cs:List Value} (h:Rep H (dTk k x) cs):cs=cTk k x∧x.t.length≤1000000:=by
 rw [dTk,jP] at h;obtain ⟨_,rfl,_,_,h⟩:=aR.1 h;obtain ⟨_,rfl,_,k0,h⟩:=aR.1 h;obtain ⟨_,rfl,_,_,h⟩:=aR.1 h;rw [cY] at h;subst h;exact ⟨rfl,okS.1 k0⟩
theorem FF {H:Hp} {k:IntKind} {x:Tk} (h:x.t.length≤1000000):Rep H (dTk k x) (cTk k x):=by
 rw [dTk,jP];exact aR.2 ⟨_,rfl,rfl,trivial,aR.2 ⟨_,rfl,rfl,okS.2 h,aR.2 ⟨_,rfl,rfl,trivial,cY.2 rfl⟩⟩⟩
def oX:Nat→Nat→Str→List Tk
 | 0,_,_=>[]
 | f+1,o,m=>if m=[] then [] else ⟨(aJ m).1,m.take (aJ m).2,o⟩::oX f (o+(m.length - (cN false (m.drop (aJ m).2)).length)) (cN false (m.drop (aJ m).2))
def iS (s:Str):List Tk:=oX (s.length+1) (s.length - (cN false s).length) (cN false s)
theorem iI {f o:Nat} {m:Str} (h:m≠[]):oX (f+1) o m=⟨(aJ m).1,m.take (aJ m).2,o⟩::oX f (o+(m.length - (cN false (m.drop (aJ m).2)).length)) (cN false (m.drop (aJ m).2)):=by rw [oX,if_neg h]
theorem jI (f o:Nat):oX f o []=[]:=by cases f <;> simp [oX]
theorem rJ:∀ (f g o:Nat) (m:Str),m.length<f→m.length<g→oX f o m=oX g o m
 | 0,_,_,_,h,_=>by omega
 | _,0,_,_,_,h=>by omega
 | f+1,g+1,o,m,h,k=>by
  by_cases h0:m=[]
  ·subst h0;rw [jI,jI]
  ·rw [iI h0,iI h0];have hr:=kE h0;have hs:=fL false (m.drop (aJ m).2);rw [List.length_drop] at hs;rw [rJ f g _ _ (by omega) (by omega)]
end Go.Proofs.YthhoebdlfjffkaaGreatDoor
namespace Go.Proofs.YthhoebdlfjffkaaGreatDoor
inductive Rs (α:Type) where
 | ok (a:α) (r:List Tk)
 | er (r:List Tk) (code:Nat)
def Rs.bind {α β:Type} (x:Rs α) (f:α→List Tk→Rs β):Rs β:=match x with | .ok a r=>f a r | .er r c=>.er r c
def isT (w:Str):List Tk→Bool
 | []=>false
 | t::_=>(t.k == 2 || t.k == 4) && decide (t.t=w)
def iM {α:Type} (w:Str) (r:List Tk) (f:List Tk→Rs α):Rs α:=if isT w r then f r.tail else .er r 8
def kV {α:Type} (r:List Tk) (f:Str→List Tk→Rs α):Rs α:=match r with | []=>.er r 8 | t::q=>if t.k=1 then f t.t q else .er r 8
def fG (s:Str):Nat:=s.foldl (fun v c=>10 * v+(c.toNat - 48)) 0
def nG:Nat→List (Str × UInt8)
 | 0=>[([111,114],23)]
 | 1=>[([97,110,100],22)]
 | 2=>[([61,61],16),([33,61],17),([60],18),([60,61],19),([62],20),([62,61],21)]
 | 3=>[([43],14),([45],15)]
 | _=>[([42],11),([47],12),([37],13)]
def opAt (lv:Nat) (r:List Tk):Option UInt8:=((nG lv).find? fun x=>isT x.1 r).map (·.2)
inductive Md where
 | ex (lv:Nat)
 | lp (lv:Nat) (a:Ex)
def opE (op:UInt8) (l:List Ex):Ex:=.mk op [] 0 l
def fS (rec:List Tk→Rs Ex) (r:List Tk):Rs Ex :=
 match r with
 | []=>.er r 8
 | t::q =>
  if t.k=3 then (if fG t.t≤9223372036854775807 then .ok (.mk 1 [] (Int64.ofNat (fG t.t)) []) q else .er r 2)
  else if isT [116,114,117,101] r then .ok (opE 2 []) q
  else if isT [102,97,108,115,101] r then .ok (opE 3 []) q
  else if isT [110,111,119] r then .ok (opE 4 []) q
  else if isT [115,105,122,101] r then kV q fun s r2=>.ok (.mk 8 s 0 []) r2
  else if isT [40] r then (rec q).bind fun x r2=>iM [41] r2 fun r3=>.ok x r3
  else if isT [104,97,115] r then kV q fun s r2=>iM [91] r2 fun r3=>(rec r3).bind fun x r4=>iM [93] r4 fun r5=>.ok (.mk 7 s 0 [x]) r5
  else if t.k=1 then (if isT [91] q then (rec q.tail).bind fun x r4=>iM [93] r4 fun r5=>.ok (.mk 6 t.t 0 [x]) r5 else .ok (.mk 5 t.t 0 []) q)
  else .er r 8
def pE:Nat→Md→List Tk→Rs Ex
 | 0,_,r=>.er r 99
 | f+1,.ex lv,r =>
  if lv<5 then (pE f (.ex (lv+1)) r).bind fun a r1=>pE f (.lp lv a) r1
  else if isT [45] r then (pE f (.ex 5) r.tail).bind fun x r2=>.ok (opE 9 [x]) r2
  else if isT [110,111,116] r then (pE f (.ex 5) r.tail).bind fun x r2=>.ok (opE 10 [x]) r2
  else fS (pE f (.ex 0)) r
 | f+1,.lp lv a,r =>
  match opAt lv r with
  | none=>.ok a r
  | some op=>(pE f (.ex (lv+1)) r.tail).bind fun b r2=>if lv=2 then .ok (opE op [a,b]) r2 else pE f (.lp lv (opE op [a,b])) r2
/-! ### Enough fuel -/
theorem ifC {α:Type} {c:Prop} [Decidable c] {x y u v:α} (h1:x=u) (h2:y=v):(if c then x else y)=(if c then u else v):=by rw [h1,h2]
theorem ifI {α:Type} {c d:Prop} [Decidable c] [Decidable d] {x y:α} (h:c↔d):(if c then x else y)=(if d then x else y):=by
 by_cases e:c
 ·rw [if_pos e,if_pos (h.1 e)]
 ·rw [if_neg e,if_neg (fun k=>e (h.2 k))]
theorem dV {w:Str} {r:List Tk} (h:isT w r=true):r.length=r.tail.length+1:=by cases r with | nil=>cases h | cons t q=>rfl
theorem tD {lv:Nat} {r:List Tk} {op:UInt8} (h:opAt lv r=some op):r.length=r.tail.length+1:=by
 unfold opAt at h;obtain ⟨x,hx,_⟩:=Option.map_eq_some_iff.1 h;exact dV (w:=x.1) (by have:=List.find?_some hx;exact this)
theorem Rs.bind_ok {α β:Type} {x:Rs α} {f:α→List Tk→Rs β} {b:β} {r:List Tk} (h:x.bind f=.ok b r):∃ a q,x=.ok a q∧f a q=.ok b r:=by
 cases x with
 | ok a q=>exact ⟨a,q,rfl,h⟩
 | er q c=>cases h
theorem fY {α:Type} {w:Str} {r:List Tk} {f:List Tk→Rs α} {a:α} {q:List Tk} (h:iM w r f=.ok a q):isT w r=true∧f r.tail=.ok a q:=by
 unfold iM at h
 split at h
 ·rename_i e;exact ⟨e,h⟩
 ·cases h
theorem lV {α:Type} {r:List Tk} {f:Str→List Tk→Rs α} {a:α} {q:List Tk} (h:kV r f=.ok a q):∃ t r',r=t::r'∧t.k=1∧f t.t r'=.ok a q:=by
 unfold kV at h;cases r with
 | nil=>cases h
 | cons t r' =>
  by_cases e:t.k=1
  ·simp only [e,if_true] at h;exact ⟨t,r',rfl,e,h⟩
  ·simp only [e,if_false] at h;cases h
theorem IH {rec:List Tk→Rs Ex} (hr:∀ q a r',rec q=.ok a r'→r'.length≤q.length) {r:List Tk} {a:Ex} {r':List Tk} (h:fS rec r=.ok a r'):r'.length<r.length:=by
 unfold fS at h;cases r with
 | nil=>cases h
 | cons t q =>
  simp only at h
  have fin:∀ {b:Ex} {l:List Tk},(Rs.ok b l:Rs Ex)=.ok a r'→l.length≤q.length→r'.length<(t::q).length:=by
   intro b l e hl;injection e with _ e;subst e;simp;omega
  split at h
  ·split at h
   ·exact fin h (Nat.le_refl _)
   ·cases h
  split at h
  ·exact fin h (Nat.le_refl _)
  split at h
  ·exact fin h (Nat.le_refl _)
  split at h
  ·exact fin h (Nat.le_refl _)
  split at h
  ·obtain ⟨t2,r2,rfl,_,h⟩:=lV h;exact fin h (by simp)
  split at h
  ·obtain ⟨x,r2,h1,h⟩:=Rs.bind_ok h;obtain ⟨h2,h⟩:=fY h;have:=hr _ _ _ h1;have:=dV h2;exact fin h (by omega)
  split at h
  ·obtain ⟨t2,r2,rfl,_,h⟩:=lV h;obtain ⟨h2,h⟩:=fY h;obtain ⟨x,r4,h1,h⟩:=Rs.bind_ok h;obtain ⟨h3,h⟩:=fY h;have:=hr _ _ _ h1;have:=dV h2;have:=dV h3;exact fin h (by simp;omega)
  split at h
  ·split at h
   ·rename_i h2;obtain ⟨x,r4,h1,h⟩:=Rs.bind_ok h;obtain ⟨h3,h⟩:=fY h;have:=hr _ _ _ h1;have:=dV h2;have:=dV h3;exact fin h (by omega)
   ·exact fin h (Nat.le_refl _)
  ·cases h
theorem pO:∀ (f:Nat),(∀ lv r a r',pE f (.ex lv) r=.ok a r'→r'.length<r.length)∧(∀ lv x r a r',pE f (.lp lv x) r=.ok a r'→r'.length≤r.length)
 | 0=>⟨fun _ _ _ _ h=>(by cases h),fun _ _ _ _ _ h=>(by cases h)⟩
 | f+1=>by
  obtain ⟨ih1,ih2⟩:=pO f;refine ⟨fun lv r a r' h=>?_,fun lv x r a r' h=>?_⟩
  ·unfold pE at h
   split at h
   ·obtain ⟨b,q,h1,h2⟩:=Rs.bind_ok h;have:=ih1 _ _ _ _ h1;have:=ih2 _ _ _ _ _ h2;omega
   split at h
   ·rename_i e;obtain ⟨b,q,h1,h2⟩:=Rs.bind_ok h;have:=ih1 _ _ _ _ h1;have:=dV e;injection h2 with _ e2;subst e2;omega
   split at h
   ·rename_i e;obtain ⟨b,q,h1,h2⟩:=Rs.bind_ok h;have:=ih1 _ _ _ _ h1;have:=dV e;injection h2 with _ e2;subst e2;omega
   ·exact IH (fun q b r2 e=>Nat.le_of_lt (ih1 _ _ _ _ e)) h
  ·unfold pE at h
   split at h
   ·injection h with _ e;subst e;exact Nat.le_refl _
   ·rename_i op e;obtain ⟨b,q,h1,h2⟩:=Rs.bind_ok h;have:=ih1 _ _ _ _ h1;have:=tD e
    split at h2
    ·injection h2 with _ e2;subst e2;omega
    ·have:=ih2 _ _ _ _ _ h2;omega
theorem Rs.bind_congr {α β:Type} {x y:Rs α} {f g:α→List Tk→Rs β} (h:x=y) (k:∀ a r,x=.ok a r→f a r=g a r):x.bind f=y.bind g:=by
 subst h;cases x with
 | ok a r=>exact k a r rfl
 | er r c=>rfl
theorem sJ {rec rec':List Tk→Rs Ex} {r:List Tk} (h:∀ q,q.length<r.length→rec q=rec' q):fS rec r=fS rec' r:=by
 unfold fS;cases r with
 | nil=>rfl
 | cons t q =>
  have hb:∀ (z:List Tk) (g:Ex→List Tk→Rs Ex),z.length≤q.length→(rec z).bind g=(rec' z).bind g:=fun z g hz=>by rw [h z (by simp;omega)]
  have ht:∀ z:List Tk,z.tail.length≤z.length:=fun z=>by simp
  simp only;rw [hb q _ (Nat.le_refl _),hb q.tail _ (ht q)];refine ifC rfl (ifC rfl (ifC rfl (ifC rfl (ifC rfl (ifC rfl (ifC ?_ rfl))))));unfold kV;cases q with
  | nil=>rfl
  | cons t2 r2 =>
   simp only;refine ifC ?_ rfl;unfold iM;refine ifC ?_ rfl;exact hb _ _ (by simp;omega)
def iX:Md→List Tk→Nat
 | .ex lv,r=>16 * r.length+9 - lv
 | .lp _ _,r=>16 * r.length+9
theorem uQ (f lv:Nat) (r:List Tk):pE (f+1) (.ex lv) r=if lv<5 then (pE f (.ex (lv+1)) r).bind fun a r1=>pE f (.lp lv a) r1
 else if isT [45] r then (pE f (.ex 5) r.tail).bind fun x r2=>.ok (opE 9 [x]) r2
 else if isT [110,111,116] r then (pE f (.ex 5) r.tail).bind fun x r2=>.ok (opE 10 [x]) r2
 else fS (pE f (.ex 0)) r:=by rw [pE]
theorem uO (f lv:Nat) (a:Ex) (r:List Tk):pE (f+1) (.lp lv a) r=match opAt lv r with
 | none=>.ok a r
 | some op=>(pE f (.ex (lv+1)) r.tail).bind fun b r2=>if lv=2 then .ok (opE op [a,b]) r2 else pE f (.lp lv (opE op [a,b])) r2:=by rw [pE]
theorem yP:∀ (f:Nat),(∀ lv r,lv≤5→iX (.ex lv) r≤f→pE (f+1) (.ex lv) r=pE f (.ex lv) r)∧(∀ lv x r,lv≤4→iX (.lp lv x) r≤f→pE (f+1) (.lp lv x) r=pE f (.lp lv x) r)
 | 0=>⟨fun lv r h1 h=>by simp only [iX] at h;omega,fun lv x r h1 h=>by simp only [iX] at h;omega⟩
 | f+1=>by
  obtain ⟨ih1,ih2⟩:=yP f;simp only [iX] at ih1 ih2 ⊢;refine ⟨fun lv r h5 h=>?_,fun lv x r h4 h=>?_⟩
  ·rw [uQ (f+1) lv r,uQ f lv r]
   by_cases hlv:lv<5
   ·rw [if_pos hlv,if_pos hlv];refine Rs.bind_congr (ih1 _ _ (by omega) (by omega)) fun a q e=>?_;have:=(pO (f+1)).1 _ _ _ _ e;exact ih2 _ _ _ (by omega) (by omega)
   rw [if_neg hlv,if_neg hlv]
   by_cases e:isT [45] r=true
   ·have:=dV e;rw [if_pos e,if_pos e];exact Rs.bind_congr (ih1 _ _ (by omega) (by omega)) fun _ _ _=>rfl
   rw [if_neg e,if_neg e]
   by_cases e:isT [110,111,116] r=true
   ·have:=dV e;rw [if_pos e,if_pos e];exact Rs.bind_congr (ih1 _ _ (by omega) (by omega)) fun _ _ _=>rfl
   rw [if_neg e,if_neg e];exact sJ fun q hq=>ih1 _ _ (by omega) (by omega)
  ·rw [uO (f+1) lv x r,uO f lv x r];cases e:opAt lv r with
   | none=>rfl
   | some op =>
    simp only;have:=tD e;refine Rs.bind_congr (ih1 _ _ (by omega) (by omega)) fun a q e=>?_;have:=(pO (f+1)).1 _ _ _ _ e;refine ifC rfl ?_;exact ih2 _ _ _ (by omega) (by omega)
theorem FN {f g lv:Nat} {r:List Tk} (h5:lv≤5) (h:iX (.ex lv) r≤f) (hg:f≤g):pE g (.ex lv) r=pE f (.ex lv) r:=by
 induction g with
 | zero => have : f = 0 := by omega
           rw [this]
 | succ g ih =>
  by_cases e:f=g+1
  ·rw [e]
  ·rw [(yP g).1 lv r h5 (by omega)];exact ih (by omega)
theorem BM {f g lv:Nat} {a:Ex} {r:List Tk} (h5:lv≤4) (h:iX (.lp lv a) r≤f) (hg:f≤g):pE g (.lp lv a) r=pE f (.lp lv a) r:=by
 induction g with
 | zero => have : f = 0 := by omega
           rw [this]
 | succ g ih =>
  by_cases e:f=g+1
  ·rw [e]
  ·rw [(yP g).2 lv a r h5 (by omega)];exact ih (by omega)
def pX (lv:Nat) (r:List Tk):Rs Ex:=pE (16 * r.length+9) (.ex lv) r
def pL (lv:Nat) (a:Ex) (r:List Tk):Rs Ex:=pE (16 * r.length+9) (.lp lv a) r
theorem BL {f lv:Nat} {r:List Tk} (h5:lv≤5) (h:iX (.ex lv) r≤f):pE f (.ex lv) r=pX lv r:=by
 unfold pX;rcases Nat.le_total f (16 * r.length+9) with h1 | h1
 ·rw [FN h5 h h1]
 ·rw [FN h5 (by simp only [iX];omega) h1]
theorem SE {f lv:Nat} {a:Ex} {r:List Tk} (h5:lv≤4) (h:iX (.lp lv a) r≤f):pE f (.lp lv a) r=pL lv a r:=by
 unfold pL;rcases Nat.le_total f (16 * r.length+9) with h1 | h1
 ·rw [BM h5 h h1]
 ·rw [BM h5 (by simp only [iX];omega) h1]
theorem yO {lv:Nat} {r:List Tk} (h:lv<5):pX lv r=(pX (lv+1) r).bind fun a q=>pL lv a q:=by
 conv=>lhs;unfold pX
 rw [show 16 * r.length+9=(16 * r.length+8)+1 by omega,uQ,if_pos h];refine Rs.bind_congr (BL (by omega) (by simp only [iX];omega)) fun a q e=>?_;have:=(pO _).1 _ _ _ _ e;exact SE (by omega) (by simp only [iX];omega)
theorem qK {r:List Tk}:pX 5 r=if isT [45] r then (pX 5 r.tail).bind fun x r2=>.ok (opE 9 [x]) r2 else if isT [110,111,116] r then (pX 5 r.tail).bind fun x r2=>.ok (opE 10 [x]) r2 else fS (pX 0) r:=by
 conv=>lhs;unfold pX
 rw [show 16 * r.length+9=(16 * r.length+8)+1 by omega,uQ,if_neg (by omega)]
 by_cases e:isT [45] r=true
 ·have:=dV e;rw [if_pos e,if_pos e];exact Rs.bind_congr (BL (by omega) (by simp only [iX];omega)) fun _ _ _=>rfl
 rw [if_neg e,if_neg e]
 by_cases e:isT [110,111,116] r=true
 ·have:=dV e;rw [if_pos e,if_pos e];exact Rs.bind_congr (BL (by omega) (by simp only [iX];omega)) fun _ _ _=>rfl
 rw [if_neg e,if_neg e];exact sJ fun q hq=>BL (by omega) (by simp only [iX];omega)
theorem oH {lv:Nat} {a:Ex} {r:List Tk} (h:opAt lv r=none):pL lv a r=.ok a r:=by
 unfold pL;rw [show 16 * r.length+9=(16 * r.length+8)+1 by omega,uO];rw [h]
theorem FM {lv:Nat} {a:Ex} {r:List Tk} {op:UInt8} (hl:lv≤4) (h:opAt lv r=some op):pL lv a r=(pX (lv+1) r.tail).bind fun b r2=>if lv=2 then .ok (opE op [a,b]) r2 else pL lv (opE op [a,b]) r2:=by
 conv=>lhs;unfold pL
 rw [show 16 * r.length+9=(16 * r.length+8)+1 by omega,uO];rw [h];have:=tD h;refine Rs.bind_congr (BL (by omega) (by simp only [iX];omega)) fun b q e=>?_;have:=(pO _).1 _ _ _ _ e;refine ifC rfl ?_;exact SE hl (by simp only [iX];omega)
end Go.Proofs.YthhoebdlfjffkaaGreatDoor
namespace Go.Plain
open Go.Lib

theorem digits_more (x:Nat) (h:¬ x<10):decDigits x=decDigits (x / 10)++[UInt8.ofNat (48+x % 10)]:=by
 rw [decDigits,dif_neg h]
theorem digit_nat (d:Nat) (h:d<10):(UInt8.ofNat (48+d)).toNat=48+d:=by
 rw [UInt8.toNat_ofNat'];omega
theorem digits_are:∀ (u:Nat) (c:UInt8),c∈decDigits u→48≤c.toNat∧c.toNat≤57:=by
 intro u;induction u using Nat.strongRecOn with
 | _ u ih =>
  intro c hc
  by_cases h:u<10
  ·rw [decDigits_one h] at hc;obtain rfl:=List.mem_singleton.1 hc;rw [digit_nat u h];omega
  ·rw [digits_more u h] at hc;rcases List.mem_append.1 hc with hc | hc
   ·exact ih (u / 10) (by omega) c hc
   ·obtain rfl:=List.mem_singleton.1 hc;rw [digit_nat (u % 10) (by omega)];omega
end Go.Plain
namespace Go.Proofs.YthhoebdlfjffkaaGreatDoor
abbrev Kt:=UInt8 × Str
def kt (t:Tk):Kt:=(t.k,t.t)
def isK (w:Str) (x:Kt):Bool:=(x.1 == 2 || x.1 == 4) && decide (x.2=w)
def opK (lv:Nat) (x:Kt):Option UInt8:=((nG lv).find? fun y=>isK y.1 x).map (·.2)
theorem bZ (w:Str) (t:Tk) (r:List Tk):isT w (t::r)=isK w (kt t):=rfl
theorem IL (lv:Nat) (t:Tk) (r:List Tk):opAt lv (t::r)=opK lv (kt t):=rfl
def oY (n lv:Nat) (l:List Kt):List Kt:=if lv<n then (4,[40])::(l++[(4,[41])]) else l
def qF (op:UInt8):Kt:=(if op=22∨op=23 then 2 else 4,((aI op).tx.drop 1).dropLast)
def ktx (op:UInt8) (nm:Str) (n:Int64) (ls:List (Nat × List Kt)):List Kt :=
 if op=1 then [(3,Lib.itoa n.toInt)]
 else if op=5 then [(1,nm)]
 else if op=8 then [(2,[115,105,122,101]),(1,nm)]
 else if op=6 then (1,nm)::(4,[91])::((ls.getD 0 (0,[])).2++[(4,[93])])
 else if op=7 then (2,[104,97,115])::(1,nm)::(4,[91])::((ls.getD 0 (0,[])).2++[(4,[93])])
 else if op=9 then (4,[45])::oY 6 (ls.getD 0 (0,[])).1 (ls.getD 0 (0,[])).2
 else if op=10 then (2,[110,111,116])::oY 6 (ls.getD 0 (0,[])).1 (ls.getD 0 (0,[])).2
 else if (aI op).n=0 then [(2,(aI op).tx)]
 else oY (oZ (aI op).lv) (ls.getD 0 (0,[])).1 (ls.getD 0 (0,[])).2++qF op::oY ((aI op).lv+1) (ls.getD 1 (0,[])).1 (ls.getD 1 (0,[])).2
mutual
def ktE:Ex→List Kt
 | .mk op nm n args=>ktx op nm n (VY args)
def VY:List Ex→List (Nat × List Kt)
 | []=>[]
 | e::r=>((aI e.op).lv,ktE e)::VY r
end
def Ex.lv (e:Ex):Nat:=(aI e.op).lv
def Stp (j:Nat) (r:List Tk):Prop:=(∀ i,j≤i→i≤4→opAt i r=none)∧isT [91] r=false
theorem Stp.up {i j:Nat} {r:List Tk} (h:Stp i r) (hij:i≤j):Stp j r:=⟨fun k h1 h2=>h.1 k (by omega) h2,h.2⟩
theorem Stp.of {j:Nat} {t:Tk} {r:List Tk} (h:∀ i∈List.range 5,j≤i→opK i (kt t)=none) (h2:isK [91] (kt t)=false):Stp j (t::r) :=
 ⟨fun i h1 h3=>h i (List.mem_range.2 (by omega)) h1,h2⟩
theorem BK {l:List Tk} {a:Ex} {r:List Tk}:∀ (d lv j:Nat),j=lv+1+d→j≤5→pX j l=.ok a r→Stp (lv+1) r→pX lv l=pL lv a r
 | 0,lv,j,e,hj,h,_=>by
  rw [yO (by omega),show lv+1=j by omega,h];rfl
 | d+1,lv,j,e,hj,h,hs=>by
  have:=BK d (lv+1) j (by omega) hj h (hs.up (by omega));rw [yO (by omega),this,oH (hs.1 _ (Nat.le_refl _) (by omega))];rfl
def Rd (e:Ex):Prop:=∀ le r,le.map kt=ktE e→(∀ lv,lv≤4→lv+1≤e.lv→Stp (lv+1) r→pX lv (le++r)=if lv=2∧e.lv=3 then .ok e r else pL lv e r)∧(6≤e.lv→isT [91] r=false→pX 5 (le++r)=.ok e r)
theorem Rd.full {e:Ex} (h:Rd e) {le r:List Tk} (hk:le.map kt=ktE e) {lv:Nat} (h5:lv≤5) (hl:lv+1≤e.lv) (hs:Stp lv r):pX lv (le++r)=.ok e r:=by
 by_cases e5:lv=5
 ·subst e5;exact (h le r hk).2 hl hs.2
 ·rw [(h le r hk).1 lv (by omega) hl (hs.up (by omega)),oH (hs.1 lv (Nat.le_refl _) (by omega))]
  split <;> rfl
theorem Rd.of {e:Ex} (h6:6≤e.lv) (h:∀ le r,le.map kt=ktE e→isT [91] r=false→pX 5 (le++r)=.ok e r):Rd e:=fun le r hk=>by
 refine ⟨fun lv hl h1 hs=>?_,fun _=>h le r hk⟩;rw [if_neg (by omega)];exact BK (4 - lv) lv 5 (by omega) (by omega) (h le r hk hs.2) hs
theorem Rd.par {e:Ex} (h:Rd e) (h1:1≤e.lv) {le r:List Tk} (hk:le.map kt=(4,[40])::(ktE e++[(4,[41])])):pX 5 (le++r)=.ok e r:=by
 obtain ⟨t,l1,rfl,ht,hk⟩:=List.map_eq_cons_iff.1 hk;obtain ⟨l2,l3,rfl,h2,h3⟩:=List.map_eq_append_iff.1 hk;obtain ⟨t2,l4,rfl,ht2,h4⟩:=List.map_eq_cons_iff.1 h3;obtain rfl:=List.map_eq_nil_iff.1 h4;simp only [List.cons_append,List.append_assoc,List.nil_append];have hf:=h.full h2 (r:=t2::r) (lv:=0) (by omega) h1 (.of (by rw [ht2];decide) (by rw [ht2];decide));rw [qK,bZ,bZ,ht,if_neg (by decide),if_neg (by decide),fS];have hk0:t.k=4:=congrArg Prod.fst ht;simp only [bZ,ht];rw [if_neg (by rw [hk0];decide),if_neg (by decide),if_neg (by decide),if_neg (by decide),if_neg (by decide),if_pos (by decide),hf];show iM [41] (t2::r) _=_;rw [iM,bZ,ht2,if_pos (by decide)]
 rfl
theorem Rd.opnd {e:Ex} (h:Rd e) (h1:1≤e.lv) {n:Nat} {le r:List Tk} (hk:le.map kt=oY n e.lv (ktE e)) (hn:n≤6) (h0:0<n) (hs:Stp (n - 1) r):pX (n - 1) (le++r)=.ok e r:=by
 unfold oY at hk
 split at hk
 ·have hp:=h.par h1 hk (r:=r)
  by_cases e5:n=6
  ·subst e5;exact hp
  ·rw [BK (5 - n) (n - 1) 5 (by omega) (by omega) hp (hs.up (by omega)),oH (hs.1 _ (Nat.le_refl _) (by omega))]
 ·exact h.full hk (by omega) (by omega) hs
theorem Rd.left {e:Ex} (h:Rd e) (h1:1≤e.lv) {lv:Nat} {le r:List Tk} (hk:le.map kt=oY (lv+1) e.lv (ktE e)) (hn:lv≤4) (h2:lv≠2) (hs:Stp (lv+1) r):pX lv (le++r)=pL lv e r:=by
 unfold oY at hk
 split at hk
 ·exact BK (4 - lv) lv 5 (by omega) (by omega) (h.par h1 hk (r:=r)) hs
 ·rw [(h le r hk).1 lv hn (by omega) hs,if_neg (by omega)]
theorem sM (u:Nat):fG (Lib.decDigits u)=u:=by
 induction u using Nat.strongRecOn with
 | _ u ih =>
  by_cases h:u<10
  ·rw [Lib.decDigits_one h];simp only [fG,List.foldl_cons,List.foldl_nil,Plain.digit_nat u h];omega
  ·rw [Plain.digits_more u h];have:=ih (u / 10) (by omega);unfold fG at this ⊢;rw [List.foldl_append,this];simp only [List.foldl_cons,List.foldl_nil,Plain.digit_nat (u % 10) (by omega)];omega
theorem IT {n:Int} (h:0≤n):fG (Lib.itoa n)=n.toNat:=by
 unfold Lib.itoa;rw [if_neg (by omega),sM]
theorem qM {op:UInt8} (h:iB op=true):op∈([1,2,3,4,5,6,7,8,9,10,11,12,13,14,15,16,17,18,19,20,21,22,23]:List UInt8):=by
 simp only [iB,Bool.and_eq_true,decide_eq_true_eq] at h;have key:∀ i∈List.range 24,1≤i→UInt8.ofNat i∈([1,2,3,4,5,6,7,8,9,10,11,12,13,14,15,16,17,18,19,20,21,22,23]:List UInt8):=by decide
 have:=key op.toNat (List.mem_range.2 (by omega)) h.1
 rwa [UInt8.ofNat_toNat] at this
theorem uT {op:UInt8} (h:iB op=true):op=1∨op∈([11,12,13,14,15,16,17,18,19,20,21,22,23]:List UInt8)∨(op=2∨op=3∨op=4∨op=5∨op=6∨op=7∨op=8∨op=9∨op=10):=by
 have key:∀ o∈([1,2,3,4,5,6,7,8,9,10,11,12,13,14,15,16,17,18,19,20,21,22,23]:List UInt8),o=1∨o∈([11,12,13,14,15,16,17,18,19,20,21,22,23]:List UInt8)∨(o=2∨o=3∨o=4∨o=5∨o=6∨o=7∨o=8∨o=9∨o=10):=by decide
 exact key op (qM h)
theorem VI {op:UInt8} (h:iB op=true):1≤(aI op).lv:=by
 have key:∀ o∈([1,2,3,4,5,6,7,8,9,10,11,12,13,14,15,16,17,18,19,20,21,22,23]:List UInt8),1≤(aI o).lv:=by decide
 exact key op (qM h)
theorem xZ {l:List Ex} (h:l.length=0):l=[]:=List.eq_nil_of_length_eq_zero h
theorem rD {l:List Ex} (h:l.length=1):∃ a,l=[a]:=List.length_eq_one_iff.1 h
theorem iY {l:List Ex} (h:l.length=2):∃ a b,l=[a,b]:=by
 match l,h with
 | [a,b],_=>exact ⟨a,b,rfl⟩
theorem vJ {n:Int64} (h:n.toInt=0):n=0:=Int64.toInt_inj.1 (by rw [h];rfl)
def binOp (op:UInt8):Bool:=decide (11≤op.toNat) && decide (op.toNat≤23)
theorem mD:∀ op∈([11,12,13,14,15,16,17,18,19,20,21,22,23]:List UInt8),(aI op).n=2∧(aI op).nm=false∧1≤(aI op).lv∧(aI op).lv≤5∧opK ((aI op).lv - 1) (qF op)=some op∧isK [91] (qF op)=false ∧
 (∀ i∈List.range 5,(aI op).lv≤i→opK i (qF op)=none)∧¬ op=1∧¬ op=5∧¬ op=8∧¬ op=6∧¬ op=7∧¬ op=9∧¬ op=10:=by decide
theorem zC {op:UInt8} (h:op∈([11,12,13,14,15,16,17,18,19,20,21,22,23]:List UInt8)) (nm:Str) (n:Int64) (a b:Ex) :
 ktE (.mk op nm n [a,b])=oY (oZ (aI op).lv) a.lv (ktE a)++qF op::oY ((aI op).lv+1) b.lv (ktE b):=by
 obtain ⟨h1,_,_,_,_,_,_,g1,g2,g3,g4,g5,g6,g7⟩:=mD op h;rw [ktE,ktx,if_neg g1,if_neg g2,if_neg g3,if_neg g4,if_neg g5,if_neg g6,if_neg g7,if_neg (by omega)]
 rfl
theorem TG {op:UInt8} (h:op∈([11,12,13,14,15,16,17,18,19,20,21,22,23]:List UInt8)) {a b:Ex} (ha:Rd a) (hb:Rd b) (ha1:1≤a.lv) (hb1:1≤b.lv):Rd (opE op [a,b]):=by
 intro le r hk;obtain ⟨_,_,h3,h4,h5,h6,h7,_⟩:=mD op h;have hlv:(opE op [a,b]).lv=(aI op).lv:=rfl;rw [hlv];rw [show opE op [a,b]=.mk op [] 0 [a,b] from rfl,zC h] at hk;obtain ⟨la,l1,rfl,hla,hk⟩:=List.map_eq_append_iff.1 hk;obtain ⟨t,lb,rfl,ht,hlb⟩:=List.map_eq_cons_iff.1 hk;generalize hL:(aI op).lv=L at *;refine ⟨?_,fun h8=>absurd h8 (by omega)⟩;have hst:∀ q,Stp L (t::q):=fun q=>.of (by rw [ht];exact h7) (by rw [ht];exact h6)
 -- at its own level
 have own:Stp L r→pX (L - 1) (la++t::lb++r)=if L - 1=2 then .ok (opE op [a,b]) r else pL (L - 1) (opE op [a,b]) r:=by
  intro hs;have hopt:∀ q,opAt (L - 1) (t::q)=some op:=fun q=>by rw [IL,ht];exact h5
  have hB:pX L (lb++r)=.ok b r:=by
   have:=hb.opnd hb1 (n:=L+1) hlb (by omega) (by omega) (r:=r) (by simpa using hs);simpa using this
  have hA:pX (L - 1) (la++(t::lb++r))=pL (L - 1) a (t::lb++r):=by
   by_cases h2:L=3
   ·subst h2;have:=ha.opnd ha1 (n:=4) (r:=t::lb++r) hla (by omega) (by omega) (hst _);rw [yO (by omega)];show (pX 3 _).bind _=_;rw [show (4:Nat) - 1=3 from rfl] at this;rw [this];rfl
   ·have e:oZ L=L - 1+1:=by unfold oZ;rw [if_neg h2];omega
    rw [e] at hla;exact ha.left ha1 hla (by omega) (by omega) (by rw [show L - 1+1=L by omega];exact hst _)
  rw [List.append_assoc,hA,List.cons_append,FM (by omega) (hopt _)];show (pX (L - 1+1) (lb++r)).bind _=_;rw [show L - 1+1=L by omega,hB]
  rfl
 intro lv hl4 hl hs
 by_cases e:lv=L - 1
 ·subst e;rw [show L - 1+1=L by omega] at hs;rw [own hs];exact ifI (by omega)
 ·rw [if_neg (by omega)];refine BK (L - 2 - lv) lv (L - 1) (by omega) (by omega) ?_ hs;rw [own (hs.up (by omega)),oH (hs.1 _ (by omega) (by omega))]
  split <;> rfl
theorem zB {op:UInt8} {nm:Str} {n:Int64} {args:List Ex} {x:Kt} (h:ktE (.mk op nm n args)=[x]) {le:List Tk} (hk:le.map kt=ktE (.mk op nm n args)):∃ t,le=[t]∧kt t=x:=by
 rw [h] at hk;obtain ⟨t,l,rfl,ht,hl⟩:=List.map_eq_cons_iff.1 hk;obtain rfl:=List.map_eq_nil_iff.1 hl;exact ⟨t,rfl,ht⟩
theorem SD {op:UInt8} {a:Ex} (ha:Rd a) (h1:1≤a.lv) (hop:op=9∨op=10):Rd (opE op [a]):=by
 refine .of (by rcases hop with rfl | rfl <;> exact (by decide:6≤6)) fun le r hk h91=>?_
 have key:∃ t l,le=t::l∧kt t=(if op=9 then (4,[45]) else (2,[110,111,116]))∧l.map kt=oY 6 a.lv (ktE a):=by
  rcases hop with rfl | rfl
  ·obtain ⟨t,l,rfl,ht,hl⟩:=List.map_eq_cons_iff.1 (show le.map kt=(4,[45])::oY 6 a.lv (ktE a) from hk);exact ⟨t,l,rfl,ht,hl⟩
  ·obtain ⟨t,l,rfl,ht,hl⟩:=List.map_eq_cons_iff.1 (show le.map kt=(2,[110,111,116])::oY 6 a.lv (ktE a) from hk);exact ⟨t,l,rfl,ht,hl⟩
 obtain ⟨t,l,rfl,ht,hl⟩:=key;have hA:pX 5 (l++r)=.ok a r:=ha.opnd h1 (n:=6) hl (by omega) (by omega) ⟨fun i h1 h2=>by omega,h91⟩;rw [List.cons_append,qK];rcases hop with rfl | rfl
 ·rw [bZ,ht,if_pos (by decide)];show (pX 5 (l++r)).bind _=_;rw [hA];rfl
 ·rw [bZ,bZ,ht,if_neg (by decide),if_pos (by decide)];show (pX 5 (l++r)).bind _=_;rw [hA];rfl
theorem LN {a:Ex} (ha:Rd a) (h1:1≤a.lv) {l r:List Tk} (hl:l.map kt=(4,[91])::(ktE a++[(4,[93])])):isT [91] (l++r)=true∧∀ (g:Ex→List Tk→Rs Ex),((pX 0 (l++r).tail).bind fun x r4=>iM [93] r4 fun r5=>g x r5)=g a r:=by
 obtain ⟨t,l1,rfl,ht,hk⟩:=List.map_eq_cons_iff.1 hl;obtain ⟨l2,l3,rfl,h2,h3⟩:=List.map_eq_append_iff.1 hk;obtain ⟨t2,l4,rfl,ht2,h4⟩:=List.map_eq_cons_iff.1 h3;obtain rfl:=List.map_eq_nil_iff.1 h4;refine ⟨by rw [List.cons_append,bZ,ht];decide,fun g=>?_⟩;have hf:=ha.full h2 (r:=t2::r) (lv:=0) (by omega) h1 (.of (by rw [ht2];decide) (by rw [ht2];decide));simp only [List.cons_append,List.append_assoc,List.nil_append,List.tail_cons];rw [hf];show iM [93] (t2::r) _=_;rw [iM,bZ,ht2,if_pos (by decide)]
 rfl
theorem TH (e:Ex):Ex.all dL e=true→Rd e∧1≤e.lv:=by
 induction e using Ex.ind with
 | _ op nm n args ih =>
  intro h;rw [eK,Bool.and_eq_true] at h;obtain ⟨hf,hr⟩:=h;have ha:∀ a∈args,Rd a∧1≤a.lv:=fun a m=>ih a m (bV m hr);simp only [dL,Bool.and_eq_true,Bool.or_eq_true,decide_eq_true_eq] at hf;obtain ⟨⟨⟨hop,hl⟩,hnm⟩,hn⟩:=hf;refine ⟨?_,VI hop⟩;have hm:=qM hop
  by_cases h1:op=1
  ·subst h1;obtain rfl:=xZ hl;obtain rfl:nm=[]:=hnm.resolve_left (by decide);rw [if_pos rfl,decide_eq_true_eq] at hn;refine .of (show 6≤(aI 1).lv by decide) fun le r hk _=>?_;obtain ⟨t,rfl,ht⟩:=zB (x:=(3,Lib.itoa n.toInt)) rfl hk;have hk3:t.k=3:=congrArg Prod.fst ht;have ht2:t.t=Lib.itoa n.toInt:=congrArg Prod.snd ht;have hlt:=n.toInt_lt;rw [List.cons_append,List.nil_append,qK,bZ,bZ,ht,if_neg (by simp [isK]),if_neg (by simp [isK]),fS];rw [if_pos hk3,ht2,IT hn,if_pos (by omega)]
   congr 2
   exact Int64.toInt_inj.1 (by rw [Int64.toInt_ofNat_of_lt (by omega)];omega)
  rw [if_neg h1,decide_eq_true_eq] at hn;obtain rfl:=vJ hn
  by_cases hb:op∈([11,12,13,14,15,16,17,18,19,20,21,22,23]:List UInt8)
  ·obtain ⟨b1,b2,_⟩:=mD op hb;obtain ⟨a,b,rfl⟩:=iY (l:=args) (by omega)
   obtain rfl : nm = [] := by rcases hnm with e | e
                              ·rw [b2] at e;cases e
                              ·exact e
   have h3:=ha a (by simp);have h4:=ha b (by simp);exact TG hb h3.1 h4.1 h3.2 h4.2
  have hs:op=2∨op=3∨op=4∨op=5∨op=6∨op=7∨op=8∨op=9∨op=10:=((uT hop).resolve_left h1).resolve_left hb
  have cst:∀ (w:Str),op=2∨op=3∨op=4→w=(aI op).tx→Rd (.mk op nm 0 args):=by
   intro w ho hw
   have hnil:args=[]:=by
    rcases ho with rfl | rfl | rfl <;> exact xZ hl
   have hnm0:nm=[]:=by
    rcases ho with rfl | rfl | rfl <;> exact hnm.resolve_left (by decide)
   subst hnil hnm0;refine .of (by rcases ho with rfl | rfl | rfl <;> exact (by decide:6≤7)) fun le r hk _=>?_;rcases ho with rfl | rfl | rfl
   all_goals
    obtain ⟨t,rfl,ht⟩:=zB rfl hk;have hk3:t.k=2:=congrArg Prod.fst ht;rw [List.cons_append,List.nil_append,qK,bZ,bZ,ht,if_neg (by decide),if_neg (by decide),fS];simp only [bZ,ht];rw [if_neg (by rw [hk3];decide)]
   ·rw [if_pos (by decide)];rfl
   ·rw [if_neg (by decide),if_pos (by decide)];rfl
   ·rw [if_neg (by decide),if_neg (by decide),if_pos (by decide)];rfl
  rcases hs with rfl | rfl | rfl | rfl | rfl | rfl | rfl | rfl | rfl
  ·exact cst _ (.inl rfl) rfl
  ·exact cst _ (.inr (.inl rfl)) rfl
  ·exact cst _ (.inr (.inr rfl)) rfl
  ·obtain rfl:=xZ hl;refine .of (show 6≤(aI 5).lv by decide) fun le r hk h91=>?_;obtain ⟨t,rfl,ht⟩:=zB (x:=(1,nm)) rfl hk;have hk1:t.k=1:=congrArg Prod.fst ht;have ht2:t.t=nm:=congrArg Prod.snd ht;have hno:∀ w,isK w (1,nm)=false:=fun w=>by simp [isK]
   rw [List.cons_append,List.nil_append,qK,bZ,bZ,ht,hno,hno,if_neg (by decide),if_neg (by decide),fS];simp only [bZ,ht,hno];rw [if_neg (by rw [hk1];decide)];simp only [Bool.false_eq_true,if_false];rw [if_pos hk1,h91,if_neg (by decide),ht2]
  ·obtain ⟨a,rfl⟩:=rD hl;obtain ⟨ra,r1⟩:=ha a (by simp);refine .of (show 6≤(aI 6).lv by decide) fun le r hk h91=>?_;obtain ⟨t,l,rfl,ht,hl⟩:=List.map_eq_cons_iff.1 (show le.map kt=(1,nm)::(4,[91])::(ktE a++[(4,[93])]) from hk);have hk1:t.k=1:=congrArg Prod.fst ht;have ht2:t.t=nm:=congrArg Prod.snd ht;have hno:∀ w,isK w (1,nm)=false:=fun w=>by simp [isK]
   obtain ⟨k1,k2⟩:=LN ra r1 hl (r:=r);rw [List.cons_append,qK,bZ,bZ,ht,hno,hno,if_neg (by decide),if_neg (by decide),fS];simp only [bZ,ht,hno];rw [if_neg (by rw [hk1];decide)];simp only [Bool.false_eq_true,if_false];rw [if_pos hk1,k1,if_pos rfl,k2,ht2]
  ·obtain ⟨a,rfl⟩:=rD hl;obtain ⟨ra,r1⟩:=ha a (by simp);refine .of (show 6≤(aI 7).lv by decide) fun le r hk h91=>?_;obtain ⟨t,l,rfl,ht,hl⟩:=List.map_eq_cons_iff.1 (show le.map kt=(2,[104,97,115])::(1,nm)::(4,[91])::(ktE a++[(4,[93])]) from hk);obtain ⟨t2,l2,rfl,ht2,hl⟩:=List.map_eq_cons_iff.1 hl;have hk1:t.k=2:=congrArg Prod.fst ht;have hk2:t2.k=1:=congrArg Prod.fst ht2;have ht3:t2.t=nm:=congrArg Prod.snd ht2;obtain ⟨k1,k2⟩:=LN ra r1 hl (r:=r);rw [List.cons_append,qK,bZ,bZ,ht,if_neg (by decide),if_neg (by decide),fS];simp only [bZ,ht];rw [if_neg (by rw [hk1];decide),if_neg (by decide),if_neg (by decide),if_neg (by decide),if_neg (by decide),if_neg (by decide),if_pos (by decide),List.cons_append,kV];rw [if_pos hk2,iM,k1,if_pos rfl,k2,ht3]
  ·obtain rfl:=xZ hl;refine .of (show 6≤(aI 8).lv by decide) fun le r hk h91=>?_;obtain ⟨t,l,rfl,ht,hl⟩:=List.map_eq_cons_iff.1 (show le.map kt=(2,[115,105,122,101])::(1,nm)::[] from hk);obtain ⟨t2,l2,rfl,ht2,hl⟩:=List.map_eq_cons_iff.1 hl;obtain rfl:=List.map_eq_nil_iff.1 hl;have hk1:t.k=2:=congrArg Prod.fst ht;have hk2:t2.k=1:=congrArg Prod.fst ht2;have ht3:t2.t=nm:=congrArg Prod.snd ht2;rw [List.cons_append,qK,bZ,bZ,ht,if_neg (by decide),if_neg (by decide),fS];simp only [bZ,ht];rw [if_neg (by rw [hk1];decide),if_neg (by decide),if_neg (by decide),if_neg (by decide),if_pos (by decide),List.cons_append,kV];rw [if_pos hk2,ht3];rfl
  ·obtain ⟨a,rfl⟩:=rD hl;obtain ⟨ra,r1⟩:=ha a (by simp);obtain rfl:nm=[]:=hnm.resolve_left (by decide);exact SD ra r1 (.inl rfl)
  ·obtain ⟨a,rfl⟩:=rD hl;obtain ⟨ra,r1⟩:=ha a (by simp);obtain rfl:nm=[]:=hnm.resolve_left (by decide);exact SD ra r1 (.inr rfl)
abbrev Pz (α:Type):=List Tk→Rs α
section
variable {α β:Type}
def aQ (a:α):Pz α:=fun r=>.ok a r
def aH (p:Pz α) (f:α→Pz β):Pz β:=fun r=>(p r).bind f
def gNd (w:Str):Pz Unit:=fun r=>if isT w r then .ok () r.tail else .er r 8
def gNm:Pz Str:=fun r=>match r with | []=>.er r 8 | t::q=>if t.k=1 then .ok t.t q else .er r 8
def gNu:Pz Int64:=fun r=>match r with | []=>.er r 8 | t::q=>if t.k=3 then (if fG t.t≤9223372036854775807 then .ok (Int64.ofNat (fG t.t)) q else .er r 2) else .er r 8
def isN (w:Str):List Tk→Bool
 | []=>false
 | t::_=>t.k == 3 && decide (t.t=w)
def gNn (w:Str):Pz Unit:=fun r=>if isN w r then .ok () r.tail else .er r 8
def cM (w:Str) (p q:Pz α):Pz α:=fun r=>if isT w r then p r.tail else q r
def iT (w:Str) (p:Pz α):Nat→Pz (List α)
 | 0=>fun r=>.er r 99
 | f+1=>cM w (aH p fun a=>aH (iT w p f) fun l=>aQ (a::l)) (aQ [])
def dD (w:Str) (p:Pz α):Pz (List α):=fun r=>iT w p (r.length+1) r
end
def gEx:Pz Ex:=pX 0
def iF (b:Pz (List Sm)):Pz (List Sm):=aH (gNd [123]) fun _=>aH b fun l=>aH (gNd [125]) fun _=>aQ l
def rU (b:Pz (List Sm)):Pz (List Sm):=cM [101,108,115,101] (iF b) (aQ [])
def kB (b:Pz (List Sm)):Pz (List Sm):=cM [101,108,115,101] (iF b) (aH (gNd [59]) fun _=>aQ [])
def eD {α:Type} (p:Pz α):Pz (List α):=aH (gNd [40]) fun _=>cM [41] (aQ []) (aH p fun a=>aH (dD [44] p) fun l=>aH (gNd [41]) fun _=>aQ (a::l))
def gSt (b:Pz (List Sm)):Pz Sm :=
 cM [105,102] (aH gEx fun e=>aH (iF b) fun t=>aH (rU b) fun l=>aQ (.mk 4 [] [] [e] t l))<|cM [119,104,105,108,101] (aH gEx fun e=>aH (iF b) fun t=>aQ (.mk 5 [] [] [e] t []))<|cM [115,116,111,114,101] (aH gEx fun e=>aH (gNd [61]) fun _=>aH gEx fun e2=>aH (kB b) fun l=>aQ (.mk 8 [] [] [e,e2] [] l))<|cM [102,101,116,99,104] (aH gNm fun n=>aH (gNd [61]) fun _=>aH gEx fun e=>aH (kB b) fun l=>aQ (.mk 9 n [] [e] [] l))<|cM [115,101,110,100] (aH gNm fun n=>aH (gNd [46]) fun _=>aH gNm fun h=>aH (eD gEx) fun l=>aH (gNd [59]) fun _=>aQ (.mk 6 n h l [] []))<|cM [97,102,116,101,114] (aH gEx fun e=>aH (gNd [100,111]) fun _=>aH gNm fun h=>aH (eD gEx) fun l=>aH (gNd [59]) fun _=>aQ (.mk 7 [] h (e::l) [] []))<|cM [115,116,111,112] (aH (gNd [59]) fun _=>aQ (.mk 10 [] [] [] [] []))<|cM [100,101,108,101,116,101] (aH gNm fun n=>aH (gNd [91]) fun _=>aH gEx fun e=>aH (gNd [93]) fun _=>aH (gNd [59]) fun _=>aQ (.mk 3 n [] [e] [] []))<|aH gNm fun n=>cM [91] (aH gEx fun e=>aH (gNd [93]) fun _=>aH (gNd [61]) fun _=>aH gEx fun e2=>aH (gNd [59]) fun _=>aQ (.mk 2 n [] [e,e2] [] []))
  (aH (gNd [61]) fun _=>aH gEx fun e=>aH (gNd [59]) fun _=>aQ (.mk 1 n [] [e] [] []))
def gBF:Nat→Pz (List Sm)
 | 0=>fun r=>.er r 99
 | f+1=>fun r=>if isT [125] r then .ok [] r else (gSt (gBF f) r).bind fun s r1=>(gBF f r1).bind fun l r2=>.ok (s::l) r2
def gB:Pz (List Sm):=fun r=>gBF (r.length+1) r
def gTr:Pz Bool:=cM [116,114,117,101] (aQ true) (aH (gNd [102,97,108,115,101]) fun _=>aQ false)
def gFg:Pz Fg:=aH gNm fun n=>aH (gNd [61]) fun _=>aH gTr fun b=>aH (gNd [59]) fun _=>aQ ⟨n,b⟩
def gLk:Pz Lk:=aH gNm fun n=>aH (gNd [45,62]) fun _=>aH gNm fun m=>aH (gNd [108,97,116,101,110,99,121]) fun _=>aH gNu fun v=>aH (gNd [59]) fun _=>aQ ⟨n,m,v⟩
def rT:Pz Int64:=cM [45] (aH gNu fun v=>aQ (-v)) gNu
def gVr:Pz Vr:=aH gNm fun n=>aH (gNd [58]) fun _ =>
 cM [105,110,116] (aH (gNd [61]) fun _=>aH rT fun v=>aH (gNd [59]) fun _=>aQ ⟨n,1,v⟩)<|cM [98,111,111,108] (aH (gNd [61]) fun _=>aH gTr fun b=>aH (gNd [59]) fun _=>aQ ⟨n,2,if b then 1 else 0⟩)<|aH (gNd [116,97,98,108,101]) fun _=>aH (gNd [59]) fun _=>aQ ⟨n,3,0⟩
def gHd:Pz Hd:=aH gNm fun n=>aH (eD gNm) fun l=>aH (iF gB) fun b=>aQ ⟨n,l,b⟩
def gVs:Pz (List Hd):=dD [111,110] gHd
def gVn (n:Str):Pz (List Hd):=aH (gNn n) fun _=>aH (gNd [123]) fun _=>aH gVs fun v=>aH (gNd [125]) fun _=>aQ v
def gVm:Pz (List (List Hd)):=cM [118,101,114,115,105,111,110] (aH (gVn [50]) fun v=>cM [118,101,114,115,105,111,110] (aH (gVn [51]) fun w=>aQ [v,w]) (aQ [v])) (aQ [])
def gCp:Pz Cp:=aH gNm fun n=>aH (gNd [123]) fun _=>aH (dD [118,97,114] gVr) fun vs=>aH gVs fun v=>aH gVm fun l=>aH (gNd [125]) fun _=>aQ ⟨n,vs,v::l⟩
def gFt:Pz Ft:=aH (gNd [102,108,101,101,116]) fun _=>aH gNm fun n=>aH (gNd [123]) fun _=>aH (dD [102,108,97,103] gFg) fun fs=>aH (dD [108,105,110,107] gLk) fun ls=>aH (dD [99,111,109,112,111,110,101,110,116] gCp) fun cs=>aH (gNd [125]) fun _=>aQ ⟨n,fs,ls,cs⟩
/-! ### Rules that consume -/
section
variable {α β:Type}
def Shr (p:Pz α):Prop:=∀ r a r',p r=.ok a r'→r'.length≤r.length
def Shs (p:Pz α):Prop:=∀ r a r',p r=.ok a r'→r'.length<r.length
theorem Shs.le {p:Pz α} (h:Shs p):Shr p:=fun r a r' e=>Nat.le_of_lt (h r a r' e)
theorem Shr.pure (a:α):Shr (aQ a):=fun r a r' e=>by injection e with _ e;subst e;exact Nat.le_refl _
theorem Shr.bind {p:Pz α} {f:α→Pz β} (h:Shr p) (k:∀ a,Shr (f a)):Shr (aH p f):=fun r b r' e=>by
 obtain ⟨a,q,h1,h2⟩:=Rs.bind_ok e;have:=h _ _ _ h1;have:=k _ _ _ _ h2;omega
theorem Shs.bind {p:Pz α} {f:α→Pz β} (h:Shs p) (k:∀ a,Shr (f a)):Shs (aH p f):=fun r b r' e=>by
 obtain ⟨a,q,h1,h2⟩:=Rs.bind_ok e;have:=h _ _ _ h1;have:=k _ _ _ _ h2;omega
theorem Shs.nd (w:Str):Shs (gNd w):=fun r a r' e=>by
 unfold gNd at e
 split at e
 ·rename_i h;injection e with _ e;subst e;have:=dV h;omega
 ·cases e
theorem UD {w:Str} {r:List Tk} (h:isN w r=true):r.length=r.tail.length+1:=by cases r with | nil=>cases h | cons t q=>rfl
theorem Shs.nn (w:Str):Shs (gNn w):=fun r a r' e=>by
 unfold gNn at e
 split at e
 ·rename_i h;injection e with _ e;subst e;have:=UD h;omega
 ·cases e
theorem Shs.nm:Shs gNm:=fun r a r' e=>by
 unfold gNm at e
 split at e
 ·cases e
 ·split at e
  ·injection e with _ e;subst e;simp
  ·cases e
theorem Shs.nu:Shs gNu:=fun r a r' e=>by
 unfold gNu at e
 split at e
 ·cases e
 ·split at e
  ·split at e
   ·injection e with _ e;subst e;simp
   ·cases e
  ·cases e
theorem Shs.ex:Shs gEx:=fun r a r' e=>(pO _).1 _ _ _ _ e
theorem Shr.alt {w:Str} {p q:Pz α} (h:Shr p) (k:Shr q):Shr (cM w p q):=fun r a r' e=>by
 unfold cM at e
 split at e
 ·rename_i h2;have:=dV h2;have:=h _ _ _ e;omega
 ·exact k _ _ _ e
theorem Shs.alt {w:Str} {p q:Pz α} (h:Shr p) (k:Shs q):Shs (cM w p q):=fun r a r' e=>by
 unfold cM at e
 split at e
 ·rename_i h2;have:=dV h2;have:=h _ _ _ e;omega
 ·exact k _ _ _ e
theorem Shr.many {w:Str} {p:Pz α} (h:Shr p):Shr (dD w p):=by
 have key:∀ f,Shr (iT w p f):=fun f=>by
  induction f with
  | zero=>intro r a r' e;cases e
  | succ f ih=>exact .alt (.bind h fun a=>.bind ih fun l=>.pure _) (.pure _)
 exact fun r a r' e=>key _ _ _ _ e
theorem sO {w:Str} {p:Pz α} (h:Shr p):∀ (f g:Nat) (r:List Tk),r.length<f→r.length<g→iT w p f r=iT w p g r
 | 0,_,_,k,_=>by omega
 | _,0,_,_,k=>by omega
 | f+1,g+1,r,k1,k2=>by
  unfold iT cM
  split
  ·rename_i e;have:=dV e;refine Rs.bind_congr rfl fun a q e2=>?_;have:=h _ _ _ e2;exact Rs.bind_congr (sO h f g q (by omega) (by omega)) fun _ _ _=>rfl
  ·rfl
theorem lZ {w:Str} {p:Pz α} (h:Shr p):dD w p=cM w (aH p fun a=>aH (dD w p) fun l=>aQ (a::l)) (aQ []):=funext fun r=>by
 unfold dD
 conv=>lhs;unfold iT
 unfold cM
 split
 ·rename_i e;have:=dV e;refine Rs.bind_congr rfl fun a q e2=>?_;have:=h _ _ _ e2;exact Rs.bind_congr (sO h _ _ q (by omega) (by omega)) fun _ _ _=>rfl
 ·rfl
theorem Shs.list {p:Pz α} (h:Shr p):Shs (eD p):=.bind (.nd _) fun _=>.alt (.pure _) (.bind h fun _=>.bind (.many h) fun _=>.bind (Shs.nd _).le fun _=>.pure _)
/-! ### Rules that agree on short lists of tokens -/
def Agz (n:Nat) (p q:Pz α):Prop:=∀ r,r.length≤n→p r=q r
theorem Agz.rfl' {n:Nat} {p:Pz α}:Agz n p p:=fun _ _=>rfl
theorem Agz.bind {n:Nat} {p q:Pz α} {f g:α→Pz β} (hp:Shr p) (h:Agz n p q) (k:∀ a,Agz n (f a) (g a)):Agz n (aH p f) (aH q g):=fun r hr =>
 Rs.bind_congr (h r hr) fun a r' e=>k a r' (Nat.le_trans (hp _ _ _ e) hr)
theorem Agz.alt {n:Nat} {w:Str} {p q p' q':Pz α} (h:Agz (n - 1) p p') (k:Agz n q q'):Agz n (cM w p q) (cM w p' q'):=fun r hr=>by
 unfold cM
 split
 ·rename_i e;have:=dV e;exact h _ (by omega)
 ·exact k r hr
theorem Agz.altr {n:Nat} {w:Str} {p q p' q':Pz α} (h:Agz n p p') (k:Agz n q q'):Agz n (cM w p q) (cM w p' q'):=.alt (fun r hr=>h r (by omega)) k
end
theorem Shs.blk {b:Pz (List Sm)} (h:Shr b):Shs (iF b):=.bind (.nd _) fun _=>.bind h fun _=>.bind (Shs.nd _).le fun _=>.pure _
theorem Shr.els {b:Pz (List Sm)} (h:Shr b):Shr (rU b):=.alt (Shs.blk h).le (.pure _)
theorem Shr.oth {b:Pz (List Sm)} (h:Shr b):Shr (kB b):=.alt (Shs.blk h).le (.bind (Shs.nd _).le fun _=>.pure _)
theorem Shs.st {b:Pz (List Sm)} (h:Shr b):Shs (gSt b) :=
 .alt (.bind Shs.ex.le fun _=>.bind (Shs.blk h).le fun _=>.bind (.els h) fun _=>.pure _)<|.alt (.bind Shs.ex.le fun _=>.bind (Shs.blk h).le fun _=>.pure _)<|.alt (.bind Shs.ex.le fun _=>.bind (Shs.nd _).le fun _=>.bind Shs.ex.le fun _=>.bind (.oth h) fun _=>.pure _)<|.alt (.bind Shs.nm.le fun _=>.bind (Shs.nd _).le fun _=>.bind Shs.ex.le fun _=>.bind (.oth h) fun _=>.pure _)<|.alt (.bind Shs.nm.le fun _=>.bind (Shs.nd _).le fun _=>.bind Shs.nm.le fun _=>.bind (Shs.list Shs.ex.le).le fun _=>.bind (Shs.nd _).le fun _=>.pure _)<|.alt (.bind Shs.ex.le fun _=>.bind (Shs.nd _).le fun _=>.bind Shs.nm.le fun _=>.bind (Shs.list Shs.ex.le).le fun _=>.bind (Shs.nd _).le fun _=>.pure _)<|.alt (.bind (Shs.nd _).le fun _=>.pure _)<|.alt (.bind Shs.nm.le fun _=>.bind (Shs.nd _).le fun _=>.bind Shs.ex.le fun _=>.bind (Shs.nd _).le fun _=>.bind (Shs.nd _).le fun _=>.pure _)<|.bind .nm fun _=>.alt (.bind Shs.ex.le fun _=>.bind (Shs.nd _).le fun _=>.bind (Shs.nd _).le fun _=>.bind Shs.ex.le fun _=>.bind (Shs.nd _).le fun _=>.pure _) (.bind (Shs.nd _).le fun _=>.bind Shs.ex.le fun _=>.bind (Shs.nd _).le fun _=>.pure _)
theorem Agz.blk {n:Nat} {b c:Pz (List Sm)} (h:Agz n b c) (hb:Shr b):Agz n (iF b) (iF c):=.bind (Shs.nd _).le .rfl' fun _=>.bind hb h fun _=>.rfl'
theorem Agz.els {n:Nat} {b c:Pz (List Sm)} (h:Agz n b c) (hb:Shr b):Agz n (rU b) (rU c):=.altr (.blk h hb) .rfl'
theorem Agz.oth {n:Nat} {b c:Pz (List Sm)} (h:Agz n b c) (hb:Shr b):Agz n (kB b) (kB c):=.altr (.blk h hb) .rfl'
theorem Agz.st {n:Nat} {b c:Pz (List Sm)} (h:Agz (n - 1) b c) (hb:Shr b):Agz n (gSt b) (gSt c) :=
 .alt (.bind Shs.ex.le .rfl' fun _=>.bind (Shs.blk hb).le (.blk h hb) fun _=>.bind (.els hb) (.els h hb) fun _=>.rfl')<|.alt (.bind Shs.ex.le .rfl' fun _=>.bind (Shs.blk hb).le (.blk h hb) fun _=>.rfl')<|.alt (.bind Shs.ex.le .rfl' fun _=>.bind (Shs.nd _).le .rfl' fun _=>.bind Shs.ex.le .rfl' fun _=>.bind (.oth hb) (.oth h hb) fun _=>.rfl')<|.alt (.bind Shs.nm.le .rfl' fun _=>.bind (Shs.nd _).le .rfl' fun _=>.bind Shs.ex.le .rfl' fun _=>.bind (.oth hb) (.oth h hb) fun _=>.rfl') .rfl'
theorem mP:∀ f,Shr (gBF f)
 | 0=>fun _ _ _ e=>by cases e
 | f+1=>fun r a r' e=>by
  unfold gBF at e
  split at e
  ·injection e with _ e;subst e;exact Nat.le_refl _
  ·obtain ⟨s,q,h1,h2⟩:=Rs.bind_ok e;obtain ⟨l,q2,h3,h4⟩:=Rs.bind_ok h2;injection h4 with _ h4;subst h4
   have:=(Shs.st (mP f)) _ _ _ h1;have:=mP f _ _ _ h3;omega
theorem Shr.b:Shr gB:=fun _ _ _ e=>mP _ _ _ _ e
theorem qV:∀ (f g:Nat) (r:List Tk),r.length<f→r.length<g→gBF f r=gBF g r
 | 0,_,_,k,_=>by omega
 | _,0,_,_,k=>by omega
 | f+1,g+1,[],_,_=>rfl
 | f+1,g+1,t::r,k1,k2=>by
  unfold gBF;simp only [List.length_cons] at k1 k2;refine ifC rfl (Rs.bind_congr (Agz.st (n:=(t::r).length) (fun q hq=>?_) (mP f) _ (Nat.le_refl _)) fun s q e=>?_)
  ·simp only [List.length_cons] at hq;exact qV f g q (by omega) (by omega)
  ·have:=(Shs.st (mP f)) _ _ _ e;simp only [List.length_cons] at this;exact Rs.bind_congr (qV f g q (by omega) (by omega)) fun _ _ _=>rfl
theorem GG (r:List Tk):gB r=if isT [125] r then .ok [] r else (gSt gB r).bind fun s r1=>(gB r1).bind fun l r2=>.ok (s::l) r2:=by
 match r with
 | []=>rfl
 | t::r =>
  conv=>lhs;unfold gB;unfold gBF
  refine ifC rfl (Rs.bind_congr (Agz.st (n:=(t::r).length) (fun q hq=>?_) (mP _) _ (Nat.le_refl _)) fun s q e=>?_)
  ·simp only [List.length_cons] at hq;exact qV _ _ q (by simp only [List.length_cons];omega) (by omega)
  ·have:=(Shs.st (mP _)) _ _ _ e;exact Rs.bind_congr (qV _ _ q (by omega) (by omega)) fun _ _ _=>rfl
def hdO (r:List Tk):Option Kt:=r.head?.map kt
def hdC (k:List Kt) (o:Option Kt):Option Kt:=match k with | []=>o | x::_=>some x
theorem zH {l r:List Tk} {k:List Kt} (h:l.map kt=k):hdO (l++r)=hdC k (hdO r):=by
 subst h;cases l <;> rfl
def kC (_:Option Kt):Prop:=True
def lU (w:Str):Option Kt→Prop
 | none=>True
 | some x=>isK w x=false
def SZ:Option Kt→Prop
 | none=>True
 | some x=>(∀ i∈List.range 5,opK i x=none)∧isK [91] x=false
theorem zD (w:Str) (r:List Tk):isT w r=match hdO r with | none=>false | some x=>isK w x:=by cases r <;> rfl
theorem MB {w:Str} {r:List Tk} (h:lU w (hdO r)):isT w r=false:=by
 rw [zD];cases e:hdO r with
 | none=>rfl
 | some x=>rw [e] at h;exact h
section
variable {α β:Type}
def Rdc (p:Pz α) (ks:List Kt) (v:α) (C:Option Kt→Prop):Prop:=∀ le r,le.map kt=ks→C (hdO r)→p (le++r)=.ok v r
variable {k k1 k2:List Kt} {v a:α} {C C1 C2:Option Kt→Prop} {w:Str} {x:Kt}
theorem Rdc.pure:Rdc (aQ v) [] v C:=fun le r e _=>by
 obtain rfl:=List.map_eq_nil_iff.1 e;rfl
theorem Rdc.seq {p:Pz α} {f:α→Pz β} {b:β} (h1:Rdc p k1 a C1) (hc:∀ o,C2 o→C1 (hdC k2 o)) (h2:Rdc (f a) k2 b C2):Rdc (aH p f) (k1++k2) b C2:=fun le r e c=>by
 obtain ⟨l1,l2,rfl,e1,e2⟩:=List.map_eq_append_iff.1 e;unfold aH;rw [List.append_assoc,h1 l1 (l2++r) e1 (by rw [zH e2];exact hc _ c)];exact h2 l2 r e2 c
theorem Rdc.nd {f:Unit→Pz β} {b:β} (hx:isK w x=true) (h:Rdc (f ()) k b C):Rdc (aH (gNd w) f) (x::k) b C:=fun le r e c=>by
 obtain ⟨t,l,rfl,ht,hl⟩:=List.map_eq_cons_iff.1 e;unfold aH gNd;rw [List.cons_append,bZ,ht,hx];exact h l r hl c
theorem Rdc.nn {f:Unit→Pz β} {b:β} (h:Rdc (f ()) k b C):Rdc (aH (gNn w) f) ((3,w)::k) b C:=fun le r e c=>by
 obtain ⟨t,l,rfl,ht,hl⟩:=List.map_eq_cons_iff.1 e;have h1:t.k=3:=congrArg Prod.fst ht;have h2:t.t=w:=congrArg Prod.snd ht;have hN:isN w (t::(l++r))=true:=by simp [isN,h1,h2]
 unfold aH gNn;rw [List.cons_append,hN];exact h l r hl c
theorem Rdc.nm {f:Str→Pz β} {b:β} (h:Rdc (f w) k b C):Rdc (aH gNm f) ((1,w)::k) b C:=fun le r e c=>by
 obtain ⟨t,l,rfl,ht,hl⟩:=List.map_eq_cons_iff.1 e;have h1:t.k=1:=congrArg Prod.fst ht;have h2:t.t=w:=congrArg Prod.snd ht;unfold aH gNm;rw [List.cons_append];simp only [h1,h2,if_true];exact h l r hl c
theorem Rdc.nm1:Rdc gNm [(1,w)] w C:=fun le r e c=>by
 obtain ⟨t,l,rfl,ht,hl⟩:=List.map_eq_cons_iff.1 e;obtain rfl:=List.map_eq_nil_iff.1 hl;have h1:t.k=1:=congrArg Prod.fst ht;have h2:t.t=w:=congrArg Prod.snd ht;unfold gNm;rw [List.cons_append];simp only [h1,h2,if_true]
 rfl
theorem Rdc.nu {u:Nat} (h:u≤9223372036854775807):Rdc gNu [(3,Lib.decDigits u)] (Int64.ofNat u) C:=fun le r e c=>by
 obtain ⟨t,l,rfl,ht,hl⟩:=List.map_eq_cons_iff.1 e;obtain rfl:=List.map_eq_nil_iff.1 hl;have h1:t.k=3:=congrArg Prod.fst ht;have h2:t.t=Lib.decDigits u:=congrArg Prod.snd ht;unfold gNu;rw [List.cons_append];simp only [h1,h2,if_true,sM,h]
 rfl
theorem Rdc.altT {p q:Pz α} (hx:isK w x=true) (h:Rdc p k v C):Rdc (cM w p q) (x::k) v C:=fun le r e c=>by
 obtain ⟨t,l,rfl,ht,hl⟩:=List.map_eq_cons_iff.1 e;unfold cM;rw [List.cons_append,bZ,ht,hx];exact h l r hl c
theorem Rdc.altF {p q:Pz α} (hx:isK w x=false) (h:Rdc q (x::k) v C):Rdc (cM w p q) (x::k) v C:=fun le r e c=>by
 have h2:=h le r e c;obtain ⟨t,l,rfl,ht,hl⟩:=List.map_eq_cons_iff.1 e;unfold cM;rw [List.cons_append,bZ,ht,hx];exact h2
theorem Rdc.altE {p q:Pz α} (hc:∀ o,C o→lU w o) (h:Rdc q [] v C):Rdc (cM w p q) [] v C:=fun le r e c=>by
 have h2:=h le r e c;obtain rfl:=List.map_eq_nil_iff.1 e;unfold cM;rw [List.nil_append,MB (hc _ c),if_neg (by decide)];exact h2
theorem Rdc.many {p:Pz α} (hp:Shr p) (hx:isK w x=true) {g:α→List Kt} {Cp:Option Kt→Prop} (h1:Cp (some x)) (hc:∀ o,C o→Cp o∧lU w o):∀ l:List α,(∀ a∈l,Rdc p (g a) a Cp)→Rdc (dD w p) ((l.map fun a=>x::g a).flatten) l C
 | [],_=>by
  rw [lZ hp];exact .altE (fun o c=>(hc o c).2) .pure
 | a::l,h=>by
  have ih:=Rdc.many hp hx h1 hc l fun b hb=>h b (List.mem_cons_of_mem _ hb);rw [lZ hp];simp only [List.map_cons,List.flatten_cons,List.cons_append];refine .altT hx (.seq (h a (List.mem_cons_self ..)) (fun o c=>?_) ?_)
  ·cases l with
   | nil=>exact (hc o c).1
   | cons b l=>exact h1
  ·have:=Rdc.seq (f:=fun l=>aQ (a::l)) (k2:=[]) ih (fun o c=>c) .pure
   rwa [List.append_nil] at this
def JP (l:List (List Kt)):List Kt:=(l.map fun k=>(4,[44])::k).flatten
def TE:List (List Kt)→List Kt
 | []=>[]
 | k::l=>k++JP l
def BW (l:List (List Kt)):List Kt:=(4,[40])::(TE l++[(4,[41])])
theorem Rdc.list {p:Pz α} (hp:Shr p) {g:α→List Kt} {Cp:Option Kt→Prop} (h1:Cp (some (4,[44]))) (h2:Cp (some (4,[41]))) {l:List α} (h:∀ a∈l,Rdc p (g a) a Cp) (hg:∀ a∈l,∃ x k,g a=x::k∧isK [41] x=false):Rdc (eD p) (BW (l.map g)) l C:=by
 refine .nd Z ?_;cases l with
 | nil=>exact .altT rfl .pure
 | cons a l =>
  obtain ⟨x,k,e,hk⟩:=hg a (List.mem_cons_self ..);have ha:=h a (List.mem_cons_self ..)
  have hm:Rdc (dD [44] p) (JP (l.map g)) l (fun o=>o=some (4,[41])):=by
   have:=Rdc.many (C:=fun o=>o=some (4,[41])) hp (w:=[44]) (x:=(4,[44])) rfl (g:=g) h1 (fun o c=>by subst c;exact ⟨h2,rfl⟩) l fun b hb=>h b (List.mem_cons_of_mem _ hb);unfold JP
   rwa [List.map_map]
  have key:Rdc (aH p fun a=>aH (dD [44] p) fun l=>aH (gNd [41]) fun _=>aQ (a::l)) (g a++(JP (l.map g)++[(4,[41])])) (a::l) C:=by
   refine .seq ha (fun o c=>?_) (.seq hm (fun o c=>rfl) (.nd Z .pure));cases l with
   | nil=>exact h2
   | cons b l=>exact h1
  simp only [List.map_cons,TE,List.append_assoc];rw [e] at key ⊢;exact .altF hk key
end
def stK (kd:UInt8) (nm hd:Str) (es:List (List Kt)) (T:List Kt) (noE:Bool) (E:List Kt):List Kt :=
 if kd=1 then (1,nm)::(4,[61])::(es.getD 0 []++[(4,[59])])
 else if kd=2 then (1,nm)::(4,[91])::(es.getD 0 []++(4,[93])::(4,[61])::(es.getD 1 []++[(4,[59])]))
 else if kd=3 then (2,[100,101,108,101,116,101])::(1,nm)::(4,[91])::(es.getD 0 []++[(4,[93]),(4,[59])])
 else if kd=4 then (2,[105,102])::(es.getD 0 []++((4,[123])::(T++[(4,[125])])++if noE then [] else (2,[101,108,115,101])::(4,[123])::(E++[(4,[125])])))
 else if kd=5 then (2,[119,104,105,108,101])::(es.getD 0 []++(4,[123])::(T++[(4,[125])]))
 else if kd=6 then (2,[115,101,110,100])::(1,nm)::(4,[46])::(1,hd)::(BW es++[(4,[59])])
 else if kd=7 then (2,[97,102,116,101,114])::(es.getD 0 []++(2,[100,111])::(1,hd)::(BW (es.drop 1)++[(4,[59])]))
 else if kd=8 then (2,[115,116,111,114,101])::(es.getD 0 []++(4,[61])::(es.getD 1 []++if noE then [(4,[59])] else (2,[101,108,115,101])::(4,[123])::(E++[(4,[125])])))
 else if kd=9 then (2,[102,101,116,99,104])::(1,nm)::(4,[61])::(es.getD 0 []++if noE then [(4,[59])] else (2,[101,108,115,101])::(4,[123])::(E++[(4,[125])]))
 else [(2,[115,116,111,112]),(4,[59])]
mutual
def ktS:Sm→List Kt
 | .mk kd nm hd ex th el=>stK kd nm hd (ex.map ktE) (kM th) (decide (el.length=0)) (kM el)
def kM:List Sm→List Kt
 | []=>[]
 | s::r=>ktS s++kM r
end
theorem kN (kd:UInt8) (nm hd:Str) (ex:List Ex) (th el:List Sm):ktS (.mk kd nm hd ex th el)=stK kd nm hd (ex.map ktE) (kM th) (decide (el.length=0)) (kM el):=by rw [ktS]
theorem Rdc.ex {e:Ex} (h:Ex.all dL e=true):Rdc gEx (ktE e) e SZ:=fun le r hk c=>by
 obtain ⟨h1,h2⟩:=TH e h;refine h1.full hk (by omega) h2 ⟨fun i _ h4=>?_,?_⟩
 ·cases r with
  | nil=>unfold opAt isT;simp
  | cons t r=>exact c.1 i (List.mem_range.2 (by omega))
 ·cases r with
  | nil=>rfl
  | cons t r=>exact c.2
theorem UA (e:Ex):Ex.all dL e=true→∃ x k,ktE e=x::k∧isK [41] x=false:=by
 induction e using Ex.ind with
 | _ op nm n args ih =>
  intro h;rw [eK,Bool.and_eq_true] at h;obtain ⟨hf,hr⟩:=h;have ha:∀ a∈args,∃ x k,ktE a=x::k∧isK [41] x=false:=fun a m=>ih a m (bV m hr);simp only [dL,Bool.and_eq_true,Bool.or_eq_true,decide_eq_true_eq] at hf;obtain ⟨⟨⟨hop,hl⟩,_⟩,_⟩:=hf
  by_cases h1:op=1
  ·subst h1;exact ⟨_,_,rfl,by simp [isK]⟩
  by_cases hb:op∈([11,12,13,14,15,16,17,18,19,20,21,22,23]:List UInt8)
  ·obtain ⟨b1,_⟩:=mD op hb;obtain ⟨a,b,rfl⟩:=iY (l:=args) (by omega);rw [zC hb];unfold oY
   split
   ·exact ⟨_,_,rfl,rfl⟩
   ·obtain ⟨x,k,e,hx⟩:=ha a (by simp);rw [e];exact ⟨_,_,rfl,hx⟩
  have hs:op=2∨op=3∨op=4∨op=5∨op=6∨op=7∨op=8∨op=9∨op=10:=((uT hop).resolve_left h1).resolve_left hb;rcases hs with rfl | rfl | rfl | rfl | rfl | rfl | rfl | rfl | rfl
  all_goals first | exact ⟨_,_,rfl,rfl⟩ | exact ⟨_,_,rfl,by decide⟩
theorem Rdc.exs {C:Option Kt→Prop} {l:List Ex} (h:∀ a∈l,Ex.all dL a=true):Rdc (eD gEx) (BW (l.map ktE)) l C :=
 .list Shs.ex.le ⟨by decide,by decide⟩ ⟨by decide,by decide⟩ (fun a ha=>.ex (h a ha)) fun a ha=>UA a (h a ha)
def sX (o:Option Kt):Prop:=o=some (4,[125])
theorem Rdc.blk {C:Option Kt→Prop} {l:List Sm} (h:Rdc gB (kM l) l sX):Rdc (iF gB) ((4,[123])::(kM l++[(4,[125])])) l C :=
 .nd rfl (.seq h (fun _ _=>rfl) (.nd rfl .pure))
theorem DV {kd:UInt8} (h:gE kd=true):kd=1∨kd=2∨kd=3∨kd=4∨kd=5∨kd=6∨kd=7∨kd=8∨kd=9∨kd=10:=by
 simp only [gE,Bool.and_eq_true,decide_eq_true_eq] at h;have key:∀ i∈List.range 11,1≤i→(UInt8.ofNat i=1∨UInt8.ofNat i=2∨UInt8.ofNat i=3∨UInt8.ofNat i=4∨UInt8.ofNat i=5∨UInt8.ofNat i=6∨UInt8.ofNat i=7∨UInt8.ofNat i=8∨UInt8.ofNat i=9∨UInt8.ofNat i=10):=by decide
 have:=key kd.toNat (List.mem_range.2 (by omega)) h.1
 rwa [UInt8.ofNat_toNat] at this
theorem NI {l:List Ex} (h:l.length=1) (hf:Ex.alls dL l=true):∃ a,l=[a]∧Ex.all dL a=true:=by
 obtain ⟨a,rfl⟩:=rD h;exact ⟨a,rfl,bV (by simp) hf⟩
theorem WH {l:List Ex} (h:l.length=2) (hf:Ex.alls dL l=true):∃ a b,l=[a,b]∧Ex.all dL a=true∧Ex.all dL b=true:=by
 obtain ⟨a,b,rfl⟩:=iY h;exact ⟨a,b,rfl,bV (by simp) hf,bV (by simp) hf⟩
inductive FmS:Sm→Prop where
 | k1 {nm:Str} {a:Ex} (ha:Ex.all dL a=true):FmS (.mk 1 nm [] [a] [] [])
 | k2 {nm:Str} {a b:Ex} (ha:Ex.all dL a=true) (hb:Ex.all dL b=true):FmS (.mk 2 nm [] [a,b] [] [])
 | k3 {nm:Str} {a:Ex} (ha:Ex.all dL a=true):FmS (.mk 3 nm [] [a] [] [])
 | k4 {a:Ex} {th el:List Sm} (ha:Ex.all dL a=true):FmS (.mk 4 [] [] [a] th el)
 | k5 {a:Ex} {th:List Sm} (ha:Ex.all dL a=true):FmS (.mk 5 [] [] [a] th [])
 | k6 {nm hd:Str} {l:List Ex} (hl:∀ a∈l,Ex.all dL a=true):FmS (.mk 6 nm hd l [] [])
 | k7 {hd:Str} {a:Ex} {l:List Ex} (ha:Ex.all dL a=true) (hl:∀ a∈l,Ex.all dL a=true):FmS (.mk 7 [] hd (a::l) [] [])
 | k8 {a b:Ex} {el:List Sm} (ha:Ex.all dL a=true) (hb:Ex.all dL b=true):FmS (.mk 8 [] [] [a,b] [] el)
 | k9 {nm:Str} {a:Ex} {el:List Sm} (ha:Ex.all dL a=true):FmS (.mk 9 nm [] [a] [] el)
 | k10:FmS (.mk 10 [] [] [] [] [])
theorem xI {s:Sm} (h:jQ s=true):FmS s:=by
 obtain ⟨kd,nm,hd,ex,th,el⟩:=s;simp only [jQ,Bool.and_eq_true,Bool.or_eq_true,decide_eq_true_eq] at h;obtain ⟨⟨⟨⟨⟨⟨⟨hk,h1⟩,h2⟩,h3⟩,h4⟩,h5⟩,h6⟩,h7⟩:=h;have z:∀ {l:List Sm},l.length=0→l=[]:=List.eq_nil_of_length_eq_zero;rcases DV hk with rfl | rfl | rfl | rfl | rfl | rfl | rfl | rfl | rfl | rfl
 ·obtain rfl:=h4.resolve_left (by decide);obtain rfl:=z (h5.resolve_left (by decide));obtain rfl:=z (h6.resolve_left (by decide));obtain ⟨a,rfl,ha⟩:=NI (Nat.le_antisymm h2 h1) h7;exact .k1 ha
 ·obtain rfl:=h4.resolve_left (by decide);obtain rfl:=z (h5.resolve_left (by decide));obtain rfl:=z (h6.resolve_left (by decide));obtain ⟨a,b,rfl,ha,hb⟩:=WH (Nat.le_antisymm h2 h1) h7;exact .k2 ha hb
 ·obtain rfl:=h4.resolve_left (by decide);obtain rfl:=z (h5.resolve_left (by decide));obtain rfl:=z (h6.resolve_left (by decide));obtain ⟨a,rfl,ha⟩:=NI (Nat.le_antisymm h2 h1) h7;exact .k3 ha
 ·obtain rfl:=h3.resolve_left (by decide);obtain rfl:=h4.resolve_left (by decide);obtain ⟨a,rfl,ha⟩:=NI (Nat.le_antisymm h2 h1) h7;exact .k4 ha
 ·obtain rfl:=h3.resolve_left (by decide);obtain rfl:=h4.resolve_left (by decide);obtain rfl:=z (h6.resolve_left (by decide));obtain ⟨a,rfl,ha⟩:=NI (Nat.le_antisymm h2 h1) h7;exact .k5 ha
 ·obtain rfl:=z (h5.resolve_left (by decide));obtain rfl:=z (h6.resolve_left (by decide));exact .k6 fun a ha=>bV ha h7
 ·obtain rfl:=h3.resolve_left (by decide);obtain rfl:=z (h5.resolve_left (by decide));obtain rfl:=z (h6.resolve_left (by decide));cases ex with
  | nil=>exact absurd h1 (by decide)
  | cons a l=>exact .k7 (bV (by simp) h7) fun b hb=>bV (by simp [hb]) h7
 ·obtain rfl:=h3.resolve_left (by decide);obtain rfl:=h4.resolve_left (by decide);obtain rfl:=z (h5.resolve_left (by decide));obtain ⟨a,b,rfl,ha,hb⟩:=WH (Nat.le_antisymm h2 h1) h7;exact .k8 ha hb
 ·obtain rfl:=h4.resolve_left (by decide);obtain rfl:=z (h5.resolve_left (by decide));obtain ⟨a,rfl,ha⟩:=NI (Nat.le_antisymm h2 h1) h7;exact .k9 ha
 ·obtain rfl:=h3.resolve_left (by decide);obtain rfl:=h4.resolve_left (by decide);obtain rfl:=z (h5.resolve_left (by decide));obtain rfl:=z (h6.resolve_left (by decide));obtain rfl:=xZ (Nat.le_zero.1 h2);exact .k10
theorem MS {s:Sm} (h:FmS s):∃ x k,ktS s=x::k∧isK [125] x=false∧isK [101,108,115,101] x=false:=by
 cases h <;> rw [kN] <;> exact ⟨_,_,rfl,rfl,rfl⟩
def RdS (s:Sm):Prop:=Rdc (gSt gB) (ktS s) s (lU [101,108,115,101])
theorem yH {x:Kt} (h1:(List.range 5).all (fun i=>(opK i x).isNone)=true) (h2:isK [91] x=false):SZ (some x):=⟨fun i hi=>by simpa using List.all_eq_true.1 h1 i hi,h2⟩
theorem Rdc.oth {C:Option Kt→Prop} {el:List Sm} (h:Rdc gB (kM el) el sX):Rdc (kB gB) (if decide (el.length=0)=true then [(4,[59])] else (2,[101,108,115,101])::(4,[123])::(kM el++[(4,[125])])) el C:=by
 split
 ·rename_i e;obtain rfl:=List.eq_nil_of_length_eq_zero (of_decide_eq_true e);exact .altF Z (.nd Z .pure)
 ·exact .altT Z (.blk h)
theorem FO (el:List Sm) (o:Option Kt):SZ (hdC (if decide (el.length=0)=true then [(4,[59])] else (2,[101,108,115,101])::(4,[123])::(kM el++[(4,[125])])) o):=by
 split <;> exact yH rfl rfl
theorem Rdc.st {s:Sm} (h:FmS s) (ht:∀ nm hd kd ex th el,s=.mk kd nm hd ex th el→Rdc gB (kM th) th sX∧Rdc gB (kM el) el sX):RdS s:=by
 unfold RdS;cases h with
 | k1 ha=>exact .altF rfl<|.altF rfl<|.altF rfl<|.altF rfl<|.altF rfl<|.altF rfl<|.altF rfl<|.altF rfl<|.nm<|.altF rfl<|.nd rfl<|.seq (.ex ha) (fun _ _=>yH rfl rfl)<|.nd rfl .pure
 | k2 ha hb=>exact .altF rfl<|.altF rfl<|.altF rfl<|.altF rfl<|.altF rfl<|.altF rfl<|.altF rfl<|.altF rfl<|.nm<|.altT rfl<|.seq (.ex ha) (fun _ _=>yH rfl rfl)<|.nd rfl<|.nd rfl<|.seq (.ex hb) (fun _ _=>yH rfl rfl)<|.nd rfl .pure
 | k3 ha=>exact .altF rfl<|.altF rfl<|.altF rfl<|.altF rfl<|.altF rfl<|.altF rfl<|.altF rfl<|.altT rfl<|.nm<|.nd rfl<|.seq (.ex ha) (fun _ _=>yH rfl rfl)<|.nd rfl<|.nd rfl .pure
 | @k4 a th el ha =>
  obtain ⟨h1,h2⟩:=ht _ _ _ _ _ _ rfl;refine .altT Z<|.seq (.ex ha) (fun _ _=>yH Z Z)<|.seq (C1:=kC) (.blk h1) (fun _ _=>trivial) ?_
  split
  ·rename_i e;obtain rfl:=List.eq_nil_of_length_eq_zero (of_decide_eq_true e);exact Rdc.seq (k1:=[]) (k2:=[]) (C1:=lU [101,108,115,101]) (.altE (fun o c=>c) .pure) (fun o c=>c) .pure
  ·have:=Rdc.seq (C2:=lU [101,108,115,101]) (f:=fun l=>aQ (Sm.mk 4 [] [] [a] th l)) (k2:=[]) (C1:=kC) (.altT (w:=[101,108,115,101]) (q:=aQ []) (x:=(2,[101,108,115,101])) rfl (.blk h2)) (fun o c=>trivial) .pure
   rwa [List.append_nil] at this
 | @k5 a th ha =>
  obtain ⟨h1,_⟩:=ht _ _ _ _ _ _ rfl;have:=Rdc.seq (C2:=lU [101,108,115,101]) (f:=fun t=>aQ (Sm.mk 5 [] [] [a] t [])) (k2:=[]) (C1:=kC) (.blk h1) (fun o c=>trivial) .pure;rw [List.append_nil] at this;exact .altF Z<|.altT Z<|.seq (.ex ha) (fun _ _=>yH Z Z) this
 | k6 hl=>exact .altF rfl<|.altF rfl<|.altF rfl<|.altF rfl<|.altT rfl<|.nm<|.nd rfl<|.nm<|.seq (C1:=kC) (.exs hl) (fun _ _=>trivial)<|.nd rfl .pure
 | k7 ha hl=>exact .altF rfl<|.altF rfl<|.altF rfl<|.altF rfl<|.altF rfl<|.altT rfl<|.seq (.ex ha) (fun _ _=>yH rfl rfl)<|.nd rfl<|.nm<|.seq (C1:=kC) (.exs hl) (fun _ _=>trivial)<|.nd rfl .pure
 | @k8 a b el ha hb =>
  obtain ⟨_,h2⟩:=ht _ _ _ _ _ _ rfl;have:=Rdc.seq (C2:=lU [101,108,115,101]) (f:=fun l=>aQ (Sm.mk 8 [] [] [a,b] [] l)) (k2:=[]) (C1:=kC) (.oth h2) (fun o c=>trivial) .pure;rw [List.append_nil] at this;exact .altF Z<|.altF Z<|.altT Z<|.seq (.ex ha) (fun _ _=>yH Z Z)<|.nd Z<|.seq (.ex hb) (fun o _=>FO el o) this
 | @k9 nm a el ha =>
  obtain ⟨_,h2⟩:=ht _ _ _ _ _ _ rfl;have:=Rdc.seq (C2:=lU [101,108,115,101]) (f:=fun l=>aQ (Sm.mk 9 nm [] [a] [] l)) (k2:=[]) (C1:=kC) (.oth h2) (fun o c=>trivial) .pure;rw [List.append_nil] at this;exact .altF Z<|.altF Z<|.altF Z<|.altT Z<|.nm<|.nd Z<|.seq (.ex ha) (fun o _=>FO el o) this
 | k10=>exact .altF rfl<|.altF rfl<|.altF rfl<|.altF rfl<|.altF rfl<|.altF rfl<|.altT rfl<|.nd rfl .pure
theorem Rdc.b:∀ (l:List Sm),(∀ s∈l,FmS s∧RdS s)→Rdc gB (kM l) l sX
 | [],_=>fun le r e c=>by
  obtain rfl:=List.map_eq_nil_iff.1 (by rw [kM] at e;exact e);rw [GG,List.nil_append,zD];have c:hdO r=some (4,[125]):=c;rw [c]
  rfl
 | s::l,h=>fun le r e c=>by
  rw [kM] at e;obtain ⟨l1,l2,rfl,e1,e2⟩:=List.map_eq_append_iff.1 e;obtain ⟨hf,hs⟩:=h s (List.mem_cons_self ..);obtain ⟨x,k,hx,hx1,_⟩:=MS hf;have ih:=Rdc.b l (fun a ha=>h a (List.mem_cons_of_mem _ ha)) l2 r e2 c
  have h2:=hs l1 (l2++r) e1 (by
   rw [zH e2];cases l with
   | nil=>rw [show hdC (kM []) (hdO r)=hdO r from rfl,show hdO r=some (4,[125]) from c];rfl
   | cons b l =>
    obtain ⟨y,k2,hy,_,hy2⟩:=MS (h b (by simp)).1;rw [kM,hy];exact hy2)
  rw [GG,List.append_assoc,zD,zH e1,hx];show (if isK [125] x=true then _ else _)=_;rw [hx1,if_neg (by decide),h2];show (gB (l2++r)).bind _=_;rw [ih]
  rfl
theorem gC {q:Sm→Bool}:∀ {l:List Sm} {a:Sm},a∈l→Sm.alls q l=true→Sm.all q a=true
 | b::l,a,h,k=>by
  rw [Sm.alls,Bool.and_eq_true] at k;rcases List.mem_cons.1 h with rfl | h
  ·exact k.1
  ·exact gC h k.2
theorem PP (s:Sm):Sm.all jQ s=true→FmS s∧RdS s:=by
 induction s using Sm.ind with
 | _ kd nm hd ex th el ih1 ih2 =>
  intro h;rw [eQ,Bool.and_eq_true,Bool.and_eq_true] at h;obtain ⟨⟨h1,h2⟩,h3⟩:=h;have hf:=xI h1
  exact ⟨hf,.st hf fun nm' hd' kd' ex' th' el' e=>by
   injection e with _ _ _ _ e1 e2
   subst e1 e2;exact ⟨.b _ fun s hs=>ih1 s hs (gC hs h2),.b _ fun s hs=>ih2 s hs (gC hs h3)⟩⟩
theorem Rdc.body {l:List Sm} (h:Sm.alls jQ l=true):Rdc gB (kM l) l sX:=.b l fun s hs=>PP s (gC hs h)
/-! ### Fleets -/
def HA (b:Bool):Kt:=(2,if b then [116,114,117,101] else [102,97,108,115,101])
def fgK (f:Fg):List Kt:=[(1,f.nm),(4,[61]),HA f.init,(4,[59])]
def lkK (l:Lk):List Kt:=[(1,l.fr),(4,[45,62]),(1,l.to),(2,[108,97,116,101,110,99,121]),(3,Lib.decDigits l.lat.toInt.toNat),(4,[59])]
def MY (n:Int64):List Kt:=if n.toInt<0 then [(4,[45]),(3,Lib.decDigits (-n.toInt).toNat)] else [(3,Lib.decDigits n.toInt.toNat)]
def vrK (v:Vr):List Kt:=(1,v.nm)::(4,[58])::(if v.ty=1 then (2,[105,110,116])::(4,[61])::(MY v.init++[(4,[59])]) else if v.ty=2 then [(2,[98,111,111,108]),(4,[61]),HA (decide (v.init.toInt=1)),(4,[59])] else [(2,[116,97,98,108,101]),(4,[59])])
def hdK (h:Hd):List Kt:=(1,h.nm)::(BW (h.ps.map fun p=>[(1,p)])++(4,[123])::(kM h.body++[(4,[125])]))
def vsK (v:List Hd):List Kt:=(v.map fun h=>(2,[111,110])::hdK h).flatten
def vnK (n:Str) (v:List Hd):List Kt:=(2,[118,101,114,115,105,111,110])::(3,n)::(4,[123])::(vsK v++[(4,[125])])
def vmK:List (List Hd)→List Kt
 | [v]=>vnK [50] v
 | v::w::_=>vnK [50] v++vnK [51] w
 | []=>[]
def cpK (c:Cp):List Kt:=(1,c.nm)::(4,[123])::((c.vars.map fun v=>(2,[118,97,114])::vrK v).flatten++(vsK (c.vers.headD [])++(vmK c.vers.tail++[(4,[125])])))
def ftK (f:Ft):List Kt:=(2,[102,108,101,101,116])::(1,f.nm)::(4,[123])::((f.flags.map fun x=>(2,[102,108,97,103])::fgK x).flatten++((f.links.map fun x=>(2,[108,105,110,107])::lkK x).flatten++((f.comps.map fun x=>(2,[99,111,109,112,111,110,101,110,116])::cpK x).flatten++[(4,[125])])))
section
variable {C:Option Kt→Prop}
theorem Rdc.tru {β:Type} {f:Bool→Pz β} {b:Bool} {k:List Kt} {v:β} (h:Rdc (f b) k v C):Rdc (aH gTr f) (HA b::k) v C:=by
 have:Rdc gTr [HA b] b kC:=by
  cases b
  ·exact .altF Z (.nd Z .pure)
  ·exact .altT Z .pure
 exact Rdc.seq (k1:=[HA b]) this (fun _ _=>trivial) h
theorem Rdc.fg (f:Fg):Rdc gFg (fgK f) f C:=.nm<|.nd rfl<|.tru<|.nd rfl .pure
theorem GE {n:Int64} (h:0≤n.toInt):n.toInt.toNat≤9223372036854775807∧Int64.ofNat n.toInt.toNat=n:=by
 have hlt:=n.toInt_lt;refine ⟨by omega,Int64.toInt_inj.1 ?_⟩;rw [Int64.toInt_ofNat_of_lt (by omega)];omega
theorem Rdc.lk {l:Lk} (h:lkB l=true):Rdc gLk (lkK l) l C:=by
 simp only [lkB,Bool.and_eq_true,decide_eq_true_eq] at h;obtain ⟨h1,h2⟩:=GE (n:=l.lat) (by omega)
 have h3:Rdc gNu [(3,Lib.decDigits l.lat.toInt.toNat)] l.lat kC:=by
  have:=Rdc.nu (C:=kC) h1
  rwa [h2] at this
 exact .nm<|.nd Z<|.nm<|.nd Z<|Rdc.seq (k1:=[_]) h3 (fun _ _=>trivial)<|.nd Z .pure
theorem Rdc.int {n:Int64} (h:n.toInt≠-9223372036854775808):Rdc rT (MY n) n C:=by
 unfold MY
 split
 ·rename_i hn;have hlt:=n.le_toInt;have h1:(-n.toInt).toNat≤9223372036854775807:=by omega
  have e:-Int64.ofNat (-n.toInt).toNat=n:=by
   apply Int64.toInt_inj.1;rw [Int64.toInt_neg,Int64.toInt_ofNat_of_lt (by omega)];rw [Int.toNat_of_nonneg (by omega),Int.neg_neg];exact Int.bmod_eq_of_le (by omega) (by have:=n.toInt_lt;omega)
  have:=Rdc.seq (C1:=kC) (C2:=C) (f:=fun v=>aQ (-v)) (k2:=[]) (.nu h1) (fun _ _=>trivial) .pure;rw [e] at this;exact .altT Z this
 ·obtain ⟨h1,h2⟩:=GE (n:=n) (by omega);have h3:=Rdc.nu (C:=C) h1;rw [h2] at h3;exact .altF (by simp [isK]) h3
theorem Rdc.vr {v:Vr} (h:gH v=true):Rdc gVr (vrK v) v C:=by
 obtain ⟨nm,ty,init⟩:=v;unfold gH at h;simp only at h;refine .nm<|.nd Z ?_
 simp only
 by_cases h1:ty=1
 ·subst h1;rw [if_pos rfl,decide_eq_true_eq] at h;rw [if_pos rfl];exact .altT Z<|.nd Z<|.seq (C1:=kC) (.int h) (fun _ _=>trivial)<|.nd Z .pure
 rw [if_neg h1] at h ⊢
 by_cases h2:ty=2
 ·subst h2;rw [if_pos rfl,decide_eq_true_eq] at h;rw [if_pos rfl]
  have e:(if decide (init.toInt=1)=true then (1:Int64) else 0)=init:=by
   apply Int64.toInt_inj.1;rcases h with h | h <;> simp [h]
  refine .altF Z<|.altT Z<|.nd Z<|.tru<|.nd Z ?_
  rw [e];exact .pure
 rw [if_neg h2] at h ⊢
 split at h
 ·rename_i h3;subst h3;obtain rfl:=vJ (of_decide_eq_true h);exact .altF Z<|.altF Z<|.nd Z<|.nd Z .pure
 ·cases h
theorem Rdc.hd {h:Hd} (hf:kR h=true):Rdc gHd (hdK h) h C:=by
 have h1:Rdc (eD gNm) (BW (h.ps.map fun p=>[(1,p)])) h.ps kC:=.list Shs.nm.le (Cp:=kC) trivial trivial (fun a _=>.nm1) fun a _=>⟨_,_,rfl,by simp [isK]⟩;have h2:=Rdc.seq (C1:=kC) (C2:=C) (f:=fun b=>aQ (Hd.mk h.nm h.ps b)) (k2:=[]) (.blk (.body hf)) (fun _ _=>trivial) .pure;rw [List.append_nil] at h2;exact .nm<|.seq h1 (fun _ _=>trivial) h2
theorem Shs.hd:Shs gHd:=.bind .nm fun _=>.bind (Shs.list Shs.nm.le).le fun _=>.bind (Shs.blk Shr.b).le fun _=>.pure _
theorem Rdc.vs {v:List Hd} (h:v.all kR=true) (hc:∀ o,C o→lU [111,110] o):Rdc gVs (vsK v) v C :=
 .many Shs.hd.le rfl (Cp:=kC) trivial (fun o c=>⟨trivial,hc o c⟩) v fun a ha=>.hd (List.all_eq_true.1 h a ha)
theorem Rdc.vn {n:Str} {v:List Hd} (h:v.all kR=true):Rdc (gVn n) ((3,n)::(4,[123])::(vsK v++[(4,[125])])) v C :=
 .nn<|.nd rfl<|.seq (C1:=sX) (.vs h fun o c=>by rw [show o=some (4,[125]) from c];rfl) (fun _ _=>rfl)<|.nd rfl .pure
theorem Rdc.vm {l:List (List Hd)} (h:∀ v∈l,v.all kR=true) (hl:l.length≤2):Rdc gVm (vmK l) l sX:=by
 have hE:∀ o,sX o→lU [118,101,114,115,105,111,110] o:=fun o c=>by rw [show o=some (4,[125]) from c];rfl
 match l,hl with
 | [],_=>exact .altE hE .pure
 | [v],_ =>
  have:=Rdc.seq (C1:=kC) (C2:=sX) (f:=fun v=>cM [118,101,114,115,105,111,110] (aH (gVn [51]) fun w=>aQ [v,w]) (aQ [v])) (k2:=[]) (.vn (n:=[50]) (h v (by simp))) (fun _ _=>trivial) (.altE hE .pure);rw [List.append_nil] at this;exact .altT Z this
 | [v,w],_ =>
  have h2:=Rdc.seq (C1:=kC) (C2:=sX) (f:=fun w=>aQ [v,w]) (k2:=[]) (.vn (n:=[51]) (h w (by simp))) (fun _ _=>trivial) .pure;rw [List.append_nil] at h2;exact .altT Z (.seq (C1:=kC) (.vn (n:=[50]) (h v (by simp))) (fun _ _=>trivial) (.altT Z h2))
theorem Shs.tr:Shs gTr:=.alt (.pure _) (.bind (.nd _) fun _=>.pure _)
theorem Shs.fg:Shs gFg:=.bind .nm fun _=>.bind (Shs.nd _).le fun _=>.bind Shs.tr.le fun _=>.bind (Shs.nd _).le fun _=>.pure _
theorem Shs.lk:Shs gLk:=.bind .nm fun _=>.bind (Shs.nd _).le fun _=>.bind Shs.nm.le fun _=>.bind (Shs.nd _).le fun _=>.bind Shs.nu.le fun _=>.bind (Shs.nd _).le fun _=>.pure _
theorem Shs.int:Shs rT:=.alt (.bind Shs.nu.le fun _=>.pure _) .nu
theorem Shs.vr:Shs gVr:=.bind .nm fun _=>.bind (Shs.nd _).le fun _=>.alt (.bind (Shs.nd _).le fun _=>.bind Shs.int.le fun _=>.bind (Shs.nd _).le fun _=>.pure _) (.alt (.bind (Shs.nd _).le fun _=>.bind Shs.tr.le fun _=>.bind (Shs.nd _).le fun _=>.pure _) (.bind (Shs.nd _).le fun _=>.bind (Shs.nd _).le fun _=>.pure _))
theorem Shr.vs:Shr gVs:=.many Shs.hd.le
theorem Shs.vn (n:Str):Shs (gVn n):=.bind (.nn _) fun _=>.bind (Shs.nd _).le fun _=>.bind .vs fun _=>.bind (Shs.nd _).le fun _=>.pure _
theorem Shr.vm:Shr gVm:=.alt (.bind (Shs.vn _).le fun _=>.alt (.bind (Shs.vn _).le fun _=>.pure _) (.pure _)) (.pure _)
theorem Shs.cp:Shs gCp:=.bind .nm fun _=>.bind (Shs.nd _).le fun _=>.bind (.many Shs.vr.le) fun _=>.bind .vs fun _=>.bind .vm fun _=>.bind (Shs.nd _).le fun _=>.pure _
theorem oQ (k1 k2:List Kt) (o:Option Kt):hdC (k1++k2) o=hdC k1 (hdC k2 o):=by cases k1 <;> rfl
theorem tL {α:Type} {w:Str} {x:Kt} (hw:isK w x=false) (g:α→List Kt) (l:List α) {o:Option Kt} (h:lU w o):lU w (hdC ((l.map fun a=>x::g a).flatten) o):=by
 cases l with
 | nil=>exact h
 | cons a l=>exact hw
theorem SJ {w:Str} (hw:isK w (2,[118,101,114,115,105,111,110])=false) (l:List (List Hd)) {o:Option Kt} (h:lU w o):lU w (hdC (vmK l) o):=by
 match l with
 | []=>exact h
 | [v]=>exact hw
 | v::u::_=>exact hw
theorem Rdc.cp {c:Cp} (h1:c.vars.all gH=true) (h2:lB kR c=true) (h3:1≤c.vers.length) (h4:c.vers.length≤3):Rdc gCp (cpK c) c C:=by
 obtain ⟨nm,vars,vers⟩:=c;simp only at h1 h3 h4
 match vers,h3 with
 | v::l,_ =>
  have hv:∀ u∈v::l,u.all kR=true:=List.all_eq_true.1 h2;simp only [List.length_cons] at h4;refine .nm<|.nd Z<|.seq (C1:=lU [118,97,114]) (.many Shs.vr.le Z (Cp:=kC) trivial (fun o c=>⟨trivial,c⟩) vars fun a ha=>.vr (List.all_eq_true.1 h1 a ha)) (fun o c=>?_)<|.seq (C1:=lU [111,110]) (.vs (hv v (by simp)) fun o c=>c) (fun o c=>?_)<|.seq (C1:=sX) (.vm (fun u hu=>hv u (by simp only [List.tail_cons] at hu;simp [hu])) (by simp only [List.tail_cons];omega)) (fun o c=>rfl)<|.nd Z .pure
  ·rw [oQ,oQ];exact tL rfl _ _ (SJ rfl _ rfl)
  ·rw [oQ];exact SJ rfl _ rfl
theorem Rdc.ft {f:Ft} (h:cU f=0):Rdc gFt (ftK f) f C:=by
 unfold cU at h
 split at h
 ·cases h
 rename_i h1
 split at h
 ·cases h
 split at h
 ·cases h
 rename_i h2;rw [Bool.not_eq_false] at h1 h2;simp only [gI,Bool.and_eq_true] at h1;simp only [lJ,Bool.and_eq_true] at h2;obtain ⟨_,hs,_⟩:=h1;obtain ⟨⟨hl,hv⟩,hb⟩:=h2;rw [mU] at hb;refine .nd Z<|.nm<|.nd Z<|.seq (C1:=lU [102,108,97,103]) (.many Shs.fg.le Z (Cp:=kC) trivial (fun o c=>⟨trivial,c⟩) f.flags fun a _=>.fg a) (fun o c=>?_)<|.seq (C1:=lU [108,105,110,107]) (.many Shs.lk.le Z (Cp:=kC) trivial (fun o c=>⟨trivial,c⟩) f.links fun a ha=>.lk (List.all_eq_true.1 hl a ha)) (fun o c=>?_)<|.seq (C1:=lU [99,111,109,112,111,110,101,110,116]) (.many Shs.cp.le Z (Cp:=kC) trivial (fun o c=>⟨trivial,c⟩) f.comps fun a ha=>?_) (fun o c=>rfl)<|.nd Z .pure
 ·rw [oQ,oQ];exact tL rfl _ _ (tL rfl _ _ rfl)
 ·rw [oQ];exact tL rfl _ _ rfl
 ·have h3:=List.all_eq_true.1 hs a ha;simp only [jO,Bool.and_eq_true,decide_eq_true_eq] at h3;exact .cp (List.all_eq_true.1 hv a ha) (List.all_eq_true.1 hb a ha) h3.1.1.2 h3.1.2
end
structure Tok (x:Kt) (r:Str):Prop where
 ne:x.2≠[]
 read:aJ (x.2++r)=(x.1,x.2.length)
 skip:cN false (x.2++r)=x.2++r
 k5:x.1≠5
 sh:x.2.length≤1000000
inductive Lx:Str→List Kt→Prop where
 | nil:Lx [] []
 | blk {c:UInt8} {s:Str} {k:List Kt} (h:fC c=true) (l:Lx s k):Lx (c::s) k
 | tok {x:Kt} {s:Str} {k:List Kt} (h:Tok x s) (l:Lx s k):Lx (x.2++s) (x::k)
theorem Lx.toks {s:Str} {k:List Kt} (h:Lx s k):∀ (f o:Nat),(cN false s).length<f→(oX f o (cN false s)).map kt=k:=by
 induction h with
 | nil=>intro f o _;rw [lN,jI];rfl
 | blk h _ ih=>intro f o hf;rw [wT h] at hf ⊢;exact ih f o hf
 | @tok x s k h _ ih =>
  intro f o hf;rw [h.skip] at hf ⊢
  match f,hf with
  | f+1,hf =>
   have hne:x.2++s≠[]:=by intro e;exact h.ne (List.append_eq_nil_iff.1 e).1
   rw [iI hne,h.read];simp only [List.take_left,List.drop_left,List.map_cons];have hl:=fL false s;have h1:1≤x.2.length:=List.length_pos_iff.2 h.ne;rw [ih f _ (by rw [List.length_append] at hf;omega)]
   rfl
theorem Lx.lex {s:Str} {k:List Kt} (h:Lx s k):(iS s).map kt=k:=by
 unfold iS;have:=fL false s;exact h.toks _ _ (by omega)
def jW (r:Str):Prop:=∀ c,r.head? = some c→eE c=false∧c≠46∧c≠61∧c≠62∧c≠47
def hdB (r:Str):Prop:=∀ c,r.head? = some c→c≠46∧c≠61∧c≠62∧c≠47
theorem jW.hd {r:Str} (h:jW r):hdB r:=fun c e=>(h c e).2
theorem dG {c:UInt8} {r:Str} (h:eE c=false∧c≠46∧c≠61∧c≠62∧c≠47):jW (c::r):=fun d e=>by cases e;exact h
theorem aX {c:UInt8} {r:Str} (h:c≠46∧c≠61∧c≠62∧c≠47):hdB (c::r):=fun d e=>by cases e;exact h
theorem oD {q:UInt8→Bool}:∀ {w r:Str},w.all q=true→(∀ c,r.head? = some c→q c=false)→pre q (w++r)=w.length
 | [],[],_,_=>rfl
 | [],c::r,_,h=>by unfold pre;rw [List.nil_append,List.takeWhile_cons,h c rfl];rfl
 | a::w,r,hw,h=>by
  rw [List.all_cons,Bool.and_eq_true] at hw;have:=oD hw.2 h;unfold pre at this ⊢;rw [List.cons_append,List.takeWhile_cons,hw.1];simp [this]
theorem yM {q:UInt8→Bool}:∀ {w:Str},pre q w=w.length→w.all q=true
 | [],_=>rfl
 | a::w,h=>by
  unfold pre at h;rw [List.takeWhile_cons] at h;cases ha:q a with
  | false=>rw [ha] at h;simp at h
  | true =>
   rw [ha] at h;have:=yM (q:=q) (w:=w) (by unfold pre;simpa using h);rw [List.all_cons,ha,this];rfl
theorem vV {Q:UInt8→Prop} (h:∀ i∈List.range 256,Q (UInt8.ofNat i)) (c:UInt8):Q c:=by
 have:=h c.toNat (List.mem_range.2 c.toNat_lt)
 rwa [UInt8.ofNat_toNat] at this
theorem tJ (c:UInt8) (h:iC c=true):fC c=false∧c≠47∧c≠46∧c≠61∧c≠62∧eE c=true∧dW c=false:=by
 revert h
 exact vV (Q:=fun c=>iC c=true→fC c=false∧c≠47∧c≠46∧c≠61∧c≠62∧eE c=true∧dW c=false) (by decide +kernel) c
theorem GM (c:UInt8) (h:dW c=true):fC c=false∧c≠47∧c≠46∧c≠61∧c≠62∧iC c=false:=by
 revert h
 exact vV (Q:=fun c=>dW c=true→fC c=false∧c≠47∧c≠46∧c≠61∧c≠62∧iC c=false) (by decide +kernel) c
theorem QO (c:UInt8) (h:eE c=false):dW c=false:=by
 revert h
 exact vV (Q:=fun c=>eE c=false→dW c=false) (by decide +kernel) c
theorem GV:∀ w∈words,w.length≤12:=by decide +kernel
theorem AM {k:UInt8} {w r:Str} (h0:w≠[]) (hl:iC (w.headD 0)=true) (hw:w.all eE=true) (hk:(if words.contains w then (2:UInt8) else if w.length≤12 then 1 else 5)=k) (h5:k≠5) (hr:jW r):Tok (k,w) r:=by
 match w,h0 with
 | c::t,h0 =>
  have hlb:=tJ c hl;have hp:pre eE ((c::t)++r)=(c::t).length:=oD hw fun d hd=>(hr d hd).1;refine ⟨h0,?_,?_,h5,?_⟩
  ·show aJ ((c::t)++r)=(k,(c::t).length);unfold aJ;simp only;rw [show ((c::t)++r).headD 0=c from rfl,show iC c=true from hl,if_pos rfl,hp,List.take_left]
   split at hk
   ·rename_i e;rw [if_pos e,← hk]
   ·rename_i e;rw [if_neg e]
    split at hk
    ·rename_i e2;rw [if_pos e2,← hk]
    ·exact absurd hk.symm h5
  ·exact iZ hlb.1 (fun e=>hlb.2.1 e.1)
  ·show (c::t).length≤1000000
   split at hk
   ·rename_i e;have:=GV _ (List.contains_iff_mem.1 e);omega
   ·split at hk
    ·omega
    ·exact absurd hk.symm h5
theorem CA:∀ w∈words,w≠[]∧iC (w.headD 0)=true∧w.all eE=true:=by decide +kernel
theorem KO {w r:Str} (hw:w∈words) (hr:jW r):Tok (2,w) r:=by
 obtain ⟨h1,h2,h3⟩:=CA w hw;exact AM h1 h2 h3 (by rw [if_pos (List.contains_iff_mem.2 hw)]) (by decide) hr
theorem nK {w:Str} (h:aU w=true):w≠[]∧iC (w.headD 0)=true∧w.all eE=true∧words.contains w=false∧w.length≤12:=by
 have hlen:=fZ h;simp only [aU,Bool.and_eq_true,decide_eq_true_eq,beq_iff_eq] at h;obtain ⟨⟨h0,h1⟩,h2⟩:=h
 match w,h0 with
 | c::t,h0 =>
  have hl:=IE h1
  have h3:words.contains ((c::t).take (pre eE (c::t)))=false∧pre eE (c::t)=(c::t).length:=by
   unfold aJ at h1 h2;simp only [List.headD_cons,hl,if_true] at h1 h2
   split at h1
   ·simp at h1
   ·rename_i e;rw [if_neg e] at h2
    split at h1
    ·rename_i e2;rw [if_pos e2] at h2;exact ⟨by simpa using e,h2⟩
    ·simp at h1
  obtain ⟨h4,h5⟩:=h3;rw [h5,List.take_length] at h4;exact ⟨h0,hl,yM h5,h4,hlen⟩
theorem KN {w r:Str} (hw:aU w=true) (hr:jW r):Tok (1,w) r:=by
 obtain ⟨h1,h2,h3,h4,h5⟩:=nK hw;exact AM h1 h2 h3 (by rw [h4,if_neg (by decide),if_pos h5]) (by decide) hr
theorem tI {w r:Str} (hw:aU w=true):hdB (w++r):=by
 obtain ⟨h1,h2,_⟩:=nK hw
 match w,h1 with
 | c::t,_=>have:=tJ c h2;exact aX ⟨this.2.2.1,this.2.2.2.1,this.2.2.2.2.1,this.2.1⟩
theorem vH {w r:Str} (hw:w∈words):hdB (w++r):=by
 obtain ⟨h1,h2,_⟩:=CA w hw
 match w,h1 with
 | c::t,_=>have:=tJ c h2;exact aX ⟨this.2.2.1,this.2.2.2.1,this.2.2.2.2.1,this.2.1⟩
theorem xP:∀ (u:Nat),∃ c t,Lib.decDigits u=c::t∧(t=[]∨c≠48)∧(u≠0→c≠48):=by
 intro u;induction u using Nat.strongRecOn with
 | _ u ih =>
  by_cases h:u<10
  ·rw [Lib.decDigits_one h];refine ⟨_,[],rfl,.inl rfl,fun hu e=>?_⟩;have:=congrArg UInt8.toNat e;rw [Plain.digit_nat u h] at this;have h48:(48:UInt8).toNat=48:=rfl;omega
  ·rw [Plain.digits_more u h];obtain ⟨c,t,e,_,h2⟩:=ih (u / 10) (by omega);rw [e];exact ⟨c,_,rfl,.inr (h2 (by omega)),fun _=>h2 (by omega)⟩
theorem RF {u:Nat} (h:u≤9223372036854775808):(Lib.decDigits u).length≤21:=by
 have h1:=Lib.itoa_length_le (-(u:Int)) (by omega) (by omega)
 by_cases h0:u=0
 ·subst h0;decide +kernel
 ·rw [Lib.itoa,if_pos (by omega),show (-(u:Int)).natAbs=u by omega,List.length_cons] at h1;omega
theorem NR {n:Int64}:n.toInt.toNat≤9223372036854775808:=by have:=n.toInt_lt;omega
theorem PD {u:Nat} {r:Str} (hu:u≤9223372036854775808) (hr:jW r):Tok (3,Lib.decDigits u) r:=by
 have hdl:=RF hu;obtain ⟨c,t,e,h2,_⟩:=xP u
 have hall:(Lib.decDigits u).all dW=true:=List.all_eq_true.2 fun d hd=>by
  have:=Plain.digits_are u d hd;simp only [dW,Bool.and_eq_true,decide_eq_true_eq];exact this
 have hp:pre dW (Lib.decDigits u++r)=(Lib.decDigits u).length:=oD hall fun d hd=>QO d (hr d hd).1;rw [e] at hall hp hdl ⊢;rw [List.all_cons,Bool.and_eq_true] at hall;have hb:=GM c hall.1;refine ⟨by simp,?_,iZ hb.1 (fun e=>hb.2.1 e.1),(show (3:UInt8)≠5 by decide),(by show (c::t).length≤1000000;omega)⟩;show aJ ((c::t)++r)=(3,(c::t).length);unfold aJ;simp only;rw [show ((c::t)++r).headD 0=c from rfl,hb.2.2.2.2.2,if_neg (by decide),hall.1,if_pos rfl,hp];refine if_pos ?_;rcases h2 with rfl | h2
 ·exact .inl Z
 ·exact .inr h2
theorem LY {u:Nat} {r:Str}:hdB (Lib.decDigits u++r):=by
 obtain ⟨c,t,e,_⟩:=xP u;have:=Plain.digits_are u c (by rw [e];simp);have hd:dW c=true:=by simp only [dW,Bool.and_eq_true,decide_eq_true_eq];exact this
 have hb:=GM c hd;rw [e];exact aX ⟨hb.2.2.1,hb.2.2.2.1,hb.2.2.2.2.1,hb.2.1⟩
def PE:Str:=[123,125,40,41,91,93,44,59,58,46,61,60,62,43,45,42,47,37]
theorem FE {c:UInt8} {r:Str} (hc:c∈PE) (hr:hdB r):Tok (4,[c]) r:=by
 have hx:∀ d,r.head? = some d→d≠46∧d≠61∧d≠62∧d≠47:=hr;refine ⟨by simp,?_,?_,(show (4:UInt8)≠5 by decide),(by show (1:Nat)≤_;omega)⟩
 ·show aJ (c::r)=(4,1);have hl:iC c=false∧dW c=false:=by revert c;decide
  have hf:symbols.find? (fun x=>x.isPrefixOf (c::r))=some [c]:=by
   cases r with
   | nil=>revert c;decide
   | cons d t =>
    obtain ⟨e1,e2,e3,e4⟩:=hx d rfl;have b1:((46:UInt8) == d)=false:=beq_false_of_ne (Ne.symm e1);have b2:((61:UInt8) == d)=false:=beq_false_of_ne (Ne.symm e2);have b3:((62:UInt8) == d)=false:=beq_false_of_ne (Ne.symm e3);simp only [PE,List.mem_cons,List.not_mem_nil,or_false] at hc
    rcases hc with rfl | rfl | rfl | rfl | rfl | rfl | rfl | rfl | rfl | rfl | rfl | rfl | rfl | rfl | rfl | rfl | rfl | rfl <;>
     simp [symbols,List.find?,List.isPrefixOf,b1,b2,b3]
  unfold aJ;simp only [List.headD_cons,hl.1,hl.2,hf,Bool.false_eq_true,if_false,List.length_singleton]
 ·refine iZ (by revert c;decide) ?_;rintro ⟨_,h⟩;exact (hx 47 h).2.2.2 rfl
def SW:List Str:=[[61,61],[33,61],[60,61],[62,61],[45,62]]
theorem FD {w:Str} {r:Str} (hw:w∈SW):Tok (4,w) r:=by
 simp only [SW,List.mem_cons,List.not_mem_nil,or_false] at hw;rcases hw with rfl | rfl | rfl | rfl | rfl <;> refine ⟨by simp,?_,?_,(show (4:UInt8)≠5 by decide),(by show (2:Nat)≤_;omega)⟩ <;> simp [aJ,iC,dW,symbols,List.find?,List.isPrefixOf,cN,fC]
theorem fK {r:Str}:jW (32::r):=dG (by decide)
theorem NW {r:Str}:jW (41::r):=dG (by decide)
theorem zW {r:Str}:jW (91::r):=dG (by decide)
theorem EQ {r:Str}:jW (93::r):=dG (by decide)
theorem Lx.sp {r:Str} {k:List Kt} (h:Lx r k):Lx (32::r) k:=.blk (by decide) h
theorem Lx.sy {c:UInt8} {r:Str} {k:List Kt} (hc:c∈PE) (hr:hdB r) (h:Lx r k):Lx (c::r) ((4,[c])::k):=.tok (x:=(4,[c])) (FE hc hr) h
theorem Lx.kw {w r:Str} {k:List Kt} (hw:w∈words) (hr:jW r) (h:Lx r k):Lx (w++r) ((2,w)::k):=.tok (x:=(2,w)) (KO hw hr) h
theorem Lx.nm {w r:Str} {k:List Kt} (hw:aU w=true) (hr:jW r) (h:Lx r k):Lx (w++r) ((1,w)::k):=.tok (x:=(1,w)) (KN hw hr) h
theorem Lx.nu {u:Nat} {r:Str} {k:List Kt} (hu:u≤9223372036854775808) (hr:jW r) (h:Lx r k):Lx (Lib.decDigits u++r) ((3,Lib.decDigits u)::k):=.tok (x:=(3,Lib.decDigits u)) (PD hu hr) h
def LxE (e:Ex):Prop:=∀ r ks,jW r→Lx r ks→Lx (e.text++r) (ktE e++ks)∧hdB (e.text++r)
theorem LxE.opnd {e:Ex} (h:LxE e) (n:Nat) {r:Str} {ks:List Kt} (hr:jW r) (hk:Lx r ks):Lx (opT n (e.lv,e.text)++r) (oY n e.lv (ktE e)++ks)∧hdB (opT n (e.lv,e.text)++r):=by
 unfold opT oY;simp only
 split
 ·simp only [List.cons_append,List.nil_append,List.append_assoc];obtain ⟨h1,h2⟩:=h (41::r) ((4,[41])::ks) NW (.sy (by decide) hr.hd hk);exact ⟨.sy (by decide) h2 h1,aX (by decide)⟩
 ·exact h r ks hr hk
theorem OI:∀ op∈([11,12,13,14,15,16,17,18,19,20,21,22,23]:List UInt8),(aI op).tx=32::((qF op).2++[32])∧(((qF op).1=2∧(qF op).2∈words)∨((qF op).1=4∧((qF op).2∈SW∨∃ c∈PE,(qF op).2=[c]))):=by decide +kernel
theorem Lx.bin {op:UInt8} (h:op∈([11,12,13,14,15,16,17,18,19,20,21,22,23]:List UInt8)) {r:Str} {k:List Kt} (hk:Lx r k):Lx ((aI op).tx++r) (qF op::k):=by
 obtain ⟨h1,h2⟩:=OI op h;rw [h1];simp only [List.cons_append,List.append_assoc,List.nil_append];refine .sp ?_;have hs:=hk.sp;refine .tok (x:=qF op) ?_ hs;generalize qF op=x at h2;obtain ⟨k,w⟩:=x;rcases h2 with ⟨e,hw⟩ | ⟨e,hw | ⟨c,hc,hw⟩⟩
 ·obtain rfl:k=2:=e;exact KO hw fK
 ·obtain rfl:k=4:=e;exact FD hw
 ·obtain rfl:k=4:=e;obtain rfl:w=[c]:=hw;exact FE hc fK.hd
theorem TY (e:Ex):Ex.all dL e=true→Ex.all iE e=true→LxE e:=by
 induction e using Ex.ind with
 | _ op nm n args ih =>
  intro h hq;rw [eK,Bool.and_eq_true] at h hq;obtain ⟨hf,hr⟩:=h;obtain ⟨hg,hq⟩:=hq;have ha:∀ a∈args,LxE a:=fun a m=>ih a m (bV m hr) (bV m hq);simp only [dL,Bool.and_eq_true,Bool.or_eq_true,decide_eq_true_eq] at hf;simp only [iE,Bool.or_eq_true,Bool.not_eq_true'] at hg;obtain ⟨⟨⟨hop,hl⟩,hnm⟩,hn⟩:=hf;have hm:=qM hop;intro r ks hs hk
  by_cases h1:op=1
  ·subst h1;rw [if_pos rfl,decide_eq_true_eq] at hn
   have e1:Ex.text (.mk 1 nm n args)=Lib.decDigits n.toInt.toNat:=by
    rw [Ex.text,txt,if_pos rfl,Lib.itoa,if_neg (by omega)]
   have e2:ktE (.mk 1 nm n args)=[(3,Lib.decDigits n.toInt.toNat)]:=by
    rw [ktE,ktx,if_pos rfl,Lib.itoa,if_neg (by omega)]
   rw [e1,e2];exact ⟨.nu NR hs hk,LY⟩
  rw [if_neg h1,decide_eq_true_eq] at hn;obtain rfl:=vJ hn
  by_cases hb:op∈([11,12,13,14,15,16,17,18,19,20,21,22,23]:List UInt8)
  ·obtain ⟨b1,_,_,_,_,_,_,g1,g2,g3,g4,g5,g6,g7⟩:=mD op hb;obtain ⟨a,b,rfl⟩:=iY (l:=args) (by omega)
   have e1:Ex.text (.mk op nm 0 [a,b])=opT (oZ (aI op).lv) (a.lv,a.text)++(aI op).tx++opT ((aI op).lv+1) (b.lv,b.text):=by
    rw [Ex.text,txt,if_neg g1,if_neg (by simp [g2,g3]),if_neg (by simp [g4,g5]),if_neg (by simp [g6,g7]),if_neg (by omega)]
    rfl
   rw [e1,zC hb];simp only [List.append_assoc,List.cons_append];obtain ⟨k1,_⟩:=(ha b (by simp)).opnd ((aI op).lv+1) hs hk;have k2:=Lx.bin hb k1;refine (ha a (by simp)).opnd (oZ (aI op).lv) ?_ k2;rw [(OI op hb).1];exact fK
  have hs9:op=2∨op=3∨op=4∨op=5∨op=6∨op=7∨op=8∨op=9∨op=10:=((uT hop).resolve_left h1).resolve_left hb
  have key:∀ a,LxE a→Lx (91::(a.text++93::r)) ((4,[91])::(ktE a++(4,[93])::ks)):=by
   intro a hA;obtain ⟨k1,k2⟩:=hA (93::r) ((4,[93])::ks) EQ (.sy (by decide) hs.hd hk);exact .sy (by decide) k2 k1
  have hn5:(aI op).nm=true→aU nm=true:=fun e=>hg.resolve_left (by rw [e];decide);rcases hs9 with rfl | rfl | rfl | rfl | rfl | rfl | rfl | rfl | rfl
  ·exact ⟨Lx.kw (w:=[116,114,117,101]) (by decide) hs hk,vH (w:=[116,114,117,101]) (by decide)⟩
  ·exact ⟨Lx.kw (w:=[102,97,108,115,101]) (by decide) hs hk,vH (w:=[102,97,108,115,101]) (by decide)⟩
  ·exact ⟨Lx.kw (w:=[110,111,119]) (by decide) hs hk,vH (w:=[110,111,119]) (by decide)⟩
  ·exact ⟨Lx.nm (hn5 rfl) hs hk,tI (hn5 rfl)⟩
  ·obtain ⟨a,rfl⟩:=rD hl;have e1:Ex.text (.mk 6 nm 0 [a])++r=nm++91::(a.text++93::r):=by rw [bD];simp [txt,aI,iB,shapes]
   have e2:ktE (.mk 6 nm 0 [a])++ks=(1,nm)::(4,[91])::(ktE a++(4,[93])::ks):=by
    rw [show ktE (.mk 6 nm 0 [a])=(1,nm)::(4,[91])::(ktE a++[(4,[93])]) from rfl];simp
   rw [e1,e2];exact ⟨.nm (hn5 rfl) zW (key a (ha a (by simp))),tI (hn5 rfl)⟩
  ·obtain ⟨a,rfl⟩:=rD hl;have e1:Ex.text (.mk 7 nm 0 [a])++r=[104,97,115]++32::(nm++91::(a.text++93::r)):=by rw [bD];simp [txt,aI,iB,shapes]
   have e2:ktE (.mk 7 nm 0 [a])++ks=(2,[104,97,115])::(1,nm)::(4,[91])::(ktE a++(4,[93])::ks):=by
    rw [show ktE (.mk 7 nm 0 [a])=(2,[104,97,115])::(1,nm)::(4,[91])::(ktE a++[(4,[93])]) from rfl];simp
   rw [e1,e2];exact ⟨.kw (by decide) fK (.sp (.nm (hn5 rfl) zW (key a (ha a (by simp))))),vH (by decide)⟩
  ·obtain rfl:=xZ hl;have e1:Ex.text (.mk 8 nm 0 [])++r=[115,105,122,101]++32::(nm++r):=by rw [bD];simp [txt,aI,iB,shapes]
   rw [e1];exact ⟨.kw (by decide) fK (.sp (.nm (hn5 rfl) hs hk)),vH (by decide)⟩
  ·obtain ⟨a,rfl⟩:=rD hl;obtain ⟨k1,k2⟩:=(ha a (by simp)).opnd 6 hs hk;have e1:Ex.text (.mk 9 nm 0 [a])++r=45::(opT 6 (a.lv,a.text)++r):=by rw [bD];rfl
   rw [e1];exact ⟨.sy (by decide) k2 k1,aX (by decide)⟩
  ·obtain ⟨a,rfl⟩:=rD hl;obtain ⟨k1,k2⟩:=(ha a (by simp)).opnd 6 hs hk;have e1:Ex.text (.mk 10 nm 0 [a])++r=[110,111,116]++32::(opT 6 (a.lv,a.text)++r):=by rw [bD];rfl
   rw [e1];exact ⟨.kw (by decide) fK (.sp k1),vH (by decide)⟩
theorem Lx.nl {r:Str} {k:List Kt} (h:Lx r k):Lx (10::r) k:=.blk (by decide) h
theorem Lx.spT {r:Str} {k:List Kt}:∀ (n:Nat),Lx r k→Lx (spT n++r) k
 | 0,h=>h
 | n+1,h=>by
  rw [Go.Proofs.YthhoebdlfjffkaaGreatDoor.spT,List.append_assoc];exact Lx.spT n (.sp (.sp h))
theorem Lx.line {n:Nat} {parts:List Str} {r:Str} {k:List Kt} (h:Lx (parts.flatten++10::r) k):Lx (cO n parts++r) k:=by
 unfold cO;rw [List.append_assoc,List.append_assoc];exact .spT n h
theorem Lx.to {r:Str} {k:List Kt} (h:Lx r k):Lx (45::62::r) ((4,[45,62])::k):=.tok (x:=(4,[45,62])) (FD (by decide)) h
theorem HB {w r:Str} (hw:aU w=true) (hr:∀ d,r.head? = some d→eE d=false):Tok (1,w) r:=by
 obtain ⟨h1,h2,h3,h4,h5⟩:=nK hw
 match w,h1 with
 | c::t,h1 =>
  have hlb:=tJ c h2;have hp:pre eE ((c::t)++r)=(c::t).length:=oD h3 hr;refine ⟨h1,?_,iZ hlb.1 (fun e=>hlb.2.1 e.1),(show (1:UInt8)≠5 by decide),(by show (c::t).length≤1000000;omega)⟩;show aJ ((c::t)++r)=(1,(c::t).length);unfold aJ;simp only;rw [show ((c::t)++r).headD 0=c from rfl,show iC c=true from h2,if_pos rfl,hp,List.take_left,h4,if_neg (by decide),if_pos h5]
theorem Lx.nm2 {w r:Str} {k:List Kt} (hw:aU w=true) (hr:∀ d,r.head? = some d→eE d=false) (h:Lx r k):Lx (w++r) ((1,w)::k):=.tok (x:=(1,w)) (HB hw hr) h
def LxI (t:Str) (k:List Kt):Prop:=∀ r ks,jW r→Lx r ks→Lx (t++r) (k++ks)∧hdB (t++r)
theorem LxI.one {t r:Str} {k ks:List Kt} (h:LxI t k) (hr:jW r) (l:Lx r ks):Lx (t++r) (k++ks):=(h r ks hr l).1
theorem LxI.nm {w:Str} (h:aU w=true):LxI w [(1,w)]:=fun r ks hr l=>⟨.nm h hr l,tI h⟩
theorem LxI.ex {e:Ex} (h:Ex.all dL e=true) (hq:Ex.all iE e=true):LxI e.text (ktE e):=TY e h hq
theorem FX {α:Type} {tx:α→Str} {g:α→List Kt}:∀ (l:List α) (r:Str) (ks:List Kt),(∀ a∈l,LxI (tx a) (g a))→jW r→Lx r ks→Lx (Lib.joinTail [44,32] (l.map tx)++r) (JP (l.map g)++ks)∧jW (Lib.joinTail [44,32] (l.map tx)++r)
 | [],r,ks,_,hr,h=>⟨h,hr⟩
 | a::l,r,ks,hl,hr,h=>by
  obtain ⟨h1,h2⟩:=FX l r ks (fun b hb=>hl b (List.mem_cons_of_mem _ hb)) hr h;have h3:=hl a (List.mem_cons_self ..) _ _ h2 h1;unfold Lib.joinTail JP at *;simp only [List.map_cons,List.flatten_cons,List.cons_append,List.append_assoc,List.nil_append];exact ⟨.sy (by decide) (aX (by decide)) (.sp h3.1),dG (by decide)⟩
theorem yX {α:Type} {tx:α→Str} {g:α→List Kt} {l:List α} (hl:∀ a∈l,LxI (tx a) (g a)) {r:Str} {ks:List Kt} (hr:hdB r) (h:Lx r ks):Lx (40::(iA (l.map tx)++41::r)) (BW (l.map g)++ks):=by
 have h0:Lx (41::r) ((4,[41])::ks):=.sy (by decide) hr h;unfold BW iA;cases l with
 | nil=>exact .sy (by decide) (aX (by decide)) h0
 | cons a l =>
  simp only [List.map_cons,Lib.join_cons,TE,List.cons_append,List.append_assoc,List.nil_append];obtain ⟨h1,h2⟩:=FX l (41::r) _ (fun b hb=>hl b (List.mem_cons_of_mem _ hb)) NW h0;obtain ⟨h3,h4⟩:=hl a (List.mem_cons_self ..) _ _ h2 h1;exact .sy (by decide) h4 h3
def LxS (s:Sm):Prop:=∀ n r ks,Lx r ks→Lx (Sm.text n s++r) (ktS s++ks)
def LxB (l:List Sm):Prop:=∀ n r ks,Lx r ks→Lx (Sm.texts n l++r) (kM l++ks)
theorem LxB.of:∀ {l:List Sm},(∀ s∈l,LxS s)→LxB l
 | [],_=>fun n r ks h=>by rw [Sm.texts,kM];exact h
 | s::l,hs=>fun n r ks h=>by
  rw [Sm.texts,kM,List.append_assoc,List.append_assoc];exact hs s (List.mem_cons_self ..) n _ _ (LxB.of (fun a ha=>hs a (List.mem_cons_of_mem _ ha)) n r ks h)
theorem hU {w r:Str} {k:List Kt} (hw:w∈words) (h:Lx r k):Lx (w++32::r) ((2,w)::k):=.kw hw fK (.sp h)
theorem nL {n:Nat} {r:Str} {ks:List Kt} (h:Lx r ks):Lx (cO n [[125]]++r) ((4,[125])::ks):=.line (.sy (by decide) (aX (by decide)) (.nl h))
theorem MK {el:List Sm} (hb:LxB el) {n:Nat} {first:Str} {k:List Kt} (hf:LxI first k) {r:Str} {ks:List Kt} (h:Lx r ks) :
 Lx (jL n first (decide (el.length=0)) (Sm.texts (n+1) el)++r) (k++((if decide (el.length=0)=true then [(4,[59])] else (2,[101,108,115,101])::(4,[123])::(kM el++[(4,[125])]))++ks)):=by
 unfold jL
 split
 ·refine .line ?_;simp only [List.flatten_cons,List.flatten_nil,List.append_nil,List.append_assoc,List.cons_append,List.nil_append];exact hf.one (dG (by decide)) (.sy (by decide) (aX (by decide)) (.nl h))
 ·simp only [List.append_assoc];refine .line ?_;simp only [List.flatten_cons,List.flatten_nil,List.append_nil,List.append_assoc,List.cons_append,List.nil_append];exact hf.one fK (.sp (hU (w:=[101,108,115,101]) (by decide) (.sy (by decide) (aX (by decide)) (.nl (hb _ _ _ (nL h))))))
theorem LxI.app {t t2:Str} {k k2:List Kt} (h:LxI t k) (h2:∀ r ks,jW r→Lx r ks→Lx (t2++r) (k2++ks)∧jW (t2++r)):LxI (t++t2) (k++k2):=fun r ks hr l=>by
 rw [List.append_assoc,List.append_assoc];obtain ⟨h3,h4⟩:=h2 r ks hr l;exact h _ _ h4 h3
theorem LxI.kw {w:Str} (hw:w∈words) {t:Str} {k:List Kt} (h:LxI t k):LxI (w++32::t) ((2,w)::k):=fun r ks hr l=>by
 rw [List.append_assoc];exact ⟨hU hw (h r ks hr l).1,vH hw⟩
theorem LxI.eq {t t2:Str} {k k2:List Kt} (h:LxI t k) (h2:LxI t2 k2):LxI (t++([32,32,61,32].drop 1++t2)) (k++(4,[61])::k2):=h.app fun r ks hr l =>
 ⟨.sp (.sy (by decide) (aX (by decide)) (.sp (h2.one hr l))),fK⟩
theorem TZ {s:Sm} (h:FmS s) (hn:gP s=true) (hb:∀ nm hd kd ex th el,s=.mk kd nm hd ex th el→LxB th∧LxB el):LxS s:=by
 intro n r ks hk;cases h with
 | @k1 nm a ha =>
  simp only [gP,Bool.and_eq_true] at hn;have h1:aU nm=true:=by simpa [aV,gE,forms] using hn.1.1
  have h2:=LxI.ex ha (bV (List.mem_cons_self ..) hn.2);refine .line ?_;rw [kN];simp [stK];exact .nm h1 fK<|.sp<|.sy (by decide) (aX (by decide))<|.sp<|h2.one (dG (by decide))<|.sy (by decide) (aX (by decide)) (.nl hk)
 | @k2 nm a b ha hb2 =>
  simp only [gP,Bool.and_eq_true] at hn;have h1:aU nm=true:=by simpa [aV,gE,forms] using hn.1.1
  have h2:=LxI.ex ha (bV (by simp) hn.2);have h3:=LxI.ex hb2 (bV (by simp) hn.2);refine .line ?_;rw [kN];simp [stK];have h4:=h3.one (dG (by decide))<|Lx.sy (c:=59) (by decide) (aX (by decide)) (.nl hk)
  obtain ⟨h5,h6⟩:=h2 _ _ EQ<|Lx.sy (c:=93) (by decide) (aX (by decide))<|.sp<|.sy (c:=61) (by decide) (aX (by decide))<|.sp h4
  exact .nm h1 zW<|.sy (by decide) h6 h5
 | @k3 nm a ha =>
  simp only [gP,Bool.and_eq_true] at hn;have h1:aU nm=true:=by simpa [aV,gE,forms] using hn.1.1
  have h2:=LxI.ex ha (bV (by simp) hn.2);refine .line ?_;rw [kN];simp [stK];obtain ⟨h5,h6⟩:=h2 _ _ EQ<|Lx.sy (c:=93) (by decide) (aX (by decide))<|.sy (c:=59) (by decide) (aX (by decide)) (.nl hk)
  exact hU (w:=[100,101,108,101,116,101]) (by decide)<|.nm h1 zW<|.sy (by decide) h6 h5
 | @k4 a th el ha =>
  obtain ⟨b1,b2⟩:=hb _ _ _ _ _ _ rfl;simp only [gP,Bool.and_eq_true] at hn;have h2:=LxI.ex ha (bV (by simp) hn.2);rw [aE,kN]
  by_cases he:el.length=0
  ·simp [stT,stK,he];refine .line ?_;simp;exact hU (w:=[105,102]) (by decide)<|h2.one fK<|.sp<|.sy (by decide) (aX (by decide))<|.nl<|b1 _ _ _<|nL hk
  ·have he2:¬ el=[]:=fun e=>he (by rw [e];rfl);simp [stT,stK,he2];refine .line ?_;simp;exact hU (w:=[105,102]) (by decide)<|h2.one fK<|.sp<|.sy (by decide) (aX (by decide))<|.nl<|b1 _ _ _<|.line<|.sy (by decide) (aX (by decide))<|.sp<|hU (w:=[101,108,115,101]) (by decide)<|.sy (by decide) (aX (by decide))<|.nl<|b2 _ _ _<|nL hk
 | @k5 a th ha =>
  obtain ⟨b1,b2⟩:=hb _ _ _ _ _ _ rfl;simp only [gP,Bool.and_eq_true] at hn;have h2:=LxI.ex ha (bV (by simp) hn.2);rw [aE,kN];simp [stT,stK];refine .line ?_;simp;exact hU (w:=[119,104,105,108,101]) (by decide)<|h2.one fK<|.sp<|.sy (by decide) (aX (by decide))<|.nl<|b1 _ _ _<|nL hk
 | @k6 nm hd l hl =>
  simp only [gP,Bool.and_eq_true] at hn;have h1:aU nm=true:=by simpa [aV,gE,forms] using hn.1.1
  have h2:aU hd=true:=by simpa [aV,gE,forms] using hn.1.2
  refine .line ?_;rw [kN];simp [stK];exact hU (w:=[115,101,110,100]) (by decide)<|.nm2 h1 (fun d e=>by cases e;rfl)<|.sy (by decide) (tI h2)<|.nm h2 (dG (by decide))<|yX (fun a ha=>.ex (hl a ha) (bV ha hn.2)) (aX (by decide))<|.sy (by decide) (aX (by decide)) (.nl hk)
 | @k7 hd a l ha hl =>
  simp only [gP,Bool.and_eq_true] at hn;have h2:aU hd=true:=by simpa [aV,gE,forms] using hn.1.2
  have h3:=LxI.ex ha (bV (by simp) hn.2);refine .line ?_;rw [kN];simp [stK];exact hU (w:=[97,102,116,101,114]) (by decide)<|h3.one fK<|.sp<|hU (w:=[100,111]) (by decide)<|.nm h2 (dG (by decide))<|yX (fun b hb=>.ex (hl b hb) (bV (by simp [hb]) hn.2)) (aX (by decide))<|.sy (by decide) (aX (by decide)) (.nl hk)
 | @k8 a b el ha hb2 =>
  obtain ⟨_,b2⟩:=hb _ _ _ _ _ _ rfl;simp only [gP,Bool.and_eq_true] at hn;have h2:=LxI.ex ha (bV (by simp) hn.2);have h3:=LxI.ex hb2 (bV (by simp) hn.2);have h4:=MK b2 (n:=n) (LxI.kw (w:=[115,116,111,114,101]) (by decide) (h2.eq h3)) hk;rw [aE,kN];simp [stT,stK] at h4 ⊢;exact h4
 | @k9 nm a el ha =>
  obtain ⟨_,b2⟩:=hb _ _ _ _ _ _ rfl;simp only [gP,Bool.and_eq_true] at hn;have h1:aU nm=true:=by simpa [aV,gE,forms] using hn.1.1
  have h2:=LxI.ex ha (bV (by simp) hn.2);have h4:=MK b2 (n:=n) (LxI.kw (w:=[102,101,116,99,104]) (by decide) ((LxI.nm h1).eq h2)) hk;rw [aE,kN];simp [stT,stK] at h4 ⊢;exact h4
 | k10 =>
  refine .line ?_;rw [kN];simp [stK];exact .kw (w:=[115,116,111,112]) (by decide) (dG (by decide))<|.sy (by decide) (aX (by decide)) (.nl hk)
theorem QF (s:Sm):Sm.all jQ s=true→Sm.all gP s=true→LxS s:=by
 induction s using Sm.ind with
 | _ kd nm hd ex th el ih1 ih2 =>
  intro h k;rw [eQ,Bool.and_eq_true,Bool.and_eq_true] at h k;obtain ⟨⟨h1,h2⟩,h3⟩:=h;obtain ⟨⟨k1,k2⟩,k3⟩:=k;refine TZ (xI h1) k1 fun nm' hd' kd' ex' th' el' e=>?_;injection e with _ _ _ _ e1 e2
  subst e1 e2;exact ⟨.of fun s hs=>ih1 s hs (gC hs h2) (gC hs k2),.of fun s hs=>ih2 s hs (gC hs h3) (gC hs k3)⟩
theorem LxB.all {l:List Sm} (h:Sm.alls jQ l=true) (k:Sm.alls gP l=true):LxB l:=.of fun s hs=>QF s (gC hs h) (gC hs k)
/-! ### Fleets -/
theorem oL {α:Type} {tx:α→Str} {g:α→List Kt}:∀ (l:List α) (r:Str) (ks:List Kt),(∀ a∈l,∀ r ks,Lx r ks→Lx (tx a++r) (g a++ks))→Lx r ks→Lx ((l.map tx).flatten++r) ((l.map g).flatten++ks)
 | [],r,ks,_,h=>h
 | a::l,r,ks,hl,h=>by
  simp only [List.map_cons,List.flatten_cons,List.append_assoc];exact hl a (List.mem_cons_self ..) _ _ (oL l r ks (fun b hb=>hl b (List.mem_cons_of_mem _ hb)) h)
theorem MJ {b:Bool} {r:Str} {ks:List Kt} (hr:jW r) (h:Lx r ks):Lx (sS b++r) (HA b::ks):=by
 cases b
 ·exact .kw (w:=[102,97,108,115,101]) (by decide) hr h
 ·exact .kw (w:=[116,114,117,101]) (by decide) hr h
theorem VV {f:Fg} (h:aU f.nm=true) {r:Str} {ks:List Kt} (hk:Lx r ks):Lx (fgT f++r) ((2,[102,108,97,103])::fgK f++ks):=by
 refine .line ?_;simp [fgK];exact hU (w:=[102,108,97,103]) (by decide)<|.nm h fK<|.sp<|.sy (by decide) (aX (by decide))<|.sp<|MJ (dG (by decide))<|.sy (by decide) (aX (by decide)) (.nl hk)
theorem CC {n:Int64} (h:0≤n.toInt):Lib.itoa n.toInt=Lib.decDigits n.toInt.toNat:=by rw [Lib.itoa,if_neg (by omega)]
theorem VS {l:Lk} (h:lkB l=true) (h1:aU l.fr=true) (h2:aU l.to=true) {r:Str} {ks:List Kt} (hk:Lx r ks):Lx (lkT l++r) ((2,[108,105,110,107])::lkK l++ks):=by
 simp only [lkB,Bool.and_eq_true,decide_eq_true_eq] at h;refine .line ?_;rw [CC (by omega)];simp [lkK];exact hU (w:=[108,105,110,107]) (by decide)<|.nm h1 fK<|.sp<|.to<|.sp<|.nm h2 fK<|.sp<|hU (w:=[108,97,116,101,110,99,121]) (by decide)<|.nu NR (dG (by decide))<|.sy (by decide) (aX (by decide)) (.nl hk)
theorem TW {n:Int64} {r:Str} {ks:List Kt} (hr:jW r) (h:Lx r ks):Lx (Lib.itoa n.toInt++r) (MY n++ks):=by
 unfold MY
 split
 ·rename_i hn;rw [Lib.itoa,if_pos hn,show n.toInt.natAbs=(-n.toInt).toNat by omega];exact .sy (by decide) LY (.nu (by have:=n.le_toInt;omega) hr h)
 ·rw [CC (by omega)];exact .nu NR hr h
theorem VR {n:Nat} {v:Vr} (h:aU v.nm=true) (hf:gH v=true) {r:Str} {ks:List Kt} (hk:Lx r ks):Lx (vrT n v++r) ((2,[118,97,114])::vrK v++ks):=by
 unfold vrT vrK;unfold gH at hf
 split
 ·refine .line ?_;simp;exact hU (w:=[118,97,114]) (by decide)<|.nm h (dG (by decide))<|.sy (by decide) (aX (by decide))<|.sp<|hU (w:=[105,110,116]) (by decide)<|.sy (by decide) (aX (by decide))<|.sp<|TW (dG (by decide))<|.sy (by decide) (aX (by decide)) (.nl hk)
 rename_i h1;rw [if_neg h1] at hf
 split
 ·refine .line ?_;simp;exact hU (w:=[118,97,114]) (by decide)<|.nm h (dG (by decide))<|.sy (by decide) (aX (by decide))<|.sp<|hU (w:=[98,111,111,108]) (by decide)<|.sy (by decide) (aX (by decide))<|.sp<|MJ (dG (by decide))<|.sy (by decide) (aX (by decide)) (.nl hk)
 rename_i h2;rw [if_neg h2] at hf
 split
 ·refine .line ?_;simp;exact hU (w:=[118,97,114]) (by decide)<|.nm h (dG (by decide))<|.sy (by decide) (aX (by decide))<|.sp<|.kw (w:=[116,97,98,108,101]) (by decide) (dG (by decide))<|.sy (by decide) (aX (by decide)) (.nl hk)
 ·rename_i h3;rw [if_neg h3] at hf;cases hf
theorem VT {n:Nat} {h:Hd} (hn:jZ h=true) (hf:kR h=true) {r:Str} {ks:List Kt} (hk:Lx r ks):Lx (hdT n h++r) ((2,[111,110])::hdK h++ks):=by
 simp only [jZ,Bool.and_eq_true] at hn;obtain ⟨⟨h1,h2⟩,h3⟩:=hn;have hb:=LxB.all hf h3;unfold hdT hdK;simp only [List.append_assoc];refine .line ?_;simp;refine hU (w:=[111,110]) (by decide)<|.nm h1 (dG (by decide)) ?_
 have h4:=yX (tx:=fun x=>x) (g:=fun p=>[((1,p):Kt)]) (l:=h.ps) (fun a ha=>.nm (List.all_eq_true.1 h2 a ha)) (r:=32::123::10::(Sm.texts (n+1) h.body++(cO n [[125]]++r))) (aX (by decide))<|.sp<|.sy (by decide) (aX (by decide))<|.nl<|hb _ _ _<|nL hk
 simpa using h4
theorem yY {n:Nat} {v:List Hd} (hn:v.all jZ=true) (hf:v.all kR=true) {r:Str} {ks:List Kt} (hk:Lx r ks):Lx (pW n v++r) (vsK v++ks) :=
 oL v r ks (fun a ha r ks h=>VT (List.all_eq_true.1 hn a ha) (List.all_eq_true.1 hf a ha) h) hk
theorem DY {n:Nat} {i:Nat} (w:Str) (hi:Lib.itoa ((i+1:Nat):Int)=w) (hw:w=Lib.decDigits (i+1)) (h0:i≠0) (h9:i≤100) {v:List Hd} (hn:v.all jZ=true) (hf:v.all kR=true) {r:Str} {ks:List Kt} (hk:Lx r ks):Lx (vsT n i v++r) (vnK w v++ks):=by
 unfold vsT vnK;rw [if_neg h0,hi];simp only [List.append_assoc];refine .line ?_;simp;have h2:=Lx.nu (u:=i+1) (r:=32::123::10::(pW (n+1) v++(cO n [[125]]++r))) (by omega) fK<|.sp<|.sy (by decide) (aX (by decide))<|.nl<|yY hn hf<|nL hk
 rw [← hw] at h2;exact hU (w:=[118,101,114,115,105,111,110]) (by decide) (by simpa using h2)
theorem QE {n:Nat} {l:List (List Hd)} (hn:∀ v∈l,v.all jZ=true) (hf:∀ v∈l,v.all kR=true) (h1:1≤l.length) (h3:l.length≤3) {r:Str} {ks:List Kt} (hk:Lx r ks):Lx (kP n 0 l++r) (vsK (l.headD [])++(vmK l.tail++ks)):=by
 have e2:Lib.itoa ((1+1:Nat):Int)=[50]:=by decide +kernel
 have e3:Lib.itoa ((2+1:Nat):Int)=[51]:=by decide +kernel
 have d2:[50]=Lib.decDigits (1+1):=by decide +kernel
 have d3:[51]=Lib.decDigits (2+1):=by decide +kernel
 match l,h1,h3 with
 | [v],_,_ =>
  simp only [kP,List.append_nil,vsT,if_true];exact yY (hn v (by simp)) (hf v (by simp)) hk
 | [v,w],_,_ =>
  simp only [kP,List.append_nil,List.append_assoc];rw [vsT,if_pos rfl];exact yY (hn v (by simp)) (hf v (by simp)) (DY _ e2 d2 (by decide) (by decide) (hn w (by simp)) (hf w (by simp)) hk)
 | [v,w,u],_,_ =>
  simp only [kP,List.append_nil,List.append_assoc];rw [vsT,if_pos rfl];have:=DY (n:=n) _ e2 d2 (by decide) (by decide) (hn w (by simp)) (hf w (by simp)) (DY (n:=n) _ e3 d3 (by decide) (by decide) (hn u (by simp)) (hf u (by simp)) hk);refine yY (hn v (by simp)) (hf v (by simp)) ?_;simpa [vmK] using this
theorem VW {c:Cp} (hn:aU c.nm=true) (hv:c.vars.all (fun v=>aU v.nm)=true) (hf:c.vars.all gH=true) (h1:lB jZ c=true) (h2:lB kR c=true) (h3:1≤c.vers.length) (h4:c.vers.length≤3) {r:Str} {ks:List Kt} (hk:Lx r ks):Lx (cpT c++r) ((2,[99,111,109,112,111,110,101,110,116])::cpK c++ks):=by
 unfold cpT cpK;simp only [List.append_assoc];refine .line ?_;simp [-List.headD_eq_head?_getD];exact hU (w:=[99,111,109,112,111,110,101,110,116]) (by decide)<|.nm hn fK<|.sp<|.sy (by decide) (aX (by decide))<|.nl<|oL c.vars _ _ (fun a ha r ks h=>VR (List.all_eq_true.1 hv a ha) (List.all_eq_true.1 hf a ha) h)<|QE (List.all_eq_true.1 h1) (List.all_eq_true.1 h2) h3 h4<|nL hk
theorem VU {f:Ft} (h:cU f=0):Lx (ftT f) (ftK f):=by
 unfold cU at h
 split at h
 ·cases h
 rename_i h1
 split at h
 ·cases h
 rename_i h3
 split at h
 ·cases h
 rename_i h2;rw [Bool.not_eq_false] at h1 h2 h3;simp only [gI,Bool.and_eq_true] at h1;simp only [lJ,Bool.and_eq_true] at h2;simp only [sU,Bool.and_eq_true] at h3;obtain ⟨_,hs,_⟩:=h1;obtain ⟨⟨hl,hv⟩,hb⟩:=h2;obtain ⟨⟨⟨⟨n1,n2⟩,n3⟩,n4⟩,n5⟩:=h3;rw [mU] at hb n5;unfold ftT ftK;have key:Lx (cO 0 [[125]]) [(4,[125])]:=by have:=nL (n:=0) Lx.nil;rwa [List.append_nil] at this
 simp only [List.append_assoc];refine .line ?_;simp
 refine hU (w:=[102,108,101,101,116]) (by decide)<|.nm n1 fK<|.sp<|.sy (by decide) (aX (by decide))<|.nl<|oL f.flags _ _ (fun a ha r ks h=>VV (List.all_eq_true.1 n2 a ha) h)<|oL f.links _ _ (fun a ha r ks h=>by have:=List.all_eq_true.1 n3 a ha;rw [Bool.and_eq_true] at this;exact VS (List.all_eq_true.1 hl a ha) this.1 this.2 h)<|oL f.comps _ _ (fun a ha r ks h=>by
  have h3:=List.all_eq_true.1 hs a ha;simp only [jO,Bool.and_eq_true,decide_eq_true_eq] at h3;have h4:=List.all_eq_true.1 n4 a ha;rw [Bool.and_eq_true] at h4;exact VW h4.1 h4.2 (List.all_eq_true.1 hv a ha) (List.all_eq_true.1 n5 a ha) (List.all_eq_true.1 hb a ha) h3.1.1.2 h3.1.2 h) key
theorem HL {f:Ft} (h:cU f=0):(iS (ftT f)).map kt=ftK f:=(VU h).lex
end Go.Proofs.YthhoebdlfjffkaaGreatDoor
namespace Go.Proofs.YthhoebdlfjffkaaGreatDoor
open Go.RowKit Go.Par Go.Sx
abbrev Bs:=List UInt8
def dU8 (c:UInt8):D:=.val (.int .u8 c.toNat)
def zR (n:Nat):D:=.val (.int .i64 (n:Nat))
def dAr (l:List Nat):D:=.seq 1 (l.map zR)
structure Mk where
 ints:Nat
 tables:Nat
 flags:Nat
 own:Nat
 ars:List (List Nat)
 params:Nat
def aF (b:Bs) (n:Nat):Nat × Bs:=match b with | []=>(0,[]) | c::r=>(c.toNat % n,r)
theorem bW (b:Bs) {n:Nat} (h:0<n):(aF b n).1<n:=by
 cases b with
 | nil=>exact h
 | cons c r=>exact Nat.mod_lt _ h
def nmB (c:UInt8) (k:Nat):Str:=[c,UInt8.ofNat (48+k)]
def jB (c:UInt8) (n:Nat):List Str:=(List.range n).map (nmB c)
theorem BS (c:UInt8) (n:Nat):jB c (n+1)=jB c n++[nmB c n]:=by simp [jB,List.range_succ]
theorem dK (c:UInt8) (n:Nat):(jB c n).length=n:=by simp [jB]
theorem IV {c:UInt8} {n k:Nat} (h:k<n):(jB c n)[k]? = some (nmB c k):=by simp [jB,h]
def lD (M:Mk) (d:Nat) (rec:Bs→Ex × Bs) (k:Nat) (b:Bs):Ex × Bs :=
 if k<2∨(2<d∧5<k) then (.mk 1 [] (Int64.ofNat (aF b 9).1) [],(aF b 9).2)
 else if k<4∨(k=4∧M.params=0) then (.mk 5 (nmB 120 (aF b M.ints).1) 0 [],(aF b M.ints).2)
 else if k=4 then (.mk 5 (nmB 112 (aF b M.params).1) 0 [],(aF b M.params).2)
 else if k=5 then (.mk 4 [] 0 [],b)
 else if k=6∧0<M.tables then (.mk 6 [116,48] 0 [(rec b).1],(rec b).2)
 else if k=7∧0<M.tables then (.mk 8 [116,48] 0 [],b)
 else if k=8 then (.mk 9 [] 0 [(rec b).1],(rec b).2)
 else (.mk (([14,15,11,12,13,14]:List UInt8).getD (aF b 6).1 14) [] 0 [(rec (aF b 6).2).1,(rec (rec (aF b 6).2).2).1],(rec (rec (aF b 6).2).2).2)
def PY (M:Mk) (d:Nat) (rec:Bs→Ex × Bs) (b0:Bs):Ex × Bs:=lD M d rec (aF b0 12).1 (aF b0 12).2
def eR (M:Mk):Nat→Bs→Ex × Bs
 | 0=>PY M 3 fun b=>(.mk 1 [] 0 [],b)
 | f+1=>PY M (2 - f) (eR M f)
def iN (M:Mk):Nat→Bs→List Ex × Bs
 | 0,b=>([],b)
 | n+1,b=>((eR M 2 b).1::(iN M n (eR M 2 b).2).1,(iN M n (eR M 2 b).2).2)
def mL (M:Mk) (d:Nat) (rec:Bs→Ex × Bs) (k:Nat) (b:Bs):Ex × Bs :=
 if k=0 then (.mk (2+UInt8.ofNat (aF b 2).1) [] 0 [],(aF b 2).2)
 else if k=1∨(1<d∧4<k) then (.mk 5 [98,48] 0 [],b)
 else if k=2∧0<M.flags then (.mk 5 (nmB 102 (aF b M.flags).1) 0 [],(aF b M.flags).2)
 else if k=3∧0<M.tables then (.mk 7 [116,48] 0 [(eR M 2 b).1],(eR M 2 b).2)
 else if k=5 then (.mk 10 [] 0 [(rec b).1],(rec b).2)
 else if k=6∨k=7 then (.mk (16+UInt8.ofNat k) [] 0 [(rec b).1,(rec (rec b).2).1],(rec (rec b).2).2)
 else (.mk (16+UInt8.ofNat (aF b 6).1) [] 0 [(eR M 2 (aF b 6).2).1,(eR M 2 (eR M 2 (aF b 6).2).2).1],(eR M 2 (eR M 2 (aF b 6).2).2).2)
def PB (M:Mk) (d:Nat) (rec:Bs→Ex × Bs) (b0:Bs):Ex × Bs:=mL M d rec (aF b0 10).1 (aF b0 10).2
def jN (M:Mk):Nat→Bs→Ex × Bs
 | 0=>PB M 2 fun b=>(.mk 1 [] 0 [],b)
 | f+1=>PB M (1 - f) (jN M f)
def arN (M:Mk) (c h:Nat):Nat:=(M.ars.getD c []).getD h 0
def arL (M:Mk) (c:Nat):Nat:=(M.ars.getD c []).length
def DM (M:Mk) (lf c h:Nat) (b:Bs):Sm × (Bs × Nat):=(.mk 6 [UInt8.ofNat (97+c)] (nmB 104 h) (iN M (arN M c h) b).1 [] [],((iN M (arN M c h) b).2,lf))
def EU (M:Mk) (lf h:Nat) (e:Ex × Bs):Sm × (Bs × Nat):=(.mk 7 [] (nmB 104 h) (e.1::(iN M (arN M M.own h) e.2).1) [] [],((iN M (arN M M.own h) e.2).2,lf))
def NF (bd:Bs × Nat→List Sm × (Bs × Nat)) (lf x:Nat) (e:Ex × Bs):Sm × (Bs × Nat):=(.mk 9 (nmB 120 x) [] [e.1] [] (bd (e.2,lf)).1,(bd (e.2,lf)).2)
def UT (M:Mk) (lf:Nat) (b:Bs):Sm × (Bs × Nat):=(.mk 1 (nmB 120 (aF b M.ints).1) [] [(eR M 3 (aF b M.ints).2).1] [] [],((eR M 3 (aF b M.ints).2).2,lf))
def cC (M:Mk) (k d:Nat) (bd:Bs × Nat→List Sm × (Bs × Nat)) (b:Bs) (lf:Nat):Sm × (Bs × Nat) :=
 if k=2 then (.mk 1 [98,48] [] [(jN M 2 b).1] [] [],((jN M 2 b).2,lf))
 else if k=3∧0<M.tables then (.mk 2 [116,48] [] [(eR M 3 b).1,(eR M 3 (eR M 3 b).2).1] [] [],((eR M 3 (eR M 3 b).2).2,lf))
 else if k=4∧0<M.tables then (.mk 3 [116,48] [] [(eR M 3 b).1] [] [],((eR M 3 b).2,lf))
 else if (k=5∨k=6)∧d<3 then
  (.mk 4 [] [] [(jN M 2 b).1] (bd ((jN M 2 b).2,lf)).1 (bd (bd ((jN M 2 b).2,lf)).2).1,(bd (bd ((jN M 2 b).2,lf)).2).2)
 else if k=7∧d<2 then (.mk 5 [] [] [(jN M 2 b).1] (bd ((jN M 2 b).2,lf)).1 [],(bd ((jN M 2 b).2,lf)).2)
 else if k=8∨k=9 then DM M lf (aF b M.ars.length).1 (aF (aF b M.ars.length).2 (arL M (aF b M.ars.length).1)).1 (aF (aF b M.ars.length).2 (arL M (aF b M.ars.length).1)).2
 else if k=10 then EU M lf (aF b (arL M M.own)).1 (eR M 2 (aF b (arL M M.own)).2)
 else if k=11∧d<3 then
  if (aF b 2).1=0 then (.mk 8 [] [] (iN M 2 (aF b 2).2).1 [] (bd ((iN M 2 (aF b 2).2).2,lf)).1,(bd ((iN M 2 (aF b 2).2).2,lf)).2)
  else NF bd lf (aF (aF b 2).2 M.ints).1 (eR M 3 (aF (aF b 2).2 M.ints).2)
 else if k=12∧(aF b 3).1=0 then (.mk 10 [] [] [] [] [],((aF b 3).2,lf))
 else UT M lf (if k=12 then (aF b 3).2 else b)
def jR (st:Nat→Bs→Nat→Sm × (Bs × Nat)):Nat→Bs × Nat→List Sm × (Bs × Nat)
 | 0,x=>([],x)
 | f+1,(b,lf) =>
  if b=[]∨lf=0 then ([],(b,lf))
  else if (aF b 14).1=13 then ([],((aF b 14).2,lf))
  else ((st (aF b 14).1 (aF b 14).2 (lf - 1)).1::(jR st f (st (aF b 14).1 (aF b 14).2 (lf - 1)).2).1,(jR st f (st (aF b 14).1 (aF b 14).2 (lf - 1)).2).2)
def sD (M:Mk):Nat→Bs × Nat→List Sm × (Bs × Nat)
 | 0=>jR (fun k=>cC M k 3 fun x=>([],x)) 13
 | f+1=>jR (fun k=>cC M k (2 - f) (sD M f)) 13
structure Cd where
 ps:UInt8
 bytes:Bs
def dCd (c:Cd):D:=.str [.val (.int .u8 c.ps.toNat),.seq 1 (c.bytes.map dU8)]
theorem zU {H:Hp} {x:Cd} {cs:List Value} (h:Rep H (dCd x) cs):∃ p c,cs=[.int .u8 x.ps.toNat,.slice p x.bytes.length c]∧Rep H (.seq 1 (x.bytes.map dU8)) [.slice p x.bytes.length c]:=by
 rw [dCd,jP] at h;obtain ⟨_,rfl,_,_,h⟩:=aR.1 h;obtain ⟨p,c,_,rfl,hs,h⟩:=eL.1 h;rw [cY] at h;subst h;rw [List.length_map] at hs ⊢;exact ⟨p,c,rfl,hs⟩
def Mk.at (M:Mk) (k:Nat):Mk:={ M with params:=arN M M.own k }
def hdS (M:Mk) (k:Nat) (c:Cd):Hd:=⟨nmB 104 k,jB 112 (arN M M.own k),(sD (M.at k) 3 (c.bytes.take 40,12)).1⟩
def kA (M:Mk):Nat→List Cd→List Hd
 | _,[]=>[]
 | k,c::r=>hdS M k c::kA M (k+1) r
theorem CG (M:Mk):∀ (a:List Cd) (k:Nat) (b:List Cd),kA M k (a++b)=kA M k a++kA M (k+a.length) b
 | [],k,b=>by simp [kA]
 | c::r,k,b=>by
  simp only [List.cons_append,kA,CG M r (k+1) b,List.length_cons];rw [show k+1+r.length=k+(r.length+1) by omega]
theorem JE {M:Mk} {l:List Cd} {k:Nat} (h:k<l.length):kA M 0 (l.take (k+1))=kA M 0 (l.take k)++[hdS M k l[k]]:=by
 rw [bJ h,CG,List.length_take,Nat.min_eq_left (by omega)];simp [kA]
theorem jK (M:Mk):∀ (l:List Cd) (k:Nat),(kA M k l).length=l.length
 | [],_=>rfl
 | c::r,k=>by simp [kA,jK M r (k+1)]
structure Prt where
 ints:UInt8
 tables:UInt8
 hs:List Cd
 sec:List Cd
structure Pln where
 flags:UInt8
 links:Bs
 comps:List Prt
def sY (x:Prt):D:=.str [.val (.int .u8 x.ints.toNat),.val (.int .u8 x.tables.toNat),.seq 2 (x.hs.map dCd),.seq 2 (x.sec.map dCd)]
def EL (x:Pln):D:=.str [.val (.int .u8 x.flags.toNat),.seq 1 (x.links.map dU8),.seq 4 (x.comps.map sY)]
section
variable {H:Hp}
theorem BD {x:Prt} {cs:List Value} (h:Rep H (sY x) cs):∃ p1 c1 p2 c2,cs=[.int .u8 x.ints.toNat,.int .u8 x.tables.toNat,.slice p1 x.hs.length c1,.slice p2 x.sec.length c2]∧Rep H (.seq 2 (x.hs.map dCd)) [.slice p1 x.hs.length c1]∧Rep H (.seq 2 (x.sec.map dCd)) [.slice p2 x.sec.length c2]:=by
 rw [sY,jP] at h;obtain ⟨_,rfl,_,_,h⟩:=aR.1 h;obtain ⟨_,rfl,_,_,h⟩:=aR.1 h;obtain ⟨p1,c1,_,rfl,k1,h⟩:=eL.1 h;obtain ⟨p2,c2,_,rfl,k2,h⟩:=eL.1 h;rw [cY] at h;subst h;exact ⟨p1,c1,p2,c2,by simp,(by simpa using k1),(by simpa using k2)⟩
theorem LQ {x:Prt} {s1 s2:Value} (k1:Rep H (.seq 2 (x.hs.map dCd)) [s1]) (k2:Rep H (.seq 2 (x.sec.map dCd)) [s2]):Rep H (sY x) [.int .u8 x.ints.toNat,.int .u8 x.tables.toNat,s1,s2]:=by
 rw [sY,jP];exact aR.2 ⟨_,rfl,rfl,trivial,aR.2 ⟨_,rfl,rfl,trivial,dR.2 ⟨[s1],_,rfl,k1,dR.2 ⟨[s2],_,rfl,k2,cY.2 rfl⟩⟩⟩⟩
theorem RM {x:Cd} {s:Value} (k:Rep H (.seq 1 (x.bytes.map dU8)) [s]):Rep H (dCd x) [.int .u8 x.ps.toNat,s]:=by
 rw [dCd,jP];exact aR.2 ⟨_,rfl,rfl,trivial,dR.2 ⟨[s],_,rfl,k,cY.2 rfl⟩⟩
theorem uN {x:Pln} {cs:List Value} (h:Rep H (EL x) cs):∃ p1 c1 p2 c2,cs=[.int .u8 x.flags.toNat,.slice p1 x.links.length c1,.slice p2 x.comps.length c2]∧Rep H (.seq 1 (x.links.map dU8)) [.slice p1 x.links.length c1]∧Rep H (.seq 4 (x.comps.map sY)) [.slice p2 x.comps.length c2]:=by
 rw [EL,jP] at h;obtain ⟨_,rfl,_,_,h⟩:=aR.1 h;obtain ⟨p1,c1,_,rfl,k1,h⟩:=eL.1 h;obtain ⟨p2,c2,_,rfl,k2,h⟩:=eL.1 h;rw [cY] at h;subst h;exact ⟨p1,c1,p2,c2,by simp,(by simpa using k1),(by simpa using k2)⟩
end
def arK (x:Prt) (k:Nat):List Nat :=
 if h:k<x.hs.length then [x.hs[k].ps.toNat % 3] else if k=0 then [1] else if h:k<x.sec.length then [x.sec[k].ps.toNat % 3] else []
def wL (x:Prt) (m:Nat):List Nat:=(List.range m).flatMap (arK x)
def arP (x:Prt):List Nat:=wL x 3
theorem gZ (x:Prt) (m:Nat):wL x (m+1)=wL x m++arK x m:=by simp [wL,List.range_succ]
theorem UU (x:Prt) (k:Nat):(arK x k).length≤1:=by
 unfold arK;split
 ·simp
 ·split
  ·simp
  ·split <;> simp
theorem vX (x:Prt):∀ m,(wL x m).length≤m
 | 0=>by simp [wL]
 | m+1=>by
  rw [gZ,List.length_append];have:=vX x m;have:=UU x m;omega
theorem RP {x:Prt} {k n:Nat} (h:n∈arK x k):n≤2:=by
 unfold arK at h
 split at h
 ·simp at h;omega
 ·split at h
  ·simp at h;omega
  ·split at h
   ·simp at h;omega
   ·simp at h
theorem GQ {x:Prt} {n:Nat} (h:n∈arP x):n≤2:=by
 obtain ⟨k,_,hk⟩:=List.mem_flatMap.1 h;exact RP hk
theorem tQ (x:Prt):(arP x).length=max 1 (max (min x.hs.length 3) (min x.sec.length 3)):=by
 have e:arP x=arK x 0++(arK x 1++arK x 2):=by simp [arP,wL,List.range_succ]
 have key:∀ k,(arK x k).length=if k<x.hs.length∨k=0∨k<x.sec.length then 1 else 0:=by
  intro k;unfold arK
  by_cases h1:k<x.hs.length
  ·rw [dif_pos h1,if_pos (.inl h1)];rfl
  ·rw [dif_neg h1]
   by_cases h2:k=0
   ·rw [if_pos h2,if_pos (.inr (.inl h2))];rfl
   ·rw [if_neg h2]
    by_cases h3:k<x.sec.length
    ·rw [dif_pos h3,if_pos (.inr (.inr h3))];rfl
    ·rw [dif_neg h3,if_neg (by omega)];rfl
 rw [e,List.length_append,List.length_append,key,key,key];rw [if_pos (.inr (.inl rfl))]
 split <;> split <;> omega
def aT (p:Pln):List Prt:=if p.comps.length=0 then [⟨0,0,[],[]⟩] else p.comps.take 3
theorem oC (p:Pln):0<(aT p).length∧(aT p).length≤3:=by
 unfold aT
 split
 ·simp
 ·simp only [List.length_take];omega
def iO (k:Nat):Str:=[UInt8.ofNat (97+k)]
def JH (c:UInt8) (k:Nat):Fg:=⟨nmB 102 k,decide (((c.toNat / 2 ^ (4+k) % 2:Nat):Int)=1)⟩
def qX (c:UInt8) (n:Nat):List Fg:=(List.range n).map (JH c)
theorem EG (c:UInt8) (n:Nat):qX c (n+1)=qX c n++[JH c n]:=by simp [qX,List.range_succ]
theorem rV (c:UInt8) (n:Nat):(qX c n).length=n:=by simp [qX]
def yZ (n:Nat) (l:Bs) (k:Nat):List Lk:=if 0<(l.getD k 0).toNat % 4 then [⟨iO (k / n),iO (k % n),Int64.ofNat ((l.getD k 0).toNat % 4)⟩] else []
def lW (n:Nat) (l:Bs) (m:Nat):List Lk:=(List.range m).flatMap (yZ n l)
theorem kL (n:Nat) (l:Bs) (m:Nat):lW n l (m+1)=lW n l m++yZ n l m:=by simp [lW,List.range_succ]
theorem oM (n:Nat) (l:Bs):∀ m,(lW n l m).length≤m
 | 0=>by simp [lW]
 | m+1=>by
  rw [kL,List.length_append];have:=oM n l m;have:(yZ n l m).length≤1:=by unfold yZ;split <;> simp
  omega
def fO (x:Prt):Nat:=1+x.ints.toNat % 3
def iJ (x:Prt):Nat:=x.tables.toNat % 2
def vrI (k:Nat):Vr:=⟨nmB 120 k,1,Int64.ofNat k⟩
def OY (k:Nat):Vr:=⟨nmB 116 k,3,0⟩
def yE (n:Nat):List Vr:=(List.range n).map vrI
def yD (n:Nat):List Vr:=(List.range n).map OY
theorem GY (n:Nat):yE (n+1)=yE n++[vrI n]:=by simp [yE,List.range_succ]
theorem GX (n:Nat):yD (n+1)=yD n++[OY n]:=by simp [yD,List.range_succ]
def vrB:Vr:=⟨[98,48],2,0⟩
def sG (x:Prt):List Vr:=yE (fO x)++[vrB]++yD (iJ x)
theorem tV (n:Nat):(yE n).length=n:=by simp [yE]
theorem tU (n:Nat):(yD n).length=n:=by simp [yD]
def mkP (ars:List (List Nat)) (nf i:Nat) (x:Prt):Mk:={ ints:=fO x,tables:=iJ x,flags:=nf,own:=i,ars:=ars,params:=0 }
def wF (x:Prt):List Cd:=if x.hs.length=0 then [⟨1,[]⟩] else x.hs.take 3
def lM (M:Mk) (x:Prt):List (List Hd):=kA M 0 (wF x)::(if 0<x.sec.length then [kA M 0 (x.sec.take 3)] else [])
def zT (ars:List (List Nat)) (nf i:Nat) (x:Prt):Cp:=⟨iO i,sG x,lM (mkP ars nf i x) x⟩
def pN (ars:List (List Nat)) (nf:Nat) (l:List Prt):List Cp:=l.mapIdx (fun i x=>zT ars nf i x)
theorem EM {ars:List (List Nat)} {nf:Nat} {l:List Prt} {k:Nat} (h:k<l.length):pN ars nf (l.take (k+1))=pN ars nf (l.take k)++[zT ars nf k l[k]]:=by
 unfold pN;rw [bJ h,List.mapIdx_append];simp [Nat.min_eq_left (Nat.le_of_lt h)]
theorem oU (ars:List (List Nat)) (nf:Nat) (l:List Prt):(pN ars nf l).length=l.length:=by simp [pN]
def mQ:Str:=[102,108,101,101,116,49]
def fH (p:Pln):List (List Nat):=(aT p).map arP
def cQ (p:Pln):Ft :=
 ⟨mQ,qX p.flags (p.flags.toNat % 3),lW (aT p).length p.links (min p.links.length ((aT p).length * (aT p).length)),pN (fH p) (p.flags.toNat % 3) (aT p)⟩
theorem Fx.agg25:dA Tryz.prog 25=Option.some Option.none:=by kernel_rfl
theorem Fx.agg27:dA Tryz.prog 27=Option.some (Option.some 4):=by kernel_rfl
theorem Fx.call29:aK Tryz.prog 29=Bool.true:=by kernel_rfl
theorem Fx.field27_3:aO Tryz.prog 27 3=Option.some 3:=by kernel_rfl
theorem Fx.sl25:slN Tryz.prog 25=Option.some 4:=by kernel_rfl
set_option maxRecDepth 100000 in
theorem pM (e:Ex):∀ (H:Hp) (cs:List Value) (w:World),Rep H (dEx .u8 e) cs→e.depth≤1000000→Agr H w →
 Calls Tryz.prog 29 #[.agg cs.toArray] w fun r w'=>r=.returned (.int .i64 (e.depth:Nat))∧Ext w w':=by
 induction e using Ex.ind with | _ op nm nn args ih
 intro H cs w h he hA;rw [fQ] at he;obtain ⟨p,c,rfl,hs,hnm⟩:=bU h;have hcap:=hs.cap;refine Sx.enter (H:=H) Tryz.func29 rfl Tryz.ntmps29 rfl hA ?_;refine .sr<|.bx Z Z Z fun b1=>.a Z Z<|.ns<|.a Z Z<|.nt<|.sq<|.sr<|.yv (.fieldAddr Z Fx.field27_3) Z<|.yv (.load Z Fx.agg25 (.head _) Z) Z<|.yv (.lenSl Fx.sl25 Z) Z<|.m Z Z<|.nt<|.bk<|.lp (X:=Nat) [(1,_),(7,_)] ⟨rfl,rfl,trivial⟩ [_] (fun k=>[(3,.int .i64 (Ex.deeps (args.take k):Nat)),(8,.int .i64 (k:Nat))]) (fun k=>H) (fun k=>[]) (fun k=>k≤args.length) (fun k=>args.length - k) 0 (fun _ s=>s) ⟨rfl,rfl,trivial⟩ (by omega) fun k hC=>?_
 refine .sr<|.yv (.lss Z Z) Z<|.nt<|.sq<|.cd Z (fun h9=>?_) (fun h9=>?_)
 ·try simp only [dt] at h9
  have hk:k<args.length:=by omega
  obtain ⟨b5,o5,c5,hp5,r5,l5,m5⟩:=hs.elem (aS hk);cases hp5;have h1:=EI args k;have h2:=NQ hk;have h3:=EJ hk;exact .sk<|.tN<|.sq<|.bk<|.sr<|.m Z Z<|.a Z Z<|.nt<|.rg<|.m Z Z<|.yv (.fieldAddr Z Fx.field27_3) Z<|.yv (.load Z Fx.agg25 (.head _) Z) Z<|.m Z Z<|.yv (.indexSl Fx.sl25 Z Z Z (by omega) (q:=o5+k * 4) Z) Z<|.yv (.loadMW Z Fx.agg27 m5 l5) Z<|.yv (.call Fx.call29 Z (fun W s=>ih _ (List.getElem_mem hk) H c5 W r5 (by omega) s.agr)) Z<|.yv (.max2 Z Z (c:=((Ex.deeps (args.take (k+1)):Nat):Int)) (by omega)) Z<|.a Z Z<|.nl<|.bN<|.tN<|.rg<|.yv (.add Z Z (w6 (by omega))) Z<|.m Z Z<|.nt<|.ag (k+1) ⟨rfl,rfl,trivial⟩ ⟨rfl,rfl,trivial⟩ (fun _ s=>s) (by omega) (by omega)
 try simp only [df] at h9
 obtain rfl:k=args.length:=by omega
 rw [List.take_length];refine .ex<|.tE<|.tE<|.bE<|.tN<|.sr<|.m Z Z<|.yv (.add Z Z (w6 (by omega))) Z<|.a Z Z<|.nt<|.rt<|?_
 exact Sx.ret1 (.inl rfl) rfl (.tmp rfl) fun W s=>⟨by rw [fQ];rfl,s.ext⟩
theorem Fx.agg242:dA Tryz.prog 242=Option.some (Option.some 39):=by kernel_rfl
theorem Fx.are242:RN Tryz.prog 242=Bool.true:=by kernel_rfl
theorem Fx.arr242:zY Tryz.prog 242=Option.some (39,1):=by kernel_rfl
theorem Fx.call114:aK Tryz.prog 114=Bool.true:=by kernel_rfl
theorem Fx.call117:aK Tryz.prog 117=Bool.true:=by kernel_rfl
theorem Fx.call145:aK Tryz.prog 145=Bool.true:=by kernel_rfl
theorem Fx.str9:kX Tryz.prog 9=Bool.true:=by kernel_rfl
end Go.Proofs.YthhoebdlfjffkaaGreatDoor
