/- Texts of the proof, one behind the other. -/
import Derived.Test.YthhoebdlfjffkaaGreatDoorMa
import Derived.Lib.Builder
import Derived.Lib.AppendStr
import Derived.Lib.UnsafeStr
import Derived.Lib.ItoaNum
import Derived.Lib.Join
import Derived.Lib.ItoaLen
import Derived.Lib.ParseIntB
import Derived.Lib.ParseIntBCases
import Derived.Lib.IndexMore
import Derived.Test.YthhoebdlfjffkaaGreatDoorProg
set_option linter.all false
set_option maxRecDepth 100000
/- Pointers, strings appended to bytes, and unsafe strings: what a strings.Builder inside an own box meets. -/
namespace Go.Sx
open Go.RowKit Go.Par
section
variable {dfs:List Deferred} {P:Program} {n:Nat} {L:Sl} {H:Hp} {w0:World} {bs:List Res} {Q:Exit→Act→World→Prop} {ops:Array Oper} {rest:List Oper} {K:Act→World→Prop}
variable {d:Option Tmp} {ty:TypeId} {pos:String} {aft:Array Edge} {g:Option (Nat × Bool)} {v:Value} {t:Tmp} {op:Op} {x y z:Operand} {T T':TypeId}
def ML (P:Program) (T:TypeId):Option TypeId:=match P.underlying T with | some (.pointer e)=>if (P.info? e).isSome then some e else none | _=>none
theorem xO {e:TypeId} (h:ML P T=some e):P.underlying T=some (.pointer e)∧∃ j,P.info? e=some j:=by
 unfold ML at h;cases hu:P.underlying T with
 | none=>rw [hu] at h;cases h
 | some q =>
  rw [hu] at h;cases q <;> simp only [reduceCtorEq] at h;rename_i e'
  split at h
  ·rename_i hi;cases h;exact ⟨rfl,Option.isSome_iff_exists.1 hi⟩
  ·cases h
theorem Yl.neqP {e:TypeId} {a:Addr} (hT:ML P T=some e) (hx:ev L x=some (.pointer (some a))) (hy:ev L y=some (.pointer (some a))):Yl P L H w0 bs ⟨d,.binOp .neq T x y T',ty,pos,aft,g⟩ (.bool false):=.of_run fun ac W f _=>by
 obtain ⟨hp,j,hj⟩:=xO hT;have h:=Lib.run_neq_ptr_same (P:=P) W a hp hj;unfold execOp;simp [f x _ hx,f y _ hy,Sem.run_bind,eqGuard,Sem.run_pure,Result.andThen,h]
theorem Yl.eqPn {e:TypeId} {p:Option Addr} (hT:ML P T=some e) (hx:ev L x=some (.pointer p)) (hy:ev L y=some (.pointer none)):Yl P L H w0 bs ⟨d,.binOp .eql T x y T',ty,pos,aft,g⟩ (.bool p.isNone):=.of_run fun ac W f _=>by
 obtain ⟨hp,j,hj⟩:=xO hT
 have h:∀ q:Nat,(Op.equalIn (q+1) T (.pointer p) (.pointer none)).run P W=.ok p.isNone W:=fun q=>by
  cases p <;> simp [Op.equalIn,run_underlying hp]
 unfold execOp;simp [f x _ hx,f y _ hy,Sem.run_bind,eqGuard,Sem.run_pure,Result.andThen,binOp,Op.equal,Op.maxDepth,h 9999]
theorem Yl.ext {f:FuncId} {xs:List Operand} {vs:List Value} {ats:Array TypeId} (hv:evs L xs=some vs) (h:∀ W,(callFunc f vs.toArray).run P W=.ok (.value v) W):Yl P L H w0 bs ⟨d,.call ⟨.value (.func f),xs.toArray,ats⟩,ty,pos,aft,g⟩ v:=.of_run fun a W f0 s=>by
 have hm:=mZ f0 hv;have:(#[]:Array Value)=[].toArray:=rfl;unfold execOp;simp only [resolve,Act.eval,Deferred.ofValue,Sem.run_bind,Sem.run_pure,Result.andThen,invoke,List.map_toArray,hm,this,List.append_toArray,List.nil_append,List.append_nil,h]
def LH (P:Program) (T:TypeId):Bool:=match P.underlying T with | some .unsafePointer=>true | _=>false
theorem xD (h:LH P T=true):P.underlying T=some .unsafePointer:=by
 unfold LH at h;cases hu:P.underlying T with
 | none=>rw [hu] at h;cases h
 | some q=>rw [hu] at h;cases q <;> simp_all
def EO (P:Program) (T:TypeId):Option (TypeId × Nat):=match P.underlying T with | some (.pointer e)=>(P.info? e).map fun j=>(e,j.size) | _=>none
theorem rS {e:TypeId} {m:Nat} (h:EO P T=some (e,m)):P.underlying T=some (.pointer e)∧∃ j,P.info? e=some j∧j.size=m:=by
 unfold EO at h;cases hu:P.underlying T with
 | none=>rw [hu] at h;cases h
 | some q =>
  rw [hu] at h;cases q <;> simp only [reduceCtorEq] at h;rename_i e';obtain ⟨j,hj,h2⟩:=Option.map_eq_some_iff.1 h;injection h2 with h3 h4
  subst h3 h4;exact ⟨rfl,j,hj,rfl⟩
theorem St.shape {W:World} {b:Nat} {l:List Value} {t':TypeId} (s:St H w0 bs W) (hm:Res.box b l t'∈bs):W.shape? b=some (t',l.length):=by
 have hb:=(s.own _ hm).1.2;simp [World.shape?,hb]
theorem Yl.toU {e:TypeId} {m b:Nat} {l:List Value} {t':TypeId} (hT:EO P T=some (e,m+1)) (hT':LH P T'=true) (hm:Res.box b l t'∈bs) (hl:0<l.length) (hx:ev L x=some (.pointer (some ⟨b,0,none⟩))):Yl P L H w0 bs ⟨d,.convert T T' x,ty,pos,aft,g⟩ (.pointer (some ⟨b,0,none⟩)):=.of_run fun ac W f s=>by
 obtain ⟨hp,j,hj,hjs⟩:=rS hT;have h:=Lib.run_to_unsafe (P:=P) W ⟨b,0,none⟩ hp (xD hT') hj (by omega) (s.shape hm) hl;unfold execOp;simp only [f x _ hx,Sem.run_bind,h,Result.andThen,Sem.run_pure]
theorem Yl.fromU {e:TypeId} {m b:Nat} {l:List Value} {t':TypeId} (hT:LH P T=true) (hT':EO P T'=some (e,m)) (hm:Res.box b l t'∈bs) (hlies:liesAt P P.depth t' (l.length / P.cellsOf t') 0 e 1=true) (hx:ev L x=some (.pointer (some ⟨b,0,none⟩))):Yl P L H w0 bs ⟨d,.convert T T' x,ty,pos,aft,g⟩ (.pointer (some ⟨b,0,none⟩)):=.of_run fun ac W f s=>by
 obtain ⟨hp,j,hj,hjs⟩:=rS hT';have h:=Lib.run_from_unsafe (P:=P) W ⟨b,0,none⟩ (xD hT) hp hj (s.shape hm) hlies;unfold execOp;simp only [f x _ hx,Sem.run_bind,h,Result.andThen,Sem.run_pure]
theorem BL (l:List UInt8):Lib.strCells ⟨l.toArray⟩=l.map dI:=by simp [Lib.strCells,dI]
def HW (P:Program) (T:TypeId):Option TypeId:=match P.underlying T with | some (.slice e)=>(P.info? e).bind fun i=>(match i.zero with | some (.int .u8 0)=>if i.size=1∧i.bytes=1 then some e else none | _=>none) | _=>none
theorem FJ {e:TypeId} (h:HW P T=some e):P.underlying T=some (.slice e)∧∃ i,P.info? e=some i∧i.zero=some (.int .u8 0)∧i.size=1∧i.bytes=1:=by
 unfold HW at h;cases hu:P.underlying T with
 | none=>rw [hu] at h;cases h
 | some q =>
  rw [hu] at h;cases q <;> simp only [reduceCtorEq] at h;rename_i e';obtain ⟨i,hi,h2⟩:=Option.bind_eq_some_iff.1 h
  split at h2
  ·rename_i hz
   split at h2
   ·rename_i hs;cases h2;exact ⟨rfl,i,hi,hz,hs.1,hs.2⟩
   ·cases h2
  ·cases h2
theorem At.as {e T2:TypeId} {k:Nat} {r:Value} {l s0:List UInt8} {bs':Value→List Res} (hT:HW P T=some e) (hT2:lJ P T2=true) (hx:ev L x=some r) (hm:∀ r',Upd bs (.row e 1 r k (l.map dI)) (.row e 1 r' (k+s0.length) ((l++s0).map dI)) (bs' r'))
 (hy:ev L y=some (.string ⟨s0.toArray⟩)) (hb:k+s0.length≤140737488355328) (ht:Nat.blt t n=true)
 (h:∀ r',At dfs n ((t,r')::L) H w0 (bs' r') (wpList P ops Q rest)):At dfs n L H w0 bs (wpList P ops Q (⟨some t,.call ⟨.builtin .append,#[x,y],#[T,T2]⟩,ty,pos,aft,none⟩::rest)):=by
 obtain ⟨hu,i,hi,hz,hs1,hby⟩:=FJ hT;refine cons ?_;intro a W f s;have hown:W.ownsRow w0.heap.size e 1 r k (l.map dI):=(s.own _ (hm r).mem).1;have hsz:(⟨s0.toArray⟩:ByteArray).size=s0.length:=qL s0;obtain ⟨v',W',hr,ho,hg,hnil⟩:=Lib.run_append_own_string (P:=P) W w0.heap.size T T2 ty e i hu (iQ hT2) hi hz hs1 hby r k (l.map dI) hown ⟨s0.toArray⟩ (by rw [hsz];simp only [maxLen];omega) (by rw [hsz];exact hb) s.ext.size;rw [BL,← List.map_append,hsz] at ho
 have hblk:∀ q,v'.ownBlock=some q→r.ownBlock=some q∨W.heap.size≤q:=by
  have hus:=iQ hT2;rcases hown.2 with ⟨rfl,rfl⟩ | ⟨g,cap,cur,rfl,hbg,hgc,hnc,hcm,hcs,htake⟩
  ·intro q hq
   by_cases hm0:s0.length=0
   ·rw [hnil.2 ⟨rfl,by rw [hsz];exact hm0⟩] at hq;cases hq
   ·have h2:=run_append_nil_string (P:=P) W T T2 ty e i (.int .u8 0) hu hus hi hz ⟨s0.toArray⟩ (by omega) (by omega) (by rw [hby,hsz];omega);rw [h2] at hr;injection hr with e1 e2
    rw [← e1] at hq
    right
    have:=Option.some.inj hq;simp at this;omega
  ·intro q hq
   by_cases hroom:k+s0.length≤cap
   ·have hcs':cur.size=cap:=by simpa using hcs
    have h2:=Lib.run_append_room_string (P:=P) W T T2 ty e i hu hus hi hs1 g k cap cur hgc ⟨s0.toArray⟩ (by rw [hsz];exact hroom) (by rw [hsz];omega);rw [h2] at hr;injection hr with e1 e2
    rw [← e1] at hq;exact .inl hq
   ·have h2:=Lib.run_append_grow_string (P:=P) W T T2 ty e i (.int .u8 0) hu hus hi hz ⟨g,0,none⟩ k cap (l.map dI) (by rw [hs1];exact hown.1) (World.ownsRow.cells hown (g:=g) rfl) ⟨s0.toArray⟩ (by omega) (by omega) (by rw [hby,hsz];exact growslice_fits (by omega) (by omega));rw [h2] at hr;injection hr with e1 e2
    rw [← e1] at hq
    right
    have:=Option.some.inj hq;simp at this;omega
 refine dQ rfl ?_;unfold Oper.wp execOp;simp only [resolve,invoke,builtin,Sem.run_bind,Sem.run_pure,Result.andThen_ok,List.map_toArray,List.map_cons,List.map_nil,f.ev hx,f.ev hy,hr];refine h v' _ _ (f.put ht _) ?_;have hlt:∀ q,r.ownBlock=some q→w0.heap.size≤q:=fun q hq=>(World.ownsRow.lt hown q hq).1;refine s.upd (hm v') ?_ hg.size (fun q hq hn=>hg.block q hq (fun e=>hn e.symm)) ho hblk;refine Ext.of_below ⟨hg.os.trans s.ext.below.os,hg.tape.trans s.ext.below.tape,hg.output.trans s.ext.below.output,Nat.le_trans s.ext.below.size hg.size,fun q hq=>?_⟩;rw [hg.block q (Nat.lt_of_lt_of_le hq s.ext.size) (fun e=>by have:=hlt q e.symm;omega)];exact s.ext.below.block q hq
theorem Yl.sliceData {b m c:Nat} {ts:Array TypeId} (hc:c≠0) (hx:ev L x=some (.slice (some ⟨b,0,none⟩) m c)):Yl P L H w0 bs ⟨d,.call ⟨.builtin .unsafeSliceData,#[x],ts⟩,ty,pos,aft,g⟩ (.pointer (some ⟨b,0,none⟩)):=.of_run fun ac W f _=>by
 have h1:(Builtin.unsafeSliceData_ ts ty #[.slice (some ⟨b,0,none⟩) m c]).run P W=.ok (.pointer (some ⟨b,0,none⟩)) W:=by
  have e:Builtin.unsafeSliceData_ ts ty #[.slice (some ⟨b,0,none⟩) m c]=(if c≠0 then pure (.pointer (some ⟨b,0,none⟩)) else do
   if (← viewAt b).isSome then pure (.pointer (some ⟨b,0,none⟩)) else pure (.pointer (some ⟨← newObj (.view ⟨b,0,none⟩ (← elemOf ty)),0,none⟩))):=rfl
  rw [e,if_pos hc];simp
 unfold execOp;simp only [f x _ hx,resolve,invoke,builtin,Sem.run_bind,Sem.run_pure,Result.andThen_ok,List.map_toArray,List.map_cons,List.map_nil,h1]
theorem At.us {e pt it:TypeId} {b c k:Nat} {l:List UInt8} {z:Int} (hp:EO P pt=some (e,k)) (hc1:P.cellsOf e=1) (hm:Res.row e 1 (.slice (some ⟨b,0,none⟩) l.length c) l.length (l.map dI)∈bs) (h0:l≠[]) (h63:l.length≤9223372036854775807) (hx:ev L x=some (.pointer (some ⟨b,0,none⟩))) (hy:ev L y=some (.int .i64 z)) (hz:z=(l.length:Nat)) (ht:Nat.blt t n=true)
 (h:At dfs n ((t,.string ⟨l.toArray⟩)::L) H w0 [] (wpList P ops Q rest)):At dfs n L H w0 bs (wpList P ops Q (⟨some t,.call ⟨.builtin .unsafeString,#[x,y],#[pt,it]⟩,ty,pos,aft,none⟩::rest)):=by
 subst hz;refine cons ?_;intro a W f s;obtain ⟨hu,j,hj,hjs⟩:=rS hp;have hown:=(s.own _ hm).1;have hH:=(s.own _ hm).2 b rfl;obtain ⟨_,⟨h1,_⟩ | ⟨g,cap,cur,e1,hg,hc,hn,hcm,hcs,htk⟩⟩:=hown
 ·cases h1
 injection e1 with e2 e3 e4
 obtain rfl:b=g:=by injection (Option.some.inj e2)
 have hcells:=World.ownsRow.cells (s.own _ hm).1 (g:=b) rfl;have hcs':cur.size=cap:=by simpa using hcs
 have hr:=Lib.run_unsafeString_row (P:=P) W pt it ty e hu hc1 b cur.size (by simp [World.shape?,hc]) l h0 (by omega) h63 (fun q u hq=>hcells q _ (by rw [List.getElem?_map,hq];rfl));have hl0:l.length≠0:=by simpa using h0
 refine dQ rfl ?_;unfold Oper.wp execOp;simp only [resolve,invoke,builtin,Sem.run_bind,Sem.run_pure,Result.andThen_ok,List.map_toArray,List.map_cons,List.map_nil,f.ev hx,f.ev hy,hr];refine h _ _ (f.put ht _) ?_
 have hk:∀ q,q≠b→(W.freeze ⟨b,0,none⟩ l.length).heap[q]? = W.heap[q]? := fun q hq=>by
  unfold World.freeze;rw [if_neg hl0];show (W.heap.modify b _)[q]? = _;rw [Array.getElem?_modify,if_neg (Ne.symm hq)]
 have hsz:(W.freeze ⟨b,0,none⟩ l.length).heap.size=W.heap.size:=by unfold World.freeze;rw [if_neg hl0];simp
 have hx:=s.ext.below;have h5:(W.freeze ⟨b,0,none⟩ l.length).os=W.os∧(W.freeze ⟨b,0,none⟩ l.length).tape=W.tape∧(W.freeze ⟨b,0,none⟩ l.length).output=W.output:=by unfold World.freeze;rw [if_neg hl0];exact ⟨rfl,rfl,rfl⟩
 refine ⟨Ext.of_below ⟨h5.1.trans hx.os,h5.2.1.trans hx.tape,h5.2.2.trans hx.output,by rw [hsz];exact hx.size,fun q hq=>?_⟩,fun q o hq=>?_,(fun _ h=>by cases h),.nil⟩
 ·rw [hk q (by omega)];exact hx.block q hq
 ·rw [hk q (fun e=>by rw [e,hH] at hq;cases hq)];exact s.agr q o hq
theorem St.pickT {W:World} {hd tl hd':List Res} (s:St H w0 (hd++tl) W) (ix:List Nat) (hn:dZ ix=true) (hm:ix.map (fun i=>hd[i]?)=hd'.map some):St H w0 (hd'++tl) W:=by
 have hlt:∀ i x,hd[i]? = some x→(hd++tl)[i]? = some x:=fun i x e=>by
  rw [List.getElem?_append_left (List.getElem?_eq_some_iff.1 e).1];exact e
 have key:∀ (ix:List Nat) (hd':List Res),dZ ix=true→ix.map (fun i=>hd[i]?)=hd'.map some→(∀ x∈hd',∃ i∈ix,hd[i]? = some x)∧(hd'++tl).Pairwise Res.apart:=by
  intro ix;induction ix with
  | nil =>
   intro hd' _ hm;cases hd' with
   | nil=>exact ⟨fun x hx=>(by cases hx),(List.pairwise_append.1 s.apart).2.1⟩
   | cons a r=>simp at hm
  | cons i r ih =>
   intro hd' hn hm;cases hd' with
   | nil=>simp at hm
   | cons a q =>
    simp only [List.map_cons,List.cons.injEq] at hm;simp only [dZ,Bool.and_eq_true,Bool.not_eq_true'] at hn;obtain ⟨h1,h2⟩:=ih q hn.2 hm.2;refine ⟨fun x hx=>?_,?_⟩
    ·rcases List.mem_cons.1 hx with rfl | hx
     ·exact ⟨i,.head _,hm.1⟩
     ·obtain ⟨j,hj,e⟩:=h1 x hx;exact ⟨j,.tail _ hj,e⟩
    ·rw [List.cons_append,List.pairwise_cons];refine ⟨fun y hy=>?_,h2⟩;rcases List.mem_append.1 hy with hy | hy
     ·obtain ⟨j,hj,e⟩:=h1 y hy;refine sO s.apart (hlt _ _ hm.1) (hlt _ _ e) fun h=>?_;subst h;have:=hn.1;simp [hj] at this
     ·exact (List.pairwise_append.1 s.apart).2.2 a (List.mem_of_getElem? hm.1) y hy
 obtain ⟨h1,h2⟩:=key ix hd' hn hm;refine ⟨s.ext,s.agr,fun x hx=>?_,h2⟩;rcases List.mem_append.1 hx with hx | hx
 ·obtain ⟨i,_,e⟩:=h1 x hx;exact s.own x (List.mem_append_left _ (List.mem_of_getElem? e))
 ·exact s.own x (List.mem_append_right _ hx)
theorem At.pt {G:Act→World→Prop} {hd tl hd':List Res} (ix:List Nat) (hn:dZ ix=true) (hm:ix.map (fun i=>hd[i]?)=hd'.map some) (h:At dfs n L H w0 (hd'++tl) G):At dfs n L H w0 (hd++tl) G:=fun a W f s=>h a W f (s.pickT ix hn hm)
theorem At.mk {e:TypeId} {v0:Value} {bytes m:Nat} {kl kc:IntKind} {i j:Int} (hT:gZ P T=some (e,1,bytes)) (hz0:dV P e=some [v0]) (hx:ev L x=some (.int kl i)) (hy:ev L y=some (.int kc j)) (hi:i=(m:Int)) (hj:j=(m:Int)) (hb:bytes * m≤281474976710656) (h63:m≤9223372036854775807) (ht:Nat.blt t n=true)
 (h:∀ b,At dfs n ((t,.slice (some ⟨b,0,none⟩) m m)::L) H w0 (.box b (List.replicate m v0) e::bs) (wpList P ops Q rest)):At dfs n L H w0 bs (wpList P ops Q (⟨some t,.makeSlice T x y,ty,pos,aft,none⟩::rest)):=by
 subst hi hj;obtain ⟨hu,q,z,hq,hz,hsz,hby,hzs,h0⟩:=lZ hT
 have hz1:z.cells.toList=[v0]:=by
  have h2:=hz0;unfold dV at h2;rw [hq] at h2;simp only [Option.bind_some,hz,Option.map_some,Option.some.injEq] at h2;exact h2
 refine cons ?_;intro a W f s;refine dQ rfl ?_
 have hbz:(q.bytes:Int) * (m:Int)≤281474976710656:=by
  have h5:((q.bytes * m:Nat):Int)≤281474976710656:=by rw [hby];omega
  rwa [Int.natCast_mul] at h5
 have hr:=run_make (P:=P) W T e q z hu hq hz kl kc m m (by omega) (Int.le_refl _) hbz (by omega)
 have hcs:madeCells z.cells (((m:Int)).toNat * q.size)=(List.replicate m v0).toArray:=by
  have e1:z.cells=#[v0]:=by rw [← Array.toArray_toList (xs:=z.cells),hz1]
  rw [e1,hsz,Int.toNat_natCast,Nat.mul_one];apply Array.ext
  ·simp [madeCells]
  ·intro i h1 h2;simp [madeCells,Nat.mod_one]
 rw [hcs,Int.toNat_natCast] at hr;unfold Oper.wp execOp;simp only [Sem.run_bind,Sem.run_pure,Result.andThen_ok,f.ev hx,f.ev hy,hr];exact h _ _ _ (f.put ht _) (s.alloc _ _)
end
theorem dt {p:Prop} [Decidable p]:(decide p=true)=p:=decide_eq_true_eq
theorem df {p:Prop} [Decidable p]:(decide p=false)=¬ p:=propext decide_eq_false_iff_not
theorem nb {a b:Nat} (h:Nat.ble a b=true):a≤b:=Nat.le_of_ble_eq_true h
theorem z0 {l:List Value}:∀ (j:Nat) u,l[j]? = some u→l[0+j]? = some u:=fun j u h=>by rw [Nat.zero_add];exact h
theorem w6 {i:Int} (h:-9223372036854775808≤i∧i≤9223372036854775807):IntKind.i64.wrap i=i:=w64 h.1 h.2
section
variable {dfs:List Deferred} {P:Program} {n:Nat} {L:Sl} {H:Hp} {w0:World} {bs:List Res} {Q:Exit→Act→World→Prop} {ops:Array Oper}
theorem At.nt {K:Act→World→Prop} (h:At dfs n L H w0 bs K):At dfs n L H w0 bs (wpList P ops (Exit.then K Q) []):=.nl (.tN h)
theorem At.sr {id:Nat} {l:List Oper} {y:Code} (h:At dfs n L H w0 bs (wpList P l.toArray (Exit.then (y.wp P Q) Q) l)):At dfs n L H w0 bs ((Code.seq (Code.region id l.toArray false) y).wp P Q):=.sq (.rg h)
theorem At.ns {Q':Exit→Act→World→Prop} {id:Nat} {l:List Oper} {y:Code} (h:At dfs n L H w0 bs (wpList P l.toArray (Exit.then (y.wp P Q') Q') l)):At dfs n L H w0 bs (wpList P ops (Exit.then ((Code.seq (Code.region id l.toArray false) y).wp P Q') Q) []):=.nl (.tN (.sq (.rg h)))
end
end Go.Sx

namespace Go.Sx
open Go.RowKit Go.Par
section
variable {dfs:List Deferred} {P:Program} {L:Sl} {H H':Hp} {w0:World} {bs bs':List Res} {ty:TypeId} {pos:String} {aft:Array Edge} {t:Tmp} {op:Op} {ops:Array Oper} {N hn i n j:Nat} {pa:List (Nat × Oper × Value)} {E:Sl→Hp→List Res→Prop} {r:List (Nat × Nat × Oper)} {rest:List Oper} {Q:Exit→Act→World→Prop} {o:Oper} {v:Value} {b c:Bool} {u:Tmp}
theorem St.p1_1 {H:Hp} {w0 W:World} {a0 b0:Res} {tl:List Res} (s:St H w0 (a0::tl) W) (ix:List Nat) (hm:ix.map (fun i=>([a0]:List Res)[i]?)=[some b0]) (hn:dZ ix=true:=by rfl):St H w0 (b0::tl) W:=s.pickT (hd:=[a0]) (hd':=[b0]) ix hn hm
theorem St.p2_0 {H:Hp} {w0 W:World} {a0 a1:Res} {tl:List Res} (s:St H w0 (a0::a1::tl) W) (ix:List Nat) (hm:ix.map (fun i=>([a0,a1]:List Res)[i]?)=[]) (hn:dZ ix=true:=by rfl):St H w0 (tl) W:=s.pickT (hd:=[a0,a1]) (hd':=[]) ix hn hm
theorem St.p2_1 {H:Hp} {w0 W:World} {a0 a1 b0:Res} {tl:List Res} (s:St H w0 (a0::a1::tl) W) (ix:List Nat) (hm:ix.map (fun i=>([a0,a1]:List Res)[i]?)=[some b0]) (hn:dZ ix=true:=by rfl):St H w0 (b0::tl) W:=s.pickT (hd:=[a0,a1]) (hd':=[b0]) ix hn hm
theorem St.p2_2 {H:Hp} {w0 W:World} {a0 a1 b0 b1:Res} {tl:List Res} (s:St H w0 (a0::a1::tl) W) (ix:List Nat) (hm:ix.map (fun i=>([a0,a1]:List Res)[i]?)=[some b0,some b1]) (hn:dZ ix=true:=by rfl):St H w0 (b0::b1::tl) W:=s.pickT (hd:=[a0,a1]) (hd':=[b0,b1]) ix hn hm
theorem St.p3_0 {H:Hp} {w0 W:World} {a0 a1 a2:Res} {tl:List Res} (s:St H w0 (a0::a1::a2::tl) W) (ix:List Nat) (hm:ix.map (fun i=>([a0,a1,a2]:List Res)[i]?)=[]) (hn:dZ ix=true:=by rfl):St H w0 (tl) W:=s.pickT (hd:=[a0,a1,a2]) (hd':=[]) ix hn hm
theorem St.p3_1 {H:Hp} {w0 W:World} {a0 a1 a2 b0:Res} {tl:List Res} (s:St H w0 (a0::a1::a2::tl) W) (ix:List Nat) (hm:ix.map (fun i=>([a0,a1,a2]:List Res)[i]?)=[some b0]) (hn:dZ ix=true:=by rfl):St H w0 (b0::tl) W:=s.pickT (hd:=[a0,a1,a2]) (hd':=[b0]) ix hn hm
theorem St.p3_2 {H:Hp} {w0 W:World} {a0 a1 a2 b0 b1:Res} {tl:List Res} (s:St H w0 (a0::a1::a2::tl) W) (ix:List Nat) (hm:ix.map (fun i=>([a0,a1,a2]:List Res)[i]?)=[some b0,some b1]) (hn:dZ ix=true:=by rfl):St H w0 (b0::b1::tl) W:=s.pickT (hd:=[a0,a1,a2]) (hd':=[b0,b1]) ix hn hm
theorem St.p3_3 {H:Hp} {w0 W:World} {a0 a1 a2 b0 b1 b2:Res} {tl:List Res} (s:St H w0 (a0::a1::a2::tl) W) (ix:List Nat) (hm:ix.map (fun i=>([a0,a1,a2]:List Res)[i]?)=[some b0,some b1,some b2]) (hn:dZ ix=true:=by rfl):St H w0 (b0::b1::b2::tl) W:=s.pickT (hd:=[a0,a1,a2]) (hd':=[b0,b1,b2]) ix hn hm
theorem St.p4_2 {H:Hp} {w0 W:World} {a0 a1 a2 a3 b0 b1:Res} {tl:List Res} (s:St H w0 (a0::a1::a2::a3::tl) W) (ix:List Nat) (hm:ix.map (fun i=>([a0,a1,a2,a3]:List Res)[i]?)=[some b0,some b1]) (hn:dZ ix=true:=by rfl):St H w0 (b0::b1::tl) W:=s.pickT (hd:=[a0,a1,a2,a3]) (hd':=[b0,b1]) ix hn hm
theorem St.p4_3 {H:Hp} {w0 W:World} {a0 a1 a2 a3 b0 b1 b2:Res} {tl:List Res} (s:St H w0 (a0::a1::a2::a3::tl) W) (ix:List Nat) (hm:ix.map (fun i=>([a0,a1,a2,a3]:List Res)[i]?)=[some b0,some b1,some b2]) (hn:dZ ix=true:=by rfl):St H w0 (b0::b1::b2::tl) W:=s.pickT (hd:=[a0,a1,a2,a3]) (hd':=[b0,b1,b2]) ix hn hm
theorem St.p4_4 {H:Hp} {w0 W:World} {a0 a1 a2 a3 b0 b1 b2 b3:Res} {tl:List Res} (s:St H w0 (a0::a1::a2::a3::tl) W) (ix:List Nat) (hm:ix.map (fun i=>([a0,a1,a2,a3]:List Res)[i]?)=[some b0,some b1,some b2,some b3]) (hn:dZ ix=true:=by rfl):St H w0 (b0::b1::b2::b3::tl) W:=s.pickT (hd:=[a0,a1,a2,a3]) (hd':=[b0,b1,b2,b3]) ix hn hm
theorem St.p5_2 {H:Hp} {w0 W:World} {a0 a1 a2 a3 a4 b0 b1:Res} {tl:List Res} (s:St H w0 (a0::a1::a2::a3::a4::tl) W) (ix:List Nat) (hm:ix.map (fun i=>([a0,a1,a2,a3,a4]:List Res)[i]?)=[some b0,some b1]) (hn:dZ ix=true:=by rfl):St H w0 (b0::b1::tl) W:=s.pickT (hd:=[a0,a1,a2,a3,a4]) (hd':=[b0,b1]) ix hn hm
theorem St.p5_3 {H:Hp} {w0 W:World} {a0 a1 a2 a3 a4 b0 b1 b2:Res} {tl:List Res} (s:St H w0 (a0::a1::a2::a3::a4::tl) W) (ix:List Nat) (hm:ix.map (fun i=>([a0,a1,a2,a3,a4]:List Res)[i]?)=[some b0,some b1,some b2]) (hn:dZ ix=true:=by rfl):St H w0 (b0::b1::b2::tl) W:=s.pickT (hd:=[a0,a1,a2,a3,a4]) (hd':=[b0,b1,b2]) ix hn hm
theorem St.p5_4 {H:Hp} {w0 W:World} {a0 a1 a2 a3 a4 b0 b1 b2 b3:Res} {tl:List Res} (s:St H w0 (a0::a1::a2::a3::a4::tl) W) (ix:List Nat) (hm:ix.map (fun i=>([a0,a1,a2,a3,a4]:List Res)[i]?)=[some b0,some b1,some b2,some b3]) (hn:dZ ix=true:=by rfl):St H w0 (b0::b1::b2::b3::tl) W:=s.pickT (hd:=[a0,a1,a2,a3,a4]) (hd':=[b0,b1,b2,b3]) ix hn hm
theorem St.p5_5 {H:Hp} {w0 W:World} {a0 a1 a2 a3 a4 b0 b1 b2 b3 b4:Res} {tl:List Res} (s:St H w0 (a0::a1::a2::a3::a4::tl) W) (ix:List Nat) (hm:ix.map (fun i=>([a0,a1,a2,a3,a4]:List Res)[i]?)=[some b0,some b1,some b2,some b3,some b4]) (hn:dZ ix=true:=by rfl):St H w0 (b0::b1::b2::b3::b4::tl) W:=s.pickT (hd:=[a0,a1,a2,a3,a4]) (hd':=[b0,b1,b2,b3,b4]) ix hn hm
theorem St.p6_3 {H:Hp} {w0 W:World} {a0 a1 a2 a3 a4 a5 b0 b1 b2:Res} {tl:List Res} (s:St H w0 (a0::a1::a2::a3::a4::a5::tl) W) (ix:List Nat) (hm:ix.map (fun i=>([a0,a1,a2,a3,a4,a5]:List Res)[i]?)=[some b0,some b1,some b2]) (hn:dZ ix=true:=by rfl):St H w0 (b0::b1::b2::tl) W:=s.pickT (hd:=[a0,a1,a2,a3,a4,a5]) (hd':=[b0,b1,b2]) ix hn hm
theorem St.p6_5 {H:Hp} {w0 W:World} {a0 a1 a2 a3 a4 a5 b0 b1 b2 b3 b4:Res} {tl:List Res} (s:St H w0 (a0::a1::a2::a3::a4::a5::tl) W) (ix:List Nat) (hm:ix.map (fun i=>([a0,a1,a2,a3,a4,a5]:List Res)[i]?)=[some b0,some b1,some b2,some b3,some b4]) (hn:dZ ix=true:=by rfl):St H w0 (b0::b1::b2::b3::b4::tl) W:=s.pickT (hd:=[a0,a1,a2,a3,a4,a5]) (hd':=[b0,b1,b2,b3,b4]) ix hn hm
theorem St.p6_6 {H:Hp} {w0 W:World} {a0 a1 a2 a3 a4 a5 b0 b1 b2 b3 b4 b5:Res} {tl:List Res} (s:St H w0 (a0::a1::a2::a3::a4::a5::tl) W) (ix:List Nat) (hm:ix.map (fun i=>([a0,a1,a2,a3,a4,a5]:List Res)[i]?)=[some b0,some b1,some b2,some b3,some b4,some b5]) (hn:dZ ix=true:=by rfl):St H w0 (b0::b1::b2::b3::b4::b5::tl) W:=s.pickT (hd:=[a0,a1,a2,a3,a4,a5]) (hd':=[b0,b1,b2,b3,b4,b5]) ix hn hm
theorem St.p7_7 {H:Hp} {w0 W:World} {a0 a1 a2 a3 a4 a5 a6 b0 b1 b2 b3 b4 b5 b6:Res} {tl:List Res} (s:St H w0 (a0::a1::a2::a3::a4::a5::a6::tl) W) (ix:List Nat) (hm:ix.map (fun i=>([a0,a1,a2,a3,a4,a5,a6]:List Res)[i]?)=[some b0,some b1,some b2,some b3,some b4,some b5,some b6]) (hn:dZ ix=true:=by rfl):St H w0 (b0::b1::b2::b3::b4::b5::b6::tl) W:=s.pickT (hd:=[a0,a1,a2,a3,a4,a5,a6]) (hd':=[b0,b1,b2,b3,b4,b5,b6]) ix hn hm
end
end Go.Sx
namespace Go.Proofs.YthhoebdlfjffkaaGreatDoor
open Go.RowKit Go.Par Go.Sx
abbrev Str:=List UInt8
def aB (l:Str):Value:=.string ⟨l.toArray⟩
inductive Ex where
 | mk (op:UInt8) (nm:Str) (n:Int64) (args:List Ex)
inductive Sm where
 | mk (kind:UInt8) (nm hd:Str) (ex:List Ex) (th el:List Sm)
def Ex.op:Ex→UInt8 | .mk op _ _ _=>op
def Ex.args:Ex→List Ex | .mk _ _ _ args=>args
mutual
def dEx (k:IntKind):Ex→D
 | .mk op nm n args=>.str [.val (.int k op.toNat),.val (aB nm),.val (.int .i64 n.toInt),.seq 4 (RZ k args)]
def RZ (k:IntKind):List Ex→List D
 | []=>[]
 | e::r=>dEx k e::RZ k r
end
theorem DP (k:IntKind):∀ l,RZ k l=l.map (dEx k)
 | []=>rfl
 | e::r=>by rw [RZ,DP k r];rfl
theorem OT (k:IntKind) (op:UInt8) (nm:Str) (n:Int64) (args:List Ex):dEx k (.mk op nm n args)=.str [.val (.int k op.toNat),.val (aB nm),.val (.int .i64 n.toInt),.seq 4 (args.map (dEx k))]:=by rw [dEx,DP]
mutual
def dSm (k:IntKind):Sm→D
 | .mk kd nm hd ex th el=>.str [.val (.int k kd.toNat),.val (aB nm),.val (aB hd),.seq 4 (ex.map (dEx k)),.seq 6 (OQ k th),.seq 6 (OQ k el)]
def OQ (k:IntKind):List Sm→List D
 | []=>[]
 | e::r=>dSm k e::OQ k r
end
theorem wL (k:IntKind):∀ l,OQ k l=l.map (dSm k)
 | []=>rfl
 | e::r=>by rw [OQ,wL k r];rfl
theorem OS (k:IntKind) (kd:UInt8) (nm hd:Str) (ex:List Ex) (th el:List Sm):dSm k (.mk kd nm hd ex th el)=.str [.val (.int k kd.toNat),.val (aB nm),.val (aB hd),.seq 4 (ex.map (dEx k)),.seq 6 (th.map (dSm k)),.seq 6 (el.map (dSm k))]:=by rw [dSm,wL,wL]
theorem Ex.ind {C:Ex→Prop} (h:∀ op nm n args,(∀ a∈args,C a)→C (.mk op nm n args)):∀ e,C e
 | .mk op nm n args=>h op nm n args fun a ha=>Ex.ind h a
termination_by e=>SizeOf.sizeOf e
decreasing_by
 have:=List.sizeOf_lt_of_mem ha;simp;omega
theorem Sm.ind {C:Sm→Prop} (h:∀ kd nm hd ex th el,(∀ a∈th,C a)→(∀ a∈el,C a)→C (.mk kd nm hd ex th el)):∀ e,C e
 | .mk kd nm hd ex th el=>h kd nm hd ex th el (fun a ha=>Sm.ind h a) (fun a ha=>Sm.ind h a)
termination_by e=>SizeOf.sizeOf e
decreasing_by
 all_goals
  have:=List.sizeOf_lt_of_mem ha;simp;omega
structure Hd where
 nm:Str
 ps:List Str
 body:List Sm
structure Vr where
 nm:Str
 ty:UInt8
 init:Int64
structure Cp where
 nm:Str
 vars:List Vr
 vers:List (List Hd)
structure Fg where
 nm:Str
 init:Bool
structure Lk where
 fr:Str
 to:Str
 lat:Int64
structure Ft where
 nm:Str
 flags:List Fg
 links:List Lk
 comps:List Cp
def iM (s:Str):D:=.val (aB s)
def wK (s:Str):D:=.any (aB s)
def dHd (k:IntKind) (h:Hd):D:=.str [.val (aB h.nm),.seq 1 (h.ps.map iM),.seq 6 (h.body.map (dSm k))]
def dVr (k:IntKind) (v:Vr):D:=.str [.val (aB v.nm),.val (.int k v.ty.toNat),.val (.int .i64 v.init.toInt)]
def dVs (k:IntKind) (v:List Hd):D:=.seq 3 (v.map (dHd k))
def dCp (k:IntKind) (c:Cp):D:=.str [.val (aB c.nm),.seq 3 (c.vars.map (dVr k)),.seq 1 (c.vers.map (dVs k))]
def dFg (f:Fg):D:=.str [.val (aB f.nm),.val (.bool f.init)]
def dLk (l:Lk):D:=.str [.val (aB l.fr),.val (aB l.to),.val (.int .i64 l.lat.toInt)]
def dFt (k:IntKind) (f:Ft):D:=.str [.val (aB f.nm),.seq 2 (f.flags.map dFg),.seq 3 (f.links.map dLk),.seq 3 (f.comps.map (dCp k))]
/-! ### Structs opened and shut -/
section
variable {H:Hp}
theorem UA {v:Value} (h:v.oneCell'=true) (k:okV v):Rep H (.val v) [v]:=by unfold Rep;exact ⟨rfl,h,k⟩
theorem okS {l:Str}:okV (aB l)↔l.length≤1000000:=by simp [okV,aB,ByteArray.size]
theorem MI {v:Value} {l:List Value} (h:Rep H (.val v) l):l=[v]:=by unfold Rep at h;exact h.1
theorem dW {d:D} {ds:List D} {l:List Value}:iZ H (d::ds) l↔∃ x y,l=x++y∧Rep H d x∧iZ H ds y:=by
 constructor
 ·intro h;unfold iZ at h;exact h
 ·intro h;unfold iZ;exact h
theorem dE {l:List Value}:iZ H [] l↔l=[]:=by
 constructor
 ·intro h;unfold iZ at h;exact h
 ·intro h;unfold iZ;exact h
theorem jW {ds:List D} {l:List Value}:Rep H (.str ds) l↔iZ H ds l:=by
 constructor
 ·intro h;unfold Rep at h;exact h
 ·intro h;unfold Rep;exact h
theorem aQ {v:Value} {ds:List D} {l:List Value}:iZ H (.val v::ds) l↔∃ y,l=v::y∧v.oneCell'=true∧okV v∧iZ H ds y:=by
 rw [dW]
 constructor
 ·rintro ⟨x,y,rfl,hx,hy⟩;unfold Rep at hx;obtain ⟨rfl,h,k⟩:=hx;exact ⟨y,rfl,h,k,hy⟩
 ·rintro ⟨y,rfl,h,k,hy⟩;exact ⟨[v],y,rfl,UA h k,hy⟩
theorem eT {z:Nat} {es ds:List D} {l:List Value}:iZ H (.seq z es::ds) l↔∃ p c y,l=.slice p es.length c::y∧Rep H (.seq z es) [.slice p es.length c]∧iZ H ds y:=by
 rw [dW]
 constructor
 ·rintro ⟨x,y,rfl,hx,hy⟩;obtain ⟨p,c,rfl,_⟩:=hx.sl;exact ⟨p,c,y,rfl,hx,hy⟩
 ·rintro ⟨p,c,y,rfl,hx,hy⟩;exact ⟨_,y,rfl,hx,hy⟩
theorem bB {α β:Type} {f:α→β} {l:List α} {k:Nat} (h:k<l.length):(l.map f)[k]? = some (f l[k]):=by simp [h]
theorem bZ {k:IntKind} {op:UInt8} {nm:Str} {n:Int64} {args:List Ex} {cs:List Value} (h:Rep H (dEx k (.mk op nm n args)) cs) :
 ∃ p c,cs=[.int k op.toNat,aB nm,.int .i64 n.toInt,.slice p args.length c]∧Rep H (.seq 4 (args.map (dEx k))) [.slice p args.length c]∧nm.length≤1000000:=by
 rw [OT,jW] at h;obtain ⟨_,rfl,_,_,h⟩:=aQ.1 h;obtain ⟨_,rfl,_,hn,h⟩:=aQ.1 h;obtain ⟨_,rfl,_,_,h⟩:=aQ.1 h;obtain ⟨p,c,_,rfl,hs,h⟩:=eT.1 h;rw [dE] at h;subst h;rw [List.length_map] at hs ⊢;exact ⟨p,c,rfl,hs,okS.1 hn⟩
theorem dM {k:IntKind} {op:UInt8} {nm:Str} {n:Int64} {args:List Ex} {s:Value} (hn:nm.length≤1000000) (h:Rep H (.seq 4 (args.map (dEx k))) [s]) :
 Rep H (dEx k (.mk op nm n args)) [.int k op.toNat,aB nm,.int .i64 n.toInt,s]:=by
 rw [OT,jW];exact aQ.2 ⟨_,rfl,rfl,trivial,aQ.2 ⟨_,rfl,rfl,okS.2 hn,aQ.2 ⟨_,rfl,rfl,trivial,dW.2 ⟨[s],[],rfl,h,dE.2 rfl⟩⟩⟩⟩
theorem jA {k:IntKind} {kd:UInt8} {nm hd:Str} {ex:List Ex} {th el:List Sm} {cs:List Value} (h:Rep H (dSm k (.mk kd nm hd ex th el)) cs) :
 ∃ p c p1 c1 p2 c2,cs=[.int k kd.toNat,aB nm,aB hd,.slice p ex.length c,.slice p1 th.length c1,.slice p2 el.length c2]∧Rep H (.seq 4 (ex.map (dEx k))) [.slice p ex.length c]∧Rep H (.seq 6 (th.map (dSm k))) [.slice p1 th.length c1]∧Rep H (.seq 6 (el.map (dSm k))) [.slice p2 el.length c2]∧nm.length≤1000000∧hd.length≤1000000:=by
 rw [OS,jW] at h;obtain ⟨_,rfl,_,_,h⟩:=aQ.1 h;obtain ⟨_,rfl,_,hn,h⟩:=aQ.1 h;obtain ⟨_,rfl,_,hm,h⟩:=aQ.1 h;obtain ⟨p,c,_,rfl,hs,h⟩:=eT.1 h;obtain ⟨p1,c1,_,rfl,hs1,h⟩:=eT.1 h;obtain ⟨p2,c2,_,rfl,hs2,h⟩:=eT.1 h;rw [dE] at h;subst h;rw [List.length_map] at hs hs1 hs2;exact ⟨p,c,p1,c1,p2,c2,by rw [List.length_map,List.length_map,List.length_map],hs,hs1,hs2,okS.1 hn,okS.1 hm⟩
theorem dG {k:IntKind} {kd:UInt8} {nm hd:Str} {ex:List Ex} {th el:List Sm} {s s1 s2:Value} (hn:nm.length≤1000000) (hm:hd.length≤1000000) (h:Rep H (.seq 4 (ex.map (dEx k))) [s]) (h1:Rep H (.seq 6 (th.map (dSm k))) [s1]) (h2:Rep H (.seq 6 (el.map (dSm k))) [s2]) :
 Rep H (dSm k (.mk kd nm hd ex th el)) [.int k kd.toNat,aB nm,aB hd,s,s1,s2]:=by
 rw [OS,jW];exact aQ.2 ⟨_,rfl,rfl,trivial,aQ.2 ⟨_,rfl,rfl,okS.2 hn,aQ.2 ⟨_,rfl,rfl,okS.2 hm,dW.2 ⟨[s],_,rfl,h,dW.2 ⟨[s1],_,rfl,h1,dW.2 ⟨[s2],[],rfl,h2,dE.2 rfl⟩⟩⟩⟩⟩⟩
theorem oW {k:IntKind} {x:Hd} {cs:List Value} (h:Rep H (dHd k x) cs) :
 ∃ p1 c1 p2 c2,cs=[aB x.nm,.slice p1 x.ps.length c1,.slice p2 x.body.length c2]∧x.nm.length≤1000000∧Rep H (.seq 1 (x.ps.map iM)) [.slice p1 x.ps.length c1]∧Rep H (.seq 6 (x.body.map (dSm k))) [.slice p2 x.body.length c2]:=by
 rw [dHd,jW] at h;obtain ⟨_,rfl,_,k0,h⟩:=aQ.1 h;obtain ⟨p1,c1,_,rfl,k1,h⟩:=eT.1 h;obtain ⟨p2,c2,_,rfl,k2,h⟩:=eT.1 h;rw [dE] at h;subst h;exact ⟨p1,c1,p2,c2,by simp,okS.1 k0,(by simpa using k1),(by simpa using k2)⟩
theorem AE {k:IntKind} {x:Hd} (k0:x.nm.length≤1000000) {s1:Value} (k1:Rep H (.seq 1 (x.ps.map iM)) [s1]) {s2:Value} (k2:Rep H (.seq 6 (x.body.map (dSm k))) [s2]):Rep H (dHd k x) [aB x.nm,s1,s2]:=by
 rw [dHd,jW];exact aQ.2 ⟨_,rfl,rfl,okS.2 k0,dW.2 ⟨[s1],_,rfl,k1,dW.2 ⟨[s2],_,rfl,k2,dE.2 rfl⟩⟩⟩
theorem qJ {k:IntKind} {x:Vr} {cs:List Value} (h:Rep H (dVr k x) cs) :
 cs=[aB x.nm,.int k x.ty.toNat,.int .i64 x.init.toInt]∧x.nm.length≤1000000:=by
 rw [dVr,jW] at h;obtain ⟨_,rfl,_,k0,h⟩:=aQ.1 h;obtain ⟨_,rfl,_,_,h⟩:=aQ.1 h;obtain ⟨_,rfl,_,_,h⟩:=aQ.1 h;rw [dE] at h;subst h;exact ⟨by simp,okS.1 k0⟩
theorem qI {k:IntKind} {x:Vr} (k0:x.nm.length≤1000000):Rep H (dVr k x) [aB x.nm,.int k x.ty.toNat,.int .i64 x.init.toInt]:=by
 rw [dVr,jW];exact aQ.2 ⟨_,rfl,rfl,okS.2 k0,aQ.2 ⟨_,rfl,rfl,trivial,aQ.2 ⟨_,rfl,rfl,trivial,dE.2 rfl⟩⟩⟩
theorem oZ {k:IntKind} {x:Cp} {cs:List Value} (h:Rep H (dCp k x) cs) :
 ∃ p1 c1 p2 c2,cs=[aB x.nm,.slice p1 x.vars.length c1,.slice p2 x.vers.length c2]∧x.nm.length≤1000000∧Rep H (.seq 3 (x.vars.map (dVr k))) [.slice p1 x.vars.length c1]∧Rep H (.seq 1 (x.vers.map (dVs k))) [.slice p2 x.vers.length c2]:=by
 rw [dCp,jW] at h;obtain ⟨_,rfl,_,k0,h⟩:=aQ.1 h;obtain ⟨p1,c1,_,rfl,k1,h⟩:=eT.1 h;obtain ⟨p2,c2,_,rfl,k2,h⟩:=eT.1 h;rw [dE] at h;subst h;exact ⟨p1,c1,p2,c2,by simp,okS.1 k0,(by simpa using k1),(by simpa using k2)⟩
theorem uA {k:IntKind} {x:Cp} (k0:x.nm.length≤1000000) {s1:Value} (k1:Rep H (.seq 3 (x.vars.map (dVr k))) [s1]) {s2:Value} (k2:Rep H (.seq 1 (x.vers.map (dVs k))) [s2]):Rep H (dCp k x) [aB x.nm,s1,s2]:=by
 rw [dCp,jW];exact aQ.2 ⟨_,rfl,rfl,okS.2 k0,dW.2 ⟨[s1],_,rfl,k1,dW.2 ⟨[s2],_,rfl,k2,dE.2 rfl⟩⟩⟩
theorem AK {x:Fg} {cs:List Value} (h:Rep H (dFg x) cs) :
 cs=[aB x.nm,.bool x.init]∧x.nm.length≤1000000:=by
 rw [dFg,jW] at h;obtain ⟨_,rfl,_,k0,h⟩:=aQ.1 h;obtain ⟨_,rfl,_,_,h⟩:=aQ.1 h;rw [dE] at h;subst h;exact ⟨by simp,okS.1 k0⟩
theorem AJ {x:Fg} (k0:x.nm.length≤1000000):Rep H (dFg x) [aB x.nm,.bool x.init]:=by
 rw [dFg,jW];exact aQ.2 ⟨_,rfl,rfl,okS.2 k0,aQ.2 ⟨_,rfl,rfl,trivial,dE.2 rfl⟩⟩
theorem tS {x:Lk} {cs:List Value} (h:Rep H (dLk x) cs) :
 cs=[aB x.fr,aB x.to,.int .i64 x.lat.toInt]∧x.fr.length≤1000000∧x.to.length≤1000000:=by
 rw [dLk,jW] at h;obtain ⟨_,rfl,_,k0,h⟩:=aQ.1 h;obtain ⟨_,rfl,_,k1,h⟩:=aQ.1 h;obtain ⟨_,rfl,_,_,h⟩:=aQ.1 h;rw [dE] at h;subst h;exact ⟨by simp,okS.1 k0,okS.1 k1⟩
theorem zX {x:Lk} (k0:x.fr.length≤1000000) (k1:x.to.length≤1000000):Rep H (dLk x) [aB x.fr,aB x.to,.int .i64 x.lat.toInt]:=by
 rw [dLk,jW];exact aQ.2 ⟨_,rfl,rfl,okS.2 k0,aQ.2 ⟨_,rfl,rfl,okS.2 k1,aQ.2 ⟨_,rfl,rfl,trivial,dE.2 rfl⟩⟩⟩
theorem lK {k:IntKind} {x:Ft} {cs:List Value} (h:Rep H (dFt k x) cs) :
 ∃ p1 c1 p2 c2 p3 c3,cs=[aB x.nm,.slice p1 x.flags.length c1,.slice p2 x.links.length c2,.slice p3 x.comps.length c3]∧x.nm.length≤1000000∧Rep H (.seq 2 (x.flags.map dFg)) [.slice p1 x.flags.length c1]∧Rep H (.seq 3 (x.links.map dLk)) [.slice p2 x.links.length c2]∧Rep H (.seq 3 (x.comps.map (dCp k))) [.slice p3 x.comps.length c3]:=by
 rw [dFt,jW] at h;obtain ⟨_,rfl,_,k0,h⟩:=aQ.1 h;obtain ⟨p1,c1,_,rfl,k1,h⟩:=eT.1 h;obtain ⟨p2,c2,_,rfl,k2,h⟩:=eT.1 h;obtain ⟨p3,c3,_,rfl,k3,h⟩:=eT.1 h;rw [dE] at h;subst h;exact ⟨p1,c1,p2,c2,p3,c3,by simp,okS.1 k0,(by simpa using k1),(by simpa using k2),(by simpa using k3)⟩
theorem tX {k:IntKind} {x:Ft} (k0:x.nm.length≤1000000) {s1:Value} (k1:Rep H (.seq 2 (x.flags.map dFg)) [s1]) {s2:Value} (k2:Rep H (.seq 3 (x.links.map dLk)) [s2]) {s3:Value} (k3:Rep H (.seq 3 (x.comps.map (dCp k))) [s3]):Rep H (dFt k x) [aB x.nm,s1,s2,s3]:=by
 rw [dFt,jW];exact aQ.2 ⟨_,rfl,rfl,okS.2 k0,dW.2 ⟨[s1],_,rfl,k1,dW.2 ⟨[s2],_,rfl,k2,dW.2 ⟨[s3],_,rfl,k3,dE.2 rfl⟩⟩⟩⟩
theorem tH {k:IntKind} {x:List Hd} {cs:List Value} (h:Rep H (dVs k x) cs):∃ p c,cs=[.slice p x.length c]∧Rep H (.seq 3 (x.map (dHd k))) [.slice p x.length c]:=by
 rw [dVs] at h;obtain ⟨p,c,rfl,_⟩:=h.sl;rw [List.length_map] at h ⊢;exact ⟨p,c,rfl,h⟩
theorem nK {x:Str} {cs:List Value} (h:Rep H (iM x) cs):cs=[aB x]∧x.length≤1000000:=by
 unfold iM Rep at h;exact ⟨h.1,okS.1 h.2.2⟩
theorem IW {x:Str} {cs:List Value} (h:Rep H (wK x) cs):cs=[aB x]:=by
 unfold wK Rep at h;exact h.1
theorem IV (x:Str):Rep H (wK x) [aB x]:=by unfold wK Rep;exact ⟨rfl,rfl⟩
theorem LV {x:Str} (h:x.length≤1000000):Rep H (iM x) [aB x]:=UA rfl (okS.2 h)
end
end Go.Proofs.YthhoebdlfjffkaaGreatDoor
namespace Go.Proofs.YthhoebdlfjffkaaGreatDoor
mutual
def Ex.depth:Ex→Nat
 | .mk _ _ _ args=>Ex.deeps args+1
def Ex.deeps:List Ex→Nat
 | []=>0
 | e::r=>max (Ex.depth e) (Ex.deeps r)
end
theorem bK {α:Type} {l:List α} {k:Nat} (h:k<l.length):l.take (k+1)=l.take k++[l[k]]:=by simp
theorem yF (a b:List Ex):Ex.deeps (a++b)=max (Ex.deeps a) (Ex.deeps b):=by
 induction a with
 | nil=>simp [Ex.deeps]
 | cons e r ih=>simp only [List.cons_append,Ex.deeps,ih];omega
theorem FG {l:List Ex} {k:Nat} (h:k<l.length):Ex.deeps (l.take (k+1))=max (Ex.deeps (l.take k)) (Ex.depth l[k]):=by
 rw [bK h,yF];simp [Ex.deeps]
theorem FF (l:List Ex) (k:Nat):Ex.deeps (l.take k)≤Ex.deeps l:=by
 have:=yF (l.take k) (l.drop k);rw [List.take_append_drop] at this;omega
theorem sC {l:List Ex} {e:Ex} (h:e∈l):Ex.depth e≤Ex.deeps l:=by
 induction l with
 | nil=>cases h
 | cons a r ih =>
  simp only [Ex.deeps];rcases List.mem_cons.1 h with rfl | h
  ·omega
  ·have:=ih h;omega
theorem OO {l:List Ex} {k:Nat} (h:k<l.length):Ex.depth l[k]≤Ex.deeps l:=sC (List.getElem_mem h)
theorem fW (op:UInt8) (nm:Str) (n:Int64) (args:List Ex):Ex.depth (.mk op nm n args)=Ex.deeps args+1:=by rw [Ex.depth]
def Sm.kd:Sm→UInt8 | .mk kd _ _ _ _ _=>kd
def Sm.th:Sm→List Sm | .mk _ _ _ _ th _=>th
def Sm.el:Sm→List Sm | .mk _ _ _ _ _ el=>el
theorem Sm.lists {C:List Sm→Prop} (h:∀ l,(∀ s∈l,C s.th∧C s.el)→C l):∀ l,C l:=by
 have key:∀ s:Sm,C s.th∧C s.el:=fun s=>by
  induction s using Sm.ind with
  | _ kd nm hd ex th el ih1 ih2=>exact ⟨h th fun a ha=>ih1 a ha,h el fun a ha=>ih2 a ha⟩
 exact fun l=>h l fun s _=>key s
mutual
def Sm.depth:Sm→Nat
 | .mk _ _ _ _ th el=>max (Sm.deeps th) (Sm.deeps el)+1
def Sm.deeps:List Sm→Nat
 | []=>0
 | e::r=>max (Sm.depth e) (Sm.deeps r)
end
mutual
def Sm.count:Sm→Nat
 | .mk _ _ _ _ th el=>Sm.counts th+Sm.counts el+1
def Sm.counts:List Sm→Nat
 | []=>0
 | e::r=>Sm.count e+Sm.counts r
end
theorem fA (a b:List Sm):Sm.deeps (a++b)=max (Sm.deeps a) (Sm.deeps b):=by
 induction a with
 | nil=>simp [Sm.deeps]
 | cons e r ih=>simp only [List.cons_append,Sm.deeps,ih];omega
theorem BS {l:List Sm} {k:Nat} (h:k<l.length):Sm.deeps (l.take (k+1))=max (Sm.deeps (l.take k)) (Sm.depth l[k]):=by
 rw [bK h,fA];simp [Sm.deeps]
theorem BR (l:List Sm) (k:Nat):Sm.deeps (l.take k)≤Sm.deeps l:=by
 have:=fA (l.take k) (l.drop k);rw [List.take_append_drop] at this;omega
theorem eK (a b:List Sm):Sm.counts (a++b)=Sm.counts a+Sm.counts b:=by
 induction a with
 | nil=>simp [Sm.counts]
 | cons e r ih=>simp only [List.cons_append,Sm.counts,ih];omega
theorem zE {l:List Sm} {k:Nat} (h:k<l.length):Sm.counts (l.take (k+1))=Sm.counts (l.take k)+Sm.count l[k]:=by
 rw [bK h,eK];simp [Sm.counts]
theorem zD (l:List Sm) (k:Nat):Sm.counts (l.take k)≤Sm.counts l:=by
 have:=eK (l.take k) (l.drop k);rw [List.take_append_drop] at this;omega
theorem dP (kd:UInt8) (nm hd:Str) (ex:List Ex) (th el:List Sm):Sm.count (.mk kd nm hd ex th el)=Sm.counts th+Sm.counts el+1:=by rw [Sm.count]
theorem iT (kd:UInt8) (nm hd:Str) (ex:List Ex) (th el:List Sm):Sm.depth (.mk kd nm hd ex th el)=max (Sm.deeps th) (Sm.deeps el)+1:=by rw [Sm.depth]
theorem iU (l:List Sm):l.length≤Sm.counts l:=by
 induction l with
 | nil=>simp
 | cons e r ih =>
  obtain ⟨kd,nm,hd,ex,th,el⟩:=e;simp only [List.length_cons,Sm.counts,dP];omega
end Go.Proofs.YthhoebdlfjffkaaGreatDoor
namespace Go.Proofs.YthhoebdlfjffkaaGreatDoor
open Go.RowKit Go.Par Go.Sx
def iE (c:UInt8):Bool:=(decide (97≤c.toNat) && decide (c.toNat≤122)) || (decide (65≤c.toNat) && decide (c.toNat≤90))
def dU (c:UInt8):Bool:=decide (48≤c.toNat) && decide (c.toNat≤57)
def eE (c:UInt8):Bool:=iE c || dU c || decide (c.toNat=95)
def words:List Str:=[[97,102,116,101,114],[97,108,119,97,121,115],[97,110,100],[97,114,114,105,118,101,115],[98,111,111,108],[99,111,109,112,111,110,101,110,116],[99,111,117,110,116],[100,101,108,101,116,101],[100,111],[101,108,115,101],[101,120,105,115,116,115],[102,97,108,115,101],[102,101,116,99,104],[102,108,97,103],[102,108,101,101,116],[102,111,114,97,108,108],[104,97,115],[105,102],[105,109,112,108,105,101,115],[105,110],[105,110,116],[108,97,116,101,110,99,121],[108,105,110,107],[110,111,116],[110,111,119],[111,110],[111,110,99,101],[111,114],[112,114,101,118,105,111,117,115],[115,101,110,100],[115,105,110,99,101],[115,105,122,101],[115,116,111,112],[115,116,111,114,101],[116,97,98,108,101],[116,114,117,101],[118,97,114],[118,101,114,115,105,111,110],[119,104,105,108,101]]
def symbols:List Str:=[[46,46],[61,61],[33,61],[60,61],[62,61],[45,62],[123],[125],[40],[41],[91],[93],[44],[59],[58],[46],[61],[60],[62],[43],[45],[42],[47],[37],[95]]
def pre (q:UInt8→Bool) (l:Str):Nat:=(l.takeWhile q).length
theorem nN (q:UInt8→Bool) (l:Str):pre q l≤l.length:=by
 unfold pre;induction l with
 | nil=>simp
 | cons a r ih=>rw [List.takeWhile_cons];split <;> simp;omega
theorem CB {q:UInt8→Bool}:∀ {l:Str} {k:Nat} (h:k<l.length),k≤pre q l→q l[k]=true→k+1≤pre q l
 | [],k,h,_,_=>by simp at h
 | a::r,0,h,_,hq=>by
  unfold pre;rw [List.takeWhile_cons];simp at hq;simp [hq]
 | a::r,k+1,h,hk,hq=>by
  unfold pre at hk ⊢;rw [List.takeWhile_cons] at hk ⊢;cases ha:q a with
  | false=>rw [ha] at hk;simp at hk
  | true =>
   rw [ha] at hk;simp at hk hq;have:=CB (l:=r) (k:=k) (by simpa using h) hk hq;unfold pre at this;simp;omega
theorem vH {q:UInt8→Bool}:∀ {l:Str} {k:Nat} (h:k<l.length),k≤pre q l→q l[k]=false→k=pre q l
 | [],k,h,_,_=>by simp at h
 | a::r,0,h,_,hq=>by
  unfold pre;rw [List.takeWhile_cons];simp at hq;simp [hq]
 | a::r,k+1,h,hk,hq=>by
  unfold pre at hk ⊢;rw [List.takeWhile_cons] at hk ⊢;cases ha:q a with
  | false=>rw [ha] at hk;simp at hk
  | true =>
   rw [ha] at hk;simp at hk hq;have:=vH (l:=r) (k:=k) (by simpa using h) hk hq;unfold pre at this;simp;omega
def aI (l:Str):UInt8 × Nat :=
 let c:=l.headD 0
 if iE c then
  if words.contains (l.take (pre eE l)) then (2,pre eE l) else if pre eE l≤12 then (1,pre eE l) else (5,l.length)
 else if dU c then
  if pre dU l=1∨c≠48 then (3,pre dU l) else (5,l.length)
 else match symbols.find? (fun x=>x.isPrefixOf l) with
  | some x=>(4,x.length)
  | none=>(5,l.length)
def aS (l:Str):Bool:=decide (l≠[]) && (aI l).1 == 1 && decide ((aI l).2=l.length)
def nG (l m:Str):Bool:=decide (m.length≤l.length) && decide (l.take m.length=m)
theorem nV (l m:Str):nG l m=m.isPrefixOf l:=by
 rw [Bool.eq_iff_iff];simp only [nG,Bool.and_eq_true,decide_eq_true_eq,List.isPrefixOf_iff_prefix]
 constructor
 ·rintro ⟨_,h⟩;have:=List.take_append_drop m.length l;rw [h] at this;exact ⟨_,this⟩
 ·rintro ⟨t,rfl⟩;simp
theorem fC {α:Type} {l:List α} {k:Nat} (h:k<l.length) (d:α):l.getD k d=l[k]:=by simp [h]
theorem HC {α β:Type} {f:α→β} {l:List α} {k:Nat} (h:k<l.length) (d:α):(l.map f)[k]? = some (f (l.getD k d)):=by simp [h]
structure Shp where
 n:Nat
 nm:Bool
 lv:Nat
 tx:Str
structure Frm where
 nm:Bool
 hd:Bool
 lo:Nat
 hi:Nat
 th:Bool
 el:Bool
def shapes:List Shp:=[⟨0,false,0,[]⟩,⟨0,false,7,[]⟩,⟨0,false,7,[116,114,117,101]⟩,⟨0,false,7,[102,97,108,115,101]⟩,⟨0,false,7,[110,111,119]⟩,⟨0,true,7,[]⟩,⟨1,true,7,[]⟩,⟨1,true,7,[104,97,115,32]⟩,⟨0,true,7,[115,105,122,101,32]⟩,⟨1,false,6,[45]⟩,⟨1,false,6,[110,111,116,32]⟩,⟨2,false,5,[32,42,32]⟩,⟨2,false,5,[32,47,32]⟩,⟨2,false,5,[32,37,32]⟩,⟨2,false,4,[32,43,32]⟩,⟨2,false,4,[32,45,32]⟩,⟨2,false,3,[32,61,61,32]⟩,⟨2,false,3,[32,33,61,32]⟩,⟨2,false,3,[32,60,32]⟩,⟨2,false,3,[32,60,61,32]⟩,⟨2,false,3,[32,62,32]⟩,⟨2,false,3,[32,62,61,32]⟩,⟨2,false,2,[32,97,110,100,32]⟩,⟨2,false,1,[32,111,114,32]⟩]
def forms:List Frm:=[⟨false,false,0,0,false,false⟩,⟨true,false,1,1,false,false⟩,⟨true,false,2,2,false,false⟩,⟨true,false,1,1,false,false⟩,⟨false,false,1,1,true,true⟩,⟨false,false,1,1,true,false⟩,⟨true,true,0,4,false,false⟩,⟨false,true,1,5,false,false⟩,⟨false,false,2,2,false,true⟩,⟨true,false,1,1,false,true⟩,⟨false,false,0,0,false,false⟩]
def jH (s:Shp):List Value:=[.int .i64 (s.n:Nat),.bool s.nm,.int .i64 (s.lv:Nat),aB s.tx]
def pU (s:Frm):List Value:=[.bool s.nm,.bool s.hd,.int .i64 (s.lo:Nat),.int .i64 (s.hi:Nat),.bool s.th,.bool s.el]
def iL (op:UInt8):Bool:=decide (1≤op.toNat) && decide (op.toNat≤23)
def gT (op:UInt8):Bool:=decide (1≤op.toNat) && decide (op.toNat≤10)
def aH (op:UInt8):Shp:=if iL op then shapes.getD op.toNat ⟨0,false,0,[]⟩ else ⟨0,false,0,[]⟩
def aT (op:UInt8):Frm:=if gT op then forms.getD op.toNat ⟨false,false,0,0,false,false⟩ else ⟨false,false,0,0,false,false⟩
theorem AI {α:Type} {f:α→List Value} {z:Nat} (hz:∀ a,(f a).length=z):∀ {l:List α} {i:Nat} (d:α),i<l.length→∀ (j:Nat) u,(f (l.getD i d))[j]? = some u→(l.flatMap f)[i * z+j]? = some u
 | [],i,d,h,j,u,e=>by simp at h
 | a::r,0,d,h,j,u,e=>by
  simp only [List.flatMap_cons,Nat.zero_mul,Nat.zero_add];simp at e;rw [List.getElem?_append_left (List.getElem?_eq_some_iff.1 e).1];exact e
 | a::r,i+1,d,h,j,u,e=>by
  simp only [List.flatMap_cons];rw [List.getElem?_append_right (by rw [hz,Nat.succ_mul];omega),hz,show (i+1) * z+j - z=i * z+j by rw [Nat.succ_mul];omega];exact AI hz d (by simpa using h) j u (by simpa using e)
structure Gl (H:Hp):Prop where
 shapes:dS H 0 0 (shapes.flatMap jH)
 forms:dS H 3 0 (forms.flatMap pU)
 words:dS H 2 0 (words.map aB)
 symbols:dS H 1 0 (symbols.map aB)
theorem Gl.up {H H':Hp} (g:Gl H) (u:Up H H'):Gl H':=⟨g.shapes.up u,g.forms.up u,g.words.up u,g.symbols.up u⟩
mutual
def Ex.all (q:Ex→Bool):Ex→Bool
 | .mk op nm n args=>q (.mk op nm n args) && Ex.alls q args
def Ex.alls (q:Ex→Bool):List Ex→Bool
 | []=>true
 | e::r=>Ex.all q e && Ex.alls q r
end
theorem DU (q:Ex→Bool) (a b:List Ex):Ex.alls q (a++b)=(Ex.alls q a && Ex.alls q b):=by
 induction a with
 | nil=>simp [Ex.alls]
 | cons e r ih=>simp only [List.cons_append,Ex.alls,ih,Bool.and_assoc]
theorem sH {q:Ex→Bool} {l:List Ex} {k:Nat} (h:k<l.length):Ex.alls q (l.take (k+1))=(Ex.alls q (l.take k) && Ex.all q l[k]):=by
 rw [bK h,DU];simp [Ex.alls]
theorem mQ {q:Ex→Bool} {l:List Ex} {k:Nat} (h:k<l.length) (hb:Ex.all q l[k]=false):Ex.alls q l=false:=by
 have h1:=DU q (l.take (k+1)) (l.drop (k+1));rw [List.take_append_drop,sH h,hb] at h1;simpa using h1
theorem eR (q:Ex→Bool) (op:UInt8) (nm:Str) (n:Int64) (args:List Ex):Ex.all q (.mk op nm n args)=(q (.mk op nm n args) && Ex.alls q args):=by rw [Ex.all]
mutual
def Sm.all (q:Sm→Bool):Sm→Bool
 | .mk kd nm hd ex th el=>q (.mk kd nm hd ex th el) && Sm.alls q th && Sm.alls q el
def Sm.alls (q:Sm→Bool):List Sm→Bool
 | []=>true
 | e::r=>Sm.all q e && Sm.alls q r
end
theorem fS (q:Sm→Bool) (a b:List Sm):Sm.alls q (a++b)=(Sm.alls q a && Sm.alls q b):=by
 induction a with
 | nil=>simp [Sm.alls]
 | cons e r ih=>simp only [List.cons_append,Sm.alls,ih,Bool.and_assoc]
theorem vC {q:Sm→Bool} {l:List Sm} {k:Nat} (h:k<l.length):Sm.alls q (l.take (k+1))=(Sm.alls q (l.take k) && Sm.all q l[k]):=by
 rw [bK h,fS];simp [Sm.alls]
theorem xL {q:Sm→Bool} {l:List Sm} {k:Nat} (h:k<l.length) (hb:Sm.all q l[k]=false):Sm.alls q l=false:=by
 have h1:=fS q (l.take (k+1)) (l.drop (k+1));rw [List.take_append_drop,vC h,hb] at h1;simpa using h1
theorem eU (q:Sm→Bool) (kd:UInt8) (nm hd:Str) (ex:List Ex) (th el:List Sm):Sm.all q (.mk kd nm hd ex th el)=(q (.mk kd nm hd ex th el) && Sm.alls q th && Sm.alls q el):=by rw [Sm.all]
theorem BT {q:Sm→Bool} {l:List Sm} {k:Nat} (h:k<l.length) (ha:Sm.alls q l=true):Sm.all q l[k]=true:=by
 cases hb:Sm.all q l[k] with
 | true=>rfl
 | false=>rw [xL h hb] at ha;cases ha
def vO:Sm→Bool
 | .mk _ _ _ ex _ _=>ex.all fun x=>decide (x.depth≤1000000)
def iO:Ex→Bool
 | .mk op nm _ _=>!(aH op).nm || aS nm
def dO:Ex→Bool
 | .mk op nm n args=>iL op && decide (args.length=(aH op).n) && ((aH op).nm || decide (nm=[])) && (if op=1 then decide (0≤n.toInt) else decide (n.toInt=0))
def eY (e:Ex):Nat:=if 8<e.depth then 3 else if Ex.all iO e=false then 9 else if Ex.all dO e=false then 6 else 0
def iA:Sm→Bool
 | .mk kd nm hd ex _ _=>(!(aT kd).nm || aS nm) && (!(aT kd).hd || aS hd) && Ex.alls iO ex
def jY:Sm→Bool
 | .mk kd nm hd ex th el=>gT kd && decide ((aT kd).lo≤ex.length) && decide (ex.length≤(aT kd).hi) && ((aT kd).nm || decide (nm=[])) && ((aT kd).hd || decide (hd=[])) &&
  ((aT kd).th || decide (th.length=0)) && ((aT kd).el || decide (el.length=0)) && Ex.alls dO ex
theorem fP (kd:UInt8) (nm hd:Str) (ex:List Ex) (th el:List Sm):jY (.mk kd nm hd ex th el) =
 (!(!gT kd || decide ((ex.length:Int)<((aT kd).lo:Nat)) || decide (((aT kd).hi:Nat)<(ex.length:Int))) && !((!(aT kd).nm && decide (¬ nm=[])) || (!(aT kd).hd && decide (¬ hd=[]))) &&
  !((!(aT kd).th && decide ((0:Int)<th.length)) || (!(aT kd).el && decide ((0:Int)<el.length))) && Ex.alls dO ex):=by
 have h1:decide ((ex.length:Int)<((aT kd).lo:Nat))=!decide ((aT kd).lo≤ex.length):=by rw [Bool.eq_iff_iff];simp
 have h2:decide (((aT kd).hi:Nat)<(ex.length:Int))=!decide (ex.length≤(aT kd).hi):=by rw [Bool.eq_iff_iff];simp
 have h3:decide ((0:Int)<th.length)=!decide (th.length=0):=by rw [Bool.eq_iff_iff];simp only [decide_eq_true_eq,Bool.not_eq_true',decide_eq_false_iff_not];omega
 have h4:decide ((0:Int)<el.length)=!decide (el.length=0):=by rw [Bool.eq_iff_iff];simp only [decide_eq_true_eq,Bool.not_eq_true',decide_eq_false_iff_not];omega
 have h5:decide (¬ nm=[])=!decide (nm=[]):=by simp
 have h6:decide (¬ hd=[])=!decide (hd=[]):=by simp
 rw [jY,h1,h2,h3,h4,h5,h6];generalize decide ((aT kd).lo≤ex.length)=a1;generalize decide (ex.length≤(aT kd).hi)=a2;generalize decide (th.length=0)=a3;generalize decide (el.length=0)=a4;generalize decide (nm=[])=a5;generalize decide (hd=[])=a6;cases gT kd <;> cases a1 <;> cases a2 <;> cases (aT kd).nm <;> cases a5 <;> cases (aT kd).hd <;> cases a6 <;> cases (aT kd).th <;> cases a3 <;> cases (aT kd).el <;> cases a4 <;> simp
def nE:Sm→Bool
 | .mk _ _ _ ex _ _=>ex.all fun x=>decide (x.depth≤8)
def kX (h:Hd):Bool:=!(decide (4<h.ps.length) || decide (40<Sm.counts h.body) || decide (8<Sm.deeps h.body)) && Sm.alls nE h.body
def kH (h:Hd):Bool:=aS h.nm && h.ps.all aS && Sm.alls iA h.body
def kY (h:Hd):Bool:=Sm.alls jY h.body
def okH (h:Hd):Bool:=decide (Sm.counts h.body≤1000000) && decide (Sm.deeps h.body≤1000000) && Sm.alls vO h.body
def evH (q:Hd→Bool) (f:Ft):Bool:=f.comps.all fun c=>c.vers.all fun v=>v.all q
def gW (v:Vr):Bool:=if v.ty=1 then decide (v.init.toInt≠-9223372036854775808) else if v.ty=2 then decide (v.init.toInt=0∨v.init.toInt=1) else if v.ty=3 then decide (v.init.toInt=0) else false
theorem dH {α:Type} {q:α→Bool} {l:List α} {k:Nat} (h:k<l.length):(l.take (k+1)).all q=((l.take k).all q && q l[k]):=by
 rw [bK h,List.all_append];simp
theorem cK {α:Type} {q:α→Bool} {l:List α} {k:Nat} (h:k<l.length) (hb:q l[k]=false):l.all q=false:=by
 rw [List.all_eq_false];exact ⟨l[k],List.getElem_mem h,by simp [hb]⟩
theorem lH {α:Type} {q:α→Bool} {l:List α} {k:Nat} (h:k<l.length) (ha:l.all q=true):q l[k]=true:=List.all_eq_true.1 ha _ (List.getElem_mem h)
def lM (q:Hd→Bool) (c:Cp):Bool:=c.vers.all fun v=>v.all q
theorem nB (q:Hd→Bool) (f:Ft):evH q f=f.comps.all (lM q):=rfl
def tB (f:Ft):Bool:=aS f.nm && f.flags.all (fun x=>aS x.nm) && f.links.all (fun x=>aS x.fr && aS x.to) && f.comps.all (fun c=>aS c.nm && c.vars.all fun v=>aS v.nm) && evH kH f
def lkB (x:Lk):Bool:=decide (1≤x.lat.toInt) && decide (x.lat.toInt≤50)
def lQ (f:Ft):Bool:=f.links.all lkB && f.comps.all (fun c=>c.vars.all gW) && evH kY f
def BN (ks:List Str) (h:Hd):List Str:=xC ks h.nm
def pN (ks:List Str) (v:List Hd):List Str:=v.foldl BN ks
def tP (c:Cp):List Str:=c.vers.foldl pN []
theorem xY {α β:Type} {f:β→α→β} {a:β} {l:List α} {k:Nat} (h:k<l.length):(l.take (k+1)).foldl f a=f ((l.take k).foldl f a) l[k]:=by
 rw [bK h,List.foldl_append];rfl
def gE (f:Ft):Bool:=decide (1≤f.comps.length) && decide (f.comps.length≤8) && decide (f.flags.length≤8) && decide (f.links.length≤64)
def jU (c:Cp):Bool:=decide (c.vars.length≤8) && decide (1≤c.vers.length) && decide (c.vers.length≤3) && decide ((tP c).length≤8)
def gY (f:Ft):Bool:=gE f && (f.comps.all jU && evH kX f)
def bU (f:Ft):Nat:=if gY f=false then 3 else if tB f=false then 9 else if lQ f=false then 6 else 0
def opT (least:Nat) (x:Nat × Str):Str:=if x.1<least then [40]++x.2++[41] else x.2
def pK (lv:Nat):Nat:=if lv=3 then lv+1 else lv
def txt (op:UInt8) (nm:Str) (n:Int64) (ls:List (Nat × Str)):Str :=
 if op=1 then Lib.itoa n.toInt
 else if op=5∨op=8 then (aH op).tx++nm
 else if op=6∨op=7 then (aH op).tx++nm++[91]++(ls.getD 0 (0,[])).2++[93]
 else if op=9∨op=10 then (aH op).tx++opT (aH op).lv (ls.getD 0 (0,[]))
 else if (aH op).n=0 then (aH op).tx
 else opT (pK (aH op).lv) (ls.getD 0 (0,[]))++(aH op).tx++opT ((aH op).lv+1) (ls.getD 1 (0,[]))
mutual
def Ex.text:Ex→Str
 | .mk op nm n args=>txt op nm n (Ex.texts args)
def Ex.texts:List Ex→List (Nat × Str)
 | []=>[]
 | e::r=>((aH e.op).lv,Ex.text e)::Ex.texts r
end
theorem xF:∀ l:List Ex,Ex.texts l=l.map fun e=>((aH e.op).lv,Ex.text e)
 | []=>rfl
 | e::r=>by rw [Ex.texts,xF r];rfl
theorem bC (op:UInt8) (nm:Str) (n:Int64) (args:List Ex):Ex.text (.mk op nm n args)=txt op nm n (args.map fun e=>((aH e.op).lv,Ex.text e)):=by rw [Ex.text,xF]
theorem cW {α β:Type} {f:α→β} {l:List α} {k:Nat} (h:k<l.length) (d:β):(l.map f).getD k d=f l[k]:=by simp [h]
theorem MA {op:UInt8} (h:iL op=true):aH op=shapes.getD op.toNat ⟨0,false,0,[]⟩:=by rw [aH,h];rfl
theorem QI {op:UInt8} (h:iL op=true) (h6:op≠6) (h7:op≠7) (h9:op≠9) (h10:op≠10):(aH op).n=0∨(aH op).n=2:=by
 rw [MA h];simp only [iL,Bool.and_eq_true,decide_eq_true_eq] at h;have e:∀ v:UInt8,op≠v→op.toNat≠v.toNat:=fun v hv e=>hv (UInt8.toNat_inj.1 e);have key:∀ i∈List.range 24,i=6∨i=7∨i=9∨i=10∨(shapes.getD i ⟨0,false,0,[]⟩).n=0∨(shapes.getD i ⟨0,false,0,[]⟩).n=2:=by decide
 have h1:op.toNat≠6:=e 6 h6;have h2:op.toNat≠7:=e 7 h7;have h3:op.toNat≠9:=e 9 h9;have h4:op.toNat≠10:=e 10 h10;have:=key op.toNat (List.mem_range.2 (by omega));omega
theorem MB (op:UInt8):(aH op).lv≤7:=by
 unfold aH
 split
 ·rename_i h;simp only [iL,Bool.and_eq_true,decide_eq_true_eq] at h;have key:∀ i∈List.range 24,(shapes.getD i ⟨0,false,0,[]⟩).lv≤7:=by decide
  exact key _ (List.mem_range.2 (by omega))
 ·simp
theorem lW (op:UInt8):(aH op).tx.length≤10:=by
 unfold aH
 split
 ·rename_i h;simp only [iL,Bool.and_eq_true,decide_eq_true_eq] at h;have key:∀ i∈List.range 24,(shapes.getD i ⟨0,false,0,[]⟩).tx.length≤10:=by decide
  exact key _ (List.mem_range.2 (by omega))
 ·simp
theorem kG (k:Nat) (x:Nat × Str):x.2.length≤(opT k x).length∧(opT k x).length≤x.2.length+2:=by unfold opT;split <;> simp <;> omega
def spT:Nat→Str
 | 0=>[]
 | k+1=>spT k++[32,32]
def cY (ind:Nat) (parts:List Str):Str:=spT ind++parts.flatten++[10]
theorem zC (k:Nat):(spT k).length=2 * k:=by
 induction k with
 | zero=>rfl
 | succ k ih=>simp [spT,ih];omega
theorem yA {l:List Str} {k:Nat} (h:k<l.length):(l.take (k+1)).flatten=(l.take k).flatten++l[k]:=by
 rw [bK h,List.flatten_append];simp
theorem lR (l:List Str) (k:Nat):(l.take k).flatten.length≤l.flatten.length:=by
 have:=congrArg (fun m:List Str=>m.flatten.length) (List.take_append_drop k l);simp only [List.flatten_append,List.length_append] at this;omega
def iK (l:List Str):Str:=Lib.join l [44,32]
def jR (n:Nat) (first:Str) (noE:Bool) (E:Str):Str:=if noE then cY n [first,[59]] else cY n [first,[32,101,108,115,101,32,123]]++E++cY n [[125]]
def stT (n:Nat) (kd:UInt8) (nm hd:Str) (es:List Str) (T:Str) (noE:Bool) (E:Str):Str :=
 if kd=1 then cY n [nm,[32,61,32],es.getD 0 [],[59]]
 else if kd=2 then cY n [nm,[91],es.getD 0 [],[93,32,61,32],es.getD 1 [],[59]]
 else if kd=3 then cY n [[100,101,108,101,116,101,32],nm,[91],es.getD 0 [],[93,59]]
 else if kd=4 then cY n [[105,102,32],es.getD 0 [],[32,123]]++T++(if noE then [] else cY n [[125,32,101,108,115,101,32,123]]++E)++cY n [[125]]
 else if kd=5 then cY n [[119,104,105,108,101,32],es.getD 0 [],[32,123]]++T++cY n [[125]]
 else if kd=6 then cY n [[115,101,110,100,32],nm,[46],hd,[40],iK es,[41,59]]
 else if kd=7 then cY n [[97,102,116,101,114,32],es.getD 0 [],[32,100,111,32],hd,[40],iK (es.drop 1),[41,59]]
 else if kd=8 then jR n ([115,116,111,114,101,32]++es.getD 0 []++[32,61,32]++es.getD 1 []) noE E
 else if kd=9 then jR n ([102,101,116,99,104,32]++nm++[32,61,32]++es.getD 0 []) noE E
 else if kd=10 then cY n [[115,116,111,112,59]]
 else []
mutual
def Sm.text (n:Nat):Sm→Str
 | .mk kd nm hd ex th el=>stT n kd nm hd (ex.map Ex.text) (Sm.texts (n+1) th) (decide (el.length=0)) (Sm.texts (n+1) el)
def Sm.texts (n:Nat):List Sm→Str
 | []=>[]
 | s::r=>Sm.text n s++Sm.texts n r
end
theorem aD (n:Nat) (kd:UInt8) (nm hd:Str) (ex:List Ex) (th el:List Sm):Sm.text n (.mk kd nm hd ex th el)=stT n kd nm hd (ex.map Ex.text) (Sm.texts (n+1) th) (decide (el.length=0)) (Sm.texts (n+1) el):=by rw [Sm.text]
theorem uT (n:Nat) (a b:List Sm):Sm.texts n (a++b)=Sm.texts n a++Sm.texts n b:=by
 induction a with
 | nil=>simp [Sm.texts]
 | cons e r ih=>simp only [List.cons_append,Sm.texts,ih,List.append_assoc]
theorem sL {n:Nat} {l:List Sm} {k:Nat} (h:k<l.length):Sm.texts n (l.take (k+1))=Sm.texts n (l.take k)++Sm.text n l[k]:=by
 rw [bK h,uT];simp [Sm.texts]
theorem BM (n:Nat) (l:List Sm) (k:Nat):(Sm.texts n (l.take k)).length≤(Sm.texts n l).length:=by
 have:=uT n (l.take k) (l.drop k);rw [List.take_append_drop] at this;rw [this,List.length_append];omega
def hdT (n:Nat) (h:Hd):Str:=cY n [[111,110,32],h.nm,[40],iK h.ps,[41,32,123]]++Sm.texts (n+1) h.body++cY n [[125]]
def qE (n:Nat) (l:List Hd):Str:=(l.map (hdT n)).flatten
def sZ (b:Bool):Str:=if b then [116,114,117,101] else [102,97,108,115,101]
def vrT (n:Nat) (v:Vr):Str:=if v.ty=1 then cY n [[118,97,114,32],v.nm,[58,32,105,110,116,32,61,32],Lib.itoa v.init.toInt,[59]] else if v.ty=2 then cY n [[118,97,114,32],v.nm,[58,32,98,111,111,108,32,61,32],sZ (decide (v.init.toInt=1)),[59]] else if v.ty=3 then cY n [[118,97,114,32],v.nm,[58,32,116,97,98,108,101,59]] else []
def vsT (n:Nat) (i:Nat) (v:List Hd):Str:=if i=0 then qE n v else cY n [[118,101,114,115,105,111,110,32],Lib.itoa ((i+1:Nat):Int),[32,123]]++qE (n+1) v++cY n [[125]]
def kW (n:Nat):Nat→List (List Hd)→Str
 | _,[]=>[]
 | i,v::r=>vsT n i v++kW n (i+1) r
def cpT (c:Cp):Str:=cY 1 [[99,111,109,112,111,110,101,110,116,32],c.nm,[32,123]]++(c.vars.map (vrT 2)).flatten++kW 2 0 c.vers++cY 1 [[125]]
def fgT (f:Fg):Str:=cY 1 [[102,108,97,103,32],f.nm,[32,61,32],sZ f.init,[59]]
def lkT (l:Lk):Str:=cY 1 [[108,105,110,107,32],l.fr,[32,45,62,32],l.to,[32,108,97,116,101,110,99,121,32],Lib.itoa l.lat.toInt,[59]]
def ftT (f:Ft):Str:=cY 0 [[102,108,101,101,116,32],f.nm,[32,123]]++(f.flags.map fgT).flatten++(f.links.map lkT).flatten++(f.comps.map cpT).flatten++cY 0 [[125]]
theorem eQ {α:Type} {g:α→Str} {l:List α} {k:Nat} (h:k<l.length):((l.take (k+1)).map g).flatten=((l.take k).map g).flatten++g l[k]:=by
 rw [bK h,List.map_append,List.flatten_append,List.map_cons,List.map_nil,List.flatten_cons,List.flatten_nil,List.append_nil]
theorem kQ {α:Type} {g:α→Str} (l:List α) (k:Nat):((l.take k).map g).flatten.length≤(l.map g).flatten.length:=by
 have:=lR (l.map g) k
 rwa [← List.map_take] at this
theorem uK (n:Nat):∀ (a:List (List Hd)) (i:Nat) (b:List (List Hd)),kW n i (a++b)=kW n i a++kW n (i+a.length) b
 | [],i,b=>by simp [kW]
 | v::r,i,b=>by
  simp only [List.cons_append,kW,uK n r (i+1) b,List.append_assoc,List.length_cons];rw [show i+1+r.length=i+(r.length+1) by omega]
theorem rM {n:Nat} {l:List (List Hd)} {k:Nat} (h:k<l.length):kW n 0 (l.take (k+1))=kW n 0 (l.take k)++vsT n k l[k]:=by
 rw [bK h,uK,List.length_take,Nat.min_eq_left (by omega)];simp [kW]
theorem IE (n:Nat) (l:List (List Hd)) (k:Nat):(kW n 0 (l.take k)).length≤(kW n 0 l).length:=by
 have:=uK n (l.take k) 0 (l.drop k);rw [List.take_append_drop] at this;rw [this,List.length_append];omega
theorem qV (n:Int64):(Lib.itoa n.toInt).length≤21:=Lib.itoa_length_le n.toInt (by have:=n.le_toInt;omega) (by have:=n.toInt_lt;omega)
theorem gM {l:Str} (h:aS l=true):l.length≤12:=by
 simp only [aS,Bool.and_eq_true,decide_eq_true_eq,beq_iff_eq] at h;obtain ⟨⟨_,h1⟩,h2⟩:=h;unfold aI at h1 h2;dsimp only at h1 h2
 split at h1
 ·split at h1
  ·simp at h1
  ·split at h1
   ·rename_i a b c;simp only [a,b,c,if_true,Bool.false_eq_true,if_false] at h2;omega
   ·simp at h1
 ·split at h1
  ·split at h1 <;> simp at h1
  ·split at h1 <;> simp at h1
theorem PW (op:UInt8) (nm:Str) (n:Int64) (ls:List (Nat × Str)) (A:Nat) (hA:24≤A) (hn:nm.length≤12) (h:∀ x∈ls,x.2.length≤A):(txt op nm n ls).length≤3 * A:=by
 have hg:∀ i,(ls.getD i (0,[])).2.length≤A:=fun i=>by
  rw [List.getD_eq_getElem?_getD];cases e:ls[i]? with
  | none=>simp
  | some x=>simpa using h x (List.mem_of_getElem? e)
 have h0:=hg 0;have h1:=hg 1;have ht:=lW op;have hi:=qV n;have o1:=kG (aH op).lv (ls.getD 0 (0,[]));have o2:=kG (pK (aH op).lv) (ls.getD 0 (0,[]));have o3:=kG ((aH op).lv+1) (ls.getD 1 (0,[]));unfold txt
 split
 ·omega
 split
 ·simp only [List.length_append];omega
 split
 ·simp only [List.length_append,List.length_cons,List.length_nil];omega
 split
 ·simp only [List.length_append];omega
 split
 ·omega
 ·simp only [List.length_append];omega
theorem bW {q:Ex→Bool}:∀ {l:List Ex} {a:Ex},a∈l→Ex.alls q l=true→Ex.all q a=true
 | [],a,h,_=>by cases h
 | b::r,a,h,k=>by
  rw [Ex.alls,Bool.and_eq_true] at k;rcases List.mem_cons.1 h with rfl | h
  ·exact k.1
  ·exact bW h k.2
theorem NC {op:UInt8} {nm:Str} {n:Int64} {args:List Ex} (h1:iO (.mk op nm n args)=true) (h2:dO (.mk op nm n args)=true):nm.length≤12:=by
 simp only [iO,Bool.or_eq_true,Bool.not_eq_true'] at h1;simp only [dO,Bool.and_eq_true,Bool.or_eq_true,decide_eq_true_eq] at h2;rcases h1 with h1 | h1
 ·rcases h2.1.2 with h2 | h2
  ·rw [h1] at h2;cases h2
  ·simp [h2]
 ·exact gM h1
theorem LQ (e:Ex):∀ d,e.depth≤d→Ex.all iO e=true→Ex.all dO e=true→e.text.length≤24 * 3 ^ d:=by
 induction e using Ex.ind with | _ op nm n args ih
 intro d hd h1 h2;rw [fW] at hd;rw [eR,Bool.and_eq_true] at h1 h2;obtain ⟨d,rfl⟩:∃ k,d=k+1:=⟨d - 1,by omega⟩;rw [bC,Nat.pow_succ,show 24 * (3 ^ d * 3)=3 * (24 * 3 ^ d) by omega];have hp:0<3 ^ d:=Nat.pow_pos (by omega);refine PW _ _ _ _ _ (by omega) (NC h1.1 h2.1) fun x hx=>?_;obtain ⟨a,ha,rfl⟩:=List.mem_map.1 hx;have:=sC ha;exact ih a ha d (by omega) (bW ha h1.2) (bW ha h2.2)
theorem IR {e:Ex} (h:e.depth≤8) (h1:Ex.all iO e=true) (h2:Ex.all dO e=true):e.text.length≤157464:=LQ e 8 h h1 h2
def IL:Sm→Bool
 | .mk kd nm hd ex th el=>jY (.mk kd nm hd ex th el) && ex.all fun x=>decide (x.text.length≤1000000000)
structure Nd where
 op:UInt8
 nm:UInt8
 ct:UInt8
 odd:Bool
 n:Int64
theorem MH {H:Hp} {z b off n c lo:Nat} {ds:List D} (h:Rep H (.seq z ds) [.slice (some ⟨b,off,none⟩) n c]) (hl:lo≤n):Rep H (.seq z (ds.drop lo)) [.slice (some (if c=lo then ⟨b,off,none⟩ else ⟨b,off+lo * z,none⟩)) (n - lo) (c - lo)]:=by
 have hn:=h.len
 by_cases hc:c=lo
 ·rw [if_pos hc];rw [show ds.drop lo=[] from List.drop_of_length_le (by omega),show n - lo=0 by omega];exact .empty (by omega)
 ·rw [if_neg hc];unfold Rep at h;obtain ⟨p',c',h1,h2,h3,h4⟩:=h;injection h1 with h1 _
  injection h1 with h5 h6 h7
  subst h5 h7;rcases h4 with h4 | ⟨b',off',cs,h8,h9,h10⟩
  ·subst h4;rw [List.drop_nil,show n - lo=0 by simp only [List.length_nil] at h6;omega];exact .empty (by omega)
  ·cases h8;exact .mk (h9.drop (lo * z)) (h10.drop lo) (by rw [List.length_drop];omega) (by omega) (by omega)
def mW (e:Ex):Bool:=decide (e.args.length≤3)
theorem oS (op:UInt8) (nm:Str) (n:Int64) (args:List Ex):mW (.mk op nm n args)=decide (args.length≤3):=rfl
def eL (c:UInt8):Bool:=decide (c=32) || decide (c=9) || decide (c=10) || decide (c=13)
def cD:Bool→Str→Str
 | _,[]=>[]
 | true,c::r=>if c=10 then cD false r else cD true r
 | false,c::r=>if eL c then cD false r else if c=47∧r.head? = some 47 then cD true r else c::r
theorem lU (b:Bool):cD b []=[]:=by cases b <;> rfl
theorem JD {c:UInt8} {r:Str} (h:¬ c=10):cD true (c::r)=cD true r:=by rw [cD,if_neg h]
theorem JC (r:Str):cD true (10::r)=cD false (10::r):=by rw [cD,if_pos rfl,cD,if_pos (by decide)]
theorem lV {c:UInt8} {r:Str} (h:eL c=true):cD false (c::r)=cD false r:=by rw [cD,if_pos h]
theorem JB (r:Str):cD false (47::47::r)=cD true (47::47::r):=by simp [cD,eL]
theorem gA {c:UInt8} {r:Str} (h:eL c=false) (h2:¬ (c=47∧r.head? = some 47)):cD false (c::r)=c::r:=by rw [cD,if_neg (by simp [h]),if_neg h2]
theorem kK:∀ (l:Str) (b:Bool),∃ p,l=p++cD b l
 | [],b=>⟨[],by rw [lU];rfl⟩
 | c::r,true=>by
  rw [cD]
  split
  ·obtain ⟨p,h⟩:=kK r false;exact ⟨c::p,by rw [List.cons_append,← h]⟩
  ·obtain ⟨p,h⟩:=kK r true;exact ⟨c::p,by rw [List.cons_append,← h]⟩
 | c::r,false=>by
  rw [cD]
  split
  ·obtain ⟨p,h⟩:=kK r false;exact ⟨c::p,by rw [List.cons_append,← h]⟩
  ·split
   ·obtain ⟨p,h⟩:=kK r true;exact ⟨c::p,by rw [List.cons_append,← h]⟩
   ·exact ⟨[],rfl⟩
theorem fE (b:Bool) (l:Str):(cD b l).length≤l.length:=by
 obtain ⟨p,h⟩:=kK l b;have:=congrArg List.length h;rw [List.length_append] at this;omega
theorem EJ (b:Bool) (l:Str):l.drop (l.length - (cD b l).length)=cD b l:=by
 obtain ⟨p,h⟩:=kK l b;generalize cD b l=q at h;subst h;rw [show (p++q).length - q.length=p.length by rw [List.length_append];omega,List.drop_left]
theorem kL {l:Str} (h:l≠[]):1≤(aI l).2∧(aI l).2≤l.length:=by
 match l,h with
 | c::r,_ =>
  have hp:∀ q:UInt8→Bool,q c=true→1≤pre q (c::r):=fun q hq=>by unfold pre;rw [List.takeWhile_cons,hq];simp
  cases h1:iE c with
  | true =>
   have h2:=hp eE (by simp [eE,h1]);have h3:=nN eE (c::r);cases h4:words.contains ((c::r).take (pre eE (c::r))) with
   | true=>simp only [aI,List.headD_cons,h1,h4,if_true];exact ⟨h2,h3⟩
   | false =>
    by_cases h5:pre eE (c::r)≤12
    ·simp only [aI,List.headD_cons,h1,h4,h5,if_true,Bool.false_eq_true,if_false];exact ⟨h2,h3⟩
    ·simp only [aI,List.headD_cons,h1,h4,h5,if_true,Bool.false_eq_true,if_false];simp
  | false =>
   cases h4:dU c with
   | true =>
    have h2:=hp dU h4;have h3:=nN dU (c::r)
    by_cases h5:pre dU (c::r)=1∨c≠48
    ·simp only [aI,List.headD_cons,h1,h4,h5,if_true,Bool.false_eq_true,if_false];exact ⟨h2,h3⟩
    ·simp only [aI,List.headD_cons,h1,h4,h5,if_true,Bool.false_eq_true,if_false];simp
   | false =>
    cases hx:symbols.find? (fun x=>x.isPrefixOf (c::r)) with
    | none=>simp only [aI,List.headD_cons,h1,h4,hx,Bool.false_eq_true,if_false];simp
    | some x =>
     have hm:=List.mem_of_find?_eq_some hx;have hpx:=List.find?_some hx
     have hl:x.length≤(c::r).length:=by
      obtain ⟨t,ht⟩:=List.isPrefixOf_iff_prefix.1 hpx;rw [← ht];simp
     have key:∀ y∈symbols,1≤y.length:=by decide
     simp only [aI,List.headD_cons,h1,h4,hx,Bool.false_eq_true,if_false];exact ⟨key x hm,hl⟩
theorem JI {c:UInt8} {r:Str} (h:(aI (c::r)).1=1):iE c=true:=by
 cases h1:iE c with
 | true=>rfl
 | false =>
  cases h4:dU c with
  | true =>
   by_cases h5:pre dU (c::r)=1∨c≠48
   ·simp only [aI,List.headD_cons,h1,h4,h5,if_true,Bool.false_eq_true,if_false] at h;simp at h
   ·simp only [aI,List.headD_cons,h1,h4,h5,if_true,Bool.false_eq_true,if_false] at h;simp at h
  | false =>
   cases hx:symbols.find? (fun x=>x.isPrefixOf (c::r)) <;> simp only [aI,List.headD_cons,h1,h4,hx,Bool.false_eq_true,if_false] at h <;> simp at h
structure Tk where
 k:UInt8
 t:Str
 o:Nat
def dTk (k:IntKind) (x:Tk):D:=.str [.val (.int k x.k.toNat),.val (aB x.t),.val (.int .i64 (x.o:Nat))]
def cTk (k:IntKind) (x:Tk):List Value:=[.int k x.k.toNat,aB x.t,.int .i64 (x.o:Nat)]
theorem GD {H:Hp} {k:IntKind} {x:Tk} {cs:List Value} (h:Rep H (dTk k x) cs):cs=cTk k x∧x.t.length≤1000000:=by
 rw [dTk,jW] at h;obtain ⟨_,rfl,_,_,h⟩:=aQ.1 h;obtain ⟨_,rfl,_,k0,h⟩:=aQ.1 h;obtain ⟨_,rfl,_,_,h⟩:=aQ.1 h;rw [dE] at h;subst h;exact ⟨rfl,okS.1 k0⟩
theorem GC {H:Hp} {k:IntKind} {x:Tk} (h:x.t.length≤1000000):Rep H (dTk k x) (cTk k x):=by
 rw [dTk,jW];exact aQ.2 ⟨_,rfl,rfl,trivial,aQ.2 ⟨_,rfl,rfl,okS.2 h,aQ.2 ⟨_,rfl,rfl,trivial,dE.2 rfl⟩⟩⟩
def pI:Nat→Nat→Str→List Tk
 | 0,_,_=>[]
 | f+1,o,m=>if m=[] then [] else ⟨(aI m).1,m.take (aI m).2,o⟩::pI f (o+(m.length - (cD false (m.drop (aI m).2)).length)) (cD false (m.drop (aI m).2))
def fH (s:Str):List Tk:=pI (s.length+1) (s.length - (cD false s).length) (cD false s)
theorem iR {f o:Nat} {m:Str} (h:m≠[]):pI (f+1) o m=⟨(aI m).1,m.take (aI m).2,o⟩::pI f (o+(m.length - (cD false (m.drop (aI m).2)).length)) (cD false (m.drop (aI m).2)):=by rw [pI,if_neg h]
theorem jO (f o:Nat):pI f o []=[]:=by cases f <;> simp [pI]
theorem rN:∀ (f g o:Nat) (m:Str),m.length<f→m.length<g→pI f o m=pI g o m
 | 0,_,_,_,h,_=>by omega
 | _,0,_,_,_,h=>by omega
 | f+1,g+1,o,m,h,k=>by
  by_cases h0:m=[]
  ·subst h0;rw [jO,jO]
  ·rw [iR h0,iR h0];have hr:=kL h0;have hs:=fE false (m.drop (aI m).2);rw [List.length_drop] at hs;rw [rN f g _ _ (by omega) (by omega)]
end Go.Proofs.YthhoebdlfjffkaaGreatDoor
namespace Go.Proofs.YthhoebdlfjffkaaGreatDoor
inductive Rs (α:Type) where
 | ok (a:α) (r:List Tk)
 | er (r:List Tk) (code:Nat)
def Rs.bind {α β:Type} (x:Rs α) (f:α→List Tk→Rs β):Rs β:=match x with | .ok a r=>f a r | .er r c=>.er r c
def isT (w:Str):List Tk→Bool
 | []=>false
 | t::_=>(t.k == 2 || t.k == 4) && decide (t.t=w)
def iV {α:Type} (w:Str) (r:List Tk) (f:List Tk→Rs α):Rs α:=if isT w r then f r.tail else .er r 8
def lD {α:Type} (r:List Tk) (f:Str→List Tk→Rs α):Rs α:=match r with | []=>.er r 8 | t::q=>if t.k=1 then f t.t q else .er r 8
def fG (s:Str):Nat:=s.foldl (fun v c=>10 * v+(c.toNat - 48)) 0
def nF:Nat→List (Str × UInt8)
 | 0=>[([111,114],23)]
 | 1=>[([97,110,100],22)]
 | 2=>[([61,61],16),([33,61],17),([60],18),([60,61],19),([62],20),([62,61],21)]
 | 3=>[([43],14),([45],15)]
 | _=>[([42],11),([47],12),([37],13)]
def opAt (lv:Nat) (r:List Tk):Option UInt8:=((nF lv).find? fun x=>isT x.1 r).map (·.2)
inductive Md where
 | ex (lv:Nat)
 | lp (lv:Nat) (a:Ex)
def opE (op:UInt8) (l:List Ex):Ex:=.mk op [] 0 l
def fY (rec:List Tk→Rs Ex) (r:List Tk):Rs Ex :=
 match r with
 | []=>.er r 8
 | t::q =>
  if t.k=3 then (if fG t.t≤9223372036854775807 then .ok (.mk 1 [] (Int64.ofNat (fG t.t)) []) q else .er r 2)
  else if isT [116,114,117,101] r then .ok (opE 2 []) q
  else if isT [102,97,108,115,101] r then .ok (opE 3 []) q
  else if isT [110,111,119] r then .ok (opE 4 []) q
  else if isT [115,105,122,101] r then lD q fun s r2=>.ok (.mk 8 s 0 []) r2
  else if isT [40] r then (rec q).bind fun x r2=>iV [41] r2 fun r3=>.ok x r3
  else if isT [104,97,115] r then lD q fun s r2=>iV [91] r2 fun r3=>(rec r3).bind fun x r4=>iV [93] r4 fun r5=>.ok (.mk 7 s 0 [x]) r5
  else if t.k=1 then (if isT [91] q then (rec q.tail).bind fun x r4=>iV [93] r4 fun r5=>.ok (.mk 6 t.t 0 [x]) r5 else .ok (.mk 5 t.t 0 []) q)
  else .er r 8
def pE:Nat→Md→List Tk→Rs Ex
 | 0,_,r=>.er r 99
 | f+1,.ex lv,r =>
  if lv<5 then (pE f (.ex (lv+1)) r).bind fun a r1=>pE f (.lp lv a) r1
  else if isT [45] r then (pE f (.ex 5) r.tail).bind fun x r2=>.ok (opE 9 [x]) r2
  else if isT [110,111,116] r then (pE f (.ex 5) r.tail).bind fun x r2=>.ok (opE 10 [x]) r2
  else fY (pE f (.ex 0)) r
 | f+1,.lp lv a,r =>
  match opAt lv r with
  | none=>.ok a r
  | some op=>(pE f (.ex (lv+1)) r.tail).bind fun b r2=>if lv=2 then .ok (opE op [a,b]) r2 else pE f (.lp lv (opE op [a,b])) r2
/-! ### Enough fuel -/
theorem ifC {α:Type} {c:Prop} [Decidable c] {x y u v:α} (h1:x=u) (h2:y=v):(if c then x else y)=(if c then u else v):=by rw [h1,h2]
theorem ifI {α:Type} {c d:Prop} [Decidable c] [Decidable d] {x y:α} (h:c↔d):(if c then x else y)=(if d then x else y):=by
 by_cases e:c
 ·rw [if_pos e,if_pos (h.1 e)]
 ·rw [if_neg e,if_neg (fun k=>e (h.2 k))]
theorem eD {w:Str} {r:List Tk} (h:isT w r=true):r.length=r.tail.length+1:=by cases r with | nil=>cases h | cons t q=>rfl
theorem tL {lv:Nat} {r:List Tk} {op:UInt8} (h:opAt lv r=some op):r.length=r.tail.length+1:=by
 unfold opAt at h;obtain ⟨x,hx,_⟩:=Option.map_eq_some_iff.1 h;exact eD (w:=x.1) (by have:=List.find?_some hx;exact this)
theorem Rs.bind_ok {α β:Type} {x:Rs α} {f:α→List Tk→Rs β} {b:β} {r:List Tk} (h:x.bind f=.ok b r):∃ a q,x=.ok a q∧f a q=.ok b r:=by
 cases x with
 | ok a q=>exact ⟨a,q,rfl,h⟩
 | er q c=>cases h
theorem gJ {α:Type} {w:Str} {r:List Tk} {f:List Tk→Rs α} {a:α} {q:List Tk} (h:iV w r f=.ok a q):isT w r=true∧f r.tail=.ok a q:=by
 unfold iV at h
 split at h
 ·rename_i e;exact ⟨e,h⟩
 ·cases h
theorem mJ {α:Type} {r:List Tk} {f:Str→List Tk→Rs α} {a:α} {q:List Tk} (h:lD r f=.ok a q):∃ t r',r=t::r'∧t.k=1∧f t.t r'=.ok a q:=by
 unfold lD at h;cases r with
 | nil=>cases h
 | cons t r' =>
  by_cases e:t.k=1
  ·simp only [e,if_true] at h;exact ⟨t,r',rfl,e,h⟩
  ·simp only [e,if_false] at h;cases h
theorem JL {rec:List Tk→Rs Ex} (hr:∀ q a r',rec q=.ok a r'→r'.length≤q.length) {r:List Tk} {a:Ex} {r':List Tk} (h:fY rec r=.ok a r'):r'.length<r.length:=by
 unfold fY at h;cases r with
 | nil=>cases h
 | cons t q =>
  simp only at h
  have fin:∀ {b:Ex} {l:List Tk},(Rs.ok b l:Rs Ex)=.ok a r'→l.length≤q.length→r'.length<(t::q).length:=by
   intro b l e hl;injection e with _ e;subst e;simp;omega
  split at h
  ·split at h
   ·exact fin h (Nat.le_refl _)
   ·cases h
  split at h
  ·exact fin h (Nat.le_refl _)
  split at h
  ·exact fin h (Nat.le_refl _)
  split at h
  ·exact fin h (Nat.le_refl _)
  split at h
  ·obtain ⟨t2,r2,rfl,_,h⟩:=mJ h;exact fin h (by simp)
  split at h
  ·obtain ⟨x,r2,h1,h⟩:=Rs.bind_ok h;obtain ⟨h2,h⟩:=gJ h;have:=hr _ _ _ h1;have:=eD h2;exact fin h (by omega)
  split at h
  ·obtain ⟨t2,r2,rfl,_,h⟩:=mJ h;obtain ⟨h2,h⟩:=gJ h;obtain ⟨x,r4,h1,h⟩:=Rs.bind_ok h;obtain ⟨h3,h⟩:=gJ h;have:=hr _ _ _ h1;have:=eD h2;have:=eD h3;exact fin h (by simp;omega)
  split at h
  ·split at h
   ·rename_i h2;obtain ⟨x,r4,h1,h⟩:=Rs.bind_ok h;obtain ⟨h3,h⟩:=gJ h;have:=hr _ _ _ h1;have:=eD h2;have:=eD h3;exact fin h (by omega)
   ·exact fin h (Nat.le_refl _)
  ·cases h
theorem nO:∀ (f:Nat),(∀ lv r a r',pE f (.ex lv) r=.ok a r'→r'.length<r.length)∧(∀ lv x r a r',pE f (.lp lv x) r=.ok a r'→r'.length≤r.length)
 | 0=>⟨fun _ _ _ _ h=>(by cases h),fun _ _ _ _ _ h=>(by cases h)⟩
 | f+1=>by
  obtain ⟨ih1,ih2⟩:=nO f;refine ⟨fun lv r a r' h=>?_,fun lv x r a r' h=>?_⟩
  ·unfold pE at h
   split at h
   ·obtain ⟨b,q,h1,h2⟩:=Rs.bind_ok h;have:=ih1 _ _ _ _ h1;have:=ih2 _ _ _ _ _ h2;omega
   split at h
   ·rename_i e;obtain ⟨b,q,h1,h2⟩:=Rs.bind_ok h;have:=ih1 _ _ _ _ h1;have:=eD e;injection h2 with _ e2;subst e2;omega
   split at h
   ·rename_i e;obtain ⟨b,q,h1,h2⟩:=Rs.bind_ok h;have:=ih1 _ _ _ _ h1;have:=eD e;injection h2 with _ e2;subst e2;omega
   ·exact JL (fun q b r2 e=>Nat.le_of_lt (ih1 _ _ _ _ e)) h
  ·unfold pE at h
   split at h
   ·injection h with _ e;subst e;exact Nat.le_refl _
   ·rename_i op e;obtain ⟨b,q,h1,h2⟩:=Rs.bind_ok h;have:=ih1 _ _ _ _ h1;have:=tL e
    split at h2
    ·injection h2 with _ e2;subst e2;omega
    ·have:=ih2 _ _ _ _ _ h2;omega
theorem Rs.bind_congr {α β:Type} {x y:Rs α} {f g:α→List Tk→Rs β} (h:x=y) (k:∀ a r,x=.ok a r→f a r=g a r):x.bind f=y.bind g:=by
 subst h;cases x with
 | ok a r=>exact k a r rfl
 | er r c=>rfl
theorem sN {rec rec':List Tk→Rs Ex} {r:List Tk} (h:∀ q,q.length<r.length→rec q=rec' q):fY rec r=fY rec' r:=by
 unfold fY;cases r with
 | nil=>rfl
 | cons t q =>
  have hb:∀ (z:List Tk) (g:Ex→List Tk→Rs Ex),z.length≤q.length→(rec z).bind g=(rec' z).bind g:=fun z g hz=>by rw [h z (by simp;omega)]
  have ht:∀ z:List Tk,z.tail.length≤z.length:=fun z=>by simp
  simp only;rw [hb q _ (Nat.le_refl _),hb q.tail _ (ht q)];refine ifC rfl (ifC rfl (ifC rfl (ifC rfl (ifC rfl (ifC rfl (ifC ?_ rfl))))));unfold lD;cases q with
  | nil=>rfl
  | cons t2 r2 =>
   simp only;refine ifC ?_ rfl;unfold iV;refine ifC ?_ rfl;exact hb _ _ (by simp;omega)
def jG:Md→List Tk→Nat
 | .ex lv,r=>16 * r.length+9 - lv
 | .lp _ _,r=>16 * r.length+9
theorem vL (f lv:Nat) (r:List Tk):pE (f+1) (.ex lv) r=if lv<5 then (pE f (.ex (lv+1)) r).bind fun a r1=>pE f (.lp lv a) r1
 else if isT [45] r then (pE f (.ex 5) r.tail).bind fun x r2=>.ok (opE 9 [x]) r2
 else if isT [110,111,116] r then (pE f (.ex 5) r.tail).bind fun x r2=>.ok (opE 10 [x]) r2
 else fY (pE f (.ex 0)) r:=by rw [pE]
theorem vK (f lv:Nat) (a:Ex) (r:List Tk):pE (f+1) (.lp lv a) r=match opAt lv r with
 | none=>.ok a r
 | some op=>(pE f (.ex (lv+1)) r.tail).bind fun b r2=>if lv=2 then .ok (opE op [a,b]) r2 else pE f (.lp lv (opE op [a,b])) r2:=by rw [pE]
theorem zM:∀ (f:Nat),(∀ lv r,lv≤5→jG (.ex lv) r≤f→pE (f+1) (.ex lv) r=pE f (.ex lv) r)∧(∀ lv x r,lv≤4→jG (.lp lv x) r≤f→pE (f+1) (.lp lv x) r=pE f (.lp lv x) r)
 | 0=>⟨fun lv r h1 h=>by simp only [jG] at h;omega,fun lv x r h1 h=>by simp only [jG] at h;omega⟩
 | f+1=>by
  obtain ⟨ih1,ih2⟩:=zM f;simp only [jG] at ih1 ih2 ⊢;refine ⟨fun lv r h5 h=>?_,fun lv x r h4 h=>?_⟩
  ·rw [vL (f+1) lv r,vL f lv r]
   by_cases hlv:lv<5
   ·rw [if_pos hlv,if_pos hlv];refine Rs.bind_congr (ih1 _ _ (by omega) (by omega)) fun a q e=>?_;have:=(nO (f+1)).1 _ _ _ _ e;exact ih2 _ _ _ (by omega) (by omega)
   rw [if_neg hlv,if_neg hlv]
   by_cases e:isT [45] r=true
   ·have:=eD e;rw [if_pos e,if_pos e];exact Rs.bind_congr (ih1 _ _ (by omega) (by omega)) fun _ _ _=>rfl
   rw [if_neg e,if_neg e]
   by_cases e:isT [110,111,116] r=true
   ·have:=eD e;rw [if_pos e,if_pos e];exact Rs.bind_congr (ih1 _ _ (by omega) (by omega)) fun _ _ _=>rfl
   rw [if_neg e,if_neg e];exact sN fun q hq=>ih1 _ _ (by omega) (by omega)
  ·rw [vK (f+1) lv x r,vK f lv x r];cases e:opAt lv r with
   | none=>rfl
   | some op =>
    simp only;have:=tL e;refine Rs.bind_congr (ih1 _ _ (by omega) (by omega)) fun a q e=>?_;have:=(nO (f+1)).1 _ _ _ _ e;refine ifC rfl ?_;exact ih2 _ _ _ (by omega) (by omega)
theorem GM {f g lv:Nat} {r:List Tk} (h5:lv≤5) (h:jG (.ex lv) r≤f) (hg:f≤g):pE g (.ex lv) r=pE f (.ex lv) r:=by
 induction g with
 | zero => have : f = 0 := by omega
           rw [this]
 | succ g ih =>
  by_cases e:f=g+1
  ·rw [e]
  ·rw [(zM g).1 lv r h5 (by omega)];exact ih (by omega)
theorem CH {f g lv:Nat} {a:Ex} {r:List Tk} (h5:lv≤4) (h:jG (.lp lv a) r≤f) (hg:f≤g):pE g (.lp lv a) r=pE f (.lp lv a) r:=by
 induction g with
 | zero => have : f = 0 := by omega
           rw [this]
 | succ g ih =>
  by_cases e:f=g+1
  ·rw [e]
  ·rw [(zM g).2 lv a r h5 (by omega)];exact ih (by omega)
def pX (lv:Nat) (r:List Tk):Rs Ex:=pE (16 * r.length+9) (.ex lv) r
def pL (lv:Nat) (a:Ex) (r:List Tk):Rs Ex:=pE (16 * r.length+9) (.lp lv a) r
theorem CG {f lv:Nat} {r:List Tk} (h5:lv≤5) (h:jG (.ex lv) r≤f):pE f (.ex lv) r=pX lv r:=by
 unfold pX;rcases Nat.le_total f (16 * r.length+9) with h1 | h1
 ·rw [GM h5 h h1]
 ·rw [GM h5 (by simp only [jG];omega) h1]
theorem SX {f lv:Nat} {a:Ex} {r:List Tk} (h5:lv≤4) (h:jG (.lp lv a) r≤f):pE f (.lp lv a) r=pL lv a r:=by
 unfold pL;rcases Nat.le_total f (16 * r.length+9) with h1 | h1
 ·rw [CH h5 h h1]
 ·rw [CH h5 (by simp only [jG];omega) h1]
theorem zK {lv:Nat} {r:List Tk} (h:lv<5):pX lv r=(pX (lv+1) r).bind fun a q=>pL lv a q:=by
 conv=>lhs;unfold pX
 rw [show 16 * r.length+9=(16 * r.length+8)+1 by omega,vL,if_pos h];refine Rs.bind_congr (CG (by omega) (by simp only [jG];omega)) fun a q e=>?_;have:=(nO _).1 _ _ _ _ e;exact SX (by omega) (by simp only [jG];omega)
theorem qO {r:List Tk}:pX 5 r=if isT [45] r then (pX 5 r.tail).bind fun x r2=>.ok (opE 9 [x]) r2 else if isT [110,111,116] r then (pX 5 r.tail).bind fun x r2=>.ok (opE 10 [x]) r2 else fY (pX 0) r:=by
 conv=>lhs;unfold pX
 rw [show 16 * r.length+9=(16 * r.length+8)+1 by omega,vL,if_neg (by omega)]
 by_cases e:isT [45] r=true
 ·have:=eD e;rw [if_pos e,if_pos e];exact Rs.bind_congr (CG (by omega) (by simp only [jG];omega)) fun _ _ _=>rfl
 rw [if_neg e,if_neg e]
 by_cases e:isT [110,111,116] r=true
 ·have:=eD e;rw [if_pos e,if_pos e];exact Rs.bind_congr (CG (by omega) (by simp only [jG];omega)) fun _ _ _=>rfl
 rw [if_neg e,if_neg e];exact sN fun q hq=>CG (by omega) (by simp only [jG];omega)
theorem lB {lv:Nat} {a:Ex} {r:List Tk} (h:opAt lv r=none):pL lv a r=.ok a r:=by
 unfold pL;rw [show 16 * r.length+9=(16 * r.length+8)+1 by omega,vK];rw [h]
theorem zL {lv:Nat} {a:Ex} {r:List Tk} {op:UInt8} (hl:lv≤4) (h:opAt lv r=some op):pL lv a r=(pX (lv+1) r.tail).bind fun b r2=>if lv=2 then .ok (opE op [a,b]) r2 else pL lv (opE op [a,b]) r2:=by
 conv=>lhs;unfold pL
 rw [show 16 * r.length+9=(16 * r.length+8)+1 by omega,vK];rw [h];have:=tL h;refine Rs.bind_congr (CG (by omega) (by simp only [jG];omega)) fun b q e=>?_;have:=(nO _).1 _ _ _ _ e;refine ifC rfl ?_;exact SX hl (by simp only [jG];omega)
end Go.Proofs.YthhoebdlfjffkaaGreatDoor
namespace Go.Plain
open Go.Lib

theorem digits_more (x:Nat) (h:¬ x<10):decDigits x=decDigits (x / 10)++[UInt8.ofNat (48+x % 10)]:=by
 rw [decDigits,dif_neg h]
theorem digit_nat (d:Nat) (h:d<10):(UInt8.ofNat (48+d)).toNat=48+d:=by
 rw [UInt8.toNat_ofNat'];omega
theorem digits_are:∀ (u:Nat) (c:UInt8),c∈decDigits u→48≤c.toNat∧c.toNat≤57:=by
 intro u;induction u using Nat.strongRecOn with
 | _ u ih =>
  intro c hc
  by_cases h:u<10
  ·rw [decDigits_one h] at hc;obtain rfl:=List.mem_singleton.1 hc;rw [digit_nat u h];omega
  ·rw [digits_more u h] at hc;rcases List.mem_append.1 hc with hc | hc
   ·exact ih (u / 10) (by omega) c hc
   ·obtain rfl:=List.mem_singleton.1 hc;rw [digit_nat (u % 10) (by omega)];omega
end Go.Plain
namespace Go.Proofs.YthhoebdlfjffkaaGreatDoor
abbrev Kt:=UInt8 × Str
def kt (t:Tk):Kt:=(t.k,t.t)
def isK (w:Str) (x:Kt):Bool:=(x.1 == 2 || x.1 == 4) && decide (x.2=w)
def opK (lv:Nat) (x:Kt):Option UInt8:=((nF lv).find? fun y=>isK y.1 x).map (·.2)
theorem cL (w:Str) (t:Tk) (r:List Tk):isT w (t::r)=isK w (kt t):=rfl
theorem JP (lv:Nat) (t:Tk) (r:List Tk):opAt lv (t::r)=opK lv (kt t):=rfl
def pJ (n lv:Nat) (l:List Kt):List Kt:=if lv<n then (4,[40])::(l++[(4,[41])]) else l
def qK (op:UInt8):Kt:=(if op=22∨op=23 then 2 else 4,((aH op).tx.drop 1).dropLast)
def ktx (op:UInt8) (nm:Str) (n:Int64) (ls:List (Nat × List Kt)):List Kt :=
 if op=1 then [(3,Lib.itoa n.toInt)]
 else if op=5 then [(1,nm)]
 else if op=8 then [(2,[115,105,122,101]),(1,nm)]
 else if op=6 then (1,nm)::(4,[91])::((ls.getD 0 (0,[])).2++[(4,[93])])
 else if op=7 then (2,[104,97,115])::(1,nm)::(4,[91])::((ls.getD 0 (0,[])).2++[(4,[93])])
 else if op=9 then (4,[45])::pJ 6 (ls.getD 0 (0,[])).1 (ls.getD 0 (0,[])).2
 else if op=10 then (2,[110,111,116])::pJ 6 (ls.getD 0 (0,[])).1 (ls.getD 0 (0,[])).2
 else if (aH op).n=0 then [(2,(aH op).tx)]
 else pJ (pK (aH op).lv) (ls.getD 0 (0,[])).1 (ls.getD 0 (0,[])).2++qK op::pJ ((aH op).lv+1) (ls.getD 1 (0,[])).1 (ls.getD 1 (0,[])).2
mutual
def ktE:Ex→List Kt
 | .mk op nm n args=>ktx op nm n (WM args)
def WM:List Ex→List (Nat × List Kt)
 | []=>[]
 | e::r=>((aH e.op).lv,ktE e)::WM r
end
def Ex.lv (e:Ex):Nat:=(aH e.op).lv
def Stp (j:Nat) (r:List Tk):Prop:=(∀ i,j≤i→i≤4→opAt i r=none)∧isT [91] r=false
theorem Stp.up {i j:Nat} {r:List Tk} (h:Stp i r) (hij:i≤j):Stp j r:=⟨fun k h1 h2=>h.1 k (by omega) h2,h.2⟩
theorem Stp.of {j:Nat} {t:Tk} {r:List Tk} (h:∀ i∈List.range 5,j≤i→opK i (kt t)=none) (h2:isK [91] (kt t)=false):Stp j (t::r) :=
 ⟨fun i h1 h3=>h i (List.mem_range.2 (by omega)) h1,h2⟩
theorem CF {l:List Tk} {a:Ex} {r:List Tk}:∀ (d lv j:Nat),j=lv+1+d→j≤5→pX j l=.ok a r→Stp (lv+1) r→pX lv l=pL lv a r
 | 0,lv,j,e,hj,h,_=>by
  rw [zK (by omega),show lv+1=j by omega,h];rfl
 | d+1,lv,j,e,hj,h,hs=>by
  have:=CF d (lv+1) j (by omega) hj h (hs.up (by omega));rw [zK (by omega),this,lB (hs.1 _ (Nat.le_refl _) (by omega))];rfl
def Rd (e:Ex):Prop:=∀ le r,le.map kt=ktE e→(∀ lv,lv≤4→lv+1≤e.lv→Stp (lv+1) r→pX lv (le++r)=if lv=2∧e.lv=3 then .ok e r else pL lv e r)∧(6≤e.lv→isT [91] r=false→pX 5 (le++r)=.ok e r)
theorem Rd.full {e:Ex} (h:Rd e) {le r:List Tk} (hk:le.map kt=ktE e) {lv:Nat} (h5:lv≤5) (hl:lv+1≤e.lv) (hs:Stp lv r):pX lv (le++r)=.ok e r:=by
 by_cases e5:lv=5
 ·subst e5;exact (h le r hk).2 hl hs.2
 ·rw [(h le r hk).1 lv (by omega) hl (hs.up (by omega)),lB (hs.1 lv (Nat.le_refl _) (by omega))]
  split <;> rfl
theorem Rd.of {e:Ex} (h6:6≤e.lv) (h:∀ le r,le.map kt=ktE e→isT [91] r=false→pX 5 (le++r)=.ok e r):Rd e:=fun le r hk=>by
 refine ⟨fun lv hl h1 hs=>?_,fun _=>h le r hk⟩;rw [if_neg (by omega)];exact CF (4 - lv) lv 5 (by omega) (by omega) (h le r hk hs.2) hs
theorem Rd.par {e:Ex} (h:Rd e) (h1:1≤e.lv) {le r:List Tk} (hk:le.map kt=(4,[40])::(ktE e++[(4,[41])])):pX 5 (le++r)=.ok e r:=by
 obtain ⟨t,l1,rfl,ht,hk⟩:=List.map_eq_cons_iff.1 hk;obtain ⟨l2,l3,rfl,h2,h3⟩:=List.map_eq_append_iff.1 hk;obtain ⟨t2,l4,rfl,ht2,h4⟩:=List.map_eq_cons_iff.1 h3;obtain rfl:=List.map_eq_nil_iff.1 h4;simp only [List.cons_append,List.append_assoc,List.nil_append];have hf:=h.full h2 (r:=t2::r) (lv:=0) (by omega) h1 (.of (by rw [ht2];decide) (by rw [ht2];decide));rw [qO,cL,cL,ht,if_neg (by decide),if_neg (by decide),fY];have hk0:t.k=4:=congrArg Prod.fst ht;simp only [cL,ht];rw [if_neg (by rw [hk0];decide),if_neg (by decide),if_neg (by decide),if_neg (by decide),if_neg (by decide),if_pos (by decide),hf];show iV [41] (t2::r) _=_;rw [iV,cL,ht2,if_pos (by decide)]
 rfl
theorem Rd.opnd {e:Ex} (h:Rd e) (h1:1≤e.lv) {n:Nat} {le r:List Tk} (hk:le.map kt=pJ n e.lv (ktE e)) (hn:n≤6) (h0:0<n) (hs:Stp (n - 1) r):pX (n - 1) (le++r)=.ok e r:=by
 unfold pJ at hk
 split at hk
 ·have hp:=h.par h1 hk (r:=r)
  by_cases e5:n=6
  ·subst e5;exact hp
  ·rw [CF (5 - n) (n - 1) 5 (by omega) (by omega) hp (hs.up (by omega)),lB (hs.1 _ (Nat.le_refl _) (by omega))]
 ·exact h.full hk (by omega) (by omega) hs
theorem Rd.left {e:Ex} (h:Rd e) (h1:1≤e.lv) {lv:Nat} {le r:List Tk} (hk:le.map kt=pJ (lv+1) e.lv (ktE e)) (hn:lv≤4) (h2:lv≠2) (hs:Stp (lv+1) r):pX lv (le++r)=pL lv e r:=by
 unfold pJ at hk
 split at hk
 ·exact CF (4 - lv) lv 5 (by omega) (by omega) (h.par h1 hk (r:=r)) hs
 ·rw [(h le r hk).1 lv hn (by omega) hs,if_neg (by omega)]
theorem sQ (u:Nat):fG (Lib.decDigits u)=u:=by
 induction u using Nat.strongRecOn with
 | _ u ih =>
  by_cases h:u<10
  ·rw [Lib.decDigits_one h];simp only [fG,List.foldl_cons,List.foldl_nil,Plain.digit_nat u h];omega
  ·rw [Plain.digits_more u h];have:=ih (u / 10) (by omega);unfold fG at this ⊢;rw [List.foldl_append,this];simp only [List.foldl_cons,List.foldl_nil,Plain.digit_nat (u % 10) (by omega)];omega
theorem JV {n:Int} (h:0≤n):fG (Lib.itoa n)=n.toNat:=by
 unfold Lib.itoa;rw [if_neg (by omega),sQ]
theorem qQ {op:UInt8} (h:iL op=true):op∈([1,2,3,4,5,6,7,8,9,10,11,12,13,14,15,16,17,18,19,20,21,22,23]:List UInt8):=by
 simp only [iL,Bool.and_eq_true,decide_eq_true_eq] at h;have key:∀ i∈List.range 24,1≤i→UInt8.ofNat i∈([1,2,3,4,5,6,7,8,9,10,11,12,13,14,15,16,17,18,19,20,21,22,23]:List UInt8):=by decide
 have:=key op.toNat (List.mem_range.2 (by omega)) h.1
 rwa [UInt8.ofNat_toNat] at this
theorem vN {op:UInt8} (h:iL op=true):op=1∨op∈([11,12,13,14,15,16,17,18,19,20,21,22,23]:List UInt8)∨(op=2∨op=3∨op=4∨op=5∨op=6∨op=7∨op=8∨op=9∨op=10):=by
 have key:∀ o∈([1,2,3,4,5,6,7,8,9,10,11,12,13,14,15,16,17,18,19,20,21,22,23]:List UInt8),o=1∨o∈([11,12,13,14,15,16,17,18,19,20,21,22,23]:List UInt8)∨(o=2∨o=3∨o=4∨o=5∨o=6∨o=7∨o=8∨o=9∨o=10):=by decide
 exact key op (qQ h)
theorem VY {op:UInt8} (h:iL op=true):1≤(aH op).lv:=by
 have key:∀ o∈([1,2,3,4,5,6,7,8,9,10,11,12,13,14,15,16,17,18,19,20,21,22,23]:List UInt8),1≤(aH o).lv:=by decide
 exact key op (qQ h)
theorem yP {l:List Ex} (h:l.length=0):l=[]:=List.eq_nil_of_length_eq_zero h
theorem rL {l:List Ex} (h:l.length=1):∃ a,l=[a]:=List.length_eq_one_iff.1 h
theorem kD {l:List Ex} (h:l.length=2):∃ a b,l=[a,b]:=by
 match l,h with
 | [a,b],_=>exact ⟨a,b,rfl⟩
theorem wA {n:Int64} (h:n.toInt=0):n=0:=Int64.toInt_inj.1 (by rw [h];rfl)
def binOp (op:UInt8):Bool:=decide (11≤op.toNat) && decide (op.toNat≤23)
theorem mP:∀ op∈([11,12,13,14,15,16,17,18,19,20,21,22,23]:List UInt8),(aH op).n=2∧(aH op).nm=false∧1≤(aH op).lv∧(aH op).lv≤5∧opK ((aH op).lv - 1) (qK op)=some op∧isK [91] (qK op)=false ∧
 (∀ i∈List.range 5,(aH op).lv≤i→opK i (qK op)=none)∧¬ op=1∧¬ op=5∧¬ op=8∧¬ op=6∧¬ op=7∧¬ op=9∧¬ op=10:=by decide
theorem AA {op:UInt8} (h:op∈([11,12,13,14,15,16,17,18,19,20,21,22,23]:List UInt8)) (nm:Str) (n:Int64) (a b:Ex) :
 ktE (.mk op nm n [a,b])=pJ (pK (aH op).lv) a.lv (ktE a)++qK op::pJ ((aH op).lv+1) b.lv (ktE b):=by
 obtain ⟨h1,_,_,_,_,_,_,g1,g2,g3,g4,g5,g6,g7⟩:=mP op h;rw [ktE,ktx,if_neg g1,if_neg g2,if_neg g3,if_neg g4,if_neg g5,if_neg g6,if_neg g7,if_neg (by omega)]
 rfl
theorem UB {op:UInt8} (h:op∈([11,12,13,14,15,16,17,18,19,20,21,22,23]:List UInt8)) {a b:Ex} (ha:Rd a) (hb:Rd b) (ha1:1≤a.lv) (hb1:1≤b.lv):Rd (opE op [a,b]):=by
 intro le r hk;obtain ⟨_,_,h3,h4,h5,h6,h7,_⟩:=mP op h;have hlv:(opE op [a,b]).lv=(aH op).lv:=rfl;rw [hlv];rw [show opE op [a,b]=.mk op [] 0 [a,b] from rfl,AA h] at hk;obtain ⟨la,l1,rfl,hla,hk⟩:=List.map_eq_append_iff.1 hk;obtain ⟨t,lb,rfl,ht,hlb⟩:=List.map_eq_cons_iff.1 hk;generalize hL:(aH op).lv=L at *;refine ⟨?_,fun h8=>absurd h8 (by omega)⟩;have hst:∀ q,Stp L (t::q):=fun q=>.of (by rw [ht];exact h7) (by rw [ht];exact h6)
 -- at its own level
 have own:Stp L r→pX (L - 1) (la++t::lb++r)=if L - 1=2 then .ok (opE op [a,b]) r else pL (L - 1) (opE op [a,b]) r:=by
  intro hs;have hopt:∀ q,opAt (L - 1) (t::q)=some op:=fun q=>by rw [JP,ht];exact h5
  have hB:pX L (lb++r)=.ok b r:=by
   have:=hb.opnd hb1 (n:=L+1) hlb (by omega) (by omega) (r:=r) (by simpa using hs);simpa using this
  have hA:pX (L - 1) (la++(t::lb++r))=pL (L - 1) a (t::lb++r):=by
   by_cases h2:L=3
   ·subst h2;have:=ha.opnd ha1 (n:=4) (r:=t::lb++r) hla (by omega) (by omega) (hst _);rw [zK (by omega)];show (pX 3 _).bind _=_;rw [show (4:Nat) - 1=3 from rfl] at this;rw [this];rfl
   ·have e:pK L=L - 1+1:=by unfold pK;rw [if_neg h2];omega
    rw [e] at hla;exact ha.left ha1 hla (by omega) (by omega) (by rw [show L - 1+1=L by omega];exact hst _)
  rw [List.append_assoc,hA,List.cons_append,zL (by omega) (hopt _)];show (pX (L - 1+1) (lb++r)).bind _=_;rw [show L - 1+1=L by omega,hB]
  rfl
 intro lv hl4 hl hs
 by_cases e:lv=L - 1
 ·subst e;rw [show L - 1+1=L by omega] at hs;rw [own hs];exact ifI (by omega)
 ·rw [if_neg (by omega)];refine CF (L - 2 - lv) lv (L - 1) (by omega) (by omega) ?_ hs;rw [own (hs.up (by omega)),lB (hs.1 _ (by omega) (by omega))]
  split <;> rfl
theorem zZ {op:UInt8} {nm:Str} {n:Int64} {args:List Ex} {x:Kt} (h:ktE (.mk op nm n args)=[x]) {le:List Tk} (hk:le.map kt=ktE (.mk op nm n args)):∃ t,le=[t]∧kt t=x:=by
 rw [h] at hk;obtain ⟨t,l,rfl,ht,hl⟩:=List.map_eq_cons_iff.1 hk;obtain rfl:=List.map_eq_nil_iff.1 hl;exact ⟨t,rfl,ht⟩
theorem SW {op:UInt8} {a:Ex} (ha:Rd a) (h1:1≤a.lv) (hop:op=9∨op=10):Rd (opE op [a]):=by
 refine .of (by rcases hop with rfl | rfl <;> exact (by decide:6≤6)) fun le r hk h91=>?_
 have key:∃ t l,le=t::l∧kt t=(if op=9 then (4,[45]) else (2,[110,111,116]))∧l.map kt=pJ 6 a.lv (ktE a):=by
  rcases hop with rfl | rfl
  ·obtain ⟨t,l,rfl,ht,hl⟩:=List.map_eq_cons_iff.1 (show le.map kt=(4,[45])::pJ 6 a.lv (ktE a) from hk);exact ⟨t,l,rfl,ht,hl⟩
  ·obtain ⟨t,l,rfl,ht,hl⟩:=List.map_eq_cons_iff.1 (show le.map kt=(2,[110,111,116])::pJ 6 a.lv (ktE a) from hk);exact ⟨t,l,rfl,ht,hl⟩
 obtain ⟨t,l,rfl,ht,hl⟩:=key;have hA:pX 5 (l++r)=.ok a r:=ha.opnd h1 (n:=6) hl (by omega) (by omega) ⟨fun i h1 h2=>by omega,h91⟩;rw [List.cons_append,qO];rcases hop with rfl | rfl
 ·rw [cL,ht,if_pos (by decide)];show (pX 5 (l++r)).bind _=_;rw [hA];rfl
 ·rw [cL,cL,ht,if_neg (by decide),if_pos (by decide)];show (pX 5 (l++r)).bind _=_;rw [hA];rfl
theorem MJ {a:Ex} (ha:Rd a) (h1:1≤a.lv) {l r:List Tk} (hl:l.map kt=(4,[91])::(ktE a++[(4,[93])])):isT [91] (l++r)=true∧∀ (g:Ex→List Tk→Rs Ex),((pX 0 (l++r).tail).bind fun x r4=>iV [93] r4 fun r5=>g x r5)=g a r:=by
 obtain ⟨t,l1,rfl,ht,hk⟩:=List.map_eq_cons_iff.1 hl;obtain ⟨l2,l3,rfl,h2,h3⟩:=List.map_eq_append_iff.1 hk;obtain ⟨t2,l4,rfl,ht2,h4⟩:=List.map_eq_cons_iff.1 h3;obtain rfl:=List.map_eq_nil_iff.1 h4;refine ⟨by rw [List.cons_append,cL,ht];decide,fun g=>?_⟩;have hf:=ha.full h2 (r:=t2::r) (lv:=0) (by omega) h1 (.of (by rw [ht2];decide) (by rw [ht2];decide));simp only [List.cons_append,List.append_assoc,List.nil_append,List.tail_cons];rw [hf];show iV [93] (t2::r) _=_;rw [iV,cL,ht2,if_pos (by decide)]
 rfl
theorem UC (e:Ex):Ex.all dO e=true→Rd e∧1≤e.lv:=by
 induction e using Ex.ind with
 | _ op nm n args ih =>
  intro h;rw [eR,Bool.and_eq_true] at h;obtain ⟨hf,hr⟩:=h;have ha:∀ a∈args,Rd a∧1≤a.lv:=fun a m=>ih a m (bW m hr);simp only [dO,Bool.and_eq_true,Bool.or_eq_true,decide_eq_true_eq] at hf;obtain ⟨⟨⟨hop,hl⟩,hnm⟩,hn⟩:=hf;refine ⟨?_,VY hop⟩;have hm:=qQ hop
  by_cases h1:op=1
  ·subst h1;obtain rfl:=yP hl;obtain rfl:nm=[]:=hnm.resolve_left (by decide);rw [if_pos rfl,decide_eq_true_eq] at hn;refine .of (show 6≤(aH 1).lv by decide) fun le r hk _=>?_;obtain ⟨t,rfl,ht⟩:=zZ (x:=(3,Lib.itoa n.toInt)) rfl hk;have hk3:t.k=3:=congrArg Prod.fst ht;have ht2:t.t=Lib.itoa n.toInt:=congrArg Prod.snd ht;have hlt:=n.toInt_lt;rw [List.cons_append,List.nil_append,qO,cL,cL,ht,if_neg (by simp [isK]),if_neg (by simp [isK]),fY];rw [if_pos hk3,ht2,JV hn,if_pos (by omega)]
   congr 2
   exact Int64.toInt_inj.1 (by rw [Int64.toInt_ofNat_of_lt (by omega)];omega)
  rw [if_neg h1,decide_eq_true_eq] at hn;obtain rfl:=wA hn
  by_cases hb:op∈([11,12,13,14,15,16,17,18,19,20,21,22,23]:List UInt8)
  ·obtain ⟨b1,b2,_⟩:=mP op hb;obtain ⟨a,b,rfl⟩:=kD (l:=args) (by omega)
   obtain rfl : nm = [] := by rcases hnm with e | e
                              ·rw [b2] at e;cases e
                              ·exact e
   have h3:=ha a (by simp);have h4:=ha b (by simp);exact UB hb h3.1 h4.1 h3.2 h4.2
  have hs:op=2∨op=3∨op=4∨op=5∨op=6∨op=7∨op=8∨op=9∨op=10:=((vN hop).resolve_left h1).resolve_left hb
  have cst:∀ (w:Str),op=2∨op=3∨op=4→w=(aH op).tx→Rd (.mk op nm 0 args):=by
   intro w ho hw
   have hnil:args=[]:=by
    rcases ho with rfl | rfl | rfl <;> exact yP hl
   have hnm0:nm=[]:=by
    rcases ho with rfl | rfl | rfl <;> exact hnm.resolve_left (by decide)
   subst hnil hnm0;refine .of (by rcases ho with rfl | rfl | rfl <;> exact (by decide:6≤7)) fun le r hk _=>?_;rcases ho with rfl | rfl | rfl
   all_goals
    obtain ⟨t,rfl,ht⟩:=zZ rfl hk;have hk3:t.k=2:=congrArg Prod.fst ht;rw [List.cons_append,List.nil_append,qO,cL,cL,ht,if_neg (by decide),if_neg (by decide),fY];simp only [cL,ht];rw [if_neg (by rw [hk3];decide)]
   ·rw [if_pos (by decide)];rfl
   ·rw [if_neg (by decide),if_pos (by decide)];rfl
   ·rw [if_neg (by decide),if_neg (by decide),if_pos (by decide)];rfl
  rcases hs with rfl | rfl | rfl | rfl | rfl | rfl | rfl | rfl | rfl
  ·exact cst _ (.inl rfl) rfl
  ·exact cst _ (.inr (.inl rfl)) rfl
  ·exact cst _ (.inr (.inr rfl)) rfl
  ·obtain rfl:=yP hl;refine .of (show 6≤(aH 5).lv by decide) fun le r hk h91=>?_;obtain ⟨t,rfl,ht⟩:=zZ (x:=(1,nm)) rfl hk;have hk1:t.k=1:=congrArg Prod.fst ht;have ht2:t.t=nm:=congrArg Prod.snd ht;have hno:∀ w,isK w (1,nm)=false:=fun w=>by simp [isK]
   rw [List.cons_append,List.nil_append,qO,cL,cL,ht,hno,hno,if_neg (by decide),if_neg (by decide),fY];simp only [cL,ht,hno];rw [if_neg (by rw [hk1];decide)];simp only [Bool.false_eq_true,if_false];rw [if_pos hk1,h91,if_neg (by decide),ht2]
  ·obtain ⟨a,rfl⟩:=rL hl;obtain ⟨ra,r1⟩:=ha a (by simp);refine .of (show 6≤(aH 6).lv by decide) fun le r hk h91=>?_;obtain ⟨t,l,rfl,ht,hl⟩:=List.map_eq_cons_iff.1 (show le.map kt=(1,nm)::(4,[91])::(ktE a++[(4,[93])]) from hk);have hk1:t.k=1:=congrArg Prod.fst ht;have ht2:t.t=nm:=congrArg Prod.snd ht;have hno:∀ w,isK w (1,nm)=false:=fun w=>by simp [isK]
   obtain ⟨k1,k2⟩:=MJ ra r1 hl (r:=r);rw [List.cons_append,qO,cL,cL,ht,hno,hno,if_neg (by decide),if_neg (by decide),fY];simp only [cL,ht,hno];rw [if_neg (by rw [hk1];decide)];simp only [Bool.false_eq_true,if_false];rw [if_pos hk1,k1,if_pos rfl,k2,ht2]
  ·obtain ⟨a,rfl⟩:=rL hl;obtain ⟨ra,r1⟩:=ha a (by simp);refine .of (show 6≤(aH 7).lv by decide) fun le r hk h91=>?_;obtain ⟨t,l,rfl,ht,hl⟩:=List.map_eq_cons_iff.1 (show le.map kt=(2,[104,97,115])::(1,nm)::(4,[91])::(ktE a++[(4,[93])]) from hk);obtain ⟨t2,l2,rfl,ht2,hl⟩:=List.map_eq_cons_iff.1 hl;have hk1:t.k=2:=congrArg Prod.fst ht;have hk2:t2.k=1:=congrArg Prod.fst ht2;have ht3:t2.t=nm:=congrArg Prod.snd ht2;obtain ⟨k1,k2⟩:=MJ ra r1 hl (r:=r);rw [List.cons_append,qO,cL,cL,ht,if_neg (by decide),if_neg (by decide),fY];simp only [cL,ht];rw [if_neg (by rw [hk1];decide),if_neg (by decide),if_neg (by decide),if_neg (by decide),if_neg (by decide),if_neg (by decide),if_pos (by decide),List.cons_append,lD];rw [if_pos hk2,iV,k1,if_pos rfl,k2,ht3]
  ·obtain rfl:=yP hl;refine .of (show 6≤(aH 8).lv by decide) fun le r hk h91=>?_;obtain ⟨t,l,rfl,ht,hl⟩:=List.map_eq_cons_iff.1 (show le.map kt=(2,[115,105,122,101])::(1,nm)::[] from hk);obtain ⟨t2,l2,rfl,ht2,hl⟩:=List.map_eq_cons_iff.1 hl;obtain rfl:=List.map_eq_nil_iff.1 hl;have hk1:t.k=2:=congrArg Prod.fst ht;have hk2:t2.k=1:=congrArg Prod.fst ht2;have ht3:t2.t=nm:=congrArg Prod.snd ht2;rw [List.cons_append,qO,cL,cL,ht,if_neg (by decide),if_neg (by decide),fY];simp only [cL,ht];rw [if_neg (by rw [hk1];decide),if_neg (by decide),if_neg (by decide),if_neg (by decide),if_pos (by decide),List.cons_append,lD];rw [if_pos hk2,ht3];rfl
  ·obtain ⟨a,rfl⟩:=rL hl;obtain ⟨ra,r1⟩:=ha a (by simp);obtain rfl:nm=[]:=hnm.resolve_left (by decide);exact SW ra r1 (.inl rfl)
  ·obtain ⟨a,rfl⟩:=rL hl;obtain ⟨ra,r1⟩:=ha a (by simp);obtain rfl:nm=[]:=hnm.resolve_left (by decide);exact SW ra r1 (.inr rfl)
abbrev Pz (α:Type):=List Tk→Rs α
section
variable {α β:Type}
def aO (a:α):Pz α:=fun r=>.ok a r
def aF (p:Pz α) (f:α→Pz β):Pz β:=fun r=>(p r).bind f
def gNd (w:Str):Pz Unit:=fun r=>if isT w r then .ok () r.tail else .er r 8
def gNm:Pz Str:=fun r=>match r with | []=>.er r 8 | t::q=>if t.k=1 then .ok t.t q else .er r 8
def gNu:Pz Int64:=fun r=>match r with | []=>.er r 8 | t::q=>if t.k=3 then (if fG t.t≤9223372036854775807 then .ok (Int64.ofNat (fG t.t)) q else .er r 2) else .er r 8
def isN (w:Str):List Tk→Bool
 | []=>false
 | t::_=>t.k == 3 && decide (t.t=w)
def gNn (w:Str):Pz Unit:=fun r=>if isN w r then .ok () r.tail else .er r 8
def cM (w:Str) (p q:Pz α):Pz α:=fun r=>if isT w r then p r.tail else q r
def jD (w:Str) (p:Pz α):Nat→Pz (List α)
 | 0=>fun r=>.er r 99
 | f+1=>cM w (aF p fun a=>aF (jD w p f) fun l=>aO (a::l)) (aO [])
def dC (w:Str) (p:Pz α):Pz (List α):=fun r=>jD w p (r.length+1) r
end
def gEx:Pz Ex:=pX 0
def iF (b:Pz (List Sm)):Pz (List Sm):=aF (gNd [123]) fun _=>aF b fun l=>aF (gNd [125]) fun _=>aO l
def qY (b:Pz (List Sm)):Pz (List Sm):=cM [101,108,115,101] (iF b) (aO [])
def jX (b:Pz (List Sm)):Pz (List Sm):=cM [101,108,115,101] (iF b) (aF (gNd [59]) fun _=>aO [])
def dY {α:Type} (p:Pz α):Pz (List α):=aF (gNd [40]) fun _=>cM [41] (aO []) (aF p fun a=>aF (dC [44] p) fun l=>aF (gNd [41]) fun _=>aO (a::l))
def gSt (b:Pz (List Sm)):Pz Sm :=
 cM [105,102] (aF gEx fun e=>aF (iF b) fun t=>aF (qY b) fun l=>aO (.mk 4 [] [] [e] t l))<|cM [119,104,105,108,101] (aF gEx fun e=>aF (iF b) fun t=>aO (.mk 5 [] [] [e] t []))<|cM [115,116,111,114,101] (aF gEx fun e=>aF (gNd [61]) fun _=>aF gEx fun e2=>aF (jX b) fun l=>aO (.mk 8 [] [] [e,e2] [] l))<|cM [102,101,116,99,104] (aF gNm fun n=>aF (gNd [61]) fun _=>aF gEx fun e=>aF (jX b) fun l=>aO (.mk 9 n [] [e] [] l))<|cM [115,101,110,100] (aF gNm fun n=>aF (gNd [46]) fun _=>aF gNm fun h=>aF (dY gEx) fun l=>aF (gNd [59]) fun _=>aO (.mk 6 n h l [] []))<|cM [97,102,116,101,114] (aF gEx fun e=>aF (gNd [100,111]) fun _=>aF gNm fun h=>aF (dY gEx) fun l=>aF (gNd [59]) fun _=>aO (.mk 7 [] h (e::l) [] []))<|cM [115,116,111,112] (aF (gNd [59]) fun _=>aO (.mk 10 [] [] [] [] []))<|cM [100,101,108,101,116,101] (aF gNm fun n=>aF (gNd [91]) fun _=>aF gEx fun e=>aF (gNd [93]) fun _=>aF (gNd [59]) fun _=>aO (.mk 3 n [] [e] [] []))<|aF gNm fun n=>cM [91] (aF gEx fun e=>aF (gNd [93]) fun _=>aF (gNd [61]) fun _=>aF gEx fun e2=>aF (gNd [59]) fun _=>aO (.mk 2 n [] [e,e2] [] []))
  (aF (gNd [61]) fun _=>aF gEx fun e=>aF (gNd [59]) fun _=>aO (.mk 1 n [] [e] [] []))
def gBF:Nat→Pz (List Sm)
 | 0=>fun r=>.er r 99
 | f+1=>fun r=>if isT [125] r then .ok [] r else (gSt (gBF f) r).bind fun s r1=>(gBF f r1).bind fun l r2=>.ok (s::l) r2
def gB:Pz (List Sm):=fun r=>gBF (r.length+1) r
def gTr:Pz Bool:=cM [116,114,117,101] (aO true) (aF (gNd [102,97,108,115,101]) fun _=>aO false)
def gFg:Pz Fg:=aF gNm fun n=>aF (gNd [61]) fun _=>aF gTr fun b=>aF (gNd [59]) fun _=>aO ⟨n,b⟩
def gLk:Pz Lk:=aF gNm fun n=>aF (gNd [45,62]) fun _=>aF gNm fun m=>aF (gNd [108,97,116,101,110,99,121]) fun _=>aF gNu fun v=>aF (gNd [59]) fun _=>aO ⟨n,m,v⟩
def qX:Pz Int64:=cM [45] (aF gNu fun v=>aO (-v)) gNu
def gVr:Pz Vr:=aF gNm fun n=>aF (gNd [58]) fun _ =>
 cM [105,110,116] (aF (gNd [61]) fun _=>aF qX fun v=>aF (gNd [59]) fun _=>aO ⟨n,1,v⟩)<|cM [98,111,111,108] (aF (gNd [61]) fun _=>aF gTr fun b=>aF (gNd [59]) fun _=>aO ⟨n,2,if b then 1 else 0⟩)<|aF (gNd [116,97,98,108,101]) fun _=>aF (gNd [59]) fun _=>aO ⟨n,3,0⟩
def gHd:Pz Hd:=aF gNm fun n=>aF (dY gNm) fun l=>aF (iF gB) fun b=>aO ⟨n,l,b⟩
def gVs:Pz (List Hd):=dC [111,110] gHd
def gVn (n:Str):Pz (List Hd):=aF (gNn n) fun _=>aF (gNd [123]) fun _=>aF gVs fun v=>aF (gNd [125]) fun _=>aO v
def gVm:Pz (List (List Hd)):=cM [118,101,114,115,105,111,110] (aF (gVn [50]) fun v=>cM [118,101,114,115,105,111,110] (aF (gVn [51]) fun w=>aO [v,w]) (aO [v])) (aO [])
def gCp:Pz Cp:=aF gNm fun n=>aF (gNd [123]) fun _=>aF (dC [118,97,114] gVr) fun vs=>aF gVs fun v=>aF gVm fun l=>aF (gNd [125]) fun _=>aO ⟨n,vs,v::l⟩
def gFt:Pz Ft:=aF (gNd [102,108,101,101,116]) fun _=>aF gNm fun n=>aF (gNd [123]) fun _=>aF (dC [102,108,97,103] gFg) fun fs=>aF (dC [108,105,110,107] gLk) fun ls=>aF (dC [99,111,109,112,111,110,101,110,116] gCp) fun cs=>aF (gNd [125]) fun _=>aO ⟨n,fs,ls,cs⟩
/-! ### Rules that consume -/
section
variable {α β:Type}
def Shr (p:Pz α):Prop:=∀ r a r',p r=.ok a r'→r'.length≤r.length
def Shs (p:Pz α):Prop:=∀ r a r',p r=.ok a r'→r'.length<r.length
theorem Shs.le {p:Pz α} (h:Shs p):Shr p:=fun r a r' e=>Nat.le_of_lt (h r a r' e)
theorem Shr.pure (a:α):Shr (aO a):=fun r a r' e=>by injection e with _ e;subst e;exact Nat.le_refl _
theorem Shr.bind {p:Pz α} {f:α→Pz β} (h:Shr p) (k:∀ a,Shr (f a)):Shr (aF p f):=fun r b r' e=>by
 obtain ⟨a,q,h1,h2⟩:=Rs.bind_ok e;have:=h _ _ _ h1;have:=k _ _ _ _ h2;omega
theorem Shs.bind {p:Pz α} {f:α→Pz β} (h:Shs p) (k:∀ a,Shr (f a)):Shs (aF p f):=fun r b r' e=>by
 obtain ⟨a,q,h1,h2⟩:=Rs.bind_ok e;have:=h _ _ _ h1;have:=k _ _ _ _ h2;omega
theorem Shs.nd (w:Str):Shs (gNd w):=fun r a r' e=>by
 unfold gNd at e
 split at e
 ·rename_i h;injection e with _ e;subst e;have:=eD h;omega
 ·cases e
theorem UX {w:Str} {r:List Tk} (h:isN w r=true):r.length=r.tail.length+1:=by cases r with | nil=>cases h | cons t q=>rfl
theorem Shs.nn (w:Str):Shs (gNn w):=fun r a r' e=>by
 unfold gNn at e
 split at e
 ·rename_i h;injection e with _ e;subst e;have:=UX h;omega
 ·cases e
theorem Shs.nm:Shs gNm:=fun r a r' e=>by
 unfold gNm at e
 split at e
 ·cases e
 ·split at e
  ·injection e with _ e;subst e;simp
  ·cases e
theorem Shs.nu:Shs gNu:=fun r a r' e=>by
 unfold gNu at e
 split at e
 ·cases e
 ·split at e
  ·split at e
   ·injection e with _ e;subst e;simp
   ·cases e
  ·cases e
theorem Shs.ex:Shs gEx:=fun r a r' e=>(nO _).1 _ _ _ _ e
theorem Shr.alt {w:Str} {p q:Pz α} (h:Shr p) (k:Shr q):Shr (cM w p q):=fun r a r' e=>by
 unfold cM at e
 split at e
 ·rename_i h2;have:=eD h2;have:=h _ _ _ e;omega
 ·exact k _ _ _ e
theorem Shs.alt {w:Str} {p q:Pz α} (h:Shr p) (k:Shs q):Shs (cM w p q):=fun r a r' e=>by
 unfold cM at e
 split at e
 ·rename_i h2;have:=eD h2;have:=h _ _ _ e;omega
 ·exact k _ _ _ e
theorem Shr.many {w:Str} {p:Pz α} (h:Shr p):Shr (dC w p):=by
 have key:∀ f,Shr (jD w p f):=fun f=>by
  induction f with
  | zero=>intro r a r' e;cases e
  | succ f ih=>exact .alt (.bind h fun a=>.bind ih fun l=>.pure _) (.pure _)
 exact fun r a r' e=>key _ _ _ _ e
theorem sT {w:Str} {p:Pz α} (h:Shr p):∀ (f g:Nat) (r:List Tk),r.length<f→r.length<g→jD w p f r=jD w p g r
 | 0,_,_,k,_=>by omega
 | _,0,_,_,k=>by omega
 | f+1,g+1,r,k1,k2=>by
  unfold jD cM
  split
  ·rename_i e;have:=eD e;refine Rs.bind_congr rfl fun a q e2=>?_;have:=h _ _ _ e2;exact Rs.bind_congr (sT h f g q (by omega) (by omega)) fun _ _ _=>rfl
  ·rfl
theorem kU {w:Str} {p:Pz α} (h:Shr p):dC w p=cM w (aF p fun a=>aF (dC w p) fun l=>aO (a::l)) (aO []):=funext fun r=>by
 unfold dC
 conv=>lhs;unfold jD
 unfold cM
 split
 ·rename_i e;have:=eD e;refine Rs.bind_congr rfl fun a q e2=>?_;have:=h _ _ _ e2;exact Rs.bind_congr (sT h _ _ q (by omega) (by omega)) fun _ _ _=>rfl
 ·rfl
theorem Shs.list {p:Pz α} (h:Shr p):Shs (dY p):=.bind (.nd _) fun _=>.alt (.pure _) (.bind h fun _=>.bind (.many h) fun _=>.bind (Shs.nd _).le fun _=>.pure _)
/-! ### Rules that agree on short lists of tokens -/
def Agz (n:Nat) (p q:Pz α):Prop:=∀ r,r.length≤n→p r=q r
theorem Agz.rfl' {n:Nat} {p:Pz α}:Agz n p p:=fun _ _=>rfl
theorem Agz.bind {n:Nat} {p q:Pz α} {f g:α→Pz β} (hp:Shr p) (h:Agz n p q) (k:∀ a,Agz n (f a) (g a)):Agz n (aF p f) (aF q g):=fun r hr =>
 Rs.bind_congr (h r hr) fun a r' e=>k a r' (Nat.le_trans (hp _ _ _ e) hr)
theorem Agz.alt {n:Nat} {w:Str} {p q p' q':Pz α} (h:Agz (n - 1) p p') (k:Agz n q q'):Agz n (cM w p q) (cM w p' q'):=fun r hr=>by
 unfold cM
 split
 ·rename_i e;have:=eD e;exact h _ (by omega)
 ·exact k r hr
theorem Agz.altr {n:Nat} {w:Str} {p q p' q':Pz α} (h:Agz n p p') (k:Agz n q q'):Agz n (cM w p q) (cM w p' q'):=.alt (fun r hr=>h r (by omega)) k
end
theorem Shs.blk {b:Pz (List Sm)} (h:Shr b):Shs (iF b):=.bind (.nd _) fun _=>.bind h fun _=>.bind (Shs.nd _).le fun _=>.pure _
theorem Shr.els {b:Pz (List Sm)} (h:Shr b):Shr (qY b):=.alt (Shs.blk h).le (.pure _)
theorem Shr.oth {b:Pz (List Sm)} (h:Shr b):Shr (jX b):=.alt (Shs.blk h).le (.bind (Shs.nd _).le fun _=>.pure _)
theorem Shs.st {b:Pz (List Sm)} (h:Shr b):Shs (gSt b) :=
 .alt (.bind Shs.ex.le fun _=>.bind (Shs.blk h).le fun _=>.bind (.els h) fun _=>.pure _)<|.alt (.bind Shs.ex.le fun _=>.bind (Shs.blk h).le fun _=>.pure _)<|.alt (.bind Shs.ex.le fun _=>.bind (Shs.nd _).le fun _=>.bind Shs.ex.le fun _=>.bind (.oth h) fun _=>.pure _)<|.alt (.bind Shs.nm.le fun _=>.bind (Shs.nd _).le fun _=>.bind Shs.ex.le fun _=>.bind (.oth h) fun _=>.pure _)<|.alt (.bind Shs.nm.le fun _=>.bind (Shs.nd _).le fun _=>.bind Shs.nm.le fun _=>.bind (Shs.list Shs.ex.le).le fun _=>.bind (Shs.nd _).le fun _=>.pure _)<|.alt (.bind Shs.ex.le fun _=>.bind (Shs.nd _).le fun _=>.bind Shs.nm.le fun _=>.bind (Shs.list Shs.ex.le).le fun _=>.bind (Shs.nd _).le fun _=>.pure _)<|.alt (.bind (Shs.nd _).le fun _=>.pure _)<|.alt (.bind Shs.nm.le fun _=>.bind (Shs.nd _).le fun _=>.bind Shs.ex.le fun _=>.bind (Shs.nd _).le fun _=>.bind (Shs.nd _).le fun _=>.pure _)<|.bind .nm fun _=>.alt (.bind Shs.ex.le fun _=>.bind (Shs.nd _).le fun _=>.bind (Shs.nd _).le fun _=>.bind Shs.ex.le fun _=>.bind (Shs.nd _).le fun _=>.pure _) (.bind (Shs.nd _).le fun _=>.bind Shs.ex.le fun _=>.bind (Shs.nd _).le fun _=>.pure _)
theorem Agz.blk {n:Nat} {b c:Pz (List Sm)} (h:Agz n b c) (hb:Shr b):Agz n (iF b) (iF c):=.bind (Shs.nd _).le .rfl' fun _=>.bind hb h fun _=>.rfl'
theorem Agz.els {n:Nat} {b c:Pz (List Sm)} (h:Agz n b c) (hb:Shr b):Agz n (qY b) (qY c):=.altr (.blk h hb) .rfl'
theorem Agz.oth {n:Nat} {b c:Pz (List Sm)} (h:Agz n b c) (hb:Shr b):Agz n (jX b) (jX c):=.altr (.blk h hb) .rfl'
theorem Agz.st {n:Nat} {b c:Pz (List Sm)} (h:Agz (n - 1) b c) (hb:Shr b):Agz n (gSt b) (gSt c) :=
 .alt (.bind Shs.ex.le .rfl' fun _=>.bind (Shs.blk hb).le (.blk h hb) fun _=>.bind (.els hb) (.els h hb) fun _=>.rfl')<|.alt (.bind Shs.ex.le .rfl' fun _=>.bind (Shs.blk hb).le (.blk h hb) fun _=>.rfl')<|.alt (.bind Shs.ex.le .rfl' fun _=>.bind (Shs.nd _).le .rfl' fun _=>.bind Shs.ex.le .rfl' fun _=>.bind (.oth hb) (.oth h hb) fun _=>.rfl')<|.alt (.bind Shs.nm.le .rfl' fun _=>.bind (Shs.nd _).le .rfl' fun _=>.bind Shs.ex.le .rfl' fun _=>.bind (.oth hb) (.oth h hb) fun _=>.rfl') .rfl'
theorem mX:∀ f,Shr (gBF f)
 | 0=>fun _ _ _ e=>by cases e
 | f+1=>fun r a r' e=>by
  unfold gBF at e
  split at e
  ·injection e with _ e;subst e;exact Nat.le_refl _
  ·obtain ⟨s,q,h1,h2⟩:=Rs.bind_ok e;obtain ⟨l,q2,h3,h4⟩:=Rs.bind_ok h2;injection h4 with _ h4;subst h4
   have:=(Shs.st (mX f)) _ _ _ h1;have:=mX f _ _ _ h3;omega
theorem Shr.b:Shr gB:=fun _ _ _ e=>mX _ _ _ _ e
theorem qZ:∀ (f g:Nat) (r:List Tk),r.length<f→r.length<g→gBF f r=gBF g r
 | 0,_,_,k,_=>by omega
 | _,0,_,_,k=>by omega
 | f+1,g+1,[],_,_=>rfl
 | f+1,g+1,t::r,k1,k2=>by
  unfold gBF;simp only [List.length_cons] at k1 k2;refine ifC rfl (Rs.bind_congr (Agz.st (n:=(t::r).length) (fun q hq=>?_) (mX f) _ (Nat.le_refl _)) fun s q e=>?_)
  ·simp only [List.length_cons] at hq;exact qZ f g q (by omega) (by omega)
  ·have:=(Shs.st (mX f)) _ _ _ e;simp only [List.length_cons] at this;exact Rs.bind_congr (qZ f g q (by omega) (by omega)) fun _ _ _=>rfl
theorem wD (r:List Tk):gB r=if isT [125] r then .ok [] r else (gSt gB r).bind fun s r1=>(gB r1).bind fun l r2=>.ok (s::l) r2:=by
 match r with
 | []=>rfl
 | t::r =>
  conv=>lhs;unfold gB;unfold gBF
  refine ifC rfl (Rs.bind_congr (Agz.st (n:=(t::r).length) (fun q hq=>?_) (mX _) _ (Nat.le_refl _)) fun s q e=>?_)
  ·simp only [List.length_cons] at hq;exact qZ _ _ q (by simp only [List.length_cons];omega) (by omega)
  ·have:=(Shs.st (mX _)) _ _ _ e;exact Rs.bind_congr (qZ _ _ q (by omega) (by omega)) fun _ _ _=>rfl
def hdO (r:List Tk):Option Kt:=r.head?.map kt
def hdC (k:List Kt) (o:Option Kt):Option Kt:=match k with | []=>o | x::_=>some x
theorem AF {l r:List Tk} {k:List Kt} (h:l.map kt=k):hdO (l++r)=hdC k (hdO r):=by
 subst h;cases l <;> rfl
def kJ (_:Option Kt):Prop:=True
def mH (w:Str):Option Kt→Prop
 | none=>True
 | some x=>isK w x=false
def TT:Option Kt→Prop
 | none=>True
 | some x=>(∀ i∈List.range 5,opK i x=none)∧isK [91] x=false
theorem AB (w:Str) (r:List Tk):isT w r=match hdO r with | none=>false | some x=>isK w x:=by cases r <;> rfl
theorem MY {w:Str} {r:List Tk} (h:mH w (hdO r)):isT w r=false:=by
 rw [AB];cases e:hdO r with
 | none=>rfl
 | some x=>rw [e] at h;exact h
section
variable {α β:Type}
def Rdc (p:Pz α) (ks:List Kt) (v:α) (C:Option Kt→Prop):Prop:=∀ le r,le.map kt=ks→C (hdO r)→p (le++r)=.ok v r
variable {k k1 k2:List Kt} {v a:α} {C C1 C2:Option Kt→Prop} {w:Str} {x:Kt}
theorem Rdc.pure:Rdc (aO v) [] v C:=fun le r e _=>by
 obtain rfl:=List.map_eq_nil_iff.1 e;rfl
theorem Rdc.seq {p:Pz α} {f:α→Pz β} {b:β} (h1:Rdc p k1 a C1) (hc:∀ o,C2 o→C1 (hdC k2 o)) (h2:Rdc (f a) k2 b C2):Rdc (aF p f) (k1++k2) b C2:=fun le r e c=>by
 obtain ⟨l1,l2,rfl,e1,e2⟩:=List.map_eq_append_iff.1 e;unfold aF;rw [List.append_assoc,h1 l1 (l2++r) e1 (by rw [AF e2];exact hc _ c)];exact h2 l2 r e2 c
theorem Rdc.nd {f:Unit→Pz β} {b:β} (hx:isK w x=true) (h:Rdc (f ()) k b C):Rdc (aF (gNd w) f) (x::k) b C:=fun le r e c=>by
 obtain ⟨t,l,rfl,ht,hl⟩:=List.map_eq_cons_iff.1 e;unfold aF gNd;rw [List.cons_append,cL,ht,hx];exact h l r hl c
theorem Rdc.nn {f:Unit→Pz β} {b:β} (h:Rdc (f ()) k b C):Rdc (aF (gNn w) f) ((3,w)::k) b C:=fun le r e c=>by
 obtain ⟨t,l,rfl,ht,hl⟩:=List.map_eq_cons_iff.1 e;have h1:t.k=3:=congrArg Prod.fst ht;have h2:t.t=w:=congrArg Prod.snd ht;have hN:isN w (t::(l++r))=true:=by simp [isN,h1,h2]
 unfold aF gNn;rw [List.cons_append,hN];exact h l r hl c
theorem Rdc.nm {f:Str→Pz β} {b:β} (h:Rdc (f w) k b C):Rdc (aF gNm f) ((1,w)::k) b C:=fun le r e c=>by
 obtain ⟨t,l,rfl,ht,hl⟩:=List.map_eq_cons_iff.1 e;have h1:t.k=1:=congrArg Prod.fst ht;have h2:t.t=w:=congrArg Prod.snd ht;unfold aF gNm;rw [List.cons_append];simp only [h1,h2,if_true];exact h l r hl c
theorem Rdc.nm1:Rdc gNm [(1,w)] w C:=fun le r e c=>by
 obtain ⟨t,l,rfl,ht,hl⟩:=List.map_eq_cons_iff.1 e;obtain rfl:=List.map_eq_nil_iff.1 hl;have h1:t.k=1:=congrArg Prod.fst ht;have h2:t.t=w:=congrArg Prod.snd ht;unfold gNm;rw [List.cons_append];simp only [h1,h2,if_true]
 rfl
theorem Rdc.nu {u:Nat} (h:u≤9223372036854775807):Rdc gNu [(3,Lib.decDigits u)] (Int64.ofNat u) C:=fun le r e c=>by
 obtain ⟨t,l,rfl,ht,hl⟩:=List.map_eq_cons_iff.1 e;obtain rfl:=List.map_eq_nil_iff.1 hl;have h1:t.k=3:=congrArg Prod.fst ht;have h2:t.t=Lib.decDigits u:=congrArg Prod.snd ht;unfold gNu;rw [List.cons_append];simp only [h1,h2,if_true,sQ,h]
 rfl
theorem Rdc.altT {p q:Pz α} (hx:isK w x=true) (h:Rdc p k v C):Rdc (cM w p q) (x::k) v C:=fun le r e c=>by
 obtain ⟨t,l,rfl,ht,hl⟩:=List.map_eq_cons_iff.1 e;unfold cM;rw [List.cons_append,cL,ht,hx];exact h l r hl c
theorem Rdc.altF {p q:Pz α} (hx:isK w x=false) (h:Rdc q (x::k) v C):Rdc (cM w p q) (x::k) v C:=fun le r e c=>by
 have h2:=h le r e c;obtain ⟨t,l,rfl,ht,hl⟩:=List.map_eq_cons_iff.1 e;unfold cM;rw [List.cons_append,cL,ht,hx];exact h2
theorem Rdc.altE {p q:Pz α} (hc:∀ o,C o→mH w o) (h:Rdc q [] v C):Rdc (cM w p q) [] v C:=fun le r e c=>by
 have h2:=h le r e c;obtain rfl:=List.map_eq_nil_iff.1 e;unfold cM;rw [List.nil_append,MY (hc _ c),if_neg (by decide)];exact h2
theorem Rdc.many {p:Pz α} (hp:Shr p) (hx:isK w x=true) {g:α→List Kt} {Cp:Option Kt→Prop} (h1:Cp (some x)) (hc:∀ o,C o→Cp o∧mH w o):∀ l:List α,(∀ a∈l,Rdc p (g a) a Cp)→Rdc (dC w p) ((l.map fun a=>x::g a).flatten) l C
 | [],_=>by
  rw [kU hp];exact .altE (fun o c=>(hc o c).2) .pure
 | a::l,h=>by
  have ih:=Rdc.many hp hx h1 hc l fun b hb=>h b (List.mem_cons_of_mem _ hb);rw [kU hp];simp only [List.map_cons,List.flatten_cons,List.cons_append];refine .altT hx (.seq (h a (List.mem_cons_self ..)) (fun o c=>?_) ?_)
  ·cases l with
   | nil=>exact (hc o c).1
   | cons b l=>exact h1
  ·have:=Rdc.seq (f:=fun l=>aO (a::l)) (k2:=[]) ih (fun o c=>c) .pure
   rwa [List.append_nil] at this
def KO (l:List (List Kt)):List Kt:=(l.map fun k=>(4,[44])::k).flatten
def TZ:List (List Kt)→List Kt
 | []=>[]
 | k::l=>k++KO l
def CS (l:List (List Kt)):List Kt:=(4,[40])::(TZ l++[(4,[41])])
theorem Rdc.list {p:Pz α} (hp:Shr p) {g:α→List Kt} {Cp:Option Kt→Prop} (h1:Cp (some (4,[44]))) (h2:Cp (some (4,[41]))) {l:List α} (h:∀ a∈l,Rdc p (g a) a Cp) (hg:∀ a∈l,∃ x k,g a=x::k∧isK [41] x=false):Rdc (dY p) (CS (l.map g)) l C:=by
 refine .nd Z ?_;cases l with
 | nil=>exact .altT rfl .pure
 | cons a l =>
  obtain ⟨x,k,e,hk⟩:=hg a (List.mem_cons_self ..);have ha:=h a (List.mem_cons_self ..)
  have hm:Rdc (dC [44] p) (KO (l.map g)) l (fun o=>o=some (4,[41])):=by
   have:=Rdc.many (C:=fun o=>o=some (4,[41])) hp (w:=[44]) (x:=(4,[44])) rfl (g:=g) h1 (fun o c=>by subst c;exact ⟨h2,rfl⟩) l fun b hb=>h b (List.mem_cons_of_mem _ hb);unfold KO
   rwa [List.map_map]
  have key:Rdc (aF p fun a=>aF (dC [44] p) fun l=>aF (gNd [41]) fun _=>aO (a::l)) (g a++(KO (l.map g)++[(4,[41])])) (a::l) C:=by
   refine .seq ha (fun o c=>?_) (.seq hm (fun o c=>rfl) (.nd Z .pure));cases l with
   | nil=>exact h2
   | cons b l=>exact h1
  simp only [List.map_cons,TZ,List.append_assoc];rw [e] at key ⊢;exact .altF hk key
end
def stK (kd:UInt8) (nm hd:Str) (es:List (List Kt)) (T:List Kt) (noE:Bool) (E:List Kt):List Kt :=
 if kd=1 then (1,nm)::(4,[61])::(es.getD 0 []++[(4,[59])])
 else if kd=2 then (1,nm)::(4,[91])::(es.getD 0 []++(4,[93])::(4,[61])::(es.getD 1 []++[(4,[59])]))
 else if kd=3 then (2,[100,101,108,101,116,101])::(1,nm)::(4,[91])::(es.getD 0 []++[(4,[93]),(4,[59])])
 else if kd=4 then (2,[105,102])::(es.getD 0 []++((4,[123])::(T++[(4,[125])])++if noE then [] else (2,[101,108,115,101])::(4,[123])::(E++[(4,[125])])))
 else if kd=5 then (2,[119,104,105,108,101])::(es.getD 0 []++(4,[123])::(T++[(4,[125])]))
 else if kd=6 then (2,[115,101,110,100])::(1,nm)::(4,[46])::(1,hd)::(CS es++[(4,[59])])
 else if kd=7 then (2,[97,102,116,101,114])::(es.getD 0 []++(2,[100,111])::(1,hd)::(CS (es.drop 1)++[(4,[59])]))
 else if kd=8 then (2,[115,116,111,114,101])::(es.getD 0 []++(4,[61])::(es.getD 1 []++if noE then [(4,[59])] else (2,[101,108,115,101])::(4,[123])::(E++[(4,[125])])))
 else if kd=9 then (2,[102,101,116,99,104])::(1,nm)::(4,[61])::(es.getD 0 []++if noE then [(4,[59])] else (2,[101,108,115,101])::(4,[123])::(E++[(4,[125])]))
 else [(2,[115,116,111,112]),(4,[59])]
mutual
def ktS:Sm→List Kt
 | .mk kd nm hd ex th el=>stK kd nm hd (ex.map ktE) (kS th) (decide (el.length=0)) (kS el)
def kS:List Sm→List Kt
 | []=>[]
 | s::r=>ktS s++kS r
end
theorem kT (kd:UInt8) (nm hd:Str) (ex:List Ex) (th el:List Sm):ktS (.mk kd nm hd ex th el)=stK kd nm hd (ex.map ktE) (kS th) (decide (el.length=0)) (kS el):=by rw [ktS]
theorem Rdc.ex {e:Ex} (h:Ex.all dO e=true):Rdc gEx (ktE e) e TT:=fun le r hk c=>by
 obtain ⟨h1,h2⟩:=UC e h;refine h1.full hk (by omega) h2 ⟨fun i _ h4=>?_,?_⟩
 ·cases r with
  | nil=>unfold opAt isT;simp
  | cons t r=>exact c.1 i (List.mem_range.2 (by omega))
 ·cases r with
  | nil=>rfl
  | cons t r=>exact c.2
theorem UU (e:Ex):Ex.all dO e=true→∃ x k,ktE e=x::k∧isK [41] x=false:=by
 induction e using Ex.ind with
 | _ op nm n args ih =>
  intro h;rw [eR,Bool.and_eq_true] at h;obtain ⟨hf,hr⟩:=h;have ha:∀ a∈args,∃ x k,ktE a=x::k∧isK [41] x=false:=fun a m=>ih a m (bW m hr);simp only [dO,Bool.and_eq_true,Bool.or_eq_true,decide_eq_true_eq] at hf;obtain ⟨⟨⟨hop,hl⟩,_⟩,_⟩:=hf
  by_cases h1:op=1
  ·subst h1;exact ⟨_,_,rfl,by simp [isK]⟩
  by_cases hb:op∈([11,12,13,14,15,16,17,18,19,20,21,22,23]:List UInt8)
  ·obtain ⟨b1,_⟩:=mP op hb;obtain ⟨a,b,rfl⟩:=kD (l:=args) (by omega);rw [AA hb];unfold pJ
   split
   ·exact ⟨_,_,rfl,rfl⟩
   ·obtain ⟨x,k,e,hx⟩:=ha a (by simp);rw [e];exact ⟨_,_,rfl,hx⟩
  have hs:op=2∨op=3∨op=4∨op=5∨op=6∨op=7∨op=8∨op=9∨op=10:=((vN hop).resolve_left h1).resolve_left hb;rcases hs with rfl | rfl | rfl | rfl | rfl | rfl | rfl | rfl | rfl
  all_goals first | exact ⟨_,_,rfl,rfl⟩ | exact ⟨_,_,rfl,by decide⟩
theorem Rdc.exs {C:Option Kt→Prop} {l:List Ex} (h:∀ a∈l,Ex.all dO a=true):Rdc (dY gEx) (CS (l.map ktE)) l C :=
 .list Shs.ex.le ⟨by decide,by decide⟩ ⟨by decide,by decide⟩ (fun a ha=>.ex (h a ha)) fun a ha=>UU a (h a ha)
def tD (o:Option Kt):Prop:=o=some (4,[125])
theorem Rdc.blk {C:Option Kt→Prop} {l:List Sm} (h:Rdc gB (kS l) l tD):Rdc (iF gB) ((4,[123])::(kS l++[(4,[125])])) l C :=
 .nd rfl (.seq h (fun _ _=>rfl) (.nd rfl .pure))
theorem ET {kd:UInt8} (h:gT kd=true):kd=1∨kd=2∨kd=3∨kd=4∨kd=5∨kd=6∨kd=7∨kd=8∨kd=9∨kd=10:=by
 simp only [gT,Bool.and_eq_true,decide_eq_true_eq] at h;have key:∀ i∈List.range 11,1≤i→(UInt8.ofNat i=1∨UInt8.ofNat i=2∨UInt8.ofNat i=3∨UInt8.ofNat i=4∨UInt8.ofNat i=5∨UInt8.ofNat i=6∨UInt8.ofNat i=7∨UInt8.ofNat i=8∨UInt8.ofNat i=9∨UInt8.ofNat i=10):=by decide
 have:=key kd.toNat (List.mem_range.2 (by omega)) h.1
 rwa [UInt8.ofNat_toNat] at this
theorem OJ {l:List Ex} (h:l.length=1) (hf:Ex.alls dO l=true):∃ a,l=[a]∧Ex.all dO a=true:=by
 obtain ⟨a,rfl⟩:=rL h;exact ⟨a,rfl,bW (by simp) hf⟩
theorem WU {l:List Ex} (h:l.length=2) (hf:Ex.alls dO l=true):∃ a b,l=[a,b]∧Ex.all dO a=true∧Ex.all dO b=true:=by
 obtain ⟨a,b,rfl⟩:=kD h;exact ⟨a,b,rfl,bW (by simp) hf,bW (by simp) hf⟩
inductive FmS:Sm→Prop where
 | k1 {nm:Str} {a:Ex} (ha:Ex.all dO a=true):FmS (.mk 1 nm [] [a] [] [])
 | k2 {nm:Str} {a b:Ex} (ha:Ex.all dO a=true) (hb:Ex.all dO b=true):FmS (.mk 2 nm [] [a,b] [] [])
 | k3 {nm:Str} {a:Ex} (ha:Ex.all dO a=true):FmS (.mk 3 nm [] [a] [] [])
 | k4 {a:Ex} {th el:List Sm} (ha:Ex.all dO a=true):FmS (.mk 4 [] [] [a] th el)
 | k5 {a:Ex} {th:List Sm} (ha:Ex.all dO a=true):FmS (.mk 5 [] [] [a] th [])
 | k6 {nm hd:Str} {l:List Ex} (hl:∀ a∈l,Ex.all dO a=true):FmS (.mk 6 nm hd l [] [])
 | k7 {hd:Str} {a:Ex} {l:List Ex} (ha:Ex.all dO a=true) (hl:∀ a∈l,Ex.all dO a=true):FmS (.mk 7 [] hd (a::l) [] [])
 | k8 {a b:Ex} {el:List Sm} (ha:Ex.all dO a=true) (hb:Ex.all dO b=true):FmS (.mk 8 [] [] [a,b] [] el)
 | k9 {nm:Str} {a:Ex} {el:List Sm} (ha:Ex.all dO a=true):FmS (.mk 9 nm [] [a] [] el)
 | k10:FmS (.mk 10 [] [] [] [] [])
theorem xW {s:Sm} (h:jY s=true):FmS s:=by
 obtain ⟨kd,nm,hd,ex,th,el⟩:=s;simp only [jY,Bool.and_eq_true,Bool.or_eq_true,decide_eq_true_eq] at h;obtain ⟨⟨⟨⟨⟨⟨⟨hk,h1⟩,h2⟩,h3⟩,h4⟩,h5⟩,h6⟩,h7⟩:=h;have z:∀ {l:List Sm},l.length=0→l=[]:=List.eq_nil_of_length_eq_zero;rcases ET hk with rfl | rfl | rfl | rfl | rfl | rfl | rfl | rfl | rfl | rfl
 ·obtain rfl:=h4.resolve_left (by decide);obtain rfl:=z (h5.resolve_left (by decide));obtain rfl:=z (h6.resolve_left (by decide));obtain ⟨a,rfl,ha⟩:=OJ (Nat.le_antisymm h2 h1) h7;exact .k1 ha
 ·obtain rfl:=h4.resolve_left (by decide);obtain rfl:=z (h5.resolve_left (by decide));obtain rfl:=z (h6.resolve_left (by decide));obtain ⟨a,b,rfl,ha,hb⟩:=WU (Nat.le_antisymm h2 h1) h7;exact .k2 ha hb
 ·obtain rfl:=h4.resolve_left (by decide);obtain rfl:=z (h5.resolve_left (by decide));obtain rfl:=z (h6.resolve_left (by decide));obtain ⟨a,rfl,ha⟩:=OJ (Nat.le_antisymm h2 h1) h7;exact .k3 ha
 ·obtain rfl:=h3.resolve_left (by decide);obtain rfl:=h4.resolve_left (by decide);obtain ⟨a,rfl,ha⟩:=OJ (Nat.le_antisymm h2 h1) h7;exact .k4 ha
 ·obtain rfl:=h3.resolve_left (by decide);obtain rfl:=h4.resolve_left (by decide);obtain rfl:=z (h6.resolve_left (by decide));obtain ⟨a,rfl,ha⟩:=OJ (Nat.le_antisymm h2 h1) h7;exact .k5 ha
 ·obtain rfl:=z (h5.resolve_left (by decide));obtain rfl:=z (h6.resolve_left (by decide));exact .k6 fun a ha=>bW ha h7
 ·obtain rfl:=h3.resolve_left (by decide);obtain rfl:=z (h5.resolve_left (by decide));obtain rfl:=z (h6.resolve_left (by decide));cases ex with
  | nil=>exact absurd h1 (by decide)
  | cons a l=>exact .k7 (bW (by simp) h7) fun b hb=>bW (by simp [hb]) h7
 ·obtain rfl:=h3.resolve_left (by decide);obtain rfl:=h4.resolve_left (by decide);obtain rfl:=z (h5.resolve_left (by decide));obtain ⟨a,b,rfl,ha,hb⟩:=WU (Nat.le_antisymm h2 h1) h7;exact .k8 ha hb
 ·obtain rfl:=h4.resolve_left (by decide);obtain rfl:=z (h5.resolve_left (by decide));obtain ⟨a,rfl,ha⟩:=OJ (Nat.le_antisymm h2 h1) h7;exact .k9 ha
 ·obtain rfl:=h3.resolve_left (by decide);obtain rfl:=h4.resolve_left (by decide);obtain rfl:=z (h5.resolve_left (by decide));obtain rfl:=z (h6.resolve_left (by decide));obtain rfl:=yP (Nat.le_zero.1 h2);exact .k10
theorem NQ {s:Sm} (h:FmS s):∃ x k,ktS s=x::k∧isK [125] x=false∧isK [101,108,115,101] x=false:=by
 cases h <;> rw [kT] <;> exact ⟨_,_,rfl,rfl,rfl⟩
def RdS (s:Sm):Prop:=Rdc (gSt gB) (ktS s) s (mH [101,108,115,101])
theorem zA {x:Kt} (h1:(List.range 5).all (fun i=>(opK i x).isNone)=true) (h2:isK [91] x=false):TT (some x):=⟨fun i hi=>by simpa using List.all_eq_true.1 h1 i hi,h2⟩
theorem Rdc.oth {C:Option Kt→Prop} {el:List Sm} (h:Rdc gB (kS el) el tD):Rdc (jX gB) (if decide (el.length=0)=true then [(4,[59])] else (2,[101,108,115,101])::(4,[123])::(kS el++[(4,[125])])) el C:=by
 split
 ·rename_i e;obtain rfl:=List.eq_nil_of_length_eq_zero (of_decide_eq_true e);exact .altF Z (.nd Z .pure)
 ·exact .altT Z (.blk h)
theorem GN (el:List Sm) (o:Option Kt):TT (hdC (if decide (el.length=0)=true then [(4,[59])] else (2,[101,108,115,101])::(4,[123])::(kS el++[(4,[125])])) o):=by
 split <;> exact zA rfl rfl
theorem Rdc.st {s:Sm} (h:FmS s) (ht:∀ nm hd kd ex th el,s=.mk kd nm hd ex th el→Rdc gB (kS th) th tD∧Rdc gB (kS el) el tD):RdS s:=by
 unfold RdS;cases h with
 | k1 ha=>exact .altF rfl<|.altF rfl<|.altF rfl<|.altF rfl<|.altF rfl<|.altF rfl<|.altF rfl<|.altF rfl<|.nm<|.altF rfl<|.nd rfl<|.seq (.ex ha) (fun _ _=>zA rfl rfl)<|.nd rfl .pure
 | k2 ha hb=>exact .altF rfl<|.altF rfl<|.altF rfl<|.altF rfl<|.altF rfl<|.altF rfl<|.altF rfl<|.altF rfl<|.nm<|.altT rfl<|.seq (.ex ha) (fun _ _=>zA rfl rfl)<|.nd rfl<|.nd rfl<|.seq (.ex hb) (fun _ _=>zA rfl rfl)<|.nd rfl .pure
 | k3 ha=>exact .altF rfl<|.altF rfl<|.altF rfl<|.altF rfl<|.altF rfl<|.altF rfl<|.altF rfl<|.altT rfl<|.nm<|.nd rfl<|.seq (.ex ha) (fun _ _=>zA rfl rfl)<|.nd rfl<|.nd rfl .pure
 | @k4 a th el ha =>
  obtain ⟨h1,h2⟩:=ht _ _ _ _ _ _ rfl;refine .altT Z<|.seq (.ex ha) (fun _ _=>zA Z Z)<|.seq (C1:=kJ) (.blk h1) (fun _ _=>trivial) ?_
  split
  ·rename_i e;obtain rfl:=List.eq_nil_of_length_eq_zero (of_decide_eq_true e);exact Rdc.seq (k1:=[]) (k2:=[]) (C1:=mH [101,108,115,101]) (.altE (fun o c=>c) .pure) (fun o c=>c) .pure
  ·have:=Rdc.seq (C2:=mH [101,108,115,101]) (f:=fun l=>aO (Sm.mk 4 [] [] [a] th l)) (k2:=[]) (C1:=kJ) (.altT (w:=[101,108,115,101]) (q:=aO []) (x:=(2,[101,108,115,101])) rfl (.blk h2)) (fun o c=>trivial) .pure
   rwa [List.append_nil] at this
 | @k5 a th ha =>
  obtain ⟨h1,_⟩:=ht _ _ _ _ _ _ rfl;have:=Rdc.seq (C2:=mH [101,108,115,101]) (f:=fun t=>aO (Sm.mk 5 [] [] [a] t [])) (k2:=[]) (C1:=kJ) (.blk h1) (fun o c=>trivial) .pure;rw [List.append_nil] at this;exact .altF Z<|.altT Z<|.seq (.ex ha) (fun _ _=>zA Z Z) this
 | k6 hl=>exact .altF rfl<|.altF rfl<|.altF rfl<|.altF rfl<|.altT rfl<|.nm<|.nd rfl<|.nm<|.seq (C1:=kJ) (.exs hl) (fun _ _=>trivial)<|.nd rfl .pure
 | k7 ha hl=>exact .altF rfl<|.altF rfl<|.altF rfl<|.altF rfl<|.altF rfl<|.altT rfl<|.seq (.ex ha) (fun _ _=>zA rfl rfl)<|.nd rfl<|.nm<|.seq (C1:=kJ) (.exs hl) (fun _ _=>trivial)<|.nd rfl .pure
 | @k8 a b el ha hb =>
  obtain ⟨_,h2⟩:=ht _ _ _ _ _ _ rfl;have:=Rdc.seq (C2:=mH [101,108,115,101]) (f:=fun l=>aO (Sm.mk 8 [] [] [a,b] [] l)) (k2:=[]) (C1:=kJ) (.oth h2) (fun o c=>trivial) .pure;rw [List.append_nil] at this;exact .altF Z<|.altF Z<|.altT Z<|.seq (.ex ha) (fun _ _=>zA Z Z)<|.nd Z<|.seq (.ex hb) (fun o _=>GN el o) this
 | @k9 nm a el ha =>
  obtain ⟨_,h2⟩:=ht _ _ _ _ _ _ rfl;have:=Rdc.seq (C2:=mH [101,108,115,101]) (f:=fun l=>aO (Sm.mk 9 nm [] [a] [] l)) (k2:=[]) (C1:=kJ) (.oth h2) (fun o c=>trivial) .pure;rw [List.append_nil] at this;exact .altF Z<|.altF Z<|.altF Z<|.altT Z<|.nm<|.nd Z<|.seq (.ex ha) (fun o _=>GN el o) this
 | k10=>exact .altF rfl<|.altF rfl<|.altF rfl<|.altF rfl<|.altF rfl<|.altF rfl<|.altT rfl<|.nd rfl .pure
theorem Rdc.b:∀ (l:List Sm),(∀ s∈l,FmS s∧RdS s)→Rdc gB (kS l) l tD
 | [],_=>fun le r e c=>by
  obtain rfl:=List.map_eq_nil_iff.1 (by rw [kS] at e;exact e);rw [wD,List.nil_append,AB];have c:hdO r=some (4,[125]):=c;rw [c]
  rfl
 | s::l,h=>fun le r e c=>by
  rw [kS] at e;obtain ⟨l1,l2,rfl,e1,e2⟩:=List.map_eq_append_iff.1 e;obtain ⟨hf,hs⟩:=h s (List.mem_cons_self ..);obtain ⟨x,k,hx,hx1,_⟩:=NQ hf;have ih:=Rdc.b l (fun a ha=>h a (List.mem_cons_of_mem _ ha)) l2 r e2 c
  have h2:=hs l1 (l2++r) e1 (by
   rw [AF e2];cases l with
   | nil=>rw [show hdC (kS []) (hdO r)=hdO r from rfl,show hdO r=some (4,[125]) from c];rfl
   | cons b l =>
    obtain ⟨y,k2,hy,_,hy2⟩:=NQ (h b (by simp)).1;rw [kS,hy];exact hy2)
  rw [wD,List.append_assoc,AB,AF e1,hx];show (if isK [125] x=true then _ else _)=_;rw [hx1,if_neg (by decide),h2];show (gB (l2++r)).bind _=_;rw [ih]
  rfl
theorem gP {q:Sm→Bool}:∀ {l:List Sm} {a:Sm},a∈l→Sm.alls q l=true→Sm.all q a=true
 | b::l,a,h,k=>by
  rw [Sm.alls,Bool.and_eq_true] at k;rcases List.mem_cons.1 h with rfl | h
  ·exact k.1
  ·exact gP h k.2
theorem QN (s:Sm):Sm.all jY s=true→FmS s∧RdS s:=by
 induction s using Sm.ind with
 | _ kd nm hd ex th el ih1 ih2 =>
  intro h;rw [eU,Bool.and_eq_true,Bool.and_eq_true] at h;obtain ⟨⟨h1,h2⟩,h3⟩:=h;have hf:=xW h1
  exact ⟨hf,.st hf fun nm' hd' kd' ex' th' el' e=>by
   injection e with _ _ _ _ e1 e2
   subst e1 e2;exact ⟨.b _ fun s hs=>ih1 s hs (gP hs h2),.b _ fun s hs=>ih2 s hs (gP hs h3)⟩⟩
theorem Rdc.body {l:List Sm} (h:Sm.alls jY l=true):Rdc gB (kS l) l tD:=.b l fun s hs=>QN s (gP hs h)
/-! ### Fleets -/
def IJ (b:Bool):Kt:=(2,if b then [116,114,117,101] else [102,97,108,115,101])
def fgK (f:Fg):List Kt:=[(1,f.nm),(4,[61]),IJ f.init,(4,[59])]
def lkK (l:Lk):List Kt:=[(1,l.fr),(4,[45,62]),(1,l.to),(2,[108,97,116,101,110,99,121]),(3,Lib.decDigits l.lat.toInt.toNat),(4,[59])]
def NW (n:Int64):List Kt:=if n.toInt<0 then [(4,[45]),(3,Lib.decDigits (-n.toInt).toNat)] else [(3,Lib.decDigits n.toInt.toNat)]
def vrK (v:Vr):List Kt:=(1,v.nm)::(4,[58])::(if v.ty=1 then (2,[105,110,116])::(4,[61])::(NW v.init++[(4,[59])]) else if v.ty=2 then [(2,[98,111,111,108]),(4,[61]),IJ (decide (v.init.toInt=1)),(4,[59])] else [(2,[116,97,98,108,101]),(4,[59])])
def hdK (h:Hd):List Kt:=(1,h.nm)::(CS (h.ps.map fun p=>[(1,p)])++(4,[123])::(kS h.body++[(4,[125])]))
def vsK (v:List Hd):List Kt:=(v.map fun h=>(2,[111,110])::hdK h).flatten
def vnK (n:Str) (v:List Hd):List Kt:=(2,[118,101,114,115,105,111,110])::(3,n)::(4,[123])::(vsK v++[(4,[125])])
def vmK:List (List Hd)→List Kt
 | [v]=>vnK [50] v
 | v::w::_=>vnK [50] v++vnK [51] w
 | []=>[]
def cpK (c:Cp):List Kt:=(1,c.nm)::(4,[123])::((c.vars.map fun v=>(2,[118,97,114])::vrK v).flatten++(vsK (c.vers.headD [])++(vmK c.vers.tail++[(4,[125])])))
def ftK (f:Ft):List Kt:=(2,[102,108,101,101,116])::(1,f.nm)::(4,[123])::((f.flags.map fun x=>(2,[102,108,97,103])::fgK x).flatten++((f.links.map fun x=>(2,[108,105,110,107])::lkK x).flatten++((f.comps.map fun x=>(2,[99,111,109,112,111,110,101,110,116])::cpK x).flatten++[(4,[125])])))
section
variable {C:Option Kt→Prop}
theorem Rdc.tru {β:Type} {f:Bool→Pz β} {b:Bool} {k:List Kt} {v:β} (h:Rdc (f b) k v C):Rdc (aF gTr f) (IJ b::k) v C:=by
 have:Rdc gTr [IJ b] b kJ:=by
  cases b
  ·exact .altF Z (.nd Z .pure)
  ·exact .altT Z .pure
 exact Rdc.seq (k1:=[IJ b]) this (fun _ _=>trivial) h
theorem Rdc.fg (f:Fg):Rdc gFg (fgK f) f C:=.nm<|.nd rfl<|.tru<|.nd rfl .pure
theorem HL {n:Int64} (h:0≤n.toInt):n.toInt.toNat≤9223372036854775807∧Int64.ofNat n.toInt.toNat=n:=by
 have hlt:=n.toInt_lt;refine ⟨by omega,Int64.toInt_inj.1 ?_⟩;rw [Int64.toInt_ofNat_of_lt (by omega)];omega
theorem Rdc.lk {l:Lk} (h:lkB l=true):Rdc gLk (lkK l) l C:=by
 simp only [lkB,Bool.and_eq_true,decide_eq_true_eq] at h;obtain ⟨h1,h2⟩:=HL (n:=l.lat) (by omega)
 have h3:Rdc gNu [(3,Lib.decDigits l.lat.toInt.toNat)] l.lat kJ:=by
  have:=Rdc.nu (C:=kJ) h1
  rwa [h2] at this
 exact .nm<|.nd Z<|.nm<|.nd Z<|Rdc.seq (k1:=[_]) h3 (fun _ _=>trivial)<|.nd Z .pure
theorem Rdc.int {n:Int64} (h:n.toInt≠-9223372036854775808):Rdc qX (NW n) n C:=by
 unfold NW
 split
 ·rename_i hn;have hlt:=n.le_toInt;have h1:(-n.toInt).toNat≤9223372036854775807:=by omega
  have e:-Int64.ofNat (-n.toInt).toNat=n:=by
   apply Int64.toInt_inj.1;rw [Int64.toInt_neg,Int64.toInt_ofNat_of_lt (by omega)];rw [Int.toNat_of_nonneg (by omega),Int.neg_neg];exact Int.bmod_eq_of_le (by omega) (by have:=n.toInt_lt;omega)
  have:=Rdc.seq (C1:=kJ) (C2:=C) (f:=fun v=>aO (-v)) (k2:=[]) (.nu h1) (fun _ _=>trivial) .pure;rw [e] at this;exact .altT Z this
 ·obtain ⟨h1,h2⟩:=HL (n:=n) (by omega);have h3:=Rdc.nu (C:=C) h1;rw [h2] at h3;exact .altF (by simp [isK]) h3
theorem Rdc.vr {v:Vr} (h:gW v=true):Rdc gVr (vrK v) v C:=by
 obtain ⟨nm,ty,init⟩:=v;unfold gW at h;simp only at h;refine .nm<|.nd Z ?_
 simp only
 by_cases h1:ty=1
 ·subst h1;rw [if_pos rfl,decide_eq_true_eq] at h;rw [if_pos rfl];exact .altT Z<|.nd Z<|.seq (C1:=kJ) (.int h) (fun _ _=>trivial)<|.nd Z .pure
 rw [if_neg h1] at h ⊢
 by_cases h2:ty=2
 ·subst h2;rw [if_pos rfl,decide_eq_true_eq] at h;rw [if_pos rfl]
  have e:(if decide (init.toInt=1)=true then (1:Int64) else 0)=init:=by
   apply Int64.toInt_inj.1;rcases h with h | h <;> simp [h]
  refine .altF Z<|.altT Z<|.nd Z<|.tru<|.nd Z ?_
  rw [e];exact .pure
 rw [if_neg h2] at h ⊢
 split at h
 ·rename_i h3;subst h3;obtain rfl:=wA (of_decide_eq_true h);exact .altF Z<|.altF Z<|.nd Z<|.nd Z .pure
 ·cases h
theorem Rdc.hd {h:Hd} (hf:kY h=true):Rdc gHd (hdK h) h C:=by
 have h1:Rdc (dY gNm) (CS (h.ps.map fun p=>[(1,p)])) h.ps kJ:=.list Shs.nm.le (Cp:=kJ) trivial trivial (fun a _=>.nm1) fun a _=>⟨_,_,rfl,by simp [isK]⟩;have h2:=Rdc.seq (C1:=kJ) (C2:=C) (f:=fun b=>aO (Hd.mk h.nm h.ps b)) (k2:=[]) (.blk (.body hf)) (fun _ _=>trivial) .pure;rw [List.append_nil] at h2;exact .nm<|.seq h1 (fun _ _=>trivial) h2
theorem Shs.hd:Shs gHd:=.bind .nm fun _=>.bind (Shs.list Shs.nm.le).le fun _=>.bind (Shs.blk Shr.b).le fun _=>.pure _
theorem Rdc.vs {v:List Hd} (h:v.all kY=true) (hc:∀ o,C o→mH [111,110] o):Rdc gVs (vsK v) v C :=
 .many Shs.hd.le rfl (Cp:=kJ) trivial (fun o c=>⟨trivial,hc o c⟩) v fun a ha=>.hd (List.all_eq_true.1 h a ha)
theorem Rdc.vn {n:Str} {v:List Hd} (h:v.all kY=true):Rdc (gVn n) ((3,n)::(4,[123])::(vsK v++[(4,[125])])) v C :=
 .nn<|.nd rfl<|.seq (C1:=tD) (.vs h fun o c=>by rw [show o=some (4,[125]) from c];rfl) (fun _ _=>rfl)<|.nd rfl .pure
theorem Rdc.vm {l:List (List Hd)} (h:∀ v∈l,v.all kY=true) (hl:l.length≤2):Rdc gVm (vmK l) l tD:=by
 have hE:∀ o,tD o→mH [118,101,114,115,105,111,110] o:=fun o c=>by rw [show o=some (4,[125]) from c];rfl
 match l,hl with
 | [],_=>exact .altE hE .pure
 | [v],_ =>
  have:=Rdc.seq (C1:=kJ) (C2:=tD) (f:=fun v=>cM [118,101,114,115,105,111,110] (aF (gVn [51]) fun w=>aO [v,w]) (aO [v])) (k2:=[]) (.vn (n:=[50]) (h v (by simp))) (fun _ _=>trivial) (.altE hE .pure);rw [List.append_nil] at this;exact .altT Z this
 | [v,w],_ =>
  have h2:=Rdc.seq (C1:=kJ) (C2:=tD) (f:=fun w=>aO [v,w]) (k2:=[]) (.vn (n:=[51]) (h w (by simp))) (fun _ _=>trivial) .pure;rw [List.append_nil] at h2;exact .altT Z (.seq (C1:=kJ) (.vn (n:=[50]) (h v (by simp))) (fun _ _=>trivial) (.altT Z h2))
theorem Shs.tr:Shs gTr:=.alt (.pure _) (.bind (.nd _) fun _=>.pure _)
theorem Shs.fg:Shs gFg:=.bind .nm fun _=>.bind (Shs.nd _).le fun _=>.bind Shs.tr.le fun _=>.bind (Shs.nd _).le fun _=>.pure _
theorem Shs.lk:Shs gLk:=.bind .nm fun _=>.bind (Shs.nd _).le fun _=>.bind Shs.nm.le fun _=>.bind (Shs.nd _).le fun _=>.bind Shs.nu.le fun _=>.bind (Shs.nd _).le fun _=>.pure _
theorem Shs.int:Shs qX:=.alt (.bind Shs.nu.le fun _=>.pure _) .nu
theorem Shs.vr:Shs gVr:=.bind .nm fun _=>.bind (Shs.nd _).le fun _=>.alt (.bind (Shs.nd _).le fun _=>.bind Shs.int.le fun _=>.bind (Shs.nd _).le fun _=>.pure _) (.alt (.bind (Shs.nd _).le fun _=>.bind Shs.tr.le fun _=>.bind (Shs.nd _).le fun _=>.pure _) (.bind (Shs.nd _).le fun _=>.bind (Shs.nd _).le fun _=>.pure _))
theorem Shr.vs:Shr gVs:=.many Shs.hd.le
theorem Shs.vn (n:Str):Shs (gVn n):=.bind (.nn _) fun _=>.bind (Shs.nd _).le fun _=>.bind .vs fun _=>.bind (Shs.nd _).le fun _=>.pure _
theorem Shr.vm:Shr gVm:=.alt (.bind (Shs.vn _).le fun _=>.alt (.bind (Shs.vn _).le fun _=>.pure _) (.pure _)) (.pure _)
theorem Shs.cp:Shs gCp:=.bind .nm fun _=>.bind (Shs.nd _).le fun _=>.bind (.many Shs.vr.le) fun _=>.bind .vs fun _=>.bind .vm fun _=>.bind (Shs.nd _).le fun _=>.pure _
theorem oX (k1 k2:List Kt) (o:Option Kt):hdC (k1++k2) o=hdC k1 (hdC k2 o):=by cases k1 <;> rfl
theorem tV {α:Type} {w:Str} {x:Kt} (hw:isK w x=false) (g:α→List Kt) (l:List α) {o:Option Kt} (h:mH w o):mH w (hdC ((l.map fun a=>x::g a).flatten) o):=by
 cases l with
 | nil=>exact h
 | cons a l=>exact hw
theorem TC {w:Str} (hw:isK w (2,[118,101,114,115,105,111,110])=false) (l:List (List Hd)) {o:Option Kt} (h:mH w o):mH w (hdC (vmK l) o):=by
 match l with
 | []=>exact h
 | [v]=>exact hw
 | v::u::_=>exact hw
theorem Rdc.cp {c:Cp} (h1:c.vars.all gW=true) (h2:lM kY c=true) (h3:1≤c.vers.length) (h4:c.vers.length≤3):Rdc gCp (cpK c) c C:=by
 obtain ⟨nm,vars,vers⟩:=c;simp only at h1 h3 h4
 match vers,h3 with
 | v::l,_ =>
  have hv:∀ u∈v::l,u.all kY=true:=List.all_eq_true.1 h2;simp only [List.length_cons] at h4;refine .nm<|.nd Z<|.seq (C1:=mH [118,97,114]) (.many Shs.vr.le Z (Cp:=kJ) trivial (fun o c=>⟨trivial,c⟩) vars fun a ha=>.vr (List.all_eq_true.1 h1 a ha)) (fun o c=>?_)<|.seq (C1:=mH [111,110]) (.vs (hv v (by simp)) fun o c=>c) (fun o c=>?_)<|.seq (C1:=tD) (.vm (fun u hu=>hv u (by simp only [List.tail_cons] at hu;simp [hu])) (by simp only [List.tail_cons];omega)) (fun o c=>rfl)<|.nd Z .pure
  ·rw [oX,oX];exact tV rfl _ _ (TC rfl _ rfl)
  ·rw [oX];exact TC rfl _ rfl
theorem Rdc.ft {f:Ft} (h:bU f=0):Rdc gFt (ftK f) f C:=by
 unfold bU at h
 split at h
 ·cases h
 rename_i h1
 split at h
 ·cases h
 split at h
 ·cases h
 rename_i h2;rw [Bool.not_eq_false] at h1 h2;simp only [gY,Bool.and_eq_true] at h1;simp only [lQ,Bool.and_eq_true] at h2;obtain ⟨_,hs,_⟩:=h1;obtain ⟨⟨hl,hv⟩,hb⟩:=h2;rw [nB] at hb;refine .nd Z<|.nm<|.nd Z<|.seq (C1:=mH [102,108,97,103]) (.many Shs.fg.le Z (Cp:=kJ) trivial (fun o c=>⟨trivial,c⟩) f.flags fun a _=>.fg a) (fun o c=>?_)<|.seq (C1:=mH [108,105,110,107]) (.many Shs.lk.le Z (Cp:=kJ) trivial (fun o c=>⟨trivial,c⟩) f.links fun a ha=>.lk (List.all_eq_true.1 hl a ha)) (fun o c=>?_)<|.seq (C1:=mH [99,111,109,112,111,110,101,110,116]) (.many Shs.cp.le Z (Cp:=kJ) trivial (fun o c=>⟨trivial,c⟩) f.comps fun a ha=>?_) (fun o c=>rfl)<|.nd Z .pure
 ·rw [oX,oX];exact tV rfl _ _ (tV rfl _ _ rfl)
 ·rw [oX];exact tV rfl _ _ rfl
 ·have h3:=List.all_eq_true.1 hs a ha;simp only [jU,Bool.and_eq_true,decide_eq_true_eq] at h3;exact .cp (List.all_eq_true.1 hv a ha) (List.all_eq_true.1 hb a ha) h3.1.1.2 h3.1.2
end
structure Tok (x:Kt) (r:Str):Prop where
 ne:x.2≠[]
 read:aI (x.2++r)=(x.1,x.2.length)
 skip:cD false (x.2++r)=x.2++r
 k5:x.1≠5
 sh:x.2.length≤1000000
inductive Lx:Str→List Kt→Prop where
 | nil:Lx [] []
 | blk {c:UInt8} {s:Str} {k:List Kt} (h:eL c=true) (l:Lx s k):Lx (c::s) k
 | tok {x:Kt} {s:Str} {k:List Kt} (h:Tok x s) (l:Lx s k):Lx (x.2++s) (x::k)
theorem Lx.toks {s:Str} {k:List Kt} (h:Lx s k):∀ (f o:Nat),(cD false s).length<f→(pI f o (cD false s)).map kt=k:=by
 induction h with
 | nil=>intro f o _;rw [lU,jO];rfl
 | blk h _ ih=>intro f o hf;rw [lV h] at hf ⊢;exact ih f o hf
 | @tok x s k h _ ih =>
  intro f o hf;rw [h.skip] at hf ⊢
  match f,hf with
  | f+1,hf =>
   have hne:x.2++s≠[]:=by intro e;exact h.ne (List.append_eq_nil_iff.1 e).1
   rw [iR hne,h.read];simp only [List.take_left,List.drop_left,List.map_cons];have hl:=fE false s;have h1:1≤x.2.length:=List.length_pos_iff.2 h.ne;rw [ih f _ (by rw [List.length_append] at hf;omega)]
   rfl
theorem Lx.lex {s:Str} {k:List Kt} (h:Lx s k):(fH s).map kt=k:=by
 unfold fH;have:=fE false s;exact h.toks _ _ (by omega)
def jV (r:Str):Prop:=∀ c,r.head? = some c→eE c=false∧c≠46∧c≠61∧c≠62∧c≠47
def hdB (r:Str):Prop:=∀ c,r.head? = some c→c≠46∧c≠61∧c≠62∧c≠47
theorem jV.hd {r:Str} (h:jV r):hdB r:=fun c e=>(h c e).2
theorem dK {c:UInt8} {r:Str} (h:eE c=false∧c≠46∧c≠61∧c≠62∧c≠47):jV (c::r):=fun d e=>by cases e;exact h
theorem aV {c:UInt8} {r:Str} (h:c≠46∧c≠61∧c≠62∧c≠47):hdB (c::r):=fun d e=>by cases e;exact h
theorem mV {q:UInt8→Bool}:∀ {w r:Str},w.all q=true→(∀ c,r.head? = some c→q c=false)→pre q (w++r)=w.length
 | [],[],_,_=>rfl
 | [],c::r,_,h=>by unfold pre;rw [List.nil_append,List.takeWhile_cons,h c rfl];rfl
 | a::w,r,hw,h=>by
  rw [List.all_cons,Bool.and_eq_true] at hw;have:=mV hw.2 h;unfold pre at this ⊢;rw [List.cons_append,List.takeWhile_cons,hw.1];simp [this]
theorem zI {q:UInt8→Bool}:∀ {w:Str},pre q w=w.length→w.all q=true
 | [],_=>rfl
 | a::w,h=>by
  unfold pre at h;rw [List.takeWhile_cons] at h;cases ha:q a with
  | false=>rw [ha] at h;simp at h
  | true =>
   rw [ha] at h;have:=zI (q:=q) (w:=w) (by unfold pre;simpa using h);rw [List.all_cons,ha,this];rfl
theorem rK {Q:UInt8→Prop} (h:∀ i∈List.range 256,Q (UInt8.ofNat i)) (c:UInt8):Q c:=by
 have:=h c.toNat (List.mem_range.2 c.toNat_lt)
 rwa [UInt8.ofNat_toNat] at this
theorem tT (c:UInt8) (h:iE c=true):eL c=false∧c≠47∧c≠46∧c≠61∧c≠62∧eE c=true∧dU c=false:=by
 revert h
 exact rK (Q:=fun c=>iE c=true→eL c=false∧c≠47∧c≠46∧c≠61∧c≠62∧eE c=true∧dU c=false) (by decide +kernel) c
theorem tZ (c:UInt8) (h:dU c=true):eL c=false∧c≠47∧c≠46∧c≠61∧c≠62∧iE c=false:=by
 revert h
 exact rK (Q:=fun c=>dU c=true→eL c=false∧c≠47∧c≠46∧c≠61∧c≠62∧iE c=false) (by decide +kernel) c
theorem HK (c:UInt8) (h:eE c=false):dU c=false:=by
 revert h
 exact rK (Q:=fun c=>eE c=false→dU c=false) (by decide +kernel) c
theorem ID:∀ w∈words,w.length≤12:=by decide +kernel
theorem uQ {k:UInt8} {w r:Str} (h0:w≠[]) (hl:iE (w.headD 0)=true) (hw:w.all eE=true) (hk:(if words.contains w then (2:UInt8) else if w.length≤12 then 1 else 5)=k) (h5:k≠5) (hr:jV r):Tok (k,w) r:=by
 match w,h0 with
 | c::t,h0 =>
  have hlb:=tT c hl;have hp:pre eE ((c::t)++r)=(c::t).length:=mV hw fun d hd=>(hr d hd).1;refine ⟨h0,?_,?_,h5,?_⟩
  ·show aI ((c::t)++r)=(k,(c::t).length);unfold aI;simp only;rw [show ((c::t)++r).headD 0=c from rfl,show iE c=true from hl,if_pos rfl,hp,List.take_left]
   split at hk
   ·rename_i e;rw [if_pos e,← hk]
   ·rename_i e;rw [if_neg e]
    split at hk
    ·rename_i e2;rw [if_pos e2,← hk]
    ·exact absurd hk.symm h5
  ·exact gA hlb.1 (fun e=>hlb.2.1 e.1)
  ·show (c::t).length≤1000000
   split at hk
   ·rename_i e;have:=ID _ (List.contains_iff_mem.1 e);omega
   ·split at hk
    ·omega
    ·exact absurd hk.symm h5
theorem CV:∀ w∈words,w≠[]∧iE (w.headD 0)=true∧w.all eE=true:=by decide +kernel
theorem LN {w r:Str} (hw:w∈words) (hr:jV r):Tok (2,w) r:=by
 obtain ⟨h1,h2,h3⟩:=CV w hw;exact uQ h1 h2 h3 (by rw [if_pos (List.contains_iff_mem.2 hw)]) (by decide) hr
theorem nS {w:Str} (h:aS w=true):w≠[]∧iE (w.headD 0)=true∧w.all eE=true∧words.contains w=false∧w.length≤12:=by
 have hlen:=gM h;simp only [aS,Bool.and_eq_true,decide_eq_true_eq,beq_iff_eq] at h;obtain ⟨⟨h0,h1⟩,h2⟩:=h
 match w,h0 with
 | c::t,h0 =>
  have hl:=JI h1
  have h3:words.contains ((c::t).take (pre eE (c::t)))=false∧pre eE (c::t)=(c::t).length:=by
   unfold aI at h1 h2;simp only [List.headD_cons,hl,if_true] at h1 h2
   split at h1
   ·simp at h1
   ·rename_i e;rw [if_neg e] at h2
    split at h1
    ·rename_i e2;rw [if_pos e2] at h2;exact ⟨by simpa using e,h2⟩
    ·simp at h1
  obtain ⟨h4,h5⟩:=h3;rw [h5,List.take_length] at h4;exact ⟨h0,hl,zI h5,h4,hlen⟩
theorem LM {w r:Str} (hw:aS w=true) (hr:jV r):Tok (1,w) r:=by
 obtain ⟨h1,h2,h3,h4,h5⟩:=nS hw;exact uQ h1 h2 h3 (by rw [h4,if_neg (by decide),if_pos h5]) (by decide) hr
theorem tQ {w r:Str} (hw:aS w=true):hdB (w++r):=by
 obtain ⟨h1,h2,_⟩:=nS hw
 match w,h1 with
 | c::t,_=>have:=tT c h2;exact aV ⟨this.2.2.1,this.2.2.2.1,this.2.2.2.2.1,this.2.1⟩
theorem vX {w r:Str} (hw:w∈words):hdB (w++r):=by
 obtain ⟨h1,h2,_⟩:=CV w hw
 match w,h1 with
 | c::t,_=>have:=tT c h2;exact aV ⟨this.2.2.1,this.2.2.2.1,this.2.2.2.2.1,this.2.1⟩
theorem yE:∀ (u:Nat),∃ c t,Lib.decDigits u=c::t∧(t=[]∨c≠48)∧(u≠0→c≠48):=by
 intro u;induction u using Nat.strongRecOn with
 | _ u ih =>
  by_cases h:u<10
  ·rw [Lib.decDigits_one h];refine ⟨_,[],rfl,.inl rfl,fun hu e=>?_⟩;have:=congrArg UInt8.toNat e;rw [Plain.digit_nat u h] at this;have h48:(48:UInt8).toNat=48:=rfl;omega
  ·rw [Plain.digits_more u h];obtain ⟨c,t,e,_,h2⟩:=ih (u / 10) (by omega);rw [e];exact ⟨c,_,rfl,.inr (h2 (by omega)),fun _=>h2 (by omega)⟩
theorem RY {u:Nat} (h:u≤9223372036854775808):(Lib.decDigits u).length≤21:=by
 have h1:=Lib.itoa_length_le (-(u:Int)) (by omega) (by omega)
 by_cases h0:u=0
 ·subst h0;decide +kernel
 ·rw [Lib.itoa,if_pos (by omega),show (-(u:Int)).natAbs=u by omega,List.length_cons] at h1;omega
theorem OP {n:Int64}:n.toInt.toNat≤9223372036854775808:=by have:=n.toInt_lt;omega
theorem PZ {u:Nat} {r:Str} (hu:u≤9223372036854775808) (hr:jV r):Tok (3,Lib.decDigits u) r:=by
 have hdl:=RY hu;obtain ⟨c,t,e,h2,_⟩:=yE u
 have hall:(Lib.decDigits u).all dU=true:=List.all_eq_true.2 fun d hd=>by
  have:=Plain.digits_are u d hd;simp only [dU,Bool.and_eq_true,decide_eq_true_eq];exact this
 have hp:pre dU (Lib.decDigits u++r)=(Lib.decDigits u).length:=mV hall fun d hd=>HK d (hr d hd).1;rw [e] at hall hp hdl ⊢;rw [List.all_cons,Bool.and_eq_true] at hall;have hb:=tZ c hall.1;refine ⟨by simp,?_,gA hb.1 (fun e=>hb.2.1 e.1),(show (3:UInt8)≠5 by decide),(by show (c::t).length≤1000000;omega)⟩;show aI ((c::t)++r)=(3,(c::t).length);unfold aI;simp only;rw [show ((c::t)++r).headD 0=c from rfl,hb.2.2.2.2.2,if_neg (by decide),hall.1,if_pos rfl,hp];refine if_pos ?_;rcases h2 with rfl | h2
 ·exact .inl Z
 ·exact .inr h2
theorem MV {u:Nat} {r:Str}:hdB (Lib.decDigits u++r):=by
 obtain ⟨c,t,e,_⟩:=yE u;have:=Plain.digits_are u c (by rw [e];simp);have hd:dU c=true:=by simp only [dU,Bool.and_eq_true,decide_eq_true_eq];exact this
 have hb:=tZ c hd;rw [e];exact aV ⟨hb.2.2.1,hb.2.2.2.1,hb.2.2.2.2.1,hb.2.1⟩
def QC:Str:=[123,125,40,41,91,93,44,59,58,46,61,60,62,43,45,42,47,37]
theorem GB {c:UInt8} {r:Str} (hc:c∈QC) (hr:hdB r):Tok (4,[c]) r:=by
 have hx:∀ d,r.head? = some d→d≠46∧d≠61∧d≠62∧d≠47:=hr;refine ⟨by simp,?_,?_,(show (4:UInt8)≠5 by decide),(by show (1:Nat)≤_;omega)⟩
 ·show aI (c::r)=(4,1);have hl:iE c=false∧dU c=false:=by revert c;decide
  have hf:symbols.find? (fun x=>x.isPrefixOf (c::r))=some [c]:=by
   cases r with
   | nil=>revert c;decide
   | cons d t =>
    obtain ⟨e1,e2,e3,e4⟩:=hx d rfl;have b1:((46:UInt8) == d)=false:=beq_false_of_ne (Ne.symm e1);have b2:((61:UInt8) == d)=false:=beq_false_of_ne (Ne.symm e2);have b3:((62:UInt8) == d)=false:=beq_false_of_ne (Ne.symm e3);simp only [QC,List.mem_cons,List.not_mem_nil,or_false] at hc
    rcases hc with rfl | rfl | rfl | rfl | rfl | rfl | rfl | rfl | rfl | rfl | rfl | rfl | rfl | rfl | rfl | rfl | rfl | rfl <;>
     simp [symbols,List.find?,List.isPrefixOf,b1,b2,b3]
  unfold aI;simp only [List.headD_cons,hl.1,hl.2,hf,Bool.false_eq_true,if_false,List.length_singleton]
 ·refine gA (by revert c;decide) ?_;rintro ⟨_,h⟩;exact (hx 47 h).2.2.2 rfl
def TQ:List Str:=[[61,61],[33,61],[60,61],[62,61],[45,62]]
theorem GA {w:Str} {r:Str} (hw:w∈TQ):Tok (4,w) r:=by
 simp only [TQ,List.mem_cons,List.not_mem_nil,or_false] at hw;rcases hw with rfl | rfl | rfl | rfl | rfl <;> refine ⟨by simp,?_,?_,(show (4:UInt8)≠5 by decide),(by show (2:Nat)≤_;omega)⟩ <;> simp [aI,iE,dU,symbols,List.find?,List.isPrefixOf,cD,eL]
theorem fR {r:Str}:jV (32::r):=dK (by decide)
theorem OU {r:Str}:jV (41::r):=dK (by decide)
theorem AR {r:Str}:jV (91::r):=dK (by decide)
theorem FM {r:Str}:jV (93::r):=dK (by decide)
theorem Lx.sp {r:Str} {k:List Kt} (h:Lx r k):Lx (32::r) k:=.blk (by decide) h
theorem Lx.sy {c:UInt8} {r:Str} {k:List Kt} (hc:c∈QC) (hr:hdB r) (h:Lx r k):Lx (c::r) ((4,[c])::k):=.tok (x:=(4,[c])) (GB hc hr) h
theorem Lx.kw {w r:Str} {k:List Kt} (hw:w∈words) (hr:jV r) (h:Lx r k):Lx (w++r) ((2,w)::k):=.tok (x:=(2,w)) (LN hw hr) h
theorem Lx.nm {w r:Str} {k:List Kt} (hw:aS w=true) (hr:jV r) (h:Lx r k):Lx (w++r) ((1,w)::k):=.tok (x:=(1,w)) (LM hw hr) h
theorem Lx.nu {u:Nat} {r:Str} {k:List Kt} (hu:u≤9223372036854775808) (hr:jV r) (h:Lx r k):Lx (Lib.decDigits u++r) ((3,Lib.decDigits u)::k):=.tok (x:=(3,Lib.decDigits u)) (PZ hu hr) h
def LxE (e:Ex):Prop:=∀ r ks,jV r→Lx r ks→Lx (e.text++r) (ktE e++ks)∧hdB (e.text++r)
theorem LxE.opnd {e:Ex} (h:LxE e) (n:Nat) {r:Str} {ks:List Kt} (hr:jV r) (hk:Lx r ks):Lx (opT n (e.lv,e.text)++r) (pJ n e.lv (ktE e)++ks)∧hdB (opT n (e.lv,e.text)++r):=by
 unfold opT pJ;simp only
 split
 ·simp only [List.cons_append,List.nil_append,List.append_assoc];obtain ⟨h1,h2⟩:=h (41::r) ((4,[41])::ks) OU (.sy (by decide) hr.hd hk);exact ⟨.sy (by decide) h2 h1,aV (by decide)⟩
 ·exact h r ks hr hk
theorem PG:∀ op∈([11,12,13,14,15,16,17,18,19,20,21,22,23]:List UInt8),(aH op).tx=32::((qK op).2++[32])∧(((qK op).1=2∧(qK op).2∈words)∨((qK op).1=4∧((qK op).2∈TQ∨∃ c∈QC,(qK op).2=[c]))):=by decide +kernel
theorem Lx.bin {op:UInt8} (h:op∈([11,12,13,14,15,16,17,18,19,20,21,22,23]:List UInt8)) {r:Str} {k:List Kt} (hk:Lx r k):Lx ((aH op).tx++r) (qK op::k):=by
 obtain ⟨h1,h2⟩:=PG op h;rw [h1];simp only [List.cons_append,List.append_assoc,List.nil_append];refine .sp ?_;have hs:=hk.sp;refine .tok (x:=qK op) ?_ hs;generalize qK op=x at h2;obtain ⟨k,w⟩:=x;rcases h2 with ⟨e,hw⟩ | ⟨e,hw | ⟨c,hc,hw⟩⟩
 ·obtain rfl:k=2:=e;exact LN hw fR
 ·obtain rfl:k=4:=e;exact GA hw
 ·obtain rfl:k=4:=e;obtain rfl:w=[c]:=hw;exact GB hc fR.hd
theorem US (e:Ex):Ex.all dO e=true→Ex.all iO e=true→LxE e:=by
 induction e using Ex.ind with
 | _ op nm n args ih =>
  intro h hq;rw [eR,Bool.and_eq_true] at h hq;obtain ⟨hf,hr⟩:=h;obtain ⟨hg,hq⟩:=hq;have ha:∀ a∈args,LxE a:=fun a m=>ih a m (bW m hr) (bW m hq);simp only [dO,Bool.and_eq_true,Bool.or_eq_true,decide_eq_true_eq] at hf;simp only [iO,Bool.or_eq_true,Bool.not_eq_true'] at hg;obtain ⟨⟨⟨hop,hl⟩,hnm⟩,hn⟩:=hf;have hm:=qQ hop;intro r ks hs hk
  by_cases h1:op=1
  ·subst h1;rw [if_pos rfl,decide_eq_true_eq] at hn
   have e1:Ex.text (.mk 1 nm n args)=Lib.decDigits n.toInt.toNat:=by
    rw [Ex.text,txt,if_pos rfl,Lib.itoa,if_neg (by omega)]
   have e2:ktE (.mk 1 nm n args)=[(3,Lib.decDigits n.toInt.toNat)]:=by
    rw [ktE,ktx,if_pos rfl,Lib.itoa,if_neg (by omega)]
   rw [e1,e2];exact ⟨.nu OP hs hk,MV⟩
  rw [if_neg h1,decide_eq_true_eq] at hn;obtain rfl:=wA hn
  by_cases hb:op∈([11,12,13,14,15,16,17,18,19,20,21,22,23]:List UInt8)
  ·obtain ⟨b1,_,_,_,_,_,_,g1,g2,g3,g4,g5,g6,g7⟩:=mP op hb;obtain ⟨a,b,rfl⟩:=kD (l:=args) (by omega)
   have e1:Ex.text (.mk op nm 0 [a,b])=opT (pK (aH op).lv) (a.lv,a.text)++(aH op).tx++opT ((aH op).lv+1) (b.lv,b.text):=by
    rw [Ex.text,txt,if_neg g1,if_neg (by simp [g2,g3]),if_neg (by simp [g4,g5]),if_neg (by simp [g6,g7]),if_neg (by omega)]
    rfl
   rw [e1,AA hb];simp only [List.append_assoc,List.cons_append];obtain ⟨k1,_⟩:=(ha b (by simp)).opnd ((aH op).lv+1) hs hk;have k2:=Lx.bin hb k1;refine (ha a (by simp)).opnd (pK (aH op).lv) ?_ k2;rw [(PG op hb).1];exact fR
  have hs9:op=2∨op=3∨op=4∨op=5∨op=6∨op=7∨op=8∨op=9∨op=10:=((vN hop).resolve_left h1).resolve_left hb
  have key:∀ a,LxE a→Lx (91::(a.text++93::r)) ((4,[91])::(ktE a++(4,[93])::ks)):=by
   intro a hA;obtain ⟨k1,k2⟩:=hA (93::r) ((4,[93])::ks) FM (.sy (by decide) hs.hd hk);exact .sy (by decide) k2 k1
  have hn5:(aH op).nm=true→aS nm=true:=fun e=>hg.resolve_left (by rw [e];decide);rcases hs9 with rfl | rfl | rfl | rfl | rfl | rfl | rfl | rfl | rfl
  ·exact ⟨Lx.kw (w:=[116,114,117,101]) (by decide) hs hk,vX (w:=[116,114,117,101]) (by decide)⟩
  ·exact ⟨Lx.kw (w:=[102,97,108,115,101]) (by decide) hs hk,vX (w:=[102,97,108,115,101]) (by decide)⟩
  ·exact ⟨Lx.kw (w:=[110,111,119]) (by decide) hs hk,vX (w:=[110,111,119]) (by decide)⟩
  ·exact ⟨Lx.nm (hn5 rfl) hs hk,tQ (hn5 rfl)⟩
  ·obtain ⟨a,rfl⟩:=rL hl;have e1:Ex.text (.mk 6 nm 0 [a])++r=nm++91::(a.text++93::r):=by rw [bC];simp [txt,aH,iL,shapes]
   have e2:ktE (.mk 6 nm 0 [a])++ks=(1,nm)::(4,[91])::(ktE a++(4,[93])::ks):=by
    rw [show ktE (.mk 6 nm 0 [a])=(1,nm)::(4,[91])::(ktE a++[(4,[93])]) from rfl];simp
   rw [e1,e2];exact ⟨.nm (hn5 rfl) AR (key a (ha a (by simp))),tQ (hn5 rfl)⟩
  ·obtain ⟨a,rfl⟩:=rL hl;have e1:Ex.text (.mk 7 nm 0 [a])++r=[104,97,115]++32::(nm++91::(a.text++93::r)):=by rw [bC];simp [txt,aH,iL,shapes]
   have e2:ktE (.mk 7 nm 0 [a])++ks=(2,[104,97,115])::(1,nm)::(4,[91])::(ktE a++(4,[93])::ks):=by
    rw [show ktE (.mk 7 nm 0 [a])=(2,[104,97,115])::(1,nm)::(4,[91])::(ktE a++[(4,[93])]) from rfl];simp
   rw [e1,e2];exact ⟨.kw (by decide) fR (.sp (.nm (hn5 rfl) AR (key a (ha a (by simp))))),vX (by decide)⟩
  ·obtain rfl:=yP hl;have e1:Ex.text (.mk 8 nm 0 [])++r=[115,105,122,101]++32::(nm++r):=by rw [bC];simp [txt,aH,iL,shapes]
   rw [e1];exact ⟨.kw (by decide) fR (.sp (.nm (hn5 rfl) hs hk)),vX (by decide)⟩
  ·obtain ⟨a,rfl⟩:=rL hl;obtain ⟨k1,k2⟩:=(ha a (by simp)).opnd 6 hs hk;have e1:Ex.text (.mk 9 nm 0 [a])++r=45::(opT 6 (a.lv,a.text)++r):=by rw [bC];rfl
   rw [e1];exact ⟨.sy (by decide) k2 k1,aV (by decide)⟩
  ·obtain ⟨a,rfl⟩:=rL hl;obtain ⟨k1,k2⟩:=(ha a (by simp)).opnd 6 hs hk;have e1:Ex.text (.mk 10 nm 0 [a])++r=[110,111,116]++32::(opT 6 (a.lv,a.text)++r):=by rw [bC];rfl
   rw [e1];exact ⟨.kw (by decide) fR (.sp k1),vX (by decide)⟩
theorem Lx.nl {r:Str} {k:List Kt} (h:Lx r k):Lx (10::r) k:=.blk (by decide) h
theorem Lx.spT {r:Str} {k:List Kt}:∀ (n:Nat),Lx r k→Lx (spT n++r) k
 | 0,h=>h
 | n+1,h=>by
  rw [Go.Proofs.YthhoebdlfjffkaaGreatDoor.spT,List.append_assoc];exact Lx.spT n (.sp (.sp h))
theorem Lx.line {n:Nat} {parts:List Str} {r:Str} {k:List Kt} (h:Lx (parts.flatten++10::r) k):Lx (cY n parts++r) k:=by
 unfold cY;rw [List.append_assoc,List.append_assoc];exact .spT n h
theorem Lx.to {r:Str} {k:List Kt} (h:Lx r k):Lx (45::62::r) ((4,[45,62])::k):=.tok (x:=(4,[45,62])) (GA (by decide)) h
theorem IK {w r:Str} (hw:aS w=true) (hr:∀ d,r.head? = some d→eE d=false):Tok (1,w) r:=by
 obtain ⟨h1,h2,h3,h4,h5⟩:=nS hw
 match w,h1 with
 | c::t,h1 =>
  have hlb:=tT c h2;have hp:pre eE ((c::t)++r)=(c::t).length:=mV h3 hr;refine ⟨h1,?_,gA hlb.1 (fun e=>hlb.2.1 e.1),(show (1:UInt8)≠5 by decide),(by show (c::t).length≤1000000;omega)⟩;show aI ((c::t)++r)=(1,(c::t).length);unfold aI;simp only;rw [show ((c::t)++r).headD 0=c from rfl,show iE c=true from h2,if_pos rfl,hp,List.take_left,h4,if_neg (by decide),if_pos h5]
theorem Lx.nm2 {w r:Str} {k:List Kt} (hw:aS w=true) (hr:∀ d,r.head? = some d→eE d=false) (h:Lx r k):Lx (w++r) ((1,w)::k):=.tok (x:=(1,w)) (IK hw hr) h
def LxI (t:Str) (k:List Kt):Prop:=∀ r ks,jV r→Lx r ks→Lx (t++r) (k++ks)∧hdB (t++r)
theorem LxI.one {t r:Str} {k ks:List Kt} (h:LxI t k) (hr:jV r) (l:Lx r ks):Lx (t++r) (k++ks):=(h r ks hr l).1
theorem LxI.nm {w:Str} (h:aS w=true):LxI w [(1,w)]:=fun r ks hr l=>⟨.nm h hr l,tQ h⟩
theorem LxI.ex {e:Ex} (h:Ex.all dO e=true) (hq:Ex.all iO e=true):LxI e.text (ktE e):=US e h hq
theorem GY {α:Type} {tx:α→Str} {g:α→List Kt}:∀ (l:List α) (r:Str) (ks:List Kt),(∀ a∈l,LxI (tx a) (g a))→jV r→Lx r ks→Lx (Lib.joinTail [44,32] (l.map tx)++r) (KO (l.map g)++ks)∧jV (Lib.joinTail [44,32] (l.map tx)++r)
 | [],r,ks,_,hr,h=>⟨h,hr⟩
 | a::l,r,ks,hl,hr,h=>by
  obtain ⟨h1,h2⟩:=GY l r ks (fun b hb=>hl b (List.mem_cons_of_mem _ hb)) hr h;have h3:=hl a (List.mem_cons_self ..) _ _ h2 h1;unfold Lib.joinTail KO at *;simp only [List.map_cons,List.flatten_cons,List.cons_append,List.append_assoc,List.nil_append];exact ⟨.sy (by decide) (aV (by decide)) (.sp h3.1),dK (by decide)⟩
theorem zU {α:Type} {tx:α→Str} {g:α→List Kt} {l:List α} (hl:∀ a∈l,LxI (tx a) (g a)) {r:Str} {ks:List Kt} (hr:hdB r) (h:Lx r ks):Lx (40::(iK (l.map tx)++41::r)) (CS (l.map g)++ks):=by
 have h0:Lx (41::r) ((4,[41])::ks):=.sy (by decide) hr h;unfold CS iK;cases l with
 | nil=>exact .sy (by decide) (aV (by decide)) h0
 | cons a l =>
  simp only [List.map_cons,Lib.join_cons,TZ,List.cons_append,List.append_assoc,List.nil_append];obtain ⟨h1,h2⟩:=GY l (41::r) _ (fun b hb=>hl b (List.mem_cons_of_mem _ hb)) OU h0;obtain ⟨h3,h4⟩:=hl a (List.mem_cons_self ..) _ _ h2 h1;exact .sy (by decide) h4 h3
def LxS (s:Sm):Prop:=∀ n r ks,Lx r ks→Lx (Sm.text n s++r) (ktS s++ks)
def LxB (l:List Sm):Prop:=∀ n r ks,Lx r ks→Lx (Sm.texts n l++r) (kS l++ks)
theorem LxB.of:∀ {l:List Sm},(∀ s∈l,LxS s)→LxB l
 | [],_=>fun n r ks h=>by rw [Sm.texts,kS];exact h
 | s::l,hs=>fun n r ks h=>by
  rw [Sm.texts,kS,List.append_assoc,List.append_assoc];exact hs s (List.mem_cons_self ..) n _ _ (LxB.of (fun a ha=>hs a (List.mem_cons_of_mem _ ha)) n r ks h)
theorem iJ {w r:Str} {k:List Kt} (hw:w∈words) (h:Lx r k):Lx (w++32::r) ((2,w)::k):=.kw hw fR (.sp h)
theorem nT {n:Nat} {r:Str} {ks:List Kt} (h:Lx r ks):Lx (cY n [[125]]++r) ((4,[125])::ks):=.line (.sy (by decide) (aV (by decide)) (.nl h))
theorem NH {el:List Sm} (hb:LxB el) {n:Nat} {first:Str} {k:List Kt} (hf:LxI first k) {r:Str} {ks:List Kt} (h:Lx r ks) :
 Lx (jR n first (decide (el.length=0)) (Sm.texts (n+1) el)++r) (k++((if decide (el.length=0)=true then [(4,[59])] else (2,[101,108,115,101])::(4,[123])::(kS el++[(4,[125])]))++ks)):=by
 unfold jR
 split
 ·refine .line ?_;simp only [List.flatten_cons,List.flatten_nil,List.append_nil,List.append_assoc,List.cons_append,List.nil_append];exact hf.one (dK (by decide)) (.sy (by decide) (aV (by decide)) (.nl h))
 ·simp only [List.append_assoc];refine .line ?_;simp only [List.flatten_cons,List.flatten_nil,List.append_nil,List.append_assoc,List.cons_append,List.nil_append];exact hf.one fR (.sp (iJ (w:=[101,108,115,101]) (by decide) (.sy (by decide) (aV (by decide)) (.nl (hb _ _ _ (nT h))))))
theorem LxI.app {t t2:Str} {k k2:List Kt} (h:LxI t k) (h2:∀ r ks,jV r→Lx r ks→Lx (t2++r) (k2++ks)∧jV (t2++r)):LxI (t++t2) (k++k2):=fun r ks hr l=>by
 rw [List.append_assoc,List.append_assoc];obtain ⟨h3,h4⟩:=h2 r ks hr l;exact h _ _ h4 h3
theorem LxI.kw {w:Str} (hw:w∈words) {t:Str} {k:List Kt} (h:LxI t k):LxI (w++32::t) ((2,w)::k):=fun r ks hr l=>by
 rw [List.append_assoc];exact ⟨iJ hw (h r ks hr l).1,vX hw⟩
theorem LxI.eq {t t2:Str} {k k2:List Kt} (h:LxI t k) (h2:LxI t2 k2):LxI (t++([32,32,61,32].drop 1++t2)) (k++(4,[61])::k2):=h.app fun r ks hr l =>
 ⟨.sp (.sy (by decide) (aV (by decide)) (.sp (h2.one hr l))),fR⟩
theorem UT {s:Sm} (h:FmS s) (hn:iA s=true) (hb:∀ nm hd kd ex th el,s=.mk kd nm hd ex th el→LxB th∧LxB el):LxS s:=by
 intro n r ks hk;cases h with
 | @k1 nm a ha =>
  simp only [iA,Bool.and_eq_true] at hn;have h1:aS nm=true:=by simpa [aT,gT,forms] using hn.1.1
  have h2:=LxI.ex ha (bW (List.mem_cons_self ..) hn.2);refine .line ?_;rw [kT];simp [stK];exact .nm h1 fR<|.sp<|.sy (by decide) (aV (by decide))<|.sp<|h2.one (dK (by decide))<|.sy (by decide) (aV (by decide)) (.nl hk)
 | @k2 nm a b ha hb2 =>
  simp only [iA,Bool.and_eq_true] at hn;have h1:aS nm=true:=by simpa [aT,gT,forms] using hn.1.1
  have h2:=LxI.ex ha (bW (by simp) hn.2);have h3:=LxI.ex hb2 (bW (by simp) hn.2);refine .line ?_;rw [kT];simp [stK];have h4:=h3.one (dK (by decide))<|Lx.sy (c:=59) (by decide) (aV (by decide)) (.nl hk)
  obtain ⟨h5,h6⟩:=h2 _ _ FM<|Lx.sy (c:=93) (by decide) (aV (by decide))<|.sp<|.sy (c:=61) (by decide) (aV (by decide))<|.sp h4
  exact .nm h1 AR<|.sy (by decide) h6 h5
 | @k3 nm a ha =>
  simp only [iA,Bool.and_eq_true] at hn;have h1:aS nm=true:=by simpa [aT,gT,forms] using hn.1.1
  have h2:=LxI.ex ha (bW (by simp) hn.2);refine .line ?_;rw [kT];simp [stK];obtain ⟨h5,h6⟩:=h2 _ _ FM<|Lx.sy (c:=93) (by decide) (aV (by decide))<|.sy (c:=59) (by decide) (aV (by decide)) (.nl hk)
  exact iJ (w:=[100,101,108,101,116,101]) (by decide)<|.nm h1 AR<|.sy (by decide) h6 h5
 | @k4 a th el ha =>
  obtain ⟨b1,b2⟩:=hb _ _ _ _ _ _ rfl;simp only [iA,Bool.and_eq_true] at hn;have h2:=LxI.ex ha (bW (by simp) hn.2);rw [aD,kT]
  by_cases he:el.length=0
  ·simp [stT,stK,he];refine .line ?_;simp;exact iJ (w:=[105,102]) (by decide)<|h2.one fR<|.sp<|.sy (by decide) (aV (by decide))<|.nl<|b1 _ _ _<|nT hk
  ·have he2:¬ el=[]:=fun e=>he (by rw [e];rfl);simp [stT,stK,he2];refine .line ?_;simp;exact iJ (w:=[105,102]) (by decide)<|h2.one fR<|.sp<|.sy (by decide) (aV (by decide))<|.nl<|b1 _ _ _<|.line<|.sy (by decide) (aV (by decide))<|.sp<|iJ (w:=[101,108,115,101]) (by decide)<|.sy (by decide) (aV (by decide))<|.nl<|b2 _ _ _<|nT hk
 | @k5 a th ha =>
  obtain ⟨b1,b2⟩:=hb _ _ _ _ _ _ rfl;simp only [iA,Bool.and_eq_true] at hn;have h2:=LxI.ex ha (bW (by simp) hn.2);rw [aD,kT];simp [stT,stK];refine .line ?_;simp;exact iJ (w:=[119,104,105,108,101]) (by decide)<|h2.one fR<|.sp<|.sy (by decide) (aV (by decide))<|.nl<|b1 _ _ _<|nT hk
 | @k6 nm hd l hl =>
  simp only [iA,Bool.and_eq_true] at hn;have h1:aS nm=true:=by simpa [aT,gT,forms] using hn.1.1
  have h2:aS hd=true:=by simpa [aT,gT,forms] using hn.1.2
  refine .line ?_;rw [kT];simp [stK];exact iJ (w:=[115,101,110,100]) (by decide)<|.nm2 h1 (fun d e=>by cases e;rfl)<|.sy (by decide) (tQ h2)<|.nm h2 (dK (by decide))<|zU (fun a ha=>.ex (hl a ha) (bW ha hn.2)) (aV (by decide))<|.sy (by decide) (aV (by decide)) (.nl hk)
 | @k7 hd a l ha hl =>
  simp only [iA,Bool.and_eq_true] at hn;have h2:aS hd=true:=by simpa [aT,gT,forms] using hn.1.2
  have h3:=LxI.ex ha (bW (by simp) hn.2);refine .line ?_;rw [kT];simp [stK];exact iJ (w:=[97,102,116,101,114]) (by decide)<|h3.one fR<|.sp<|iJ (w:=[100,111]) (by decide)<|.nm h2 (dK (by decide))<|zU (fun b hb=>.ex (hl b hb) (bW (by simp [hb]) hn.2)) (aV (by decide))<|.sy (by decide) (aV (by decide)) (.nl hk)
 | @k8 a b el ha hb2 =>
  obtain ⟨_,b2⟩:=hb _ _ _ _ _ _ rfl;simp only [iA,Bool.and_eq_true] at hn;have h2:=LxI.ex ha (bW (by simp) hn.2);have h3:=LxI.ex hb2 (bW (by simp) hn.2);have h4:=NH b2 (n:=n) (LxI.kw (w:=[115,116,111,114,101]) (by decide) (h2.eq h3)) hk;rw [aD,kT];simp [stT,stK] at h4 ⊢;exact h4
 | @k9 nm a el ha =>
  obtain ⟨_,b2⟩:=hb _ _ _ _ _ _ rfl;simp only [iA,Bool.and_eq_true] at hn;have h1:aS nm=true:=by simpa [aT,gT,forms] using hn.1.1
  have h2:=LxI.ex ha (bW (by simp) hn.2);have h4:=NH b2 (n:=n) (LxI.kw (w:=[102,101,116,99,104]) (by decide) ((LxI.nm h1).eq h2)) hk;rw [aD,kT];simp [stT,stK] at h4 ⊢;exact h4
 | k10 =>
  refine .line ?_;rw [kT];simp [stK];exact .kw (w:=[115,116,111,112]) (by decide) (dK (by decide))<|.sy (by decide) (aV (by decide)) (.nl hk)
theorem RC (s:Sm):Sm.all jY s=true→Sm.all iA s=true→LxS s:=by
 induction s using Sm.ind with
 | _ kd nm hd ex th el ih1 ih2 =>
  intro h k;rw [eU,Bool.and_eq_true,Bool.and_eq_true] at h k;obtain ⟨⟨h1,h2⟩,h3⟩:=h;obtain ⟨⟨k1,k2⟩,k3⟩:=k;refine UT (xW h1) k1 fun nm' hd' kd' ex' th' el' e=>?_;injection e with _ _ _ _ e1 e2
  subst e1 e2;exact ⟨.of fun s hs=>ih1 s hs (gP hs h2) (gP hs k2),.of fun s hs=>ih2 s hs (gP hs h3) (gP hs k3)⟩
theorem LxB.all {l:List Sm} (h:Sm.alls jY l=true) (k:Sm.alls iA l=true):LxB l:=.of fun s hs=>RC s (gP hs h) (gP hs k)
/-! ### Fleets -/
theorem oT {α:Type} {tx:α→Str} {g:α→List Kt}:∀ (l:List α) (r:Str) (ks:List Kt),(∀ a∈l,∀ r ks,Lx r ks→Lx (tx a++r) (g a++ks))→Lx r ks→Lx ((l.map tx).flatten++r) ((l.map g).flatten++ks)
 | [],r,ks,_,h=>h
 | a::l,r,ks,hl,h=>by
  simp only [List.map_cons,List.flatten_cons,List.append_assoc];exact hl a (List.mem_cons_self ..) _ _ (oT l r ks (fun b hb=>hl b (List.mem_cons_of_mem _ hb)) h)
theorem NG {b:Bool} {r:Str} {ks:List Kt} (hr:jV r) (h:Lx r ks):Lx (sZ b++r) (IJ b::ks):=by
 cases b
 ·exact .kw (w:=[102,97,108,115,101]) (by decide) hr h
 ·exact .kw (w:=[116,114,117,101]) (by decide) hr h
theorem WK {f:Fg} (h:aS f.nm=true) {r:Str} {ks:List Kt} (hk:Lx r ks):Lx (fgT f++r) ((2,[102,108,97,103])::fgK f++ks):=by
 refine .line ?_;simp [fgK];exact iJ (w:=[102,108,97,103]) (by decide)<|.nm h fR<|.sp<|.sy (by decide) (aV (by decide))<|.sp<|NG (dK (by decide))<|.sy (by decide) (aV (by decide)) (.nl hk)
theorem CX {n:Int64} (h:0≤n.toInt):Lib.itoa n.toInt=Lib.decDigits n.toInt.toNat:=by rw [Lib.itoa,if_neg (by omega)]
theorem WI {l:Lk} (h:lkB l=true) (h1:aS l.fr=true) (h2:aS l.to=true) {r:Str} {ks:List Kt} (hk:Lx r ks):Lx (lkT l++r) ((2,[108,105,110,107])::lkK l++ks):=by
 simp only [lkB,Bool.and_eq_true,decide_eq_true_eq] at h;refine .line ?_;rw [CX (by omega)];simp [lkK];exact iJ (w:=[108,105,110,107]) (by decide)<|.nm h1 fR<|.sp<|.to<|.sp<|.nm h2 fR<|.sp<|iJ (w:=[108,97,116,101,110,99,121]) (by decide)<|.nu OP (dK (by decide))<|.sy (by decide) (aV (by decide)) (.nl hk)
theorem UR {n:Int64} {r:Str} {ks:List Kt} (hr:jV r) (h:Lx r ks):Lx (Lib.itoa n.toInt++r) (NW n++ks):=by
 unfold NW
 split
 ·rename_i hn;rw [Lib.itoa,if_pos hn,show n.toInt.natAbs=(-n.toInt).toNat by omega];exact .sy (by decide) MV (.nu (by have:=n.le_toInt;omega) hr h)
 ·rw [CX (by omega)];exact .nu OP hr h
theorem WH {n:Nat} {v:Vr} (h:aS v.nm=true) (hf:gW v=true) {r:Str} {ks:List Kt} (hk:Lx r ks):Lx (vrT n v++r) ((2,[118,97,114])::vrK v++ks):=by
 unfold vrT vrK;unfold gW at hf
 split
 ·refine .line ?_;simp;exact iJ (w:=[118,97,114]) (by decide)<|.nm h (dK (by decide))<|.sy (by decide) (aV (by decide))<|.sp<|iJ (w:=[105,110,116]) (by decide)<|.sy (by decide) (aV (by decide))<|.sp<|UR (dK (by decide))<|.sy (by decide) (aV (by decide)) (.nl hk)
 rename_i h1;rw [if_neg h1] at hf
 split
 ·refine .line ?_;simp;exact iJ (w:=[118,97,114]) (by decide)<|.nm h (dK (by decide))<|.sy (by decide) (aV (by decide))<|.sp<|iJ (w:=[98,111,111,108]) (by decide)<|.sy (by decide) (aV (by decide))<|.sp<|NG (dK (by decide))<|.sy (by decide) (aV (by decide)) (.nl hk)
 rename_i h2;rw [if_neg h2] at hf
 split
 ·refine .line ?_;simp;exact iJ (w:=[118,97,114]) (by decide)<|.nm h (dK (by decide))<|.sy (by decide) (aV (by decide))<|.sp<|.kw (w:=[116,97,98,108,101]) (by decide) (dK (by decide))<|.sy (by decide) (aV (by decide)) (.nl hk)
 ·rename_i h3;rw [if_neg h3] at hf;cases hf
theorem WJ {n:Nat} {h:Hd} (hn:kH h=true) (hf:kY h=true) {r:Str} {ks:List Kt} (hk:Lx r ks):Lx (hdT n h++r) ((2,[111,110])::hdK h++ks):=by
 simp only [kH,Bool.and_eq_true] at hn;obtain ⟨⟨h1,h2⟩,h3⟩:=hn;have hb:=LxB.all hf h3;unfold hdT hdK;simp only [List.append_assoc];refine .line ?_;simp;refine iJ (w:=[111,110]) (by decide)<|.nm h1 (dK (by decide)) ?_
 have h4:=zU (tx:=fun x=>x) (g:=fun p=>[((1,p):Kt)]) (l:=h.ps) (fun a ha=>.nm (List.all_eq_true.1 h2 a ha)) (r:=32::123::10::(Sm.texts (n+1) h.body++(cY n [[125]]++r))) (aV (by decide))<|.sp<|.sy (by decide) (aV (by decide))<|.nl<|hb _ _ _<|nT hk
 simpa using h4
theorem zV {n:Nat} {v:List Hd} (hn:v.all kH=true) (hf:v.all kY=true) {r:Str} {ks:List Kt} (hk:Lx r ks):Lx (qE n v++r) (vsK v++ks) :=
 oT v r ks (fun a ha r ks h=>WJ (List.all_eq_true.1 hn a ha) (List.all_eq_true.1 hf a ha) h) hk
theorem EW {n:Nat} {i:Nat} (w:Str) (hi:Lib.itoa ((i+1:Nat):Int)=w) (hw:w=Lib.decDigits (i+1)) (h0:i≠0) (h9:i≤100) {v:List Hd} (hn:v.all kH=true) (hf:v.all kY=true) {r:Str} {ks:List Kt} (hk:Lx r ks):Lx (vsT n i v++r) (vnK w v++ks):=by
 unfold vsT vnK;rw [if_neg h0,hi];simp only [List.append_assoc];refine .line ?_;simp;have h2:=Lx.nu (u:=i+1) (r:=32::123::10::(qE (n+1) v++(cY n [[125]]++r))) (by omega) fR<|.sp<|.sy (by decide) (aV (by decide))<|.nl<|zV hn hf<|nT hk
 rw [← hw] at h2;exact iJ (w:=[118,101,114,115,105,111,110]) (by decide) (by simpa using h2)
theorem RB {n:Nat} {l:List (List Hd)} (hn:∀ v∈l,v.all kH=true) (hf:∀ v∈l,v.all kY=true) (h1:1≤l.length) (h3:l.length≤3) {r:Str} {ks:List Kt} (hk:Lx r ks):Lx (kW n 0 l++r) (vsK (l.headD [])++(vmK l.tail++ks)):=by
 have e2:Lib.itoa ((1+1:Nat):Int)=[50]:=by decide +kernel
 have e3:Lib.itoa ((2+1:Nat):Int)=[51]:=by decide +kernel
 have d2:[50]=Lib.decDigits (1+1):=by decide +kernel
 have d3:[51]=Lib.decDigits (2+1):=by decide +kernel
 match l,h1,h3 with
 | [v],_,_ =>
  simp only [kW,List.append_nil,vsT,if_true];exact zV (hn v (by simp)) (hf v (by simp)) hk
 | [v,w],_,_ =>
  simp only [kW,List.append_nil,List.append_assoc];rw [vsT,if_pos rfl];exact zV (hn v (by simp)) (hf v (by simp)) (EW _ e2 d2 (by decide) (by decide) (hn w (by simp)) (hf w (by simp)) hk)
 | [v,w,u],_,_ =>
  simp only [kW,List.append_nil,List.append_assoc];rw [vsT,if_pos rfl];have:=EW (n:=n) _ e2 d2 (by decide) (by decide) (hn w (by simp)) (hf w (by simp)) (EW (n:=n) _ e3 d3 (by decide) (by decide) (hn u (by simp)) (hf u (by simp)) hk);refine zV (hn v (by simp)) (hf v (by simp)) ?_;simpa [vmK] using this
theorem WL {c:Cp} (hn:aS c.nm=true) (hv:c.vars.all (fun v=>aS v.nm)=true) (hf:c.vars.all gW=true) (h1:lM kH c=true) (h2:lM kY c=true) (h3:1≤c.vers.length) (h4:c.vers.length≤3) {r:Str} {ks:List Kt} (hk:Lx r ks):Lx (cpT c++r) ((2,[99,111,109,112,111,110,101,110,116])::cpK c++ks):=by
 unfold cpT cpK;simp only [List.append_assoc];refine .line ?_;simp [-List.headD_eq_head?_getD];exact iJ (w:=[99,111,109,112,111,110,101,110,116]) (by decide)<|.nm hn fR<|.sp<|.sy (by decide) (aV (by decide))<|.nl<|oT c.vars _ _ (fun a ha r ks h=>WH (List.all_eq_true.1 hv a ha) (List.all_eq_true.1 hf a ha) h)<|RB (List.all_eq_true.1 h1) (List.all_eq_true.1 h2) h3 h4<|nT hk
theorem GZ {f:Ft} (h:bU f=0):Lx (ftT f) (ftK f):=by
 unfold bU at h
 split at h
 ·cases h
 rename_i h1
 split at h
 ·cases h
 rename_i h3
 split at h
 ·cases h
 rename_i h2;rw [Bool.not_eq_false] at h1 h2 h3;simp only [gY,Bool.and_eq_true] at h1;simp only [lQ,Bool.and_eq_true] at h2;simp only [tB,Bool.and_eq_true] at h3;obtain ⟨_,hs,_⟩:=h1;obtain ⟨⟨hl,hv⟩,hb⟩:=h2;obtain ⟨⟨⟨⟨n1,n2⟩,n3⟩,n4⟩,n5⟩:=h3;rw [nB] at hb n5;unfold ftT ftK;have key:Lx (cY 0 [[125]]) [(4,[125])]:=by have:=nT (n:=0) Lx.nil;rwa [List.append_nil] at this
 simp only [List.append_assoc];refine .line ?_;simp
 refine iJ (w:=[102,108,101,101,116]) (by decide)<|.nm n1 fR<|.sp<|.sy (by decide) (aV (by decide))<|.nl<|oT f.flags _ _ (fun a ha r ks h=>WK (List.all_eq_true.1 n2 a ha) h)<|oT f.links _ _ (fun a ha r ks h=>by have:=List.all_eq_true.1 n3 a ha;rw [Bool.and_eq_true] at this;exact WI (List.all_eq_true.1 hl a ha) this.1 this.2 h)<|oT f.comps _ _ (fun a ha r ks h=>by
  have h3:=List.all_eq_true.1 hs a ha;simp only [jU,Bool.and_eq_true,decide_eq_true_eq] at h3;have h4:=List.all_eq_true.1 n4 a ha;rw [Bool.and_eq_true] at h4;exact WL h4.1 h4.2 (List.all_eq_true.1 hv a ha) (List.all_eq_true.1 n5 a ha) (List.all_eq_true.1 hb a ha) h3.1.1.2 h3.1.2 h) key
theorem xG {f:Ft} (h:bU f=0):(fH (ftT f)).map kt=ftK f:=(GZ h).lex
end Go.Proofs.YthhoebdlfjffkaaGreatDoor
namespace Go.Proofs.YthhoebdlfjffkaaGreatDoor
open Go.RowKit Go.Par Go.Sx
abbrev Bs:=List UInt8
def dU8 (c:UInt8):D:=.val (.int .u8 c.toNat)
def AM (n:Nat):D:=.val (.int .i64 (n:Nat))
def dAr (l:List Nat):D:=.seq 1 (l.map AM)
structure Mk where
 ints:Nat
 tables:Nat
 flags:Nat
 own:Nat
 ars:List (List Nat)
 params:Nat
def aE (b:Bs) (n:Nat):Nat × Bs:=match b with | []=>(0,[]) | c::r=>(c.toNat % n,r)
theorem bX (b:Bs) {n:Nat} (h:0<n):(aE b n).1<n:=by
 cases b with
 | nil=>exact h
 | cons c r=>exact Nat.mod_lt _ h
def nmB (c:UInt8) (k:Nat):Str:=[c,UInt8.ofNat (48+k)]
def jI (c:UInt8) (n:Nat):List Str:=(List.range n).map (nmB c)
theorem CO (c:UInt8) (n:Nat):jI c (n+1)=jI c n++[nmB c n]:=by simp [jI,List.range_succ]
theorem dN (c:UInt8) (n:Nat):(jI c n).length=n:=by simp [jI]
theorem JX {c:UInt8} {n k:Nat} (h:k<n):(jI c n)[k]? = some (nmB c k):=by simp [jI,h]
def lO (M:Mk) (d:Nat) (rec:Bs→Ex × Bs) (k:Nat) (b:Bs):Ex × Bs :=
 if k<2∨(2<d∧5<k) then (.mk 1 [] (Int64.ofNat (aE b 9).1) [],(aE b 9).2)
 else if k<4∨(k=4∧M.params=0) then (.mk 5 (nmB 120 (aE b M.ints).1) 0 [],(aE b M.ints).2)
 else if k=4 then (.mk 5 (nmB 112 (aE b M.params).1) 0 [],(aE b M.params).2)
 else if k=5 then (.mk 4 [] 0 [],b)
 else if k=6∧0<M.tables then (.mk 6 [116,48] 0 [(rec b).1],(rec b).2)
 else if k=7∧0<M.tables then (.mk 8 [116,48] 0 [],b)
 else if k=8 then (.mk 9 [] 0 [(rec b).1],(rec b).2)
 else (.mk (([14,15,11,12,13,14]:List UInt8).getD (aE b 6).1 14) [] 0 [(rec (aE b 6).2).1,(rec (rec (aE b 6).2).2).1],(rec (rec (aE b 6).2).2).2)
def QV (M:Mk) (d:Nat) (rec:Bs→Ex × Bs) (b0:Bs):Ex × Bs:=lO M d rec (aE b0 12).1 (aE b0 12).2
def eW (M:Mk):Nat→Bs→Ex × Bs
 | 0=>QV M 3 fun b=>(.mk 1 [] 0 [],b)
 | f+1=>QV M (2 - f) (eW M f)
def iX (M:Mk):Nat→Bs→List Ex × Bs
 | 0,b=>([],b)
 | n+1,b=>((eW M 2 b).1::(iX M n (eW M 2 b).2).1,(iX M n (eW M 2 b).2).2)
def mU (M:Mk) (d:Nat) (rec:Bs→Ex × Bs) (k:Nat) (b:Bs):Ex × Bs :=
 if k=0 then (.mk (2+UInt8.ofNat (aE b 2).1) [] 0 [],(aE b 2).2)
 else if k=1∨(1<d∧4<k) then (.mk 5 [98,48] 0 [],b)
 else if k=2∧0<M.flags then (.mk 5 (nmB 102 (aE b M.flags).1) 0 [],(aE b M.flags).2)
 else if k=3∧0<M.tables then (.mk 7 [116,48] 0 [(eW M 2 b).1],(eW M 2 b).2)
 else if k=5 then (.mk 10 [] 0 [(rec b).1],(rec b).2)
 else if k=6∨k=7 then (.mk (16+UInt8.ofNat k) [] 0 [(rec b).1,(rec (rec b).2).1],(rec (rec b).2).2)
 else (.mk (16+UInt8.ofNat (aE b 6).1) [] 0 [(eW M 2 (aE b 6).2).1,(eW M 2 (eW M 2 (aE b 6).2).2).1],(eW M 2 (eW M 2 (aE b 6).2).2).2)
def PX (M:Mk) (d:Nat) (rec:Bs→Ex × Bs) (b0:Bs):Ex × Bs:=mU M d rec (aE b0 10).1 (aE b0 10).2
def jT (M:Mk):Nat→Bs→Ex × Bs
 | 0=>PX M 2 fun b=>(.mk 1 [] 0 [],b)
 | f+1=>PX M (1 - f) (jT M f)
def arN (M:Mk) (c h:Nat):Nat:=(M.ars.getD c []).getD h 0
def arL (M:Mk) (c:Nat):Nat:=(M.ars.getD c []).length
def EL (M:Mk) (lf c h:Nat) (b:Bs):Sm × (Bs × Nat):=(.mk 6 [UInt8.ofNat (97+c)] (nmB 104 h) (iX M (arN M c h) b).1 [] [],((iX M (arN M c h) b).2,lf))
def FQ (M:Mk) (lf h:Nat) (e:Ex × Bs):Sm × (Bs × Nat):=(.mk 7 [] (nmB 104 h) (e.1::(iX M (arN M M.own h) e.2).1) [] [],((iX M (arN M M.own h) e.2).2,lf))
def OG (bd:Bs × Nat→List Sm × (Bs × Nat)) (lf x:Nat) (e:Ex × Bs):Sm × (Bs × Nat):=(.mk 9 (nmB 120 x) [] [e.1] [] (bd (e.2,lf)).1,(bd (e.2,lf)).2)
def VN (M:Mk) (lf:Nat) (b:Bs):Sm × (Bs × Nat):=(.mk 1 (nmB 120 (aE b M.ints).1) [] [(eW M 3 (aE b M.ints).2).1] [] [],((eW M 3 (aE b M.ints).2).2,lf))
def cN (M:Mk) (k d:Nat) (bd:Bs × Nat→List Sm × (Bs × Nat)) (b:Bs) (lf:Nat):Sm × (Bs × Nat) :=
 if k=2 then (.mk 1 [98,48] [] [(jT M 2 b).1] [] [],((jT M 2 b).2,lf))
 else if k=3∧0<M.tables then (.mk 2 [116,48] [] [(eW M 3 b).1,(eW M 3 (eW M 3 b).2).1] [] [],((eW M 3 (eW M 3 b).2).2,lf))
 else if k=4∧0<M.tables then (.mk 3 [116,48] [] [(eW M 3 b).1] [] [],((eW M 3 b).2,lf))
 else if (k=5∨k=6)∧d<3 then
  (.mk 4 [] [] [(jT M 2 b).1] (bd ((jT M 2 b).2,lf)).1 (bd (bd ((jT M 2 b).2,lf)).2).1,(bd (bd ((jT M 2 b).2,lf)).2).2)
 else if k=7∧d<2 then (.mk 5 [] [] [(jT M 2 b).1] (bd ((jT M 2 b).2,lf)).1 [],(bd ((jT M 2 b).2,lf)).2)
 else if k=8∨k=9 then EL M lf (aE b M.ars.length).1 (aE (aE b M.ars.length).2 (arL M (aE b M.ars.length).1)).1 (aE (aE b M.ars.length).2 (arL M (aE b M.ars.length).1)).2
 else if k=10 then FQ M lf (aE b (arL M M.own)).1 (eW M 2 (aE b (arL M M.own)).2)
 else if k=11∧d<3 then
  if (aE b 2).1=0 then (.mk 8 [] [] (iX M 2 (aE b 2).2).1 [] (bd ((iX M 2 (aE b 2).2).2,lf)).1,(bd ((iX M 2 (aE b 2).2).2,lf)).2)
  else OG bd lf (aE (aE b 2).2 M.ints).1 (eW M 3 (aE (aE b 2).2 M.ints).2)
 else if k=12∧(aE b 3).1=0 then (.mk 10 [] [] [] [] [],((aE b 3).2,lf))
 else VN M lf (if k=12 then (aE b 3).2 else b)
def jZ (st:Nat→Bs→Nat→Sm × (Bs × Nat)):Nat→Bs × Nat→List Sm × (Bs × Nat)
 | 0,x=>([],x)
 | f+1,(b,lf) =>
  if b=[]∨lf=0 then ([],(b,lf))
  else if (aE b 14).1=13 then ([],((aE b 14).2,lf))
  else ((st (aE b 14).1 (aE b 14).2 (lf - 1)).1::(jZ st f (st (aE b 14).1 (aE b 14).2 (lf - 1)).2).1,(jZ st f (st (aE b 14).1 (aE b 14).2 (lf - 1)).2).2)
def sG (M:Mk):Nat→Bs × Nat→List Sm × (Bs × Nat)
 | 0=>jZ (fun k=>cN M k 3 fun x=>([],x)) 13
 | f+1=>jZ (fun k=>cN M k (2 - f) (sG M f)) 13
structure Cd where
 ps:UInt8
 bytes:Bs
def dCd (c:Cd):D:=.str [.val (.int .u8 c.ps.toNat),.seq 1 (c.bytes.map dU8)]
theorem AP {H:Hp} {x:Cd} {cs:List Value} (h:Rep H (dCd x) cs):∃ p c,cs=[.int .u8 x.ps.toNat,.slice p x.bytes.length c]∧Rep H (.seq 1 (x.bytes.map dU8)) [.slice p x.bytes.length c]:=by
 rw [dCd,jW] at h;obtain ⟨_,rfl,_,_,h⟩:=aQ.1 h;obtain ⟨p,c,_,rfl,hs,h⟩:=eT.1 h;rw [dE] at h;subst h;rw [List.length_map] at hs ⊢;exact ⟨p,c,rfl,hs⟩
def Mk.at (M:Mk) (k:Nat):Mk:={ M with params:=arN M M.own k }
def hdS (M:Mk) (k:Nat) (c:Cd):Hd:=⟨nmB 104 k,jI 112 (arN M M.own k),(sG (M.at k) 3 (c.bytes.take 40,12)).1⟩
def kI (M:Mk):Nat→List Cd→List Hd
 | _,[]=>[]
 | k,c::r=>hdS M k c::kI M (k+1) r
theorem DC (M:Mk):∀ (a:List Cd) (k:Nat) (b:List Cd),kI M k (a++b)=kI M k a++kI M (k+a.length) b
 | [],k,b=>by simp [kI]
 | c::r,k,b=>by
  simp only [List.cons_append,kI,DC M r (k+1) b,List.length_cons];rw [show k+1+r.length=k+(r.length+1) by omega]
theorem KG {M:Mk} {l:List Cd} {k:Nat} (h:k<l.length):kI M 0 (l.take (k+1))=kI M 0 (l.take k)++[hdS M k l[k]]:=by
 rw [bK h,DC,List.length_take,Nat.min_eq_left (by omega)];simp [kI]
theorem jQ (M:Mk):∀ (l:List Cd) (k:Nat),(kI M k l).length=l.length
 | [],_=>rfl
 | c::r,k=>by simp [kI,jQ M r (k+1)]
structure Prt where
 ints:UInt8
 tables:UInt8
 hs:List Cd
 sec:List Cd
structure Pln where
 flags:UInt8
 links:Bs
 comps:List Prt
def tF (x:Prt):D:=.str [.val (.int .u8 x.ints.toNat),.val (.int .u8 x.tables.toNat),.seq 2 (x.hs.map dCd),.seq 2 (x.sec.map dCd)]
def FH (x:Pln):D:=.str [.val (.int .u8 x.flags.toNat),.seq 1 (x.links.map dU8),.seq 4 (x.comps.map tF)]
section
variable {H:Hp}
theorem BX {x:Prt} {cs:List Value} (h:Rep H (tF x) cs):∃ p1 c1 p2 c2,cs=[.int .u8 x.ints.toNat,.int .u8 x.tables.toNat,.slice p1 x.hs.length c1,.slice p2 x.sec.length c2]∧Rep H (.seq 2 (x.hs.map dCd)) [.slice p1 x.hs.length c1]∧Rep H (.seq 2 (x.sec.map dCd)) [.slice p2 x.sec.length c2]:=by
 rw [tF,jW] at h;obtain ⟨_,rfl,_,_,h⟩:=aQ.1 h;obtain ⟨_,rfl,_,_,h⟩:=aQ.1 h;obtain ⟨p1,c1,_,rfl,k1,h⟩:=eT.1 h;obtain ⟨p2,c2,_,rfl,k2,h⟩:=eT.1 h;rw [dE] at h;subst h;exact ⟨p1,c1,p2,c2,by simp,(by simpa using k1),(by simpa using k2)⟩
theorem MM {x:Prt} {s1 s2:Value} (k1:Rep H (.seq 2 (x.hs.map dCd)) [s1]) (k2:Rep H (.seq 2 (x.sec.map dCd)) [s2]):Rep H (tF x) [.int .u8 x.ints.toNat,.int .u8 x.tables.toNat,s1,s2]:=by
 rw [tF,jW];exact aQ.2 ⟨_,rfl,rfl,trivial,aQ.2 ⟨_,rfl,rfl,trivial,dW.2 ⟨[s1],_,rfl,k1,dW.2 ⟨[s2],_,rfl,k2,dE.2 rfl⟩⟩⟩⟩
theorem SF {x:Cd} {s:Value} (k:Rep H (.seq 1 (x.bytes.map dU8)) [s]):Rep H (dCd x) [.int .u8 x.ps.toNat,s]:=by
 rw [dCd,jW];exact aQ.2 ⟨_,rfl,rfl,trivial,dW.2 ⟨[s],_,rfl,k,dE.2 rfl⟩⟩
theorem vI {x:Pln} {cs:List Value} (h:Rep H (FH x) cs):∃ p1 c1 p2 c2,cs=[.int .u8 x.flags.toNat,.slice p1 x.links.length c1,.slice p2 x.comps.length c2]∧Rep H (.seq 1 (x.links.map dU8)) [.slice p1 x.links.length c1]∧Rep H (.seq 4 (x.comps.map tF)) [.slice p2 x.comps.length c2]:=by
 rw [FH,jW] at h;obtain ⟨_,rfl,_,_,h⟩:=aQ.1 h;obtain ⟨p1,c1,_,rfl,k1,h⟩:=eT.1 h;obtain ⟨p2,c2,_,rfl,k2,h⟩:=eT.1 h;rw [dE] at h;subst h;exact ⟨p1,c1,p2,c2,by simp,(by simpa using k1),(by simpa using k2)⟩
end
def arK (x:Prt) (k:Nat):List Nat :=
 if h:k<x.hs.length then [x.hs[k].ps.toNat % 3] else if k=0 then [1] else if h:k<x.sec.length then [x.sec[k].ps.toNat % 3] else []
def xB (x:Prt) (m:Nat):List Nat:=(List.range m).flatMap (arK x)
def arP (x:Prt):List Nat:=xB x 3
theorem iH (x:Prt) (m:Nat):xB x (m+1)=xB x m++arK x m:=by simp [xB,List.range_succ]
theorem VO (x:Prt) (k:Nat):(arK x k).length≤1:=by
 unfold arK;split
 ·simp
 ·split
  ·simp
  ·split <;> simp
theorem wQ (x:Prt):∀ m,(xB x m).length≤m
 | 0=>by simp [xB]
 | m+1=>by
  rw [iH,List.length_append];have:=wQ x m;have:=VO x m;omega
theorem SI {x:Prt} {k n:Nat} (h:n∈arK x k):n≤2:=by
 unfold arK at h
 split at h
 ·simp at h;omega
 ·split at h
  ·simp at h;omega
  ·split at h
   ·simp at h;omega
   ·simp at h
theorem IA {x:Prt} {n:Nat} (h:n∈arP x):n≤2:=by
 obtain ⟨k,_,hk⟩:=List.mem_flatMap.1 h;exact SI hk
theorem uC (x:Prt):(arP x).length=max 1 (max (min x.hs.length 3) (min x.sec.length 3)):=by
 have e:arP x=arK x 0++(arK x 1++arK x 2):=by simp [arP,xB,List.range_succ]
 have key:∀ k,(arK x k).length=if k<x.hs.length∨k=0∨k<x.sec.length then 1 else 0:=by
  intro k;unfold arK
  by_cases h1:k<x.hs.length
  ·rw [dif_pos h1,if_pos (.inl h1)];rfl
  ·rw [dif_neg h1]
   by_cases h2:k=0
   ·rw [if_pos h2,if_pos (.inr (.inl h2))];rfl
   ·rw [if_neg h2]
    by_cases h3:k<x.sec.length
    ·rw [dif_pos h3,if_pos (.inr (.inr h3))];rfl
    ·rw [dif_neg h3,if_neg (by omega)];rfl
 rw [e,List.length_append,List.length_append,key,key,key];rw [if_pos (.inr (.inl rfl))]
 split <;> split <;> omega
def aR (p:Pln):List Prt:=if p.comps.length=0 then [⟨0,0,[],[]⟩] else p.comps.take 3
theorem oP (p:Pln):0<(aR p).length∧(aR p).length≤3:=by
 unfold aR
 split
 ·simp
 ·simp only [List.length_take];omega
def iY (k:Nat):Str:=[UInt8.ofNat (97+k)]
def KJ (c:UInt8) (k:Nat):Fg:=⟨nmB 102 k,decide (((c.toNat / 2 ^ (4+k) % 2:Nat):Int)=1)⟩
def rD (c:UInt8) (n:Nat):List Fg:=(List.range n).map (KJ c)
theorem FC (c:UInt8) (n:Nat):rD c (n+1)=rD c n++[KJ c n]:=by simp [rD,List.range_succ]
theorem rY (c:UInt8) (n:Nat):(rD c n).length=n:=by simp [rD]
def zW (n:Nat) (l:Bs) (k:Nat):List Lk:=if 0<(l.getD k 0).toNat % 4 then [⟨iY (k / n),iY (k % n),Int64.ofNat ((l.getD k 0).toNat % 4)⟩] else []
def mK (n:Nat) (l:Bs) (m:Nat):List Lk:=(List.range m).flatMap (zW n l)
theorem kR (n:Nat) (l:Bs) (m:Nat):mK n l (m+1)=mK n l m++zW n l m:=by simp [mK,List.range_succ]
theorem oU (n:Nat) (l:Bs):∀ m,(mK n l m).length≤m
 | 0=>by simp [mK]
 | m+1=>by
  rw [kR,List.length_append];have:=oU n l m;have:(zW n l m).length≤1:=by unfold zW;split <;> simp
  omega
def fU (x:Prt):Nat:=1+x.ints.toNat % 3
def iS (x:Prt):Nat:=x.tables.toNat % 2
def vrI (k:Nat):Vr:=⟨nmB 120 k,1,Int64.ofNat k⟩
def PU (k:Nat):Vr:=⟨nmB 116 k,3,0⟩
def yV (n:Nat):List Vr:=(List.range n).map vrI
def yU (n:Nat):List Vr:=(List.range n).map PU
theorem IH (n:Nat):yV (n+1)=yV n++[vrI n]:=by simp [yV,List.range_succ]
theorem IG (n:Nat):yU (n+1)=yU n++[PU n]:=by simp [yU,List.range_succ]
def vrB:Vr:=⟨[98,48],2,0⟩
def sK (x:Prt):List Vr:=yV (fU x)++[vrB]++yU (iS x)
theorem uM (n:Nat):(yV n).length=n:=by simp [yV]
theorem uL (n:Nat):(yU n).length=n:=by simp [yU]
def mkP (ars:List (List Nat)) (nf i:Nat) (x:Prt):Mk:={ ints:=fU x,tables:=iS x,flags:=nf,own:=i,ars:=ars,params:=0 }
def wX (x:Prt):List Cd:=if x.hs.length=0 then [⟨1,[]⟩] else x.hs.take 3
def lT (M:Mk) (x:Prt):List (List Hd):=kI M 0 (wX x)::(if 0<x.sec.length then [kI M 0 (x.sec.take 3)] else [])
def AO (ars:List (List Nat)) (nf i:Nat) (x:Prt):Cp:=⟨iY i,sK x,lT (mkP ars nf i x) x⟩
def pY (ars:List (List Nat)) (nf:Nat) (l:List Prt):List Cp:=l.mapIdx (fun i x=>AO ars nf i x)
theorem FI {ars:List (List Nat)} {nf:Nat} {l:List Prt} {k:Nat} (h:k<l.length):pY ars nf (l.take (k+1))=pY ars nf (l.take k)++[AO ars nf k l[k]]:=by
 unfold pY;rw [bK h,List.mapIdx_append];simp [Nat.min_eq_left (Nat.le_of_lt h)]
theorem pD (ars:List (List Nat)) (nf:Nat) (l:List Prt):(pY ars nf l).length=l.length:=by simp [pY]
def mY:Str:=[102,108,101,101,116,49]
def fN (p:Pln):List (List Nat):=(aR p).map arP
def bD (p:Pln):Ft :=
 ⟨mY,rD p.flags (p.flags.toNat % 3),mK (aR p).length p.links (min p.links.length ((aR p).length * (aR p).length)),pY (fN p) (p.flags.toNat % 3) (aR p)⟩
theorem Fx.agg25:dF Tryz.prog 25=some none:=by kernel_rfl
theorem Fx.agg27:dF Tryz.prog 27=some (some 4):=by kernel_rfl
theorem Fx.call29:aM Tryz.prog 29=Bool.true:=by kernel_rfl
theorem Fx.field27_3:aN Tryz.prog 27 3=some 3:=by kernel_rfl
theorem Fx.sl25:slN Tryz.prog 25=some 4:=by kernel_rfl
theorem pW (e:Ex):∀ (H:Hp) (cs:List Value) (w:World),Rep H (dEx .u8 e) cs→e.depth≤1000000→Agr H w →
 Calls Tryz.prog 29 #[.agg cs.toArray] w fun r w'=>r=.returned (.int .i64 (e.depth:Nat))∧Ext w w':=by
 induction e using Ex.ind with | _ op nm nn args ih
 intro H cs w h he hA;rw [fW] at he;obtain ⟨p,c,rfl,hs,hnm⟩:=bZ h;have hcap:=hs.cap;refine Sx.enter (H:=H) Tryz.func29 rfl Tryz.ntmps29 rfl hA ?_;refine .sr<|.bx Z Z Z fun b1=>.a Z Z<|.ns<|.a Z Z<|.nt<|.sq<|.sr<|.yw (.fieldAddr Z Fx.field27_3)<|.yw (.load Z Fx.agg25 (.head _) Z)<|.yw (.lenSl Fx.sl25 Z)<|.mv Z<|.nt<|.bk<|.lp (X:=Nat) [(1,_),(7,_)] ⟨rfl,rfl,trivial⟩ [_] (fun k=>[(3,.int .i64 (Ex.deeps (args.take k):Nat)),(8,.int .i64 (k:Nat))]) (fun k=>H) (fun k=>[]) (fun k=>k≤args.length) (fun k=>args.length - k) 0 (fun _ s=>s) ⟨rfl,rfl,trivial⟩ (by omega) fun k hC=>?_
 refine .sr<|.yw (.lss Z Z)<|.nt<|.sq<|.cd Z (fun h9=>?_) (fun h9=>?_)
 ·try simp only [dt] at h9
  have hk:k<args.length:=by omega
  obtain ⟨b5,o5,c5,hp5,r5,l5,m5⟩:=hs.elem (bB hk);cases hp5;have h1:=FF args k;have h2:=OO hk;have h3:=FG hk;exact .sk<|.tN<|.sq<|.bk<|.sr<|.mv Z<|.a Z Z<|.nt<|.rg<|.mv Z<|.yw (.fieldAddr Z Fx.field27_3)<|.yw (.load Z Fx.agg25 (.head _) Z)<|.mv Z<|.yw (.indexSl Fx.sl25 Z Z Z (by omega) (q:=o5+k * 4) Z)<|.yw (.loadMW Z Fx.agg27 m5 l5)<|.yw (.call Fx.call29 Z (fun W s=>ih _ (List.getElem_mem hk) H c5 W r5 (by omega) s.agr))<|.yw (.max2 Z Z (c:=((Ex.deeps (args.take (k+1)):Nat):Int)) (by omega))<|.a Z Z<|.nl<|.bN<|.tN<|.rg<|.yw (.add Z Z (w6 (by omega)))<|.mv Z<|.nt<|.ag (k+1) ⟨rfl,rfl,trivial⟩ ⟨rfl,rfl,trivial⟩ (fun _ s=>s) (by omega) (by omega)
 try simp only [df] at h9
 obtain rfl:k=args.length:=by omega
 rw [List.take_length];refine .ex<|.tE<|.tE<|.bE<|.tN<|.sr<|.mv Z<|.yw (.add Z Z (w6 (by omega)))<|.a Z Z<|.nt<|.rt<|?_
 exact Sx.ret1 (.inl rfl) rfl (.tmp rfl) fun W s=>⟨by rw [fW];rfl,s.ext⟩
theorem Fx.agg242:dF Tryz.prog 242=some (some 39):=by kernel_rfl
theorem Fx.are242:SG Tryz.prog 242=Bool.true:=by kernel_rfl
theorem Fx.arr242:AU Tryz.prog 242=some (39,1):=by kernel_rfl
theorem Fx.call114:aM Tryz.prog 114=Bool.true:=by kernel_rfl
theorem Fx.call117:aM Tryz.prog 117=Bool.true:=by kernel_rfl
theorem Fx.call145:aM Tryz.prog 145=Bool.true:=by kernel_rfl
theorem Fx.str9:lJ Tryz.prog 9=Bool.true:=by kernel_rfl
end Go.Proofs.YthhoebdlfjffkaaGreatDoor
