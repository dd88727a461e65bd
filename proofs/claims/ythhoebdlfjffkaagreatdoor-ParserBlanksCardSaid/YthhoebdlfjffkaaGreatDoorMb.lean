/- Texts of the proof, one behind the other. -/
import Derived.Test.YthhoebdlfjffkaaGreatDoorMa
import Derived.Lib.Builder
import Derived.Lib.AppendStr
import Derived.Lib.UnsafeStr
import Derived.Lib.ItoaNum
import Derived.Lib.Join
import Derived.Lib.ItoaLen
import Derived.Lib.ParseIntB
import Derived.Lib.ParseIntBCases
import Derived.Lib.IndexMore
import Derived.Test.YthhoebdlfjffkaaGreatDoorProg
set_option linter.all false
set_option maxRecDepth 100000
/- Pointers, strings appended to bytes, and unsafe strings: what a strings.Builder inside an own box meets. -/
namespace Go.Sx
open Go.RowKit Go.Par
section
variable {dfs:List Deferred} {P:Program} {n:Nat} {L:Sl} {H:Hp} {w0:World} {bs:List Res} {Q:Exit→Act→World→Prop} {ops:Array Oper} {rest:List Oper} {K:Act→World→Prop}
variable {d:Option Tmp} {ty:TypeId} {pos:String} {aft:Array Edge} {g:Option (Nat × Bool)} {v:Value} {t:Tmp} {op:Op} {x y z:Operand} {T T':TypeId}
def NE (P:Program) (T:TypeId):Option TypeId:=match P.underlying T with | some (.pointer e)=>if (P.info? e).isSome then some e else none | _=>none
theorem yD {e:TypeId} (h:NE P T=some e):P.underlying T=some (.pointer e)∧∃ j,P.info? e=some j:=by
 unfold NE at h;cases hu:P.underlying T with
 | none=>rw [hu] at h;cases h
 | some q =>
  rw [hu] at h;cases q <;> simp only [reduceCtorEq] at h;rename_i e'
  split at h
  ·rename_i hi;cases h;exact ⟨rfl,Option.isSome_iff_exists.1 hi⟩
  ·cases h
theorem Yl.neqP {e:TypeId} {a:Addr} (hT:NE P T=some e) (hx:ev L x=some (.pointer (some a))) (hy:ev L y=some (.pointer (some a))):Yl P L H w0 bs ⟨d,.binOp .neq T x y T',ty,pos,aft,g⟩ (.bool false):=.of_run fun ac W f _=>by
 obtain ⟨hp,j,hj⟩:=yD hT;have h:=Lib.run_neq_ptr_same (P:=P) W a hp hj;unfold execOp;simp [f x _ hx,f y _ hy,Sem.run_bind,eqGuard,Sem.run_pure,Result.andThen,h]
theorem Yl.eqPn {e:TypeId} {p:Option Addr} (hT:NE P T=some e) (hx:ev L x=some (.pointer p)) (hy:ev L y=some (.pointer none)):Yl P L H w0 bs ⟨d,.binOp .eql T x y T',ty,pos,aft,g⟩ (.bool p.isNone):=.of_run fun ac W f _=>by
 obtain ⟨hp,j,hj⟩:=yD hT
 have h:∀ q:Nat,(Op.equalIn (q+1) T (.pointer p) (.pointer none)).run P W=.ok p.isNone W:=fun q=>by
  cases p <;> simp [Op.equalIn,run_underlying hp]
 unfold execOp;simp [f x _ hx,f y _ hy,Sem.run_bind,eqGuard,Sem.run_pure,Result.andThen,binOp,Op.equal,Op.maxDepth,h 9999]
theorem Yl.ext {f:FuncId} {xs:List Operand} {vs:List Value} {ats:Array TypeId} (hv:evs L xs=some vs) (h:∀ W,(callFunc f vs.toArray).run P W=.ok (.value v) W):Yl P L H w0 bs ⟨d,.call ⟨.value (.func f),xs.toArray,ats⟩,ty,pos,aft,g⟩ v:=.of_run fun a W f0 s=>by
 have hm:=nJ f0 hv;have:(#[]:Array Value)=[].toArray:=rfl;unfold execOp;simp only [resolve,Act.eval,Deferred.ofValue,Sem.run_bind,Sem.run_pure,Result.andThen,invoke,List.map_toArray,hm,this,List.append_toArray,List.nil_append,List.append_nil,h]
def MA (P:Program) (T:TypeId):Bool:=match P.underlying T with | some .unsafePointer=>true | _=>false
theorem xT (h:MA P T=true):P.underlying T=some .unsafePointer:=by
 unfold MA at h;cases hu:P.underlying T with
 | none=>rw [hu] at h;cases h
 | some q=>rw [hu] at h;cases q <;> simp_all
def FC (P:Program) (T:TypeId):Option (TypeId × Nat):=match P.underlying T with | some (.pointer e)=>(P.info? e).map fun j=>(e,j.size) | _=>none
theorem sG {e:TypeId} {m:Nat} (h:FC P T=some (e,m)):P.underlying T=some (.pointer e)∧∃ j,P.info? e=some j∧j.size=m:=by
 unfold FC at h;cases hu:P.underlying T with
 | none=>rw [hu] at h;cases h
 | some q =>
  rw [hu] at h;cases q <;> simp only [reduceCtorEq] at h;rename_i e';obtain ⟨j,hj,h2⟩:=Option.map_eq_some_iff.1 h;injection h2 with h3 h4
  subst h3 h4;exact ⟨rfl,j,hj,rfl⟩
theorem St.shape {W:World} {b:Nat} {l:List Value} {t':TypeId} (s:St H w0 bs W) (hm:Res.box b l t'∈bs):W.shape? b=some (t',l.length):=by
 have hb:=(s.own _ hm).1.2;simp [World.shape?,hb]
theorem Yl.toU {e:TypeId} {m b:Nat} {l:List Value} {t':TypeId} (hT:FC P T=some (e,m+1)) (hT':MA P T'=true) (hm:Res.box b l t'∈bs) (hl:0<l.length) (hx:ev L x=some (.pointer (some ⟨b,0,none⟩))):Yl P L H w0 bs ⟨d,.convert T T' x,ty,pos,aft,g⟩ (.pointer (some ⟨b,0,none⟩)):=.of_run fun ac W f s=>by
 obtain ⟨hp,j,hj,hjs⟩:=sG hT;have h:=Lib.run_to_unsafe (P:=P) W ⟨b,0,none⟩ hp (xT hT') hj (by omega) (s.shape hm) hl;unfold execOp;simp only [f x _ hx,Sem.run_bind,h,Result.andThen,Sem.run_pure]
theorem Yl.fromU {e:TypeId} {m b:Nat} {l:List Value} {t':TypeId} (hT:MA P T=true) (hT':FC P T'=some (e,m)) (hm:Res.box b l t'∈bs) (hlies:liesAt P P.depth t' (l.length / P.cellsOf t') 0 e 1=true) (hx:ev L x=some (.pointer (some ⟨b,0,none⟩))):Yl P L H w0 bs ⟨d,.convert T T' x,ty,pos,aft,g⟩ (.pointer (some ⟨b,0,none⟩)):=.of_run fun ac W f s=>by
 obtain ⟨hp,j,hj,hjs⟩:=sG hT';have h:=Lib.run_from_unsafe (P:=P) W ⟨b,0,none⟩ (xT hT) hp hj (s.shape hm) hlies;unfold execOp;simp only [f x _ hx,Sem.run_bind,h,Result.andThen,Sem.run_pure]
theorem CA (l:List UInt8):Lib.strCells ⟨l.toArray⟩=l.map dK:=by simp [Lib.strCells,dK]
def IQ (P:Program) (T:TypeId):Option TypeId:=match P.underlying T with | some (.slice e)=>(P.info? e).bind fun i=>(match i.zero with | some (.int .u8 0)=>if i.size=1∧i.bytes=1 then some e else none | _=>none) | _=>none
theorem GB {e:TypeId} (h:IQ P T=some e):P.underlying T=some (.slice e)∧∃ i,P.info? e=some i∧i.zero=some (.int .u8 0)∧i.size=1∧i.bytes=1:=by
 unfold IQ at h;cases hu:P.underlying T with
 | none=>rw [hu] at h;cases h
 | some q =>
  rw [hu] at h;cases q <;> simp only [reduceCtorEq] at h;rename_i e';obtain ⟨i,hi,h2⟩:=Option.bind_eq_some_iff.1 h
  split at h2
  ·rename_i hz
   split at h2
   ·rename_i hs;cases h2;exact ⟨rfl,i,hi,hz,hs.1,hs.2⟩
   ·cases h2
  ·cases h2
theorem At.as {e T2:TypeId} {k:Nat} {r:Value} {l s0:List UInt8} {bs':Value→List Res} (hT:IQ P T=some e) (hT2:lQ P T2=true) (hx:ev L x=some r) (hm:∀ r',Upd bs (.row e 1 r k (l.map dK)) (.row e 1 r' (k+s0.length) ((l++s0).map dK)) (bs' r'))
 (hy:ev L y=some (.string ⟨s0.toArray⟩)) (hb:k+s0.length≤140737488355328) (ht:Nat.blt t n=true)
 (h:∀ r',At dfs n ((t,r')::L) H w0 (bs' r') (wpList P ops Q rest)):At dfs n L H w0 bs (wpList P ops Q (⟨some t,.call ⟨.builtin .append,#[x,y],#[T,T2]⟩,ty,pos,aft,none⟩::rest)):=by
 obtain ⟨hu,i,hi,hz,hs1,hby⟩:=GB hT;refine cons ?_;intro a W f s;have hown:W.ownsRow w0.heap.size e 1 r k (l.map dK):=(s.own _ (hm r).mem).1;have hsz:(⟨s0.toArray⟩:ByteArray).size=s0.length:=qW s0;obtain ⟨v',W',hr,ho,hg,hnil⟩:=Lib.run_append_own_string (P:=P) W w0.heap.size T T2 ty e i hu (iV hT2) hi hz hs1 hby r k (l.map dK) hown ⟨s0.toArray⟩ (by rw [hsz];simp only [maxLen];omega) (by rw [hsz];exact hb) s.ext.size;rw [CA,← List.map_append,hsz] at ho
 have hblk:∀ q,v'.ownBlock=some q→r.ownBlock=some q∨W.heap.size≤q:=by
  have hus:=iV hT2;rcases hown.2 with ⟨rfl,rfl⟩ | ⟨g,cap,cur,rfl,hbg,hgc,hnc,hcm,hcs,htake⟩
  ·intro q hq
   by_cases hm0:s0.length=0
   ·rw [hnil.2 ⟨rfl,by rw [hsz];exact hm0⟩] at hq;cases hq
   ·have h2:=run_append_nil_string (P:=P) W T T2 ty e i (.int .u8 0) hu hus hi hz ⟨s0.toArray⟩ (by omega) (by omega) (by rw [hby,hsz];omega);rw [h2] at hr;injection hr with e1 e2
    rw [← e1] at hq
    right
    have:=Option.some.inj hq;simp at this;omega
  ·intro q hq
   by_cases hroom:k+s0.length≤cap
   ·have hcs':cur.size=cap:=by simpa using hcs
    have h2:=Lib.run_append_room_string (P:=P) W T T2 ty e i hu hus hi hs1 g k cap cur hgc ⟨s0.toArray⟩ (by rw [hsz];exact hroom) (by rw [hsz];omega);rw [h2] at hr;injection hr with e1 e2
    rw [← e1] at hq;exact .inl hq
   ·have h2:=Lib.run_append_grow_string (P:=P) W T T2 ty e i (.int .u8 0) hu hus hi hz ⟨g,0,none⟩ k cap (l.map dK) (by rw [hs1];exact hown.1) (World.ownsRow.cells hown (g:=g) rfl) ⟨s0.toArray⟩ (by omega) (by omega) (by rw [hby,hsz];exact growslice_fits (by omega) (by omega));rw [h2] at hr;injection hr with e1 e2
    rw [← e1] at hq
    right
    have:=Option.some.inj hq;simp at this;omega
 refine dT rfl ?_;unfold Oper.wp execOp;simp only [resolve,invoke,builtin,Sem.run_bind,Sem.run_pure,Result.andThen_ok,List.map_toArray,List.map_cons,List.map_nil,f.ev hx,f.ev hy,hr];refine h v' _ _ (f.put ht _) ?_;have hlt:∀ q,r.ownBlock=some q→w0.heap.size≤q:=fun q hq=>(World.ownsRow.lt hown q hq).1;refine s.upd (hm v') ?_ hg.size (fun q hq hn=>hg.block q hq (fun e=>hn e.symm)) ho hblk;refine Ext.of_below ⟨hg.os.trans s.ext.below.os,hg.tape.trans s.ext.below.tape,hg.output.trans s.ext.below.output,Nat.le_trans s.ext.below.size hg.size,fun q hq=>?_⟩;rw [hg.block q (Nat.lt_of_lt_of_le hq s.ext.size) (fun e=>by have:=hlt q e.symm;omega)];exact s.ext.below.block q hq
theorem Yl.sliceData {b m c:Nat} {ts:Array TypeId} (hc:c≠0) (hx:ev L x=some (.slice (some ⟨b,0,none⟩) m c)):Yl P L H w0 bs ⟨d,.call ⟨.builtin .unsafeSliceData,#[x],ts⟩,ty,pos,aft,g⟩ (.pointer (some ⟨b,0,none⟩)):=.of_run fun ac W f _=>by
 have h1:(Builtin.unsafeSliceData_ ts ty #[.slice (some ⟨b,0,none⟩) m c]).run P W=.ok (.pointer (some ⟨b,0,none⟩)) W:=by
  have e:Builtin.unsafeSliceData_ ts ty #[.slice (some ⟨b,0,none⟩) m c]=(if c≠0 then pure (.pointer (some ⟨b,0,none⟩)) else do
   if (← viewAt b).isSome then pure (.pointer (some ⟨b,0,none⟩)) else pure (.pointer (some ⟨← newObj (.view ⟨b,0,none⟩ (← elemOf ty)),0,none⟩))):=rfl
  rw [e,if_pos hc];simp
 unfold execOp;simp only [f x _ hx,resolve,invoke,builtin,Sem.run_bind,Sem.run_pure,Result.andThen_ok,List.map_toArray,List.map_cons,List.map_nil,h1]
theorem At.us {e pt it:TypeId} {b c k:Nat} {l:List UInt8} {z:Int} (hp:FC P pt=some (e,k)) (hc1:P.cellsOf e=1) (hm:Res.row e 1 (.slice (some ⟨b,0,none⟩) l.length c) l.length (l.map dK)∈bs) (h0:l≠[]) (h63:l.length≤9223372036854775807) (hx:ev L x=some (.pointer (some ⟨b,0,none⟩))) (hy:ev L y=some (.int .i64 z)) (hz:z=(l.length:Nat)) (ht:Nat.blt t n=true)
 (h:At dfs n ((t,.string ⟨l.toArray⟩)::L) H w0 [] (wpList P ops Q rest)):At dfs n L H w0 bs (wpList P ops Q (⟨some t,.call ⟨.builtin .unsafeString,#[x,y],#[pt,it]⟩,ty,pos,aft,none⟩::rest)):=by
 subst hz;refine cons ?_;intro a W f s;obtain ⟨hu,j,hj,hjs⟩:=sG hp;have hown:=(s.own _ hm).1;have hH:=(s.own _ hm).2 b rfl;obtain ⟨_,⟨h1,_⟩ | ⟨g,cap,cur,e1,hg,hc,hn,hcm,hcs,htk⟩⟩:=hown
 ·cases h1
 injection e1 with e2 e3 e4
 obtain rfl:b=g:=by injection (Option.some.inj e2)
 have hcells:=World.ownsRow.cells (s.own _ hm).1 (g:=b) rfl;have hcs':cur.size=cap:=by simpa using hcs
 have hr:=Lib.run_unsafeString_row (P:=P) W pt it ty e hu hc1 b cur.size (by simp [World.shape?,hc]) l h0 (by omega) h63 (fun q u hq=>hcells q _ (by rw [List.getElem?_map,hq];rfl));have hl0:l.length≠0:=by simpa using h0
 refine dT rfl ?_;unfold Oper.wp execOp;simp only [resolve,invoke,builtin,Sem.run_bind,Sem.run_pure,Result.andThen_ok,List.map_toArray,List.map_cons,List.map_nil,f.ev hx,f.ev hy,hr];refine h _ _ (f.put ht _) ?_
 have hk:∀ q,q≠b→(W.freeze ⟨b,0,none⟩ l.length).heap[q]? = W.heap[q]? := fun q hq=>by
  unfold World.freeze;rw [if_neg hl0];show (W.heap.modify b _)[q]? = _;rw [Array.getElem?_modify,if_neg (Ne.symm hq)]
 have hsz:(W.freeze ⟨b,0,none⟩ l.length).heap.size=W.heap.size:=by unfold World.freeze;rw [if_neg hl0];simp
 have hx:=s.ext.below;have h5:(W.freeze ⟨b,0,none⟩ l.length).os=W.os∧(W.freeze ⟨b,0,none⟩ l.length).tape=W.tape∧(W.freeze ⟨b,0,none⟩ l.length).output=W.output:=by unfold World.freeze;rw [if_neg hl0];exact ⟨rfl,rfl,rfl⟩
 refine ⟨Ext.of_below ⟨h5.1.trans hx.os,h5.2.1.trans hx.tape,h5.2.2.trans hx.output,by rw [hsz];exact hx.size,fun q hq=>?_⟩,fun q o hq=>?_,(fun _ h=>by cases h),.nil⟩
 ·rw [hk q (by omega)];exact hx.block q hq
 ·rw [hk q (fun e=>by rw [e,hH] at hq;cases hq)];exact s.agr q o hq
theorem St.pickT {W:World} {hd tl hd':List Res} (s:St H w0 (hd++tl) W) (ix:List Nat) (hn:eC ix=true) (hm:ix.map (fun i=>hd[i]?)=hd'.map some):St H w0 (hd'++tl) W:=by
 have hlt:∀ i x,hd[i]? = some x→(hd++tl)[i]? = some x:=fun i x e=>by
  rw [List.getElem?_append_left (List.getElem?_eq_some_iff.1 e).1];exact e
 have key:∀ (ix:List Nat) (hd':List Res),eC ix=true→ix.map (fun i=>hd[i]?)=hd'.map some→(∀ x∈hd',∃ i∈ix,hd[i]? = some x)∧(hd'++tl).Pairwise Res.apart:=by
  intro ix;induction ix with
  | nil =>
   intro hd' _ hm;cases hd' with
   | nil=>exact ⟨fun x hx=>(by cases hx),(List.pairwise_append.1 s.apart).2.1⟩
   | cons a r=>simp at hm
  | cons i r ih =>
   intro hd' hn hm;cases hd' with
   | nil=>simp at hm
   | cons a q =>
    simp only [List.map_cons,List.cons.injEq] at hm;simp only [eC,Bool.and_eq_true,Bool.not_eq_true'] at hn;obtain ⟨h1,h2⟩:=ih q hn.2 hm.2;refine ⟨fun x hx=>?_,?_⟩
    ·rcases List.mem_cons.1 hx with rfl | hx
     ·exact ⟨i,.head _,hm.1⟩
     ·obtain ⟨j,hj,e⟩:=h1 x hx;exact ⟨j,.tail _ hj,e⟩
    ·rw [List.cons_append,List.pairwise_cons];refine ⟨fun y hy=>?_,h2⟩;rcases List.mem_append.1 hy with hy | hy
     ·obtain ⟨j,hj,e⟩:=h1 y hy;refine tL s.apart (hlt _ _ hm.1) (hlt _ _ e) fun h=>?_;subst h;have:=hn.1;simp [hj] at this
     ·exact (List.pairwise_append.1 s.apart).2.2 a (List.mem_of_getElem? hm.1) y hy
 obtain ⟨h1,h2⟩:=key ix hd' hn hm;refine ⟨s.ext,s.agr,fun x hx=>?_,h2⟩;rcases List.mem_append.1 hx with hx | hx
 ·obtain ⟨i,_,e⟩:=h1 x hx;exact s.own x (List.mem_append_left _ (List.mem_of_getElem? e))
 ·exact s.own x (List.mem_append_right _ hx)
theorem At.pt {G:Act→World→Prop} {hd tl hd':List Res} (ix:List Nat) (hn:eC ix=true) (hm:ix.map (fun i=>hd[i]?)=hd'.map some) (h:At dfs n L H w0 (hd'++tl) G):At dfs n L H w0 (hd++tl) G:=fun a W f s=>h a W f (s.pickT ix hn hm)
theorem At.mk {e:TypeId} {v0:Value} {bytes m:Nat} {kl kc:IntKind} {i j:Int} (hT:hU P T=some (e,1,bytes)) (hz0:dY P e=some [v0]) (hx:ev L x=some (.int kl i)) (hy:ev L y=some (.int kc j)) (hi:i=(m:Int)) (hj:j=(m:Int)) (hb:bytes * m≤281474976710656) (h63:m≤9223372036854775807) (ht:Nat.blt t n=true)
 (h:∀ b,At dfs n ((t,.slice (some ⟨b,0,none⟩) m m)::L) H w0 (.box b (List.replicate m v0) e::bs) (wpList P ops Q rest)):At dfs n L H w0 bs (wpList P ops Q (⟨some t,.makeSlice T x y,ty,pos,aft,none⟩::rest)):=by
 subst hi hj;obtain ⟨hu,q,z,hq,hz,hsz,hby,hzs,h0⟩:=mM hT
 have hz1:z.cells.toList=[v0]:=by
  have h2:=hz0;unfold dY at h2;rw [hq] at h2;simp only [Option.bind_some,hz,Option.map_some,Option.some.injEq] at h2;exact h2
 refine cons ?_;intro a W f s;refine dT rfl ?_
 have hbz:(q.bytes:Int) * (m:Int)≤281474976710656:=by
  have h5:((q.bytes * m:Nat):Int)≤281474976710656:=by rw [hby];omega
  rwa [Int.natCast_mul] at h5
 have hr:=run_make (P:=P) W T e q z hu hq hz kl kc m m (by omega) (Int.le_refl _) hbz (by omega)
 have hcs:madeCells z.cells (((m:Int)).toNat * q.size)=(List.replicate m v0).toArray:=by
  have e1:z.cells=#[v0]:=by rw [← Array.toArray_toList (xs:=z.cells),hz1]
  rw [e1,hsz,Int.toNat_natCast,Nat.mul_one];apply Array.ext
  ·simp [madeCells]
  ·intro i h1 h2;simp [madeCells,Nat.mod_one]
 rw [hcs,Int.toNat_natCast] at hr;unfold Oper.wp execOp;simp only [Sem.run_bind,Sem.run_pure,Result.andThen_ok,f.ev hx,f.ev hy,hr];exact h _ _ _ (f.put ht _) (s.alloc _ _)
end
theorem dt {p:Prop} [Decidable p]:(decide p=true)=p:=decide_eq_true_eq
theorem df {p:Prop} [Decidable p]:(decide p=false)=¬ p:=propext decide_eq_false_iff_not
theorem nb {a b:Nat} (h:Nat.ble a b=true):a≤b:=Nat.le_of_ble_eq_true h
theorem z0 {l:List Value}:∀ (j:Nat) u,l[j]? = some u→l[0+j]? = some u:=fun j u h=>by rw [Nat.zero_add];exact h
theorem w6 {i:Int} (h:-9223372036854775808≤i∧i≤9223372036854775807):IntKind.i64.wrap i=i:=w64 h.1 h.2
section
variable {dfs:List Deferred} {P:Program} {n:Nat} {L:Sl} {H:Hp} {w0:World} {bs:List Res} {Q:Exit→Act→World→Prop} {ops:Array Oper}
theorem At.nt {K:Act→World→Prop} (h:At dfs n L H w0 bs K):At dfs n L H w0 bs (wpList P ops (Exit.then K Q) []):=.nl (.tN h)
theorem At.sr {id:Nat} {l:List Oper} {y:Code} (h:At dfs n L H w0 bs (wpList P l.toArray (Exit.then (y.wp P Q) Q) l)):At dfs n L H w0 bs ((Code.seq (Code.region id l.toArray false) y).wp P Q):=.sq (.rg h)
theorem At.ns {Q':Exit→Act→World→Prop} {id:Nat} {l:List Oper} {y:Code} (h:At dfs n L H w0 bs (wpList P l.toArray (Exit.then (y.wp P Q') Q') l)):At dfs n L H w0 bs (wpList P ops (Exit.then ((Code.seq (Code.region id l.toArray false) y).wp P Q') Q) []):=.nl (.tN (.sq (.rg h)))
end
end Go.Sx

namespace Go.Sx
open Go.RowKit Go.Par
section
variable {dfs:List Deferred} {P:Program} {L:Sl} {H H':Hp} {w0:World} {bs bs':List Res} {ty:TypeId} {pos:String} {aft:Array Edge} {t:Tmp} {op:Op} {ops:Array Oper} {N hn i n j:Nat} {pa:List (Nat × Oper × Value)} {E:Sl→Hp→List Res→Prop} {r:List (Nat × Nat × Oper)} {rest:List Oper} {Q:Exit→Act→World→Prop} {o:Oper} {v:Value} {b c:Bool} {u:Tmp}
theorem St.p1_1 {H:Hp} {w0 W:World} {a0 b0:Res} {tl:List Res} (s:St H w0 (a0::tl) W) (ix:List Nat) (hm:ix.map (fun i=>([a0]:List Res)[i]?)=[some b0]) (hn:eC ix=true:=by rfl):St H w0 (b0::tl) W:=s.pickT (hd:=[a0]) (hd':=[b0]) ix hn hm
theorem St.p2_0 {H:Hp} {w0 W:World} {a0 a1:Res} {tl:List Res} (s:St H w0 (a0::a1::tl) W) (ix:List Nat) (hm:ix.map (fun i=>([a0,a1]:List Res)[i]?)=[]) (hn:eC ix=true:=by rfl):St H w0 (tl) W:=s.pickT (hd:=[a0,a1]) (hd':=[]) ix hn hm
theorem St.p2_1 {H:Hp} {w0 W:World} {a0 a1 b0:Res} {tl:List Res} (s:St H w0 (a0::a1::tl) W) (ix:List Nat) (hm:ix.map (fun i=>([a0,a1]:List Res)[i]?)=[some b0]) (hn:eC ix=true:=by rfl):St H w0 (b0::tl) W:=s.pickT (hd:=[a0,a1]) (hd':=[b0]) ix hn hm
theorem St.p2_2 {H:Hp} {w0 W:World} {a0 a1 b0 b1:Res} {tl:List Res} (s:St H w0 (a0::a1::tl) W) (ix:List Nat) (hm:ix.map (fun i=>([a0,a1]:List Res)[i]?)=[some b0,some b1]) (hn:eC ix=true:=by rfl):St H w0 (b0::b1::tl) W:=s.pickT (hd:=[a0,a1]) (hd':=[b0,b1]) ix hn hm
theorem St.p3_0 {H:Hp} {w0 W:World} {a0 a1 a2:Res} {tl:List Res} (s:St H w0 (a0::a1::a2::tl) W) (ix:List Nat) (hm:ix.map (fun i=>([a0,a1,a2]:List Res)[i]?)=[]) (hn:eC ix=true:=by rfl):St H w0 (tl) W:=s.pickT (hd:=[a0,a1,a2]) (hd':=[]) ix hn hm
theorem St.p3_1 {H:Hp} {w0 W:World} {a0 a1 a2 b0:Res} {tl:List Res} (s:St H w0 (a0::a1::a2::tl) W) (ix:List Nat) (hm:ix.map (fun i=>([a0,a1,a2]:List Res)[i]?)=[some b0]) (hn:eC ix=true:=by rfl):St H w0 (b0::tl) W:=s.pickT (hd:=[a0,a1,a2]) (hd':=[b0]) ix hn hm
theorem St.p3_2 {H:Hp} {w0 W:World} {a0 a1 a2 b0 b1:Res} {tl:List Res} (s:St H w0 (a0::a1::a2::tl) W) (ix:List Nat) (hm:ix.map (fun i=>([a0,a1,a2]:List Res)[i]?)=[some b0,some b1]) (hn:eC ix=true:=by rfl):St H w0 (b0::b1::tl) W:=s.pickT (hd:=[a0,a1,a2]) (hd':=[b0,b1]) ix hn hm
theorem St.p3_3 {H:Hp} {w0 W:World} {a0 a1 a2 b0 b1 b2:Res} {tl:List Res} (s:St H w0 (a0::a1::a2::tl) W) (ix:List Nat) (hm:ix.map (fun i=>([a0,a1,a2]:List Res)[i]?)=[some b0,some b1,some b2]) (hn:eC ix=true:=by rfl):St H w0 (b0::b1::b2::tl) W:=s.pickT (hd:=[a0,a1,a2]) (hd':=[b0,b1,b2]) ix hn hm
theorem St.p4_2 {H:Hp} {w0 W:World} {a0 a1 a2 a3 b0 b1:Res} {tl:List Res} (s:St H w0 (a0::a1::a2::a3::tl) W) (ix:List Nat) (hm:ix.map (fun i=>([a0,a1,a2,a3]:List Res)[i]?)=[some b0,some b1]) (hn:eC ix=true:=by rfl):St H w0 (b0::b1::tl) W:=s.pickT (hd:=[a0,a1,a2,a3]) (hd':=[b0,b1]) ix hn hm
theorem St.p4_3 {H:Hp} {w0 W:World} {a0 a1 a2 a3 b0 b1 b2:Res} {tl:List Res} (s:St H w0 (a0::a1::a2::a3::tl) W) (ix:List Nat) (hm:ix.map (fun i=>([a0,a1,a2,a3]:List Res)[i]?)=[some b0,some b1,some b2]) (hn:eC ix=true:=by rfl):St H w0 (b0::b1::b2::tl) W:=s.pickT (hd:=[a0,a1,a2,a3]) (hd':=[b0,b1,b2]) ix hn hm
theorem St.p4_4 {H:Hp} {w0 W:World} {a0 a1 a2 a3 b0 b1 b2 b3:Res} {tl:List Res} (s:St H w0 (a0::a1::a2::a3::tl) W) (ix:List Nat) (hm:ix.map (fun i=>([a0,a1,a2,a3]:List Res)[i]?)=[some b0,some b1,some b2,some b3]) (hn:eC ix=true:=by rfl):St H w0 (b0::b1::b2::b3::tl) W:=s.pickT (hd:=[a0,a1,a2,a3]) (hd':=[b0,b1,b2,b3]) ix hn hm
theorem St.p5_2 {H:Hp} {w0 W:World} {a0 a1 a2 a3 a4 b0 b1:Res} {tl:List Res} (s:St H w0 (a0::a1::a2::a3::a4::tl) W) (ix:List Nat) (hm:ix.map (fun i=>([a0,a1,a2,a3,a4]:List Res)[i]?)=[some b0,some b1]) (hn:eC ix=true:=by rfl):St H w0 (b0::b1::tl) W:=s.pickT (hd:=[a0,a1,a2,a3,a4]) (hd':=[b0,b1]) ix hn hm
theorem St.p5_3 {H:Hp} {w0 W:World} {a0 a1 a2 a3 a4 b0 b1 b2:Res} {tl:List Res} (s:St H w0 (a0::a1::a2::a3::a4::tl) W) (ix:List Nat) (hm:ix.map (fun i=>([a0,a1,a2,a3,a4]:List Res)[i]?)=[some b0,some b1,some b2]) (hn:eC ix=true:=by rfl):St H w0 (b0::b1::b2::tl) W:=s.pickT (hd:=[a0,a1,a2,a3,a4]) (hd':=[b0,b1,b2]) ix hn hm
theorem St.p5_4 {H:Hp} {w0 W:World} {a0 a1 a2 a3 a4 b0 b1 b2 b3:Res} {tl:List Res} (s:St H w0 (a0::a1::a2::a3::a4::tl) W) (ix:List Nat) (hm:ix.map (fun i=>([a0,a1,a2,a3,a4]:List Res)[i]?)=[some b0,some b1,some b2,some b3]) (hn:eC ix=true:=by rfl):St H w0 (b0::b1::b2::b3::tl) W:=s.pickT (hd:=[a0,a1,a2,a3,a4]) (hd':=[b0,b1,b2,b3]) ix hn hm
theorem St.p5_5 {H:Hp} {w0 W:World} {a0 a1 a2 a3 a4 b0 b1 b2 b3 b4:Res} {tl:List Res} (s:St H w0 (a0::a1::a2::a3::a4::tl) W) (ix:List Nat) (hm:ix.map (fun i=>([a0,a1,a2,a3,a4]:List Res)[i]?)=[some b0,some b1,some b2,some b3,some b4]) (hn:eC ix=true:=by rfl):St H w0 (b0::b1::b2::b3::b4::tl) W:=s.pickT (hd:=[a0,a1,a2,a3,a4]) (hd':=[b0,b1,b2,b3,b4]) ix hn hm
theorem St.p6_3 {H:Hp} {w0 W:World} {a0 a1 a2 a3 a4 a5 b0 b1 b2:Res} {tl:List Res} (s:St H w0 (a0::a1::a2::a3::a4::a5::tl) W) (ix:List Nat) (hm:ix.map (fun i=>([a0,a1,a2,a3,a4,a5]:List Res)[i]?)=[some b0,some b1,some b2]) (hn:eC ix=true:=by rfl):St H w0 (b0::b1::b2::tl) W:=s.pickT (hd:=[a0,a1,a2,a3,a4,a5]) (hd':=[b0,b1,b2]) ix hn hm
theorem St.p6_5 {H:Hp} {w0 W:World} {a0 a1 a2 a3 a4 a5 b0 b1 b2 b3 b4:Res} {tl:List Res} (s:St H w0 (a0::a1::a2::a3::a4::a5::tl) W) (ix:List Nat) (hm:ix.map (fun i=>([a0,a1,a2,a3,a4,a5]:List Res)[i]?)=[some b0,some b1,some b2,some b3,some b4]) (hn:eC ix=true:=by rfl):St H w0 (b0::b1::b2::b3::b4::tl) W:=s.pickT (hd:=[a0,a1,a2,a3,a4,a5]) (hd':=[b0,b1,b2,b3,b4]) ix hn hm
theorem St.p6_6 {H:Hp} {w0 W:World} {a0 a1 a2 a3 a4 a5 b0 b1 b2 b3 b4 b5:Res} {tl:List Res} (s:St H w0 (a0::a1::a2::a3::a4::a5::tl) W) (ix:List Nat) (hm:ix.map (fun i=>([a0,a1,a2,a3,a4,a5]:List Res)[i]?)=[some b0,some b1,some b2,some b3,some b4,some b5]) (hn:eC ix=true:=by rfl):St H w0 (b0::b1::b2::b3::b4::b5::tl) W:=s.pickT (hd:=[a0,a1,a2,a3,a4,a5]) (hd':=[b0,b1,b2,b3,b4,b5]) ix hn hm
theorem St.p7_7 {H:Hp} {w0 W:World} {a0 a1 a2 a3 a4 a5 a6 b0 b1 b2 b3 b4 b5 b6:Res} {tl:List Res} (s:St H w0 (a0::a1::a2::a3::a4::a5::a6::tl) W) (ix:List Nat) (hm:ix.map (fun i=>([a0,a1,a2,a3,a4,a5,a6]:List Res)[i]?)=[some b0,some b1,some b2,some b3,some b4,some b5,some b6]) (hn:eC ix=true:=by rfl):St H w0 (b0::b1::b2::b3::b4::b5::b6::tl) W:=s.pickT (hd:=[a0,a1,a2,a3,a4,a5,a6]) (hd':=[b0,b1,b2,b3,b4,b5,b6]) ix hn hm
end
end Go.Sx
namespace Go.Proofs.YthhoebdlfjffkaaGreatDoor
open Go.RowKit Go.Par Go.Sx
abbrev Str:=List UInt8
def aD (l:Str):Value:=.string ⟨l.toArray⟩
inductive Ex where
 | mk (op:UInt8) (nm:Str) (n:Int64) (args:List Ex)
inductive Sm where
 | mk (kind:UInt8) (nm hd:Str) (ex:List Ex) (th el:List Sm)
def Ex.op:Ex→UInt8 | .mk op _ _ _=>op
def Ex.args:Ex→List Ex | .mk _ _ _ args=>args
mutual
def dEx (k:IntKind):Ex→D
 | .mk op nm n args=>.str [.val (.int k op.toNat),.val (aD nm),.val (.int .i64 n.toInt),.seq 4 (SX k args)]
def SX (k:IntKind):List Ex→List D
 | []=>[]
 | e::r=>dEx k e::SX k r
end
theorem ED (k:IntKind):∀ l,SX k l=l.map (dEx k)
 | []=>rfl
 | e::r=>by rw [SX,ED k r];rfl
theorem PN (k:IntKind) (op:UInt8) (nm:Str) (n:Int64) (args:List Ex):dEx k (.mk op nm n args)=.str [.val (.int k op.toNat),.val (aD nm),.val (.int .i64 n.toInt),.seq 4 (args.map (dEx k))]:=by rw [dEx,ED]
mutual
def dSm (k:IntKind):Sm→D
 | .mk kd nm hd ex th el=>.str [.val (.int k kd.toNat),.val (aD nm),.val (aD hd),.seq 4 (ex.map (dEx k)),.seq 6 (PL k th),.seq 6 (PL k el)]
def PL (k:IntKind):List Sm→List D
 | []=>[]
 | e::r=>dSm k e::PL k r
end
theorem wU (k:IntKind):∀ l,PL k l=l.map (dSm k)
 | []=>rfl
 | e::r=>by rw [PL,wU k r];rfl
theorem PM (k:IntKind) (kd:UInt8) (nm hd:Str) (ex:List Ex) (th el:List Sm):dSm k (.mk kd nm hd ex th el)=.str [.val (.int k kd.toNat),.val (aD nm),.val (aD hd),.seq 4 (ex.map (dEx k)),.seq 6 (th.map (dSm k)),.seq 6 (el.map (dSm k))]:=by rw [dSm,wU,wU]
theorem Ex.ind {C:Ex→Prop} (h:∀ op nm n args,(∀ a∈args,C a)→C (.mk op nm n args)):∀ e,C e
 | .mk op nm n args=>h op nm n args fun a ha=>Ex.ind h a
termination_by e=>SizeOf.sizeOf e
decreasing_by
 have:=List.sizeOf_lt_of_mem ha;simp;omega
theorem Sm.ind {C:Sm→Prop} (h:∀ kd nm hd ex th el,(∀ a∈th,C a)→(∀ a∈el,C a)→C (.mk kd nm hd ex th el)):∀ e,C e
 | .mk kd nm hd ex th el=>h kd nm hd ex th el (fun a ha=>Sm.ind h a) (fun a ha=>Sm.ind h a)
termination_by e=>SizeOf.sizeOf e
decreasing_by
 all_goals
  have:=List.sizeOf_lt_of_mem ha;simp;omega
structure Hd where
 nm:Str
 ps:List Str
 body:List Sm
structure Vr where
 nm:Str
 ty:UInt8
 init:Int64
structure Cp where
 nm:Str
 vars:List Vr
 vers:List (List Hd)
structure Fg where
 nm:Str
 init:Bool
structure Lk where
 fr:Str
 to:Str
 lat:Int64
structure Ft where
 nm:Str
 flags:List Fg
 links:List Lk
 comps:List Cp
def gZ (s:Str):D:=.val (aD s)
def wT (s:Str):D:=.any (aD s)
def dHd (k:IntKind) (h:Hd):D:=.str [.val (aD h.nm),.seq 1 (h.ps.map gZ),.seq 6 (h.body.map (dSm k))]
def dVr (k:IntKind) (v:Vr):D:=.str [.val (aD v.nm),.val (.int k v.ty.toNat),.val (.int .i64 v.init.toInt)]
def dVs (k:IntKind) (v:List Hd):D:=.seq 3 (v.map (dHd k))
def dCp (k:IntKind) (c:Cp):D:=.str [.val (aD c.nm),.seq 3 (c.vars.map (dVr k)),.seq 1 (c.vers.map (dVs k))]
def dFg (f:Fg):D:=.str [.val (aD f.nm),.val (.bool f.init)]
def dLk (l:Lk):D:=.str [.val (aD l.fr),.val (aD l.to),.val (.int .i64 l.lat.toInt)]
def dFt (k:IntKind) (f:Ft):D:=.str [.val (aD f.nm),.seq 2 (f.flags.map dFg),.seq 3 (f.links.map dLk),.seq 3 (f.comps.map (dCp k))]
/-! ### Structs opened and shut -/
section
variable {H:Hp}
theorem UY {v:Value} (h:v.oneCell'=true) (k:okV v):Rep H (.val v) [v]:=by unfold Rep;exact ⟨rfl,h,k⟩
theorem okS {l:Str}:okV (aD l)↔l.length≤1000000:=by simp [okV,aD,ByteArray.size]
theorem dZ {d:D} {ds:List D} {l:List Value}:jD H (d::ds) l↔∃ x y,l=x++y∧Rep H d x∧jD H ds y:=by
 constructor
 ·intro h;unfold jD at h;exact h
 ·intro h;unfold jD;exact h
theorem dF {l:List Value}:jD H [] l↔l=[]:=by
 constructor
 ·intro h;unfold jD at h;exact h
 ·intro h;unfold jD;exact h
theorem kC {ds:List D} {l:List Value}:Rep H (.str ds) l↔jD H ds l:=by
 constructor
 ·intro h;unfold Rep at h;exact h
 ·intro h;unfold Rep;exact h
theorem aT {v:Value} {ds:List D} {l:List Value}:jD H (.val v::ds) l↔∃ y,l=v::y∧v.oneCell'=true∧okV v∧jD H ds y:=by
 rw [dZ]
 constructor
 ·rintro ⟨x,y,rfl,hx,hy⟩;unfold Rep at hx;obtain ⟨rfl,h,k⟩:=hx;exact ⟨y,rfl,h,k,hy⟩
 ·rintro ⟨y,rfl,h,k,hy⟩;exact ⟨[v],y,rfl,UY h k,hy⟩
theorem eY {z:Nat} {es ds:List D} {l:List Value}:jD H (.seq z es::ds) l↔∃ p c y,l=.slice p es.length c::y∧Rep H (.seq z es) [.slice p es.length c]∧jD H ds y:=by
 rw [dZ]
 constructor
 ·rintro ⟨x,y,rfl,hx,hy⟩;obtain ⟨p,c,rfl,_⟩:=hx.sl;exact ⟨p,c,y,rfl,hx,hy⟩
 ·rintro ⟨p,c,y,rfl,hx,hy⟩;exact ⟨_,y,rfl,hx,hy⟩
theorem aR {α β:Type} {f:α→β} {l:List α} {k:Nat} (h:k<l.length):(l.map f)[k]? = some (f l[k]):=by simp [h]
theorem bY {k:IntKind} {op:UInt8} {nm:Str} {n:Int64} {args:List Ex} {cs:List Value} (h:Rep H (dEx k (.mk op nm n args)) cs) :
 ∃ p c,cs=[.int k op.toNat,aD nm,.int .i64 n.toInt,.slice p args.length c]∧Rep H (.seq 4 (args.map (dEx k))) [.slice p args.length c]∧nm.length≤1000000:=by
 rw [PN,kC] at h;obtain ⟨_,rfl,_,_,h⟩:=aT.1 h;obtain ⟨_,rfl,_,hn,h⟩:=aT.1 h;obtain ⟨_,rfl,_,_,h⟩:=aT.1 h;obtain ⟨p,c,_,rfl,hs,h⟩:=eY.1 h;rw [dF] at h;subst h;rw [List.length_map] at hs ⊢;exact ⟨p,c,rfl,hs,okS.1 hn⟩
theorem dO {k:IntKind} {op:UInt8} {nm:Str} {n:Int64} {args:List Ex} {s:Value} (hn:nm.length≤1000000) (h:Rep H (.seq 4 (args.map (dEx k))) [s]) :
 Rep H (dEx k (.mk op nm n args)) [.int k op.toNat,aD nm,.int .i64 n.toInt,s]:=by
 rw [PN,kC];exact aT.2 ⟨_,rfl,rfl,trivial,aT.2 ⟨_,rfl,rfl,okS.2 hn,aT.2 ⟨_,rfl,rfl,trivial,dZ.2 ⟨[s],[],rfl,h,dF.2 rfl⟩⟩⟩⟩
theorem iJ {k:IntKind} {kd:UInt8} {nm hd:Str} {ex:List Ex} {th el:List Sm} {cs:List Value} (h:Rep H (dSm k (.mk kd nm hd ex th el)) cs) :
 ∃ p c p1 c1 p2 c2,cs=[.int k kd.toNat,aD nm,aD hd,.slice p ex.length c,.slice p1 th.length c1,.slice p2 el.length c2]∧Rep H (.seq 4 (ex.map (dEx k))) [.slice p ex.length c]∧Rep H (.seq 6 (th.map (dSm k))) [.slice p1 th.length c1]∧Rep H (.seq 6 (el.map (dSm k))) [.slice p2 el.length c2]∧nm.length≤1000000∧hd.length≤1000000:=by
 rw [PM,kC] at h;obtain ⟨_,rfl,_,_,h⟩:=aT.1 h;obtain ⟨_,rfl,_,hn,h⟩:=aT.1 h;obtain ⟨_,rfl,_,hm,h⟩:=aT.1 h;obtain ⟨p,c,_,rfl,hs,h⟩:=eY.1 h;obtain ⟨p1,c1,_,rfl,hs1,h⟩:=eY.1 h;obtain ⟨p2,c2,_,rfl,hs2,h⟩:=eY.1 h;rw [dF] at h;subst h;rw [List.length_map] at hs hs1 hs2;exact ⟨p,c,p1,c1,p2,c2,by rw [List.length_map,List.length_map,List.length_map],hs,hs1,hs2,okS.1 hn,okS.1 hm⟩
theorem dH {k:IntKind} {kd:UInt8} {nm hd:Str} {ex:List Ex} {th el:List Sm} {s s1 s2:Value} (hn:nm.length≤1000000) (hm:hd.length≤1000000) (h:Rep H (.seq 4 (ex.map (dEx k))) [s]) (h1:Rep H (.seq 6 (th.map (dSm k))) [s1]) (h2:Rep H (.seq 6 (el.map (dSm k))) [s2]) :
 Rep H (dSm k (.mk kd nm hd ex th el)) [.int k kd.toNat,aD nm,aD hd,s,s1,s2]:=by
 rw [PM,kC];exact aT.2 ⟨_,rfl,rfl,trivial,aT.2 ⟨_,rfl,rfl,okS.2 hn,aT.2 ⟨_,rfl,rfl,okS.2 hm,dZ.2 ⟨[s],_,rfl,h,dZ.2 ⟨[s1],_,rfl,h1,dZ.2 ⟨[s2],[],rfl,h2,dF.2 rfl⟩⟩⟩⟩⟩⟩
theorem lR {k:IntKind} {x:Hd} {cs:List Value} (h:Rep H (dHd k x) cs) :
 ∃ p1 c1 p2 c2,cs=[aD x.nm,.slice p1 x.ps.length c1,.slice p2 x.body.length c2]∧x.nm.length≤1000000∧Rep H (.seq 1 (x.ps.map gZ)) [.slice p1 x.ps.length c1]∧Rep H (.seq 6 (x.body.map (dSm k))) [.slice p2 x.body.length c2]:=by
 rw [dHd,kC] at h;obtain ⟨_,rfl,_,k0,h⟩:=aT.1 h;obtain ⟨p1,c1,_,rfl,k1,h⟩:=eY.1 h;obtain ⟨p2,c2,_,rfl,k2,h⟩:=eY.1 h;rw [dF] at h;subst h;exact ⟨p1,c1,p2,c2,by simp,okS.1 k0,(by simpa using k1),(by simpa using k2)⟩
theorem AP {k:IntKind} {x:Hd} (k0:x.nm.length≤1000000) {s1:Value} (k1:Rep H (.seq 1 (x.ps.map gZ)) [s1]) {s2:Value} (k2:Rep H (.seq 6 (x.body.map (dSm k))) [s2]):Rep H (dHd k x) [aD x.nm,s1,s2]:=by
 rw [dHd,kC];exact aT.2 ⟨_,rfl,rfl,okS.2 k0,dZ.2 ⟨[s1],_,rfl,k1,dZ.2 ⟨[s2],_,rfl,k2,dF.2 rfl⟩⟩⟩
theorem nC {k:IntKind} {x:Vr} {cs:List Value} (h:Rep H (dVr k x) cs) :
 cs=[aD x.nm,.int k x.ty.toNat,.int .i64 x.init.toInt]∧x.nm.length≤1000000:=by
 rw [dVr,kC] at h;obtain ⟨_,rfl,_,k0,h⟩:=aT.1 h;obtain ⟨_,rfl,_,_,h⟩:=aT.1 h;obtain ⟨_,rfl,_,_,h⟩:=aT.1 h;rw [dF] at h;subst h;exact ⟨by simp,okS.1 k0⟩
theorem qU {k:IntKind} {x:Vr} (k0:x.nm.length≤1000000):Rep H (dVr k x) [aD x.nm,.int k x.ty.toNat,.int .i64 x.init.toInt]:=by
 rw [dVr,kC];exact aT.2 ⟨_,rfl,rfl,okS.2 k0,aT.2 ⟨_,rfl,rfl,trivial,aT.2 ⟨_,rfl,rfl,trivial,dF.2 rfl⟩⟩⟩
theorem lT {k:IntKind} {x:Cp} {cs:List Value} (h:Rep H (dCp k x) cs) :
 ∃ p1 c1 p2 c2,cs=[aD x.nm,.slice p1 x.vars.length c1,.slice p2 x.vers.length c2]∧x.nm.length≤1000000∧Rep H (.seq 3 (x.vars.map (dVr k))) [.slice p1 x.vars.length c1]∧Rep H (.seq 1 (x.vers.map (dVs k))) [.slice p2 x.vers.length c2]:=by
 rw [dCp,kC] at h;obtain ⟨_,rfl,_,k0,h⟩:=aT.1 h;obtain ⟨p1,c1,_,rfl,k1,h⟩:=eY.1 h;obtain ⟨p2,c2,_,rfl,k2,h⟩:=eY.1 h;rw [dF] at h;subst h;exact ⟨p1,c1,p2,c2,by simp,okS.1 k0,(by simpa using k1),(by simpa using k2)⟩
theorem uU {k:IntKind} {x:Cp} (k0:x.nm.length≤1000000) {s1:Value} (k1:Rep H (.seq 3 (x.vars.map (dVr k))) [s1]) {s2:Value} (k2:Rep H (.seq 1 (x.vers.map (dVs k))) [s2]):Rep H (dCp k x) [aD x.nm,s1,s2]:=by
 rw [dCp,kC];exact aT.2 ⟨_,rfl,rfl,okS.2 k0,dZ.2 ⟨[s1],_,rfl,k1,dZ.2 ⟨[s2],_,rfl,k2,dF.2 rfl⟩⟩⟩
theorem rR {x:Fg} {cs:List Value} (h:Rep H (dFg x) cs) :
 cs=[aD x.nm,.bool x.init]∧x.nm.length≤1000000:=by
 rw [dFg,kC] at h;obtain ⟨_,rfl,_,k0,h⟩:=aT.1 h;obtain ⟨_,rfl,_,_,h⟩:=aT.1 h;rw [dF] at h;subst h;exact ⟨by simp,okS.1 k0⟩
theorem AY {x:Fg} (k0:x.nm.length≤1000000):Rep H (dFg x) [aD x.nm,.bool x.init]:=by
 rw [dFg,kC];exact aT.2 ⟨_,rfl,rfl,okS.2 k0,aT.2 ⟨_,rfl,rfl,trivial,dF.2 rfl⟩⟩
theorem pK {x:Lk} {cs:List Value} (h:Rep H (dLk x) cs) :
 cs=[aD x.fr,aD x.to,.int .i64 x.lat.toInt]∧x.fr.length≤1000000∧x.to.length≤1000000:=by
 rw [dLk,kC] at h;obtain ⟨_,rfl,_,k0,h⟩:=aT.1 h;obtain ⟨_,rfl,_,k1,h⟩:=aT.1 h;obtain ⟨_,rfl,_,_,h⟩:=aT.1 h;rw [dF] at h;subst h;exact ⟨by simp,okS.1 k0,okS.1 k1⟩
theorem AJ {x:Lk} (k0:x.fr.length≤1000000) (k1:x.to.length≤1000000):Rep H (dLk x) [aD x.fr,aD x.to,.int .i64 x.lat.toInt]:=by
 rw [dLk,kC];exact aT.2 ⟨_,rfl,rfl,okS.2 k0,aT.2 ⟨_,rfl,rfl,okS.2 k1,aT.2 ⟨_,rfl,rfl,trivial,dF.2 rfl⟩⟩⟩
theorem jT {k:IntKind} {x:Ft} {cs:List Value} (h:Rep H (dFt k x) cs) :
 ∃ p1 c1 p2 c2 p3 c3,cs=[aD x.nm,.slice p1 x.flags.length c1,.slice p2 x.links.length c2,.slice p3 x.comps.length c3]∧x.nm.length≤1000000∧Rep H (.seq 2 (x.flags.map dFg)) [.slice p1 x.flags.length c1]∧Rep H (.seq 3 (x.links.map dLk)) [.slice p2 x.links.length c2]∧Rep H (.seq 3 (x.comps.map (dCp k))) [.slice p3 x.comps.length c3]:=by
 rw [dFt,kC] at h;obtain ⟨_,rfl,_,k0,h⟩:=aT.1 h;obtain ⟨p1,c1,_,rfl,k1,h⟩:=eY.1 h;obtain ⟨p2,c2,_,rfl,k2,h⟩:=eY.1 h;obtain ⟨p3,c3,_,rfl,k3,h⟩:=eY.1 h;rw [dF] at h;subst h;exact ⟨p1,c1,p2,c2,p3,c3,by simp,okS.1 k0,(by simpa using k1),(by simpa using k2),(by simpa using k3)⟩
theorem AS {k:IntKind} {x:Ft} (k0:x.nm.length≤1000000) {s1:Value} (k1:Rep H (.seq 2 (x.flags.map dFg)) [s1]) {s2:Value} (k2:Rep H (.seq 3 (x.links.map dLk)) [s2]) {s3:Value} (k3:Rep H (.seq 3 (x.comps.map (dCp k))) [s3]):Rep H (dFt k x) [aD x.nm,s1,s2,s3]:=by
 rw [dFt,kC];exact aT.2 ⟨_,rfl,rfl,okS.2 k0,dZ.2 ⟨[s1],_,rfl,k1,dZ.2 ⟨[s2],_,rfl,k2,dZ.2 ⟨[s3],_,rfl,k3,dF.2 rfl⟩⟩⟩⟩
theorem oP {k:IntKind} {x:List Hd} {cs:List Value} (h:Rep H (dVs k x) cs):∃ p c,cs=[.slice p x.length c]∧Rep H (.seq 3 (x.map (dHd k))) [.slice p x.length c]:=by
 rw [dVs] at h;obtain ⟨p,c,rfl,_⟩:=h.sl;rw [List.length_map] at h ⊢;exact ⟨p,c,rfl,h⟩
theorem kV {x:Str} {cs:List Value} (h:Rep H (gZ x) cs):cs=[aD x]∧x.length≤1000000:=by
 unfold gZ Rep at h;exact ⟨h.1,okS.1 h.2.2⟩
theorem JL {x:Str} {cs:List Value} (h:Rep H (wT x) cs):cs=[aD x]:=by
 unfold wT Rep at h;exact h.1
theorem JK (x:Str):Rep H (wT x) [aD x]:=by unfold wT Rep;exact ⟨rfl,rfl⟩
theorem MN {x:Str} (h:x.length≤1000000):Rep H (gZ x) [aD x]:=UY rfl (okS.2 h)
end
end Go.Proofs.YthhoebdlfjffkaaGreatDoor
namespace Go.Proofs.YthhoebdlfjffkaaGreatDoor
mutual
def Ex.depth:Ex→Nat
 | .mk _ _ _ args=>Ex.deeps args+1
def Ex.deeps:List Ex→Nat
 | []=>0
 | e::r=>max (Ex.depth e) (Ex.deeps r)
end
theorem bL {α:Type} {l:List α} {k:Nat} (h:k<l.length):l.take (k+1)=l.take k++[l[k]]:=by simp
theorem yW (a b:List Ex):Ex.deeps (a++b)=max (Ex.deeps a) (Ex.deeps b):=by
 induction a with
 | nil=>simp [Ex.deeps]
 | cons e r ih=>simp only [List.cons_append,Ex.deeps,ih];omega
theorem FY {l:List Ex} {k:Nat} (h:k<l.length):Ex.deeps (l.take (k+1))=max (Ex.deeps (l.take k)) (Ex.depth l[k]):=by
 rw [bL h,yW];simp [Ex.deeps]
theorem FX (l:List Ex) (k:Nat):Ex.deeps (l.take k)≤Ex.deeps l:=by
 have:=yW (l.take k) (l.drop k);rw [List.take_append_drop] at this;omega
theorem sX {l:List Ex} {e:Ex} (h:e∈l):Ex.depth e≤Ex.deeps l:=by
 induction l with
 | nil=>cases h
 | cons a r ih =>
  simp only [Ex.deeps];rcases List.mem_cons.1 h with rfl | h
  ·omega
  ·have:=ih h;omega
theorem PJ {l:List Ex} {k:Nat} (h:k<l.length):Ex.depth l[k]≤Ex.deeps l:=sX (List.getElem_mem h)
theorem fY (op:UInt8) (nm:Str) (n:Int64) (args:List Ex):Ex.depth (.mk op nm n args)=Ex.deeps args+1:=by rw [Ex.depth]
def Sm.kd:Sm→UInt8 | .mk kd _ _ _ _ _=>kd
def Sm.th:Sm→List Sm | .mk _ _ _ _ th _=>th
def Sm.el:Sm→List Sm | .mk _ _ _ _ _ el=>el
theorem Sm.lists {C:List Sm→Prop} (h:∀ l,(∀ s∈l,C s.th∧C s.el)→C l):∀ l,C l:=by
 have key:∀ s:Sm,C s.th∧C s.el:=fun s=>by
  induction s using Sm.ind with
  | _ kd nm hd ex th el ih1 ih2=>exact ⟨h th fun a ha=>ih1 a ha,h el fun a ha=>ih2 a ha⟩
 exact fun l=>h l fun s _=>key s
mutual
def Sm.depth:Sm→Nat
 | .mk _ _ _ _ th el=>max (Sm.deeps th) (Sm.deeps el)+1
def Sm.deeps:List Sm→Nat
 | []=>0
 | e::r=>max (Sm.depth e) (Sm.deeps r)
end
mutual
def Sm.count:Sm→Nat
 | .mk _ _ _ _ th el=>Sm.counts th+Sm.counts el+1
def Sm.counts:List Sm→Nat
 | []=>0
 | e::r=>Sm.count e+Sm.counts r
end
theorem fF (a b:List Sm):Sm.deeps (a++b)=max (Sm.deeps a) (Sm.deeps b):=by
 induction a with
 | nil=>simp [Sm.deeps]
 | cons e r ih=>simp only [List.cons_append,Sm.deeps,ih];omega
theorem CG {l:List Sm} {k:Nat} (h:k<l.length):Sm.deeps (l.take (k+1))=max (Sm.deeps (l.take k)) (Sm.depth l[k]):=by
 rw [bL h,fF];simp [Sm.deeps]
theorem CF (l:List Sm) (k:Nat):Sm.deeps (l.take k)≤Sm.deeps l:=by
 have:=fF (l.take k) (l.drop k);rw [List.take_append_drop] at this;omega
theorem eQ (a b:List Sm):Sm.counts (a++b)=Sm.counts a+Sm.counts b:=by
 induction a with
 | nil=>simp [Sm.counts]
 | cons e r ih=>simp only [List.cons_append,Sm.counts,ih];omega
theorem zU {l:List Sm} {k:Nat} (h:k<l.length):Sm.counts (l.take (k+1))=Sm.counts (l.take k)+Sm.count l[k]:=by
 rw [bL h,eQ];simp [Sm.counts]
theorem zT (l:List Sm) (k:Nat):Sm.counts (l.take k)≤Sm.counts l:=by
 have:=eQ (l.take k) (l.drop k);rw [List.take_append_drop] at this;omega
theorem dR (kd:UInt8) (nm hd:Str) (ex:List Ex) (th el:List Sm):Sm.count (.mk kd nm hd ex th el)=Sm.counts th+Sm.counts el+1:=by rw [Sm.count]
theorem iY (kd:UInt8) (nm hd:Str) (ex:List Ex) (th el:List Sm):Sm.depth (.mk kd nm hd ex th el)=max (Sm.deeps th) (Sm.deeps el)+1:=by rw [Sm.depth]
theorem iZ (l:List Sm):l.length≤Sm.counts l:=by
 induction l with
 | nil=>simp
 | cons e r ih =>
  obtain ⟨kd,nm,hd,ex,th,el⟩:=e;simp only [List.length_cons,Sm.counts,dR];omega
end Go.Proofs.YthhoebdlfjffkaaGreatDoor
namespace Go.Proofs.YthhoebdlfjffkaaGreatDoor
open Go.RowKit Go.Par Go.Sx
def iK (c:UInt8):Bool:=(decide (97≤c.toNat) && decide (c.toNat≤122)) || (decide (65≤c.toNat) && decide (c.toNat≤90))
def dX (c:UInt8):Bool:=decide (48≤c.toNat) && decide (c.toNat≤57)
def eG (c:UInt8):Bool:=iK c || dX c || decide (c.toNat=95)
def words:List Str:=[[97,102,116,101,114],[97,108,119,97,121,115],[97,110,100],[97,114,114,105,118,101,115],[98,111,111,108],[99,111,109,112,111,110,101,110,116],[99,111,117,110,116],[100,101,108,101,116,101],[100,111],[101,108,115,101],[101,120,105,115,116,115],[102,97,108,115,101],[102,101,116,99,104],[102,108,97,103],[102,108,101,101,116],[102,111,114,97,108,108],[104,97,115],[105,102],[105,109,112,108,105,101,115],[105,110],[105,110,116],[108,97,116,101,110,99,121],[108,105,110,107],[110,111,116],[110,111,119],[111,110],[111,110,99,101],[111,114],[112,114,101,118,105,111,117,115],[115,101,110,100],[115,105,110,99,101],[115,105,122,101],[115,116,111,112],[115,116,111,114,101],[116,97,98,108,101],[116,114,117,101],[118,97,114],[118,101,114,115,105,111,110],[119,104,105,108,101]]
def symbols:List Str:=[[46,46],[61,61],[33,61],[60,61],[62,61],[45,62],[123],[125],[40],[41],[91],[93],[44],[59],[58],[46],[61],[60],[62],[43],[45],[42],[47],[37],[95]]
def pre (q:UInt8→Bool) (l:Str):Nat:=(l.takeWhile q).length
theorem nU (q:UInt8→Bool) (l:Str):pre q l≤l.length:=by
 unfold pre;induction l with
 | nil=>simp
 | cons a r ih=>rw [List.takeWhile_cons];split <;> simp;omega
theorem CP {q:UInt8→Bool}:∀ {l:Str} {k:Nat} (h:k<l.length),k≤pre q l→q l[k]=true→k+1≤pre q l
 | [],k,h,_,_=>by simp at h
 | a::r,0,h,_,hq=>by
  unfold pre;rw [List.takeWhile_cons];simp at hq;simp [hq]
 | a::r,k+1,h,hk,hq=>by
  unfold pre at hk ⊢;rw [List.takeWhile_cons] at hk ⊢;cases ha:q a with
  | false=>rw [ha] at hk;simp at hk
  | true =>
   rw [ha] at hk;simp at hk hq;have:=CP (l:=r) (k:=k) (by simpa using h) hk hq;unfold pre at this;simp;omega
theorem vT {q:UInt8→Bool}:∀ {l:Str} {k:Nat} (h:k<l.length),k≤pre q l→q l[k]=false→k=pre q l
 | [],k,h,_,_=>by simp at h
 | a::r,0,h,_,hq=>by
  unfold pre;rw [List.takeWhile_cons];simp at hq;simp [hq]
 | a::r,k+1,h,hk,hq=>by
  unfold pre at hk ⊢;rw [List.takeWhile_cons] at hk ⊢;cases ha:q a with
  | false=>rw [ha] at hk;simp at hk
  | true =>
   rw [ha] at hk;simp at hk hq;have:=vT (l:=r) (k:=k) (by simpa using h) hk hq;unfold pre at this;simp;omega
def aJ (l:Str):UInt8 × Nat :=
 let c:=l.headD 0
 if iK c then
  if words.contains (l.take (pre eG l)) then (2,pre eG l) else if pre eG l≤12 then (1,pre eG l) else (5,l.length)
 else if dX c then
  if pre dX l=1∨c≠48 then (3,pre dX l) else (5,l.length)
 else match symbols.find? (fun x=>x.isPrefixOf l) with
  | some x=>(4,x.length)
  | none=>(5,l.length)
def aV (l:Str):Bool:=decide (l≠[]) && (aJ l).1 == 1 && decide ((aJ l).2=l.length)
def nP (l m:Str):Bool:=decide (m.length≤l.length) && decide (l.take m.length=m)
theorem oH (l m:Str):nP l m=m.isPrefixOf l:=by
 rw [Bool.eq_iff_iff];simp only [nP,Bool.and_eq_true,decide_eq_true_eq,List.isPrefixOf_iff_prefix]
 constructor
 ·rintro ⟨_,h⟩;have:=List.take_append_drop m.length l;rw [h] at this;exact ⟨_,this⟩
 ·rintro ⟨t,rfl⟩;simp
theorem fD {α:Type} {l:List α} {k:Nat} (h:k<l.length) (d:α):l.getD k d=l[k]:=by simp [h]
theorem HU {α β:Type} {f:α→β} {l:List α} {k:Nat} (h:k<l.length) (d:α):(l.map f)[k]? = some (f (l.getD k d)):=by simp [h]
structure Shp where
 n:Nat
 nm:Bool
 lv:Nat
 tx:Str
structure Frm where
 nm:Bool
 hd:Bool
 lo:Nat
 hi:Nat
 th:Bool
 el:Bool
def shapes:List Shp:=[⟨0,false,0,[]⟩,⟨0,false,7,[]⟩,⟨0,false,7,[116,114,117,101]⟩,⟨0,false,7,[102,97,108,115,101]⟩,⟨0,false,7,[110,111,119]⟩,⟨0,true,7,[]⟩,⟨1,true,7,[]⟩,⟨1,true,7,[104,97,115,32]⟩,⟨0,true,7,[115,105,122,101,32]⟩,⟨1,false,6,[45]⟩,⟨1,false,6,[110,111,116,32]⟩,⟨2,false,5,[32,42,32]⟩,⟨2,false,5,[32,47,32]⟩,⟨2,false,5,[32,37,32]⟩,⟨2,false,4,[32,43,32]⟩,⟨2,false,4,[32,45,32]⟩,⟨2,false,3,[32,61,61,32]⟩,⟨2,false,3,[32,33,61,32]⟩,⟨2,false,3,[32,60,32]⟩,⟨2,false,3,[32,60,61,32]⟩,⟨2,false,3,[32,62,32]⟩,⟨2,false,3,[32,62,61,32]⟩,⟨2,false,2,[32,97,110,100,32]⟩,⟨2,false,1,[32,111,114,32]⟩]
def forms:List Frm:=[⟨false,false,0,0,false,false⟩,⟨true,false,1,1,false,false⟩,⟨true,false,2,2,false,false⟩,⟨true,false,1,1,false,false⟩,⟨false,false,1,1,true,true⟩,⟨false,false,1,1,true,false⟩,⟨true,true,0,4,false,false⟩,⟨false,true,1,5,false,false⟩,⟨false,false,2,2,false,true⟩,⟨true,false,1,1,false,true⟩,⟨false,false,0,0,false,false⟩]
def jM (s:Shp):List Value:=[.int .i64 (s.n:Nat),.bool s.nm,.int .i64 (s.lv:Nat),aD s.tx]
def qG (s:Frm):List Value:=[.bool s.nm,.bool s.hd,.int .i64 (s.lo:Nat),.int .i64 (s.hi:Nat),.bool s.th,.bool s.el]
def iQ (op:UInt8):Bool:=decide (1≤op.toNat) && decide (op.toNat≤23)
def gW (op:UInt8):Bool:=decide (1≤op.toNat) && decide (op.toNat≤10)
def aI (op:UInt8):Shp:=if iQ op then shapes.getD op.toNat ⟨0,false,0,[]⟩ else ⟨0,false,0,[]⟩
def aW (op:UInt8):Frm:=if gW op then forms.getD op.toNat ⟨false,false,0,0,false,false⟩ else ⟨false,false,0,0,false,false⟩
theorem AX {α:Type} {f:α→List Value} {z:Nat} (hz:∀ a,(f a).length=z):∀ {l:List α} {i:Nat} (d:α),i<l.length→∀ (j:Nat) u,(f (l.getD i d))[j]? = some u→(l.flatMap f)[i * z+j]? = some u
 | [],i,d,h,j,u,e=>by simp at h
 | a::r,0,d,h,j,u,e=>by
  simp only [List.flatMap_cons,Nat.zero_mul,Nat.zero_add];simp at e;rw [List.getElem?_append_left (List.getElem?_eq_some_iff.1 e).1];exact e
 | a::r,i+1,d,h,j,u,e=>by
  simp only [List.flatMap_cons];rw [List.getElem?_append_right (by rw [hz,Nat.succ_mul];omega),hz,show (i+1) * z+j - z=i * z+j by rw [Nat.succ_mul];omega];exact AX hz d (by simpa using h) j u (by simpa using e)
structure Gl (H:Hp):Prop where
 shapes:dV H 0 0 (shapes.flatMap jM)
 forms:dV H 3 0 (forms.flatMap qG)
 words:dV H 2 0 (words.map aD)
 symbols:dV H 1 0 (symbols.map aD)
theorem Gl.up {H H':Hp} (g:Gl H) (u:Up H H'):Gl H':=⟨g.shapes.up u,g.forms.up u,g.words.up u,g.symbols.up u⟩
mutual
def Ex.all (q:Ex→Bool):Ex→Bool
 | .mk op nm n args=>q (.mk op nm n args) && Ex.alls q args
def Ex.alls (q:Ex→Bool):List Ex→Bool
 | []=>true
 | e::r=>Ex.all q e && Ex.alls q r
end
theorem EI (q:Ex→Bool) (a b:List Ex):Ex.alls q (a++b)=(Ex.alls q a && Ex.alls q b):=by
 induction a with
 | nil=>simp [Ex.alls]
 | cons e r ih=>simp only [List.cons_append,Ex.alls,ih,Bool.and_assoc]
theorem tC {q:Ex→Bool} {l:List Ex} {k:Nat} (h:k<l.length):Ex.alls q (l.take (k+1))=(Ex.alls q (l.take k) && Ex.all q l[k]):=by
 rw [bL h,EI];simp [Ex.alls]
theorem nA {q:Ex→Bool} {l:List Ex} {k:Nat} (h:k<l.length) (hb:Ex.all q l[k]=false):Ex.alls q l=false:=by
 have h1:=EI q (l.take (k+1)) (l.drop (k+1));rw [List.take_append_drop,tC h,hb] at h1;simpa using h1
theorem eW (q:Ex→Bool) (op:UInt8) (nm:Str) (n:Int64) (args:List Ex):Ex.all q (.mk op nm n args)=(q (.mk op nm n args) && Ex.alls q args):=by rw [Ex.all]
mutual
def Sm.all (q:Sm→Bool):Sm→Bool
 | .mk kd nm hd ex th el=>q (.mk kd nm hd ex th el) && Sm.alls q th && Sm.alls q el
def Sm.alls (q:Sm→Bool):List Sm→Bool
 | []=>true
 | e::r=>Sm.all q e && Sm.alls q r
end
theorem fU (q:Sm→Bool) (a b:List Sm):Sm.alls q (a++b)=(Sm.alls q a && Sm.alls q b):=by
 induction a with
 | nil=>simp [Sm.alls]
 | cons e r ih=>simp only [List.cons_append,Sm.alls,ih,Bool.and_assoc]
theorem vO {q:Sm→Bool} {l:List Sm} {k:Nat} (h:k<l.length):Sm.alls q (l.take (k+1))=(Sm.alls q (l.take k) && Sm.all q l[k]):=by
 rw [bL h,fU];simp [Sm.alls]
theorem yA {q:Sm→Bool} {l:List Sm} {k:Nat} (h:k<l.length) (hb:Sm.all q l[k]=false):Sm.alls q l=false:=by
 have h1:=fU q (l.take (k+1)) (l.drop (k+1));rw [List.take_append_drop,vO h,hb] at h1;simpa using h1
theorem fB (q:Sm→Bool) (kd:UInt8) (nm hd:Str) (ex:List Ex) (th el:List Sm):Sm.all q (.mk kd nm hd ex th el)=(q (.mk kd nm hd ex th el) && Sm.alls q th && Sm.alls q el):=by rw [Sm.all]
theorem CH {q:Sm→Bool} {l:List Sm} {k:Nat} (h:k<l.length) (ha:Sm.alls q l=true):Sm.all q l[k]=true:=by
 cases hb:Sm.all q l[k] with
 | true=>rfl
 | false=>rw [yA h hb] at ha;cases ha
def vZ:Sm→Bool
 | .mk _ _ _ ex _ _=>ex.all fun x=>decide (x.depth≤1000000)
def iS:Ex→Bool
 | .mk op nm _ _=>!(aI op).nm || aV nm
def dQ:Ex→Bool
 | .mk op nm n args=>iQ op && decide (args.length=(aI op).n) && ((aI op).nm || decide (nm=[])) && (if op=1 then decide (0≤n.toInt) else decide (n.toInt=0))
def fE (e:Ex):Nat:=if 8<e.depth then 3 else if Ex.all iS e=false then 9 else if Ex.all dQ e=false then 6 else 0
def iF:Sm→Bool
 | .mk kd nm hd ex _ _=>(!(aW kd).nm || aV nm) && (!(aW kd).hd || aV hd) && Ex.alls iS ex
def kD:Sm→Bool
 | .mk kd nm hd ex th el=>gW kd && decide ((aW kd).lo≤ex.length) && decide (ex.length≤(aW kd).hi) && ((aW kd).nm || decide (nm=[])) && ((aW kd).hd || decide (hd=[])) &&
  ((aW kd).th || decide (th.length=0)) && ((aW kd).el || decide (el.length=0)) && Ex.alls dQ ex
theorem fR (kd:UInt8) (nm hd:Str) (ex:List Ex) (th el:List Sm):kD (.mk kd nm hd ex th el) =
 (!(!gW kd || decide ((ex.length:Int)<((aW kd).lo:Nat)) || decide (((aW kd).hi:Nat)<(ex.length:Int))) && !((!(aW kd).nm && decide (¬ nm=[])) || (!(aW kd).hd && decide (¬ hd=[]))) &&
  !((!(aW kd).th && decide ((0:Int)<th.length)) || (!(aW kd).el && decide ((0:Int)<el.length))) && Ex.alls dQ ex):=by
 have h1:decide ((ex.length:Int)<((aW kd).lo:Nat))=!decide ((aW kd).lo≤ex.length):=by rw [Bool.eq_iff_iff];simp
 have h2:decide (((aW kd).hi:Nat)<(ex.length:Int))=!decide (ex.length≤(aW kd).hi):=by rw [Bool.eq_iff_iff];simp
 have h3:decide ((0:Int)<th.length)=!decide (th.length=0):=by rw [Bool.eq_iff_iff];simp only [decide_eq_true_eq,Bool.not_eq_true',decide_eq_false_iff_not];omega
 have h4:decide ((0:Int)<el.length)=!decide (el.length=0):=by rw [Bool.eq_iff_iff];simp only [decide_eq_true_eq,Bool.not_eq_true',decide_eq_false_iff_not];omega
 have h5:decide (¬ nm=[])=!decide (nm=[]):=by simp
 have h6:decide (¬ hd=[])=!decide (hd=[]):=by simp
 rw [kD,h1,h2,h3,h4,h5,h6];generalize decide ((aW kd).lo≤ex.length)=a1;generalize decide (ex.length≤(aW kd).hi)=a2;generalize decide (th.length=0)=a3;generalize decide (el.length=0)=a4;generalize decide (nm=[])=a5;generalize decide (hd=[])=a6;cases gW kd <;> cases a1 <;> cases a2 <;> cases (aW kd).nm <;> cases a5 <;> cases (aW kd).hd <;> cases a6 <;> cases (aW kd).th <;> cases a3 <;> cases (aW kd).el <;> cases a4 <;> simp
def nO:Sm→Bool
 | .mk _ _ _ ex _ _=>ex.all fun x=>decide (x.depth≤8)
def lJ (h:Hd):Bool:=!(decide (4<h.ps.length) || decide (40<Sm.counts h.body) || decide (8<Sm.deeps h.body)) && Sm.alls nO h.body
def kM (h:Hd):Bool:=aV h.nm && h.ps.all aV && Sm.alls iF h.body
def lK (h:Hd):Bool:=Sm.alls kD h.body
def okH (h:Hd):Bool:=decide (Sm.counts h.body≤1000000) && decide (Sm.deeps h.body≤1000000) && Sm.alls vZ h.body
def evH (q:Hd→Bool) (f:Ft):Bool:=f.comps.all fun c=>c.vers.all fun v=>v.all q
def gY (v:Vr):Bool:=if v.ty=1 then decide (v.init.toInt≠-9223372036854775808) else if v.ty=2 then decide (v.init.toInt=0∨v.init.toInt=1) else if v.ty=3 then decide (v.init.toInt=0) else false
theorem dI {α:Type} {q:α→Bool} {l:List α} {k:Nat} (h:k<l.length):(l.take (k+1)).all q=((l.take k).all q && q l[k]):=by
 rw [bL h,List.all_append];simp
theorem cM {α:Type} {q:α→Bool} {l:List α} {k:Nat} (h:k<l.length) (hb:q l[k]=false):l.all q=false:=by
 rw [List.all_eq_false];exact ⟨l[k],List.getElem_mem h,by simp [hb]⟩
theorem lP {α:Type} {q:α→Bool} {l:List α} {k:Nat} (h:k<l.length) (ha:l.all q=true):q l[k]=true:=List.all_eq_true.1 ha _ (List.getElem_mem h)
def lU (q:Hd→Bool) (c:Cp):Bool:=c.vers.all fun v=>v.all q
theorem nL (q:Hd→Bool) (f:Ft):evH q f=f.comps.all (lU q):=rfl
def tW (f:Ft):Bool:=aV f.nm && f.flags.all (fun x=>aV x.nm) && f.links.all (fun x=>aV x.fr && aV x.to) && f.comps.all (fun c=>aV c.nm && c.vars.all fun v=>aV v.nm) && evH kM f
def lkB (x:Lk):Bool:=decide (1≤x.lat.toInt) && decide (x.lat.toInt≤50)
def lY (f:Ft):Bool:=f.links.all lkB && f.comps.all (fun c=>c.vars.all gY) && evH lK f
def CC (ks:List Str) (h:Hd):List Str:=xS ks h.nm
def qC (ks:List Str) (v:List Hd):List Str:=v.foldl CC ks
def uL (c:Cp):List Str:=c.vers.foldl qC []
theorem yP {α β:Type} {f:β→α→β} {a:β} {l:List α} {k:Nat} (h:k<l.length):(l.take (k+1)).foldl f a=f ((l.take k).foldl f a) l[k]:=by
 rw [bL h,List.foldl_append];rfl
def gI (f:Ft):Bool:=decide (1≤f.comps.length) && decide (f.comps.length≤8) && decide (f.flags.length≤8) && decide (f.links.length≤64)
def kA (c:Cp):Bool:=decide (c.vars.length≤8) && decide (1≤c.vers.length) && decide (c.vers.length≤3) && decide ((uL c).length≤8)
def hG (f:Ft):Bool:=gI f && (f.comps.all kA && evH lJ f)
def dA (f:Ft):Nat:=if hG f=false then 3 else if tW f=false then 9 else if lY f=false then 6 else 0
def opT (least:Nat) (x:Nat × Str):Str:=if x.1<least then [40]++x.2++[41] else x.2
def qA (lv:Nat):Nat:=if lv=3 then lv+1 else lv
def txt (op:UInt8) (nm:Str) (n:Int64) (ls:List (Nat × Str)):Str :=
 if op=1 then Lib.itoa n.toInt
 else if op=5∨op=8 then (aI op).tx++nm
 else if op=6∨op=7 then (aI op).tx++nm++[91]++(ls.getD 0 (0,[])).2++[93]
 else if op=9∨op=10 then (aI op).tx++opT (aI op).lv (ls.getD 0 (0,[]))
 else if (aI op).n=0 then (aI op).tx
 else opT (qA (aI op).lv) (ls.getD 0 (0,[]))++(aI op).tx++opT ((aI op).lv+1) (ls.getD 1 (0,[]))
mutual
def Ex.text:Ex→Str
 | .mk op nm n args=>txt op nm n (Ex.texts args)
def Ex.texts:List Ex→List (Nat × Str)
 | []=>[]
 | e::r=>((aI e.op).lv,Ex.text e)::Ex.texts r
end
theorem xU:∀ l:List Ex,Ex.texts l=l.map fun e=>((aI e.op).lv,Ex.text e)
 | []=>rfl
 | e::r=>by rw [Ex.texts,xU r];rfl
theorem bM (op:UInt8) (nm:Str) (n:Int64) (args:List Ex):Ex.text (.mk op nm n args)=txt op nm n (args.map fun e=>((aI e.op).lv,Ex.text e)):=by rw [Ex.text,xU]
theorem cY {α β:Type} {f:α→β} {l:List α} {k:Nat} (h:k<l.length) (d:β):(l.map f).getD k d=f l[k]:=by simp [h]
theorem MS {op:UInt8} (h:iQ op=true):aI op=shapes.getD op.toNat ⟨0,false,0,[]⟩:=by rw [aI,h];rfl
theorem RD {op:UInt8} (h:iQ op=true) (h6:op≠6) (h7:op≠7) (h9:op≠9) (h10:op≠10):(aI op).n=0∨(aI op).n=2:=by
 rw [MS h];simp only [iQ,Bool.and_eq_true,decide_eq_true_eq] at h;have e:∀ v:UInt8,op≠v→op.toNat≠v.toNat:=fun v hv e=>hv (UInt8.toNat_inj.1 e);have key:∀ i∈List.range 24,i=6∨i=7∨i=9∨i=10∨(shapes.getD i ⟨0,false,0,[]⟩).n=0∨(shapes.getD i ⟨0,false,0,[]⟩).n=2:=by decide
 have h1:op.toNat≠6:=e 6 h6;have h2:op.toNat≠7:=e 7 h7;have h3:op.toNat≠9:=e 9 h9;have h4:op.toNat≠10:=e 10 h10;have:=key op.toNat (List.mem_range.2 (by omega));omega
theorem MT (op:UInt8):(aI op).lv≤7:=by
 unfold aI
 split
 ·rename_i h;simp only [iQ,Bool.and_eq_true,decide_eq_true_eq] at h;have key:∀ i∈List.range 24,(shapes.getD i ⟨0,false,0,[]⟩).lv≤7:=by decide
  exact key _ (List.mem_range.2 (by omega))
 ·simp
theorem mJ (op:UInt8):(aI op).tx.length≤10:=by
 unfold aI
 split
 ·rename_i h;simp only [iQ,Bool.and_eq_true,decide_eq_true_eq] at h;have key:∀ i∈List.range 24,(shapes.getD i ⟨0,false,0,[]⟩).tx.length≤10:=by decide
  exact key _ (List.mem_range.2 (by omega))
 ·simp
theorem kL (k:Nat) (x:Nat × Str):x.2.length≤(opT k x).length∧(opT k x).length≤x.2.length+2:=by unfold opT;split <;> simp <;> omega
def spT:Nat→Str
 | 0=>[]
 | k+1=>spT k++[32,32]
def dD (ind:Nat) (parts:List Str):Str:=spT ind++parts.flatten++[10]
theorem zS (k:Nat):(spT k).length=2 * k:=by
 induction k with
 | zero=>rfl
 | succ k ih=>simp [spT,ih];omega
theorem yR {l:List Str} {k:Nat} (h:k<l.length):(l.take (k+1)).flatten=(l.take k).flatten++l[k]:=by
 rw [bL h,List.flatten_append];simp
theorem lZ (l:List Str) (k:Nat):(l.take k).flatten.length≤l.flatten.length:=by
 have:=congrArg (fun m:List Str=>m.flatten.length) (List.take_append_drop k l);simp only [List.flatten_append,List.length_append] at this;omega
def iP (l:List Str):Str:=Lib.join l [44,32]
def jX (n:Nat) (first:Str) (noE:Bool) (E:Str):Str:=if noE then dD n [first,[59]] else dD n [first,[32,101,108,115,101,32,123]]++E++dD n [[125]]
def stT (n:Nat) (kd:UInt8) (nm hd:Str) (es:List Str) (T:Str) (noE:Bool) (E:Str):Str :=
 if kd=1 then dD n [nm,[32,61,32],es.getD 0 [],[59]]
 else if kd=2 then dD n [nm,[91],es.getD 0 [],[93,32,61,32],es.getD 1 [],[59]]
 else if kd=3 then dD n [[100,101,108,101,116,101,32],nm,[91],es.getD 0 [],[93,59]]
 else if kd=4 then dD n [[105,102,32],es.getD 0 [],[32,123]]++T++(if noE then [] else dD n [[125,32,101,108,115,101,32,123]]++E)++dD n [[125]]
 else if kd=5 then dD n [[119,104,105,108,101,32],es.getD 0 [],[32,123]]++T++dD n [[125]]
 else if kd=6 then dD n [[115,101,110,100,32],nm,[46],hd,[40],iP es,[41,59]]
 else if kd=7 then dD n [[97,102,116,101,114,32],es.getD 0 [],[32,100,111,32],hd,[40],iP (es.drop 1),[41,59]]
 else if kd=8 then jX n ([115,116,111,114,101,32]++es.getD 0 []++[32,61,32]++es.getD 1 []) noE E
 else if kd=9 then jX n ([102,101,116,99,104,32]++nm++[32,61,32]++es.getD 0 []) noE E
 else if kd=10 then dD n [[115,116,111,112,59]]
 else []
mutual
def Sm.text (n:Nat):Sm→Str
 | .mk kd nm hd ex th el=>stT n kd nm hd (ex.map Ex.text) (Sm.texts (n+1) th) (decide (el.length=0)) (Sm.texts (n+1) el)
def Sm.texts (n:Nat):List Sm→Str
 | []=>[]
 | s::r=>Sm.text n s++Sm.texts n r
end
theorem aE (n:Nat) (kd:UInt8) (nm hd:Str) (ex:List Ex) (th el:List Sm):Sm.text n (.mk kd nm hd ex th el)=stT n kd nm hd (ex.map Ex.text) (Sm.texts (n+1) th) (decide (el.length=0)) (Sm.texts (n+1) el):=by rw [Sm.text]
theorem vK (n:Nat) (a b:List Sm):Sm.texts n (a++b)=Sm.texts n a++Sm.texts n b:=by
 induction a with
 | nil=>simp [Sm.texts]
 | cons e r ih=>simp only [List.cons_append,Sm.texts,ih,List.append_assoc]
theorem tH {n:Nat} {l:List Sm} {k:Nat} (h:k<l.length):Sm.texts n (l.take (k+1))=Sm.texts n (l.take k)++Sm.text n l[k]:=by
 rw [bL h,vK];simp [Sm.texts]
theorem CB (n:Nat) (l:List Sm) (k:Nat):(Sm.texts n (l.take k)).length≤(Sm.texts n l).length:=by
 have:=vK n (l.take k) (l.drop k);rw [List.take_append_drop] at this;rw [this,List.length_append];omega
def hdT (n:Nat) (h:Hd):Str:=dD n [[111,110,32],h.nm,[40],iP h.ps,[41,32,123]]++Sm.texts (n+1) h.body++dD n [[125]]
def qO (n:Nat) (l:List Hd):Str:=(l.map (hdT n)).flatten
def tU (b:Bool):Str:=if b then [116,114,117,101] else [102,97,108,115,101]
def vrT (n:Nat) (v:Vr):Str:=if v.ty=1 then dD n [[118,97,114,32],v.nm,[58,32,105,110,116,32,61,32],Lib.itoa v.init.toInt,[59]] else if v.ty=2 then dD n [[118,97,114,32],v.nm,[58,32,98,111,111,108,32,61,32],tU (decide (v.init.toInt=1)),[59]] else if v.ty=3 then dD n [[118,97,114,32],v.nm,[58,32,116,97,98,108,101,59]] else []
def vsT (n:Nat) (i:Nat) (v:List Hd):Str:=if i=0 then qO n v else dD n [[118,101,114,115,105,111,110,32],Lib.itoa ((i+1:Nat):Int),[32,123]]++qO (n+1) v++dD n [[125]]
def lH (n:Nat):Nat→List (List Hd)→Str
 | _,[]=>[]
 | i,v::r=>vsT n i v++lH n (i+1) r
def cpT (c:Cp):Str:=dD 1 [[99,111,109,112,111,110,101,110,116,32],c.nm,[32,123]]++(c.vars.map (vrT 2)).flatten++lH 2 0 c.vers++dD 1 [[125]]
def fgT (f:Fg):Str:=dD 1 [[102,108,97,103,32],f.nm,[32,61,32],tU f.init,[59]]
def lkT (l:Lk):Str:=dD 1 [[108,105,110,107,32],l.fr,[32,45,62,32],l.to,[32,108,97,116,101,110,99,121,32],Lib.itoa l.lat.toInt,[59]]
def ftT (f:Ft):Str:=dD 0 [[102,108,101,101,116,32],f.nm,[32,123]]++(f.flags.map fgT).flatten++(f.links.map lkT).flatten++(f.comps.map cpT).flatten++dD 0 [[125]]
theorem eU {α:Type} {g:α→Str} {l:List α} {k:Nat} (h:k<l.length):((l.take (k+1)).map g).flatten=((l.take k).map g).flatten++g l[k]:=by
 rw [bL h,List.map_append,List.flatten_append,List.map_cons,List.map_nil,List.flatten_cons,List.flatten_nil,List.append_nil]
theorem kY {α:Type} {g:α→Str} (l:List α) (k:Nat):((l.take k).map g).flatten.length≤(l.map g).flatten.length:=by
 have:=lZ (l.map g) k
 rwa [← List.map_take] at this
theorem vC (n:Nat):∀ (a:List (List Hd)) (i:Nat) (b:List (List Hd)),lH n i (a++b)=lH n i a++lH n (i+a.length) b
 | [],i,b=>by simp [lH]
 | v::r,i,b=>by
  simp only [List.cons_append,lH,vC n r (i+1) b,List.append_assoc,List.length_cons];rw [show i+1+r.length=i+(r.length+1) by omega]
theorem rX {n:Nat} {l:List (List Hd)} {k:Nat} (h:k<l.length):lH n 0 (l.take (k+1))=lH n 0 (l.take k)++vsT n k l[k]:=by
 rw [bL h,vC,List.length_take,Nat.min_eq_left (by omega)];simp [lH]
theorem IW (n:Nat) (l:List (List Hd)) (k:Nat):(lH n 0 (l.take k)).length≤(lH n 0 l).length:=by
 have:=vC n (l.take k) 0 (l.drop k);rw [List.take_append_drop] at this;rw [this,List.length_append];omega
theorem rL (n:Int64):(Lib.itoa n.toInt).length≤21:=Lib.itoa_length_le n.toInt (by have:=n.le_toInt;omega) (by have:=n.toInt_lt;omega)
theorem gN {l:Str} (h:aV l=true):l.length≤12:=by
 simp only [aV,Bool.and_eq_true,decide_eq_true_eq,beq_iff_eq] at h;obtain ⟨⟨_,h1⟩,h2⟩:=h;unfold aJ at h1 h2;dsimp only at h1 h2
 split at h1
 ·split at h1
  ·simp at h1
  ·split at h1
   ·rename_i a b c;simp only [a,b,c,if_true,Bool.false_eq_true,if_false] at h2;omega
   ·simp at h1
 ·split at h1
  ·split at h1 <;> simp at h1
  ·split at h1 <;> simp at h1
theorem QP (op:UInt8) (nm:Str) (n:Int64) (ls:List (Nat × Str)) (A:Nat) (hA:24≤A) (hn:nm.length≤12) (h:∀ x∈ls,x.2.length≤A):(txt op nm n ls).length≤3 * A:=by
 have hg:∀ i,(ls.getD i (0,[])).2.length≤A:=fun i=>by
  rw [List.getD_eq_getElem?_getD];cases e:ls[i]? with
  | none=>simp
  | some x=>simpa using h x (List.mem_of_getElem? e)
 have h0:=hg 0;have h1:=hg 1;have ht:=mJ op;have hi:=rL n;have o1:=kL (aI op).lv (ls.getD 0 (0,[]));have o2:=kL (qA (aI op).lv) (ls.getD 0 (0,[]));have o3:=kL ((aI op).lv+1) (ls.getD 1 (0,[]));unfold txt
 split
 ·omega
 split
 ·simp only [List.length_append];omega
 split
 ·simp only [List.length_append,List.length_cons,List.length_nil];omega
 split
 ·simp only [List.length_append];omega
 split
 ·omega
 ·simp only [List.length_append];omega
theorem cC {q:Ex→Bool}:∀ {l:List Ex} {a:Ex},a∈l→Ex.alls q l=true→Ex.all q a=true
 | [],a,h,_=>by cases h
 | b::r,a,h,k=>by
  rw [Ex.alls,Bool.and_eq_true] at k;rcases List.mem_cons.1 h with rfl | h
  ·exact k.1
  ·exact cC h k.2
theorem NV {op:UInt8} {nm:Str} {n:Int64} {args:List Ex} (h1:iS (.mk op nm n args)=true) (h2:dQ (.mk op nm n args)=true):nm.length≤12:=by
 simp only [iS,Bool.or_eq_true,Bool.not_eq_true'] at h1;simp only [dQ,Bool.and_eq_true,Bool.or_eq_true,decide_eq_true_eq] at h2;rcases h1 with h1 | h1
 ·rcases h2.1.2 with h2 | h2
  ·rw [h1] at h2;cases h2
  ·simp [h2]
 ·exact gN h1
theorem MI (e:Ex):∀ d,e.depth≤d→Ex.all iS e=true→Ex.all dQ e=true→e.text.length≤24 * 3 ^ d:=by
 induction e using Ex.ind with | _ op nm n args ih
 intro d hd h1 h2;rw [fY] at hd;rw [eW,Bool.and_eq_true] at h1 h2;obtain ⟨d,rfl⟩:∃ k,d=k+1:=⟨d - 1,by omega⟩;rw [bM,Nat.pow_succ,show 24 * (3 ^ d * 3)=3 * (24 * 3 ^ d) by omega];have hp:0<3 ^ d:=Nat.pow_pos (by omega);refine QP _ _ _ _ _ (by omega) (NV h1.1 h2.1) fun x hx=>?_;obtain ⟨a,ha,rfl⟩:=List.mem_map.1 hx;have:=sX ha;exact ih a ha d (by omega) (cC ha h1.2) (cC ha h2.2)
theorem JG {e:Ex} (h:e.depth≤8) (h1:Ex.all iS e=true) (h2:Ex.all dQ e=true):e.text.length≤157464:=MI e 8 h h1 h2
def JC:Sm→Bool
 | .mk kd nm hd ex th el=>kD (.mk kd nm hd ex th el) && ex.all fun x=>decide (x.text.length≤1000000000)
structure Nd where
 op:UInt8
 nm:UInt8
 ct:UInt8
 odd:Bool
 n:Int64
theorem NB {H:Hp} {z b off n c lo:Nat} {ds:List D} (h:Rep H (.seq z ds) [.slice (some ⟨b,off,none⟩) n c]) (hl:lo≤n):Rep H (.seq z (ds.drop lo)) [.slice (some (if c=lo then ⟨b,off,none⟩ else ⟨b,off+lo * z,none⟩)) (n - lo) (c - lo)]:=by
 have hn:=h.len
 by_cases hc:c=lo
 ·rw [if_pos hc];rw [show ds.drop lo=[] from List.drop_of_length_le (by omega),show n - lo=0 by omega];exact .empty (by omega)
 ·rw [if_neg hc];unfold Rep at h;obtain ⟨p',c',h1,h2,h3,h4⟩:=h;injection h1 with h1 _
  injection h1 with h5 h6 h7
  subst h5 h7;rcases h4 with h4 | ⟨b',off',cs,h8,h9,h10⟩
  ·subst h4;rw [List.drop_nil,show n - lo=0 by simp only [List.length_nil] at h6;omega];exact .empty (by omega)
  ·cases h8;exact .mk (h9.drop (lo * z)) (h10.drop lo) (by rw [List.length_drop];omega) (by omega) (by omega)
def nG (e:Ex):Bool:=decide (e.args.length≤3)
theorem pG (op:UInt8) (nm:Str) (n:Int64) (args:List Ex):nG (.mk op nm n args)=decide (args.length≤3):=rfl
def eR (c:UInt8):Bool:=decide (c=32) || decide (c=9) || decide (c=10) || decide (c=13)
def bZ:Bool→Str→Str
 | _,[]=>[]
 | true,c::r=>if c=10 then bZ false r else bZ true r
 | false,c::r=>if eR c then bZ false r else if c=47∧r.head? = some 47 then bZ true r else c::r
theorem mH (b:Bool):bZ b []=[]:=by cases b <;> rfl
theorem JR {c:UInt8} {r:Str} (h:¬ c=10):bZ true (c::r)=bZ true r:=by rw [bZ,if_neg h]
theorem JQ (r:Str):bZ true (10::r)=bZ false (10::r):=by rw [bZ,if_pos rfl,bZ,if_pos (by decide)]
theorem xY {c:UInt8} {r:Str} (h:eR c=true):bZ false (c::r)=bZ false r:=by rw [bZ,if_pos h]
theorem JP (r:Str):bZ false (47::47::r)=bZ true (47::47::r):=by simp [bZ,eR]
theorem iC {c:UInt8} {r:Str} (h:eR c=false) (h2:¬ (c=47∧r.head? = some 47)):bZ false (c::r)=c::r:=by rw [bZ,if_neg (by simp [h]),if_neg h2]
theorem kQ:∀ (l:Str) (b:Bool),∃ p,l=p++bZ b l
 | [],b=>⟨[],by rw [mH];rfl⟩
 | c::r,true=>by
  rw [bZ]
  split
  ·obtain ⟨p,h⟩:=kQ r false;exact ⟨c::p,by rw [List.cons_append,← h]⟩
  ·obtain ⟨p,h⟩:=kQ r true;exact ⟨c::p,by rw [List.cons_append,← h]⟩
 | c::r,false=>by
  rw [bZ]
  split
  ·obtain ⟨p,h⟩:=kQ r false;exact ⟨c::p,by rw [List.cons_append,← h]⟩
  ·split
   ·obtain ⟨p,h⟩:=kQ r true;exact ⟨c::p,by rw [List.cons_append,← h]⟩
   ·exact ⟨[],rfl⟩
theorem fI (b:Bool) (l:Str):(bZ b l).length≤l.length:=by
 obtain ⟨p,h⟩:=kQ l b;have:=congrArg List.length h;rw [List.length_append] at this;omega
theorem EX (b:Bool) (l:Str):l.drop (l.length - (bZ b l).length)=bZ b l:=by
 obtain ⟨p,h⟩:=kQ l b;generalize bZ b l=q at h;subst h;rw [show (p++q).length - q.length=p.length by rw [List.length_append];omega,List.drop_left]
theorem kR {l:Str} (h:l≠[]):1≤(aJ l).2∧(aJ l).2≤l.length:=by
 match l,h with
 | c::r,_ =>
  have hp:∀ q:UInt8→Bool,q c=true→1≤pre q (c::r):=fun q hq=>by unfold pre;rw [List.takeWhile_cons,hq];simp
  cases h1:iK c with
  | true =>
   have h2:=hp eG (by simp [eG,h1]);have h3:=nU eG (c::r);cases h4:words.contains ((c::r).take (pre eG (c::r))) with
   | true=>simp only [aJ,List.headD_cons,h1,h4,if_true];exact ⟨h2,h3⟩
   | false =>
    by_cases h5:pre eG (c::r)≤12
    ·simp only [aJ,List.headD_cons,h1,h4,h5,if_true,Bool.false_eq_true,if_false];exact ⟨h2,h3⟩
    ·simp only [aJ,List.headD_cons,h1,h4,h5,if_true,Bool.false_eq_true,if_false];simp
  | false =>
   cases h4:dX c with
   | true =>
    have h2:=hp dX h4;have h3:=nU dX (c::r)
    by_cases h5:pre dX (c::r)=1∨c≠48
    ·simp only [aJ,List.headD_cons,h1,h4,h5,if_true,Bool.false_eq_true,if_false];exact ⟨h2,h3⟩
    ·simp only [aJ,List.headD_cons,h1,h4,h5,if_true,Bool.false_eq_true,if_false];simp
   | false =>
    cases hx:symbols.find? (fun x=>x.isPrefixOf (c::r)) with
    | none=>simp only [aJ,List.headD_cons,h1,h4,hx,Bool.false_eq_true,if_false];simp
    | some x =>
     have hm:=List.mem_of_find?_eq_some hx;have hpx:=List.find?_some hx
     have hl:x.length≤(c::r).length:=by
      obtain ⟨t,ht⟩:=List.isPrefixOf_iff_prefix.1 hpx;rw [← ht];simp
     have key:∀ y∈symbols,1≤y.length:=by decide
     simp only [aJ,List.headD_cons,h1,h4,hx,Bool.false_eq_true,if_false];exact ⟨key x hm,hl⟩
theorem JW {c:UInt8} {r:Str} (h:(aJ (c::r)).1=1):iK c=true:=by
 cases h1:iK c with
 | true=>rfl
 | false =>
  cases h4:dX c with
  | true =>
   by_cases h5:pre dX (c::r)=1∨c≠48
   ·simp only [aJ,List.headD_cons,h1,h4,h5,if_true,Bool.false_eq_true,if_false] at h;simp at h
   ·simp only [aJ,List.headD_cons,h1,h4,h5,if_true,Bool.false_eq_true,if_false] at h;simp at h
  | false =>
   cases hx:symbols.find? (fun x=>x.isPrefixOf (c::r)) <;> simp only [aJ,List.headD_cons,h1,h4,hx,Bool.false_eq_true,if_false] at h <;> simp at h
structure Tk where
 k:UInt8
 t:Str
 o:Nat
def dTk (k:IntKind) (x:Tk):D:=.str [.val (.int k x.k.toNat),.val (aD x.t),.val (.int .i64 (x.o:Nat))]
def cTk (k:IntKind) (x:Tk):List Value:=[.int k x.k.toNat,aD x.t,.int .i64 (x.o:Nat)]
theorem GV {H:Hp} {k:IntKind} {x:Tk} {cs:List Value} (h:Rep H (dTk k x) cs):cs=cTk k x∧x.t.length≤1000000:=by
 rw [dTk,kC] at h;obtain ⟨_,rfl,_,_,h⟩:=aT.1 h;obtain ⟨_,rfl,_,k0,h⟩:=aT.1 h;obtain ⟨_,rfl,_,_,h⟩:=aT.1 h;rw [dF] at h;subst h;exact ⟨rfl,okS.1 k0⟩
theorem GU {H:Hp} {k:IntKind} {x:Tk} (h:x.t.length≤1000000):Rep H (dTk k x) (cTk k x):=by
 rw [dTk,kC];exact aT.2 ⟨_,rfl,rfl,trivial,aT.2 ⟨_,rfl,rfl,okS.2 h,aT.2 ⟨_,rfl,rfl,trivial,dF.2 rfl⟩⟩⟩
def pW:Nat→Nat→Str→List Tk
 | 0,_,_=>[]
 | f+1,o,m=>if m=[] then [] else ⟨(aJ m).1,m.take (aJ m).2,o⟩::pW f (o+(m.length - (bZ false (m.drop (aJ m).2)).length)) (bZ false (m.drop (aJ m).2))
def gP (s:Str):List Tk:=pW (s.length+1) (s.length - (bZ false s).length) (bZ false s)
theorem iW {f o:Nat} {m:Str} (h:m≠[]):pW (f+1) o m=⟨(aJ m).1,m.take (aJ m).2,o⟩::pW f (o+(m.length - (bZ false (m.drop (aJ m).2)).length)) (bZ false (m.drop (aJ m).2)):=by rw [pW,if_neg h]
theorem jU (f o:Nat):pW f o []=[]:=by cases f <;> simp [pW]
theorem rZ:∀ (f g o:Nat) (m:Str),m.length<f→m.length<g→pW f o m=pW g o m
 | 0,_,_,_,h,_=>by omega
 | _,0,_,_,_,h=>by omega
 | f+1,g+1,o,m,h,k=>by
  by_cases h0:m=[]
  ·subst h0;rw [jU,jU]
  ·rw [iW h0,iW h0];have hr:=kR h0;have hs:=fI false (m.drop (aJ m).2);rw [List.length_drop] at hs;rw [rZ f g _ _ (by omega) (by omega)]
end Go.Proofs.YthhoebdlfjffkaaGreatDoor
namespace Go.Proofs.YthhoebdlfjffkaaGreatDoor
inductive Rs (α:Type) where
 | ok (a:α) (r:List Tk)
 | er (r:List Tk) (code:Nat)
def Rs.bind {α β:Type} (x:Rs α) (f:α→List Tk→Rs β):Rs β:=match x with | .ok a r=>f a r | .er r c=>.er r c
def isT (w:Str):List Tk→Bool
 | []=>false
 | t::_=>(t.k == 2 || t.k == 4) && decide (t.t=w)
def jA {α:Type} (w:Str) (r:List Tk) (f:List Tk→Rs α):Rs α:=if isT w r then f r.tail else .er r 8
def lO {α:Type} (r:List Tk) (f:Str→List Tk→Rs α):Rs α:=match r with | []=>.er r 8 | t::q=>if t.k=1 then f t.t q else .er r 8
def fO (s:Str):Nat:=s.foldl (fun v c=>10 * v+(c.toNat - 48)) 0
def nV:Nat→List (Str × UInt8)
 | 0=>[([111,114],23)]
 | 1=>[([97,110,100],22)]
 | 2=>[([61,61],16),([33,61],17),([60],18),([60,61],19),([62],20),([62,61],21)]
 | 3=>[([43],14),([45],15)]
 | _=>[([42],11),([47],12),([37],13)]
def opAt (lv:Nat) (r:List Tk):Option UInt8:=((nV lv).find? fun x=>isT x.1 r).map (·.2)
inductive Md where
 | ex (lv:Nat)
 | lp (lv:Nat) (a:Ex)
def opE (op:UInt8) (l:List Ex):Ex:=.mk op [] 0 l
def gA (rec:List Tk→Rs Ex) (r:List Tk):Rs Ex :=
 match r with
 | []=>.er r 8
 | t::q =>
  if t.k=3 then (if fO t.t≤9223372036854775807 then .ok (.mk 1 [] (Int64.ofNat (fO t.t)) []) q else .er r 2)
  else if isT [116,114,117,101] r then .ok (opE 2 []) q
  else if isT [102,97,108,115,101] r then .ok (opE 3 []) q
  else if isT [110,111,119] r then .ok (opE 4 []) q
  else if isT [115,105,122,101] r then lO q fun s r2=>.ok (.mk 8 s 0 []) r2
  else if isT [40] r then (rec q).bind fun x r2=>jA [41] r2 fun r3=>.ok x r3
  else if isT [104,97,115] r then lO q fun s r2=>jA [91] r2 fun r3=>(rec r3).bind fun x r4=>jA [93] r4 fun r5=>.ok (.mk 7 s 0 [x]) r5
  else if t.k=1 then (if isT [91] q then (rec q.tail).bind fun x r4=>jA [93] r4 fun r5=>.ok (.mk 6 t.t 0 [x]) r5 else .ok (.mk 5 t.t 0 []) q)
  else .er r 8
def pE:Nat→Md→List Tk→Rs Ex
 | 0,_,r=>.er r 99
 | f+1,.ex lv,r =>
  if lv<5 then (pE f (.ex (lv+1)) r).bind fun a r1=>pE f (.lp lv a) r1
  else if isT [45] r then (pE f (.ex 5) r.tail).bind fun x r2=>.ok (opE 9 [x]) r2
  else if isT [110,111,116] r then (pE f (.ex 5) r.tail).bind fun x r2=>.ok (opE 10 [x]) r2
  else gA (pE f (.ex 0)) r
 | f+1,.lp lv a,r =>
  match opAt lv r with
  | none=>.ok a r
  | some op=>(pE f (.ex (lv+1)) r.tail).bind fun b r2=>if lv=2 then .ok (opE op [a,b]) r2 else pE f (.lp lv (opE op [a,b])) r2
/-! ### Enough fuel -/
theorem ifC {α:Type} {c:Prop} [Decidable c] {x y u v:α} (h1:x=u) (h2:y=v):(if c then x else y)=(if c then u else v):=by rw [h1,h2]
theorem ifI {α:Type} {c d:Prop} [Decidable c] [Decidable d] {x y:α} (h:c↔d):(if c then x else y)=(if d then x else y):=by
 by_cases e:c
 ·rw [if_pos e,if_pos (h.1 e)]
 ·rw [if_neg e,if_neg (fun k=>e (h.2 k))]
theorem eE {w:Str} {r:List Tk} (h:isT w r=true):r.length=r.tail.length+1:=by cases r with | nil=>cases h | cons t q=>rfl
theorem uI {lv:Nat} {r:List Tk} {op:UInt8} (h:opAt lv r=some op):r.length=r.tail.length+1:=by
 unfold opAt at h;obtain ⟨x,hx,_⟩:=Option.map_eq_some_iff.1 h;exact eE (w:=x.1) (by have:=List.find?_some hx;exact this)
theorem Rs.bind_ok {α β:Type} {x:Rs α} {f:α→List Tk→Rs β} {b:β} {r:List Tk} (h:x.bind f=.ok b r):∃ a q,x=.ok a q∧f a q=.ok b r:=by
 cases x with
 | ok a q=>exact ⟨a,q,rfl,h⟩
 | er q c=>cases h
theorem gM {α:Type} {w:Str} {r:List Tk} {f:List Tk→Rs α} {a:α} {q:List Tk} (h:jA w r f=.ok a q):isT w r=true∧f r.tail=.ok a q:=by
 unfold jA at h
 split at h
 ·rename_i e;exact ⟨e,h⟩
 ·cases h
theorem mS {α:Type} {r:List Tk} {f:Str→List Tk→Rs α} {a:α} {q:List Tk} (h:lO r f=.ok a q):∃ t r',r=t::r'∧t.k=1∧f t.t r'=.ok a q:=by
 unfold lO at h;cases r with
 | nil=>cases h
 | cons t r' =>
  by_cases e:t.k=1
  ·simp only [e,if_true] at h;exact ⟨t,r',rfl,e,h⟩
  ·simp only [e,if_false] at h;cases h
theorem JZ {rec:List Tk→Rs Ex} (hr:∀ q a r',rec q=.ok a r'→r'.length≤q.length) {r:List Tk} {a:Ex} {r':List Tk} (h:gA rec r=.ok a r'):r'.length<r.length:=by
 unfold gA at h;cases r with
 | nil=>cases h
 | cons t q =>
  simp only at h
  have fin:∀ {b:Ex} {l:List Tk},(Rs.ok b l:Rs Ex)=.ok a r'→l.length≤q.length→r'.length<(t::q).length:=by
   intro b l e hl;injection e with _ e;subst e;simp;omega
  split at h
  ·split at h
   ·exact fin h (Nat.le_refl _)
   ·cases h
  split at h
  ·exact fin h (Nat.le_refl _)
  split at h
  ·exact fin h (Nat.le_refl _)
  split at h
  ·exact fin h (Nat.le_refl _)
  split at h
  ·obtain ⟨t2,r2,rfl,_,h⟩:=mS h;exact fin h (by simp)
  split at h
  ·obtain ⟨x,r2,h1,h⟩:=Rs.bind_ok h;obtain ⟨h2,h⟩:=gM h;have:=hr _ _ _ h1;have:=eE h2;exact fin h (by omega)
  split at h
  ·obtain ⟨t2,r2,rfl,_,h⟩:=mS h;obtain ⟨h2,h⟩:=gM h;obtain ⟨x,r4,h1,h⟩:=Rs.bind_ok h;obtain ⟨h3,h⟩:=gM h;have:=hr _ _ _ h1;have:=eE h2;have:=eE h3;exact fin h (by simp;omega)
  split at h
  ·split at h
   ·rename_i h2;obtain ⟨x,r4,h1,h⟩:=Rs.bind_ok h;obtain ⟨h3,h⟩:=gM h;have:=hr _ _ _ h1;have:=eE h2;have:=eE h3;exact fin h (by omega)
   ·exact fin h (Nat.le_refl _)
  ·cases h
theorem qJ:∀ (f:Nat),(∀ lv r a r',pE f (.ex lv) r=.ok a r'→r'.length<r.length)∧(∀ lv x r a r',pE f (.lp lv x) r=.ok a r'→r'.length≤r.length)
 | 0=>⟨fun _ _ _ _ h=>(by cases h),fun _ _ _ _ _ h=>(by cases h)⟩
 | f+1=>by
  obtain ⟨ih1,ih2⟩:=qJ f;refine ⟨fun lv r a r' h=>?_,fun lv x r a r' h=>?_⟩
  ·unfold pE at h
   split at h
   ·obtain ⟨b,q,h1,h2⟩:=Rs.bind_ok h;have:=ih1 _ _ _ _ h1;have:=ih2 _ _ _ _ _ h2;omega
   split at h
   ·rename_i e;obtain ⟨b,q,h1,h2⟩:=Rs.bind_ok h;have:=ih1 _ _ _ _ h1;have:=eE e;injection h2 with _ e2;subst e2;omega
   split at h
   ·rename_i e;obtain ⟨b,q,h1,h2⟩:=Rs.bind_ok h;have:=ih1 _ _ _ _ h1;have:=eE e;injection h2 with _ e2;subst e2;omega
   ·exact JZ (fun q b r2 e=>Nat.le_of_lt (ih1 _ _ _ _ e)) h
  ·unfold pE at h
   split at h
   ·injection h with _ e;subst e;exact Nat.le_refl _
   ·rename_i op e;obtain ⟨b,q,h1,h2⟩:=Rs.bind_ok h;have:=ih1 _ _ _ _ h1;have:=uI e
    split at h2
    ·injection h2 with _ e2;subst e2;omega
    ·have:=ih2 _ _ _ _ _ h2;omega
theorem Rs.bind_congr {α β:Type} {x y:Rs α} {f g:α→List Tk→Rs β} (h:x=y) (k:∀ a r,x=.ok a r→f a r=g a r):x.bind f=y.bind g:=by
 subst h;cases x with
 | ok a r=>exact k a r rfl
 | er r c=>rfl
theorem tK {rec rec':List Tk→Rs Ex} {r:List Tk} (h:∀ q,q.length<r.length→rec q=rec' q):gA rec r=gA rec' r:=by
 unfold gA;cases r with
 | nil=>rfl
 | cons t q =>
  have hb:∀ (z:List Tk) (g:Ex→List Tk→Rs Ex),z.length≤q.length→(rec z).bind g=(rec' z).bind g:=fun z g hz=>by rw [h z (by simp;omega)]
  have ht:∀ z:List Tk,z.tail.length≤z.length:=fun z=>by simp
  simp only;rw [hb q _ (Nat.le_refl _),hb q.tail _ (ht q)];refine ifC rfl (ifC rfl (ifC rfl (ifC rfl (ifC rfl (ifC rfl (ifC ?_ rfl))))));unfold lO;cases q with
  | nil=>rfl
  | cons t2 r2 =>
   simp only;refine ifC ?_ rfl;unfold jA;refine ifC ?_ rfl;exact hb _ _ (by simp;omega)
def jK:Md→List Tk→Nat
 | .ex lv,r=>16 * r.length+9 - lv
 | .lp _ _,r=>16 * r.length+9
theorem vW (f lv:Nat) (r:List Tk):pE (f+1) (.ex lv) r=if lv<5 then (pE f (.ex (lv+1)) r).bind fun a r1=>pE f (.lp lv a) r1
 else if isT [45] r then (pE f (.ex 5) r.tail).bind fun x r2=>.ok (opE 9 [x]) r2
 else if isT [110,111,116] r then (pE f (.ex 5) r.tail).bind fun x r2=>.ok (opE 10 [x]) r2
 else gA (pE f (.ex 0)) r:=by rw [pE]
theorem vV (f lv:Nat) (a:Ex) (r:List Tk):pE (f+1) (.lp lv a) r=match opAt lv r with
 | none=>.ok a r
 | some op=>(pE f (.ex (lv+1)) r.tail).bind fun b r2=>if lv=2 then .ok (opE op [a,b]) r2 else pE f (.lp lv (opE op [a,b])) r2:=by rw [pE]
theorem zY:∀ (f:Nat),(∀ lv r,lv≤5→jK (.ex lv) r≤f→pE (f+1) (.ex lv) r=pE f (.ex lv) r)∧(∀ lv x r,lv≤4→jK (.lp lv x) r≤f→pE (f+1) (.lp lv x) r=pE f (.lp lv x) r)
 | 0=>⟨fun lv r h1 h=>by simp only [jK] at h;omega,fun lv x r h1 h=>by simp only [jK] at h;omega⟩
 | f+1=>by
  obtain ⟨ih1,ih2⟩:=zY f;simp only [jK] at ih1 ih2 ⊢;refine ⟨fun lv r h5 h=>?_,fun lv x r h4 h=>?_⟩
  ·rw [vW (f+1) lv r,vW f lv r]
   by_cases hlv:lv<5
   ·rw [if_pos hlv,if_pos hlv];refine Rs.bind_congr (ih1 _ _ (by omega) (by omega)) fun a q e=>?_;have:=(qJ (f+1)).1 _ _ _ _ e;exact ih2 _ _ _ (by omega) (by omega)
   rw [if_neg hlv,if_neg hlv]
   by_cases e:isT [45] r=true
   ·have:=eE e;rw [if_pos e,if_pos e];exact Rs.bind_congr (ih1 _ _ (by omega) (by omega)) fun _ _ _=>rfl
   rw [if_neg e,if_neg e]
   by_cases e:isT [110,111,116] r=true
   ·have:=eE e;rw [if_pos e,if_pos e];exact Rs.bind_congr (ih1 _ _ (by omega) (by omega)) fun _ _ _=>rfl
   rw [if_neg e,if_neg e];exact tK fun q hq=>ih1 _ _ (by omega) (by omega)
  ·rw [vV (f+1) lv x r,vV f lv x r];cases e:opAt lv r with
   | none=>rfl
   | some op =>
    simp only;have:=uI e;refine Rs.bind_congr (ih1 _ _ (by omega) (by omega)) fun a q e=>?_;have:=(qJ (f+1)).1 _ _ _ _ e;refine ifC rfl ?_;exact ih2 _ _ _ (by omega) (by omega)
theorem HD {f g lv:Nat} {r:List Tk} (h5:lv≤5) (h:jK (.ex lv) r≤f) (hg:f≤g):pE g (.ex lv) r=pE f (.ex lv) r:=by
 induction g with
 | zero => have : f = 0 := by omega
           rw [this]
 | succ g ih =>
  by_cases e:f=g+1
  ·rw [e]
  ·rw [(zY g).1 lv r h5 (by omega)];exact ih (by omega)
theorem CV {f g lv:Nat} {a:Ex} {r:List Tk} (h5:lv≤4) (h:jK (.lp lv a) r≤f) (hg:f≤g):pE g (.lp lv a) r=pE f (.lp lv a) r:=by
 induction g with
 | zero => have : f = 0 := by omega
           rw [this]
 | succ g ih =>
  by_cases e:f=g+1
  ·rw [e]
  ·rw [(zY g).2 lv a r h5 (by omega)];exact ih (by omega)
def pX (lv:Nat) (r:List Tk):Rs Ex:=pE (16 * r.length+9) (.ex lv) r
def pL (lv:Nat) (a:Ex) (r:List Tk):Rs Ex:=pE (16 * r.length+9) (.lp lv a) r
theorem CU {f lv:Nat} {r:List Tk} (h5:lv≤5) (h:jK (.ex lv) r≤f):pE f (.ex lv) r=pX lv r:=by
 unfold pX;rcases Nat.le_total f (16 * r.length+9) with h1 | h1
 ·rw [HD h5 h h1]
 ·rw [HD h5 (by simp only [jK];omega) h1]
theorem TW {f lv:Nat} {a:Ex} {r:List Tk} (h5:lv≤4) (h:jK (.lp lv a) r≤f):pE f (.lp lv a) r=pL lv a r:=by
 unfold pL;rcases Nat.le_total f (16 * r.length+9) with h1 | h1
 ·rw [CV h5 h h1]
 ·rw [CV h5 (by simp only [jK];omega) h1]
theorem zX {lv:Nat} {r:List Tk} (h:lv<5):pX lv r=(pX (lv+1) r).bind fun a q=>pL lv a q:=by
 conv=>lhs;unfold pX
 rw [show 16 * r.length+9=(16 * r.length+8)+1 by omega,vW,if_pos h];refine Rs.bind_congr (CU (by omega) (by simp only [jK];omega)) fun a q e=>?_;have:=(qJ _).1 _ _ _ _ e;exact TW (by omega) (by simp only [jK];omega)
theorem qZ {r:List Tk}:pX 5 r=if isT [45] r then (pX 5 r.tail).bind fun x r2=>.ok (opE 9 [x]) r2 else if isT [110,111,116] r then (pX 5 r.tail).bind fun x r2=>.ok (opE 10 [x]) r2 else gA (pX 0) r:=by
 conv=>lhs;unfold pX
 rw [show 16 * r.length+9=(16 * r.length+8)+1 by omega,vW,if_neg (by omega)]
 by_cases e:isT [45] r=true
 ·have:=eE e;rw [if_pos e,if_pos e];exact Rs.bind_congr (CU (by omega) (by simp only [jK];omega)) fun _ _ _=>rfl
 rw [if_neg e,if_neg e]
 by_cases e:isT [110,111,116] r=true
 ·have:=eE e;rw [if_pos e,if_pos e];exact Rs.bind_congr (CU (by omega) (by simp only [jK];omega)) fun _ _ _=>rfl
 rw [if_neg e,if_neg e];exact tK fun q hq=>CU (by omega) (by simp only [jK];omega)
theorem pC {lv:Nat} {a:Ex} {r:List Tk} (h:opAt lv r=none):pL lv a r=.ok a r:=by
 unfold pL;rw [show 16 * r.length+9=(16 * r.length+8)+1 by omega,vV];rw [h]
theorem HC {lv:Nat} {a:Ex} {r:List Tk} {op:UInt8} (hl:lv≤4) (h:opAt lv r=some op):pL lv a r=(pX (lv+1) r.tail).bind fun b r2=>if lv=2 then .ok (opE op [a,b]) r2 else pL lv (opE op [a,b]) r2:=by
 conv=>lhs;unfold pL
 rw [show 16 * r.length+9=(16 * r.length+8)+1 by omega,vV];rw [h];have:=uI h;refine Rs.bind_congr (CU (by omega) (by simp only [jK];omega)) fun b q e=>?_;have:=(qJ _).1 _ _ _ _ e;refine ifC rfl ?_;exact TW hl (by simp only [jK];omega)
end Go.Proofs.YthhoebdlfjffkaaGreatDoor
namespace Go.Plain
open Go.Lib

theorem digits_more (x:Nat) (h:¬ x<10):decDigits x=decDigits (x / 10)++[UInt8.ofNat (48+x % 10)]:=by
 rw [decDigits,dif_neg h]
theorem digit_nat (d:Nat) (h:d<10):(UInt8.ofNat (48+d)).toNat=48+d:=by
 rw [UInt8.toNat_ofNat'];omega
theorem digits_are:∀ (u:Nat) (c:UInt8),c∈decDigits u→48≤c.toNat∧c.toNat≤57:=by
 intro u;induction u using Nat.strongRecOn with
 | _ u ih =>
  intro c hc
  by_cases h:u<10
  ·rw [decDigits_one h] at hc;obtain rfl:=List.mem_singleton.1 hc;rw [digit_nat u h];omega
  ·rw [digits_more u h] at hc;rcases List.mem_append.1 hc with hc | hc
   ·exact ih (u / 10) (by omega) c hc
   ·obtain rfl:=List.mem_singleton.1 hc;rw [digit_nat (u % 10) (by omega)];omega
end Go.Plain
namespace Go.Proofs.YthhoebdlfjffkaaGreatDoor
abbrev Kt:=UInt8 × Str
def kt (t:Tk):Kt:=(t.k,t.t)
def isK (w:Str) (x:Kt):Bool:=(x.1 == 2 || x.1 == 4) && decide (x.2=w)
def opK (lv:Nat) (x:Kt):Option UInt8:=((nV lv).find? fun y=>isK y.1 x).map (·.2)
theorem cN (w:Str) (t:Tk) (r:List Tk):isT w (t::r)=isK w (kt t):=rfl
theorem KD (lv:Nat) (t:Tk) (r:List Tk):opAt lv (t::r)=opK lv (kt t):=rfl
def pY (n lv:Nat) (l:List Kt):List Kt:=if lv<n then (4,[40])::(l++[(4,[41])]) else l
def qV (op:UInt8):Kt:=(if op=22∨op=23 then 2 else 4,((aI op).tx.drop 1).dropLast)
def ktx (op:UInt8) (nm:Str) (n:Int64) (ls:List (Nat × List Kt)):List Kt :=
 if op=1 then [(3,Lib.itoa n.toInt)]
 else if op=5 then [(1,nm)]
 else if op=8 then [(2,[115,105,122,101]),(1,nm)]
 else if op=6 then (1,nm)::(4,[91])::((ls.getD 0 (0,[])).2++[(4,[93])])
 else if op=7 then (2,[104,97,115])::(1,nm)::(4,[91])::((ls.getD 0 (0,[])).2++[(4,[93])])
 else if op=9 then (4,[45])::pY 6 (ls.getD 0 (0,[])).1 (ls.getD 0 (0,[])).2
 else if op=10 then (2,[110,111,116])::pY 6 (ls.getD 0 (0,[])).1 (ls.getD 0 (0,[])).2
 else if (aI op).n=0 then [(2,(aI op).tx)]
 else pY (qA (aI op).lv) (ls.getD 0 (0,[])).1 (ls.getD 0 (0,[])).2++qV op::pY ((aI op).lv+1) (ls.getD 1 (0,[])).1 (ls.getD 1 (0,[])).2
mutual
def ktE:Ex→List Kt
 | .mk op nm n args=>ktx op nm n (XS args)
def XS:List Ex→List (Nat × List Kt)
 | []=>[]
 | e::r=>((aI e.op).lv,ktE e)::XS r
end
def Ex.lv (e:Ex):Nat:=(aI e.op).lv
def Stp (j:Nat) (r:List Tk):Prop:=(∀ i,j≤i→i≤4→opAt i r=none)∧isT [91] r=false
theorem Stp.up {i j:Nat} {r:List Tk} (h:Stp i r) (hij:i≤j):Stp j r:=⟨fun k h1 h2=>h.1 k (by omega) h2,h.2⟩
theorem Stp.of {j:Nat} {t:Tk} {r:List Tk} (h:∀ i∈List.range 5,j≤i→opK i (kt t)=none) (h2:isK [91] (kt t)=false):Stp j (t::r) :=
 ⟨fun i h1 h3=>h i (List.mem_range.2 (by omega)) h1,h2⟩
theorem CT {l:List Tk} {a:Ex} {r:List Tk}:∀ (d lv j:Nat),j=lv+1+d→j≤5→pX j l=.ok a r→Stp (lv+1) r→pX lv l=pL lv a r
 | 0,lv,j,e,hj,h,_=>by
  rw [zX (by omega),show lv+1=j by omega,h];rfl
 | d+1,lv,j,e,hj,h,hs=>by
  have:=CT d (lv+1) j (by omega) hj h (hs.up (by omega));rw [zX (by omega),this,pC (hs.1 _ (Nat.le_refl _) (by omega))];rfl
def Rd (e:Ex):Prop:=∀ le r,le.map kt=ktE e→(∀ lv,lv≤4→lv+1≤e.lv→Stp (lv+1) r→pX lv (le++r)=if lv=2∧e.lv=3 then .ok e r else pL lv e r)∧(6≤e.lv→isT [91] r=false→pX 5 (le++r)=.ok e r)
theorem Rd.full {e:Ex} (h:Rd e) {le r:List Tk} (hk:le.map kt=ktE e) {lv:Nat} (h5:lv≤5) (hl:lv+1≤e.lv) (hs:Stp lv r):pX lv (le++r)=.ok e r:=by
 by_cases e5:lv=5
 ·subst e5;exact (h le r hk).2 hl hs.2
 ·rw [(h le r hk).1 lv (by omega) hl (hs.up (by omega)),pC (hs.1 lv (Nat.le_refl _) (by omega))]
  split <;> rfl
theorem Rd.of {e:Ex} (h6:6≤e.lv) (h:∀ le r,le.map kt=ktE e→isT [91] r=false→pX 5 (le++r)=.ok e r):Rd e:=fun le r hk=>by
 refine ⟨fun lv hl h1 hs=>?_,fun _=>h le r hk⟩;rw [if_neg (by omega)];exact CT (4 - lv) lv 5 (by omega) (by omega) (h le r hk hs.2) hs
theorem Rd.par {e:Ex} (h:Rd e) (h1:1≤e.lv) {le r:List Tk} (hk:le.map kt=(4,[40])::(ktE e++[(4,[41])])):pX 5 (le++r)=.ok e r:=by
 obtain ⟨t,l1,rfl,ht,hk⟩:=List.map_eq_cons_iff.1 hk;obtain ⟨l2,l3,rfl,h2,h3⟩:=List.map_eq_append_iff.1 hk;obtain ⟨t2,l4,rfl,ht2,h4⟩:=List.map_eq_cons_iff.1 h3;obtain rfl:=List.map_eq_nil_iff.1 h4;simp only [List.cons_append,List.append_assoc,List.nil_append];have hf:=h.full h2 (r:=t2::r) (lv:=0) (by omega) h1 (.of (by rw [ht2];decide) (by rw [ht2];decide));rw [qZ,cN,cN,ht,if_neg (by decide),if_neg (by decide),gA];have hk0:t.k=4:=congrArg Prod.fst ht;simp only [cN,ht];rw [if_neg (by rw [hk0];decide),if_neg (by decide),if_neg (by decide),if_neg (by decide),if_neg (by decide),if_pos (by decide),hf];show jA [41] (t2::r) _=_;rw [jA,cN,ht2,if_pos (by decide)]
 rfl
theorem Rd.opnd {e:Ex} (h:Rd e) (h1:1≤e.lv) {n:Nat} {le r:List Tk} (hk:le.map kt=pY n e.lv (ktE e)) (hn:n≤6) (h0:0<n) (hs:Stp (n - 1) r):pX (n - 1) (le++r)=.ok e r:=by
 unfold pY at hk
 split at hk
 ·have hp:=h.par h1 hk (r:=r)
  by_cases e5:n=6
  ·subst e5;exact hp
  ·rw [CT (5 - n) (n - 1) 5 (by omega) (by omega) hp (hs.up (by omega)),pC (hs.1 _ (Nat.le_refl _) (by omega))]
 ·exact h.full hk (by omega) (by omega) hs
theorem Rd.left {e:Ex} (h:Rd e) (h1:1≤e.lv) {lv:Nat} {le r:List Tk} (hk:le.map kt=pY (lv+1) e.lv (ktE e)) (hn:lv≤4) (h2:lv≠2) (hs:Stp (lv+1) r):pX lv (le++r)=pL lv e r:=by
 unfold pY at hk
 split at hk
 ·exact CT (4 - lv) lv 5 (by omega) (by omega) (h.par h1 hk (r:=r)) hs
 ·rw [(h le r hk).1 lv hn (by omega) hs,if_neg (by omega)]
theorem tO (u:Nat):fO (Lib.decDigits u)=u:=by
 induction u using Nat.strongRecOn with
 | _ u ih =>
  by_cases h:u<10
  ·rw [Lib.decDigits_one h];simp only [fO,List.foldl_cons,List.foldl_nil,Plain.digit_nat u h];omega
  ·rw [Plain.digits_more u h];have:=ih (u / 10) (by omega);unfold fO at this ⊢;rw [List.foldl_append,this];simp only [List.foldl_cons,List.foldl_nil,Plain.digit_nat (u % 10) (by omega)];omega
theorem KK {n:Int} (h:0≤n):fO (Lib.itoa n)=n.toNat:=by
 unfold Lib.itoa;rw [if_neg (by omega),tO]
theorem rC {op:UInt8} (h:iQ op=true):op∈([1,2,3,4,5,6,7,8,9,10,11,12,13,14,15,16,17,18,19,20,21,22,23]:List UInt8):=by
 simp only [iQ,Bool.and_eq_true,decide_eq_true_eq] at h;have key:∀ i∈List.range 24,1≤i→UInt8.ofNat i∈([1,2,3,4,5,6,7,8,9,10,11,12,13,14,15,16,17,18,19,20,21,22,23]:List UInt8):=by decide
 have:=key op.toNat (List.mem_range.2 (by omega)) h.1
 rwa [UInt8.ofNat_toNat] at this
theorem vY {op:UInt8} (h:iQ op=true):op=1∨op∈([11,12,13,14,15,16,17,18,19,20,21,22,23]:List UInt8)∨(op=2∨op=3∨op=4∨op=5∨op=6∨op=7∨op=8∨op=9∨op=10):=by
 have key:∀ o∈([1,2,3,4,5,6,7,8,9,10,11,12,13,14,15,16,17,18,19,20,21,22,23]:List UInt8),o=1∨o∈([11,12,13,14,15,16,17,18,19,20,21,22,23]:List UInt8)∨(o=2∨o=3∨o=4∨o=5∨o=6∨o=7∨o=8∨o=9∨o=10):=by decide
 exact key op (rC h)
theorem XD {op:UInt8} (h:iQ op=true):1≤(aI op).lv:=by
 have key:∀ o∈([1,2,3,4,5,6,7,8,9,10,11,12,13,14,15,16,17,18,19,20,21,22,23]:List UInt8),1≤(aI o).lv:=by decide
 exact key op (rC h)
theorem zG {l:List Ex} (h:l.length=0):l=[]:=List.eq_nil_of_length_eq_zero h
theorem rW {l:List Ex} (h:l.length=1):∃ a,l=[a]:=List.length_eq_one_iff.1 h
theorem jL {l:List Ex} (h:l.length=2):∃ a b,l=[a,b]:=by
 match l,h with
 | [a,b],_=>exact ⟨a,b,rfl⟩
theorem wK {n:Int64} (h:n.toInt=0):n=0:=Int64.toInt_inj.1 (by rw [h];rfl)
def binOp (op:UInt8):Bool:=decide (11≤op.toNat) && decide (op.toNat≤23)
theorem mZ:∀ op∈([11,12,13,14,15,16,17,18,19,20,21,22,23]:List UInt8),(aI op).n=2∧(aI op).nm=false∧1≤(aI op).lv∧(aI op).lv≤5∧opK ((aI op).lv - 1) (qV op)=some op∧isK [91] (qV op)=false ∧
 (∀ i∈List.range 5,(aI op).lv≤i→opK i (qV op)=none)∧¬ op=1∧¬ op=5∧¬ op=8∧¬ op=6∧¬ op=7∧¬ op=9∧¬ op=10:=by decide
theorem AL {op:UInt8} (h:op∈([11,12,13,14,15,16,17,18,19,20,21,22,23]:List UInt8)) (nm:Str) (n:Int64) (a b:Ex) :
 ktE (.mk op nm n [a,b])=pY (qA (aI op).lv) a.lv (ktE a)++qV op::pY ((aI op).lv+1) b.lv (ktE b):=by
 obtain ⟨h1,_,_,_,_,_,_,g1,g2,g3,g4,g5,g6,g7⟩:=mZ op h;rw [ktE,ktx,if_neg g1,if_neg g2,if_neg g3,if_neg g4,if_neg g5,if_neg g6,if_neg g7,if_neg (by omega)]
 rfl
theorem UZ {op:UInt8} (h:op∈([11,12,13,14,15,16,17,18,19,20,21,22,23]:List UInt8)) {a b:Ex} (ha:Rd a) (hb:Rd b) (ha1:1≤a.lv) (hb1:1≤b.lv):Rd (opE op [a,b]):=by
 intro le r hk;obtain ⟨_,_,h3,h4,h5,h6,h7,_⟩:=mZ op h;have hlv:(opE op [a,b]).lv=(aI op).lv:=rfl;rw [hlv];rw [show opE op [a,b]=.mk op [] 0 [a,b] from rfl,AL h] at hk;obtain ⟨la,l1,rfl,hla,hk⟩:=List.map_eq_append_iff.1 hk;obtain ⟨t,lb,rfl,ht,hlb⟩:=List.map_eq_cons_iff.1 hk;generalize hL:(aI op).lv=L at *;refine ⟨?_,fun h8=>absurd h8 (by omega)⟩;have hst:∀ q,Stp L (t::q):=fun q=>.of (by rw [ht];exact h7) (by rw [ht];exact h6)
 -- at its own level
 have own:Stp L r→pX (L - 1) (la++t::lb++r)=if L - 1=2 then .ok (opE op [a,b]) r else pL (L - 1) (opE op [a,b]) r:=by
  intro hs;have hopt:∀ q,opAt (L - 1) (t::q)=some op:=fun q=>by rw [KD,ht];exact h5
  have hB:pX L (lb++r)=.ok b r:=by
   have:=hb.opnd hb1 (n:=L+1) hlb (by omega) (by omega) (r:=r) (by simpa using hs);simpa using this
  have hA:pX (L - 1) (la++(t::lb++r))=pL (L - 1) a (t::lb++r):=by
   by_cases h2:L=3
   ·subst h2;have:=ha.opnd ha1 (n:=4) (r:=t::lb++r) hla (by omega) (by omega) (hst _);rw [zX (by omega)];show (pX 3 _).bind _=_;rw [show (4:Nat) - 1=3 from rfl] at this;rw [this];rfl
   ·have e:qA L=L - 1+1:=by unfold qA;rw [if_neg h2];omega
    rw [e] at hla;exact ha.left ha1 hla (by omega) (by omega) (by rw [show L - 1+1=L by omega];exact hst _)
  rw [List.append_assoc,hA,List.cons_append,HC (by omega) (hopt _)];show (pX (L - 1+1) (lb++r)).bind _=_;rw [show L - 1+1=L by omega,hB]
  rfl
 intro lv hl4 hl hs
 by_cases e:lv=L - 1
 ·subst e;rw [show L - 1+1=L by omega] at hs;rw [own hs];exact ifI (by omega)
 ·rw [if_neg (by omega)];refine CT (L - 2 - lv) lv (L - 1) (by omega) (by omega) ?_ hs;rw [own (hs.up (by omega)),pC (hs.1 _ (by omega) (by omega))]
  split <;> rfl
theorem AK {op:UInt8} {nm:Str} {n:Int64} {args:List Ex} {x:Kt} (h:ktE (.mk op nm n args)=[x]) {le:List Tk} (hk:le.map kt=ktE (.mk op nm n args)):∃ t,le=[t]∧kt t=x:=by
 rw [h] at hk;obtain ⟨t,l,rfl,ht,hl⟩:=List.map_eq_cons_iff.1 hk;obtain rfl:=List.map_eq_nil_iff.1 hl;exact ⟨t,rfl,ht⟩
theorem TV {op:UInt8} {a:Ex} (ha:Rd a) (h1:1≤a.lv) (hop:op=9∨op=10):Rd (opE op [a]):=by
 refine .of (by rcases hop with rfl | rfl <;> exact (by decide:6≤6)) fun le r hk h91=>?_
 have key:∃ t l,le=t::l∧kt t=(if op=9 then (4,[45]) else (2,[110,111,116]))∧l.map kt=pY 6 a.lv (ktE a):=by
  rcases hop with rfl | rfl
  ·obtain ⟨t,l,rfl,ht,hl⟩:=List.map_eq_cons_iff.1 (show le.map kt=(4,[45])::pY 6 a.lv (ktE a) from hk);exact ⟨t,l,rfl,ht,hl⟩
  ·obtain ⟨t,l,rfl,ht,hl⟩:=List.map_eq_cons_iff.1 (show le.map kt=(2,[110,111,116])::pY 6 a.lv (ktE a) from hk);exact ⟨t,l,rfl,ht,hl⟩
 obtain ⟨t,l,rfl,ht,hl⟩:=key;have hA:pX 5 (l++r)=.ok a r:=ha.opnd h1 (n:=6) hl (by omega) (by omega) ⟨fun i h1 h2=>by omega,h91⟩;rw [List.cons_append,qZ];rcases hop with rfl | rfl
 ·rw [cN,ht,if_pos (by decide)];show (pX 5 (l++r)).bind _=_;rw [hA];rfl
 ·rw [cN,cN,ht,if_neg (by decide),if_pos (by decide)];show (pX 5 (l++r)).bind _=_;rw [hA];rfl
theorem NC {a:Ex} (ha:Rd a) (h1:1≤a.lv) {l r:List Tk} (hl:l.map kt=(4,[91])::(ktE a++[(4,[93])])):isT [91] (l++r)=true∧∀ (g:Ex→List Tk→Rs Ex),((pX 0 (l++r).tail).bind fun x r4=>jA [93] r4 fun r5=>g x r5)=g a r:=by
 obtain ⟨t,l1,rfl,ht,hk⟩:=List.map_eq_cons_iff.1 hl;obtain ⟨l2,l3,rfl,h2,h3⟩:=List.map_eq_append_iff.1 hk;obtain ⟨t2,l4,rfl,ht2,h4⟩:=List.map_eq_cons_iff.1 h3;obtain rfl:=List.map_eq_nil_iff.1 h4;refine ⟨by rw [List.cons_append,cN,ht];decide,fun g=>?_⟩;have hf:=ha.full h2 (r:=t2::r) (lv:=0) (by omega) h1 (.of (by rw [ht2];decide) (by rw [ht2];decide));simp only [List.cons_append,List.append_assoc,List.nil_append,List.tail_cons];rw [hf];show jA [93] (t2::r) _=_;rw [jA,cN,ht2,if_pos (by decide)]
 rfl
theorem VA (e:Ex):Ex.all dQ e=true→Rd e∧1≤e.lv:=by
 induction e using Ex.ind with
 | _ op nm n args ih =>
  intro h;rw [eW,Bool.and_eq_true] at h;obtain ⟨hf,hr⟩:=h;have ha:∀ a∈args,Rd a∧1≤a.lv:=fun a m=>ih a m (cC m hr);simp only [dQ,Bool.and_eq_true,Bool.or_eq_true,decide_eq_true_eq] at hf;obtain ⟨⟨⟨hop,hl⟩,hnm⟩,hn⟩:=hf;refine ⟨?_,XD hop⟩;have hm:=rC hop
  by_cases h1:op=1
  ·subst h1;obtain rfl:=zG hl;obtain rfl:nm=[]:=hnm.resolve_left (by decide);rw [if_pos rfl,decide_eq_true_eq] at hn;refine .of (show 6≤(aI 1).lv by decide) fun le r hk _=>?_;obtain ⟨t,rfl,ht⟩:=AK (x:=(3,Lib.itoa n.toInt)) rfl hk;have hk3:t.k=3:=congrArg Prod.fst ht;have ht2:t.t=Lib.itoa n.toInt:=congrArg Prod.snd ht;have hlt:=n.toInt_lt;rw [List.cons_append,List.nil_append,qZ,cN,cN,ht,if_neg (by simp [isK]),if_neg (by simp [isK]),gA];rw [if_pos hk3,ht2,KK hn,if_pos (by omega)]
   congr 2
   exact Int64.toInt_inj.1 (by rw [Int64.toInt_ofNat_of_lt (by omega)];omega)
  rw [if_neg h1,decide_eq_true_eq] at hn;obtain rfl:=wK hn
  by_cases hb:op∈([11,12,13,14,15,16,17,18,19,20,21,22,23]:List UInt8)
  ·obtain ⟨b1,b2,_⟩:=mZ op hb;obtain ⟨a,b,rfl⟩:=jL (l:=args) (by omega)
   obtain rfl : nm = [] := by rcases hnm with e | e
                              ·rw [b2] at e;cases e
                              ·exact e
   have h3:=ha a (by simp);have h4:=ha b (by simp);exact UZ hb h3.1 h4.1 h3.2 h4.2
  have hs:op=2∨op=3∨op=4∨op=5∨op=6∨op=7∨op=8∨op=9∨op=10:=((vY hop).resolve_left h1).resolve_left hb
  have cst:∀ (w:Str),op=2∨op=3∨op=4→w=(aI op).tx→Rd (.mk op nm 0 args):=by
   intro w ho hw
   have hnil:args=[]:=by
    rcases ho with rfl | rfl | rfl <;> exact zG hl
   have hnm0:nm=[]:=by
    rcases ho with rfl | rfl | rfl <;> exact hnm.resolve_left (by decide)
   subst hnil hnm0;refine .of (by rcases ho with rfl | rfl | rfl <;> exact (by decide:6≤7)) fun le r hk _=>?_;rcases ho with rfl | rfl | rfl
   all_goals
    obtain ⟨t,rfl,ht⟩:=AK rfl hk;have hk3:t.k=2:=congrArg Prod.fst ht;rw [List.cons_append,List.nil_append,qZ,cN,cN,ht,if_neg (by decide),if_neg (by decide),gA];simp only [cN,ht];rw [if_neg (by rw [hk3];decide)]
   ·rw [if_pos (by decide)];rfl
   ·rw [if_neg (by decide),if_pos (by decide)];rfl
   ·rw [if_neg (by decide),if_neg (by decide),if_pos (by decide)];rfl
  rcases hs with rfl | rfl | rfl | rfl | rfl | rfl | rfl | rfl | rfl
  ·exact cst _ (.inl rfl) rfl
  ·exact cst _ (.inr (.inl rfl)) rfl
  ·exact cst _ (.inr (.inr rfl)) rfl
  ·obtain rfl:=zG hl;refine .of (show 6≤(aI 5).lv by decide) fun le r hk h91=>?_;obtain ⟨t,rfl,ht⟩:=AK (x:=(1,nm)) rfl hk;have hk1:t.k=1:=congrArg Prod.fst ht;have ht2:t.t=nm:=congrArg Prod.snd ht;have hno:∀ w,isK w (1,nm)=false:=fun w=>by simp [isK]
   rw [List.cons_append,List.nil_append,qZ,cN,cN,ht,hno,hno,if_neg (by decide),if_neg (by decide),gA];simp only [cN,ht,hno];rw [if_neg (by rw [hk1];decide)];simp only [Bool.false_eq_true,if_false];rw [if_pos hk1,h91,if_neg (by decide),ht2]
  ·obtain ⟨a,rfl⟩:=rW hl;obtain ⟨ra,r1⟩:=ha a (by simp);refine .of (show 6≤(aI 6).lv by decide) fun le r hk h91=>?_;obtain ⟨t,l,rfl,ht,hl⟩:=List.map_eq_cons_iff.1 (show le.map kt=(1,nm)::(4,[91])::(ktE a++[(4,[93])]) from hk);have hk1:t.k=1:=congrArg Prod.fst ht;have ht2:t.t=nm:=congrArg Prod.snd ht;have hno:∀ w,isK w (1,nm)=false:=fun w=>by simp [isK]
   obtain ⟨k1,k2⟩:=NC ra r1 hl (r:=r);rw [List.cons_append,qZ,cN,cN,ht,hno,hno,if_neg (by decide),if_neg (by decide),gA];simp only [cN,ht,hno];rw [if_neg (by rw [hk1];decide)];simp only [Bool.false_eq_true,if_false];rw [if_pos hk1,k1,if_pos rfl,k2,ht2]
  ·obtain ⟨a,rfl⟩:=rW hl;obtain ⟨ra,r1⟩:=ha a (by simp);refine .of (show 6≤(aI 7).lv by decide) fun le r hk h91=>?_;obtain ⟨t,l,rfl,ht,hl⟩:=List.map_eq_cons_iff.1 (show le.map kt=(2,[104,97,115])::(1,nm)::(4,[91])::(ktE a++[(4,[93])]) from hk);obtain ⟨t2,l2,rfl,ht2,hl⟩:=List.map_eq_cons_iff.1 hl;have hk1:t.k=2:=congrArg Prod.fst ht;have hk2:t2.k=1:=congrArg Prod.fst ht2;have ht3:t2.t=nm:=congrArg Prod.snd ht2;obtain ⟨k1,k2⟩:=NC ra r1 hl (r:=r);rw [List.cons_append,qZ,cN,cN,ht,if_neg (by decide),if_neg (by decide),gA];simp only [cN,ht];rw [if_neg (by rw [hk1];decide),if_neg (by decide),if_neg (by decide),if_neg (by decide),if_neg (by decide),if_neg (by decide),if_pos (by decide),List.cons_append,lO];rw [if_pos hk2,jA,k1,if_pos rfl,k2,ht3]
  ·obtain rfl:=zG hl;refine .of (show 6≤(aI 8).lv by decide) fun le r hk h91=>?_;obtain ⟨t,l,rfl,ht,hl⟩:=List.map_eq_cons_iff.1 (show le.map kt=(2,[115,105,122,101])::(1,nm)::[] from hk);obtain ⟨t2,l2,rfl,ht2,hl⟩:=List.map_eq_cons_iff.1 hl;obtain rfl:=List.map_eq_nil_iff.1 hl;have hk1:t.k=2:=congrArg Prod.fst ht;have hk2:t2.k=1:=congrArg Prod.fst ht2;have ht3:t2.t=nm:=congrArg Prod.snd ht2;rw [List.cons_append,qZ,cN,cN,ht,if_neg (by decide),if_neg (by decide),gA];simp only [cN,ht];rw [if_neg (by rw [hk1];decide),if_neg (by decide),if_neg (by decide),if_neg (by decide),if_pos (by decide),List.cons_append,lO];rw [if_pos hk2,ht3];rfl
  ·obtain ⟨a,rfl⟩:=rW hl;obtain ⟨ra,r1⟩:=ha a (by simp);obtain rfl:nm=[]:=hnm.resolve_left (by decide);exact TV ra r1 (.inl rfl)
  ·obtain ⟨a,rfl⟩:=rW hl;obtain ⟨ra,r1⟩:=ha a (by simp);obtain rfl:nm=[]:=hnm.resolve_left (by decide);exact TV ra r1 (.inr rfl)
abbrev Pz (α:Type):=List Tk→Rs α
section
variable {α β:Type}
def aS (a:α):Pz α:=fun r=>.ok a r
def aH (p:Pz α) (f:α→Pz β):Pz β:=fun r=>(p r).bind f
def gNd (w:Str):Pz Unit:=fun r=>if isT w r then .ok () r.tail else .er r 8
def gNm:Pz Str:=fun r=>match r with | []=>.er r 8 | t::q=>if t.k=1 then .ok t.t q else .er r 8
def gNu:Pz Int64:=fun r=>match r with | []=>.er r 8 | t::q=>if t.k=3 then (if fO t.t≤9223372036854775807 then .ok (Int64.ofNat (fO t.t)) q else .er r 2) else .er r 8
def isN (w:Str):List Tk→Bool
 | []=>false
 | t::_=>t.k == 3 && decide (t.t=w)
def gNn (w:Str):Pz Unit:=fun r=>if isN w r then .ok () r.tail else .er r 8
def dB (w:Str) (p q:Pz α):Pz α:=fun r=>if isT w r then p r.tail else q r
def jG (w:Str) (p:Pz α):Nat→Pz (List α)
 | 0=>fun r=>.er r 99
 | f+1=>dB w (aH p fun a=>aH (jG w p f) fun l=>aS (a::l)) (aS [])
def dJ (w:Str) (p:Pz α):Pz (List α):=fun r=>jG w p (r.length+1) r
end
def gEx:Pz Ex:=pX 0
def iT (b:Pz (List Sm)):Pz (List Sm):=aH (gNd [123]) fun _=>aH b fun l=>aH (gNd [125]) fun _=>aS l
def sN (b:Pz (List Sm)):Pz (List Sm):=dB [101,108,115,101] (iT b) (aS [])
def kO (b:Pz (List Sm)):Pz (List Sm):=dB [101,108,115,101] (iT b) (aH (gNd [59]) fun _=>aS [])
def eN {α:Type} (p:Pz α):Pz (List α):=aH (gNd [40]) fun _=>dB [41] (aS []) (aH p fun a=>aH (dJ [44] p) fun l=>aH (gNd [41]) fun _=>aS (a::l))
def gSt (b:Pz (List Sm)):Pz Sm :=
 dB [105,102] (aH gEx fun e=>aH (iT b) fun t=>aH (sN b) fun l=>aS (.mk 4 [] [] [e] t l))<|dB [119,104,105,108,101] (aH gEx fun e=>aH (iT b) fun t=>aS (.mk 5 [] [] [e] t []))<|dB [115,116,111,114,101] (aH gEx fun e=>aH (gNd [61]) fun _=>aH gEx fun e2=>aH (kO b) fun l=>aS (.mk 8 [] [] [e,e2] [] l))<|dB [102,101,116,99,104] (aH gNm fun n=>aH (gNd [61]) fun _=>aH gEx fun e=>aH (kO b) fun l=>aS (.mk 9 n [] [e] [] l))<|dB [115,101,110,100] (aH gNm fun n=>aH (gNd [46]) fun _=>aH gNm fun h=>aH (eN gEx) fun l=>aH (gNd [59]) fun _=>aS (.mk 6 n h l [] []))<|dB [97,102,116,101,114] (aH gEx fun e=>aH (gNd [100,111]) fun _=>aH gNm fun h=>aH (eN gEx) fun l=>aH (gNd [59]) fun _=>aS (.mk 7 [] h (e::l) [] []))<|dB [115,116,111,112] (aH (gNd [59]) fun _=>aS (.mk 10 [] [] [] [] []))<|dB [100,101,108,101,116,101] (aH gNm fun n=>aH (gNd [91]) fun _=>aH gEx fun e=>aH (gNd [93]) fun _=>aH (gNd [59]) fun _=>aS (.mk 3 n [] [e] [] []))<|aH gNm fun n=>dB [91] (aH gEx fun e=>aH (gNd [93]) fun _=>aH (gNd [61]) fun _=>aH gEx fun e2=>aH (gNd [59]) fun _=>aS (.mk 2 n [] [e,e2] [] []))
  (aH (gNd [61]) fun _=>aH gEx fun e=>aH (gNd [59]) fun _=>aS (.mk 1 n [] [e] [] []))
def gBF:Nat→Pz (List Sm)
 | 0=>fun r=>.er r 99
 | f+1=>fun r=>if isT [125] r then .ok [] r else (gSt (gBF f) r).bind fun s r1=>(gBF f r1).bind fun l r2=>.ok (s::l) r2
def gB:Pz (List Sm):=fun r=>gBF (r.length+1) r
def gTr:Pz Bool:=dB [116,114,117,101] (aS true) (aH (gNd [102,97,108,115,101]) fun _=>aS false)
def gFg:Pz Fg:=aH gNm fun n=>aH (gNd [61]) fun _=>aH gTr fun b=>aH (gNd [59]) fun _=>aS ⟨n,b⟩
def gLk:Pz Lk:=aH gNm fun n=>aH (gNd [45,62]) fun _=>aH gNm fun m=>aH (gNd [108,97,116,101,110,99,121]) fun _=>aH gNu fun v=>aH (gNd [59]) fun _=>aS ⟨n,m,v⟩
def sM:Pz Int64:=dB [45] (aH gNu fun v=>aS (-v)) gNu
def gVr:Pz Vr:=aH gNm fun n=>aH (gNd [58]) fun _ =>
 dB [105,110,116] (aH (gNd [61]) fun _=>aH sM fun v=>aH (gNd [59]) fun _=>aS ⟨n,1,v⟩)<|dB [98,111,111,108] (aH (gNd [61]) fun _=>aH gTr fun b=>aH (gNd [59]) fun _=>aS ⟨n,2,if b then 1 else 0⟩)<|aH (gNd [116,97,98,108,101]) fun _=>aH (gNd [59]) fun _=>aS ⟨n,3,0⟩
def gHd:Pz Hd:=aH gNm fun n=>aH (eN gNm) fun l=>aH (iT gB) fun b=>aS ⟨n,l,b⟩
def gVs:Pz (List Hd):=dJ [111,110] gHd
def gVn (n:Str):Pz (List Hd):=aH (gNn n) fun _=>aH (gNd [123]) fun _=>aH gVs fun v=>aH (gNd [125]) fun _=>aS v
def gVm:Pz (List (List Hd)):=dB [118,101,114,115,105,111,110] (aH (gVn [50]) fun v=>dB [118,101,114,115,105,111,110] (aH (gVn [51]) fun w=>aS [v,w]) (aS [v])) (aS [])
def gCp:Pz Cp:=aH gNm fun n=>aH (gNd [123]) fun _=>aH (dJ [118,97,114] gVr) fun vs=>aH gVs fun v=>aH gVm fun l=>aH (gNd [125]) fun _=>aS ⟨n,vs,v::l⟩
def gFt:Pz Ft:=aH (gNd [102,108,101,101,116]) fun _=>aH gNm fun n=>aH (gNd [123]) fun _=>aH (dJ [102,108,97,103] gFg) fun fs=>aH (dJ [108,105,110,107] gLk) fun ls=>aH (dJ [99,111,109,112,111,110,101,110,116] gCp) fun cs=>aH (gNd [125]) fun _=>aS ⟨n,fs,ls,cs⟩
/-! ### Rules that consume -/
section
variable {α β:Type}
def Shr (p:Pz α):Prop:=∀ r a r',p r=.ok a r'→r'.length≤r.length
def Shs (p:Pz α):Prop:=∀ r a r',p r=.ok a r'→r'.length<r.length
theorem Shs.le {p:Pz α} (h:Shs p):Shr p:=fun r a r' e=>Nat.le_of_lt (h r a r' e)
theorem Shr.pure (a:α):Shr (aS a):=fun r a r' e=>by injection e with _ e;subst e;exact Nat.le_refl _
theorem Shr.bind {p:Pz α} {f:α→Pz β} (h:Shr p) (k:∀ a,Shr (f a)):Shr (aH p f):=fun r b r' e=>by
 obtain ⟨a,q,h1,h2⟩:=Rs.bind_ok e;have:=h _ _ _ h1;have:=k _ _ _ _ h2;omega
theorem Shs.bind {p:Pz α} {f:α→Pz β} (h:Shs p) (k:∀ a,Shr (f a)):Shs (aH p f):=fun r b r' e=>by
 obtain ⟨a,q,h1,h2⟩:=Rs.bind_ok e;have:=h _ _ _ h1;have:=k _ _ _ _ h2;omega
theorem Shs.nd (w:Str):Shs (gNd w):=fun r a r' e=>by
 unfold gNd at e
 split at e
 ·rename_i h;injection e with _ e;subst e;have:=eE h;omega
 ·cases e
theorem VV {w:Str} {r:List Tk} (h:isN w r=true):r.length=r.tail.length+1:=by cases r with | nil=>cases h | cons t q=>rfl
theorem Shs.nn (w:Str):Shs (gNn w):=fun r a r' e=>by
 unfold gNn at e
 split at e
 ·rename_i h;injection e with _ e;subst e;have:=VV h;omega
 ·cases e
theorem Shs.nm:Shs gNm:=fun r a r' e=>by
 unfold gNm at e
 split at e
 ·cases e
 ·split at e
  ·injection e with _ e;subst e;simp
  ·cases e
theorem Shs.nu:Shs gNu:=fun r a r' e=>by
 unfold gNu at e
 split at e
 ·cases e
 ·split at e
  ·split at e
   ·injection e with _ e;subst e;simp
   ·cases e
  ·cases e
theorem Shs.ex:Shs gEx:=fun r a r' e=>(qJ _).1 _ _ _ _ e
theorem Shr.alt {w:Str} {p q:Pz α} (h:Shr p) (k:Shr q):Shr (dB w p q):=fun r a r' e=>by
 unfold dB at e
 split at e
 ·rename_i h2;have:=eE h2;have:=h _ _ _ e;omega
 ·exact k _ _ _ e
theorem Shs.alt {w:Str} {p q:Pz α} (h:Shr p) (k:Shs q):Shs (dB w p q):=fun r a r' e=>by
 unfold dB at e
 split at e
 ·rename_i h2;have:=eE h2;have:=h _ _ _ e;omega
 ·exact k _ _ _ e
theorem Shr.many {w:Str} {p:Pz α} (h:Shr p):Shr (dJ w p):=by
 have key:∀ f,Shr (jG w p f):=fun f=>by
  induction f with
  | zero=>intro r a r' e;cases e
  | succ f ih=>exact .alt (.bind h fun a=>.bind ih fun l=>.pure _) (.pure _)
 exact fun r a r' e=>key _ _ _ _ e
theorem tQ {w:Str} {p:Pz α} (h:Shr p):∀ (f g:Nat) (r:List Tk),r.length<f→r.length<g→jG w p f r=jG w p g r
 | 0,_,_,k,_=>by omega
 | _,0,_,_,k=>by omega
 | f+1,g+1,r,k1,k2=>by
  unfold jG dB
  split
  ·rename_i e;have:=eE e;refine Rs.bind_congr rfl fun a q e2=>?_;have:=h _ _ _ e2;exact Rs.bind_congr (tQ h f g q (by omega) (by omega)) fun _ _ _=>rfl
  ·rfl
theorem mW {w:Str} {p:Pz α} (h:Shr p):dJ w p=dB w (aH p fun a=>aH (dJ w p) fun l=>aS (a::l)) (aS []):=funext fun r=>by
 unfold dJ
 conv=>lhs;unfold jG
 unfold dB
 split
 ·rename_i e;have:=eE e;refine Rs.bind_congr rfl fun a q e2=>?_;have:=h _ _ _ e2;exact Rs.bind_congr (tQ h _ _ q (by omega) (by omega)) fun _ _ _=>rfl
 ·rfl
theorem Shs.list {p:Pz α} (h:Shr p):Shs (eN p):=.bind (.nd _) fun _=>.alt (.pure _) (.bind h fun _=>.bind (.many h) fun _=>.bind (Shs.nd _).le fun _=>.pure _)
/-! ### Rules that agree on short lists of tokens -/
def Agz (n:Nat) (p q:Pz α):Prop:=∀ r,r.length≤n→p r=q r
theorem Agz.rfl' {n:Nat} {p:Pz α}:Agz n p p:=fun _ _=>rfl
theorem Agz.bind {n:Nat} {p q:Pz α} {f g:α→Pz β} (hp:Shr p) (h:Agz n p q) (k:∀ a,Agz n (f a) (g a)):Agz n (aH p f) (aH q g):=fun r hr =>
 Rs.bind_congr (h r hr) fun a r' e=>k a r' (Nat.le_trans (hp _ _ _ e) hr)
theorem Agz.alt {n:Nat} {w:Str} {p q p' q':Pz α} (h:Agz (n - 1) p p') (k:Agz n q q'):Agz n (dB w p q) (dB w p' q'):=fun r hr=>by
 unfold dB
 split
 ·rename_i e;have:=eE e;exact h _ (by omega)
 ·exact k r hr
theorem Agz.altr {n:Nat} {w:Str} {p q p' q':Pz α} (h:Agz n p p') (k:Agz n q q'):Agz n (dB w p q) (dB w p' q'):=.alt (fun r hr=>h r (by omega)) k
end
theorem Shs.blk {b:Pz (List Sm)} (h:Shr b):Shs (iT b):=.bind (.nd _) fun _=>.bind h fun _=>.bind (Shs.nd _).le fun _=>.pure _
theorem Shr.els {b:Pz (List Sm)} (h:Shr b):Shr (sN b):=.alt (Shs.blk h).le (.pure _)
theorem Shr.oth {b:Pz (List Sm)} (h:Shr b):Shr (kO b):=.alt (Shs.blk h).le (.bind (Shs.nd _).le fun _=>.pure _)
theorem Shs.st {b:Pz (List Sm)} (h:Shr b):Shs (gSt b) :=
 .alt (.bind Shs.ex.le fun _=>.bind (Shs.blk h).le fun _=>.bind (.els h) fun _=>.pure _)<|.alt (.bind Shs.ex.le fun _=>.bind (Shs.blk h).le fun _=>.pure _)<|.alt (.bind Shs.ex.le fun _=>.bind (Shs.nd _).le fun _=>.bind Shs.ex.le fun _=>.bind (.oth h) fun _=>.pure _)<|.alt (.bind Shs.nm.le fun _=>.bind (Shs.nd _).le fun _=>.bind Shs.ex.le fun _=>.bind (.oth h) fun _=>.pure _)<|.alt (.bind Shs.nm.le fun _=>.bind (Shs.nd _).le fun _=>.bind Shs.nm.le fun _=>.bind (Shs.list Shs.ex.le).le fun _=>.bind (Shs.nd _).le fun _=>.pure _)<|.alt (.bind Shs.ex.le fun _=>.bind (Shs.nd _).le fun _=>.bind Shs.nm.le fun _=>.bind (Shs.list Shs.ex.le).le fun _=>.bind (Shs.nd _).le fun _=>.pure _)<|.alt (.bind (Shs.nd _).le fun _=>.pure _)<|.alt (.bind Shs.nm.le fun _=>.bind (Shs.nd _).le fun _=>.bind Shs.ex.le fun _=>.bind (Shs.nd _).le fun _=>.bind (Shs.nd _).le fun _=>.pure _)<|.bind .nm fun _=>.alt (.bind Shs.ex.le fun _=>.bind (Shs.nd _).le fun _=>.bind (Shs.nd _).le fun _=>.bind Shs.ex.le fun _=>.bind (Shs.nd _).le fun _=>.pure _) (.bind (Shs.nd _).le fun _=>.bind Shs.ex.le fun _=>.bind (Shs.nd _).le fun _=>.pure _)
theorem Agz.blk {n:Nat} {b c:Pz (List Sm)} (h:Agz n b c) (hb:Shr b):Agz n (iT b) (iT c):=.bind (Shs.nd _).le .rfl' fun _=>.bind hb h fun _=>.rfl'
theorem Agz.els {n:Nat} {b c:Pz (List Sm)} (h:Agz n b c) (hb:Shr b):Agz n (sN b) (sN c):=.altr (.blk h hb) .rfl'
theorem Agz.oth {n:Nat} {b c:Pz (List Sm)} (h:Agz n b c) (hb:Shr b):Agz n (kO b) (kO c):=.altr (.blk h hb) .rfl'
theorem Agz.st {n:Nat} {b c:Pz (List Sm)} (h:Agz (n - 1) b c) (hb:Shr b):Agz n (gSt b) (gSt c) :=
 .alt (.bind Shs.ex.le .rfl' fun _=>.bind (Shs.blk hb).le (.blk h hb) fun _=>.bind (.els hb) (.els h hb) fun _=>.rfl')<|.alt (.bind Shs.ex.le .rfl' fun _=>.bind (Shs.blk hb).le (.blk h hb) fun _=>.rfl')<|.alt (.bind Shs.ex.le .rfl' fun _=>.bind (Shs.nd _).le .rfl' fun _=>.bind Shs.ex.le .rfl' fun _=>.bind (.oth hb) (.oth h hb) fun _=>.rfl')<|.alt (.bind Shs.nm.le .rfl' fun _=>.bind (Shs.nd _).le .rfl' fun _=>.bind Shs.ex.le .rfl' fun _=>.bind (.oth hb) (.oth h hb) fun _=>.rfl') .rfl'
theorem nH:∀ f,Shr (gBF f)
 | 0=>fun _ _ _ e=>by cases e
 | f+1=>fun r a r' e=>by
  unfold gBF at e
  split at e
  ·injection e with _ e;subst e;exact Nat.le_refl _
  ·obtain ⟨s,q,h1,h2⟩:=Rs.bind_ok e;obtain ⟨l,q2,h3,h4⟩:=Rs.bind_ok h2;injection h4 with _ h4;subst h4
   have:=(Shs.st (nH f)) _ _ _ h1;have:=nH f _ _ _ h3;omega
theorem Shr.b:Shr gB:=fun _ _ _ e=>nH _ _ _ _ e
theorem rO:∀ (f g:Nat) (r:List Tk),r.length<f→r.length<g→gBF f r=gBF g r
 | 0,_,_,k,_=>by omega
 | _,0,_,_,k=>by omega
 | f+1,g+1,[],_,_=>rfl
 | f+1,g+1,t::r,k1,k2=>by
  unfold gBF;simp only [List.length_cons] at k1 k2;refine ifC rfl (Rs.bind_congr (Agz.st (n:=(t::r).length) (fun q hq=>?_) (nH f) _ (Nat.le_refl _)) fun s q e=>?_)
  ·simp only [List.length_cons] at hq;exact rO f g q (by omega) (by omega)
  ·have:=(Shs.st (nH f)) _ _ _ e;simp only [List.length_cons] at this;exact Rs.bind_congr (rO f g q (by omega) (by omega)) fun _ _ _=>rfl
theorem IH (r:List Tk):gB r=if isT [125] r then .ok [] r else (gSt gB r).bind fun s r1=>(gB r1).bind fun l r2=>.ok (s::l) r2:=by
 match r with
 | []=>rfl
 | t::r =>
  conv=>lhs;unfold gB;unfold gBF
  refine ifC rfl (Rs.bind_congr (Agz.st (n:=(t::r).length) (fun q hq=>?_) (nH _) _ (Nat.le_refl _)) fun s q e=>?_)
  ·simp only [List.length_cons] at hq;exact rO _ _ q (by simp only [List.length_cons];omega) (by omega)
  ·have:=(Shs.st (nH _)) _ _ _ e;exact Rs.bind_congr (rO _ _ q (by omega) (by omega)) fun _ _ _=>rfl
def hdO (r:List Tk):Option Kt:=r.head?.map kt
def hdC (k:List Kt) (o:Option Kt):Option Kt:=match k with | []=>o | x::_=>some x
theorem AQ {l r:List Tk} {k:List Kt} (h:l.map kt=k):hdO (l++r)=hdC k (hdO r):=by
 subst h;cases l <;> rfl
def kP (_:Option Kt):Prop:=True
def mQ (w:Str):Option Kt→Prop
 | none=>True
 | some x=>isK w x=false
def US:Option Kt→Prop
 | none=>True
 | some x=>(∀ i∈List.range 5,opK i x=none)∧isK [91] x=false
theorem AM (w:Str) (r:List Tk):isT w r=match hdO r with | none=>false | some x=>isK w x:=by cases r <;> rfl
theorem NR {w:Str} {r:List Tk} (h:mQ w (hdO r)):isT w r=false:=by
 rw [AM];cases e:hdO r with
 | none=>rfl
 | some x=>rw [e] at h;exact h
section
variable {α β:Type}
def Rdc (p:Pz α) (ks:List Kt) (v:α) (C:Option Kt→Prop):Prop:=∀ le r,le.map kt=ks→C (hdO r)→p (le++r)=.ok v r
variable {k k1 k2:List Kt} {v a:α} {C C1 C2:Option Kt→Prop} {w:Str} {x:Kt}
theorem Rdc.pure:Rdc (aS v) [] v C:=fun le r e _=>by
 obtain rfl:=List.map_eq_nil_iff.1 e;rfl
theorem Rdc.seq {p:Pz α} {f:α→Pz β} {b:β} (h1:Rdc p k1 a C1) (hc:∀ o,C2 o→C1 (hdC k2 o)) (h2:Rdc (f a) k2 b C2):Rdc (aH p f) (k1++k2) b C2:=fun le r e c=>by
 obtain ⟨l1,l2,rfl,e1,e2⟩:=List.map_eq_append_iff.1 e;unfold aH;rw [List.append_assoc,h1 l1 (l2++r) e1 (by rw [AQ e2];exact hc _ c)];exact h2 l2 r e2 c
theorem Rdc.nd {f:Unit→Pz β} {b:β} (hx:isK w x=true) (h:Rdc (f ()) k b C):Rdc (aH (gNd w) f) (x::k) b C:=fun le r e c=>by
 obtain ⟨t,l,rfl,ht,hl⟩:=List.map_eq_cons_iff.1 e;unfold aH gNd;rw [List.cons_append,cN,ht,hx];exact h l r hl c
theorem Rdc.nn {f:Unit→Pz β} {b:β} (h:Rdc (f ()) k b C):Rdc (aH (gNn w) f) ((3,w)::k) b C:=fun le r e c=>by
 obtain ⟨t,l,rfl,ht,hl⟩:=List.map_eq_cons_iff.1 e;have h1:t.k=3:=congrArg Prod.fst ht;have h2:t.t=w:=congrArg Prod.snd ht;have hN:isN w (t::(l++r))=true:=by simp [isN,h1,h2]
 unfold aH gNn;rw [List.cons_append,hN];exact h l r hl c
theorem Rdc.nm {f:Str→Pz β} {b:β} (h:Rdc (f w) k b C):Rdc (aH gNm f) ((1,w)::k) b C:=fun le r e c=>by
 obtain ⟨t,l,rfl,ht,hl⟩:=List.map_eq_cons_iff.1 e;have h1:t.k=1:=congrArg Prod.fst ht;have h2:t.t=w:=congrArg Prod.snd ht;unfold aH gNm;rw [List.cons_append];simp only [h1,h2,if_true];exact h l r hl c
theorem Rdc.nm1:Rdc gNm [(1,w)] w C:=fun le r e c=>by
 obtain ⟨t,l,rfl,ht,hl⟩:=List.map_eq_cons_iff.1 e;obtain rfl:=List.map_eq_nil_iff.1 hl;have h1:t.k=1:=congrArg Prod.fst ht;have h2:t.t=w:=congrArg Prod.snd ht;unfold gNm;rw [List.cons_append];simp only [h1,h2,if_true]
 rfl
theorem Rdc.nu {u:Nat} (h:u≤9223372036854775807):Rdc gNu [(3,Lib.decDigits u)] (Int64.ofNat u) C:=fun le r e c=>by
 obtain ⟨t,l,rfl,ht,hl⟩:=List.map_eq_cons_iff.1 e;obtain rfl:=List.map_eq_nil_iff.1 hl;have h1:t.k=3:=congrArg Prod.fst ht;have h2:t.t=Lib.decDigits u:=congrArg Prod.snd ht;unfold gNu;rw [List.cons_append];simp only [h1,h2,if_true,tO,h]
 rfl
theorem Rdc.altT {p q:Pz α} (hx:isK w x=true) (h:Rdc p k v C):Rdc (dB w p q) (x::k) v C:=fun le r e c=>by
 obtain ⟨t,l,rfl,ht,hl⟩:=List.map_eq_cons_iff.1 e;unfold dB;rw [List.cons_append,cN,ht,hx];exact h l r hl c
theorem Rdc.altF {p q:Pz α} (hx:isK w x=false) (h:Rdc q (x::k) v C):Rdc (dB w p q) (x::k) v C:=fun le r e c=>by
 have h2:=h le r e c;obtain ⟨t,l,rfl,ht,hl⟩:=List.map_eq_cons_iff.1 e;unfold dB;rw [List.cons_append,cN,ht,hx];exact h2
theorem Rdc.altE {p q:Pz α} (hc:∀ o,C o→mQ w o) (h:Rdc q [] v C):Rdc (dB w p q) [] v C:=fun le r e c=>by
 have h2:=h le r e c;obtain rfl:=List.map_eq_nil_iff.1 e;unfold dB;rw [List.nil_append,NR (hc _ c),if_neg (by decide)];exact h2
theorem Rdc.many {p:Pz α} (hp:Shr p) (hx:isK w x=true) {g:α→List Kt} {Cp:Option Kt→Prop} (h1:Cp (some x)) (hc:∀ o,C o→Cp o∧mQ w o):∀ l:List α,(∀ a∈l,Rdc p (g a) a Cp)→Rdc (dJ w p) ((l.map fun a=>x::g a).flatten) l C
 | [],_=>by
  rw [mW hp];exact .altE (fun o c=>(hc o c).2) .pure
 | a::l,h=>by
  have ih:=Rdc.many hp hx h1 hc l fun b hb=>h b (List.mem_cons_of_mem _ hb);rw [mW hp];simp only [List.map_cons,List.flatten_cons,List.cons_append];refine .altT hx (.seq (h a (List.mem_cons_self ..)) (fun o c=>?_) ?_)
  ·cases l with
   | nil=>exact (hc o c).1
   | cons b l=>exact h1
  ·have:=Rdc.seq (f:=fun l=>aS (a::l)) (k2:=[]) ih (fun o c=>c) .pure
   rwa [List.append_nil] at this
def LE (l:List (List Kt)):List Kt:=(l.map fun k=>(4,[44])::k).flatten
def UX:List (List Kt)→List Kt
 | []=>[]
 | k::l=>k++LE l
def DF (l:List (List Kt)):List Kt:=(4,[40])::(UX l++[(4,[41])])
theorem Rdc.list {p:Pz α} (hp:Shr p) {g:α→List Kt} {Cp:Option Kt→Prop} (h1:Cp (some (4,[44]))) (h2:Cp (some (4,[41]))) {l:List α} (h:∀ a∈l,Rdc p (g a) a Cp) (hg:∀ a∈l,∃ x k,g a=x::k∧isK [41] x=false):Rdc (eN p) (DF (l.map g)) l C:=by
 refine .nd Z ?_;cases l with
 | nil=>exact .altT rfl .pure
 | cons a l =>
  obtain ⟨x,k,e,hk⟩:=hg a (List.mem_cons_self ..);have ha:=h a (List.mem_cons_self ..)
  have hm:Rdc (dJ [44] p) (LE (l.map g)) l (fun o=>o=some (4,[41])):=by
   have:=Rdc.many (C:=fun o=>o=some (4,[41])) hp (w:=[44]) (x:=(4,[44])) rfl (g:=g) h1 (fun o c=>by subst c;exact ⟨h2,rfl⟩) l fun b hb=>h b (List.mem_cons_of_mem _ hb);unfold LE
   rwa [List.map_map]
  have key:Rdc (aH p fun a=>aH (dJ [44] p) fun l=>aH (gNd [41]) fun _=>aS (a::l)) (g a++(LE (l.map g)++[(4,[41])])) (a::l) C:=by
   refine .seq ha (fun o c=>?_) (.seq hm (fun o c=>rfl) (.nd Z .pure));cases l with
   | nil=>exact h2
   | cons b l=>exact h1
  simp only [List.map_cons,UX,List.append_assoc];rw [e] at key ⊢;exact .altF hk key
end
def stK (kd:UInt8) (nm hd:Str) (es:List (List Kt)) (T:List Kt) (noE:Bool) (E:List Kt):List Kt :=
 if kd=1 then (1,nm)::(4,[61])::(es.getD 0 []++[(4,[59])])
 else if kd=2 then (1,nm)::(4,[91])::(es.getD 0 []++(4,[93])::(4,[61])::(es.getD 1 []++[(4,[59])]))
 else if kd=3 then (2,[100,101,108,101,116,101])::(1,nm)::(4,[91])::(es.getD 0 []++[(4,[93]),(4,[59])])
 else if kd=4 then (2,[105,102])::(es.getD 0 []++((4,[123])::(T++[(4,[125])])++if noE then [] else (2,[101,108,115,101])::(4,[123])::(E++[(4,[125])])))
 else if kd=5 then (2,[119,104,105,108,101])::(es.getD 0 []++(4,[123])::(T++[(4,[125])]))
 else if kd=6 then (2,[115,101,110,100])::(1,nm)::(4,[46])::(1,hd)::(DF es++[(4,[59])])
 else if kd=7 then (2,[97,102,116,101,114])::(es.getD 0 []++(2,[100,111])::(1,hd)::(DF (es.drop 1)++[(4,[59])]))
 else if kd=8 then (2,[115,116,111,114,101])::(es.getD 0 []++(4,[61])::(es.getD 1 []++if noE then [(4,[59])] else (2,[101,108,115,101])::(4,[123])::(E++[(4,[125])])))
 else if kd=9 then (2,[102,101,116,99,104])::(1,nm)::(4,[61])::(es.getD 0 []++if noE then [(4,[59])] else (2,[101,108,115,101])::(4,[123])::(E++[(4,[125])]))
 else [(2,[115,116,111,112]),(4,[59])]
mutual
def ktS:Sm→List Kt
 | .mk kd nm hd ex th el=>stK kd nm hd (ex.map ktE) (lA th) (decide (el.length=0)) (lA el)
def lA:List Sm→List Kt
 | []=>[]
 | s::r=>ktS s++lA r
end
theorem lC (kd:UInt8) (nm hd:Str) (ex:List Ex) (th el:List Sm):ktS (.mk kd nm hd ex th el)=stK kd nm hd (ex.map ktE) (lA th) (decide (el.length=0)) (lA el):=by rw [ktS]
theorem Rdc.ex {e:Ex} (h:Ex.all dQ e=true):Rdc gEx (ktE e) e US:=fun le r hk c=>by
 obtain ⟨h1,h2⟩:=VA e h;refine h1.full hk (by omega) h2 ⟨fun i _ h4=>?_,?_⟩
 ·cases r with
  | nil=>unfold opAt isT;simp
  | cons t r=>exact c.1 i (List.mem_range.2 (by omega))
 ·cases r with
  | nil=>rfl
  | cons t r=>exact c.2
theorem VS (e:Ex):Ex.all dQ e=true→∃ x k,ktE e=x::k∧isK [41] x=false:=by
 induction e using Ex.ind with
 | _ op nm n args ih =>
  intro h;rw [eW,Bool.and_eq_true] at h;obtain ⟨hf,hr⟩:=h;have ha:∀ a∈args,∃ x k,ktE a=x::k∧isK [41] x=false:=fun a m=>ih a m (cC m hr);simp only [dQ,Bool.and_eq_true,Bool.or_eq_true,decide_eq_true_eq] at hf;obtain ⟨⟨⟨hop,hl⟩,_⟩,_⟩:=hf
  by_cases h1:op=1
  ·subst h1;exact ⟨_,_,rfl,by simp [isK]⟩
  by_cases hb:op∈([11,12,13,14,15,16,17,18,19,20,21,22,23]:List UInt8)
  ·obtain ⟨b1,_⟩:=mZ op hb;obtain ⟨a,b,rfl⟩:=jL (l:=args) (by omega);rw [AL hb];unfold pY
   split
   ·exact ⟨_,_,rfl,rfl⟩
   ·obtain ⟨x,k,e,hx⟩:=ha a (by simp);rw [e];exact ⟨_,_,rfl,hx⟩
  have hs:op=2∨op=3∨op=4∨op=5∨op=6∨op=7∨op=8∨op=9∨op=10:=((vY hop).resolve_left h1).resolve_left hb;rcases hs with rfl | rfl | rfl | rfl | rfl | rfl | rfl | rfl | rfl
  all_goals first | exact ⟨_,_,rfl,rfl⟩ | exact ⟨_,_,rfl,by decide⟩
theorem Rdc.exs {C:Option Kt→Prop} {l:List Ex} (h:∀ a∈l,Ex.all dQ a=true):Rdc (eN gEx) (DF (l.map ktE)) l C :=
 .list Shs.ex.le ⟨by decide,by decide⟩ ⟨by decide,by decide⟩ (fun a ha=>.ex (h a ha)) fun a ha=>VS a (h a ha)
def tY (o:Option Kt):Prop:=o=some (4,[125])
theorem Rdc.blk {C:Option Kt→Prop} {l:List Sm} (h:Rdc gB (lA l) l tY):Rdc (iT gB) ((4,[123])::(lA l++[(4,[125])])) l C :=
 .nd rfl (.seq h (fun _ _=>rfl) (.nd rfl .pure))
theorem FI {kd:UInt8} (h:gW kd=true):kd=1∨kd=2∨kd=3∨kd=4∨kd=5∨kd=6∨kd=7∨kd=8∨kd=9∨kd=10:=by
 simp only [gW,Bool.and_eq_true,decide_eq_true_eq] at h;have key:∀ i∈List.range 11,1≤i→(UInt8.ofNat i=1∨UInt8.ofNat i=2∨UInt8.ofNat i=3∨UInt8.ofNat i=4∨UInt8.ofNat i=5∨UInt8.ofNat i=6∨UInt8.ofNat i=7∨UInt8.ofNat i=8∨UInt8.ofNat i=9∨UInt8.ofNat i=10):=by decide
 have:=key kd.toNat (List.mem_range.2 (by omega)) h.1
 rwa [UInt8.ofNat_toNat] at this
theorem PD {l:List Ex} (h:l.length=1) (hf:Ex.alls dQ l=true):∃ a,l=[a]∧Ex.all dQ a=true:=by
 obtain ⟨a,rfl⟩:=rW h;exact ⟨a,rfl,cC (by simp) hf⟩
theorem YB {l:List Ex} (h:l.length=2) (hf:Ex.alls dQ l=true):∃ a b,l=[a,b]∧Ex.all dQ a=true∧Ex.all dQ b=true:=by
 obtain ⟨a,b,rfl⟩:=jL h;exact ⟨a,b,rfl,cC (by simp) hf,cC (by simp) hf⟩
inductive FmS:Sm→Prop where
 | k1 {nm:Str} {a:Ex} (ha:Ex.all dQ a=true):FmS (.mk 1 nm [] [a] [] [])
 | k2 {nm:Str} {a b:Ex} (ha:Ex.all dQ a=true) (hb:Ex.all dQ b=true):FmS (.mk 2 nm [] [a,b] [] [])
 | k3 {nm:Str} {a:Ex} (ha:Ex.all dQ a=true):FmS (.mk 3 nm [] [a] [] [])
 | k4 {a:Ex} {th el:List Sm} (ha:Ex.all dQ a=true):FmS (.mk 4 [] [] [a] th el)
 | k5 {a:Ex} {th:List Sm} (ha:Ex.all dQ a=true):FmS (.mk 5 [] [] [a] th [])
 | k6 {nm hd:Str} {l:List Ex} (hl:∀ a∈l,Ex.all dQ a=true):FmS (.mk 6 nm hd l [] [])
 | k7 {hd:Str} {a:Ex} {l:List Ex} (ha:Ex.all dQ a=true) (hl:∀ a∈l,Ex.all dQ a=true):FmS (.mk 7 [] hd (a::l) [] [])
 | k8 {a b:Ex} {el:List Sm} (ha:Ex.all dQ a=true) (hb:Ex.all dQ b=true):FmS (.mk 8 [] [] [a,b] [] el)
 | k9 {nm:Str} {a:Ex} {el:List Sm} (ha:Ex.all dQ a=true):FmS (.mk 9 nm [] [a] [] el)
 | k10:FmS (.mk 10 [] [] [] [] [])
theorem yN {s:Sm} (h:kD s=true):FmS s:=by
 obtain ⟨kd,nm,hd,ex,th,el⟩:=s;simp only [kD,Bool.and_eq_true,Bool.or_eq_true,decide_eq_true_eq] at h;obtain ⟨⟨⟨⟨⟨⟨⟨hk,h1⟩,h2⟩,h3⟩,h4⟩,h5⟩,h6⟩,h7⟩:=h;have z:∀ {l:List Sm},l.length=0→l=[]:=List.eq_nil_of_length_eq_zero;rcases FI hk with rfl | rfl | rfl | rfl | rfl | rfl | rfl | rfl | rfl | rfl
 ·obtain rfl:=h4.resolve_left (by decide);obtain rfl:=z (h5.resolve_left (by decide));obtain rfl:=z (h6.resolve_left (by decide));obtain ⟨a,rfl,ha⟩:=PD (Nat.le_antisymm h2 h1) h7;exact .k1 ha
 ·obtain rfl:=h4.resolve_left (by decide);obtain rfl:=z (h5.resolve_left (by decide));obtain rfl:=z (h6.resolve_left (by decide));obtain ⟨a,b,rfl,ha,hb⟩:=YB (Nat.le_antisymm h2 h1) h7;exact .k2 ha hb
 ·obtain rfl:=h4.resolve_left (by decide);obtain rfl:=z (h5.resolve_left (by decide));obtain rfl:=z (h6.resolve_left (by decide));obtain ⟨a,rfl,ha⟩:=PD (Nat.le_antisymm h2 h1) h7;exact .k3 ha
 ·obtain rfl:=h3.resolve_left (by decide);obtain rfl:=h4.resolve_left (by decide);obtain ⟨a,rfl,ha⟩:=PD (Nat.le_antisymm h2 h1) h7;exact .k4 ha
 ·obtain rfl:=h3.resolve_left (by decide);obtain rfl:=h4.resolve_left (by decide);obtain rfl:=z (h6.resolve_left (by decide));obtain ⟨a,rfl,ha⟩:=PD (Nat.le_antisymm h2 h1) h7;exact .k5 ha
 ·obtain rfl:=z (h5.resolve_left (by decide));obtain rfl:=z (h6.resolve_left (by decide));exact .k6 fun a ha=>cC ha h7
 ·obtain rfl:=h3.resolve_left (by decide);obtain rfl:=z (h5.resolve_left (by decide));obtain rfl:=z (h6.resolve_left (by decide));cases ex with
  | nil=>exact absurd h1 (by decide)
  | cons a l=>exact .k7 (cC (by simp) h7) fun b hb=>cC (by simp [hb]) h7
 ·obtain rfl:=h3.resolve_left (by decide);obtain rfl:=h4.resolve_left (by decide);obtain rfl:=z (h5.resolve_left (by decide));obtain ⟨a,b,rfl,ha,hb⟩:=YB (Nat.le_antisymm h2 h1) h7;exact .k8 ha hb
 ·obtain rfl:=h4.resolve_left (by decide);obtain rfl:=z (h5.resolve_left (by decide));obtain ⟨a,rfl,ha⟩:=PD (Nat.le_antisymm h2 h1) h7;exact .k9 ha
 ·obtain rfl:=h3.resolve_left (by decide);obtain rfl:=h4.resolve_left (by decide);obtain rfl:=z (h5.resolve_left (by decide));obtain rfl:=z (h6.resolve_left (by decide));obtain rfl:=zG (Nat.le_zero.1 h2);exact .k10
theorem OL {s:Sm} (h:FmS s):∃ x k,ktS s=x::k∧isK [125] x=false∧isK [101,108,115,101] x=false:=by
 cases h <;> rw [lC] <;> exact ⟨_,_,rfl,rfl,rfl⟩
def RdS (s:Sm):Prop:=Rdc (gSt gB) (ktS s) s (mQ [101,108,115,101])
theorem zQ {x:Kt} (h1:(List.range 5).all (fun i=>(opK i x).isNone)=true) (h2:isK [91] x=false):US (some x):=⟨fun i hi=>by simpa using List.all_eq_true.1 h1 i hi,h2⟩
theorem Rdc.oth {C:Option Kt→Prop} {el:List Sm} (h:Rdc gB (lA el) el tY):Rdc (kO gB) (if decide (el.length=0)=true then [(4,[59])] else (2,[101,108,115,101])::(4,[123])::(lA el++[(4,[125])])) el C:=by
 split
 ·rename_i e;obtain rfl:=List.eq_nil_of_length_eq_zero (of_decide_eq_true e);exact .altF Z (.nd Z .pure)
 ·exact .altT Z (.blk h)
theorem HG (el:List Sm) (o:Option Kt):US (hdC (if decide (el.length=0)=true then [(4,[59])] else (2,[101,108,115,101])::(4,[123])::(lA el++[(4,[125])])) o):=by
 split <;> exact zQ rfl rfl
theorem Rdc.st {s:Sm} (h:FmS s) (ht:∀ nm hd kd ex th el,s=.mk kd nm hd ex th el→Rdc gB (lA th) th tY∧Rdc gB (lA el) el tY):RdS s:=by
 unfold RdS;cases h with
 | k1 ha=>exact .altF rfl<|.altF rfl<|.altF rfl<|.altF rfl<|.altF rfl<|.altF rfl<|.altF rfl<|.altF rfl<|.nm<|.altF rfl<|.nd rfl<|.seq (.ex ha) (fun _ _=>zQ rfl rfl)<|.nd rfl .pure
 | k2 ha hb=>exact .altF rfl<|.altF rfl<|.altF rfl<|.altF rfl<|.altF rfl<|.altF rfl<|.altF rfl<|.altF rfl<|.nm<|.altT rfl<|.seq (.ex ha) (fun _ _=>zQ rfl rfl)<|.nd rfl<|.nd rfl<|.seq (.ex hb) (fun _ _=>zQ rfl rfl)<|.nd rfl .pure
 | k3 ha=>exact .altF rfl<|.altF rfl<|.altF rfl<|.altF rfl<|.altF rfl<|.altF rfl<|.altF rfl<|.altT rfl<|.nm<|.nd rfl<|.seq (.ex ha) (fun _ _=>zQ rfl rfl)<|.nd rfl<|.nd rfl .pure
 | @k4 a th el ha =>
  obtain ⟨h1,h2⟩:=ht _ _ _ _ _ _ rfl;refine .altT Z<|.seq (.ex ha) (fun _ _=>zQ Z Z)<|.seq (C1:=kP) (.blk h1) (fun _ _=>trivial) ?_
  split
  ·rename_i e;obtain rfl:=List.eq_nil_of_length_eq_zero (of_decide_eq_true e);exact Rdc.seq (k1:=[]) (k2:=[]) (C1:=mQ [101,108,115,101]) (.altE (fun o c=>c) .pure) (fun o c=>c) .pure
  ·have:=Rdc.seq (C2:=mQ [101,108,115,101]) (f:=fun l=>aS (Sm.mk 4 [] [] [a] th l)) (k2:=[]) (C1:=kP) (.altT (w:=[101,108,115,101]) (q:=aS []) (x:=(2,[101,108,115,101])) rfl (.blk h2)) (fun o c=>trivial) .pure
   rwa [List.append_nil] at this
 | @k5 a th ha =>
  obtain ⟨h1,_⟩:=ht _ _ _ _ _ _ rfl;have:=Rdc.seq (C2:=mQ [101,108,115,101]) (f:=fun t=>aS (Sm.mk 5 [] [] [a] t [])) (k2:=[]) (C1:=kP) (.blk h1) (fun o c=>trivial) .pure;rw [List.append_nil] at this;exact .altF Z<|.altT Z<|.seq (.ex ha) (fun _ _=>zQ Z Z) this
 | k6 hl=>exact .altF rfl<|.altF rfl<|.altF rfl<|.altF rfl<|.altT rfl<|.nm<|.nd rfl<|.nm<|.seq (C1:=kP) (.exs hl) (fun _ _=>trivial)<|.nd rfl .pure
 | k7 ha hl=>exact .altF rfl<|.altF rfl<|.altF rfl<|.altF rfl<|.altF rfl<|.altT rfl<|.seq (.ex ha) (fun _ _=>zQ rfl rfl)<|.nd rfl<|.nm<|.seq (C1:=kP) (.exs hl) (fun _ _=>trivial)<|.nd rfl .pure
 | @k8 a b el ha hb =>
  obtain ⟨_,h2⟩:=ht _ _ _ _ _ _ rfl;have:=Rdc.seq (C2:=mQ [101,108,115,101]) (f:=fun l=>aS (Sm.mk 8 [] [] [a,b] [] l)) (k2:=[]) (C1:=kP) (.oth h2) (fun o c=>trivial) .pure;rw [List.append_nil] at this;exact .altF Z<|.altF Z<|.altT Z<|.seq (.ex ha) (fun _ _=>zQ Z Z)<|.nd Z<|.seq (.ex hb) (fun o _=>HG el o) this
 | @k9 nm a el ha =>
  obtain ⟨_,h2⟩:=ht _ _ _ _ _ _ rfl;have:=Rdc.seq (C2:=mQ [101,108,115,101]) (f:=fun l=>aS (Sm.mk 9 nm [] [a] [] l)) (k2:=[]) (C1:=kP) (.oth h2) (fun o c=>trivial) .pure;rw [List.append_nil] at this;exact .altF Z<|.altF Z<|.altF Z<|.altT Z<|.nm<|.nd Z<|.seq (.ex ha) (fun o _=>HG el o) this
 | k10=>exact .altF rfl<|.altF rfl<|.altF rfl<|.altF rfl<|.altF rfl<|.altF rfl<|.altT rfl<|.nd rfl .pure
theorem Rdc.b:∀ (l:List Sm),(∀ s∈l,FmS s∧RdS s)→Rdc gB (lA l) l tY
 | [],_=>fun le r e c=>by
  obtain rfl:=List.map_eq_nil_iff.1 (by rw [lA] at e;exact e);rw [IH,List.nil_append,AM];have c:hdO r=some (4,[125]):=c;rw [c]
  rfl
 | s::l,h=>fun le r e c=>by
  rw [lA] at e;obtain ⟨l1,l2,rfl,e1,e2⟩:=List.map_eq_append_iff.1 e;obtain ⟨hf,hs⟩:=h s (List.mem_cons_self ..);obtain ⟨x,k,hx,hx1,_⟩:=OL hf;have ih:=Rdc.b l (fun a ha=>h a (List.mem_cons_of_mem _ ha)) l2 r e2 c
  have h2:=hs l1 (l2++r) e1 (by
   rw [AQ e2];cases l with
   | nil=>rw [show hdC (lA []) (hdO r)=hdO r from rfl,show hdO r=some (4,[125]) from c];rfl
   | cons b l =>
    obtain ⟨y,k2,hy,_,hy2⟩:=OL (h b (by simp)).1;rw [lA,hy];exact hy2)
  rw [IH,List.append_assoc,AM,AQ e1,hx];show (if isK [125] x=true then _ else _)=_;rw [hx1,if_neg (by decide),h2];show (gB (l2++r)).bind _=_;rw [ih]
  rfl
theorem gR {q:Sm→Bool}:∀ {l:List Sm} {a:Sm},a∈l→Sm.alls q l=true→Sm.all q a=true
 | b::l,a,h,k=>by
  rw [Sm.alls,Bool.and_eq_true] at k;rcases List.mem_cons.1 h with rfl | h
  ·exact k.1
  ·exact gR h k.2
theorem RJ (s:Sm):Sm.all kD s=true→FmS s∧RdS s:=by
 induction s using Sm.ind with
 | _ kd nm hd ex th el ih1 ih2 =>
  intro h;rw [fB,Bool.and_eq_true,Bool.and_eq_true] at h;obtain ⟨⟨h1,h2⟩,h3⟩:=h;have hf:=yN h1
  exact ⟨hf,.st hf fun nm' hd' kd' ex' th' el' e=>by
   injection e with _ _ _ _ e1 e2
   subst e1 e2;exact ⟨.b _ fun s hs=>ih1 s hs (gR hs h2),.b _ fun s hs=>ih2 s hs (gR hs h3)⟩⟩
theorem Rdc.body {l:List Sm} (h:Sm.alls kD l=true):Rdc gB (lA l) l tY:=.b l fun s hs=>RJ s (gR hs h)
/-! ### Fleets -/
def JA (b:Bool):Kt:=(2,if b then [116,114,117,101] else [102,97,108,115,101])
def fgK (f:Fg):List Kt:=[(1,f.nm),(4,[61]),JA f.init,(4,[59])]
def lkK (l:Lk):List Kt:=[(1,l.fr),(4,[45,62]),(1,l.to),(2,[108,97,116,101,110,99,121]),(3,Lib.decDigits l.lat.toInt.toNat),(4,[59])]
def OS (n:Int64):List Kt:=if n.toInt<0 then [(4,[45]),(3,Lib.decDigits (-n.toInt).toNat)] else [(3,Lib.decDigits n.toInt.toNat)]
def vrK (v:Vr):List Kt:=(1,v.nm)::(4,[58])::(if v.ty=1 then (2,[105,110,116])::(4,[61])::(OS v.init++[(4,[59])]) else if v.ty=2 then [(2,[98,111,111,108]),(4,[61]),JA (decide (v.init.toInt=1)),(4,[59])] else [(2,[116,97,98,108,101]),(4,[59])])
def hdK (h:Hd):List Kt:=(1,h.nm)::(DF (h.ps.map fun p=>[(1,p)])++(4,[123])::(lA h.body++[(4,[125])]))
def vsK (v:List Hd):List Kt:=(v.map fun h=>(2,[111,110])::hdK h).flatten
def vnK (n:Str) (v:List Hd):List Kt:=(2,[118,101,114,115,105,111,110])::(3,n)::(4,[123])::(vsK v++[(4,[125])])
def vmK:List (List Hd)→List Kt
 | [v]=>vnK [50] v
 | v::w::_=>vnK [50] v++vnK [51] w
 | []=>[]
def cpK (c:Cp):List Kt:=(1,c.nm)::(4,[123])::((c.vars.map fun v=>(2,[118,97,114])::vrK v).flatten++(vsK (c.vers.headD [])++(vmK c.vers.tail++[(4,[125])])))
def ftK (f:Ft):List Kt:=(2,[102,108,101,101,116])::(1,f.nm)::(4,[123])::((f.flags.map fun x=>(2,[102,108,97,103])::fgK x).flatten++((f.links.map fun x=>(2,[108,105,110,107])::lkK x).flatten++((f.comps.map fun x=>(2,[99,111,109,112,111,110,101,110,116])::cpK x).flatten++[(4,[125])])))
section
variable {C:Option Kt→Prop}
theorem Rdc.tru {β:Type} {f:Bool→Pz β} {b:Bool} {k:List Kt} {v:β} (h:Rdc (f b) k v C):Rdc (aH gTr f) (JA b::k) v C:=by
 have:Rdc gTr [JA b] b kP:=by
  cases b
  ·exact .altF Z (.nd Z .pure)
  ·exact .altT Z .pure
 exact Rdc.seq (k1:=[JA b]) this (fun _ _=>trivial) h
theorem Rdc.fg (f:Fg):Rdc gFg (fgK f) f C:=.nm<|.nd rfl<|.tru<|.nd rfl .pure
theorem IE {n:Int64} (h:0≤n.toInt):n.toInt.toNat≤9223372036854775807∧Int64.ofNat n.toInt.toNat=n:=by
 have hlt:=n.toInt_lt;refine ⟨by omega,Int64.toInt_inj.1 ?_⟩;rw [Int64.toInt_ofNat_of_lt (by omega)];omega
theorem Rdc.lk {l:Lk} (h:lkB l=true):Rdc gLk (lkK l) l C:=by
 simp only [lkB,Bool.and_eq_true,decide_eq_true_eq] at h;obtain ⟨h1,h2⟩:=IE (n:=l.lat) (by omega)
 have h3:Rdc gNu [(3,Lib.decDigits l.lat.toInt.toNat)] l.lat kP:=by
  have:=Rdc.nu (C:=kP) h1
  rwa [h2] at this
 exact .nm<|.nd Z<|.nm<|.nd Z<|Rdc.seq (k1:=[_]) h3 (fun _ _=>trivial)<|.nd Z .pure
theorem Rdc.int {n:Int64} (h:n.toInt≠-9223372036854775808):Rdc sM (OS n) n C:=by
 unfold OS
 split
 ·rename_i hn;have hlt:=n.le_toInt;have h1:(-n.toInt).toNat≤9223372036854775807:=by omega
  have e:-Int64.ofNat (-n.toInt).toNat=n:=by
   apply Int64.toInt_inj.1;rw [Int64.toInt_neg,Int64.toInt_ofNat_of_lt (by omega)];rw [Int.toNat_of_nonneg (by omega),Int.neg_neg];exact Int.bmod_eq_of_le (by omega) (by have:=n.toInt_lt;omega)
  have:=Rdc.seq (C1:=kP) (C2:=C) (f:=fun v=>aS (-v)) (k2:=[]) (.nu h1) (fun _ _=>trivial) .pure;rw [e] at this;exact .altT Z this
 ·obtain ⟨h1,h2⟩:=IE (n:=n) (by omega);have h3:=Rdc.nu (C:=C) h1;rw [h2] at h3;exact .altF (by simp [isK]) h3
theorem Rdc.vr {v:Vr} (h:gY v=true):Rdc gVr (vrK v) v C:=by
 obtain ⟨nm,ty,init⟩:=v;unfold gY at h;simp only at h;refine .nm<|.nd Z ?_
 simp only
 by_cases h1:ty=1
 ·subst h1;rw [if_pos rfl,decide_eq_true_eq] at h;rw [if_pos rfl];exact .altT Z<|.nd Z<|.seq (C1:=kP) (.int h) (fun _ _=>trivial)<|.nd Z .pure
 rw [if_neg h1] at h ⊢
 by_cases h2:ty=2
 ·subst h2;rw [if_pos rfl,decide_eq_true_eq] at h;rw [if_pos rfl]
  have e:(if decide (init.toInt=1)=true then (1:Int64) else 0)=init:=by
   apply Int64.toInt_inj.1;rcases h with h | h <;> simp [h]
  refine .altF Z<|.altT Z<|.nd Z<|.tru<|.nd Z ?_
  rw [e];exact .pure
 rw [if_neg h2] at h ⊢
 split at h
 ·rename_i h3;subst h3;obtain rfl:=wK (of_decide_eq_true h);exact .altF Z<|.altF Z<|.nd Z<|.nd Z .pure
 ·cases h
theorem Rdc.hd {h:Hd} (hf:lK h=true):Rdc gHd (hdK h) h C:=by
 have h1:Rdc (eN gNm) (DF (h.ps.map fun p=>[(1,p)])) h.ps kP:=.list Shs.nm.le (Cp:=kP) trivial trivial (fun a _=>.nm1) fun a _=>⟨_,_,rfl,by simp [isK]⟩;have h2:=Rdc.seq (C1:=kP) (C2:=C) (f:=fun b=>aS (Hd.mk h.nm h.ps b)) (k2:=[]) (.blk (.body hf)) (fun _ _=>trivial) .pure;rw [List.append_nil] at h2;exact .nm<|.seq h1 (fun _ _=>trivial) h2
theorem Shs.hd:Shs gHd:=.bind .nm fun _=>.bind (Shs.list Shs.nm.le).le fun _=>.bind (Shs.blk Shr.b).le fun _=>.pure _
theorem Rdc.vs {v:List Hd} (h:v.all lK=true) (hc:∀ o,C o→mQ [111,110] o):Rdc gVs (vsK v) v C :=
 .many Shs.hd.le rfl (Cp:=kP) trivial (fun o c=>⟨trivial,hc o c⟩) v fun a ha=>.hd (List.all_eq_true.1 h a ha)
theorem Rdc.vn {n:Str} {v:List Hd} (h:v.all lK=true):Rdc (gVn n) ((3,n)::(4,[123])::(vsK v++[(4,[125])])) v C :=
 .nn<|.nd rfl<|.seq (C1:=tY) (.vs h fun o c=>by rw [show o=some (4,[125]) from c];rfl) (fun _ _=>rfl)<|.nd rfl .pure
theorem Rdc.vm {l:List (List Hd)} (h:∀ v∈l,v.all lK=true) (hl:l.length≤2):Rdc gVm (vmK l) l tY:=by
 have hE:∀ o,tY o→mQ [118,101,114,115,105,111,110] o:=fun o c=>by rw [show o=some (4,[125]) from c];rfl
 match l,hl with
 | [],_=>exact .altE hE .pure
 | [v],_ =>
  have:=Rdc.seq (C1:=kP) (C2:=tY) (f:=fun v=>dB [118,101,114,115,105,111,110] (aH (gVn [51]) fun w=>aS [v,w]) (aS [v])) (k2:=[]) (.vn (n:=[50]) (h v (by simp))) (fun _ _=>trivial) (.altE hE .pure);rw [List.append_nil] at this;exact .altT Z this
 | [v,w],_ =>
  have h2:=Rdc.seq (C1:=kP) (C2:=tY) (f:=fun w=>aS [v,w]) (k2:=[]) (.vn (n:=[51]) (h w (by simp))) (fun _ _=>trivial) .pure;rw [List.append_nil] at h2;exact .altT Z (.seq (C1:=kP) (.vn (n:=[50]) (h v (by simp))) (fun _ _=>trivial) (.altT Z h2))
theorem Shs.tr:Shs gTr:=.alt (.pure _) (.bind (.nd _) fun _=>.pure _)
theorem Shs.fg:Shs gFg:=.bind .nm fun _=>.bind (Shs.nd _).le fun _=>.bind Shs.tr.le fun _=>.bind (Shs.nd _).le fun _=>.pure _
theorem Shs.lk:Shs gLk:=.bind .nm fun _=>.bind (Shs.nd _).le fun _=>.bind Shs.nm.le fun _=>.bind (Shs.nd _).le fun _=>.bind Shs.nu.le fun _=>.bind (Shs.nd _).le fun _=>.pure _
theorem Shs.int:Shs sM:=.alt (.bind Shs.nu.le fun _=>.pure _) .nu
theorem Shs.vr:Shs gVr:=.bind .nm fun _=>.bind (Shs.nd _).le fun _=>.alt (.bind (Shs.nd _).le fun _=>.bind Shs.int.le fun _=>.bind (Shs.nd _).le fun _=>.pure _) (.alt (.bind (Shs.nd _).le fun _=>.bind Shs.tr.le fun _=>.bind (Shs.nd _).le fun _=>.pure _) (.bind (Shs.nd _).le fun _=>.bind (Shs.nd _).le fun _=>.pure _))
theorem Shr.vs:Shr gVs:=.many Shs.hd.le
theorem Shs.vn (n:Str):Shs (gVn n):=.bind (.nn _) fun _=>.bind (Shs.nd _).le fun _=>.bind .vs fun _=>.bind (Shs.nd _).le fun _=>.pure _
theorem Shr.vm:Shr gVm:=.alt (.bind (Shs.vn _).le fun _=>.alt (.bind (Shs.vn _).le fun _=>.pure _) (.pure _)) (.pure _)
theorem Shs.cp:Shs gCp:=.bind .nm fun _=>.bind (Shs.nd _).le fun _=>.bind (.many Shs.vr.le) fun _=>.bind .vs fun _=>.bind .vm fun _=>.bind (Shs.nd _).le fun _=>.pure _
theorem pN (k1 k2:List Kt) (o:Option Kt):hdC (k1++k2) o=hdC k1 (hdC k2 o):=by cases k1 <;> rfl
theorem uQ {α:Type} {w:Str} {x:Kt} (hw:isK w x=false) (g:α→List Kt) (l:List α) {o:Option Kt} (h:mQ w o):mQ w (hdC ((l.map fun a=>x::g a).flatten) o):=by
 cases l with
 | nil=>exact h
 | cons a l=>exact hw
theorem UC {w:Str} (hw:isK w (2,[118,101,114,115,105,111,110])=false) (l:List (List Hd)) {o:Option Kt} (h:mQ w o):mQ w (hdC (vmK l) o):=by
 match l with
 | []=>exact h
 | [v]=>exact hw
 | v::u::_=>exact hw
theorem Rdc.cp {c:Cp} (h1:c.vars.all gY=true) (h2:lU lK c=true) (h3:1≤c.vers.length) (h4:c.vers.length≤3):Rdc gCp (cpK c) c C:=by
 obtain ⟨nm,vars,vers⟩:=c;simp only at h1 h3 h4
 match vers,h3 with
 | v::l,_ =>
  have hv:∀ u∈v::l,u.all lK=true:=List.all_eq_true.1 h2;simp only [List.length_cons] at h4;refine .nm<|.nd Z<|.seq (C1:=mQ [118,97,114]) (.many Shs.vr.le Z (Cp:=kP) trivial (fun o c=>⟨trivial,c⟩) vars fun a ha=>.vr (List.all_eq_true.1 h1 a ha)) (fun o c=>?_)<|.seq (C1:=mQ [111,110]) (.vs (hv v (by simp)) fun o c=>c) (fun o c=>?_)<|.seq (C1:=tY) (.vm (fun u hu=>hv u (by simp only [List.tail_cons] at hu;simp [hu])) (by simp only [List.tail_cons];omega)) (fun o c=>rfl)<|.nd Z .pure
  ·rw [pN,pN];exact uQ rfl _ _ (UC rfl _ rfl)
  ·rw [pN];exact UC rfl _ rfl
theorem Rdc.ft {f:Ft} (h:dA f=0):Rdc gFt (ftK f) f C:=by
 unfold dA at h
 split at h
 ·cases h
 rename_i h1
 split at h
 ·cases h
 split at h
 ·cases h
 rename_i h2;rw [Bool.not_eq_false] at h1 h2;simp only [hG,Bool.and_eq_true] at h1;simp only [lY,Bool.and_eq_true] at h2;obtain ⟨_,hs,_⟩:=h1;obtain ⟨⟨hl,hv⟩,hb⟩:=h2;rw [nL] at hb;refine .nd Z<|.nm<|.nd Z<|.seq (C1:=mQ [102,108,97,103]) (.many Shs.fg.le Z (Cp:=kP) trivial (fun o c=>⟨trivial,c⟩) f.flags fun a _=>.fg a) (fun o c=>?_)<|.seq (C1:=mQ [108,105,110,107]) (.many Shs.lk.le Z (Cp:=kP) trivial (fun o c=>⟨trivial,c⟩) f.links fun a ha=>.lk (List.all_eq_true.1 hl a ha)) (fun o c=>?_)<|.seq (C1:=mQ [99,111,109,112,111,110,101,110,116]) (.many Shs.cp.le Z (Cp:=kP) trivial (fun o c=>⟨trivial,c⟩) f.comps fun a ha=>?_) (fun o c=>rfl)<|.nd Z .pure
 ·rw [pN,pN];exact uQ rfl _ _ (uQ rfl _ _ rfl)
 ·rw [pN];exact uQ rfl _ _ rfl
 ·have h3:=List.all_eq_true.1 hs a ha;simp only [kA,Bool.and_eq_true,decide_eq_true_eq] at h3;exact .cp (List.all_eq_true.1 hv a ha) (List.all_eq_true.1 hb a ha) h3.1.1.2 h3.1.2
end
structure Tok (x:Kt) (r:Str):Prop where
 ne:x.2≠[]
 read:aJ (x.2++r)=(x.1,x.2.length)
 skip:bZ false (x.2++r)=x.2++r
 k5:x.1≠5
 sh:x.2.length≤1000000
inductive Lx:Str→List Kt→Prop where
 | nil:Lx [] []
 | blk {c:UInt8} {s:Str} {k:List Kt} (h:eR c=true) (l:Lx s k):Lx (c::s) k
 | tok {x:Kt} {s:Str} {k:List Kt} (h:Tok x s) (l:Lx s k):Lx (x.2++s) (x::k)
theorem Lx.toks {s:Str} {k:List Kt} (h:Lx s k):∀ (f o:Nat),(bZ false s).length<f→(pW f o (bZ false s)).map kt=k:=by
 induction h with
 | nil=>intro f o _;rw [mH,jU];rfl
 | blk h _ ih=>intro f o hf;rw [xY h] at hf ⊢;exact ih f o hf
 | @tok x s k h _ ih =>
  intro f o hf;rw [h.skip] at hf ⊢
  match f,hf with
  | f+1,hf =>
   have hne:x.2++s≠[]:=by intro e;exact h.ne (List.append_eq_nil_iff.1 e).1
   rw [iW hne,h.read];simp only [List.take_left,List.drop_left,List.map_cons];have hl:=fI false s;have h1:1≤x.2.length:=List.length_pos_iff.2 h.ne;rw [ih f _ (by rw [List.length_append] at hf;omega)]
   rfl
theorem Lx.lex {s:Str} {k:List Kt} (h:Lx s k):(gP s).map kt=k:=by
 unfold gP;have:=fI false s;exact h.toks _ _ (by omega)
def kB (r:Str):Prop:=∀ c,r.head? = some c→eG c=false∧c≠46∧c≠61∧c≠62∧c≠47
def hdB (r:Str):Prop:=∀ c,r.head? = some c→c≠46∧c≠61∧c≠62∧c≠47
theorem kB.hd {r:Str} (h:kB r):hdB r:=fun c e=>(h c e).2
theorem dM {c:UInt8} {r:Str} (h:eG c=false∧c≠46∧c≠61∧c≠62∧c≠47):kB (c::r):=fun d e=>by cases e;exact h
theorem aY {c:UInt8} {r:Str} (h:c≠46∧c≠61∧c≠62∧c≠47):hdB (c::r):=fun d e=>by cases e;exact h
theorem nF {q:UInt8→Bool}:∀ {w r:Str},w.all q=true→(∀ c,r.head? = some c→q c=false)→pre q (w++r)=w.length
 | [],[],_,_=>rfl
 | [],c::r,_,h=>by unfold pre;rw [List.nil_append,List.takeWhile_cons,h c rfl];rfl
 | a::w,r,hw,h=>by
  rw [List.all_cons,Bool.and_eq_true] at hw;have:=nF hw.2 h;unfold pre at this ⊢;rw [List.cons_append,List.takeWhile_cons,hw.1];simp [this]
theorem zV {q:UInt8→Bool}:∀ {w:Str},pre q w=w.length→w.all q=true
 | [],_=>rfl
 | a::w,h=>by
  unfold pre at h;rw [List.takeWhile_cons] at h;cases ha:q a with
  | false=>rw [ha] at h;simp at h
  | true =>
   rw [ha] at h;have:=zV (q:=q) (w:=w) (by unfold pre;simpa using h);rw [List.all_cons,ha,this];rfl
theorem rV {Q:UInt8→Prop} (h:∀ i∈List.range 256,Q (UInt8.ofNat i)) (c:UInt8):Q c:=by
 have:=h c.toNat (List.mem_range.2 c.toNat_lt)
 rwa [UInt8.ofNat_toNat] at this
theorem uN (c:UInt8) (h:iK c=true):eR c=false∧c≠47∧c≠46∧c≠61∧c≠62∧eG c=true∧dX c=false:=by
 revert h
 exact rV (Q:=fun c=>iK c=true→eR c=false∧c≠47∧c≠46∧c≠61∧c≠62∧eG c=true∧dX c=false) (by decide +kernel) c
theorem BB (c:UInt8) (h:dX c=true):eR c=false∧c≠47∧c≠46∧c≠61∧c≠62∧iK c=false:=by
 revert h
 exact rV (Q:=fun c=>dX c=true→eR c=false∧c≠47∧c≠46∧c≠61∧c≠62∧iK c=false) (by decide +kernel) c
theorem ID (c:UInt8) (h:eG c=false):dX c=false:=by
 revert h
 exact rV (Q:=fun c=>eG c=false→dX c=false) (by decide +kernel) c
theorem IV:∀ w∈words,w.length≤12:=by decide +kernel
theorem vI {k:UInt8} {w r:Str} (h0:w≠[]) (hl:iK (w.headD 0)=true) (hw:w.all eG=true) (hk:(if words.contains w then (2:UInt8) else if w.length≤12 then 1 else 5)=k) (h5:k≠5) (hr:kB r):Tok (k,w) r:=by
 match w,h0 with
 | c::t,h0 =>
  have hlb:=uN c hl;have hp:pre eG ((c::t)++r)=(c::t).length:=nF hw fun d hd=>(hr d hd).1;refine ⟨h0,?_,?_,h5,?_⟩
  ·show aJ ((c::t)++r)=(k,(c::t).length);unfold aJ;simp only;rw [show ((c::t)++r).headD 0=c from rfl,show iK c=true from hl,if_pos rfl,hp,List.take_left]
   split at hk
   ·rename_i e;rw [if_pos e,← hk]
   ·rename_i e;rw [if_neg e]
    split at hk
    ·rename_i e2;rw [if_pos e2,← hk]
    ·exact absurd hk.symm h5
  ·exact iC hlb.1 (fun e=>hlb.2.1 e.1)
  ·show (c::t).length≤1000000
   split at hk
   ·rename_i e;have:=IV _ (List.contains_iff_mem.1 e);omega
   ·split at hk
    ·omega
    ·exact absurd hk.symm h5
theorem DI:∀ w∈words,w≠[]∧iK (w.headD 0)=true∧w.all eG=true:=by decide +kernel
theorem MF {w r:Str} (hw:w∈words) (hr:kB r):Tok (2,w) r:=by
 obtain ⟨h1,h2,h3⟩:=DI w hw;exact vI h1 h2 h3 (by rw [if_pos (List.contains_iff_mem.2 hw)]) (by decide) hr
theorem nZ {w:Str} (h:aV w=true):w≠[]∧iK (w.headD 0)=true∧w.all eG=true∧words.contains w=false∧w.length≤12:=by
 have hlen:=gN h;simp only [aV,Bool.and_eq_true,decide_eq_true_eq,beq_iff_eq] at h;obtain ⟨⟨h0,h1⟩,h2⟩:=h
 match w,h0 with
 | c::t,h0 =>
  have hl:=JW h1
  have h3:words.contains ((c::t).take (pre eG (c::t)))=false∧pre eG (c::t)=(c::t).length:=by
   unfold aJ at h1 h2;simp only [List.headD_cons,hl,if_true] at h1 h2
   split at h1
   ·simp at h1
   ·rename_i e;rw [if_neg e] at h2
    split at h1
    ·rename_i e2;rw [if_pos e2] at h2;exact ⟨by simpa using e,h2⟩
    ·simp at h1
  obtain ⟨h4,h5⟩:=h3;rw [h5,List.take_length] at h4;exact ⟨h0,hl,zV h5,h4,hlen⟩
theorem ME {w r:Str} (hw:aV w=true) (hr:kB r):Tok (1,w) r:=by
 obtain ⟨h1,h2,h3,h4,h5⟩:=nZ hw;exact vI h1 h2 h3 (by rw [h4,if_neg (by decide),if_pos h5]) (by decide) hr
theorem uM {w r:Str} (hw:aV w=true):hdB (w++r):=by
 obtain ⟨h1,h2,_⟩:=nZ hw
 match w,h1 with
 | c::t,_=>have:=uN c h2;exact aY ⟨this.2.2.1,this.2.2.2.1,this.2.2.2.2.1,this.2.1⟩
theorem wI {w r:Str} (hw:w∈words):hdB (w++r):=by
 obtain ⟨h1,h2,_⟩:=DI w hw
 match w,h1 with
 | c::t,_=>have:=uN c h2;exact aY ⟨this.2.2.1,this.2.2.2.1,this.2.2.2.2.1,this.2.1⟩
theorem yV:∀ (u:Nat),∃ c t,Lib.decDigits u=c::t∧(t=[]∨c≠48)∧(u≠0→c≠48):=by
 intro u;induction u using Nat.strongRecOn with
 | _ u ih =>
  by_cases h:u<10
  ·rw [Lib.decDigits_one h];refine ⟨_,[],rfl,.inl rfl,fun hu e=>?_⟩;have:=congrArg UInt8.toNat e;rw [Plain.digit_nat u h] at this;have h48:(48:UInt8).toNat=48:=rfl;omega
  ·rw [Plain.digits_more u h];obtain ⟨c,t,e,_,h2⟩:=ih (u / 10) (by omega);rw [e];exact ⟨c,_,rfl,.inr (h2 (by omega)),fun _=>h2 (by omega)⟩
theorem SW {u:Nat} (h:u≤9223372036854775808):(Lib.decDigits u).length≤21:=by
 have h1:=Lib.itoa_length_le (-(u:Int)) (by omega) (by omega)
 by_cases h0:u=0
 ·subst h0;decide +kernel
 ·rw [Lib.itoa,if_pos (by omega),show (-(u:Int)).natAbs=u by omega,List.length_cons] at h1;omega
theorem PK {n:Int64}:n.toInt.toNat≤9223372036854775808:=by have:=n.toInt_lt;omega
theorem QS {u:Nat} {r:Str} (hu:u≤9223372036854775808) (hr:kB r):Tok (3,Lib.decDigits u) r:=by
 have hdl:=SW hu;obtain ⟨c,t,e,h2,_⟩:=yV u
 have hall:(Lib.decDigits u).all dX=true:=List.all_eq_true.2 fun d hd=>by
  have:=Plain.digits_are u d hd;simp only [dX,Bool.and_eq_true,decide_eq_true_eq];exact this
 have hp:pre dX (Lib.decDigits u++r)=(Lib.decDigits u).length:=nF hall fun d hd=>ID d (hr d hd).1;rw [e] at hall hp hdl ⊢;rw [List.all_cons,Bool.and_eq_true] at hall;have hb:=BB c hall.1;refine ⟨by simp,?_,iC hb.1 (fun e=>hb.2.1 e.1),(show (3:UInt8)≠5 by decide),(by show (c::t).length≤1000000;omega)⟩;show aJ ((c::t)++r)=(3,(c::t).length);unfold aJ;simp only;rw [show ((c::t)++r).headD 0=c from rfl,hb.2.2.2.2.2,if_neg (by decide),hall.1,if_pos rfl,hp];refine if_pos ?_;rcases h2 with rfl | h2
 ·exact .inl Z
 ·exact .inr h2
theorem NO {u:Nat} {r:Str}:hdB (Lib.decDigits u++r):=by
 obtain ⟨c,t,e,_⟩:=yV u;have:=Plain.digits_are u c (by rw [e];simp);have hd:dX c=true:=by simp only [dX,Bool.and_eq_true,decide_eq_true_eq];exact this
 have hb:=BB c hd;rw [e];exact aY ⟨hb.2.2.1,hb.2.2.2.1,hb.2.2.2.2.1,hb.2.1⟩
def QX:Str:=[123,125,40,41,91,93,44,59,58,46,61,60,62,43,45,42,47,37]
theorem GR {c:UInt8} {r:Str} (hc:c∈QX) (hr:hdB r):Tok (4,[c]) r:=by
 have hx:∀ d,r.head? = some d→d≠46∧d≠61∧d≠62∧d≠47:=hr;refine ⟨by simp,?_,?_,(show (4:UInt8)≠5 by decide),(by show (1:Nat)≤_;omega)⟩
 ·show aJ (c::r)=(4,1);have hl:iK c=false∧dX c=false:=by revert c;decide
  have hf:symbols.find? (fun x=>x.isPrefixOf (c::r))=some [c]:=by
   cases r with
   | nil=>revert c;decide
   | cons d t =>
    obtain ⟨e1,e2,e3,e4⟩:=hx d rfl;have b1:((46:UInt8) == d)=false:=beq_false_of_ne (Ne.symm e1);have b2:((61:UInt8) == d)=false:=beq_false_of_ne (Ne.symm e2);have b3:((62:UInt8) == d)=false:=beq_false_of_ne (Ne.symm e3);simp only [QX,List.mem_cons,List.not_mem_nil,or_false] at hc
    rcases hc with rfl | rfl | rfl | rfl | rfl | rfl | rfl | rfl | rfl | rfl | rfl | rfl | rfl | rfl | rfl | rfl | rfl | rfl <;>
     simp [symbols,List.find?,List.isPrefixOf,b1,b2,b3]
  unfold aJ;simp only [List.headD_cons,hl.1,hl.2,hf,Bool.false_eq_true,if_false,List.length_singleton]
 ·refine iC (by revert c;decide) ?_;rintro ⟨_,h⟩;exact (hx 47 h).2.2.2 rfl
def UP:List Str:=[[61,61],[33,61],[60,61],[62,61],[45,62]]
theorem GQ {w:Str} {r:Str} (hw:w∈UP):Tok (4,w) r:=by
 simp only [UP,List.mem_cons,List.not_mem_nil,or_false] at hw;rcases hw with rfl | rfl | rfl | rfl | rfl <;> refine ⟨by simp,?_,?_,(show (4:UInt8)≠5 by decide),(by show (2:Nat)≤_;omega)⟩ <;> simp [aJ,iK,dX,symbols,List.find?,List.isPrefixOf,bZ,eR]
theorem fT {r:Str}:kB (32::r):=dM (by decide)
theorem PO {r:Str}:kB (41::r):=dM (by decide)
theorem BH {r:Str}:kB (91::r):=dM (by decide)
theorem GE {r:Str}:kB (93::r):=dM (by decide)
theorem Lx.sp {r:Str} {k:List Kt} (h:Lx r k):Lx (32::r) k:=.blk (by decide) h
theorem Lx.sy {c:UInt8} {r:Str} {k:List Kt} (hc:c∈QX) (hr:hdB r) (h:Lx r k):Lx (c::r) ((4,[c])::k):=.tok (x:=(4,[c])) (GR hc hr) h
theorem Lx.kw {w r:Str} {k:List Kt} (hw:w∈words) (hr:kB r) (h:Lx r k):Lx (w++r) ((2,w)::k):=.tok (x:=(2,w)) (MF hw hr) h
theorem Lx.nm {w r:Str} {k:List Kt} (hw:aV w=true) (hr:kB r) (h:Lx r k):Lx (w++r) ((1,w)::k):=.tok (x:=(1,w)) (ME hw hr) h
theorem Lx.nu {u:Nat} {r:Str} {k:List Kt} (hu:u≤9223372036854775808) (hr:kB r) (h:Lx r k):Lx (Lib.decDigits u++r) ((3,Lib.decDigits u)::k):=.tok (x:=(3,Lib.decDigits u)) (QS hu hr) h
def LxE (e:Ex):Prop:=∀ r ks,kB r→Lx r ks→Lx (e.text++r) (ktE e++ks)∧hdB (e.text++r)
theorem LxE.opnd {e:Ex} (h:LxE e) (n:Nat) {r:Str} {ks:List Kt} (hr:kB r) (hk:Lx r ks):Lx (opT n (e.lv,e.text)++r) (pY n e.lv (ktE e)++ks)∧hdB (opT n (e.lv,e.text)++r):=by
 unfold opT pY;simp only
 split
 ·simp only [List.cons_append,List.nil_append,List.append_assoc];obtain ⟨h1,h2⟩:=h (41::r) ((4,[41])::ks) PO (.sy (by decide) hr.hd hk);exact ⟨.sy (by decide) h2 h1,aY (by decide)⟩
 ·exact h r ks hr hk
theorem PZ:∀ op∈([11,12,13,14,15,16,17,18,19,20,21,22,23]:List UInt8),(aI op).tx=32::((qV op).2++[32])∧(((qV op).1=2∧(qV op).2∈words)∨((qV op).1=4∧((qV op).2∈UP∨∃ c∈QX,(qV op).2=[c]))):=by decide +kernel
theorem Lx.bin {op:UInt8} (h:op∈([11,12,13,14,15,16,17,18,19,20,21,22,23]:List UInt8)) {r:Str} {k:List Kt} (hk:Lx r k):Lx ((aI op).tx++r) (qV op::k):=by
 obtain ⟨h1,h2⟩:=PZ op h;rw [h1];simp only [List.cons_append,List.append_assoc,List.nil_append];refine .sp ?_;have hs:=hk.sp;refine .tok (x:=qV op) ?_ hs;generalize qV op=x at h2;obtain ⟨k,w⟩:=x;rcases h2 with ⟨e,hw⟩ | ⟨e,hw | ⟨c,hc,hw⟩⟩
 ·obtain rfl:k=2:=e;exact MF hw fT
 ·obtain rfl:k=4:=e;exact GQ hw
 ·obtain rfl:k=4:=e;obtain rfl:w=[c]:=hw;exact GR hc fT.hd
theorem VQ (e:Ex):Ex.all dQ e=true→Ex.all iS e=true→LxE e:=by
 induction e using Ex.ind with
 | _ op nm n args ih =>
  intro h hq;rw [eW,Bool.and_eq_true] at h hq;obtain ⟨hf,hr⟩:=h;obtain ⟨hg,hq⟩:=hq;have ha:∀ a∈args,LxE a:=fun a m=>ih a m (cC m hr) (cC m hq);simp only [dQ,Bool.and_eq_true,Bool.or_eq_true,decide_eq_true_eq] at hf;simp only [iS,Bool.or_eq_true,Bool.not_eq_true'] at hg;obtain ⟨⟨⟨hop,hl⟩,hnm⟩,hn⟩:=hf;have hm:=rC hop;intro r ks hs hk
  by_cases h1:op=1
  ·subst h1;rw [if_pos rfl,decide_eq_true_eq] at hn
   have e1:Ex.text (.mk 1 nm n args)=Lib.decDigits n.toInt.toNat:=by
    rw [Ex.text,txt,if_pos rfl,Lib.itoa,if_neg (by omega)]
   have e2:ktE (.mk 1 nm n args)=[(3,Lib.decDigits n.toInt.toNat)]:=by
    rw [ktE,ktx,if_pos rfl,Lib.itoa,if_neg (by omega)]
   rw [e1,e2];exact ⟨.nu PK hs hk,NO⟩
  rw [if_neg h1,decide_eq_true_eq] at hn;obtain rfl:=wK hn
  by_cases hb:op∈([11,12,13,14,15,16,17,18,19,20,21,22,23]:List UInt8)
  ·obtain ⟨b1,_,_,_,_,_,_,g1,g2,g3,g4,g5,g6,g7⟩:=mZ op hb;obtain ⟨a,b,rfl⟩:=jL (l:=args) (by omega)
   have e1:Ex.text (.mk op nm 0 [a,b])=opT (qA (aI op).lv) (a.lv,a.text)++(aI op).tx++opT ((aI op).lv+1) (b.lv,b.text):=by
    rw [Ex.text,txt,if_neg g1,if_neg (by simp [g2,g3]),if_neg (by simp [g4,g5]),if_neg (by simp [g6,g7]),if_neg (by omega)]
    rfl
   rw [e1,AL hb];simp only [List.append_assoc,List.cons_append];obtain ⟨k1,_⟩:=(ha b (by simp)).opnd ((aI op).lv+1) hs hk;have k2:=Lx.bin hb k1;refine (ha a (by simp)).opnd (qA (aI op).lv) ?_ k2;rw [(PZ op hb).1];exact fT
  have hs9:op=2∨op=3∨op=4∨op=5∨op=6∨op=7∨op=8∨op=9∨op=10:=((vY hop).resolve_left h1).resolve_left hb
  have key:∀ a,LxE a→Lx (91::(a.text++93::r)) ((4,[91])::(ktE a++(4,[93])::ks)):=by
   intro a hA;obtain ⟨k1,k2⟩:=hA (93::r) ((4,[93])::ks) GE (.sy (by decide) hs.hd hk);exact .sy (by decide) k2 k1
  have hn5:(aI op).nm=true→aV nm=true:=fun e=>hg.resolve_left (by rw [e];decide);rcases hs9 with rfl | rfl | rfl | rfl | rfl | rfl | rfl | rfl | rfl
  ·exact ⟨Lx.kw (w:=[116,114,117,101]) (by decide) hs hk,wI (w:=[116,114,117,101]) (by decide)⟩
  ·exact ⟨Lx.kw (w:=[102,97,108,115,101]) (by decide) hs hk,wI (w:=[102,97,108,115,101]) (by decide)⟩
  ·exact ⟨Lx.kw (w:=[110,111,119]) (by decide) hs hk,wI (w:=[110,111,119]) (by decide)⟩
  ·exact ⟨Lx.nm (hn5 rfl) hs hk,uM (hn5 rfl)⟩
  ·obtain ⟨a,rfl⟩:=rW hl;have e1:Ex.text (.mk 6 nm 0 [a])++r=nm++91::(a.text++93::r):=by rw [bM];simp [txt,aI,iQ,shapes]
   have e2:ktE (.mk 6 nm 0 [a])++ks=(1,nm)::(4,[91])::(ktE a++(4,[93])::ks):=by
    rw [show ktE (.mk 6 nm 0 [a])=(1,nm)::(4,[91])::(ktE a++[(4,[93])]) from rfl];simp
   rw [e1,e2];exact ⟨.nm (hn5 rfl) BH (key a (ha a (by simp))),uM (hn5 rfl)⟩
  ·obtain ⟨a,rfl⟩:=rW hl;have e1:Ex.text (.mk 7 nm 0 [a])++r=[104,97,115]++32::(nm++91::(a.text++93::r)):=by rw [bM];simp [txt,aI,iQ,shapes]
   have e2:ktE (.mk 7 nm 0 [a])++ks=(2,[104,97,115])::(1,nm)::(4,[91])::(ktE a++(4,[93])::ks):=by
    rw [show ktE (.mk 7 nm 0 [a])=(2,[104,97,115])::(1,nm)::(4,[91])::(ktE a++[(4,[93])]) from rfl];simp
   rw [e1,e2];exact ⟨.kw (by decide) fT (.sp (.nm (hn5 rfl) BH (key a (ha a (by simp))))),wI (by decide)⟩
  ·obtain rfl:=zG hl;have e1:Ex.text (.mk 8 nm 0 [])++r=[115,105,122,101]++32::(nm++r):=by rw [bM];simp [txt,aI,iQ,shapes]
   rw [e1];exact ⟨.kw (by decide) fT (.sp (.nm (hn5 rfl) hs hk)),wI (by decide)⟩
  ·obtain ⟨a,rfl⟩:=rW hl;obtain ⟨k1,k2⟩:=(ha a (by simp)).opnd 6 hs hk;have e1:Ex.text (.mk 9 nm 0 [a])++r=45::(opT 6 (a.lv,a.text)++r):=by rw [bM];rfl
   rw [e1];exact ⟨.sy (by decide) k2 k1,aY (by decide)⟩
  ·obtain ⟨a,rfl⟩:=rW hl;obtain ⟨k1,k2⟩:=(ha a (by simp)).opnd 6 hs hk;have e1:Ex.text (.mk 10 nm 0 [a])++r=[110,111,116]++32::(opT 6 (a.lv,a.text)++r):=by rw [bM];rfl
   rw [e1];exact ⟨.kw (by decide) fT (.sp k1),wI (by decide)⟩
theorem Lx.nl {r:Str} {k:List Kt} (h:Lx r k):Lx (10::r) k:=.blk (by decide) h
theorem Lx.spT {r:Str} {k:List Kt}:∀ (n:Nat),Lx r k→Lx (spT n++r) k
 | 0,h=>h
 | n+1,h=>by
  rw [Go.Proofs.YthhoebdlfjffkaaGreatDoor.spT,List.append_assoc];exact Lx.spT n (.sp (.sp h))
theorem Lx.line {n:Nat} {parts:List Str} {r:Str} {k:List Kt} (h:Lx (parts.flatten++10::r) k):Lx (dD n parts++r) k:=by
 unfold dD;rw [List.append_assoc,List.append_assoc];exact .spT n h
theorem Lx.to {r:Str} {k:List Kt} (h:Lx r k):Lx (45::62::r) ((4,[45,62])::k):=.tok (x:=(4,[45,62])) (GQ (by decide)) h
theorem JB {w r:Str} (hw:aV w=true) (hr:∀ d,r.head? = some d→eG d=false):Tok (1,w) r:=by
 obtain ⟨h1,h2,h3,h4,h5⟩:=nZ hw
 match w,h1 with
 | c::t,h1 =>
  have hlb:=uN c h2;have hp:pre eG ((c::t)++r)=(c::t).length:=nF h3 hr;refine ⟨h1,?_,iC hlb.1 (fun e=>hlb.2.1 e.1),(show (1:UInt8)≠5 by decide),(by show (c::t).length≤1000000;omega)⟩;show aJ ((c::t)++r)=(1,(c::t).length);unfold aJ;simp only;rw [show ((c::t)++r).headD 0=c from rfl,show iK c=true from h2,if_pos rfl,hp,List.take_left,h4,if_neg (by decide),if_pos h5]
theorem Lx.nm2 {w r:Str} {k:List Kt} (hw:aV w=true) (hr:∀ d,r.head? = some d→eG d=false) (h:Lx r k):Lx (w++r) ((1,w)::k):=.tok (x:=(1,w)) (JB hw hr) h
def LxI (t:Str) (k:List Kt):Prop:=∀ r ks,kB r→Lx r ks→Lx (t++r) (k++ks)∧hdB (t++r)
theorem LxI.one {t r:Str} {k ks:List Kt} (h:LxI t k) (hr:kB r) (l:Lx r ks):Lx (t++r) (k++ks):=(h r ks hr l).1
theorem LxI.nm {w:Str} (h:aV w=true):LxI w [(1,w)]:=fun r ks hr l=>⟨.nm h hr l,uM h⟩
theorem LxI.ex {e:Ex} (h:Ex.all dQ e=true) (hq:Ex.all iS e=true):LxI e.text (ktE e):=VQ e h hq
theorem HQ {α:Type} {tx:α→Str} {g:α→List Kt}:∀ (l:List α) (r:Str) (ks:List Kt),(∀ a∈l,LxI (tx a) (g a))→kB r→Lx r ks→Lx (Lib.joinTail [44,32] (l.map tx)++r) (LE (l.map g)++ks)∧kB (Lib.joinTail [44,32] (l.map tx)++r)
 | [],r,ks,_,hr,h=>⟨h,hr⟩
 | a::l,r,ks,hl,hr,h=>by
  obtain ⟨h1,h2⟩:=HQ l r ks (fun b hb=>hl b (List.mem_cons_of_mem _ hb)) hr h;have h3:=hl a (List.mem_cons_self ..) _ _ h2 h1;unfold Lib.joinTail LE at *;simp only [List.map_cons,List.flatten_cons,List.cons_append,List.append_assoc,List.nil_append];exact ⟨.sy (by decide) (aY (by decide)) (.sp h3.1),dM (by decide)⟩
theorem AG {α:Type} {tx:α→Str} {g:α→List Kt} {l:List α} (hl:∀ a∈l,LxI (tx a) (g a)) {r:Str} {ks:List Kt} (hr:hdB r) (h:Lx r ks):Lx (40::(iP (l.map tx)++41::r)) (DF (l.map g)++ks):=by
 have h0:Lx (41::r) ((4,[41])::ks):=.sy (by decide) hr h;unfold DF iP;cases l with
 | nil=>exact .sy (by decide) (aY (by decide)) h0
 | cons a l =>
  simp only [List.map_cons,Lib.join_cons,UX,List.cons_append,List.append_assoc,List.nil_append];obtain ⟨h1,h2⟩:=HQ l (41::r) _ (fun b hb=>hl b (List.mem_cons_of_mem _ hb)) PO h0;obtain ⟨h3,h4⟩:=hl a (List.mem_cons_self ..) _ _ h2 h1;exact .sy (by decide) h4 h3
def LxS (s:Sm):Prop:=∀ n r ks,Lx r ks→Lx (Sm.text n s++r) (ktS s++ks)
def LxB (l:List Sm):Prop:=∀ n r ks,Lx r ks→Lx (Sm.texts n l++r) (lA l++ks)
theorem LxB.of:∀ {l:List Sm},(∀ s∈l,LxS s)→LxB l
 | [],_=>fun n r ks h=>by rw [Sm.texts,lA];exact h
 | s::l,hs=>fun n r ks h=>by
  rw [Sm.texts,lA,List.append_assoc,List.append_assoc];exact hs s (List.mem_cons_self ..) n _ _ (LxB.of (fun a ha=>hs a (List.mem_cons_of_mem _ ha)) n r ks h)
theorem iO {w r:Str} {k:List Kt} (hw:w∈words) (h:Lx r k):Lx (w++32::r) ((2,w)::k):=.kw hw fT (.sp h)
theorem oC {n:Nat} {r:Str} {ks:List Kt} (h:Lx r ks):Lx (dD n [[125]]++r) ((4,[125])::ks):=.line (.sy (by decide) (aY (by decide)) (.nl h))
theorem OA {el:List Sm} (hb:LxB el) {n:Nat} {first:Str} {k:List Kt} (hf:LxI first k) {r:Str} {ks:List Kt} (h:Lx r ks) :
 Lx (jX n first (decide (el.length=0)) (Sm.texts (n+1) el)++r) (k++((if decide (el.length=0)=true then [(4,[59])] else (2,[101,108,115,101])::(4,[123])::(lA el++[(4,[125])]))++ks)):=by
 unfold jX
 split
 ·refine .line ?_;simp only [List.flatten_cons,List.flatten_nil,List.append_nil,List.append_assoc,List.cons_append,List.nil_append];exact hf.one (dM (by decide)) (.sy (by decide) (aY (by decide)) (.nl h))
 ·simp only [List.append_assoc];refine .line ?_;simp only [List.flatten_cons,List.flatten_nil,List.append_nil,List.append_assoc,List.cons_append,List.nil_append];exact hf.one fT (.sp (iO (w:=[101,108,115,101]) (by decide) (.sy (by decide) (aY (by decide)) (.nl (hb _ _ _ (oC h))))))
theorem LxI.app {t t2:Str} {k k2:List Kt} (h:LxI t k) (h2:∀ r ks,kB r→Lx r ks→Lx (t2++r) (k2++ks)∧kB (t2++r)):LxI (t++t2) (k++k2):=fun r ks hr l=>by
 rw [List.append_assoc,List.append_assoc];obtain ⟨h3,h4⟩:=h2 r ks hr l;exact h _ _ h4 h3
theorem LxI.kw {w:Str} (hw:w∈words) {t:Str} {k:List Kt} (h:LxI t k):LxI (w++32::t) ((2,w)::k):=fun r ks hr l=>by
 rw [List.append_assoc];exact ⟨iO hw (h r ks hr l).1,wI hw⟩
theorem LxI.eq {t t2:Str} {k k2:List Kt} (h:LxI t k) (h2:LxI t2 k2):LxI (t++([32,32,61,32].drop 1++t2)) (k++(4,[61])::k2):=h.app fun r ks hr l =>
 ⟨.sp (.sy (by decide) (aY (by decide)) (.sp (h2.one hr l))),fT⟩
theorem VR {s:Sm} (h:FmS s) (hn:iF s=true) (hb:∀ nm hd kd ex th el,s=.mk kd nm hd ex th el→LxB th∧LxB el):LxS s:=by
 intro n r ks hk;cases h with
 | @k1 nm a ha =>
  simp only [iF,Bool.and_eq_true] at hn;have h1:aV nm=true:=by simpa [aW,gW,forms] using hn.1.1
  have h2:=LxI.ex ha (cC (List.mem_cons_self ..) hn.2);refine .line ?_;rw [lC];simp [stK];exact .nm h1 fT<|.sp<|.sy (by decide) (aY (by decide))<|.sp<|h2.one (dM (by decide))<|.sy (by decide) (aY (by decide)) (.nl hk)
 | @k2 nm a b ha hb2 =>
  simp only [iF,Bool.and_eq_true] at hn;have h1:aV nm=true:=by simpa [aW,gW,forms] using hn.1.1
  have h2:=LxI.ex ha (cC (by simp) hn.2);have h3:=LxI.ex hb2 (cC (by simp) hn.2);refine .line ?_;rw [lC];simp [stK];have h4:=h3.one (dM (by decide))<|Lx.sy (c:=59) (by decide) (aY (by decide)) (.nl hk)
  obtain ⟨h5,h6⟩:=h2 _ _ GE<|Lx.sy (c:=93) (by decide) (aY (by decide))<|.sp<|.sy (c:=61) (by decide) (aY (by decide))<|.sp h4
  exact .nm h1 BH<|.sy (by decide) h6 h5
 | @k3 nm a ha =>
  simp only [iF,Bool.and_eq_true] at hn;have h1:aV nm=true:=by simpa [aW,gW,forms] using hn.1.1
  have h2:=LxI.ex ha (cC (by simp) hn.2);refine .line ?_;rw [lC];simp [stK];obtain ⟨h5,h6⟩:=h2 _ _ GE<|Lx.sy (c:=93) (by decide) (aY (by decide))<|.sy (c:=59) (by decide) (aY (by decide)) (.nl hk)
  exact iO (w:=[100,101,108,101,116,101]) (by decide)<|.nm h1 BH<|.sy (by decide) h6 h5
 | @k4 a th el ha =>
  obtain ⟨b1,b2⟩:=hb _ _ _ _ _ _ rfl;simp only [iF,Bool.and_eq_true] at hn;have h2:=LxI.ex ha (cC (by simp) hn.2);rw [aE,lC]
  by_cases he:el.length=0
  ·simp [stT,stK,he];refine .line ?_;simp;exact iO (w:=[105,102]) (by decide)<|h2.one fT<|.sp<|.sy (by decide) (aY (by decide))<|.nl<|b1 _ _ _<|oC hk
  ·have he2:¬ el=[]:=fun e=>he (by rw [e];rfl);simp [stT,stK,he2];refine .line ?_;simp;exact iO (w:=[105,102]) (by decide)<|h2.one fT<|.sp<|.sy (by decide) (aY (by decide))<|.nl<|b1 _ _ _<|.line<|.sy (by decide) (aY (by decide))<|.sp<|iO (w:=[101,108,115,101]) (by decide)<|.sy (by decide) (aY (by decide))<|.nl<|b2 _ _ _<|oC hk
 | @k5 a th ha =>
  obtain ⟨b1,b2⟩:=hb _ _ _ _ _ _ rfl;simp only [iF,Bool.and_eq_true] at hn;have h2:=LxI.ex ha (cC (by simp) hn.2);rw [aE,lC];simp [stT,stK];refine .line ?_;simp;exact iO (w:=[119,104,105,108,101]) (by decide)<|h2.one fT<|.sp<|.sy (by decide) (aY (by decide))<|.nl<|b1 _ _ _<|oC hk
 | @k6 nm hd l hl =>
  simp only [iF,Bool.and_eq_true] at hn;have h1:aV nm=true:=by simpa [aW,gW,forms] using hn.1.1
  have h2:aV hd=true:=by simpa [aW,gW,forms] using hn.1.2
  refine .line ?_;rw [lC];simp [stK];exact iO (w:=[115,101,110,100]) (by decide)<|.nm2 h1 (fun d e=>by cases e;rfl)<|.sy (by decide) (uM h2)<|.nm h2 (dM (by decide))<|AG (fun a ha=>.ex (hl a ha) (cC ha hn.2)) (aY (by decide))<|.sy (by decide) (aY (by decide)) (.nl hk)
 | @k7 hd a l ha hl =>
  simp only [iF,Bool.and_eq_true] at hn;have h2:aV hd=true:=by simpa [aW,gW,forms] using hn.1.2
  have h3:=LxI.ex ha (cC (by simp) hn.2);refine .line ?_;rw [lC];simp [stK];exact iO (w:=[97,102,116,101,114]) (by decide)<|h3.one fT<|.sp<|iO (w:=[100,111]) (by decide)<|.nm h2 (dM (by decide))<|AG (fun b hb=>.ex (hl b hb) (cC (by simp [hb]) hn.2)) (aY (by decide))<|.sy (by decide) (aY (by decide)) (.nl hk)
 | @k8 a b el ha hb2 =>
  obtain ⟨_,b2⟩:=hb _ _ _ _ _ _ rfl;simp only [iF,Bool.and_eq_true] at hn;have h2:=LxI.ex ha (cC (by simp) hn.2);have h3:=LxI.ex hb2 (cC (by simp) hn.2);have h4:=OA b2 (n:=n) (LxI.kw (w:=[115,116,111,114,101]) (by decide) (h2.eq h3)) hk;rw [aE,lC];simp [stT,stK] at h4 ⊢;exact h4
 | @k9 nm a el ha =>
  obtain ⟨_,b2⟩:=hb _ _ _ _ _ _ rfl;simp only [iF,Bool.and_eq_true] at hn;have h1:aV nm=true:=by simpa [aW,gW,forms] using hn.1.1
  have h2:=LxI.ex ha (cC (by simp) hn.2);have h4:=OA b2 (n:=n) (LxI.kw (w:=[102,101,116,99,104]) (by decide) ((LxI.nm h1).eq h2)) hk;rw [aE,lC];simp [stT,stK] at h4 ⊢;exact h4
 | k10 =>
  refine .line ?_;rw [lC];simp [stK];exact .kw (w:=[115,116,111,112]) (by decide) (dM (by decide))<|.sy (by decide) (aY (by decide)) (.nl hk)
theorem RZ (s:Sm):Sm.all kD s=true→Sm.all iF s=true→LxS s:=by
 induction s using Sm.ind with
 | _ kd nm hd ex th el ih1 ih2 =>
  intro h k;rw [fB,Bool.and_eq_true,Bool.and_eq_true] at h k;obtain ⟨⟨h1,h2⟩,h3⟩:=h;obtain ⟨⟨k1,k2⟩,k3⟩:=k;refine VR (yN h1) k1 fun nm' hd' kd' ex' th' el' e=>?_;injection e with _ _ _ _ e1 e2
  subst e1 e2;exact ⟨.of fun s hs=>ih1 s hs (gR hs h2) (gR hs k2),.of fun s hs=>ih2 s hs (gR hs h3) (gR hs k3)⟩
theorem LxB.all {l:List Sm} (h:Sm.alls kD l=true) (k:Sm.alls iF l=true):LxB l:=.of fun s hs=>RZ s (gR hs h) (gR hs k)
/-! ### Fleets -/
theorem pI {α:Type} {tx:α→Str} {g:α→List Kt}:∀ (l:List α) (r:Str) (ks:List Kt),(∀ a∈l,∀ r ks,Lx r ks→Lx (tx a++r) (g a++ks))→Lx r ks→Lx ((l.map tx).flatten++r) ((l.map g).flatten++ks)
 | [],r,ks,_,h=>h
 | a::l,r,ks,hl,h=>by
  simp only [List.map_cons,List.flatten_cons,List.append_assoc];exact hl a (List.mem_cons_self ..) _ _ (pI l r ks (fun b hb=>hl b (List.mem_cons_of_mem _ hb)) h)
theorem NZ {b:Bool} {r:Str} {ks:List Kt} (hr:kB r) (h:Lx r ks):Lx (tU b++r) (JA b::ks):=by
 cases b
 ·exact .kw (w:=[102,97,108,115,101]) (by decide) hr h
 ·exact .kw (w:=[116,114,117,101]) (by decide) hr h
theorem XP {f:Fg} (h:aV f.nm=true) {r:Str} {ks:List Kt} (hk:Lx r ks):Lx (fgT f++r) ((2,[102,108,97,103])::fgK f++ks):=by
 refine .line ?_;simp [fgK];exact iO (w:=[102,108,97,103]) (by decide)<|.nm h fT<|.sp<|.sy (by decide) (aY (by decide))<|.sp<|NZ (dM (by decide))<|.sy (by decide) (aY (by decide)) (.nl hk)
theorem DK {n:Int64} (h:0≤n.toInt):Lib.itoa n.toInt=Lib.decDigits n.toInt.toNat:=by rw [Lib.itoa,if_neg (by omega)]
theorem XN {l:Lk} (h:lkB l=true) (h1:aV l.fr=true) (h2:aV l.to=true) {r:Str} {ks:List Kt} (hk:Lx r ks):Lx (lkT l++r) ((2,[108,105,110,107])::lkK l++ks):=by
 simp only [lkB,Bool.and_eq_true,decide_eq_true_eq] at h;refine .line ?_;rw [DK (by omega)];simp [lkK];exact iO (w:=[108,105,110,107]) (by decide)<|.nm h1 fT<|.sp<|.to<|.sp<|.nm h2 fT<|.sp<|iO (w:=[108,97,116,101,110,99,121]) (by decide)<|.nu PK (dM (by decide))<|.sy (by decide) (aY (by decide)) (.nl hk)
theorem VP {n:Int64} {r:Str} {ks:List Kt} (hr:kB r) (h:Lx r ks):Lx (Lib.itoa n.toInt++r) (OS n++ks):=by
 unfold OS
 split
 ·rename_i hn;rw [Lib.itoa,if_pos hn,show n.toInt.natAbs=(-n.toInt).toNat by omega];exact .sy (by decide) NO (.nu (by have:=n.le_toInt;omega) hr h)
 ·rw [DK (by omega)];exact .nu PK hr h
theorem XM {n:Nat} {v:Vr} (h:aV v.nm=true) (hf:gY v=true) {r:Str} {ks:List Kt} (hk:Lx r ks):Lx (vrT n v++r) ((2,[118,97,114])::vrK v++ks):=by
 unfold vrT vrK;unfold gY at hf
 split
 ·refine .line ?_;simp;exact iO (w:=[118,97,114]) (by decide)<|.nm h (dM (by decide))<|.sy (by decide) (aY (by decide))<|.sp<|iO (w:=[105,110,116]) (by decide)<|.sy (by decide) (aY (by decide))<|.sp<|VP (dM (by decide))<|.sy (by decide) (aY (by decide)) (.nl hk)
 rename_i h1;rw [if_neg h1] at hf
 split
 ·refine .line ?_;simp;exact iO (w:=[118,97,114]) (by decide)<|.nm h (dM (by decide))<|.sy (by decide) (aY (by decide))<|.sp<|iO (w:=[98,111,111,108]) (by decide)<|.sy (by decide) (aY (by decide))<|.sp<|NZ (dM (by decide))<|.sy (by decide) (aY (by decide)) (.nl hk)
 rename_i h2;rw [if_neg h2] at hf
 split
 ·refine .line ?_;simp;exact iO (w:=[118,97,114]) (by decide)<|.nm h (dM (by decide))<|.sy (by decide) (aY (by decide))<|.sp<|.kw (w:=[116,97,98,108,101]) (by decide) (dM (by decide))<|.sy (by decide) (aY (by decide)) (.nl hk)
 ·rename_i h3;rw [if_neg h3] at hf;cases hf
theorem XO {n:Nat} {h:Hd} (hn:kM h=true) (hf:lK h=true) {r:Str} {ks:List Kt} (hk:Lx r ks):Lx (hdT n h++r) ((2,[111,110])::hdK h++ks):=by
 simp only [kM,Bool.and_eq_true] at hn;obtain ⟨⟨h1,h2⟩,h3⟩:=hn;have hb:=LxB.all hf h3;unfold hdT hdK;simp only [List.append_assoc];refine .line ?_;simp;refine iO (w:=[111,110]) (by decide)<|.nm h1 (dM (by decide)) ?_
 have h4:=AG (tx:=fun x=>x) (g:=fun p=>[((1,p):Kt)]) (l:=h.ps) (fun a ha=>.nm (List.all_eq_true.1 h2 a ha)) (r:=32::123::10::(Sm.texts (n+1) h.body++(dD n [[125]]++r))) (aY (by decide))<|.sp<|.sy (by decide) (aY (by decide))<|.nl<|hb _ _ _<|oC hk
 simpa using h4
theorem AH {n:Nat} {v:List Hd} (hn:v.all kM=true) (hf:v.all lK=true) {r:Str} {ks:List Kt} (hk:Lx r ks):Lx (qO n v++r) (vsK v++ks) :=
 pI v r ks (fun a ha r ks h=>XO (List.all_eq_true.1 hn a ha) (List.all_eq_true.1 hf a ha) h) hk
theorem FL {n:Nat} {i:Nat} (w:Str) (hi:Lib.itoa ((i+1:Nat):Int)=w) (hw:w=Lib.decDigits (i+1)) (h0:i≠0) (h9:i≤100) {v:List Hd} (hn:v.all kM=true) (hf:v.all lK=true) {r:Str} {ks:List Kt} (hk:Lx r ks):Lx (vsT n i v++r) (vnK w v++ks):=by
 unfold vsT vnK;rw [if_neg h0,hi];simp only [List.append_assoc];refine .line ?_;simp;have h2:=Lx.nu (u:=i+1) (r:=32::123::10::(qO (n+1) v++(dD n [[125]]++r))) (by omega) fT<|.sp<|.sy (by decide) (aY (by decide))<|.nl<|AH hn hf<|oC hk
 rw [← hw] at h2;exact iO (w:=[118,101,114,115,105,111,110]) (by decide) (by simpa using h2)
theorem RY {n:Nat} {l:List (List Hd)} (hn:∀ v∈l,v.all kM=true) (hf:∀ v∈l,v.all lK=true) (h1:1≤l.length) (h3:l.length≤3) {r:Str} {ks:List Kt} (hk:Lx r ks):Lx (lH n 0 l++r) (vsK (l.headD [])++(vmK l.tail++ks)):=by
 have e2:Lib.itoa ((1+1:Nat):Int)=[50]:=by decide +kernel
 have e3:Lib.itoa ((2+1:Nat):Int)=[51]:=by decide +kernel
 have d2:[50]=Lib.decDigits (1+1):=by decide +kernel
 have d3:[51]=Lib.decDigits (2+1):=by decide +kernel
 match l,h1,h3 with
 | [v],_,_ =>
  simp only [lH,List.append_nil,vsT,if_true];exact AH (hn v (by simp)) (hf v (by simp)) hk
 | [v,w],_,_ =>
  simp only [lH,List.append_nil,List.append_assoc];rw [vsT,if_pos rfl];exact AH (hn v (by simp)) (hf v (by simp)) (FL _ e2 d2 (by decide) (by decide) (hn w (by simp)) (hf w (by simp)) hk)
 | [v,w,u],_,_ =>
  simp only [lH,List.append_nil,List.append_assoc];rw [vsT,if_pos rfl];have:=FL (n:=n) _ e2 d2 (by decide) (by decide) (hn w (by simp)) (hf w (by simp)) (FL (n:=n) _ e3 d3 (by decide) (by decide) (hn u (by simp)) (hf u (by simp)) hk);refine AH (hn v (by simp)) (hf v (by simp)) ?_;simpa [vmK] using this
theorem XQ {c:Cp} (hn:aV c.nm=true) (hv:c.vars.all (fun v=>aV v.nm)=true) (hf:c.vars.all gY=true) (h1:lU kM c=true) (h2:lU lK c=true) (h3:1≤c.vers.length) (h4:c.vers.length≤3) {r:Str} {ks:List Kt} (hk:Lx r ks):Lx (cpT c++r) ((2,[99,111,109,112,111,110,101,110,116])::cpK c++ks):=by
 unfold cpT cpK;simp only [List.append_assoc];refine .line ?_;simp [-List.headD_eq_head?_getD];exact iO (w:=[99,111,109,112,111,110,101,110,116]) (by decide)<|.nm hn fT<|.sp<|.sy (by decide) (aY (by decide))<|.nl<|pI c.vars _ _ (fun a ha r ks h=>XM (List.all_eq_true.1 hv a ha) (List.all_eq_true.1 hf a ha) h)<|RY (List.all_eq_true.1 h1) (List.all_eq_true.1 h2) h3 h4<|oC hk
theorem OB {f:Ft} (h:dA f=0):Lx (ftT f) (ftK f):=by
 unfold dA at h
 split at h
 ·cases h
 rename_i h1
 split at h
 ·cases h
 rename_i h3
 split at h
 ·cases h
 rename_i h2;rw [Bool.not_eq_false] at h1 h2 h3;simp only [hG,Bool.and_eq_true] at h1;simp only [lY,Bool.and_eq_true] at h2;simp only [tW,Bool.and_eq_true] at h3;obtain ⟨_,hs,_⟩:=h1;obtain ⟨⟨hl,hv⟩,hb⟩:=h2;obtain ⟨⟨⟨⟨n1,n2⟩,n3⟩,n4⟩,n5⟩:=h3;rw [nL] at hb n5;unfold ftT ftK;have key:Lx (dD 0 [[125]]) [(4,[125])]:=by have:=oC (n:=0) Lx.nil;rwa [List.append_nil] at this
 simp only [List.append_assoc];refine .line ?_;simp
 refine iO (w:=[102,108,101,101,116]) (by decide)<|.nm n1 fT<|.sp<|.sy (by decide) (aY (by decide))<|.nl<|pI f.flags _ _ (fun a ha r ks h=>XP (List.all_eq_true.1 n2 a ha) h)<|pI f.links _ _ (fun a ha r ks h=>by have:=List.all_eq_true.1 n3 a ha;rw [Bool.and_eq_true] at this;exact XN (List.all_eq_true.1 hl a ha) this.1 this.2 h)<|pI f.comps _ _ (fun a ha r ks h=>by
  have h3:=List.all_eq_true.1 hs a ha;simp only [kA,Bool.and_eq_true,decide_eq_true_eq] at h3;have h4:=List.all_eq_true.1 n4 a ha;rw [Bool.and_eq_true] at h4;exact XQ h4.1 h4.2 (List.all_eq_true.1 hv a ha) (List.all_eq_true.1 n5 a ha) (List.all_eq_true.1 hb a ha) h3.1.1.2 h3.1.2 h) key
theorem xV {f:Ft} (h:dA f=0):(gP (ftT f)).map kt=ftK f:=(OB h).lex
end Go.Proofs.YthhoebdlfjffkaaGreatDoor
namespace Go.Proofs.YthhoebdlfjffkaaGreatDoor
open Go.RowKit Go.Par Go.Sx
abbrev Bs:=List UInt8
def dU8 (c:UInt8):D:=.val (.int .u8 c.toNat)
def BC (n:Nat):D:=.val (.int .i64 (n:Nat))
def dAr (l:List Nat):D:=.seq 1 (l.map BC)
structure Mk where
 ints:Nat
 tables:Nat
 flags:Nat
 own:Nat
 ars:List (List Nat)
 params:Nat
def aF (b:Bs) (n:Nat):Nat × Bs:=match b with | []=>(0,[]) | c::r=>(c.toNat % n,r)
theorem cD (b:Bs) {n:Nat} (h:0<n):(aF b n).1<n:=by
 cases b with
 | nil=>exact h
 | cons c r=>exact Nat.mod_lt _ h
def nmB (c:UInt8) (k:Nat):Str:=[c,UInt8.ofNat (48+k)]
def jN (c:UInt8) (n:Nat):List Str:=(List.range n).map (nmB c)
theorem DB (c:UInt8) (n:Nat):jN c (n+1)=jN c n++[nmB c n]:=by simp [jN,List.range_succ]
theorem dP (c:UInt8) (n:Nat):(jN c n).length=n:=by simp [jN]
theorem KM {c:UInt8} {n k:Nat} (h:k<n):(jN c n)[k]? = some (nmB c k):=by simp [jN,h]
def lW (M:Mk) (d:Nat) (rec:Bs→Ex × Bs) (k:Nat) (b:Bs):Ex × Bs :=
 if k<2∨(2<d∧5<k) then (.mk 1 [] (Int64.ofNat (aF b 9).1) [],(aF b 9).2)
 else if k<4∨(k=4∧M.params=0) then (.mk 5 (nmB 120 (aF b M.ints).1) 0 [],(aF b M.ints).2)
 else if k=4 then (.mk 5 (nmB 112 (aF b M.params).1) 0 [],(aF b M.params).2)
 else if k=5 then (.mk 4 [] 0 [],b)
 else if k=6∧0<M.tables then (.mk 6 [116,48] 0 [(rec b).1],(rec b).2)
 else if k=7∧0<M.tables then (.mk 8 [116,48] 0 [],b)
 else if k=8 then (.mk 9 [] 0 [(rec b).1],(rec b).2)
 else (.mk (([14,15,11,12,13,14]:List UInt8).getD (aF b 6).1 14) [] 0 [(rec (aF b 6).2).1,(rec (rec (aF b 6).2).2).1],(rec (rec (aF b 6).2).2).2)
def RS (M:Mk) (d:Nat) (rec:Bs→Ex × Bs) (b0:Bs):Ex × Bs:=lW M d rec (aF b0 12).1 (aF b0 12).2
def fC (M:Mk):Nat→Bs→Ex × Bs
 | 0=>RS M 3 fun b=>(.mk 1 [] 0 [],b)
 | f+1=>RS M (2 - f) (fC M f)
def jB (M:Mk):Nat→Bs→List Ex × Bs
 | 0,b=>([],b)
 | n+1,b=>((fC M 2 b).1::(jB M n (fC M 2 b).2).1,(jB M n (fC M 2 b).2).2)
def nE (M:Mk) (d:Nat) (rec:Bs→Ex × Bs) (k:Nat) (b:Bs):Ex × Bs :=
 if k=0 then (.mk (2+UInt8.ofNat (aF b 2).1) [] 0 [],(aF b 2).2)
 else if k=1∨(1<d∧4<k) then (.mk 5 [98,48] 0 [],b)
 else if k=2∧0<M.flags then (.mk 5 (nmB 102 (aF b M.flags).1) 0 [],(aF b M.flags).2)
 else if k=3∧0<M.tables then (.mk 7 [116,48] 0 [(fC M 2 b).1],(fC M 2 b).2)
 else if k=5 then (.mk 10 [] 0 [(rec b).1],(rec b).2)
 else if k=6∨k=7 then (.mk (16+UInt8.ofNat k) [] 0 [(rec b).1,(rec (rec b).2).1],(rec (rec b).2).2)
 else (.mk (16+UInt8.ofNat (aF b 6).1) [] 0 [(fC M 2 (aF b 6).2).1,(fC M 2 (fC M 2 (aF b 6).2).2).1],(fC M 2 (fC M 2 (aF b 6).2).2).2)
def QQ (M:Mk) (d:Nat) (rec:Bs→Ex × Bs) (b0:Bs):Ex × Bs:=nE M d rec (aF b0 10).1 (aF b0 10).2
def jZ (M:Mk):Nat→Bs→Ex × Bs
 | 0=>QQ M 2 fun b=>(.mk 1 [] 0 [],b)
 | f+1=>QQ M (1 - f) (jZ M f)
def arN (M:Mk) (c h:Nat):Nat:=(M.ars.getD c []).getD h 0
def arL (M:Mk) (c:Nat):Nat:=(M.ars.getD c []).length
def EZ (M:Mk) (lf c h:Nat) (b:Bs):Sm × (Bs × Nat):=(.mk 6 [UInt8.ofNat (97+c)] (nmB 104 h) (jB M (arN M c h) b).1 [] [],((jB M (arN M c h) b).2,lf))
def GI (M:Mk) (lf h:Nat) (e:Ex × Bs):Sm × (Bs × Nat):=(.mk 7 [] (nmB 104 h) (e.1::(jB M (arN M M.own h) e.2).1) [] [],((jB M (arN M M.own h) e.2).2,lf))
def PA (bd:Bs × Nat→List Sm × (Bs × Nat)) (lf x:Nat) (e:Ex × Bs):Sm × (Bs × Nat):=(.mk 9 (nmB 120 x) [] [e.1] [] (bd (e.2,lf)).1,(bd (e.2,lf)).2)
def WO (M:Mk) (lf:Nat) (b:Bs):Sm × (Bs × Nat):=(.mk 1 (nmB 120 (aF b M.ints).1) [] [(fC M 3 (aF b M.ints).2).1] [] [],((fC M 3 (aF b M.ints).2).2,lf))
def cO (M:Mk) (k d:Nat) (bd:Bs × Nat→List Sm × (Bs × Nat)) (b:Bs) (lf:Nat):Sm × (Bs × Nat) :=
 if k=2 then (.mk 1 [98,48] [] [(jZ M 2 b).1] [] [],((jZ M 2 b).2,lf))
 else if k=3∧0<M.tables then (.mk 2 [116,48] [] [(fC M 3 b).1,(fC M 3 (fC M 3 b).2).1] [] [],((fC M 3 (fC M 3 b).2).2,lf))
 else if k=4∧0<M.tables then (.mk 3 [116,48] [] [(fC M 3 b).1] [] [],((fC M 3 b).2,lf))
 else if (k=5∨k=6)∧d<3 then
  (.mk 4 [] [] [(jZ M 2 b).1] (bd ((jZ M 2 b).2,lf)).1 (bd (bd ((jZ M 2 b).2,lf)).2).1,(bd (bd ((jZ M 2 b).2,lf)).2).2)
 else if k=7∧d<2 then (.mk 5 [] [] [(jZ M 2 b).1] (bd ((jZ M 2 b).2,lf)).1 [],(bd ((jZ M 2 b).2,lf)).2)
 else if k=8∨k=9 then EZ M lf (aF b M.ars.length).1 (aF (aF b M.ars.length).2 (arL M (aF b M.ars.length).1)).1 (aF (aF b M.ars.length).2 (arL M (aF b M.ars.length).1)).2
 else if k=10 then GI M lf (aF b (arL M M.own)).1 (fC M 2 (aF b (arL M M.own)).2)
 else if k=11∧d<3 then
  if (aF b 2).1=0 then (.mk 8 [] [] (jB M 2 (aF b 2).2).1 [] (bd ((jB M 2 (aF b 2).2).2,lf)).1,(bd ((jB M 2 (aF b 2).2).2,lf)).2)
  else PA bd lf (aF (aF b 2).2 M.ints).1 (fC M 3 (aF (aF b 2).2 M.ints).2)
 else if k=12∧(aF b 3).1=0 then (.mk 10 [] [] [] [] [],((aF b 3).2,lf))
 else WO M lf (if k=12 then (aF b 3).2 else b)
def kE (st:Nat→Bs→Nat→Sm × (Bs × Nat)):Nat→Bs × Nat→List Sm × (Bs × Nat)
 | 0,x=>([],x)
 | f+1,(b,lf) =>
  if b=[]∨lf=0 then ([],(b,lf))
  else if (aF b 14).1=13 then ([],((aF b 14).2,lf))
  else ((st (aF b 14).1 (aF b 14).2 (lf - 1)).1::(kE st f (st (aF b 14).1 (aF b 14).2 (lf - 1)).2).1,(kE st f (st (aF b 14).1 (aF b 14).2 (lf - 1)).2).2)
def tB (M:Mk):Nat→Bs × Nat→List Sm × (Bs × Nat)
 | 0=>kE (fun k=>cO M k 3 fun x=>([],x)) 13
 | f+1=>kE (fun k=>cO M k (2 - f) (tB M f)) 13
structure Cd where
 ps:UInt8
 bytes:Bs
def dCd (c:Cd):D:=.str [.val (.int .u8 c.ps.toNat),.seq 1 (c.bytes.map dU8)]
theorem BF {H:Hp} {x:Cd} {cs:List Value} (h:Rep H (dCd x) cs):∃ p c,cs=[.int .u8 x.ps.toNat,.slice p x.bytes.length c]∧Rep H (.seq 1 (x.bytes.map dU8)) [.slice p x.bytes.length c]:=by
 rw [dCd,kC] at h;obtain ⟨_,rfl,_,_,h⟩:=aT.1 h;obtain ⟨p,c,_,rfl,hs,h⟩:=eY.1 h;rw [dF] at h;subst h;rw [List.length_map] at hs ⊢;exact ⟨p,c,rfl,hs⟩
def Mk.at (M:Mk) (k:Nat):Mk:={ M with params:=arN M M.own k }
def hdS (M:Mk) (k:Nat) (c:Cd):Hd:=⟨nmB 104 k,jN 112 (arN M M.own k),(tB (M.at k) 3 (c.bytes.take 40,12)).1⟩
def kN (M:Mk):Nat→List Cd→List Hd
 | _,[]=>[]
 | k,c::r=>hdS M k c::kN M (k+1) r
theorem DP (M:Mk):∀ (a:List Cd) (k:Nat) (b:List Cd),kN M k (a++b)=kN M k a++kN M (k+a.length) b
 | [],k,b=>by simp [kN]
 | c::r,k,b=>by
  simp only [List.cons_append,kN,DP M r (k+1) b,List.length_cons];rw [show k+1+r.length=k+(r.length+1) by omega]
theorem KU {M:Mk} {l:List Cd} {k:Nat} (h:k<l.length):kN M 0 (l.take (k+1))=kN M 0 (l.take k)++[hdS M k l[k]]:=by
 rw [bL h,DP,List.length_take,Nat.min_eq_left (by omega)];simp [kN]
theorem jW (M:Mk):∀ (l:List Cd) (k:Nat),(kN M k l).length=l.length
 | [],_=>rfl
 | c::r,k=>by simp [kN,jW M r (k+1)]
structure Prt where
 ints:UInt8
 tables:UInt8
 hs:List Cd
 sec:List Cd
structure Pln where
 flags:UInt8
 links:Bs
 comps:List Prt
def tZ (x:Prt):D:=.str [.val (.int .u8 x.ints.toNat),.val (.int .u8 x.tables.toNat),.seq 2 (x.hs.map dCd),.seq 2 (x.sec.map dCd)]
def FZ (x:Pln):D:=.str [.val (.int .u8 x.flags.toNat),.seq 1 (x.links.map dU8),.seq 4 (x.comps.map tZ)]
section
variable {H:Hp}
theorem CM {x:Prt} {cs:List Value} (h:Rep H (tZ x) cs):∃ p1 c1 p2 c2,cs=[.int .u8 x.ints.toNat,.int .u8 x.tables.toNat,.slice p1 x.hs.length c1,.slice p2 x.sec.length c2]∧Rep H (.seq 2 (x.hs.map dCd)) [.slice p1 x.hs.length c1]∧Rep H (.seq 2 (x.sec.map dCd)) [.slice p2 x.sec.length c2]:=by
 rw [tZ,kC] at h;obtain ⟨_,rfl,_,_,h⟩:=aT.1 h;obtain ⟨_,rfl,_,_,h⟩:=aT.1 h;obtain ⟨p1,c1,_,rfl,k1,h⟩:=eY.1 h;obtain ⟨p2,c2,_,rfl,k2,h⟩:=eY.1 h;rw [dF] at h;subst h;exact ⟨p1,c1,p2,c2,by simp,(by simpa using k1),(by simpa using k2)⟩
theorem NF {x:Prt} {s1 s2:Value} (k1:Rep H (.seq 2 (x.hs.map dCd)) [s1]) (k2:Rep H (.seq 2 (x.sec.map dCd)) [s2]):Rep H (tZ x) [.int .u8 x.ints.toNat,.int .u8 x.tables.toNat,s1,s2]:=by
 rw [tZ,kC];exact aT.2 ⟨_,rfl,rfl,trivial,aT.2 ⟨_,rfl,rfl,trivial,dZ.2 ⟨[s1],_,rfl,k1,dZ.2 ⟨[s2],_,rfl,k2,dF.2 rfl⟩⟩⟩⟩
theorem TD {x:Cd} {s:Value} (k:Rep H (.seq 1 (x.bytes.map dU8)) [s]):Rep H (dCd x) [.int .u8 x.ps.toNat,s]:=by
 rw [dCd,kC];exact aT.2 ⟨_,rfl,rfl,trivial,dZ.2 ⟨[s],_,rfl,k,dF.2 rfl⟩⟩
theorem vU {x:Pln} {cs:List Value} (h:Rep H (FZ x) cs):∃ p1 c1 p2 c2,cs=[.int .u8 x.flags.toNat,.slice p1 x.links.length c1,.slice p2 x.comps.length c2]∧Rep H (.seq 1 (x.links.map dU8)) [.slice p1 x.links.length c1]∧Rep H (.seq 4 (x.comps.map tZ)) [.slice p2 x.comps.length c2]:=by
 rw [FZ,kC] at h;obtain ⟨_,rfl,_,_,h⟩:=aT.1 h;obtain ⟨p1,c1,_,rfl,k1,h⟩:=eY.1 h;obtain ⟨p2,c2,_,rfl,k2,h⟩:=eY.1 h;rw [dF] at h;subst h;exact ⟨p1,c1,p2,c2,by simp,(by simpa using k1),(by simpa using k2)⟩
end
def arK (x:Prt) (k:Nat):List Nat :=
 if h:k<x.hs.length then [x.hs[k].ps.toNat % 3] else if k=0 then [1] else if h:k<x.sec.length then [x.sec[k].ps.toNat % 3] else []
def xQ (x:Prt) (m:Nat):List Nat:=(List.range m).flatMap (arK x)
def arP (x:Prt):List Nat:=xQ x 3
theorem iM (x:Prt) (m:Nat):xQ x (m+1)=xQ x m++arK x m:=by simp [xQ,List.range_succ]
theorem WP (x:Prt) (k:Nat):(arK x k).length≤1:=by
 unfold arK;split
 ·simp
 ·split
  ·simp
  ·split <;> simp
theorem wZ (x:Prt):∀ m,(xQ x m).length≤m
 | 0=>by simp [xQ]
 | m+1=>by
  rw [iM,List.length_append];have:=wZ x m;have:=WP x m;omega
theorem TH {x:Prt} {k n:Nat} (h:n∈arK x k):n≤2:=by
 unfold arK at h
 split at h
 ·simp at h;omega
 ·split at h
  ·simp at h;omega
  ·split at h
   ·simp at h;omega
   ·simp at h
theorem IS {x:Prt} {n:Nat} (h:n∈arP x):n≤2:=by
 obtain ⟨k,_,hk⟩:=List.mem_flatMap.1 h;exact TH hk
theorem uW (x:Prt):(arP x).length=max 1 (max (min x.hs.length 3) (min x.sec.length 3)):=by
 have e:arP x=arK x 0++(arK x 1++arK x 2):=by simp [arP,xQ,List.range_succ]
 have key:∀ k,(arK x k).length=if k<x.hs.length∨k=0∨k<x.sec.length then 1 else 0:=by
  intro k;unfold arK
  by_cases h1:k<x.hs.length
  ·rw [dif_pos h1,if_pos (.inl h1)];rfl
  ·rw [dif_neg h1]
   by_cases h2:k=0
   ·rw [if_pos h2,if_pos (.inr (.inl h2))];rfl
   ·rw [if_neg h2]
    by_cases h3:k<x.sec.length
    ·rw [dif_pos h3,if_pos (.inr (.inr h3))];rfl
    ·rw [dif_neg h3,if_neg (by omega)];rfl
 rw [e,List.length_append,List.length_append,key,key,key];rw [if_pos (.inr (.inl rfl))]
 split <;> split <;> omega
def aU (p:Pln):List Prt:=if p.comps.length=0 then [⟨0,0,[],[]⟩] else p.comps.take 3
theorem oZ (p:Pln):0<(aU p).length∧(aU p).length≤3:=by
 unfold aU
 split
 ·simp
 ·simp only [List.length_take];omega
def jC (k:Nat):Str:=[UInt8.ofNat (97+k)]
def KX (c:UInt8) (k:Nat):Fg:=⟨nmB 102 k,decide (((c.toNat / 2 ^ (4+k) % 2:Nat):Int)=1)⟩
def rQ (c:UInt8) (n:Nat):List Fg:=(List.range n).map (KX c)
theorem FU (c:UInt8) (n:Nat):rQ c (n+1)=rQ c n++[KX c n]:=by simp [rQ,List.range_succ]
theorem sO (c:UInt8) (n:Nat):(rQ c n).length=n:=by simp [rQ]
def AI (n:Nat) (l:Bs) (k:Nat):List Lk:=if 0<(l.getD k 0).toNat % 4 then [⟨jC (k / n),jC (k % n),Int64.ofNat ((l.getD k 0).toNat % 4)⟩] else []
def mT (n:Nat) (l:Bs) (m:Nat):List Lk:=(List.range m).flatMap (AI n l)
theorem kZ (n:Nat) (l:Bs) (m:Nat):mT n l (m+1)=mT n l m++AI n l m:=by simp [mT,List.range_succ]
theorem pJ (n:Nat) (l:Bs):∀ m,(mT n l m).length≤m
 | 0=>by simp [mT]
 | m+1=>by
  rw [kZ,List.length_append];have:=pJ n l m;have:(AI n l m).length≤1:=by unfold AI;split <;> simp
  omega
def fW (x:Prt):Nat:=1+x.ints.toNat % 3
def iX (x:Prt):Nat:=x.tables.toNat % 2
def vrI (k:Nat):Vr:=⟨nmB 120 k,1,Int64.ofNat k⟩
def QN (k:Nat):Vr:=⟨nmB 116 k,3,0⟩
def zM (n:Nat):List Vr:=(List.range n).map vrI
def zL (n:Nat):List Vr:=(List.range n).map QN
theorem IY (n:Nat):zM (n+1)=zM n++[vrI n]:=by simp [zM,List.range_succ]
theorem IX (n:Nat):zL (n+1)=zL n++[QN n]:=by simp [zL,List.range_succ]
def vrB:Vr:=⟨[98,48],2,0⟩
def tG (x:Prt):List Vr:=zM (fW x)++[vrB]++zL (iX x)
theorem vE (n:Nat):(zM n).length=n:=by simp [zM]
theorem vD (n:Nat):(zL n).length=n:=by simp [zL]
def mkP (ars:List (List Nat)) (nf i:Nat) (x:Prt):Mk:={ ints:=fW x,tables:=iX x,flags:=nf,own:=i,ars:=ars,params:=0 }
def xK (x:Prt):List Cd:=if x.hs.length=0 then [⟨1,[]⟩] else x.hs.take 3
def mD (M:Mk) (x:Prt):List (List Hd):=kN M 0 (xK x)::(if 0<x.sec.length then [kN M 0 (x.sec.take 3)] else [])
def BE (ars:List (List Nat)) (nf i:Nat) (x:Prt):Cp:=⟨jC i,tG x,mD (mkP ars nf i x) x⟩
def qI (ars:List (List Nat)) (nf:Nat) (l:List Prt):List Cp:=l.mapIdx (fun i x=>BE ars nf i x)
theorem GA {ars:List (List Nat)} {nf:Nat} {l:List Prt} {k:Nat} (h:k<l.length):qI ars nf (l.take (k+1))=qI ars nf (l.take k)++[BE ars nf k l[k]]:=by
 unfold qI;rw [bL h,List.mapIdx_append];simp [Nat.min_eq_left (Nat.le_of_lt h)]
theorem pT (ars:List (List Nat)) (nf:Nat) (l:List Prt):(qI ars nf l).length=l.length:=by simp [qI]
def nI:Str:=[102,108,101,101,116,49]
def fP (p:Pln):List (List Nat):=(aU p).map arP
def bK (p:Pln):Ft :=
 ⟨nI,rQ p.flags (p.flags.toNat % 3),mT (aU p).length p.links (min p.links.length ((aU p).length * (aU p).length)),qI (fP p) (p.flags.toNat % 3) (aU p)⟩
theorem Fx.agg25:dG Tryz.prog 25=some none:=by kernel_rfl
theorem Fx.agg27:dG Tryz.prog 27=some (some 4):=by kernel_rfl
theorem Fx.call29:aK Tryz.prog 29=Bool.true:=by kernel_rfl
theorem Fx.field27_3:aO Tryz.prog 27 3=some 3:=by kernel_rfl
theorem Fx.sl25:slN Tryz.prog 25=some 4:=by kernel_rfl
theorem qH (e:Ex):∀ (H:Hp) (cs:List Value) (w:World),Rep H (dEx .u8 e) cs→e.depth≤1000000→Agr H w →
 Calls Tryz.prog 29 #[.agg cs.toArray] w fun r w'=>r=.returned (.int .i64 (e.depth:Nat))∧Ext w w':=by
 induction e using Ex.ind with | _ op nm nn args ih
 intro H cs w h he hA;rw [fY] at he;obtain ⟨p,c,rfl,hs,hnm⟩:=bY h;have hcap:=hs.cap;refine Sx.enter (H:=H) Tryz.func29 rfl Tryz.ntmps29 rfl hA ?_;refine .sr<|.bx Z Z Z fun b1=>.a Z Z<|.ns<|.a Z Z<|.nt<|.sq<|.sr<|.yw (.fieldAddr Z Fx.field27_3)<|.yw (.load Z Fx.agg25 (.head _) Z)<|.yw (.lenSl Fx.sl25 Z)<|.mv Z<|.nt<|.bk<|.lp (X:=Nat) [(1,_),(7,_)] ⟨rfl,rfl,trivial⟩ [_] (fun k=>[(3,.int .i64 (Ex.deeps (args.take k):Nat)),(8,.int .i64 (k:Nat))]) (fun k=>H) (fun k=>[]) (fun k=>k≤args.length) (fun k=>args.length - k) 0 (fun _ s=>s) ⟨rfl,rfl,trivial⟩ (by omega) fun k hC=>?_
 refine .sr<|.yw (.lss Z Z)<|.nt<|.sq<|.cd Z (fun h9=>?_) (fun h9=>?_)
 ·try simp only [dt] at h9
  have hk:k<args.length:=by omega
  obtain ⟨b5,o5,c5,hp5,r5,l5,m5⟩:=hs.elem (aR hk);cases hp5;have h1:=FX args k;have h2:=PJ hk;have h3:=FY hk;exact .sk<|.tN<|.sq<|.bk<|.sr<|.mv Z<|.a Z Z<|.nt<|.rg<|.mv Z<|.yw (.fieldAddr Z Fx.field27_3)<|.yw (.load Z Fx.agg25 (.head _) Z)<|.mv Z<|.yw (.indexSl Fx.sl25 Z Z Z (by omega) (q:=o5+k * 4) Z)<|.yw (.loadMW Z Fx.agg27 m5 l5)<|.yw (.call Fx.call29 Z (fun W s=>ih _ (List.getElem_mem hk) H c5 W r5 (by omega) s.agr))<|.yw (.max2 Z Z (c:=((Ex.deeps (args.take (k+1)):Nat):Int)) (by omega))<|.a Z Z<|.nl<|.bN<|.tN<|.rg<|.yw (.add Z Z (w6 (by omega)))<|.mv Z<|.nt<|.ag (k+1) ⟨rfl,rfl,trivial⟩ ⟨rfl,rfl,trivial⟩ (fun _ s=>s) (by omega) (by omega)
 try simp only [df] at h9
 obtain rfl:k=args.length:=by omega
 rw [List.take_length];refine .ex<|.tE<|.tE<|.bE<|.tN<|.sr<|.mv Z<|.yw (.add Z Z (w6 (by omega)))<|.a Z Z<|.nt<|.rt<|?_
 exact Sx.ret1 (.inl rfl) rfl (.tmp rfl) fun W s=>⟨by rw [fY];rfl,s.ext⟩
theorem Fx.agg242:dG Tryz.prog 242=some (some 39):=by kernel_rfl
theorem Fx.are242:TF Tryz.prog 242=Bool.true:=by kernel_rfl
theorem Fx.arr242:BJ Tryz.prog 242=some (39,1):=by kernel_rfl
theorem Fx.call114:aK Tryz.prog 114=Bool.true:=by kernel_rfl
theorem Fx.call117:aK Tryz.prog 117=Bool.true:=by kernel_rfl
theorem Fx.call145:aK Tryz.prog 145=Bool.true:=by kernel_rfl
theorem Fx.str9:lQ Tryz.prog 9=Bool.true:=by kernel_rfl
end Go.Proofs.YthhoebdlfjffkaaGreatDoor
