/- Texts of the proof, one behind the other. -/
import Derived.Test.YthhoebdlfjffkaaGreatDoorMa
import Derived.ChangeMaps4
import Derived.Lib.Builder
import Derived.Lib.AppendStr
import Derived.Lib.UnsafeStr
import Derived.Lib.ItoaNum
import Derived.Lib.Join
import Derived.Lib.ItoaLen
import Derived.Lib.ParseIntB
import Derived.Lib.ParseIntBCases
import Derived.Lib.IndexMore
import Derived.Test.YthhoebdlfjffkaaGreatDoorProg
set_option linter.all false
set_option maxRecDepth 100000
namespace Go
noncomputable abbrev prg:=Proofs.Tryz.prog
end Go
namespace Go.Sx
open Go.RowKit Go.Par MapKept
def moE (i:Nat) (k:List UInt8):MapEntry:={ key:=.string ⟨k.toArray⟩,val:=.bool true,born:=i }
def moL:Nat->List (List UInt8)->List MapEntry
 | _,[]=>[]
 | i,k::r=>moE i k::moL (i+1) r
def mo (ks:List (List UInt8)):Obj:=.map (moL 0 ks).toArray ks.length
def WE (ks:List (List UInt8)) (l:List UInt8):List (List UInt8):=if l∈ks then ks else ks++[l]
theorem bF8:∀ (ks:List (List UInt8)) (i:Nat),(moL i ks).length=ks.length
 | [],_=>rfl
 | k::r,i=>by simp [moL,bF8 r (i+1)]
theorem aM2:∀ (ks:List (List UInt8)) (i:Nat) (l:List UInt8),moL i (ks++[l])=moL i ks++[moE (i+ks.length) l]
 | [],i,l=>by simp [moL]
 | k::r,i,l=>by
  simp only [aR,moL,aM2 r (i+1) l,aH];rw [show i+1+r.length=i+(r.length+1) by omega]
theorem aC8:∀ (ks:List (List UInt8)) (i:Nat) (x:MapEntry),x∈moL i ks->∃ j k,x=moE j k/\k∈ks
 | [],_,_,h=>by cases h
 | k::r,i,x,h=>by
  rcases bJ.1 h with rfl | h
  ·exact ⟨i,k,Z,.head _⟩
  ·obtain ⟨j,k',e,hk⟩:=aC8 r (i+1) x h;exact ⟨j,k',e,.tail _ hk⟩
theorem bF9:∀ (ks:List (List UInt8)) (i:Nat) (k:List UInt8),k∈ks->∃ j,moE j k∈moL i ks
 | k'::r,i,k,h=>by
  rcases bJ.1 h with rfl | h
  ·exact ⟨i,.head _⟩
  ·obtain ⟨j,e⟩:=bF9 r (i+1) k h;exact ⟨j,.tail _ e⟩
variable {i:Nat}
theorem cN2 {k l:List UInt8} (h:(moE i k).key=.string ⟨l.toArray⟩):k=l:=by
 simp only [moE,Value.string.injEq] at h;exact IB.1 h
variable {j:Nat}
theorem aM1 {es:Array MapEntry} {f:MapEntry->MapEntry} {e:MapEntry} (h:es[j]? = some e) (hf:f e=e):es.modify j f=es:=by
 apply zA
 ·simp
 ·intro i h1 h2;rw [Array.getElem_modify]
  split
  ·rename_i hj;subst hj
   have:es[j]=e:=by
    have:=Array.getElem?_eq_getElem (xs:=es) (i:=j) (by simpa using h1);rw [h] at this;exact (aW this).symm
   rw [this,hf]
  ·rfl
section
variable {dfs:List Deferred} {P:Program} {n:Nat} {L:Sl} {H:Hp} {w0:World} {bs:List Res} {Q:Exit->Act->World->Prop} {ops:Array Oper} {rest:List Oper} {K:Act->World->Prop}
variable {d:Option Tmp} {ty:TypeId} {pos:String} {aft:Array Edge} {g:Option (Nat × Bool)} {v:Value} {t:Tmp} {op:Op} {x y z:Operand} {T T':TypeId}
def aW1 (P:Program) (T:TypeId):Bool:=match P.underlying T with | some (.map k _)=>(match P.underlying k with | some .string=>true | _=>false) | _=>false
theorem XQ (h:aW1 P T=true):∃ k e,P.underlying T=some (.map k e)/\P.underlying k=some .string:=by
 unfold aW1 at h;cases hu:P.underlying T with
 | none=>rw [hu] at h;cases h
 | some q =>
  rw [hu] at h;cases q <;> simp only [aC] at h;rename_i k e;refine ⟨k,e,Z,?_⟩;cases hk:P.underlying k with
  | none=>rw [hk] at h;cases h
  | some r=>rw [hk] at h;cases r <;> simp_all
theorem cL3 {W:World} {b:Nat} {ks:List (List UInt8)} {l:List UInt8} (hT:aW1 P T=true) (hb:W.heap[b]? = some (mo ks)) :
 (Instr.mapUpdate T (.map (some b)) (.string ⟨l.toArray⟩) (.bool true)).run P W=.ok () { W with heap:=W.heap.setIfInBounds b (mo (WE ks l)) }:=by
 obtain ⟨k,e,hu,hk⟩:=XQ hT;have hkey:IsKey .string (.string ⟨l.toArray⟩):=trivial
 have hks:∀ x∈(moL 0 ks).toArray.toList,IsKey .string x.key:=λx hx=>by
  obtain ⟨j,q,rfl,_⟩:=aC8 ks 0 x (by simpa using hx)
  trivial
 unfold mo at hb;rcases findNow_spec hkey (moL 0 ks).toArray.toList 0 hks with ⟨h1,h2⟩ | ⟨j,e0,h1,h2,h3⟩
 ·have hno:l ∉ ks:=λhm=>by
   obtain ⟨j,hj⟩:=bF9 ks 0 l hm;exact h2 _ (by simpa using hj) rfl
  rw [WE,aA hno];simp [Instr.mapUpdate,run_underlying hu,MapKept.run_getObj_map hb,MapKept.run_checkKey hk hkey,MapKept.run_findKey hk h1,MapKept.run_setObj_map _ hb,Result.andThen,mo,aM2,moE]
 ·have hj:(moL 0 ks).toArray[j]? = some e0:=by simpa using h2
  obtain ⟨i,q,rfl,hq⟩:=aC8 ks 0 e0 (Al_List_mem_of_getElem? (by simpa using h2));obtain rfl:=cN2 h3;rw [WE,aE hq];have hm:(moL 0 ks).toArray.modify j (λe=>{ e with key:=.string ⟨q.toArray⟩,val:=.bool true })=(moL 0 ks).toArray:=aM1 hj rfl;simp only [Instr.mapUpdate,Sem.run_bind,run_underlying hu,MapKept.run_getObj_map hb,MapKept.run_checkKey hk hkey,MapKept.run_findKey hk h1,Result.andThen,fV,hj,nR,pG,h3,MapKept.run_keyThatStays hkey,MapKept.run_setObj_map _ hb,hm,mo]
theorem At.mm (hx:aW1 P T=true) (ht:Nat.blt t n=true) (h:∀ b,At dfs n ((t,.map (some b))::L) H w0 (.obj b (mo [])::bs) (wpList P ops Q rest)):At dfs n L H w0 bs (wpList P ops Q (⟨some t,.makeMap T none,ty,pos,aft,none⟩::rest)):=by
 refine cons ?_;intro a W f s;refine mH rfl ?_
 have hr:(Instr.makeMap T none).run P W=.ok (.map (some W.heap.size)) (W.alloc (.map #[] 0)):=by
  simp [Instr.makeMap,newObj,Sem.run,Result.andThen]
 unfold Oper.wp execOp;simp only [Option.map_none,Sem.run_bind,hr,Result.andThen_ok,Sem.run_pure,Oper.upon_value];refine h _ _ _ (f.put ht _) ?_;have hx:Ext W (W.alloc (.map #[] 0)):=(Ext.refl W).alloc _;have k:=s.more hx;refine ⟨k.ext,k.agr,λx hm=>?_,.cons (λy hy b e e'=>?_) s.apart⟩
 ·rcases bJ.1 hm with rfl | hm
  ·refine ⟨⟨s.ext.size,?_⟩,λb e=>?_⟩
   ·show (W.heap.push _)[W.heap.size]? = _;simp [mo,moL]
   ·obtain rfl:W.heap.size=b:=aW e;exact s.agr.lt (aK _)
  ·exact k.own x hm
 ·obtain rfl:W.heap.size=b:=aW e;have:=((s.own y hy).1.lt e').2;omega
theorem At.mu {b:Nat} {ks:List (List UInt8)} {l:List UInt8} {bs':List Res} (hm:Upd bs (.obj b (mo ks)) (.obj b (mo (WE ks l))) bs') (hT:aW1 P T=true) (hx:ev L x=some (.map (some b))) (hy:ev L y=some (.string ⟨l.toArray⟩)) (hz:ev L z=some (.bool true)) (h:At dfs n L H w0 bs' (wpList P ops Q rest)) :
 At dfs n L H w0 bs (wpList P ops Q (⟨none,.mapUpdate T x y z,ty,pos,aft,none⟩::rest)):=by
 refine cons ?_;intro a W f s;refine mH rfl ?_;have hb:=(s.own _ hm.mem).1;have hlt:=sI hb.2;unfold Oper.wp execOp;simp only [f.ev hx,f.ev hy,f.ev hz,Sem.run_bind,cL3 hT hb.2,Result.andThen,Sem.run_pure,Oper.upon_skip];refine h _ _ (f.putNone _) ?_
 have hh:∀ c,({ W with heap:=W.heap.setIfInBounds b (mo (WE ks l)) }:World).heap[c]? = if c=b then some (mo (WE ks l)) else W.heap[c]? := λc=>by
  show (W.heap.setIfInBounds b _)[c]? = _
  by_cases e:c=b
  ·subst e;simp [hlt]
  ·rw [aA e,Array.getElem?_setIfInBounds_ne (rR e)]
 have hsz:({ W with heap:=W.heap.setIfInBounds b (mo (WE ks l)) }:World).heap.size=W.heap.size:=by simp
 refine s.upd hm ?_ (by omega) (λc _ hn=>?_) ⟨hb.1,?_⟩ (λc e=>.inl e)
 ·have hx:=s.ext.below;refine Ext.of_below ⟨hx.os,hx.tape,hx.output,by rw [hsz];exact hx.size,λc hc=>?_⟩;have h1:=hb.1;rw [hh,aA (by omega)];exact hx.block c hc
 ·rw [hh,aA (λe=>hn (by rw [e];rfl))]
 ·rw [hh,aE rfl]
theorem Yl.lenM {b:Nat} {ks:List (List UInt8)} (hT:aW1 P T=true) (hm:Res.obj b (mo ks)∈bs) (hx:ev L x=some (.map (some b))):Yl P L H w0 bs ⟨d,.call ⟨.builtin .len,#[x],#[T]⟩,ty,pos,aft,g⟩ (iN ks.length):=.of_run λa W f s=>by
 obtain ⟨k,e,hu,hk⟩:=XQ hT;have hb:=(s.own _ hm).1.2;unfold mo at hb;unfold execOp;simp [f x _ hx,resolve,invoke,builtin,Builtin.len_,run_underlying hu,MapKept.run_getObj_map hb,Result.andThen,goInt,bF8]
end
end Go.Sx
/- Pointers, strings appended to bytes, and unsafe strings: what a strings.Builder inside an own box meets. -/
namespace Go.Sx
open Go.RowKit Go.Par
section
variable {dfs:List Deferred} {P:Program} {n:Nat} {L:Sl} {H:Hp} {w0:World} {bs:List Res} {Q:Exit->Act->World->Prop} {ops:Array Oper} {rest:List Oper} {K:Act->World->Prop}
variable {d:Option Tmp} {ty:TypeId} {pos:String} {aft:Array Edge} {g:Option (Nat × Bool)} {v:Value} {t:Tmp} {op:Op} {x y z:Operand} {T T':TypeId}
def bZ5 (P:Program) (T:TypeId):Option TypeId:=match P.underlying T with | some (.pointer e)=>if (P.info? e).isSome then some e else none | _=>none
theorem XL {e:TypeId} (h:bZ5 P T=some e):P.underlying T=some (.pointer e)/\∃ j,P.info? e=some j:=by
 unfold bZ5 at h;cases hu:P.underlying T with
 | none=>rw [hu] at h;cases h
 | some q =>
  rw [hu] at h;cases q <;> simp only [reduceCtorEq] at h;rename_i e'
  split at h
  ·rename_i hi;cases h;exact ⟨Z,kN.1 hi⟩
  ·cases h
theorem Yl.neqP {e:TypeId} {a:Addr} (hT:bZ5 P T=some e) (hx:ev L x=some (.pointer (some a))) (hy:ev L y=some (.pointer (some a))):Yl P L H w0 bs ⟨d,.binOp .neq T x y T',ty,pos,aft,g⟩ (.bool false):=.of_run λac W f _=>by
 obtain ⟨hp,j,hj⟩:=XL hT;have h:=Lib.run_neq_ptr_same (P:=P) W a hp hj;unfold execOp;simp [f x _ hx,f y _ hy,Sem.run_bind,eqGuard,Sem.run_pure,Result.andThen,h]
theorem Yl.eqPn {e:TypeId} {p:Option Addr} (hT:bZ5 P T=some e) (hx:ev L x=some (.pointer p)) (hy:ev L y=some (.pointer none)):Yl P L H w0 bs ⟨d,.binOp .eql T x y T',ty,pos,aft,g⟩ (.bool p.isNone):=.of_run λac W f _=>by
 obtain ⟨hp,j,hj⟩:=XL hT
 have h:∀ q:Nat,(Op.equalIn (q+1) T (.pointer p) (.pointer none)).run P W=.ok p.isNone W:=λq=>by
  cases p <;> simp [Op.equalIn,run_underlying hp]
 unfold execOp;simp [f x _ hx,f y _ hy,Sem.run_bind,eqGuard,Sem.run_pure,Result.andThen,binOp,Op.equal,Op.maxDepth,h 9999]
theorem Yl.ext {f:FuncId} {xs:List Operand} {vs:List Value} {ats:Array TypeId} (hv:evs L xs=some vs) (h:∀ W,(callFunc f vs.toArray).run P W=.ok (.value v) W):Yl P L H w0 bs ⟨d,.call ⟨.value (.func f),xs.toArray,ats⟩,ty,pos,aft,g⟩ v:=.of_run λa W f0 s=>by
 have hm:=FV f0 hv;have:(#[]:Array Value)=[].toArray:=rfl;unfold execOp;simp only [resolve,Act.eval,Deferred.ofValue,Sem.run_bind,Sem.run_pure,Result.andThen,invoke,jR,hm,this,List.append_toArray,bU,aX,h]
def bW5 (P:Program) (T:TypeId):Bool:=match P.underlying T with | some .unsafePointer=>true | _=>false
theorem WU (h:bW5 P T=true):P.underlying T=some .unsafePointer:=by
 unfold bW5 at h;cases hu:P.underlying T with
 | none=>rw [hu] at h;cases h
 | some q=>rw [hu] at h;cases q <;> simp_all
def aV3 (P:Program) (T:TypeId):Option (TypeId × Nat):=match P.underlying T with | some (.pointer e)=>(P.info? e).map λj=>(e,j.size) | _=>none
theorem OC {e:TypeId} {m:Nat} (h:aV3 P T=some (e,m)):P.underlying T=some (.pointer e)/\∃ j,P.info? e=some j/\j.size=m:=by
 unfold aV3 at h;cases hu:P.underlying T with
 | none=>rw [hu] at h;cases h
 | some q =>
  rw [hu] at h;cases q <;> simp only [reduceCtorEq] at h;rename_i e';obtain ⟨j,hj,h2⟩:=eC.1 h;injection h2 with h3 h4
  subst h3 h4;exact ⟨Z,j,hj,Z⟩
theorem St.shape {W:World} {b:Nat} {l:List Value} {t':TypeId} (s:St H w0 bs W) (hm:Res.box b l t'∈bs):W.shape? b=some (t',l.length):=by
 have hb:=(s.own _ hm).1.2;simp [World.shape?,hb]
theorem Yl.toU {e:TypeId} {m b:Nat} {l:List Value} {t':TypeId} (hT:aV3 P T=some (e,m+1)) (hT':bW5 P T'=true) (hm:Res.box b l t'∈bs) (hl:0<l.length) (hx:ev L x=some (.pointer (some ⟨b,0,none⟩))):Yl P L H w0 bs ⟨d,.convert T T' x,ty,pos,aft,g⟩ (.pointer (some ⟨b,0,none⟩)):=.of_run λac W f s=>by
 obtain ⟨hp,j,hj,hjs⟩:=OC hT;have h:=Lib.run_to_unsafe (P:=P) W ⟨b,0,none⟩ hp (WU hT') hj (by omega) (s.shape hm) hl;unfold execOp;simp only [f x _ hx,Sem.run_bind,h,Result.andThen,Sem.run_pure]
theorem Yl.fromU {e:TypeId} {m b:Nat} {l:List Value} {t':TypeId} (hT:bW5 P T=true) (hT':aV3 P T'=some (e,m)) (hm:Res.box b l t'∈bs) (hlies:liesAt P P.depth t' (l.length / P.cellsOf t') 0 e 1=true) (hx:ev L x=some (.pointer (some ⟨b,0,none⟩))):Yl P L H w0 bs ⟨d,.convert T T' x,ty,pos,aft,g⟩ (.pointer (some ⟨b,0,none⟩)):=.of_run λac W f s=>by
 obtain ⟨hp,j,hj,hjs⟩:=OC hT';have h:=Lib.run_from_unsafe (P:=P) W ⟨b,0,none⟩ (WU hT) hp hj (s.shape hm) hlies;unfold execOp;simp only [f x _ hx,Sem.run_bind,h,Result.andThen,Sem.run_pure]
theorem aI6 (l:List UInt8):Lib.strCells ⟨l.toArray⟩=l.map kF:=by simp [Lib.strCells,kF]
def bI0 (P:Program) (T:TypeId):Option TypeId:=match P.underlying T with | some (.slice e)=>(P.info? e).bind λi=>(match i.zero with | some (.int .u8 0)=>if i.size=1/\i.bytes=1 then some e else none | _=>none) | _=>none
theorem aX4 {e:TypeId} (h:bI0 P T=some e):P.underlying T=some (.slice e)/\∃ i,P.info? e=some i/\i.zero=some (.int .u8 0)/\i.size=1/\i.bytes=1:=by
 unfold bI0 at h;cases hu:P.underlying T with
 | none=>rw [hu] at h;cases h
 | some q =>
  rw [hu] at h;cases q <;> simp only [reduceCtorEq] at h;rename_i e';obtain ⟨i,hi,h2⟩:=dS.1 h
  split at h2
  ·rename_i hz
   split at h2
   ·rename_i hs;cases h2;exact ⟨Z,i,hi,hz,hs.1,hs.2⟩
   ·cases h2
  ·cases h2
theorem At.as {e T2:TypeId} {k:Nat} {r:Value} {l s0:List UInt8} {bs':Value->List Res} (hT:bI0 P T=some e) (hT2:DQ P T2=true) (hx:ev L x=some r) (hm:∀ r',Upd bs (.row e 1 r k (l.map kF)) (.row e 1 r' (k+s0.length) ((l++s0).map kF)) (bs' r'))
 (hy:ev L y=some (.string ⟨s0.toArray⟩)) (hb:k+s0.length<=140737488355328) (ht:Nat.blt t n=true)
 (h:∀ r',At dfs n ((t,r')::L) H w0 (bs' r') (wpList P ops Q rest)):At dfs n L H w0 bs (wpList P ops Q (⟨some t,.call ⟨.builtin .append,#[x,y],#[T,T2]⟩,ty,pos,aft,none⟩::rest)):=by
 obtain ⟨hu,i,hi,hz,hs1,hby⟩:=aX4 hT;refine cons ?_;intro a W f s;have hown:W.ownsRow w0.heap.size e 1 r k (l.map kF):=(s.own _ (hm r).mem).1;have hsz:(⟨s0.toArray⟩:ByteArray).size=s0.length:=MA s0;obtain ⟨v',W',hr,ho,hg,hnil⟩:=Lib.run_append_own_string (P:=P) W w0.heap.size T T2 ty e i hu (xU hT2) hi hz hs1 hby r k (l.map kF) hown ⟨s0.toArray⟩ (by rw [hsz];simp only [maxLen];omega) (by rw [hsz];exact hb) s.ext.size;rw [aI6,<-aV,hsz] at ho
 have hblk:∀ q,v'.ownBlock=some q->r.ownBlock=some q\/W.heap.size<=q:=by
  have hus:=xU hT2;rcases hown.2 with ⟨rfl,rfl⟩ | ⟨g,cap,cur,rfl,hbg,hgc,hnc,hcm,hcs,htake⟩
  ·intro q hq
   by_cases hm0:s0.length=0
   ·rw [hnil.2 ⟨Z,by rw [hsz];exact hm0⟩] at hq;cases hq
   ·have h2:=run_append_nil_string (P:=P) W T T2 ty e i (.int .u8 0) hu hus hi hz ⟨s0.toArray⟩ (by omega) (by omega) (by rw [hby,hsz];omega);rw [h2] at hr;injection hr with e1 e2
    rw [<-e1] at hq
    right
    have:=aW hq;simp at this;omega
  ·intro q hq
   by_cases hroom:k+s0.length<=cap
   ·have hcs':cur.size=cap:=by simpa using hcs
    have h2:=Lib.run_append_room_string (P:=P) W T T2 ty e i hu hus hi hs1 g k cap cur hgc ⟨s0.toArray⟩ (by rw [hsz];exact hroom) (by rw [hsz];omega);rw [h2] at hr;injection hr with e1 e2
    rw [<-e1] at hq;exact .inl hq
   ·have h2:=Lib.run_append_grow_string (P:=P) W T T2 ty e i (.int .u8 0) hu hus hi hz ⟨g,0,none⟩ k cap (l.map kF) (by rw [hs1];exact hown.1) (World.ownsRow.cells hown (g:=g) rfl) ⟨s0.toArray⟩ (by omega) (by omega) (by rw [hby,hsz];exact growslice_fits (by omega) (by omega));rw [h2] at hr;injection hr with e1 e2
    rw [<-e1] at hq
    right
    have:=aW hq;simp at this;omega
 refine mH rfl ?_;unfold Oper.wp execOp;simp only [resolve,invoke,builtin,Sem.run_bind,Sem.run_pure,Result.andThen_ok,jR,dT,jD,f.ev hx,f.ev hy,hr];refine h v' _ _ (f.put ht _) ?_;have hlt:∀ q,r.ownBlock=some q->w0.heap.size<=q:=λq hq=>(World.ownsRow.lt hown q hq).1;refine s.upd (hm v') ?_ hg.size (λq hq hn=>hg.block q hq (λe=>hn e.symm)) ho hblk;refine Ext.of_below ⟨hg.os.trans s.ext.below.os,hg.tape.trans s.ext.below.tape,hg.output.trans s.ext.below.output,cN s.ext.below.size hg.size,λq hq=>?_⟩;rw [hg.block q (jO hq s.ext.size) (λe=>by have:=hlt q e.symm;omega)];exact s.ext.below.block q hq
theorem Yl.sliceData {b m c:Nat} {ts:Array TypeId} (hc:c≠0) (hx:ev L x=some (.slice (some ⟨b,0,none⟩) m c)):Yl P L H w0 bs ⟨d,.call ⟨.builtin .unsafeSliceData,#[x],ts⟩,ty,pos,aft,g⟩ (.pointer (some ⟨b,0,none⟩)):=.of_run λac W f _=>by
 have h1:(Builtin.unsafeSliceData_ ts ty #[.slice (some ⟨b,0,none⟩) m c]).run P W=.ok (.pointer (some ⟨b,0,none⟩)) W:=by
  have e:Builtin.unsafeSliceData_ ts ty #[.slice (some ⟨b,0,none⟩) m c]=(if c≠0 then pure (.pointer (some ⟨b,0,none⟩)) else do
   if (<-viewAt b).isSome then pure (.pointer (some ⟨b,0,none⟩)) else pure (.pointer (some ⟨<-newObj (.view ⟨b,0,none⟩ (<-elemOf ty)),0,none⟩))):=rfl
  rw [e,aE hc];simp
 unfold execOp;simp only [f x _ hx,resolve,invoke,builtin,Sem.run_bind,Sem.run_pure,Result.andThen_ok,jR,dT,jD,h1]
theorem At.us {e pt it:TypeId} {b c k:Nat} {l:List UInt8} {z:Int} (hp:aV3 P pt=some (e,k)) (hc1:P.cellsOf e=1) (hm:Res.row e 1 (.slice (some ⟨b,0,none⟩) l.length c) l.length (l.map kF)∈bs) (h0:l≠[]) (h63:l.length<=9223372036854775807) (hx:ev L x=some (.pointer (some ⟨b,0,none⟩))) (hy:ev L y=some (.int .i64 z)) (hz:z=(l.length:Nat)) (ht:Nat.blt t n=true)
 (h:At dfs n ((t,.string ⟨l.toArray⟩)::L) H w0 [] (wpList P ops Q rest)):At dfs n L H w0 bs (wpList P ops Q (⟨some t,.call ⟨.builtin .unsafeString,#[x,y],#[pt,it]⟩,ty,pos,aft,none⟩::rest)):=by
 subst hz;refine cons ?_;intro a W f s;obtain ⟨hu,j,hj,hjs⟩:=OC hp;have hown:=(s.own _ hm).1;have hH:=(s.own _ hm).2 b rfl;obtain ⟨_,⟨h1,_⟩ | ⟨g,cap,cur,e1,hg,hc,hn,hcm,hcs,htk⟩⟩:=hown
 ·cases h1
 injection e1 with e2 e3 e4
 obtain rfl:b=g:=by injection (aW e2)
 have hcells:=World.ownsRow.cells (s.own _ hm).1 (g:=b) rfl;have hcs':cur.size=cap:=by simpa using hcs
 have hr:=Lib.run_unsafeString_row (P:=P) W pt it ty e hu hc1 b cur.size (by simp [World.shape?,hc]) l h0 (by omega) h63 (λq u hq=>hcells q _ (by rw [List.getElem?_map,hq];rfl));have hl0:l.length≠0:=by simpa using h0
 refine mH rfl ?_;unfold Oper.wp execOp;simp only [resolve,invoke,builtin,Sem.run_bind,Sem.run_pure,Result.andThen_ok,jR,dT,jD,f.ev hx,f.ev hy,hr];refine h _ _ (f.put ht _) ?_
 have hk:∀ q,q≠b->(W.freeze ⟨b,0,none⟩ l.length).heap[q]? = W.heap[q]? := λq hq=>by
  unfold World.freeze;rw [aA hl0];show (W.heap.modify b _)[q]? = _;rw [Array.getElem?_modify,aA (rR hq)]
 have hsz:(W.freeze ⟨b,0,none⟩ l.length).heap.size=W.heap.size:=by unfold World.freeze;rw [aA hl0];simp
 have hx:=s.ext.below;have h5:(W.freeze ⟨b,0,none⟩ l.length).os=W.os/\(W.freeze ⟨b,0,none⟩ l.length).tape=W.tape/\(W.freeze ⟨b,0,none⟩ l.length).output=W.output:=by unfold World.freeze;rw [aA hl0];exact ⟨Z,Z,Z⟩
 refine ⟨Ext.of_below ⟨h5.1.trans hx.os,h5.2.1.trans hx.tape,h5.2.2.trans hx.output,by rw [hsz];exact hx.size,λq hq=>?_⟩,λq o hq=>?_,(λ_ h=>by cases h),.nil⟩
 ·rw [hk q (by omega)];exact hx.block q hq
 ·rw [hk q (λe=>by rw [e,hH] at hq;cases hq)];exact s.agr q o hq
theorem St.pickT {W:World} {hd tl hd':List Res} (s:St H w0 (hd++tl) W) (ix:List Nat) (hn:mQ ix=true) (hm:ix.map (λi=>hd[i]?)=hd'.map some):St H w0 (hd'++tl) W:=by
 have hlt:∀ i x,hd[i]? = some x->(hd++tl)[i]? = some x:=λi x e=>by
  rw [List.getElem?_append_left (List.getElem?_eq_some_iff.1 e).1];exact e
 have key:∀ (ix:List Nat) (hd':List Res),mQ ix=true->ix.map (λi=>hd[i]?)=hd'.map some->(∀ x∈hd',∃ i∈ix,hd[i]? = some x)/\(hd'++tl).Pairwise Res.apart:=by
  intro ix;induction ix with
  | nil =>
   intro hd' _ hm;cases hd' with
   | nil=>exact ⟨λx hx=>(by cases hx),(kR.1 s.apart).2.1⟩
   | cons a r=>simp at hm
  | cons i r ih =>
   intro hd' hn hm;cases hd' with
   | nil=>simp at hm
   | cons a q =>
    simp only [dT,aT] at hm;simp only [mQ,aF,dY] at hn;obtain ⟨h1,h2⟩:=ih q hn.2 hm.2;refine ⟨λx hx=>?_,?_⟩
    ·rcases bJ.1 hx with rfl | hx
     ·exact ⟨i,.head _,hm.1⟩
     ·obtain ⟨j,hj,e⟩:=h1 x hx;exact ⟨j,.tail _ hj,e⟩
    ·rw [aR,lR];refine ⟨λy hy=>?_,h2⟩;rcases gJ.1 hy with hy | hy
     ·obtain ⟨j,hj,e⟩:=h1 y hy;refine QA s.apart (hlt _ _ hm.1) (hlt _ _ e) λh=>?_;subst h;have:=hn.1;simp [hj] at this
     ·exact (kR.1 s.apart).2.2 a (Al_List_mem_of_getElem? hm.1) y hy
 obtain ⟨h1,h2⟩:=key ix hd' hn hm;refine ⟨s.ext,s.agr,λx hx=>?_,h2⟩;rcases gJ.1 hx with hx | hx
 ·obtain ⟨i,_,e⟩:=h1 x hx;exact s.own x (sP _ (Al_List_mem_of_getElem? e))
 ·exact s.own x (rU _ hx)
theorem At.pt {G:Act->World->Prop} {hd tl hd':List Res} (ix:List Nat) (hn:mQ ix=true) (hm:ix.map (λi=>hd[i]?)=hd'.map some) (h:At dfs n L H w0 (hd'++tl) G):At dfs n L H w0 (hd++tl) G:=λa W f s=>h a W f (s.pickT ix hn hm)
theorem At.mk {e:TypeId} {v0:Value} {bytes m:Nat} {kl kc:IntKind} {i j:Int} (hT:tM P T=some (e,1,bytes)) (hz0:mD P e=some [v0]) (hx:ev L x=some (.int kl i)) (hy:ev L y=some (.int kc j)) (hi:i=(m:Int)) (hj:j=(m:Int)) (hb:bytes * m<=281474976710656) (h63:m<=9223372036854775807) (ht:Nat.blt t n=true)
 (h:∀ b,At dfs n ((t,.slice (some ⟨b,0,none⟩) m m)::L) H w0 (.box b (List.replicate m v0) e::bs) (wpList P ops Q rest)):At dfs n L H w0 bs (wpList P ops Q (⟨some t,.makeSlice T x y,ty,pos,aft,none⟩::rest)):=by
 subst hi hj;obtain ⟨hu,q,z,hq,hz,hsz,hby,hzs,h0⟩:=ES hT
 have hz1:z.cells.toList=[v0]:=by
  have h2:=hz0;unfold mD at h2;rw [hq] at h2;simp only [kJ,hz,nR,kS] at h2;exact h2
 refine cons ?_;intro a W f s;refine mH rfl ?_
 have hbz:(q.bytes:Int) * (m:Int)<=281474976710656:=by
  have h5:((q.bytes * m:Nat):Int)<=281474976710656:=by rw [hby];omega
  rwa [Int.natCast_mul] at h5
 have hr:=run_make (P:=P) W T e q z hu hq hz kl kc m m (by omega) (Int.le_refl _) hbz (by omega)
 have hcs:madeCells z.cells (((m:Int)).toNat * q.size)=(List.replicate m v0).toArray:=by
  have e1:z.cells=#[v0]:=by rw [<-Array.toArray_toList (xs:=z.cells),hz1]
  rw [e1,hsz,Int.toNat_natCast,Nat.mul_one];apply zA
  ·simp [madeCells]
  ·intro i h1 h2;simp [madeCells,Nat.mod_one]
 rw [hcs,Int.toNat_natCast] at hr;unfold Oper.wp execOp;simp only [Sem.run_bind,Sem.run_pure,Result.andThen_ok,f.ev hx,f.ev hy,hr];exact h _ _ _ (f.put ht _) (s.alloc _ _)
end
theorem dt {p:Prop} [Decidable p]:(decide p=true)=p:=aB
theorem df {p:Prop} [Decidable p]:(decide p=false)=¬ p:=propext bM
theorem nb {a b:Nat} (h:Nat.ble a b=true):a<=b:=nY h
variable {l:List Value}
theorem z0:∀ (j:Nat) u,l[j]? = some u->l[0+j]? = some u:=λj u h=>by rw [fV];exact h
theorem w6 {i:Int} (h:-9223372036854775808<=i/\i<=9223372036854775807):IntKind.i64.wrap i=i:=w64 h.1 h.2
section
variable {dfs:List Deferred} {P:Program} {n:Nat} {L:Sl} {H:Hp} {w0:World} {bs:List Res} {Q:Exit->Act->World->Prop} {ops:Array Oper}
theorem At.nt {K:Act->World->Prop} (h:At dfs n L H w0 bs K):At dfs n L H w0 bs (wpList P ops (Exit.then K Q) []):=.nl (.tN h)
theorem At.sr {id:Nat} {l:List Oper} {y:Code} (h:At dfs n L H w0 bs (wpList P l.toArray (Exit.then (y.wp P Q) Q) l)):At dfs n L H w0 bs ((Code.seq (Code.region id l.toArray false) y).wp P Q):=.sq (.rg h)
theorem At.ns {Q':Exit->Act->World->Prop} {id:Nat} {l:List Oper} {y:Code} (h:At dfs n L H w0 bs (wpList P l.toArray (Exit.then (y.wp P Q') Q') l)):At dfs n L H w0 bs (wpList P ops (Exit.then ((Code.seq (Code.region id l.toArray false) y).wp P Q') Q) []):=.nl (.tN (.sq (.rg h)))
end
end Go.Sx

namespace Go.Sx
open Go.RowKit Go.Par
section
variable {dfs:List Deferred} {P:Program} {L:Sl} {H H':Hp} {w0:World} {bs bs':List Res} {ty:TypeId} {pos:String} {aft:Array Edge} {t:Tmp} {op:Op} {ops:Array Oper} {N hn i n j:Nat} {pa:List (Nat × Oper × Value)} {E:Sl->Hp->List Res->Prop} {r:List (Nat × Nat × Oper)} {rest:List Oper} {Q:Exit->Act->World->Prop} {o:Oper} {v:Value} {b c:Bool} {u:Tmp}
theorem St.p1_1 {H:Hp} {w0 W:World} {a0 b0:Res} {tl:List Res} (s:St H w0 (a0::tl) W) (ix:List Nat) (hm:ix.map (λi=>([a0]:List Res)[i]?)=[some b0]) (hn:mQ ix=true:=by rfl):St H w0 (b0::tl) W:=s.pickT (hd:=[a0]) (hd':=[b0]) ix hn hm
theorem St.p2_0 {H:Hp} {w0 W:World} {a0 a1:Res} {tl:List Res} (s:St H w0 (a0::a1::tl) W) (ix:List Nat) (hm:ix.map (λi=>([a0,a1]:List Res)[i]?)=[]) (hn:mQ ix=true:=by rfl):St H w0 (tl) W:=s.pickT (hd:=[a0,a1]) (hd':=[]) ix hn hm
theorem St.p2_1 {H:Hp} {w0 W:World} {a0 a1 b0:Res} {tl:List Res} (s:St H w0 (a0::a1::tl) W) (ix:List Nat) (hm:ix.map (λi=>([a0,a1]:List Res)[i]?)=[some b0]) (hn:mQ ix=true:=by rfl):St H w0 (b0::tl) W:=s.pickT (hd:=[a0,a1]) (hd':=[b0]) ix hn hm
theorem St.p2_2 {H:Hp} {w0 W:World} {a0 a1 b0 b1:Res} {tl:List Res} (s:St H w0 (a0::a1::tl) W) (ix:List Nat) (hm:ix.map (λi=>([a0,a1]:List Res)[i]?)=[some b0,some b1]) (hn:mQ ix=true:=by rfl):St H w0 (b0::b1::tl) W:=s.pickT (hd:=[a0,a1]) (hd':=[b0,b1]) ix hn hm
theorem St.p3_0 {H:Hp} {w0 W:World} {a0 a1 a2:Res} {tl:List Res} (s:St H w0 (a0::a1::a2::tl) W) (ix:List Nat) (hm:ix.map (λi=>([a0,a1,a2]:List Res)[i]?)=[]) (hn:mQ ix=true:=by rfl):St H w0 (tl) W:=s.pickT (hd:=[a0,a1,a2]) (hd':=[]) ix hn hm
theorem St.p3_1 {H:Hp} {w0 W:World} {a0 a1 a2 b0:Res} {tl:List Res} (s:St H w0 (a0::a1::a2::tl) W) (ix:List Nat) (hm:ix.map (λi=>([a0,a1,a2]:List Res)[i]?)=[some b0]) (hn:mQ ix=true:=by rfl):St H w0 (b0::tl) W:=s.pickT (hd:=[a0,a1,a2]) (hd':=[b0]) ix hn hm
theorem St.p3_2 {H:Hp} {w0 W:World} {a0 a1 a2 b0 b1:Res} {tl:List Res} (s:St H w0 (a0::a1::a2::tl) W) (ix:List Nat) (hm:ix.map (λi=>([a0,a1,a2]:List Res)[i]?)=[some b0,some b1]) (hn:mQ ix=true:=by rfl):St H w0 (b0::b1::tl) W:=s.pickT (hd:=[a0,a1,a2]) (hd':=[b0,b1]) ix hn hm
theorem St.p3_3 {H:Hp} {w0 W:World} {a0 a1 a2 b0 b1 b2:Res} {tl:List Res} (s:St H w0 (a0::a1::a2::tl) W) (ix:List Nat) (hm:ix.map (λi=>([a0,a1,a2]:List Res)[i]?)=[some b0,some b1,some b2]) (hn:mQ ix=true:=by rfl):St H w0 (b0::b1::b2::tl) W:=s.pickT (hd:=[a0,a1,a2]) (hd':=[b0,b1,b2]) ix hn hm
theorem St.p4_1 {H:Hp} {w0 W:World} {a0 a1 a2 a3 b0:Res} {tl:List Res} (s:St H w0 (a0::a1::a2::a3::tl) W) (ix:List Nat) (hm:ix.map (λi=>([a0,a1,a2,a3]:List Res)[i]?)=[some b0]) (hn:mQ ix=true:=by rfl):St H w0 (b0::tl) W:=s.pickT (hd:=[a0,a1,a2,a3]) (hd':=[b0]) ix hn hm
theorem St.p4_2 {H:Hp} {w0 W:World} {a0 a1 a2 a3 b0 b1:Res} {tl:List Res} (s:St H w0 (a0::a1::a2::a3::tl) W) (ix:List Nat) (hm:ix.map (λi=>([a0,a1,a2,a3]:List Res)[i]?)=[some b0,some b1]) (hn:mQ ix=true:=by rfl):St H w0 (b0::b1::tl) W:=s.pickT (hd:=[a0,a1,a2,a3]) (hd':=[b0,b1]) ix hn hm
theorem St.p4_3 {H:Hp} {w0 W:World} {a0 a1 a2 a3 b0 b1 b2:Res} {tl:List Res} (s:St H w0 (a0::a1::a2::a3::tl) W) (ix:List Nat) (hm:ix.map (λi=>([a0,a1,a2,a3]:List Res)[i]?)=[some b0,some b1,some b2]) (hn:mQ ix=true:=by rfl):St H w0 (b0::b1::b2::tl) W:=s.pickT (hd:=[a0,a1,a2,a3]) (hd':=[b0,b1,b2]) ix hn hm
theorem St.p4_4 {H:Hp} {w0 W:World} {a0 a1 a2 a3 b0 b1 b2 b3:Res} {tl:List Res} (s:St H w0 (a0::a1::a2::a3::tl) W) (ix:List Nat) (hm:ix.map (λi=>([a0,a1,a2,a3]:List Res)[i]?)=[some b0,some b1,some b2,some b3]) (hn:mQ ix=true:=by rfl):St H w0 (b0::b1::b2::b3::tl) W:=s.pickT (hd:=[a0,a1,a2,a3]) (hd':=[b0,b1,b2,b3]) ix hn hm
theorem St.p5_2 {H:Hp} {w0 W:World} {a0 a1 a2 a3 a4 b0 b1:Res} {tl:List Res} (s:St H w0 (a0::a1::a2::a3::a4::tl) W) (ix:List Nat) (hm:ix.map (λi=>([a0,a1,a2,a3,a4]:List Res)[i]?)=[some b0,some b1]) (hn:mQ ix=true:=by rfl):St H w0 (b0::b1::tl) W:=s.pickT (hd:=[a0,a1,a2,a3,a4]) (hd':=[b0,b1]) ix hn hm
theorem St.p5_3 {H:Hp} {w0 W:World} {a0 a1 a2 a3 a4 b0 b1 b2:Res} {tl:List Res} (s:St H w0 (a0::a1::a2::a3::a4::tl) W) (ix:List Nat) (hm:ix.map (λi=>([a0,a1,a2,a3,a4]:List Res)[i]?)=[some b0,some b1,some b2]) (hn:mQ ix=true:=by rfl):St H w0 (b0::b1::b2::tl) W:=s.pickT (hd:=[a0,a1,a2,a3,a4]) (hd':=[b0,b1,b2]) ix hn hm
theorem St.p5_4 {H:Hp} {w0 W:World} {a0 a1 a2 a3 a4 b0 b1 b2 b3:Res} {tl:List Res} (s:St H w0 (a0::a1::a2::a3::a4::tl) W) (ix:List Nat) (hm:ix.map (λi=>([a0,a1,a2,a3,a4]:List Res)[i]?)=[some b0,some b1,some b2,some b3]) (hn:mQ ix=true:=by rfl):St H w0 (b0::b1::b2::b3::tl) W:=s.pickT (hd:=[a0,a1,a2,a3,a4]) (hd':=[b0,b1,b2,b3]) ix hn hm
theorem St.p5_5 {H:Hp} {w0 W:World} {a0 a1 a2 a3 a4 b0 b1 b2 b3 b4:Res} {tl:List Res} (s:St H w0 (a0::a1::a2::a3::a4::tl) W) (ix:List Nat) (hm:ix.map (λi=>([a0,a1,a2,a3,a4]:List Res)[i]?)=[some b0,some b1,some b2,some b3,some b4]) (hn:mQ ix=true:=by rfl):St H w0 (b0::b1::b2::b3::b4::tl) W:=s.pickT (hd:=[a0,a1,a2,a3,a4]) (hd':=[b0,b1,b2,b3,b4]) ix hn hm
theorem St.p6_3 {H:Hp} {w0 W:World} {a0 a1 a2 a3 a4 a5 b0 b1 b2:Res} {tl:List Res} (s:St H w0 (a0::a1::a2::a3::a4::a5::tl) W) (ix:List Nat) (hm:ix.map (λi=>([a0,a1,a2,a3,a4,a5]:List Res)[i]?)=[some b0,some b1,some b2]) (hn:mQ ix=true:=by rfl):St H w0 (b0::b1::b2::tl) W:=s.pickT (hd:=[a0,a1,a2,a3,a4,a5]) (hd':=[b0,b1,b2]) ix hn hm
theorem St.p6_5 {H:Hp} {w0 W:World} {a0 a1 a2 a3 a4 a5 b0 b1 b2 b3 b4:Res} {tl:List Res} (s:St H w0 (a0::a1::a2::a3::a4::a5::tl) W) (ix:List Nat) (hm:ix.map (λi=>([a0,a1,a2,a3,a4,a5]:List Res)[i]?)=[some b0,some b1,some b2,some b3,some b4]) (hn:mQ ix=true:=by rfl):St H w0 (b0::b1::b2::b3::b4::tl) W:=s.pickT (hd:=[a0,a1,a2,a3,a4,a5]) (hd':=[b0,b1,b2,b3,b4]) ix hn hm
theorem St.p6_6 {H:Hp} {w0 W:World} {a0 a1 a2 a3 a4 a5 b0 b1 b2 b3 b4 b5:Res} {tl:List Res} (s:St H w0 (a0::a1::a2::a3::a4::a5::tl) W) (ix:List Nat) (hm:ix.map (λi=>([a0,a1,a2,a3,a4,a5]:List Res)[i]?)=[some b0,some b1,some b2,some b3,some b4,some b5]) (hn:mQ ix=true:=by rfl):St H w0 (b0::b1::b2::b3::b4::b5::tl) W:=s.pickT (hd:=[a0,a1,a2,a3,a4,a5]) (hd':=[b0,b1,b2,b3,b4,b5]) ix hn hm
theorem St.p7_6 {H:Hp} {w0 W:World} {a0 a1 a2 a3 a4 a5 a6 b0 b1 b2 b3 b4 b5:Res} {tl:List Res} (s:St H w0 (a0::a1::a2::a3::a4::a5::a6::tl) W) (ix:List Nat) (hm:ix.map (λi=>([a0,a1,a2,a3,a4,a5,a6]:List Res)[i]?)=[some b0,some b1,some b2,some b3,some b4,some b5]) (hn:mQ ix=true:=by rfl):St H w0 (b0::b1::b2::b3::b4::b5::tl) W:=s.pickT (hd:=[a0,a1,a2,a3,a4,a5,a6]) (hd':=[b0,b1,b2,b3,b4,b5]) ix hn hm
theorem St.p7_7 {H:Hp} {w0 W:World} {a0 a1 a2 a3 a4 a5 a6 b0 b1 b2 b3 b4 b5 b6:Res} {tl:List Res} (s:St H w0 (a0::a1::a2::a3::a4::a5::a6::tl) W) (ix:List Nat) (hm:ix.map (λi=>([a0,a1,a2,a3,a4,a5,a6]:List Res)[i]?)=[some b0,some b1,some b2,some b3,some b4,some b5,some b6]) (hn:mQ ix=true:=by rfl):St H w0 (b0::b1::b2::b3::b4::b5::b6::tl) W:=s.pickT (hd:=[a0,a1,a2,a3,a4,a5,a6]) (hd':=[b0,b1,b2,b3,b4,b5,b6]) ix hn hm
theorem At.aq {x:Operand} {K:Act->World->Prop} (hx:ev L x=some v) (h:At dfs n ((t,v)::L) H w0 bs K) (ht:Nat.blt t n=true:=by rfl):At dfs n L H w0 bs (wpList P ops (Exit.then K Q) [⟨some t,.assign x,ty,pos,aft,none⟩]):=.a hx ht (.nt h)
theorem At.sm {x:Operand} {id:Nat} {l:List Oper} {y:Code} (hx:ev L x=some v) (h:At dfs n ((t,v)::L) H w0 bs (wpList P (⟨some t,.move x,ty,pos,aft,none⟩::l).toArray (Exit.then (y.wp P Q) Q) l)) (ht:Nat.blt t n=true:=by rfl):At dfs n L H w0 bs ((Code.seq (Code.region id (⟨some t,.move x,ty,pos,aft,none⟩::l).toArray false) y).wp P Q):=.sr (.m hx ht h)
theorem w7 {i:Int} (h:-9223372036854775808<=i/\i<=9223372036854775807:=by omega):IntKind.i64.wrap i=i:=w6 h
theorem y6 {P:Program} {n:Nat} {f:FuncId} {fn:Func} {c:Code} {args:List Value} {w:World} {R:Ending->World->Prop} (hf:P.funcs[f]? = some fn) (hb:fn.body=some c) (hn:fn.ntmps=n) (hl:Nat.ble args.length n=true) (h:At [] n (PW 0 args) (λ_=>none) w [] (c.wp P (bodyPost P fn R))):Calls P f args.toArray w R:=enter hf hb hn hl (λ_ _ e=>by cases e) h
theorem At.zR {id:Nat} {K:Act->World->Prop} {Q':Exit->Act->World->Prop} (h:At dfs n L H w0 bs (Q .ret)):At dfs n L H w0 bs (wpList P ops (Exit.then (Code.ret.wp P (Exit.inBlock id (Exit.then K Q))) Q') []):=.nt (.rt (.bR (.tR h)))
theorem At.eb {id:Nat} {K K' K2:Act->World->Prop} {Q:Exit->Act->World->Prop} (h:At dfs n L H w0 bs K):At dfs n L H w0 bs (Exit.then K' (Exit.then K2 (Exit.inBlock id (Exit.then K Q))) (.exit id)):=.tE (.tE (.bE (.tN h)))
theorem At.az {x:Operand} {Q':Exit->Act->World->Prop} (hx:ev L x=some v) (h:At dfs n ((t,v)::L) H w0 bs (Q .ret)) (ht:Nat.blt t n=true:=by rfl):At dfs n L H w0 bs (wpList P ops (Exit.then (Code.ret.wp P Q) Q') [⟨some t,.assign x,ty,pos,aft,none⟩]):=.aq hx (.rt h) ht
end
end Go.Sx
namespace Go.Proofs.YthhoebdlfjffkaaGreatDoor
open Go.RowKit Go.Par Go.Sx
abbrev Str:=List UInt8
def cJ (l:Str):Value:=.string ⟨l.toArray⟩
inductive Ex where
 | mk (op:UInt8) (nm:Str) (n:Int64) (args:List Ex)
inductive Sm where
 | mk (kind:UInt8) (nm hd:Str) (ex:List Ex) (th el:List Sm)
def Ex.op:Ex->UInt8 | .mk op _ _ _=>op
def Ex.nm:Ex->Str | .mk _ nm _ _=>nm
def Ex.args:Ex->List Ex | .mk _ _ _ args=>args
mutual
def dEx (k:IntKind):Ex->D
 | .mk op nm n args=>.str [.val (.int k op.toNat),.val (cJ nm),.val (.int .i64 n.toInt),.seq 4 (cQ2 k args)]
def cQ2 (k:IntKind):List Ex->List D
 | []=>[]
 | e::r=>dEx k e::cQ2 k r
end
theorem aP0 (k:IntKind):∀ l,cQ2 k l=l.map (dEx k)
 | []=>rfl
 | e::r=>by rw [cQ2,aP0 k r];rfl
theorem cG1 (k:IntKind) (op:UInt8) (nm:Str) (n:Int64) (args:List Ex):dEx k (.mk op nm n args)=.str [.val (.int k op.toNat),.val (cJ nm),.val (.int .i64 n.toInt),.seq 4 (args.map (dEx k))]:=by rw [dEx,aP0]
mutual
def dSm (k:IntKind):Sm->D
 | .mk kd nm hd ex th el=>.str [.val (.int k kd.toNat),.val (cJ nm),.val (cJ hd),.seq 4 (ex.map (dEx k)),.seq 6 (cF9 k th),.seq 6 (cF9 k el)]
def cF9 (k:IntKind):List Sm->List D
 | []=>[]
 | e::r=>dSm k e::cF9 k r
end
theorem TS (k:IntKind):∀ l,cF9 k l=l.map (dSm k)
 | []=>rfl
 | e::r=>by rw [cF9,TS k r];rfl
theorem cG0 (k:IntKind) (kd:UInt8) (nm hd:Str) (ex:List Ex) (th el:List Sm):dSm k (.mk kd nm hd ex th el)=.str [.val (.int k kd.toNat),.val (cJ nm),.val (cJ hd),.seq 4 (ex.map (dEx k)),.seq 6 (th.map (dSm k)),.seq 6 (el.map (dSm k))]:=by rw [dSm,TS,TS]
theorem Ex.ind {C:Ex->Prop} (h:∀ op nm n args,(∀ a∈args,C a)->C (.mk op nm n args)):∀ e,C e
 | .mk op nm n args=>h op nm n args λa ha=>Ex.ind h a
termination_by e=>SizeOf.sizeOf e
decreasing_by
 have:=xJ ha;simp;omega
theorem Sm.ind {C:Sm->Prop} (h:∀ kd nm hd ex th el,(∀ a∈th,C a)->(∀ a∈el,C a)->C (.mk kd nm hd ex th el)):∀ e,C e
 | .mk kd nm hd ex th el=>h kd nm hd ex th el (λa ha=>Sm.ind h a) (λa ha=>Sm.ind h a)
termination_by e=>SizeOf.sizeOf e
decreasing_by
 all_goals
  have:=xJ ha;simp;omega
structure Hd where
 nm:Str
 ps:List Str
 body:List Sm
structure Vr where
 nm:Str
 ty:UInt8
 init:Int64
structure Cp where
 nm:Str
 vars:List Vr
 vers:List (List Hd)
structure Fg where
 nm:Str
 init:Bool
structure Lk where
 fr:Str
 to:Str
 lat:Int64
structure Ft where
 nm:Str
 flags:List Fg
 links:List Lk
 comps:List Cp
def lU (s:Str):D:=.val (cJ s)
def TR (s:Str):D:=.any (cJ s)
def dHd (k:IntKind) (h:Hd):D:=.str [.val (cJ h.nm),.seq 1 (h.ps.map lU),.seq 6 (h.body.map (dSm k))]
def dVr (k:IntKind) (v:Vr):D:=.str [.val (cJ v.nm),.val (.int k v.ty.toNat),.val (.int .i64 v.init.toInt)]
def dVs (k:IntKind) (v:List Hd):D:=.seq 3 (v.map (dHd k))
def dCp (k:IntKind) (c:Cp):D:=.str [.val (cJ c.nm),.seq 3 (c.vars.map (dVr k)),.seq 1 (c.vers.map (dVs k))]
def dFg (f:Fg):D:=.str [.val (cJ f.nm),.val (.bool f.init)]
def dLk (l:Lk):D:=.str [.val (cJ l.fr),.val (cJ l.to),.val (.int .i64 l.lat.toInt)]
def dFt (k:IntKind) (f:Ft):D:=.str [.val (cJ f.nm),.seq 2 (f.flags.map dFg),.seq 3 (f.links.map dLk),.seq 3 (f.comps.map (dCp k))]
/-! ### Structs opened and shut -/
section
variable {H:Hp}
theorem cV8 {v:Value} (h:v.oneCell'=true) (k:okV v):Rep H (.val v) [v]:=by unfold Rep;exact ⟨Z,h,k⟩
theorem okS {l:Str}:okV (cJ l)↔l.length<=1000000:=by simp [okV,cJ,ByteArray.size]
theorem nD {d:D} {ds:List D} {l:List Value}:wT H (d::ds) l↔∃ x y,l=x++y/\Rep H d x/\wT H ds y:=by
 constructor
 ·intro h;unfold wT at h;exact h
 ·intro h;unfold wT;exact h
theorem kG {l:List Value}:wT H [] l↔l=[]:=by
 constructor
 ·intro h;unfold wT at h;exact h
 ·intro h;unfold wT;exact h
theorem AS {ds:List D} {l:List Value}:Rep H (.str ds) l↔wT H ds l:=by
 constructor
 ·intro h;unfold Rep at h;exact h
 ·intro h;unfold Rep;exact h
theorem eW {v:Value} {ds:List D} {l:List Value}:wT H (.val v::ds) l↔∃ y,l=v::y/\v.oneCell'=true/\okV v/\wT H ds y:=by
 rw [nD]
 constructor
 ·rintro ⟨x,y,rfl,hx,hy⟩;unfold Rep at hx;obtain ⟨rfl,h,k⟩:=hx;exact ⟨y,Z,h,k,hy⟩
 ·rintro ⟨y,rfl,h,k,hy⟩;exact ⟨[v],y,Z,cV8 h k,hy⟩
theorem oZ {z:Nat} {es ds:List D} {l:List Value}:wT H (.seq z es::ds) l↔∃ p c y,l=.slice p es.length c::y/\Rep H (.seq z es) [.slice p es.length c]/\wT H ds y:=by
 rw [nD]
 constructor
 ·rintro ⟨x,y,rfl,hx,hy⟩;obtain ⟨p,c,rfl,_⟩:=hx.sl;exact ⟨p,c,y,Z,hx,hy⟩
 ·rintro ⟨p,c,y,rfl,hx,hy⟩;exact ⟨_,y,Z,hx,hy⟩
theorem eL {α β:Type} {f:α->β} {l:List α} {k:Nat} (h:k<l.length):(l.map f)[k]? = some (f l[k]):=by simp [h]
theorem iR {k:IntKind} {op:UInt8} {nm:Str} {n:Int64} {args:List Ex} {cs:List Value} (h:Rep H (dEx k (.mk op nm n args)) cs) :
 ∃ p c,cs=[.int k op.toNat,cJ nm,.int .i64 n.toInt,.slice p args.length c]/\Rep H (.seq 4 (args.map (dEx k))) [.slice p args.length c]/\nm.length<=1000000:=by
 rw [cG1,AS] at h;obtain ⟨_,rfl,_,_,h⟩:=eW.1 h;obtain ⟨_,rfl,_,hn,h⟩:=eW.1 h;obtain ⟨_,rfl,_,_,h⟩:=eW.1 h;obtain ⟨p,c,_,rfl,hs,h⟩:=oZ.1 h;rw [kG] at h;subst h;rw [aJ] at hs|-;exact ⟨p,c,Z,hs,okS.1 hn⟩
theorem iE {k:IntKind} {op:UInt8} {nm:Str} {n:Int64} {args:List Ex} {s:Value} (hn:nm.length<=1000000) (h:Rep H (.seq 4 (args.map (dEx k))) [s]) :
 Rep H (dEx k (.mk op nm n args)) [.int k op.toNat,cJ nm,.int .i64 n.toInt,s]:=by
 rw [cG1,AS];exact eW.2 ⟨_,Z,Z,Jt,eW.2 ⟨_,Z,Z,okS.2 hn,eW.2 ⟨_,Z,Z,Jt,nD.2 ⟨[s],[],Z,h,kG.2 rfl⟩⟩⟩⟩
theorem vR {k:IntKind} {kd:UInt8} {nm hd:Str} {ex:List Ex} {th el:List Sm} {cs:List Value} (h:Rep H (dSm k (.mk kd nm hd ex th el)) cs) :
 ∃ p c p1 c1 p2 c2,cs=[.int k kd.toNat,cJ nm,cJ hd,.slice p ex.length c,.slice p1 th.length c1,.slice p2 el.length c2]/\Rep H (.seq 4 (ex.map (dEx k))) [.slice p ex.length c]/\Rep H (.seq 6 (th.map (dSm k))) [.slice p1 th.length c1]/\Rep H (.seq 6 (el.map (dSm k))) [.slice p2 el.length c2]/\nm.length<=1000000/\hd.length<=1000000:=by
 rw [cG0,AS] at h;obtain ⟨_,rfl,_,_,h⟩:=eW.1 h;obtain ⟨_,rfl,_,hn,h⟩:=eW.1 h;obtain ⟨_,rfl,_,hm,h⟩:=eW.1 h;obtain ⟨p,c,_,rfl,hs,h⟩:=oZ.1 h;obtain ⟨p1,c1,_,rfl,hs1,h⟩:=oZ.1 h;obtain ⟨p2,c2,_,rfl,hs2,h⟩:=oZ.1 h;rw [kG] at h;subst h;rw [aJ] at hs hs1 hs2;exact ⟨p,c,p1,c1,p2,c2,by rw [aJ,aJ,aJ],hs,hs1,hs2,okS.1 hn,okS.1 hm⟩
theorem gQ {k:IntKind} {kd:UInt8} {nm hd:Str} {ex:List Ex} {th el:List Sm} {s s1 s2:Value} (hn:nm.length<=1000000) (hm:hd.length<=1000000) (h:Rep H (.seq 4 (ex.map (dEx k))) [s]) (h1:Rep H (.seq 6 (th.map (dSm k))) [s1]) (h2:Rep H (.seq 6 (el.map (dSm k))) [s2]) :
 Rep H (dSm k (.mk kd nm hd ex th el)) [.int k kd.toNat,cJ nm,cJ hd,s,s1,s2]:=by
 rw [cG0,AS];exact eW.2 ⟨_,Z,Z,Jt,eW.2 ⟨_,Z,Z,okS.2 hn,eW.2 ⟨_,Z,Z,okS.2 hm,nD.2 ⟨[s],_,Z,h,nD.2 ⟨[s1],_,Z,h1,nD.2 ⟨[s2],[],Z,h2,kG.2 rfl⟩⟩⟩⟩⟩⟩
theorem DR {k:IntKind} {x:Hd} {cs:List Value} (h:Rep H (dHd k x) cs) :
 ∃ p1 c1 p2 c2,cs=[cJ x.nm,.slice p1 x.ps.length c1,.slice p2 x.body.length c2]/\x.nm.length<=1000000/\Rep H (.seq 1 (x.ps.map lU)) [.slice p1 x.ps.length c1]/\Rep H (.seq 6 (x.body.map (dSm k))) [.slice p2 x.body.length c2]:=by
 rw [dHd,AS] at h;obtain ⟨_,rfl,_,k0,h⟩:=eW.1 h;obtain ⟨p1,c1,_,rfl,k1,h⟩:=oZ.1 h;obtain ⟨p2,c2,_,rfl,k2,h⟩:=oZ.1 h;rw [kG] at h;subst h;exact ⟨p1,c1,p2,c2,by simp,okS.1 k0,(by simpa using k1),(by simpa using k2)⟩
theorem MR {k:IntKind} {x:Hd} (k0:x.nm.length<=1000000) {s1:Value} (k1:Rep H (.seq 1 (x.ps.map lU)) [s1]) {s2:Value} (k2:Rep H (.seq 6 (x.body.map (dSm k))) [s2]):Rep H (dHd k x) [cJ x.nm,s1,s2]:=by
 rw [dHd,AS];exact eW.2 ⟨_,Z,Z,okS.2 k0,nD.2 ⟨[s1],_,Z,k1,nD.2 ⟨[s2],_,Z,k2,kG.2 rfl⟩⟩⟩
theorem FN {k:IntKind} {x:Vr} {cs:List Value} (h:Rep H (dVr k x) cs) :
 cs=[cJ x.nm,.int k x.ty.toNat,.int .i64 x.init.toInt]/\x.nm.length<=1000000:=by
 rw [dVr,AS] at h;obtain ⟨_,rfl,_,k0,h⟩:=eW.1 h;obtain ⟨_,rfl,_,_,h⟩:=eW.1 h;obtain ⟨_,rfl,_,_,h⟩:=eW.1 h;rw [kG] at h;subst h;exact ⟨by simp,okS.1 k0⟩
theorem HX {k:IntKind} {x:Vr} (k0:x.nm.length<=1000000):Rep H (dVr k x) [cJ x.nm,.int k x.ty.toNat,.int .i64 x.init.toInt]:=by
 rw [dVr,AS];exact eW.2 ⟨_,Z,Z,okS.2 k0,eW.2 ⟨_,Z,Z,Jt,eW.2 ⟨_,Z,Z,Jt,kG.2 rfl⟩⟩⟩
theorem BW {k:IntKind} {x:Cp} {cs:List Value} (h:Rep H (dCp k x) cs) :
 ∃ p1 c1 p2 c2,cs=[cJ x.nm,.slice p1 x.vars.length c1,.slice p2 x.vers.length c2]/\x.nm.length<=1000000/\Rep H (.seq 3 (x.vars.map (dVr k))) [.slice p1 x.vars.length c1]/\Rep H (.seq 1 (x.vers.map (dVs k))) [.slice p2 x.vers.length c2]:=by
 rw [dCp,AS] at h;obtain ⟨_,rfl,_,k0,h⟩:=eW.1 h;obtain ⟨p1,c1,_,rfl,k1,h⟩:=oZ.1 h;obtain ⟨p2,c2,_,rfl,k2,h⟩:=oZ.1 h;rw [kG] at h;subst h;exact ⟨p1,c1,p2,c2,by simp,okS.1 k0,(by simpa using k1),(by simpa using k2)⟩
theorem IU {k:IntKind} {x:Cp} (k0:x.nm.length<=1000000) {s1:Value} (k1:Rep H (.seq 3 (x.vars.map (dVr k))) [s1]) {s2:Value} (k2:Rep H (.seq 1 (x.vers.map (dVs k))) [s2]):Rep H (dCp k x) [cJ x.nm,s1,s2]:=by
 rw [dCp,AS];exact eW.2 ⟨_,Z,Z,okS.2 k0,nD.2 ⟨[s1],_,Z,k1,nD.2 ⟨[s2],_,Z,k2,kG.2 rfl⟩⟩⟩
theorem MY {x:Fg} {cs:List Value} (h:Rep H (dFg x) cs) :
 cs=[cJ x.nm,.bool x.init]/\x.nm.length<=1000000:=by
 rw [dFg,AS] at h;obtain ⟨_,rfl,_,k0,h⟩:=eW.1 h;obtain ⟨_,rfl,_,_,h⟩:=eW.1 h;rw [kG] at h;subst h;exact ⟨by simp,okS.1 k0⟩
theorem RW {x:Fg} (k0:x.nm.length<=1000000):Rep H (dFg x) [cJ x.nm,.bool x.init]:=by
 rw [dFg,AS];exact eW.2 ⟨_,Z,Z,okS.2 k0,eW.2 ⟨_,Z,Z,Jt,kG.2 rfl⟩⟩
theorem IQ {x:Lk} {cs:List Value} (h:Rep H (dLk x) cs) :
 cs=[cJ x.fr,cJ x.to,.int .i64 x.lat.toInt]/\x.fr.length<=1000000/\x.to.length<=1000000:=by
 rw [dLk,AS] at h;obtain ⟨_,rfl,_,k0,h⟩:=eW.1 h;obtain ⟨_,rfl,_,k1,h⟩:=eW.1 h;obtain ⟨_,rfl,_,_,h⟩:=eW.1 h;rw [kG] at h;subst h;exact ⟨by simp,okS.1 k0,okS.1 k1⟩
theorem RQ {x:Lk} (k0:x.fr.length<=1000000) (k1:x.to.length<=1000000):Rep H (dLk x) [cJ x.fr,cJ x.to,.int .i64 x.lat.toInt]:=by
 rw [dLk,AS];exact eW.2 ⟨_,Z,Z,okS.2 k0,eW.2 ⟨_,Z,Z,okS.2 k1,eW.2 ⟨_,Z,Z,Jt,kG.2 rfl⟩⟩⟩
theorem AC {k:IntKind} {x:Ft} {cs:List Value} (h:Rep H (dFt k x) cs) :
 ∃ p1 c1 p2 c2 p3 c3,cs=[cJ x.nm,.slice p1 x.flags.length c1,.slice p2 x.links.length c2,.slice p3 x.comps.length c3]/\x.nm.length<=1000000/\Rep H (.seq 2 (x.flags.map dFg)) [.slice p1 x.flags.length c1]/\Rep H (.seq 3 (x.links.map dLk)) [.slice p2 x.links.length c2]/\Rep H (.seq 3 (x.comps.map (dCp k))) [.slice p3 x.comps.length c3]:=by
 rw [dFt,AS] at h;obtain ⟨_,rfl,_,k0,h⟩:=eW.1 h;obtain ⟨p1,c1,_,rfl,k1,h⟩:=oZ.1 h;obtain ⟨p2,c2,_,rfl,k2,h⟩:=oZ.1 h;obtain ⟨p3,c3,_,rfl,k3,h⟩:=oZ.1 h;rw [kG] at h;subst h;exact ⟨p1,c1,p2,c2,p3,c3,by simp,okS.1 k0,(by simpa using k1),(by simpa using k2),(by simpa using k3)⟩
theorem MV {k:IntKind} {x:Ft} (k0:x.nm.length<=1000000) {s1:Value} (k1:Rep H (.seq 2 (x.flags.map dFg)) [s1]) {s2:Value} (k2:Rep H (.seq 3 (x.links.map dLk)) [s2]) {s3:Value} (k3:Rep H (.seq 3 (x.comps.map (dCp k))) [s3]):Rep H (dFt k x) [cJ x.nm,s1,s2,s3]:=by
 rw [dFt,AS];exact eW.2 ⟨_,Z,Z,okS.2 k0,nD.2 ⟨[s1],_,Z,k1,nD.2 ⟨[s2],_,Z,k2,nD.2 ⟨[s3],_,Z,k3,kG.2 rfl⟩⟩⟩⟩
theorem HW {k:IntKind} {x:List Hd} {cs:List Value} (h:Rep H (dVs k x) cs):∃ p c,cs=[.slice p x.length c]/\Rep H (.seq 3 (x.map (dHd k))) [.slice p x.length c]:=by
 rw [dVs] at h;obtain ⟨p,c,rfl,_⟩:=h.sl;rw [aJ] at h|-;exact ⟨p,c,Z,h⟩
theorem tL {x:Str} {cs:List Value} (h:Rep H (lU x) cs):cs=[cJ x]/\x.length<=1000000:=by
 unfold lU Rep at h;exact ⟨h.1,okS.1 h.2.2⟩
theorem bK5 {x:Str} {cs:List Value} (h:Rep H (TR x) cs):cs=[cJ x]:=by
 unfold TR Rep at h;exact h.1
theorem bK4 (x:Str):Rep H (TR x) [cJ x]:=by unfold TR Rep;exact ⟨Z,Z⟩
theorem bX8 {x:Str} (h:x.length<=1000000):Rep H (lU x) [cJ x]:=cV8 rfl (okS.2 h)
end
mutual
def Ex.depth:Ex->Nat
 | .mk _ _ _ args=>Ex.deeps args+1
def Ex.deeps:List Ex->Nat
 | []=>0
 | e::r=>max (Ex.depth e) (Ex.deeps r)
end
variable {k:Nat}
theorem gC {α:Type} {l:List α} (h:k<l.length):l.take (k+1)=l.take k++[l[k]]:=by simp
theorem YI (a b:List Ex):Ex.deeps (a++b)=max (Ex.deeps a) (Ex.deeps b):=by
 induction a with
 | nil=>simp [Ex.deeps]
 | cons e r ih=>simp only [aR,Ex.deeps,ih];omega
theorem aX0 {l:List Ex} (h:k<l.length):Ex.deeps (l.take (k+1))=max (Ex.deeps (l.take k)) (Ex.depth l[k]):=by
 rw [gC h,YI];simp [Ex.deeps]
theorem aW9 (l:List Ex) (k:Nat):Ex.deeps (l.take k)<=Ex.deeps l:=by
 have:=YI (l.take k) (l.drop k);rw [eT] at this;omega
theorem OS {l:List Ex} {e:Ex} (h:e∈l):Ex.depth e<=Ex.deeps l:=by
 induction l with
 | nil=>cases h
 | cons a r ih =>
  simp only [Ex.deeps];rcases bJ.1 h with rfl | h
  ·omega
  ·have:=ih h;omega
theorem cF7 {l:List Ex} (h:k<l.length):Ex.depth l[k]<=Ex.deeps l:=OS (cD h)
theorem sH (op:UInt8) (nm:Str) (n:Int64) (args:List Ex):Ex.depth (.mk op nm n args)=Ex.deeps args+1:=by rw [Ex.depth]
def Sm.kd:Sm->UInt8 | .mk kd _ _ _ _ _=>kd
def Sm.nm:Sm->Str | .mk _ nm _ _ _ _=>nm
def Sm.hd:Sm->Str | .mk _ _ hd _ _ _=>hd
def Sm.ex:Sm->List Ex | .mk _ _ _ ex _ _=>ex
def Sm.th:Sm->List Sm | .mk _ _ _ _ th _=>th
def Sm.el:Sm->List Sm | .mk _ _ _ _ _ el=>el
theorem Sm.lists {C:List Sm->Prop} (h:∀ l,(∀ s∈l,C s.th/\C s.el)->C l):∀ l,C l:=by
 have key:∀ s:Sm,C s.th/\C s.el:=λs=>by
  induction s using Sm.ind with
  | _ kd nm hd ex th el ih1 ih2=>exact ⟨h th λa ha=>ih1 a ha,h el λa ha=>ih2 a ha⟩
 exact λl=>h l λs _=>key s
mutual
def Sm.depth:Sm->Nat
 | .mk _ _ _ _ th el=>max (Sm.deeps th) (Sm.deeps el)+1
def Sm.deeps:List Sm->Nat
 | []=>0
 | e::r=>max (Sm.depth e) (Sm.deeps r)
end
mutual
def Sm.count:Sm->Nat
 | .mk _ _ _ _ th el=>Sm.counts th+Sm.counts el+1
def Sm.counts:List Sm->Nat
 | []=>0
 | e::r=>Sm.count e+Sm.counts r
end
theorem qF (a b:List Sm):Sm.deeps (a++b)=max (Sm.deeps a) (Sm.deeps b):=by
 induction a with
 | nil=>simp [Sm.deeps]
 | cons e r ih=>simp only [aR,Sm.deeps,ih];omega
theorem aJ4 {l:List Sm} (h:k<l.length):Sm.deeps (l.take (k+1))=max (Sm.deeps (l.take k)) (Sm.depth l[k]):=by
 rw [gC h,qF];simp [Sm.deeps]
theorem aJ3 (l:List Sm) (k:Nat):Sm.deeps (l.take k)<=Sm.deeps l:=by
 have:=qF (l.take k) (l.drop k);rw [eT] at this;omega
theorem oD (a b:List Sm):Sm.counts (a++b)=Sm.counts a+Sm.counts b:=by
 induction a with
 | nil=>simp [Sm.counts]
 | cons e r ih=>simp only [aR,Sm.counts,ih];omega
theorem aB7 {l:List Sm} (h:k<l.length):Sm.counts (l.take (k+1))=Sm.counts (l.take k)+Sm.count l[k]:=by
 rw [gC h,oD];simp [Sm.counts]
theorem aB6 (l:List Sm) (k:Nat):Sm.counts (l.take k)<=Sm.counts l:=by
 have:=oD (l.take k) (l.drop k);rw [eT] at this;omega
theorem iG (kd:UInt8) (nm hd:Str) (ex:List Ex) (th el:List Sm):Sm.count (.mk kd nm hd ex th el)=Sm.counts th+Sm.counts el+1:=by rw [Sm.count]
theorem yF (kd:UInt8) (nm hd:Str) (ex:List Ex) (th el:List Sm):Sm.depth (.mk kd nm hd ex th el)=max (Sm.deeps th) (Sm.deeps el)+1:=by rw [Sm.depth]
theorem yG (l:List Sm):l.length<=Sm.counts l:=by
 induction l with
 | nil=>simp
 | cons e r ih =>
  obtain ⟨kd,nm,hd,ex,th,el⟩:=e;simp only [aH,Sm.counts,iG];omega
def rV (c:UInt8):Bool:=(decide (97<=c.toNat) && decide (c.toNat<=122)) || (decide (65<=c.toNat) && decide (c.toNat<=90))
def kK (c:UInt8):Bool:=decide (48<=c.toNat) && decide (c.toNat<=57)
def kY (c:UInt8):Bool:=rV c || kK c || decide (c.toNat=95)
def words:List Str:=[[97,102,116,101,114],[97,108,119,97,121,115],[97,110,100],[97,114,114,105,118,101,115],[98,111,111,108],[99,111,109,112,111,110,101,110,116],[99,111,117,110,116],[100,101,108,101,116,101],[100,111],[101,108,115,101],[101,120,105,115,116,115],[102,97,108,115,101],[102,101,116,99,104],[102,108,97,103],[102,108,101,101,116],[102,111,114,97,108,108],[104,97,115],[105,102],[105,109,112,108,105,101,115],[105,110],[105,110,116],[108,97,116,101,110,99,121],[108,105,110,107],[110,111,116],[110,111,119],[111,110],[111,110,99,101],[111,114],[112,114,101,118,105,111,117,115],[115,101,110,100],[115,105,110,99,101],[115,105,122,101],[115,116,111,112],[115,116,111,114,101],[116,97,98,108,101],[116,114,117,101],[118,97,114],[118,101,114,115,105,111,110],[119,104,105,108,101]]
def symbols:List Str:=[[46,46],[61,61],[33,61],[60,61],[62,61],[45,62],[123],[125],[40],[41],[91],[93],[44],[59],[58],[46],[61],[60],[62],[43],[45],[42],[47],[37],[95]]
def pre (q:UInt8->Bool) (l:Str):Nat:=(l.takeWhile q).length
theorem yM (q:UInt8->Bool) (l:Str):pre q l<=l.length:=by
 unfold pre;induction l with
 | nil=>simp
 | cons a r ih=>rw [fW];split <;> simp;omega
theorem uY {q:UInt8->Bool}:∀ {l:Str} {k:Nat} (h:k<l.length),k<=pre q l->q l[k]=true->k+1<=pre q l
 | [],k,h,_,_=>by simp at h
 | a::r,0,h,_,hq=>by
  unfold pre;rw [fW];simp at hq;simp [hq]
 | a::r,k+1,h,hk,hq=>by
  unfold pre at hk|-;rw [fW] at hk|-;cases ha:q a with
  | false=>rw [ha] at hk;simp at hk
  | true =>
   rw [ha] at hk;simp at hk hq;have:=uY (l:=r) (k:=k) (by simpa using h) hk hq;unfold pre at this;simp;omega
theorem CK {q:UInt8->Bool}:∀ {l:Str} {k:Nat} (h:k<l.length),k<=pre q l->q l[k]=false->k=pre q l
 | [],k,h,_,_=>by simp at h
 | a::r,0,h,_,hq=>by
  unfold pre;rw [fW];simp at hq;simp [hq]
 | a::r,k+1,h,hk,hq=>by
  unfold pre at hk|-;rw [fW] at hk|-;cases ha:q a with
  | false=>rw [ha] at hk;simp at hk
  | true =>
   rw [ha] at hk;simp at hk hq;have:=CK (l:=r) (k:=k) (by simpa using h) hk hq;unfold pre at this;simp;omega
def bK (l:Str):UInt8 × Nat :=
 let c:=l.headD 0
 if rV c then
  if words.contains (l.take (pre kY l)) then (2,pre kY l) else if pre kY l<=12 then (1,pre kY l) else (5,l.length)
 else if kK c then
  if pre kK l=1\/c≠48 then (3,pre kK l) else (5,l.length)
 else match symbols.find? (λx=>x.isPrefixOf l) with
  | some x=>(4,x.length)
  | none=>(5,l.length)
def fK (l:Str):Bool:=decide (l≠[]) && (bK l).1 == 1 && decide ((bK l).2=l.length)
def DI (l m:Str):Bool:=decide (m.length<=l.length) && decide (l.take m.length=m)
theorem HD (l m:Str):DI l m=m.isPrefixOf l:=by
 rw [bD];simp only [DI,aF,aB,kC]
 constructor
 ·rintro ⟨_,h⟩;have:=eT m.length l;rw [h] at this;exact ⟨_,this⟩
 ·rintro ⟨t,rfl⟩;simp
theorem oO {α:Type} {l:List α} (h:k<l.length) (d:α):l.getD k d=l[k]:=by simp [h]
theorem RR {α β:Type} {f:α->β} {l:List α} (h:k<l.length) (d:α):(l.map f)[k]? = some (f (l.getD k d)):=by simp [h]
structure Shp where
 n:Nat
 nm:Bool
 lv:Nat
 tx:Str
structure Frm where
 nm:Bool
 hd:Bool
 lo:Nat
 hi:Nat
 th:Bool
 el:Bool
def shapes:List Shp:=[⟨0,false,0,[]⟩,⟨0,false,7,[]⟩,⟨0,false,7,[116,114,117,101]⟩,⟨0,false,7,[102,97,108,115,101]⟩,⟨0,false,7,[110,111,119]⟩,⟨0,true,7,[]⟩,⟨1,true,7,[]⟩,⟨1,true,7,[104,97,115,32]⟩,⟨0,true,7,[115,105,122,101,32]⟩,⟨1,false,6,[45]⟩,⟨1,false,6,[110,111,116,32]⟩,⟨2,false,5,[32,42,32]⟩,⟨2,false,5,[32,47,32]⟩,⟨2,false,5,[32,37,32]⟩,⟨2,false,4,[32,43,32]⟩,⟨2,false,4,[32,45,32]⟩,⟨2,false,3,[32,61,61,32]⟩,⟨2,false,3,[32,33,61,32]⟩,⟨2,false,3,[32,60,32]⟩,⟨2,false,3,[32,60,61,32]⟩,⟨2,false,3,[32,62,32]⟩,⟨2,false,3,[32,62,61,32]⟩,⟨2,false,2,[32,97,110,100,32]⟩,⟨2,false,1,[32,111,114,32]⟩]
def forms:List Frm:=[⟨false,false,0,0,false,false⟩,⟨true,false,1,1,false,false⟩,⟨true,false,2,2,false,false⟩,⟨true,false,1,1,false,false⟩,⟨false,false,1,1,true,true⟩,⟨false,false,1,1,true,false⟩,⟨true,true,0,4,false,false⟩,⟨false,true,1,5,false,false⟩,⟨false,false,2,2,false,true⟩,⟨true,false,1,1,false,true⟩,⟨false,false,0,0,false,false⟩]
def zD (s:Shp):List Value:=[iN s.n,.bool s.nm,iN s.lv,cJ s.tx]
def JW (s:Frm):List Value:=[.bool s.nm,.bool s.hd,iN s.lo,iN s.hi,.bool s.th,.bool s.el]
def wJ (op:UInt8):Bool:=decide (1<=op.toNat) && decide (op.toNat<=23)
def uI (op:UInt8):Bool:=decide (1<=op.toNat) && decide (op.toNat<=10)
def cW (op:UInt8):Shp:=if wJ op then shapes.getD op.toNat ⟨0,false,0,[]⟩ else ⟨0,false,0,[]⟩
def fM (op:UInt8):Frm:=if uI op then forms.getD op.toNat ⟨false,false,0,0,false,false⟩ else ⟨false,false,0,0,false,false⟩
theorem aE2 {α:Type} {f:α->List Value} {z:Nat} (hz:∀ a,(f a).length=z):∀ {l:List α} {i:Nat} (d:α),i<l.length->∀ (j:Nat) u,(f (l.getD i d))[j]? = some u->(l.flatMap f)[i * z+j]? = some u
 | [],i,d,h,j,u,e=>by simp at h
 | a::r,0,d,h,j,u,e=>by
  simp only [List.flatMap_cons,tT,fV];simp at e;rw [List.getElem?_append_left (List.getElem?_eq_some_iff.1 e).1];exact e
 | a::r,i+1,d,h,j,u,e=>by
  simp only [List.flatMap_cons];rw [List.getElem?_append_right (by rw [hz,jT];omega),hz,show (i+1) * z+j - z=i * z+j by rw [jT];omega];exact aE2 hz d (by simpa using h) j u (by simpa using e)
structure Gl (H:Hp):Prop where
 shapes:lB H 0 0 (shapes.flatMap zD)
 forms:lB H 3 0 (forms.flatMap JW)
 words:lB H 2 0 (words.map cJ)
 symbols:lB H 1 0 (symbols.map cJ)
variable {H H':Hp}
theorem Gl.up (g:Gl H) (u:Up H H'):Gl H':=⟨g.shapes.up u,g.forms.up u,g.words.up u,g.symbols.up u⟩
mutual
def Ex.all (q:Ex->Bool):Ex->Bool
 | .mk op nm n args=>q (.mk op nm n args) && Ex.alls q args
def Ex.alls (q:Ex->Bool):List Ex->Bool
 | []=>true
 | e::r=>Ex.all q e && Ex.alls q r
end
theorem aP7 (q:Ex->Bool) (a b:List Ex):Ex.alls q (a++b)=(Ex.alls q a && Ex.alls q b):=by
 induction a with
 | nil=>simp [Ex.alls]
 | cons e r ih=>simp only [aR,Ex.alls,ih,fS]
theorem OY {q:Ex->Bool} {l:List Ex} (h:k<l.length):Ex.alls q (l.take (k+1))=(Ex.alls q (l.take k) && Ex.all q l[k]):=by
 rw [gC h,aP7];simp [Ex.alls]
theorem FE {q:Ex->Bool} {l:List Ex} (h:k<l.length) (hb:Ex.all q l[k]=false):Ex.alls q l=false:=by
 have h1:=aP7 q (l.take (k+1)) (l.drop (k+1));rw [eT,OY h,hb] at h1;simpa using h1
theorem nK (q:Ex->Bool) (op:UInt8) (nm:Str) (n:Int64) (args:List Ex):Ex.all q (.mk op nm n args)=(q (.mk op nm n args) && Ex.alls q args):=by rw [Ex.all]
mutual
def Sm.all (q:Sm->Bool):Sm->Bool
 | .mk kd nm hd ex th el=>q (.mk kd nm hd ex th el) && Sm.alls q th && Sm.alls q el
def Sm.alls (q:Sm->Bool):List Sm->Bool
 | []=>true
 | e::r=>Sm.all q e && Sm.alls q r
end
theorem sC (q:Sm->Bool) (a b:List Sm):Sm.alls q (a++b)=(Sm.alls q a && Sm.alls q b):=by
 induction a with
 | nil=>simp [Sm.alls]
 | cons e r ih=>simp only [aR,Sm.alls,ih,fS]
theorem SM {q:Sm->Bool} {l:List Sm} (h:k<l.length):Sm.alls q (l.take (k+1))=(Sm.alls q (l.take k) && Sm.all q l[k]):=by
 rw [gC h,sC];simp [Sm.alls]
theorem XI {q:Sm->Bool} {l:List Sm} (h:k<l.length) (hb:Sm.all q l[k]=false):Sm.alls q l=false:=by
 have h1:=sC q (l.take (k+1)) (l.drop (k+1));rw [eT,SM h,hb] at h1;simpa using h1
theorem oM (q:Sm->Bool) (kd:UInt8) (nm hd:Str) (ex:List Ex) (th el:List Sm):Sm.all q (.mk kd nm hd ex th el)=(q (.mk kd nm hd ex th el) && Sm.alls q th && Sm.alls q el):=by rw [Sm.all]
theorem aJ6 {q:Sm->Bool} {l:List Sm} (h:k<l.length) (ha:Sm.alls q l=true):Sm.all q l[k]=true:=by
 cases hb:Sm.all q l[k] with
 | true=>rfl
 | false=>rw [XI h hb] at ha;cases ha
def SW:Sm->Bool
 | .mk _ _ _ ex _ _=>ex.all λx=>decide (x.depth<=1000000)
def wS:Ex->Bool
 | .mk op nm _ _=>!(cW op).nm || fK nm
def lP:Ex->Bool
 | .mk op nm n args=>wJ op && decide (args.length=(cW op).n) && ((cW op).nm || decide (nm=[])) && (if op=1 then decide (0<=n.toInt) else decide (n.toInt=0))
def pN (e:Ex):Nat:=if 8<e.depth then 3 else if Ex.all wS e=false then 9 else if Ex.all lP e=false then 6 else 0
def vB:Sm->Bool
 | .mk kd nm hd ex _ _=>(!(fM kd).nm || fK nm) && (!(fM kd).hd || fK hd) && Ex.alls wS ex
def BE:Sm->Bool
 | .mk kd nm hd ex th el=>uI kd && decide ((fM kd).lo<=ex.length) && decide (ex.length<=(fM kd).hi) && ((fM kd).nm || decide (nm=[])) && ((fM kd).hd || decide (hd=[])) &&
  ((fM kd).th || decide (th.length=0)) && ((fM kd).el || decide (el.length=0)) && Ex.alls lP ex
theorem rY (kd:UInt8) (nm hd:Str) (ex:List Ex) (th el:List Sm):BE (.mk kd nm hd ex th el) =
 (!(!uI kd || decide ((ex.length:Int)<((fM kd).lo:Nat)) || decide (((fM kd).hi:Nat)<(ex.length:Int))) && !((!(fM kd).nm && decide (¬ nm=[])) || (!(fM kd).hd && decide (¬ hd=[]))) &&
  !((!(fM kd).th && decide ((0:Int)<th.length)) || (!(fM kd).el && decide ((0:Int)<el.length))) && Ex.alls lP ex):=by
 have h1:decide ((ex.length:Int)<((fM kd).lo:Nat))=!decide ((fM kd).lo<=ex.length):=by rw [bD];simp
 have h2:decide (((fM kd).hi:Nat)<(ex.length:Int))=!decide (ex.length<=(fM kd).hi):=by rw [bD];simp
 have h3:decide ((0:Int)<th.length)=!decide (th.length=0):=by rw [bD];simp only [aB,dY,bM];omega
 have h4:decide ((0:Int)<el.length)=!decide (el.length=0):=by rw [bD];simp only [aB,dY,bM];omega
 have h5:decide (¬ nm=[])=!decide (nm=[]):=by simp
 have h6:decide (¬ hd=[])=!decide (hd=[]):=by simp
 rw [BE,h1,h2,h3,h4,h5,h6];generalize decide ((fM kd).lo<=ex.length)=a1;generalize decide (ex.length<=(fM kd).hi)=a2;generalize decide (th.length=0)=a3;generalize decide (el.length=0)=a4;generalize decide (nm=[])=a5;generalize decide (hd=[])=a6;cases uI kd <;> cases a1 <;> cases a2 <;> cases (fM kd).nm <;> cases a5 <;> cases (fM kd).hd <;> cases a6 <;> cases (fM kd).th <;> cases a3 <;> cases (fM kd).el <;> cases a4 <;> simp
def GQ:Sm->Bool
 | .mk _ _ _ ex _ _=>ex.all λx=>decide (x.depth<=8)
def DH (h:Hd):Bool:=!(decide (4<h.ps.length) || decide (40<Sm.counts h.body) || decide (8<Sm.deeps h.body)) && Sm.alls GQ h.body
def BU (h:Hd):Bool:=fK h.nm && h.ps.all fK && Sm.alls vB h.body
def HG (h:Hd):Bool:=Sm.alls BE h.body
def okH (h:Hd):Bool:=decide (Sm.counts h.body<=1000000) && decide (Sm.deeps h.body<=1000000) && Sm.alls SW h.body
def evH (q:Hd->Bool) (f:Ft):Bool:=f.comps.all λc=>c.vers.all λv=>v.all q
def vS (v:Vr):Bool:=if v.ty=1 then decide (v.init.toInt≠-9223372036854775808) else if v.ty=2 then decide (v.init.toInt=0\/v.init.toInt=1) else if v.ty=3 then decide (v.init.toInt=0) else false
theorem kI {α:Type} {q:α->Bool} {l:List α} (h:k<l.length):(l.take (k+1)).all q=((l.take k).all q && q l[k]):=by
 rw [gC h,List.all_append];simp
theorem jF {α:Type} {q:α->Bool} {l:List α} (h:k<l.length) (hb:q l[k]=false):l.all q=false:=by
 rw [List.all_eq_false];exact ⟨l[k],cD h,by simp [hb]⟩
theorem DP {α:Type} {q:α->Bool} {l:List α} (h:k<l.length) (ha:l.all q=true):q l[k]=true:=aP.1 ha _ (cD h)
def FC (q:Hd->Bool) (c:Cp):Bool:=c.vers.all λv=>v.all q
theorem HM (q:Hd->Bool) (f:Ft):evH q f=f.comps.all (FC q):=rfl
def QU (f:Ft):Bool:=fK f.nm && f.flags.all (λx=>fK x.nm) && f.links.all (λx=>fK x.fr && fK x.to) && f.comps.all (λc=>fK c.nm && c.vars.all λv=>fK v.nm) && evH BU f
def lkB (x:Lk):Bool:=decide (1<=x.lat.toInt) && decide (x.lat.toInt<=50)
def FA (f:Ft):Bool:=f.links.all lkB && f.comps.all (λc=>c.vars.all vS) && evH HG f
def aI8 (ks:List Str) (h:Hd):List Str:=WE ks h.nm
def JR (ks:List Str) (v:List Hd):List Str:=v.foldl aI8 ks
def RO (c:Cp):List Str:=c.vers.foldl JR []
theorem YB {α β:Type} {f:β->α->β} {a:β} {l:List α} (h:k<l.length):(l.take (k+1)).foldl f a=f ((l.take k).foldl f a) l[k]:=by
 rw [gC h,rJ];rfl
def tB (f:Ft):Bool:=decide (1<=f.comps.length) && decide (f.comps.length<=8) && decide (f.flags.length<=8) && decide (f.links.length<=64)
def BP (c:Cp):Bool:=decide (c.vars.length<=8) && decide (1<=c.vers.length) && decide (c.vers.length<=3) && decide ((RO c).length<=8)
def uW (f:Ft):Bool:=tB f && (f.comps.all BP && evH DH f)
def kA (f:Ft):Nat:=if uW f=false then 3 else if QU f=false then 9 else if FA f=false then 6 else 0
def opT (least:Nat) (x:Nat × Str):Str:=if x.1<least then [40]++x.2++[41] else x.2
def JO (lv:Nat):Nat:=if lv=3 then lv+1 else lv
def txt (op:UInt8) (nm:Str) (n:Int64) (ls:List (Nat × Str)):Str :=
 if op=1 then Lib.itoa n.toInt
 else if op=5\/op=8 then (cW op).tx++nm
 else if op=6\/op=7 then (cW op).tx++nm++[91]++(ls.getD 0 (0,[])).2++[93]
 else if op=9\/op=10 then (cW op).tx++opT (cW op).lv (ls.getD 0 (0,[]))
 else if (cW op).n=0 then (cW op).tx
 else opT (JO (cW op).lv) (ls.getD 0 (0,[]))++(cW op).tx++opT ((cW op).lv+1) (ls.getD 1 (0,[]))
mutual
def Ex.text:Ex->Str
 | .mk op nm n args=>txt op nm n (Ex.texts args)
def Ex.texts:List Ex->List (Nat × Str)
 | []=>[]
 | e::r=>((cW e.op).lv,Ex.text e)::Ex.texts r
end
theorem WX:∀ l:List Ex,Ex.texts l=l.map λe=>((cW e.op).lv,Ex.text e)
 | []=>rfl
 | e::r=>by rw [Ex.texts,WX r];rfl
theorem gN (op:UInt8) (nm:Str) (n:Int64) (args:List Ex):Ex.text (.mk op nm n args)=txt op nm n (args.map λe=>((cW e.op).lv,Ex.text e)):=by rw [Ex.text,WX]
theorem jM {α β:Type} {f:α->β} {l:List α} (h:k<l.length) (d:β):(l.map f).getD k d=f l[k]:=by simp [h]
theorem bY5 {op:UInt8} (h:wJ op=true):cW op=shapes.getD op.toNat ⟨0,false,0,[]⟩:=by rw [cW,h];rfl
theorem cL0 {op:UInt8} (h:wJ op=true) (h6:op≠6) (h7:op≠7) (h9:op≠9) (h10:op≠10):(cW op).n=0\/(cW op).n=2:=by
 rw [bY5 h];simp only [wJ,aF,aB] at h;have e:∀ v:UInt8,op≠v->op.toNat≠v.toNat:=λv hv e=>hv (bT.1 e);have key:∀ i∈List.range 24,i=6\/i=7\/i=9\/i=10\/(shapes.getD i ⟨0,false,0,[]⟩).n=0\/(shapes.getD i ⟨0,false,0,[]⟩).n=2:=by decide
 have h1:op.toNat≠6:=e 6 h6;have h2:op.toNat≠7:=e 7 h7;have h3:op.toNat≠9:=e 9 h9;have h4:op.toNat≠10:=e 10 h10;have:=key op.toNat (bQ.2 (by omega));omega
theorem bY6 (op:UInt8):(cW op).lv<=7:=by
 unfold cW
 split
 ·rename_i h;simp only [wJ,aF,aB] at h;have key:∀ i∈List.range 24,(shapes.getD i ⟨0,false,0,[]⟩).lv<=7:=by decide
  exact key _ (bQ.2 (by omega))
 ·simp
theorem EP (op:UInt8):(cW op).tx.length<=10:=by
 unfold cW
 split
 ·rename_i h;simp only [wJ,aF,aB] at h;have key:∀ i∈List.range 24,(shapes.getD i ⟨0,false,0,[]⟩).tx.length<=10:=by decide
  exact key _ (bQ.2 (by omega))
 ·simp
theorem BT (k:Nat) (x:Nat × Str):x.2.length<=(opT k x).length/\(opT k x).length<=x.2.length+2:=by unfold opT;split <;> simp <;> omega
def spT:Nat->Str
 | 0=>[]
 | k+1=>spT k++[32,32]
def kB (ind:Nat) (parts:List Str):Str:=spT ind++parts.flatten++[10]
theorem aB5 (k:Nat):(spT k).length=2 * k:=by
 induction k with
 | zero=>rfl
 | succ k ih=>simp [spT,ih];omega
theorem YD {l:List Str} (h:k<l.length):(l.take (k+1)).flatten=(l.take k).flatten++l[k]:=by
 rw [gC h,tJ];simp
theorem ED (l:List Str) (k:Nat):(l.take k).flatten.length<=l.flatten.length:=by
 have:=congrArg (λm:List Str=>m.flatten.length) (eT k l);simp only [tJ,aD] at this;omega
def wH (l:List Str):Str:=Lib.join l [44,32]
def AW (n:Nat) (first:Str) (noE:Bool) (E:Str):Str:=if noE then kB n [first,[59]] else kB n [first,[32,101,108,115,101,32,123]]++E++kB n [[125]]
def stT (n:Nat) (kd:UInt8) (nm hd:Str) (es:List Str) (T:Str) (noE:Bool) (E:Str):Str :=
 if kd=1 then kB n [nm,[32,61,32],es.getD 0 [],[59]]
 else if kd=2 then kB n [nm,[91],es.getD 0 [],[93,32,61,32],es.getD 1 [],[59]]
 else if kd=3 then kB n [[100,101,108,101,116,101,32],nm,[91],es.getD 0 [],[93,59]]
 else if kd=4 then kB n [[105,102,32],es.getD 0 [],[32,123]]++T++(if noE then [] else kB n [[125,32,101,108,115,101,32,123]]++E)++kB n [[125]]
 else if kd=5 then kB n [[119,104,105,108,101,32],es.getD 0 [],[32,123]]++T++kB n [[125]]
 else if kd=6 then kB n [[115,101,110,100,32],nm,[46],hd,[40],wH es,[41,59]]
 else if kd=7 then kB n [[97,102,116,101,114,32],es.getD 0 [],[32,100,111,32],hd,[40],wH (es.drop 1),[41,59]]
 else if kd=8 then AW n ([115,116,111,114,101,32]++es.getD 0 []++[32,61,32]++es.getD 1 []) noE E
 else if kd=9 then AW n ([102,101,116,99,104,32]++nm++[32,61,32]++es.getD 0 []) noE E
 else if kd=10 then kB n [[115,116,111,112,59]]
 else []
mutual
def Sm.text (n:Nat):Sm->Str
 | .mk kd nm hd ex th el=>stT n kd nm hd (ex.map Ex.text) (Sm.texts (n+1) th) (decide (el.length=0)) (Sm.texts (n+1) el)
def Sm.texts (n:Nat):List Sm->Str
 | []=>[]
 | s::r=>Sm.text n s++Sm.texts n r
end
theorem bW (n:Nat) (kd:UInt8) (nm hd:Str) (ex:List Ex) (th el:List Sm):Sm.text n (.mk kd nm hd ex th el)=stT n kd nm hd (ex.map Ex.text) (Sm.texts (n+1) th) (decide (el.length=0)) (Sm.texts (n+1) el):=by rw [Sm.text]
theorem SI (n:Nat) (a b:List Sm):Sm.texts n (a++b)=Sm.texts n a++Sm.texts n b:=by
 induction a with
 | nil=>simp [Sm.texts]
 | cons e r ih=>simp only [aR,Sm.texts,ih,aQ]
variable {n:Nat}
theorem PV {l:List Sm} (h:k<l.length):Sm.texts n (l.take (k+1))=Sm.texts n (l.take k)++Sm.text n l[k]:=by
 rw [gC h,SI];simp [Sm.texts]
theorem aI7 (n:Nat) (l:List Sm) (k:Nat):(Sm.texts n (l.take k)).length<=(Sm.texts n l).length:=by
 have:=SI n (l.take k) (l.drop k);rw [eT] at this;rw [this,aD];omega
def hdT (n:Nat) (h:Hd):Str:=kB n [[111,110,32],h.nm,[40],wH h.ps,[41,32,123]]++Sm.texts (n+1) h.body++kB n [[125]]
def KZ (n:Nat) (l:List Hd):Str:=(l.map (hdT n)).flatten
def QJ (b:Bool):Str:=if b then [116,114,117,101] else [102,97,108,115,101]
def vrT (n:Nat) (v:Vr):Str:=if v.ty=1 then kB n [[118,97,114,32],v.nm,[58,32,105,110,116,32,61,32],Lib.itoa v.init.toInt,[59]] else if v.ty=2 then kB n [[118,97,114,32],v.nm,[58,32,98,111,111,108,32,61,32],QJ (decide (v.init.toInt=1)),[59]] else if v.ty=3 then kB n [[118,97,114,32],v.nm,[58,32,116,97,98,108,101,59]] else []
def vsT (n:Nat) (i:Nat) (v:List Hd):Str:=if i=0 then KZ n v else kB n [[118,101,114,115,105,111,110,32],Lib.itoa ((i+1:Nat):Int),[32,123]]++KZ (n+1) v++kB n [[125]]
def DG (n:Nat):Nat->List (List Hd)->Str
 | _,[]=>[]
 | i,v::r=>vsT n i v++DG n (i+1) r
def cpT (c:Cp):Str:=kB 1 [[99,111,109,112,111,110,101,110,116,32],c.nm,[32,123]]++(c.vars.map (vrT 2)).flatten++DG 2 0 c.vers++kB 1 [[125]]
def fgT (f:Fg):Str:=kB 1 [[102,108,97,103,32],f.nm,[32,61,32],QJ f.init,[59]]
def lkT (l:Lk):Str:=kB 1 [[108,105,110,107,32],l.fr,[32,45,62,32],l.to,[32,108,97,116,101,110,99,121,32],Lib.itoa l.lat.toInt,[59]]
def ftT (f:Ft):Str:=kB 0 [[102,108,101,101,116,32],f.nm,[32,123]]++(f.flags.map fgT).flatten++(f.links.map lkT).flatten++(f.comps.map cpT).flatten++kB 0 [[125]]
theorem oT {α:Type} {g:α->Str} {l:List α} (h:k<l.length):((l.take (k+1)).map g).flatten=((l.take k).map g).flatten++g l[k]:=by
 rw [gC h,aV,tJ,dT,jD,eY,jS,aX]
theorem CL {α:Type} {g:α->Str} (l:List α) (k:Nat):((l.take k).map g).flatten.length<=(l.map g).flatten.length:=by
 have:=ED (l.map g) k
 rwa [<-qE] at this
theorem RZ (n:Nat):∀ (a:List (List Hd)) (i:Nat) (b:List (List Hd)),DG n i (a++b)=DG n i a++DG n (i+a.length) b
 | [],i,b=>by simp [DG]
 | v::r,i,b=>by
  simp only [aR,DG,RZ n r (i+1) b,aQ,aH];rw [show i+1+r.length=i+(r.length+1) by omega]
theorem NT {l:List (List Hd)} (h:k<l.length):DG n 0 (l.take (k+1))=DG n 0 (l.take k)++vsT n k l[k]:=by
 rw [gC h,RZ,dJ,iA (by omega)];simp [DG]
theorem bJ0 (n:Nat) (l:List (List Hd)) (k:Nat):(DG n 0 (l.take k)).length<=(DG n 0 l).length:=by
 have:=RZ n (l.take k) 0 (l.drop k);rw [eT] at this;rw [this,aD];omega
theorem MQ (n:Int64):(Lib.itoa n.toInt).length<=21:=Lib.itoa_length_le n.toInt (by have:=n.le_toInt;omega) (by have:=n.toInt_lt;omega)
theorem tO {l:Str} (h:fK l=true):l.length<=12:=by
 simp only [fK,aF,aB,fC] at h;obtain ⟨⟨_,h1⟩,h2⟩:=h;unfold bK at h1 h2;dsimp only at h1 h2
 split at h1
 ·split at h1
  ·simp at h1
  ·split at h1
   ·rename_i a b c;simp only [a,b,c,aN,aC,aL] at h2;omega
   ·simp at h1
 ·split at h1
  ·split at h1 <;> simp at h1
  ·split at h1 <;> simp at h1
theorem cJ8 (op:UInt8) (nm:Str) (n:Int64) (ls:List (Nat × Str)) (A:Nat) (hA:24<=A) (hn:nm.length<=12) (h:∀ x∈ls,x.2.length<=A):(txt op nm n ls).length<=3 * A:=by
 have hg:∀ i,(ls.getD i (0,[])).2.length<=A:=λi=>by
  rw [List.getD_eq_getElem?_getD];cases e:ls[i]? with
  | none=>simp
  | some x=>simpa using h x (Al_List_mem_of_getElem? e)
 have h0:=hg 0;have h1:=hg 1;have ht:=EP op;have hi:=MQ n;have o1:=BT (cW op).lv (ls.getD 0 (0,[]));have o2:=BT (JO (cW op).lv) (ls.getD 0 (0,[]));have o3:=BT ((cW op).lv+1) (ls.getD 1 (0,[]));unfold txt
 split
 ·omega
 split
 ·simp only [aD];omega
 split
 ·simp only [aD,aH,aS];omega
 split
 ·simp only [aD];omega
 split
 ·omega
 ·simp only [aD];omega
theorem iV {q:Ex->Bool}:∀ {l:List Ex} {a:Ex},a∈l->Ex.alls q l=true->Ex.all q a=true
 | [],a,h,_=>by cases h
 | b::r,a,h,k=>by
  rw [Ex.alls,aF] at k;rcases bJ.1 h with rfl | h
  ·exact k.1
  ·exact iV h k.2
theorem cB2 {op:UInt8} {nm:Str} {n:Int64} {args:List Ex} (h1:wS (.mk op nm n args)=true) (h2:lP (.mk op nm n args)=true):nm.length<=12:=by
 simp only [wS,cO,dY] at h1;simp only [lP,aF,cO,aB] at h2;rcases h1 with h1 | h1
 ·rcases h2.1.2 with h2 | h2
  ·rw [h1] at h2;cases h2
  ·simp [h2]
 ·exact tO h1
theorem bX4 (e:Ex):∀ d,e.depth<=d->Ex.all wS e=true->Ex.all lP e=true->e.text.length<=24 * 3 ^ d:=by
 induction e using Ex.ind with | _ op nm n args ih
 intro d hd h1 h2;rw [sH] at hd;rw [nK,aF] at h1 h2;obtain ⟨d,rfl⟩:∃ k,d=k+1:=⟨d - 1,by omega⟩;rw [gN,Nat.pow_succ,show 24 * (3 ^ d * 3)=3 * (24 * 3 ^ d) by omega];have hp:0<3 ^ d:=Nat.pow_pos (by omega);refine cJ8 _ _ _ _ _ (by omega) (cB2 h1.1 h2.1) λx hx=>?_;obtain ⟨a,ha,rfl⟩:=jC.1 hx;have:=OS ha;exact ih a ha d (by omega) (iV ha h1.2) (iV ha h2.2)
theorem bJ9 {e:Ex} (h:e.depth<=8) (h1:Ex.all wS e=true) (h2:Ex.all lP e=true):e.text.length<=157464:=bX4 e 8 h h1 h2
def bJ5:Sm->Bool
 | .mk kd nm hd ex th el=>BE (.mk kd nm hd ex th el) && ex.all λx=>decide (x.text.length<=1000000000)
structure Nd where
 op:UInt8
 nm:UInt8
 ct:UInt8
 odd:Bool
 n:Int64
variable {z off c:Nat}
theorem GV {b lo:Nat} {ds:List D} (h:Rep H (.seq z ds) [.slice (some ⟨b,off,none⟩) n c]) (hl:lo<=n):Rep H (.seq z (ds.drop lo)) [.slice (some (if c=lo then ⟨b,off,none⟩ else ⟨b,off+lo * z,none⟩)) (n - lo) (c - lo)]:=by
 have hn:=h.len
 by_cases hc:c=lo
 ·rw [aE hc];rw [show ds.drop lo=[] from iC (by omega),show n - lo=0 by omega];exact .empty (by omega)
 ·rw [aA hc];unfold Rep at h;obtain ⟨p',c',h1,h2,h3,h4⟩:=h;injection h1 with h1 _
  injection h1 with h5 h6 h7
  subst h5 h7;rcases h4 with h4 | ⟨b',off',cs,h8,h9,h10⟩
  ·subst h4;rw [List.drop_nil,show n - lo=0 by simp only [aS] at h6;omega];exact .empty (by omega)
  ·cases h8;exact .mk (h9.drop (lo * z)) (h10.drop lo) (by rw [dK];omega) (by omega) (by omega)
def oS (e:Ex):Bool:=decide (e.args.length<=3)
theorem zG (op:UInt8) (nm:Str) (n:Int64) (args:List Ex):oS (.mk op nm n args)=decide (args.length<=3):=rfl
def oV (c:UInt8):Bool:=decide (c=32) || decide (c=9) || decide (c=10) || decide (c=13)
def fZ:Bool->Str->Str
 | _,[]=>[]
 | true,c::r=>if c=10 then fZ false r else fZ true r
 | false,c::r=>if oV c then fZ false r else if c=47/\r.head? = some 47 then fZ true r else c::r
theorem yE (b:Bool):fZ b []=[]:=by cases b <;> rfl
variable {r:Str}
theorem XF {c:UInt8} (h:¬ c=10):fZ true (c::r)=fZ true r:=by rw [fZ,aA h]
theorem XE (r:Str):fZ true (10::r)=fZ false (10::r):=by rw [fZ,aE rfl,fZ,aE (by decide)]
theorem NY {c:UInt8} (h:oV c=true):fZ false (c::r)=fZ false r:=by rw [fZ,aE h]
theorem XD (r:Str):fZ false (47::47::r)=fZ true (47::47::r):=by simp [fZ,oV]
theorem xS {c:UInt8} (h:oV c=false) (h2:¬ (c=47/\r.head? = some 47)):fZ false (c::r)=c::r:=by rw [fZ,aA (by simp [h]),aA h2]
theorem BZ:∀ (l:Str) (b:Bool),∃ p,l=p++fZ b l
 | [],b=>⟨[],by rw [yE];rfl⟩
 | c::r,true=>by
  rw [fZ]
  split
  ·obtain ⟨p,h⟩:=BZ r false;exact ⟨c::p,by rw [aR,<-h]⟩
  ·obtain ⟨p,h⟩:=BZ r true;exact ⟨c::p,by rw [aR,<-h]⟩
 | c::r,false=>by
  rw [fZ]
  split
  ·obtain ⟨p,h⟩:=BZ r false;exact ⟨c::p,by rw [aR,<-h]⟩
  ·split
   ·obtain ⟨p,h⟩:=BZ r true;exact ⟨c::p,by rw [aR,<-h]⟩
   ·exact ⟨[],Z⟩
theorem qQ (b:Bool) (l:Str):(fZ b l).length<=l.length:=by
 obtain ⟨p,h⟩:=BZ l b;have:=congrArg List.length h;rw [aD] at this;omega
theorem KS (b:Bool) (l:Str):l.drop (l.length - (fZ b l).length)=fZ b l:=by
 obtain ⟨p,h⟩:=BZ l b;generalize fZ b l=q at h;subst h;rw [show (p++q).length - q.length=p.length by rw [aD];omega,List.drop_left]
theorem zE {l:Str} (h:l≠[]):1<=(bK l).2/\(bK l).2<=l.length:=by
 match l,h with
 | c::r,_ =>
  have hp:∀ q:UInt8->Bool,q c=true->1<=pre q (c::r):=λq hq=>by unfold pre;rw [fW,hq];simp
  cases h1:rV c with
  | true =>
   have h2:=hp kY (by simp [kY,h1]);have h3:=yM kY (c::r);cases h4:words.contains ((c::r).take (pre kY (c::r))) with
   | true=>simp only [bK,aG,h1,h4,aN];exact ⟨h2,h3⟩
   | false =>
    by_cases h5:pre kY (c::r)<=12
    ·simp only [bK,aG,h1,h4,h5,aN,aC,aL];exact ⟨h2,h3⟩
    ·simp only [bK,aG,h1,h4,h5,aN,aC,aL];simp
  | false =>
   cases h4:kK c with
   | true =>
    have h2:=hp kK h4;have h3:=yM kK (c::r)
    by_cases h5:pre kK (c::r)=1\/c≠48
    ·simp only [bK,aG,h1,h4,h5,aN,aC,aL];exact ⟨h2,h3⟩
    ·simp only [bK,aG,h1,h4,h5,aN,aC,aL];simp
   | false =>
    cases hx:symbols.find? (λx=>x.isPrefixOf (c::r)) with
    | none=>simp only [bK,aG,h1,h4,hx,aC,aL];simp
    | some x =>
     have hm:=List.mem_of_find?_eq_some hx;have hpx:=List.find?_some hx
     have hl:x.length<=(c::r).length:=by
      obtain ⟨t,ht⟩:=kC.1 hpx;rw [<-ht];simp
     have key:∀ y∈symbols,1<=y.length:=by decide
     simp only [bK,aG,h1,h4,hx,aC,aL];exact ⟨key x hm,hl⟩
theorem bL2 {c:UInt8} (h:(bK (c::r)).1=1):rV c=true:=by
 cases h1:rV c with
 | true=>rfl
 | false =>
  cases h4:kK c with
  | true =>
   by_cases h5:pre kK (c::r)=1\/c≠48
   ·simp only [bK,aG,h1,h4,h5,aN,aC,aL] at h;simp at h
   ·simp only [bK,aG,h1,h4,h5,aN,aC,aL] at h;simp at h
  | false =>
   cases hx:symbols.find? (λx=>x.isPrefixOf (c::r)) <;> simp only [bK,aG,h1,h4,hx,aC,aL] at h <;> simp at h
structure Tk where
 k:UInt8
 t:Str
 o:Nat
def dTk (k:IntKind) (x:Tk):D:=.str [.val (.int k x.k.toNat),.val (cJ x.t),.val (iN x.o)]
def cTk (k:IntKind) (x:Tk):List Value:=[.int k x.k.toNat,cJ x.t,iN x.o]
theorem aB0 {k:IntKind} {x:Tk} {cs:List Value} (h:Rep H (dTk k x) cs):cs=cTk k x/\x.t.length<=1000000:=by
 rw [dTk,AS] at h;obtain ⟨_,rfl,_,_,h⟩:=eW.1 h;obtain ⟨_,rfl,_,k0,h⟩:=eW.1 h;obtain ⟨_,rfl,_,_,h⟩:=eW.1 h;rw [kG] at h;subst h;exact ⟨Z,okS.1 k0⟩
theorem aA9 {k:IntKind} {x:Tk} (h:x.t.length<=1000000):Rep H (dTk k x) (cTk k x):=by
 rw [dTk,AS];exact eW.2 ⟨_,Z,Z,Jt,eW.2 ⟨_,Z,Z,okS.2 h,eW.2 ⟨_,Z,Z,Jt,kG.2 rfl⟩⟩⟩
def GP:Nat->Nat->Str->List Tk
 | 0,_,_=>[]
 | f+1,o,m=>if m=[] then [] else ⟨(bK m).1,m.take (bK m).2,o⟩::GP f (o+(m.length - (fZ false (m.drop (bK m).2)).length)) (fZ false (m.drop (bK m).2))
def sE (s:Str):List Tk:=GP (s.length+1) (s.length - (fZ false s).length) (fZ false s)
theorem tU {f o:Nat} {m:Str} (h:m≠[]):GP (f+1) o m=⟨(bK m).1,m.take (bK m).2,o⟩::GP f (o+(m.length - (fZ false (m.drop (bK m).2)).length)) (fZ false (m.drop (bK m).2)):=by rw [GP,aA h]
theorem wQ (f o:Nat):GP f o []=[]:=by cases f <;> simp [GP]
theorem IA:∀ (f g o:Nat) (m:Str),m.length<f->m.length<g->GP f o m=GP g o m
 | 0,_,_,_,h,_=>by omega
 | _,0,_,_,_,h=>by omega
 | f+1,g+1,o,m,h,k=>by
  by_cases h0:m=[]
  ·subst h0;rw [wQ,wQ]
  ·rw [tU h0,tU h0];have hr:=zE h0;have hs:=qQ false (m.drop (bK m).2);rw [dK] at hs;rw [IA f g _ _ (by omega) (by omega)]
inductive Rs (α:Type) where
 | ok (a:α) (r:List Tk)
 | er (r:List Tk) (code:Nat)
def Rs.bind {α β:Type} (x:Rs α) (f:α->List Tk->Rs β):Rs β:=match x with | .ok a r=>f a r | .er r c=>.er r c
def isT (w:Str):List Tk->Bool
 | []=>false
 | t::_=>(t.k == 2 || t.k == 4) && decide (t.t=w)
def wF {α:Type} (w:Str) (r:List Tk) (f:List Tk->Rs α):Rs α:=if isT w r then f r.tail else .er r 8
def DN {α:Type} (r:List Tk) (f:Str->List Tk->Rs α):Rs α:=match r with | []=>.er r 8 | t::q=>if t.k=1 then f t.t q else .er r 8
def oJ (s:Str):Nat:=s.foldl (λv c=>10 * v+(c.toNat - 48)) 0
def qG:Nat->List (Str × UInt8)
 | 0=>[([111,114],23)]
 | 1=>[([97,110,100],22)]
 | 2=>[([61,61],16),([33,61],17),([60],18),([60,61],19),([62],20),([62,61],21)]
 | 3=>[([43],14),([45],15)]
 | _=>[([42],11),([47],12),([37],13)]
def opAt (lv:Nat) (r:List Tk):Option UInt8:=((qG lv).find? λx=>isT x.1 r).map (·.2)
inductive Md where
 | ex (lv:Nat)
 | lp (lv:Nat) (a:Ex)
def opE (op:UInt8) (l:List Ex):Ex:=.mk op [] 0 l
def qW (rec:List Tk->Rs Ex) (r:List Tk):Rs Ex :=
 match r with
 | []=>.er r 8
 | t::q =>
  if t.k=3 then (if oJ t.t<=9223372036854775807 then .ok (.mk 1 [] (Int64.ofNat (oJ t.t)) []) q else .er r 2)
  else if isT [116,114,117,101] r then .ok (opE 2 []) q
  else if isT [102,97,108,115,101] r then .ok (opE 3 []) q
  else if isT [110,111,119] r then .ok (opE 4 []) q
  else if isT [115,105,122,101] r then DN q λs r2=>.ok (.mk 8 s 0 []) r2
  else if isT [40] r then (rec q).bind λx r2=>wF [41] r2 λr3=>.ok x r3
  else if isT [104,97,115] r then DN q λs r2=>wF [91] r2 λr3=>(rec r3).bind λx r4=>wF [93] r4 λr5=>.ok (.mk 7 s 0 [x]) r5
  else if t.k=1 then (if isT [91] q then (rec q.tail).bind λx r4=>wF [93] r4 λr5=>.ok (.mk 6 t.t 0 [x]) r5 else .ok (.mk 5 t.t 0 []) q)
  else .er r 8
def pE:Nat->Md->List Tk->Rs Ex
 | 0,_,r=>.er r 99
 | f+1,.ex lv,r =>
  if lv<5 then (pE f (.ex (lv+1)) r).bind λa r1=>pE f (.lp lv a) r1
  else if isT [45] r then (pE f (.ex 5) r.tail).bind λx r2=>.ok (opE 9 [x]) r2
  else if isT [110,111,116] r then (pE f (.ex 5) r.tail).bind λx r2=>.ok (opE 10 [x]) r2
  else qW (pE f (.ex 0)) r
 | f+1,.lp lv a,r =>
  match opAt lv r with
  | none=>.ok a r
  | some op=>(pE f (.ex (lv+1)) r.tail).bind λb r2=>if lv=2 then .ok (opE op [a,b]) r2 else pE f (.lp lv (opE op [a,b])) r2
/-! ### Enough fuel -/
theorem ifC {α:Type} {c:Prop} [Decidable c] {x y u v:α} (h1:x=u) (h2:y=v):(if c then x else y)=(if c then u else v):=by rw [h1,h2]
theorem ifI {α:Type} {c d:Prop} [Decidable c] [Decidable d] {x y:α} (h:c↔d):(if c then x else y)=(if d then x else y):=by
 by_cases e:c
 ·rw [aE e,aE (h.1 e)]
 ·rw [aA e,aA (λk=>e (h.2 k))]
variable {w:Str}
theorem nJ {r:List Tk} (h:isT w r=true):r.length=r.tail.length+1:=by cases r with | nil=>cases h | cons t q=>rfl
theorem RK {lv:Nat} {r:List Tk} {op:UInt8} (h:opAt lv r=some op):r.length=r.tail.length+1:=by
 unfold opAt at h;obtain ⟨x,hx,_⟩:=eC.1 h;exact nJ (w:=x.1) (by have:=List.find?_some hx;exact this)
theorem Rs.bind_ok {α β:Type} {x:Rs α} {f:α->List Tk->Rs β} {b:β} {r:List Tk} (h:x.bind f=.ok b r):∃ a q,x=.ok a q/\f a q=.ok b r:=by
 cases x with
 | ok a q=>exact ⟨a,q,Z,h⟩
 | er q c=>cases h
theorem pC {α:Type} {r:List Tk} {f:List Tk->Rs α} {a:α} {q:List Tk} (h:wF w r f=.ok a q):isT w r=true/\f r.tail=.ok a q:=by
 unfold wF at h
 split at h
 ·rename_i e;exact ⟨e,h⟩
 ·cases h
theorem AU {α:Type} {r:List Tk} {f:Str->List Tk->Rs α} {a:α} {q:List Tk} (h:DN r f=.ok a q):∃ t r',r=t::r'/\t.k=1/\f t.t r'=.ok a q:=by
 unfold DN at h;cases r with
 | nil=>cases h
 | cons t r' =>
  by_cases e:t.k=1
  ·simp only [e,aN] at h;exact ⟨t,r',Z,e,h⟩
  ·simp only [e,aL] at h;cases h
variable {a:Ex}
theorem bL7 {rec:List Tk->Rs Ex} (hr:∀ q a r',rec q=.ok a r'->r'.length<=q.length) {r:List Tk} {r':List Tk} (h:qW rec r=.ok a r'):r'.length<r.length:=by
 unfold qW at h;cases r with
 | nil=>cases h
 | cons t q =>
  simp only at h
  have fin:∀ {b:Ex} {l:List Tk},(Rs.ok b l:Rs Ex)=.ok a r'->l.length<=q.length->r'.length<(t::q).length:=by
   intro b l e hl;injection e with _ e;subst e;simp;omega
  split at h
  ·split at h
   ·exact fin h (aK _)
   ·cases h
  split at h
  ·exact fin h (aK _)
  split at h
  ·exact fin h (aK _)
  split at h
  ·exact fin h (aK _)
  split at h
  ·obtain ⟨t2,r2,rfl,_,h⟩:=AU h;exact fin h (by simp)
  split at h
  ·obtain ⟨x,r2,h1,h⟩:=Rs.bind_ok h;obtain ⟨h2,h⟩:=pC h;have:=hr _ _ _ h1;have:=nJ h2;exact fin h (by omega)
  split at h
  ·obtain ⟨t2,r2,rfl,_,h⟩:=AU h;obtain ⟨h2,h⟩:=pC h;obtain ⟨x,r4,h1,h⟩:=Rs.bind_ok h;obtain ⟨h3,h⟩:=pC h;have:=hr _ _ _ h1;have:=nJ h2;have:=nJ h3;exact fin h (by simp;omega)
  split at h
  ·split at h
   ·rename_i h2;obtain ⟨x,r4,h1,h⟩:=Rs.bind_ok h;obtain ⟨h3,h⟩:=pC h;have:=hr _ _ _ h1;have:=nJ h2;have:=nJ h3;exact fin h (by omega)
   ·exact fin h (aK _)
  ·cases h
theorem GX:∀ (f:Nat),(∀ lv r a r',pE f (.ex lv) r=.ok a r'->r'.length<r.length)/\(∀ lv x r a r',pE f (.lp lv x) r=.ok a r'->r'.length<=r.length)
 | 0=>⟨λ_ _ _ _ h=>(by cases h),λ_ _ _ _ _ h=>(by cases h)⟩
 | f+1=>by
  obtain ⟨ih1,ih2⟩:=GX f;refine ⟨λlv r a r' h=>?_,λlv x r a r' h=>?_⟩
  ·unfold pE at h
   split at h
   ·obtain ⟨b,q,h1,h2⟩:=Rs.bind_ok h;have:=ih1 _ _ _ _ h1;have:=ih2 _ _ _ _ _ h2;omega
   split at h
   ·rename_i e;obtain ⟨b,q,h1,h2⟩:=Rs.bind_ok h;have:=ih1 _ _ _ _ h1;have:=nJ e;injection h2 with _ e2;subst e2;omega
   split at h
   ·rename_i e;obtain ⟨b,q,h1,h2⟩:=Rs.bind_ok h;have:=ih1 _ _ _ _ h1;have:=nJ e;injection h2 with _ e2;subst e2;omega
   ·exact bL7 (λq b r2 e=>xR (ih1 _ _ _ _ e)) h
  ·unfold pE at h
   split at h
   ·injection h with _ e;subst e;exact aK _
   ·rename_i op e;obtain ⟨b,q,h1,h2⟩:=Rs.bind_ok h;have:=ih1 _ _ _ _ h1;have:=RK e
    split at h2
    ·injection h2 with _ e2;subst e2;omega
    ·have:=ih2 _ _ _ _ _ h2;omega
theorem Rs.bind_congr {α β:Type} {x y:Rs α} {f g:α->List Tk->Rs β} (h:x=y) (k:∀ a r,x=.ok a r->f a r=g a r):x.bind f=y.bind g:=by
 subst h;cases x with
 | ok a r=>exact k a r rfl
 | er r c=>rfl
theorem PZ {rec rec':List Tk->Rs Ex} {r:List Tk} (h:∀ q,q.length<r.length->rec q=rec' q):qW rec r=qW rec' r:=by
 unfold qW;cases r with
 | nil=>rfl
 | cons t q =>
  have hb:∀ (z:List Tk) (g:Ex->List Tk->Rs Ex),z.length<=q.length->(rec z).bind g=(rec' z).bind g:=λz g hz=>by rw [h z (by simp;omega)]
  have ht:∀ z:List Tk,z.tail.length<=z.length:=λz=>by simp
  simp only;rw [hb q _ (aK _),hb q.tail _ (ht q)];refine ifC rfl (ifC rfl (ifC rfl (ifC rfl (ifC rfl (ifC rfl (ifC ?_ rfl))))));unfold DN;cases q with
  | nil=>rfl
  | cons t2 r2 =>
   simp only;refine ifC ?_ rfl;unfold wF;refine ifC ?_ rfl;exact hb _ _ (by simp;omega)
def zB:Md->List Tk->Nat
 | .ex lv,r=>16 * r.length+9 - lv
 | .lp _ _,r=>16 * r.length+9
theorem QC (f lv:Nat) (r:List Tk):pE (f+1) (.ex lv) r=if lv<5 then (pE f (.ex (lv+1)) r).bind λa r1=>pE f (.lp lv a) r1
 else if isT [45] r then (pE f (.ex 5) r.tail).bind λx r2=>.ok (opE 9 [x]) r2
 else if isT [110,111,116] r then (pE f (.ex 5) r.tail).bind λx r2=>.ok (opE 10 [x]) r2
 else qW (pE f (.ex 0)) r:=by rw [pE]
theorem QB (f lv:Nat) (a:Ex) (r:List Tk):pE (f+1) (.lp lv a) r=match opAt lv r with
 | none=>.ok a r
 | some op=>(pE f (.ex (lv+1)) r.tail).bind λb r2=>if lv=2 then .ok (opE op [a,b]) r2 else pE f (.lp lv (opE op [a,b])) r2:=by rw [pE]
theorem aC2:∀ (f:Nat),(∀ lv r,lv<=5->zB (.ex lv) r<=f->pE (f+1) (.ex lv) r=pE f (.ex lv) r)/\(∀ lv x r,lv<=4->zB (.lp lv x) r<=f->pE (f+1) (.lp lv x) r=pE f (.lp lv x) r)
 | 0=>⟨λlv r h1 h=>by simp only [zB] at h;omega,λlv x r h1 h=>by simp only [zB] at h;omega⟩
 | f+1=>by
  obtain ⟨ih1,ih2⟩:=aC2 f;simp only [zB] at ih1 ih2|-;refine ⟨λlv r h5 h=>?_,λlv x r h4 h=>?_⟩
  ·rw [QC (f+1) lv r,QC f lv r]
   by_cases hlv:lv<5
   ·rw [aE hlv,aE hlv];refine Rs.bind_congr (ih1 _ _ (by omega) (by omega)) λa q e=>?_;have:=(GX (f+1)).1 _ _ _ _ e;exact ih2 _ _ _ (by omega) (by omega)
   rw [aA hlv,aA hlv]
   by_cases e:isT [45] r=true
   ·have:=nJ e;rw [aE e,aE e];exact Rs.bind_congr (ih1 _ _ (by omega) (by omega)) λ_ _ _=>rfl
   rw [aA e,aA e]
   by_cases e:isT [110,111,116] r=true
   ·have:=nJ e;rw [aE e,aE e];exact Rs.bind_congr (ih1 _ _ (by omega) (by omega)) λ_ _ _=>rfl
   rw [aA e,aA e];exact PZ λq hq=>ih1 _ _ (by omega) (by omega)
  ·rw [QB (f+1) lv x r,QB f lv x r];cases e:opAt lv r with
   | none=>rfl
   | some op =>
    simp only;have:=RK e;refine Rs.bind_congr (ih1 _ _ (by omega) (by omega)) λa q e=>?_;have:=(GX (f+1)).1 _ _ _ _ e;refine ifC rfl ?_;exact ih2 _ _ _ (by omega) (by omega)
theorem bF0 {f g lv:Nat} {r:List Tk} (h5:lv<=5) (h:zB (.ex lv) r<=f) (hg:f<=g):pE g (.ex lv) r=pE f (.ex lv) r:=by
 induction g with
 | zero => have : f = 0 := by omega
           rw [this]
 | succ g ih =>
  by_cases e:f=g+1
  ·rw [e]
  ·rw [(aC2 g).1 lv r h5 (by omega)];exact ih (by omega)
theorem aK9 {f g lv:Nat} {r:List Tk} (h5:lv<=4) (h:zB (.lp lv a) r<=f) (hg:f<=g):pE g (.lp lv a) r=pE f (.lp lv a) r:=by
 induction g with
 | zero => have : f = 0 := by omega
           rw [this]
 | succ g ih =>
  by_cases e:f=g+1
  ·rw [e]
  ·rw [(aC2 g).2 lv a r h5 (by omega)];exact ih (by omega)
def pX (lv:Nat) (r:List Tk):Rs Ex:=pE (16 * r.length+9) (.ex lv) r
def pL (lv:Nat) (a:Ex) (r:List Tk):Rs Ex:=pE (16 * r.length+9) (.lp lv a) r
theorem aK8 {f lv:Nat} {r:List Tk} (h5:lv<=5) (h:zB (.ex lv) r<=f):pE f (.ex lv) r=pX lv r:=by
 unfold pX;rcases Nat.le_total f (16 * r.length+9) with h1 | h1
 ·rw [bF0 h5 h h1]
 ·rw [bF0 h5 (by simp only [zB];omega) h1]
theorem cT1 {f lv:Nat} {r:List Tk} (h5:lv<=4) (h:zB (.lp lv a) r<=f):pE f (.lp lv a) r=pL lv a r:=by
 unfold pL;rcases Nat.le_total f (16 * r.length+9) with h1 | h1
 ·rw [aK9 h5 h h1]
 ·rw [aK9 h5 (by simp only [zB];omega) h1]
theorem aC0 {lv:Nat} {r:List Tk} (h:lv<5):pX lv r=(pX (lv+1) r).bind λa q=>pL lv a q:=by
 conv=>lhs;unfold pX
 rw [show 16 * r.length+9=(16 * r.length+8)+1 by omega,QC,aE h];refine Rs.bind_congr (aK8 (by omega) (by simp only [zB];omega)) λa q e=>?_;have:=(GX _).1 _ _ _ _ e;exact cT1 (by omega) (by simp only [zB];omega)
theorem JS {r:List Tk} :pX 5 r=if isT [45] r then (pX 5 r.tail).bind λx r2=>.ok (opE 9 [x]) r2 else if isT [110,111,116] r then (pX 5 r.tail).bind λx r2=>.ok (opE 10 [x]) r2 else qW (pX 0) r:=by
 conv=>lhs;unfold pX
 rw [show 16 * r.length+9=(16 * r.length+8)+1 by omega,QC,aA (by omega)]
 by_cases e:isT [45] r=true
 ·have:=nJ e;rw [aE e,aE e];exact Rs.bind_congr (aK8 (by omega) (by simp only [zB];omega)) λ_ _ _=>rfl
 rw [aA e,aA e]
 by_cases e:isT [110,111,116] r=true
 ·have:=nJ e;rw [aE e,aE e];exact Rs.bind_congr (aK8 (by omega) (by simp only [zB];omega)) λ_ _ _=>rfl
 rw [aA e,aA e];exact PZ λq hq=>aK8 (by omega) (by simp only [zB];omega)
theorem DL {lv:Nat} {r:List Tk} (h:opAt lv r=none):pL lv a r=.ok a r:=by
 unfold pL;rw [show 16 * r.length+9=(16 * r.length+8)+1 by omega,QB];rw [h]
theorem aC1 {lv:Nat} {r:List Tk} {op:UInt8} (hl:lv<=4) (h:opAt lv r=some op):pL lv a r=(pX (lv+1) r.tail).bind λb r2=>if lv=2 then .ok (opE op [a,b]) r2 else pL lv (opE op [a,b]) r2:=by
 conv=>lhs;unfold pL
 rw [show 16 * r.length+9=(16 * r.length+8)+1 by omega,QB];rw [h];have:=RK h;refine Rs.bind_congr (aK8 (by omega) (by simp only [zB];omega)) λb q e=>?_;have:=(GX _).1 _ _ _ _ e;refine ifC rfl ?_;exact cT1 hl (by simp only [zB];omega)
end Go.Proofs.YthhoebdlfjffkaaGreatDoor
namespace Go.Plain
open Go.Lib

theorem digits_more (x:Nat) (h:¬ x<10):decDigits x=decDigits (x / 10)++[UInt8.ofNat (48+x % 10)]:=by
 rw [decDigits,vM h]
theorem digit_nat (d:Nat) (h:d<10):(UInt8.ofNat (48+d)).toNat=48+d:=by
 rw [uM];omega
theorem digits_are:∀ (u:Nat) (c:UInt8),c∈decDigits u->48<=c.toNat/\c.toNat<=57:=by
 intro u;induction u using Nat.strongRecOn with
 | _ u ih =>
  intro c hc
  by_cases h:u<10
  ·rw [decDigits_one h] at hc;obtain rfl:=dQ.1 hc;rw [digit_nat u h];omega
  ·rw [digits_more u h] at hc;rcases gJ.1 hc with hc | hc
   ·exact ih (u / 10) (by omega) c hc
   ·obtain rfl:=dQ.1 hc;rw [digit_nat (u % 10) (by omega)];omega
end Go.Plain
namespace Go.Proofs.YthhoebdlfjffkaaGreatDoor
abbrev Kt:=UInt8 × Str
def kt (t:Tk):Kt:=(t.k,t.t)
def isK (w:Str) (x:Kt):Bool:=(x.1 == 2 || x.1 == 4) && decide (x.2=w)
def opK (lv:Nat) (x:Kt):Option UInt8:=((qG lv).find? λy=>isK y.1 x).map (·.2)
theorem iF (w:Str) (t:Tk) (r:List Tk):isT w (t::r)=isK w (kt t):=rfl
theorem bM3 (lv:Nat) (t:Tk) (r:List Tk):opAt lv (t::r)=opK lv (kt t):=rfl
def JN (n lv:Nat) (l:List Kt):List Kt:=if lv<n then (4,[40])::(l++[(4,[41])]) else l
def KR (op:UInt8):Kt:=(if op=22\/op=23 then 2 else 4,((cW op).tx.drop 1).dropLast)
def ktx (op:UInt8) (nm:Str) (n:Int64) (ls:List (Nat × List Kt)):List Kt :=
 if op=1 then [(3,Lib.itoa n.toInt)]
 else if op=5 then [(1,nm)]
 else if op=8 then [(2,[115,105,122,101]),(1,nm)]
 else if op=6 then (1,nm)::(4,[91])::((ls.getD 0 (0,[])).2++[(4,[93])])
 else if op=7 then (2,[104,97,115])::(1,nm)::(4,[91])::((ls.getD 0 (0,[])).2++[(4,[93])])
 else if op=9 then (4,[45])::JN 6 (ls.getD 0 (0,[])).1 (ls.getD 0 (0,[])).2
 else if op=10 then (2,[110,111,116])::JN 6 (ls.getD 0 (0,[])).1 (ls.getD 0 (0,[])).2
 else if (cW op).n=0 then [(2,(cW op).tx)]
 else JN (JO (cW op).lv) (ls.getD 0 (0,[])).1 (ls.getD 0 (0,[])).2++KR op::JN ((cW op).lv+1) (ls.getD 1 (0,[])).1 (ls.getD 1 (0,[])).2
mutual
def ktE:Ex->List Kt
 | .mk op nm n args=>ktx op nm n (dC8 args)
def dC8:List Ex->List (Nat × List Kt)
 | []=>[]
 | e::r=>((cW e.op).lv,ktE e)::dC8 r
end
def Ex.lv (e:Ex):Nat:=(cW e.op).lv
def Stp (j:Nat) (r:List Tk):Prop:=(∀ i,j<=i->i<=4->opAt i r=none)/\isT [91] r=false
variable {i j:Nat}
theorem Stp.up {r:List Tk} (h:Stp i r) (hij:i<=j):Stp j r:=⟨λk h1 h2=>h.1 k (by omega) h2,h.2⟩
theorem Stp.of {t:Tk} {r:List Tk} (h:∀ i∈List.range 5,j<=i->opK i (kt t)=none) (h2:isK [91] (kt t)=false):Stp j (t::r) :=
 ⟨λi h1 h3=>h i (bQ.2 (by omega)) h1,h2⟩
theorem aK7 {l:List Tk} {a:Ex} {r:List Tk}:∀ (d lv j:Nat),j=lv+1+d->j<=5->pX j l=.ok a r->Stp (lv+1) r->pX lv l=pL lv a r
 | 0,lv,j,e,hj,h,_=>by
  rw [aC0 (by omega),show lv+1=j by omega,h];rfl
 | d+1,lv,j,e,hj,h,hs=>by
  have:=aK7 d (lv+1) j (by omega) hj h (hs.up (by omega));rw [aC0 (by omega),this,DL (hs.1 _ (aK _) (by omega))];rfl
def Rd (e:Ex):Prop:=∀ le r,le.map kt=ktE e->(∀ lv,lv<=4->lv+1<=e.lv->Stp (lv+1) r->pX lv (le++r)=if lv=2/\e.lv=3 then .ok e r else pL lv e r)/\(6<=e.lv->isT [91] r=false->pX 5 (le++r)=.ok e r)
theorem Rd.full {e:Ex} (h:Rd e) {le r:List Tk} (hk:le.map kt=ktE e) {lv:Nat} (h5:lv<=5) (hl:lv+1<=e.lv) (hs:Stp lv r):pX lv (le++r)=.ok e r:=by
 by_cases e5:lv=5
 ·subst e5;exact (h le r hk).2 hl hs.2
 ·rw [(h le r hk).1 lv (by omega) hl (hs.up (by omega)),DL (hs.1 lv (aK _) (by omega))]
  split <;> rfl
theorem Rd.of {e:Ex} (h6:6<=e.lv) (h:∀ le r,le.map kt=ktE e->isT [91] r=false->pX 5 (le++r)=.ok e r):Rd e:=λle r hk=>by
 refine ⟨λlv hl h1 hs=>?_,λ_=>h le r hk⟩;rw [aA (by omega)];exact aK7 (4 - lv) lv 5 (by omega) (by omega) (h le r hk hs.2) hs
theorem Rd.par {e:Ex} (h:Rd e) (h1:1<=e.lv) {le r:List Tk} (hk:le.map kt=(4,[40])::(ktE e++[(4,[41])])):pX 5 (le++r)=.ok e r:=by
 obtain ⟨t,l1,rfl,ht,hk⟩:=dG.1 hk;obtain ⟨l2,l3,rfl,h2,h3⟩:=kD.1 hk;obtain ⟨t2,l4,rfl,ht2,h4⟩:=dG.1 h3;obtain rfl:=gR.1 h4;simp only [aR,aQ,bU];have hf:=h.full h2 (r:=t2::r) (lv:=0) (by omega) h1 (.of (by rw [ht2];decide) (by rw [ht2];decide));rw [JS,iF,iF,ht,aA (by decide),aA (by decide),qW];have hk0:t.k=4:=congrArg Prod.fst ht;simp only [iF,ht];rw [aA (by rw [hk0];decide),aA (by decide),aA (by decide),aA (by decide),aA (by decide),aE (by decide),hf];show wF [41] (t2::r) _=_;rw [wF,iF,ht2,aE (by decide)]
 rfl
variable {n:Nat}
theorem Rd.opnd {e:Ex} (h:Rd e) (h1:1<=e.lv) {le r:List Tk} (hk:le.map kt=JN n e.lv (ktE e)) (hn:n<=6) (h0:0<n) (hs:Stp (n - 1) r):pX (n - 1) (le++r)=.ok e r:=by
 unfold JN at hk
 split at hk
 ·have hp:=h.par h1 hk (r:=r)
  by_cases e5:n=6
  ·subst e5;exact hp
  ·rw [aK7 (5 - n) (n - 1) 5 (by omega) (by omega) hp (hs.up (by omega)),DL (hs.1 _ (aK _) (by omega))]
 ·exact h.full hk (by omega) (by omega) hs
theorem Rd.left {e:Ex} (h:Rd e) (h1:1<=e.lv) {lv:Nat} {le r:List Tk} (hk:le.map kt=JN (lv+1) e.lv (ktE e)) (hn:lv<=4) (h2:lv≠2) (hs:Stp (lv+1) r):pX lv (le++r)=pL lv e r:=by
 unfold JN at hk
 split at hk
 ·exact aK7 (4 - lv) lv 5 (by omega) (by omega) (h.par h1 hk (r:=r)) hs
 ·rw [(h le r hk).1 lv hn (by omega) hs,aA (by omega)]
theorem QE (u:Nat):oJ (Lib.decDigits u)=u:=by
 induction u using Nat.strongRecOn with
 | _ u ih =>
  by_cases h:u<10
  ·rw [Lib.decDigits_one h];simp only [oJ,nS,uR,Plain.digit_nat u h];omega
  ·rw [Plain.digits_more u h];have:=ih (u / 10) (by omega);unfold oJ at this|-;rw [rJ,this];simp only [nS,uR,Plain.digit_nat (u % 10) (by omega)];omega
theorem bM5 {n:Int} (h:0<=n):oJ (Lib.itoa n)=n.toNat:=by
 unfold Lib.itoa;rw [aA (by omega),QE]
theorem MJ {op:UInt8} (h:wJ op=true):op∈([1,2,3,4,5,6,7,8,9,10,11,12,13,14,15,16,17,18,19,20,21,22,23]:List UInt8):=by
 simp only [wJ,aF,aB] at h;have key:∀ i∈List.range 24,1<=i->UInt8.ofNat i∈([1,2,3,4,5,6,7,8,9,10,11,12,13,14,15,16,17,18,19,20,21,22,23]:List UInt8):=by decide
 have:=key op.toNat (bQ.2 (by omega)) h.1
 rwa [oH] at this
theorem SV {op:UInt8} (h:wJ op=true):op=1\/op∈([11,12,13,14,15,16,17,18,19,20,21,22,23]:List UInt8)\/(op=2\/op=3\/op=4\/op=5\/op=6\/op=7\/op=8\/op=9\/op=10):=by
 have key:∀ o∈([1,2,3,4,5,6,7,8,9,10,11,12,13,14,15,16,17,18,19,20,21,22,23]:List UInt8),o=1\/o∈([11,12,13,14,15,16,17,18,19,20,21,22,23]:List UInt8)\/(o=2\/o=3\/o=4\/o=5\/o=6\/o=7\/o=8\/o=9\/o=10):=by decide
 exact key op (MJ h)
theorem dB5 {op:UInt8} (h:wJ op=true):1<=(cW op).lv:=by
 have key:∀ o∈([1,2,3,4,5,6,7,8,9,10,11,12,13,14,15,16,17,18,19,20,21,22,23]:List UInt8),1<=(cW o).lv:=by decide
 exact key op (MJ h)
theorem YR {l:List Ex} (h:l.length=0):l=[]:=cQ h
theorem NC {l:List Ex} (h:l.length=1):∃ a,l=[a]:=List.length_eq_one_iff.1 h
theorem zC {l:List Ex} (h:l.length=2):∃ a b,l=[a,b]:=by
 match l,h with
 | [a,b],_=>exact ⟨a,b,Z⟩
theorem aN5 {n:Int64} (h:n.toInt=0):n=0:=qL.1 (by rw [h];rfl)
def binOp (op:UInt8):Bool:=decide (11<=op.toNat) && decide (op.toNat<=23)
theorem FD:∀ op∈([11,12,13,14,15,16,17,18,19,20,21,22,23]:List UInt8),(cW op).n=2/\(cW op).nm=false/\1<=(cW op).lv/\(cW op).lv<=5/\opK ((cW op).lv - 1) (KR op)=some op/\isK [91] (KR op)=false /\
 (∀ i∈List.range 5,(cW op).lv<=i->opK i (KR op)=none)/\¬ op=1/\¬ op=5/\¬ op=8/\¬ op=6/\¬ op=7/\¬ op=9/\¬ op=10:=by decide
theorem aD5 {op:UInt8} (h:op∈([11,12,13,14,15,16,17,18,19,20,21,22,23]:List UInt8)) (nm:Str) (n:Int64) (a b:Ex) :
 ktE (.mk op nm n [a,b])=JN (JO (cW op).lv) a.lv (ktE a)++KR op::JN ((cW op).lv+1) b.lv (ktE b):=by
 obtain ⟨h1,_,_,_,_,_,_,g1,g2,g3,g4,g5,g6,g7⟩:=FD op h;rw [ktE,ktx,aA g1,aA g2,aA g3,aA g4,aA g5,aA g6,aA g7,aA (by omega)]
 rfl
variable {a:Ex}
theorem cV9 {op:UInt8} (h:op∈([11,12,13,14,15,16,17,18,19,20,21,22,23]:List UInt8)) {b:Ex} (ha:Rd a) (hb:Rd b) (ha1:1<=a.lv) (hb1:1<=b.lv):Rd (opE op [a,b]):=by
 intro le r hk;obtain ⟨_,_,h3,h4,h5,h6,h7,_⟩:=FD op h;have hlv:(opE op [a,b]).lv=(cW op).lv:=rfl;rw [hlv];rw [show opE op [a,b]=.mk op [] 0 [a,b] from rfl,aD5 h] at hk;obtain ⟨la,l1,rfl,hla,hk⟩:=kD.1 hk;obtain ⟨t,lb,rfl,ht,hlb⟩:=dG.1 hk;generalize hL:(cW op).lv=L at *;refine ⟨?_,λh8=>absurd h8 (by omega)⟩;have hst:∀ q,Stp L (t::q):=λq=>.of (by rw [ht];exact h7) (by rw [ht];exact h6)
 -- at its own level
 have own:Stp L r->pX (L - 1) (la++t::lb++r)=if L - 1=2 then .ok (opE op [a,b]) r else pL (L - 1) (opE op [a,b]) r:=by
  intro hs;have hopt:∀ q,opAt (L - 1) (t::q)=some op:=λq=>by rw [bM3,ht];exact h5
  have hB:pX L (lb++r)=.ok b r:=by
   have:=hb.opnd hb1 (n:=L+1) hlb (by omega) (by omega) (r:=r) (by simpa using hs);simpa using this
  have hA:pX (L - 1) (la++(t::lb++r))=pL (L - 1) a (t::lb++r):=by
   by_cases h2:L=3
   ·subst h2;have:=ha.opnd ha1 (n:=4) (r:=t::lb++r) hla (by omega) (by omega) (hst _);rw [aC0 (by omega)];show (pX 3 _).bind _=_;rw [show (4:Nat) - 1=3 from rfl] at this;rw [this];rfl
   ·have e:JO L=L - 1+1:=by unfold JO;rw [aA h2];omega
    rw [e] at hla;exact ha.left ha1 hla (by omega) (by omega) (by rw [show L - 1+1=L by omega];exact hst _)
  rw [aQ,hA,aR,aC1 (by omega) (hopt _)];show (pX (L - 1+1) (lb++r)).bind _=_;rw [show L - 1+1=L by omega,hB]
  rfl
 intro lv hl4 hl hs
 by_cases e:lv=L - 1
 ·subst e;rw [show L - 1+1=L by omega] at hs;rw [own hs];exact ifI (by omega)
 ·rw [aA (by omega)];refine aK7 (L - 2 - lv) lv (L - 1) (by omega) (by omega) ?_ hs;rw [own (hs.up (by omega)),DL (hs.1 _ (by omega) (by omega))]
  split <;> rfl
theorem aD4 {op:UInt8} {nm:Str} {n:Int64} {args:List Ex} {x:Kt} (h:ktE (.mk op nm n args)=[x]) {le:List Tk} (hk:le.map kt=ktE (.mk op nm n args)):∃ t,le=[t]/\kt t=x:=by
 rw [h] at hk;obtain ⟨t,l,rfl,ht,hl⟩:=dG.1 hk;obtain rfl:=gR.1 hl;exact ⟨t,Z,ht⟩
theorem cT0 {op:UInt8} (ha:Rd a) (h1:1<=a.lv) (hop:op=9\/op=10):Rd (opE op [a]):=by
 refine .of (by rcases hop with rfl | rfl <;> exact (by decide:6<=6)) λle r hk h91=>?_
 have key:∃ t l,le=t::l/\kt t=(if op=9 then (4,[45]) else (2,[110,111,116]))/\l.map kt=JN 6 a.lv (ktE a):=by
  rcases hop with rfl | rfl
  ·obtain ⟨t,l,rfl,ht,hl⟩:=dG.1 (show le.map kt=(4,[45])::JN 6 a.lv (ktE a) from hk);exact ⟨t,l,Z,ht,hl⟩
  ·obtain ⟨t,l,rfl,ht,hl⟩:=dG.1 (show le.map kt=(2,[110,111,116])::JN 6 a.lv (ktE a) from hk);exact ⟨t,l,Z,ht,hl⟩
 obtain ⟨t,l,rfl,ht,hl⟩:=key;have hA:pX 5 (l++r)=.ok a r:=ha.opnd h1 (n:=6) hl (by omega) (by omega) ⟨λi h1 h2=>by omega,h91⟩;rw [aR,JS];rcases hop with rfl | rfl
 ·rw [iF,ht,aE (by decide)];show (pX 5 (l++r)).bind _=_;rw [hA];rfl
 ·rw [iF,iF,ht,aA (by decide),aE (by decide)];show (pX 5 (l++r)).bind _=_;rw [hA];rfl
theorem bZ3 (ha:Rd a) (h1:1<=a.lv) {l r:List Tk} (hl:l.map kt=(4,[91])::(ktE a++[(4,[93])])):isT [91] (l++r)=true/\∀ (g:Ex->List Tk->Rs Ex),((pX 0 (l++r).tail).bind λx r4=>wF [93] r4 λr5=>g x r5)=g a r:=by
 obtain ⟨t,l1,rfl,ht,hk⟩:=dG.1 hl;obtain ⟨l2,l3,rfl,h2,h3⟩:=kD.1 hk;obtain ⟨t2,l4,rfl,ht2,h4⟩:=dG.1 h3;obtain rfl:=gR.1 h4;refine ⟨by rw [aR,iF,ht];decide,λg=>?_⟩;have hf:=ha.full h2 (r:=t2::r) (lv:=0) (by omega) h1 (.of (by rw [ht2];decide) (by rw [ht2];decide));simp only [aR,aQ,bU,yW];rw [hf];show wF [93] (t2::r) _=_;rw [wF,iF,ht2,aE (by decide)]
 rfl
theorem cW0 (e:Ex):Ex.all lP e=true->Rd e/\1<=e.lv:=by
 induction e using Ex.ind with
 | _ op nm n args ih =>
  intro h;rw [nK,aF] at h;obtain ⟨hf,hr⟩:=h;have ha:∀ a∈args,Rd a/\1<=a.lv:=λa m=>ih a m (iV m hr);simp only [lP,aF,cO,aB] at hf;obtain ⟨⟨⟨hop,hl⟩,hnm⟩,hn⟩:=hf;refine ⟨?_,dB5 hop⟩;have hm:=MJ hop
  by_cases h1:op=1
  ·subst h1;obtain rfl:=YR hl;obtain rfl:nm=[]:=hnm.resolve_left (by decide);rw [aE rfl,aB] at hn;refine .of (show 6<=(cW 1).lv by decide) λle r hk _=>?_;obtain ⟨t,rfl,ht⟩:=aD4 (x:=(3,Lib.itoa n.toInt)) rfl hk;have hk3:t.k=3:=congrArg Prod.fst ht;have ht2:t.t=Lib.itoa n.toInt:=congrArg Prod.snd ht;have hlt:=n.toInt_lt;rw [aR,bU,JS,iF,iF,ht,aA (by simp [isK]),aA (by simp [isK]),qW];rw [aE hk3,ht2,bM5 hn,aE (by omega)]
   congr 2
   exact qL.1 (by rw [iX (by omega)];omega)
  rw [aA h1,aB] at hn;obtain rfl:=aN5 hn
  by_cases hb:op∈([11,12,13,14,15,16,17,18,19,20,21,22,23]:List UInt8)
  ·obtain ⟨b1,b2,_⟩:=FD op hb;obtain ⟨a,b,rfl⟩:=zC (l:=args) (by omega)
   obtain rfl : nm = [] := by rcases hnm with e | e
                              ·rw [b2] at e;cases e
                              ·exact e
   have h3:=ha a (by simp);have h4:=ha b (by simp);exact cV9 hb h3.1 h4.1 h3.2 h4.2
  have hs:op=2\/op=3\/op=4\/op=5\/op=6\/op=7\/op=8\/op=9\/op=10:=((SV hop).resolve_left h1).resolve_left hb
  have cst:∀ (w:Str),op=2\/op=3\/op=4->w=(cW op).tx->Rd (.mk op nm 0 args):=by
   intro w ho hw
   have hnil:args=[]:=by
    rcases ho with rfl | rfl | rfl <;> exact YR hl
   have hnm0:nm=[]:=by
    rcases ho with rfl | rfl | rfl <;> exact hnm.resolve_left (by decide)
   subst hnil hnm0;refine .of (by rcases ho with rfl | rfl | rfl <;> exact (by decide:6<=7)) λle r hk _=>?_;rcases ho with rfl | rfl | rfl
   all_goals
    obtain ⟨t,rfl,ht⟩:=aD4 rfl hk;have hk3:t.k=2:=congrArg Prod.fst ht;rw [aR,bU,JS,iF,iF,ht,aA (by decide),aA (by decide),qW];simp only [iF,ht];rw [aA (by rw [hk3];decide)]
   ·rw [aE (by decide)];rfl
   ·rw [aA (by decide),aE (by decide)];rfl
   ·rw [aA (by decide),aA (by decide),aE (by decide)];rfl
  rcases hs with rfl | rfl | rfl | rfl | rfl | rfl | rfl | rfl | rfl
  ·exact cst _ (.inl Z) rfl
  ·exact cst _ (.inr (.inl Z)) rfl
  ·exact cst _ (.inr (.inr Z)) rfl
  ·obtain rfl:=YR hl;refine .of (show 6<=(cW 5).lv by decide) λle r hk h91=>?_;obtain ⟨t,rfl,ht⟩:=aD4 (x:=(1,nm)) rfl hk;have hk1:t.k=1:=congrArg Prod.fst ht;have ht2:t.t=nm:=congrArg Prod.snd ht;have hno:∀ w,isK w (1,nm)=false:=λw=>by simp [isK]
   rw [aR,bU,JS,iF,iF,ht,hno,hno,aA (by decide),aA (by decide),qW];simp only [iF,ht,hno];rw [aA (by rw [hk1];decide)];simp only [aC,aL];rw [aE hk1,h91,aA (by decide),ht2]
  ·obtain ⟨a,rfl⟩:=NC hl;obtain ⟨ra,r1⟩:=ha a (by simp);refine .of (show 6<=(cW 6).lv by decide) λle r hk h91=>?_;obtain ⟨t,l,rfl,ht,hl⟩:=dG.1 (show le.map kt=(1,nm)::(4,[91])::(ktE a++[(4,[93])]) from hk);have hk1:t.k=1:=congrArg Prod.fst ht;have ht2:t.t=nm:=congrArg Prod.snd ht;have hno:∀ w,isK w (1,nm)=false:=λw=>by simp [isK]
   obtain ⟨k1,k2⟩:=bZ3 ra r1 hl (r:=r);rw [aR,JS,iF,iF,ht,hno,hno,aA (by decide),aA (by decide),qW];simp only [iF,ht,hno];rw [aA (by rw [hk1];decide)];simp only [aC,aL];rw [aE hk1,k1,aE rfl,k2,ht2]
  ·obtain ⟨a,rfl⟩:=NC hl;obtain ⟨ra,r1⟩:=ha a (by simp);refine .of (show 6<=(cW 7).lv by decide) λle r hk h91=>?_;obtain ⟨t,l,rfl,ht,hl⟩:=dG.1 (show le.map kt=(2,[104,97,115])::(1,nm)::(4,[91])::(ktE a++[(4,[93])]) from hk);obtain ⟨t2,l2,rfl,ht2,hl⟩:=dG.1 hl;have hk1:t.k=2:=congrArg Prod.fst ht;have hk2:t2.k=1:=congrArg Prod.fst ht2;have ht3:t2.t=nm:=congrArg Prod.snd ht2;obtain ⟨k1,k2⟩:=bZ3 ra r1 hl (r:=r);rw [aR,JS,iF,iF,ht,aA (by decide),aA (by decide),qW];simp only [iF,ht];rw [aA (by rw [hk1];decide),aA (by decide),aA (by decide),aA (by decide),aA (by decide),aA (by decide),aE (by decide),aR,DN];rw [aE hk2,wF,k1,aE rfl,k2,ht3]
  ·obtain rfl:=YR hl;refine .of (show 6<=(cW 8).lv by decide) λle r hk h91=>?_;obtain ⟨t,l,rfl,ht,hl⟩:=dG.1 (show le.map kt=(2,[115,105,122,101])::(1,nm)::[] from hk);obtain ⟨t2,l2,rfl,ht2,hl⟩:=dG.1 hl;obtain rfl:=gR.1 hl;have hk1:t.k=2:=congrArg Prod.fst ht;have hk2:t2.k=1:=congrArg Prod.fst ht2;have ht3:t2.t=nm:=congrArg Prod.snd ht2;rw [aR,JS,iF,iF,ht,aA (by decide),aA (by decide),qW];simp only [iF,ht];rw [aA (by rw [hk1];decide),aA (by decide),aA (by decide),aA (by decide),aE (by decide),aR,DN];rw [aE hk2,ht3];rfl
  ·obtain ⟨a,rfl⟩:=NC hl;obtain ⟨ra,r1⟩:=ha a (by simp);obtain rfl:nm=[]:=hnm.resolve_left (by decide);exact cT0 ra r1 (.inl Z)
  ·obtain ⟨a,rfl⟩:=NC hl;obtain ⟨ra,r1⟩:=ha a (by simp);obtain rfl:nm=[]:=hnm.resolve_left (by decide);exact cT0 ra r1 (.inr Z)
abbrev Pz (α:Type):=List Tk->Rs α
section
variable {α β:Type}
def eR (a:α):Pz α:=λr=>.ok a r
def cK (p:Pz α) (f:α->Pz β):Pz β:=λr=>(p r).bind f
def gNd (w:Str):Pz Unit:=λr=>if isT w r then .ok () r.tail else .er r 8
def gNm:Pz Str:=λr=>match r with | []=>.er r 8 | t::q=>if t.k=1 then .ok t.t q else .er r 8
def gNu:Pz Int64:=λr=>match r with | []=>.er r 8 | t::q=>if t.k=3 then (if oJ t.t<=9223372036854775807 then .ok (Int64.ofNat (oJ t.t)) q else .er r 2) else .er r 8
def isN (w:Str):List Tk->Bool
 | []=>false
 | t::_=>t.k == 3 && decide (t.t=w)
def gNn (w:Str):Pz Unit:=λr=>if isN w r then .ok () r.tail else .er r 8
def jH (w:Str) (p q:Pz α):Pz α:=λr=>if isT w r then p r.tail else q r
def wK (w:Str) (p:Pz α):Nat->Pz (List α)
 | 0=>λr=>.er r 99
 | f+1=>jH w (cK p λa=>cK (wK w p f) λl=>eR (a::l)) (eR [])
def jV (w:Str) (p:Pz α):Pz (List α):=λr=>wK w p (r.length+1) r
end
def gEx:Pz Ex:=pX 0
def qP (b:Pz (List Sm)):Pz (List Sm):=cK (gNd [123]) λ_=>cK b λl=>cK (gNd [125]) λ_=>eR l
def FS (b:Pz (List Sm)):Pz (List Sm):=jH [101,108,115,101] (qP b) (eR [])
def vD (b:Pz (List Sm)):Pz (List Sm):=jH [101,108,115,101] (qP b) (cK (gNd [59]) λ_=>eR [])
def jN {α:Type} (p:Pz α):Pz (List α):=cK (gNd [40]) λ_=>jH [41] (eR []) (cK p λa=>cK (jV [44] p) λl=>cK (gNd [41]) λ_=>eR (a::l))
def gSt (b:Pz (List Sm)):Pz Sm :=
 jH [105,102] (cK gEx λe=>cK (qP b) λt=>cK (FS b) λl=>eR (.mk 4 [] [] [e] t l))<|jH [119,104,105,108,101] (cK gEx λe=>cK (qP b) λt=>eR (.mk 5 [] [] [e] t []))<|jH [115,116,111,114,101] (cK gEx λe=>cK (gNd [61]) λ_=>cK gEx λe2=>cK (vD b) λl=>eR (.mk 8 [] [] [e,e2] [] l))<|jH [102,101,116,99,104] (cK gNm λn=>cK (gNd [61]) λ_=>cK gEx λe=>cK (vD b) λl=>eR (.mk 9 n [] [e] [] l))<|jH [115,101,110,100] (cK gNm λn=>cK (gNd [46]) λ_=>cK gNm λh=>cK (jN gEx) λl=>cK (gNd [59]) λ_=>eR (.mk 6 n h l [] []))<|jH [97,102,116,101,114] (cK gEx λe=>cK (gNd [100,111]) λ_=>cK gNm λh=>cK (jN gEx) λl=>cK (gNd [59]) λ_=>eR (.mk 7 [] h (e::l) [] []))<|jH [115,116,111,112] (cK (gNd [59]) λ_=>eR (.mk 10 [] [] [] [] []))<|jH [100,101,108,101,116,101] (cK gNm λn=>cK (gNd [91]) λ_=>cK gEx λe=>cK (gNd [93]) λ_=>cK (gNd [59]) λ_=>eR (.mk 3 n [] [e] [] []))<|cK gNm λn=>jH [91] (cK gEx λe=>cK (gNd [93]) λ_=>cK (gNd [61]) λ_=>cK gEx λe2=>cK (gNd [59]) λ_=>eR (.mk 2 n [] [e,e2] [] []))
  (cK (gNd [61]) λ_=>cK gEx λe=>cK (gNd [59]) λ_=>eR (.mk 1 n [] [e] [] []))
def gBF:Nat->Pz (List Sm)
 | 0=>λr=>.er r 99
 | f+1=>λr=>if isT [125] r then .ok [] r else (gSt (gBF f) r).bind λs r1=>(gBF f r1).bind λl r2=>.ok (s::l) r2
def gB:Pz (List Sm):=λr=>gBF (r.length+1) r
def gTr:Pz Bool:=jH [116,114,117,101] (eR true) (cK (gNd [102,97,108,115,101]) λ_=>eR false)
def gFg:Pz Fg:=cK gNm λn=>cK (gNd [61]) λ_=>cK gTr λb=>cK (gNd [59]) λ_=>eR ⟨n,b⟩
def gLk:Pz Lk:=cK gNm λn=>cK (gNd [45,62]) λ_=>cK gNm λm=>cK (gNd [108,97,116,101,110,99,121]) λ_=>cK gNu λv=>cK (gNd [59]) λ_=>eR ⟨n,m,v⟩
def EZ:Pz Int64:=jH [45] (cK gNu λv=>eR (-v)) gNu
def gVr:Pz Vr:=cK gNm λn=>cK (gNd [58]) λ_ =>
 jH [105,110,116] (cK (gNd [61]) λ_=>cK EZ λv=>cK (gNd [59]) λ_=>eR ⟨n,1,v⟩)<|jH [98,111,111,108] (cK (gNd [61]) λ_=>cK gTr λb=>cK (gNd [59]) λ_=>eR ⟨n,2,if b then 1 else 0⟩)<|cK (gNd [116,97,98,108,101]) λ_=>cK (gNd [59]) λ_=>eR ⟨n,3,0⟩
def gHd:Pz Hd:=cK gNm λn=>cK (jN gNm) λl=>cK (qP gB) λb=>eR ⟨n,l,b⟩
def gVs:Pz (List Hd):=jV [111,110] gHd
def gVn (n:Str):Pz (List Hd):=cK (gNn n) λ_=>cK (gNd [123]) λ_=>cK gVs λv=>cK (gNd [125]) λ_=>eR v
def gVm:Pz (List (List Hd)):=jH [118,101,114,115,105,111,110] (cK (gVn [50]) λv=>jH [118,101,114,115,105,111,110] (cK (gVn [51]) λw=>eR [v,w]) (eR [v])) (eR [])
def gCp:Pz Cp:=cK gNm λn=>cK (gNd [123]) λ_=>cK (jV [118,97,114] gVr) λvs=>cK gVs λv=>cK gVm λl=>cK (gNd [125]) λ_=>eR ⟨n,vs,v::l⟩
def gFt:Pz Ft:=cK (gNd [102,108,101,101,116]) λ_=>cK gNm λn=>cK (gNd [123]) λ_=>cK (jV [102,108,97,103] gFg) λfs=>cK (jV [108,105,110,107] gLk) λls=>cK (jV [99,111,109,112,111,110,101,110,116] gCp) λcs=>cK (gNd [125]) λ_=>eR ⟨n,fs,ls,cs⟩
/-! ### Rules that consume -/
section
variable {α β:Type}
def Shr (p:Pz α):Prop:=∀ r a r',p r=.ok a r'->r'.length<=r.length
def Shs (p:Pz α):Prop:=∀ r a r',p r=.ok a r'->r'.length<r.length
theorem Shs.le {p:Pz α} (h:Shs p):Shr p:=λr a r' e=>xR (h r a r' e)
theorem Shr.pure (a:α):Shr (eR a):=λr a r' e=>by injection e with _ e;subst e;exact aK _
theorem Shr.bind {p:Pz α} {f:α->Pz β} (h:Shr p) (k:∀ a,Shr (f a)):Shr (cK p f):=λr b r' e=>by
 obtain ⟨a,q,h1,h2⟩:=Rs.bind_ok e;have:=h _ _ _ h1;have:=k _ _ _ _ h2;omega
theorem Shs.bind {p:Pz α} {f:α->Pz β} (h:Shs p) (k:∀ a,Shr (f a)):Shs (cK p f):=λr b r' e=>by
 obtain ⟨a,q,h1,h2⟩:=Rs.bind_ok e;have:=h _ _ _ h1;have:=k _ _ _ _ h2;omega
theorem Shs.nd (w:Str):Shs (gNd w):=λr a r' e=>by
 unfold gNd at e
 split at e
 ·rename_i h;injection e with _ e;subst e;have:=nJ h;omega
 ·cases e
theorem cY1 {w:Str} {r:List Tk} (h:isN w r=true):r.length=r.tail.length+1:=by cases r with | nil=>cases h | cons t q=>rfl
theorem Shs.nn (w:Str):Shs (gNn w):=λr a r' e=>by
 unfold gNn at e
 split at e
 ·rename_i h;injection e with _ e;subst e;have:=cY1 h;omega
 ·cases e
theorem Shs.nm:Shs gNm:=λr a r' e=>by
 unfold gNm at e
 split at e
 ·cases e
 ·split at e
  ·injection e with _ e;subst e;simp
  ·cases e
theorem Shs.nu:Shs gNu:=λr a r' e=>by
 unfold gNu at e
 split at e
 ·cases e
 ·split at e
  ·split at e
   ·injection e with _ e;subst e;simp
   ·cases e
  ·cases e
theorem Shs.ex:Shs gEx:=λr a r' e=>(GX _).1 _ _ _ _ e
theorem Shr.alt {w:Str} {p q:Pz α} (h:Shr p) (k:Shr q):Shr (jH w p q):=λr a r' e=>by
 unfold jH at e
 split at e
 ·rename_i h2;have:=nJ h2;have:=h _ _ _ e;omega
 ·exact k _ _ _ e
theorem Shs.alt {w:Str} {p q:Pz α} (h:Shr p) (k:Shs q):Shs (jH w p q):=λr a r' e=>by
 unfold jH at e
 split at e
 ·rename_i h2;have:=nJ h2;have:=h _ _ _ e;omega
 ·exact k _ _ _ e
theorem Shr.many {w:Str} {p:Pz α} (h:Shr p):Shr (jV w p):=by
 have key:∀ f,Shr (wK w p f):=λf=>by
  induction f with
  | zero=>intro r a r' e;cases e
  | succ f ih=>exact .alt (.bind h λa=>.bind ih λl=>.pure _) (.pure _)
 exact λr a r' e=>key _ _ _ _ e
theorem QG {w:Str} {p:Pz α} (h:Shr p):∀ (f g:Nat) (r:List Tk),r.length<f->r.length<g->wK w p f r=wK w p g r
 | 0,_,_,k,_=>by omega
 | _,0,_,_,k=>by omega
 | f+1,g+1,r,k1,k2=>by
  unfold wK jH
  split
  ·rename_i e;have:=nJ e;refine Rs.bind_congr rfl λa q e2=>?_;have:=h _ _ _ e2;exact Rs.bind_congr (QG h f g q (by omega) (by omega)) λ_ _ _=>rfl
  ·rfl
theorem CR {w:Str} {p:Pz α} (h:Shr p):jV w p=jH w (cK p λa=>cK (jV w p) λl=>eR (a::l)) (eR []):=funext λr=>by
 unfold jV
 conv=>lhs;unfold wK
 unfold jH
 split
 ·rename_i e;have:=nJ e;refine Rs.bind_congr rfl λa q e2=>?_;have:=h _ _ _ e2;exact Rs.bind_congr (QG h _ _ q (by omega) (by omega)) λ_ _ _=>rfl
 ·rfl
theorem Shs.list {p:Pz α} (h:Shr p):Shs (jN p):=.bind (.nd _) λ_=>.alt (.pure _) (.bind h λ_=>.bind (.many h) λ_=>.bind (Shs.nd _).le λ_=>.pure _)
/-! ### Rules that agree on short lists of tokens -/
def Agz (n:Nat) (p q:Pz α):Prop:=∀ r,r.length<=n->p r=q r
theorem Agz.rfl' {n:Nat} {p:Pz α}:Agz n p p:=λ_ _=>rfl
theorem Agz.bind {n:Nat} {p q:Pz α} {f g:α->Pz β} (hp:Shr p) (h:Agz n p q) (k:∀ a,Agz n (f a) (g a)):Agz n (cK p f) (cK q g):=λr hr =>
 Rs.bind_congr (h r hr) λa r' e=>k a r' (cN (hp _ _ _ e) hr)
theorem Agz.alt {n:Nat} {w:Str} {p q p' q':Pz α} (h:Agz (n - 1) p p') (k:Agz n q q'):Agz n (jH w p q) (jH w p' q'):=λr hr=>by
 unfold jH
 split
 ·rename_i e;have:=nJ e;exact h _ (by omega)
 ·exact k r hr
theorem Agz.altr {n:Nat} {w:Str} {p q p' q':Pz α} (h:Agz n p p') (k:Agz n q q'):Agz n (jH w p q) (jH w p' q'):=.alt (λr hr=>h r (by omega)) k
end
theorem Shs.blk {b:Pz (List Sm)} (h:Shr b):Shs (qP b):=.bind (.nd _) λ_=>.bind h λ_=>.bind (Shs.nd _).le λ_=>.pure _
theorem Shr.els {b:Pz (List Sm)} (h:Shr b):Shr (FS b):=.alt (Shs.blk h).le (.pure _)
theorem Shr.oth {b:Pz (List Sm)} (h:Shr b):Shr (vD b):=.alt (Shs.blk h).le (.bind (Shs.nd _).le λ_=>.pure _)
theorem Shs.st {b:Pz (List Sm)} (h:Shr b):Shs (gSt b) :=
 .alt (.bind Shs.ex.le λ_=>.bind (Shs.blk h).le λ_=>.bind (.els h) λ_=>.pure _)<|.alt (.bind Shs.ex.le λ_=>.bind (Shs.blk h).le λ_=>.pure _)<|.alt (.bind Shs.ex.le λ_=>.bind (Shs.nd _).le λ_=>.bind Shs.ex.le λ_=>.bind (.oth h) λ_=>.pure _)<|.alt (.bind Shs.nm.le λ_=>.bind (Shs.nd _).le λ_=>.bind Shs.ex.le λ_=>.bind (.oth h) λ_=>.pure _)<|.alt (.bind Shs.nm.le λ_=>.bind (Shs.nd _).le λ_=>.bind Shs.nm.le λ_=>.bind (Shs.list Shs.ex.le).le λ_=>.bind (Shs.nd _).le λ_=>.pure _)<|.alt (.bind Shs.ex.le λ_=>.bind (Shs.nd _).le λ_=>.bind Shs.nm.le λ_=>.bind (Shs.list Shs.ex.le).le λ_=>.bind (Shs.nd _).le λ_=>.pure _)<|.alt (.bind (Shs.nd _).le λ_=>.pure _)<|.alt (.bind Shs.nm.le λ_=>.bind (Shs.nd _).le λ_=>.bind Shs.ex.le λ_=>.bind (Shs.nd _).le λ_=>.bind (Shs.nd _).le λ_=>.pure _)<|.bind .nm λ_=>.alt (.bind Shs.ex.le λ_=>.bind (Shs.nd _).le λ_=>.bind (Shs.nd _).le λ_=>.bind Shs.ex.le λ_=>.bind (Shs.nd _).le λ_=>.pure _) (.bind (Shs.nd _).le λ_=>.bind Shs.ex.le λ_=>.bind (Shs.nd _).le λ_=>.pure _)
theorem Agz.blk {b c:Pz (List Sm)} (h:Agz n b c) (hb:Shr b):Agz n (qP b) (qP c):=.bind (Shs.nd _).le .rfl' λ_=>.bind hb h λ_=>.rfl'
theorem Agz.els {b c:Pz (List Sm)} (h:Agz n b c) (hb:Shr b):Agz n (FS b) (FS c):=.altr (.blk h hb) .rfl'
theorem Agz.oth {b c:Pz (List Sm)} (h:Agz n b c) (hb:Shr b):Agz n (vD b) (vD c):=.altr (.blk h hb) .rfl'
theorem Agz.st {b c:Pz (List Sm)} (h:Agz (n - 1) b c) (hb:Shr b):Agz n (gSt b) (gSt c) :=
 .alt (.bind Shs.ex.le .rfl' λ_=>.bind (Shs.blk hb).le (.blk h hb) λ_=>.bind (.els hb) (.els h hb) λ_=>.rfl')<|.alt (.bind Shs.ex.le .rfl' λ_=>.bind (Shs.blk hb).le (.blk h hb) λ_=>.rfl')<|.alt (.bind Shs.ex.le .rfl' λ_=>.bind (Shs.nd _).le .rfl' λ_=>.bind Shs.ex.le .rfl' λ_=>.bind (.oth hb) (.oth h hb) λ_=>.rfl')<|.alt (.bind Shs.nm.le .rfl' λ_=>.bind (Shs.nd _).le .rfl' λ_=>.bind Shs.ex.le .rfl' λ_=>.bind (.oth hb) (.oth h hb) λ_=>.rfl') .rfl'
theorem FT:∀ f,Shr (gBF f)
 | 0=>λ_ _ _ e=>by cases e
 | f+1=>λr a r' e=>by
  unfold gBF at e
  split at e
  ·injection e with _ e;subst e;exact aK _
  ·obtain ⟨s,q,h1,h2⟩:=Rs.bind_ok e;obtain ⟨l,q2,h3,h4⟩:=Rs.bind_ok h2;injection h4 with _ h4;subst h4
   have:=(Shs.st (FT f)) _ _ _ h1;have:=FT f _ _ _ h3;omega
theorem Shr.b:Shr gB:=λ_ _ _ e=>FT _ _ _ _ e
theorem MU:∀ (f g:Nat) (r:List Tk),r.length<f->r.length<g->gBF f r=gBF g r
 | 0,_,_,k,_=>by omega
 | _,0,_,_,k=>by omega
 | f+1,g+1,[],_,_=>rfl
 | f+1,g+1,t::r,k1,k2=>by
  unfold gBF;simp only [aH] at k1 k2;refine ifC rfl (Rs.bind_congr (Agz.st (n:=(t::r).length) (λq hq=>?_) (FT f) _ (aK _)) λs q e=>?_)
  ·simp only [aH] at hq;exact MU f g q (by omega) (by omega)
  ·have:=(Shs.st (FT f)) _ _ _ e;simp only [aH] at this;exact Rs.bind_congr (MU f g q (by omega) (by omega)) λ_ _ _=>rfl
theorem TJ (r:List Tk):gB r=if isT [125] r then .ok [] r else (gSt gB r).bind λs r1=>(gB r1).bind λl r2=>.ok (s::l) r2:=by
 match r with
 | []=>rfl
 | t::r =>
  conv=>lhs;unfold gB;unfold gBF
  refine ifC rfl (Rs.bind_congr (Agz.st (n:=(t::r).length) (λq hq=>?_) (FT _) _ (aK _)) λs q e=>?_)
  ·simp only [aH] at hq;exact MU _ _ q (by simp only [aH];omega) (by omega)
  ·have:=(Shs.st (FT _)) _ _ _ e;exact Rs.bind_congr (MU _ _ q (by omega) (by omega)) λ_ _ _=>rfl
def hdO (r:List Tk):Option Kt:=r.head?.map kt
def hdC (k:List Kt) (o:Option Kt):Option Kt:=match k with | []=>o | x::_=>some x
theorem aD9 {l r:List Tk} {k:List Kt} (h:l.map kt=k):hdO (l++r)=hdC k (hdO r):=by
 subst h;cases l <;> rfl
def WC (_:Option Kt):Prop:=True
def aC4 (w:Str):Option Kt->Prop
 | none=>True
 | some x=>isK w x=false
def cV2:Option Kt->Prop
 | none=>True
 | some x=>(∀ i∈List.range 5,opK i x=none)/\isK [91] x=false
theorem aD6 (w:Str) (r:List Tk):isT w r=match hdO r with | none=>false | some x=>isK w x:=by cases r <;> rfl
variable {w:Str}
theorem cA9 {r:List Tk} (h:aC4 w (hdO r)):isT w r=false:=by
 rw [aD6];cases e:hdO r with
 | none=>rfl
 | some x=>rw [e] at h;exact h
section
variable {α β:Type}
def Rdc (p:Pz α) (ks:List Kt) (v:α) (C:Option Kt->Prop):Prop:=∀ le r,le.map kt=ks->C (hdO r)->p (le++r)=.ok v r
variable {k k1 k2:List Kt} {v a:α} {C C1 C2:Option Kt->Prop} {w:Str} {x:Kt}
theorem Rdc.pure:Rdc (eR v) [] v C:=λle r e _=>by
 obtain rfl:=gR.1 e;rfl
theorem Rdc.seq {p:Pz α} {f:α->Pz β} {b:β} (h1:Rdc p k1 a C1) (hc:∀ o,C2 o->C1 (hdC k2 o)) (h2:Rdc (f a) k2 b C2):Rdc (cK p f) (k1++k2) b C2:=λle r e c=>by
 obtain ⟨l1,l2,rfl,e1,e2⟩:=kD.1 e;unfold cK;rw [aQ,h1 l1 (l2++r) e1 (by rw [aD9 e2];exact hc _ c)];exact h2 l2 r e2 c
theorem Rdc.nd {f:Unit->Pz β} {b:β} (hx:isK w x=true) (h:Rdc (f ()) k b C):Rdc (cK (gNd w) f) (x::k) b C:=λle r e c=>by
 obtain ⟨t,l,rfl,ht,hl⟩:=dG.1 e;unfold cK gNd;rw [aR,iF,ht,hx];exact h l r hl c
theorem Rdc.nm {f:Str->Pz β} {b:β} (h:Rdc (f w) k b C):Rdc (cK gNm f) ((1,w)::k) b C:=λle r e c=>by
 obtain ⟨t,l,rfl,ht,hl⟩:=dG.1 e;have h1:t.k=1:=congrArg Prod.fst ht;have h2:t.t=w:=congrArg Prod.snd ht;unfold cK gNm;rw [aR];simp only [h1,h2,aN];exact h l r hl c
theorem Rdc.nm1:Rdc gNm [(1,w)] w C:=λle r e c=>by
 obtain ⟨t,l,rfl,ht,hl⟩:=dG.1 e;obtain rfl:=gR.1 hl;have h1:t.k=1:=congrArg Prod.fst ht;have h2:t.t=w:=congrArg Prod.snd ht;unfold gNm;rw [aR];simp only [h1,h2,aN]
 rfl
theorem Rdc.nu {u:Nat} (h:u<=9223372036854775807):Rdc gNu [(3,Lib.decDigits u)] (Int64.ofNat u) C:=λle r e c=>by
 obtain ⟨t,l,rfl,ht,hl⟩:=dG.1 e;obtain rfl:=gR.1 hl;have h1:t.k=3:=congrArg Prod.fst ht;have h2:t.t=Lib.decDigits u:=congrArg Prod.snd ht;unfold gNu;rw [aR];simp only [h1,h2,aN,QE,h]
 rfl
theorem Rdc.altT {p q:Pz α} (hx:isK w x=true) (h:Rdc p k v C):Rdc (jH w p q) (x::k) v C:=λle r e c=>by
 obtain ⟨t,l,rfl,ht,hl⟩:=dG.1 e;unfold jH;rw [aR,iF,ht,hx];exact h l r hl c
theorem Rdc.altF {p q:Pz α} (hx:isK w x=false) (h:Rdc q (x::k) v C):Rdc (jH w p q) (x::k) v C:=λle r e c=>by
 have h2:=h le r e c;obtain ⟨t,l,rfl,ht,hl⟩:=dG.1 e;unfold jH;rw [aR,iF,ht,hx];exact h2
theorem Rdc.altE {p q:Pz α} (hc:∀ o,C o->aC4 w o) (h:Rdc q [] v C):Rdc (jH w p q) [] v C:=λle r e c=>by
 have h2:=h le r e c;obtain rfl:=gR.1 e;unfold jH;rw [bU,cA9 (hc _ c),aA (by decide)];exact h2
theorem Rdc.many {p:Pz α} (hp:Shr p) (hx:isK w x=true) {g:α->List Kt} {Cp:Option Kt->Prop} (h1:Cp (some x)) (hc:∀ o,C o->Cp o/\aC4 w o):∀ l:List α,(∀ a∈l,Rdc p (g a) a Cp)->Rdc (jV w p) ((l.map λa=>x::g a).flatten) l C
 | [],_=>by
  rw [CR hp];exact .altE (λo c=>(hc o c).2) .pure
 | a::l,h=>by
  have ih:=Rdc.many hp hx h1 hc l λb hb=>h b (gA _ hb);rw [CR hp];simp only [dT,eY,aR];refine .altT hx (.seq (h a (eE ..)) (λo c=>?_) ?_)
  ·cases l with
   | nil=>exact (hc o c).1
   | cons b l=>exact h1
  ·have:=Rdc.seq (f:=λl=>eR (a::l)) (k2:=[]) ih (λo c=>c) .pure
   rwa [aX] at this
def bO4 (l:List (List Kt)):List Kt:=(l.map λk=>(4,[44])::k).flatten
def cV7:List (List Kt)->List Kt
 | []=>[]
 | k::l=>k++bO4 l
def aM3 (l:List (List Kt)):List Kt:=(4,[40])::(cV7 l++[(4,[41])])
theorem Rdc.list {p:Pz α} (hp:Shr p) {g:α->List Kt} {Cp:Option Kt->Prop} (h1:Cp (some (4,[44]))) (h2:Cp (some (4,[41]))) {l:List α} (h:∀ a∈l,Rdc p (g a) a Cp) (hg:∀ a∈l,∃ x k,g a=x::k/\isK [41] x=false):Rdc (jN p) (aM3 (l.map g)) l C:=by
 refine .nd Z ?_;cases l with
 | nil=>exact .altT rfl .pure
 | cons a l =>
  obtain ⟨x,k,e,hk⟩:=hg a (eE ..);have ha:=h a (eE ..)
  have hm:Rdc (jV [44] p) (bO4 (l.map g)) l (λo=>o=some (4,[41])):=by
   have:=Rdc.many (C:=λo=>o=some (4,[41])) hp (w:=[44]) (x:=(4,[44])) rfl (g:=g) h1 (λo c=>by subst c;exact ⟨h2,Z⟩) l λb hb=>h b (gA _ hb);unfold bO4
   rwa [BK]
  have key:Rdc (cK p λa=>cK (jV [44] p) λl=>cK (gNd [41]) λ_=>eR (a::l)) (g a++(bO4 (l.map g)++[(4,[41])])) (a::l) C:=by
   refine .seq ha (λo c=>?_) (.seq hm (λo c=>rfl) (.nd Z .pure));cases l with
   | nil=>exact h2
   | cons b l=>exact h1
  simp only [dT,cV7,aQ];rw [e] at key|-;exact .altF hk key
end
def stK (kd:UInt8) (nm hd:Str) (es:List (List Kt)) (T:List Kt) (noE:Bool) (E:List Kt):List Kt :=
 if kd=1 then (1,nm)::(4,[61])::(es.getD 0 []++[(4,[59])])
 else if kd=2 then (1,nm)::(4,[91])::(es.getD 0 []++(4,[93])::(4,[61])::(es.getD 1 []++[(4,[59])]))
 else if kd=3 then (2,[100,101,108,101,116,101])::(1,nm)::(4,[91])::(es.getD 0 []++[(4,[93]),(4,[59])])
 else if kd=4 then (2,[105,102])::(es.getD 0 []++((4,[123])::(T++[(4,[125])])++if noE then [] else (2,[101,108,115,101])::(4,[123])::(E++[(4,[125])])))
 else if kd=5 then (2,[119,104,105,108,101])::(es.getD 0 []++(4,[123])::(T++[(4,[125])]))
 else if kd=6 then (2,[115,101,110,100])::(1,nm)::(4,[46])::(1,hd)::(aM3 es++[(4,[59])])
 else if kd=7 then (2,[97,102,116,101,114])::(es.getD 0 []++(2,[100,111])::(1,hd)::(aM3 (es.drop 1)++[(4,[59])]))
 else if kd=8 then (2,[115,116,111,114,101])::(es.getD 0 []++(4,[61])::(es.getD 1 []++if noE then [(4,[59])] else (2,[101,108,115,101])::(4,[123])::(E++[(4,[125])])))
 else if kd=9 then (2,[102,101,116,99,104])::(1,nm)::(4,[61])::(es.getD 0 []++if noE then [(4,[59])] else (2,[101,108,115,101])::(4,[123])::(E++[(4,[125])]))
 else [(2,[115,116,111,112]),(4,[59])]
mutual
def ktS:Sm->List Kt
 | .mk kd nm hd ex th el=>stK kd nm hd (ex.map ktE) (CO th) (decide (el.length=0)) (CO el)
def CO:List Sm->List Kt
 | []=>[]
 | s::r=>ktS s++CO r
end
theorem CP (kd:UInt8) (nm hd:Str) (ex:List Ex) (th el:List Sm):ktS (.mk kd nm hd ex th el)=stK kd nm hd (ex.map ktE) (CO th) (decide (el.length=0)) (CO el):=by rw [ktS]
theorem Rdc.ex {e:Ex} (h:Ex.all lP e=true):Rdc gEx (ktE e) e cV2:=λle r hk c=>by
 obtain ⟨h1,h2⟩:=cW0 e h;refine h1.full hk (by omega) h2 ⟨λi _ h4=>?_,?_⟩
 ·cases r with
  | nil=>unfold opAt isT;simp
  | cons t r=>exact c.1 i (bQ.2 (by omega))
 ·cases r with
  | nil=>rfl
  | cons t r=>exact c.2
theorem cX9 (e:Ex):Ex.all lP e=true->∃ x k,ktE e=x::k/\isK [41] x=false:=by
 induction e using Ex.ind with
 | _ op nm n args ih =>
  intro h;rw [nK,aF] at h;obtain ⟨hf,hr⟩:=h;have ha:∀ a∈args,∃ x k,ktE a=x::k/\isK [41] x=false:=λa m=>ih a m (iV m hr);simp only [lP,aF,cO,aB] at hf;obtain ⟨⟨⟨hop,hl⟩,_⟩,_⟩:=hf
  by_cases h1:op=1
  ·subst h1;exact ⟨_,_,Z,by simp [isK]⟩
  by_cases hb:op∈([11,12,13,14,15,16,17,18,19,20,21,22,23]:List UInt8)
  ·obtain ⟨b1,_⟩:=FD op hb;obtain ⟨a,b,rfl⟩:=zC (l:=args) (by omega);rw [aD5 hb];unfold JN
   split
   ·exact ⟨_,_,Z,Z⟩
   ·obtain ⟨x,k,e,hx⟩:=ha a (by simp);rw [e];exact ⟨_,_,Z,hx⟩
  have hs:op=2\/op=3\/op=4\/op=5\/op=6\/op=7\/op=8\/op=9\/op=10:=((SV hop).resolve_left h1).resolve_left hb;rcases hs with rfl | rfl | rfl | rfl | rfl | rfl | rfl | rfl | rfl
  all_goals first | exact ⟨_,_,Z,Z⟩ | exact ⟨_,_,Z,by decide⟩
theorem Rdc.exs {C:Option Kt->Prop} {l:List Ex} (h:∀ a∈l,Ex.all lP a=true):Rdc (jN gEx) (aM3 (l.map ktE)) l C :=
 .list Shs.ex.le ⟨by decide,by decide⟩ ⟨by decide,by decide⟩ (λa ha=>.ex (h a ha)) λa ha=>cX9 a (h a ha)
def bO2 (o:Option Kt):Prop:=o=some (4,[125])
theorem Rdc.blk {C:Option Kt->Prop} {l:List Sm} (h:Rdc gB (CO l) l bO2):Rdc (qP gB) ((4,[123])::(CO l++[(4,[125])])) l C :=
 .nd rfl (.seq h (λ_ _=>rfl) (.nd rfl .pure))
theorem aV9 {kd:UInt8} (h:uI kd=true):kd=1\/kd=2\/kd=3\/kd=4\/kd=5\/kd=6\/kd=7\/kd=8\/kd=9\/kd=10:=by
 simp only [uI,aF,aB] at h;have key:∀ i∈List.range 11,1<=i->(UInt8.ofNat i=1\/UInt8.ofNat i=2\/UInt8.ofNat i=3\/UInt8.ofNat i=4\/UInt8.ofNat i=5\/UInt8.ofNat i=6\/UInt8.ofNat i=7\/UInt8.ofNat i=8\/UInt8.ofNat i=9\/UInt8.ofNat i=10):=by decide
 have:=key kd.toNat (bQ.2 (by omega)) h.1
 rwa [oH] at this
theorem cF1 {l:List Ex} (h:l.length=1) (hf:Ex.alls lP l=true):∃ a,l=[a]/\Ex.all lP a=true:=by
 obtain ⟨a,rfl⟩:=NC h;exact ⟨a,Z,iV (by simp) hf⟩
theorem dD8 {l:List Ex} (h:l.length=2) (hf:Ex.alls lP l=true):∃ a b,l=[a,b]/\Ex.all lP a=true/\Ex.all lP b=true:=by
 obtain ⟨a,b,rfl⟩:=zC h;exact ⟨a,b,Z,iV (by simp) hf,iV (by simp) hf⟩
inductive FmS:Sm->Prop where
 | k1 {nm:Str} {a:Ex} (ha:Ex.all lP a=true):FmS (.mk 1 nm [] [a] [] [])
 | k2 {nm:Str} {a b:Ex} (ha:Ex.all lP a=true) (hb:Ex.all lP b=true):FmS (.mk 2 nm [] [a,b] [] [])
 | k3 {nm:Str} {a:Ex} (ha:Ex.all lP a=true):FmS (.mk 3 nm [] [a] [] [])
 | k4 {a:Ex} {th el:List Sm} (ha:Ex.all lP a=true):FmS (.mk 4 [] [] [a] th el)
 | k5 {a:Ex} {th:List Sm} (ha:Ex.all lP a=true):FmS (.mk 5 [] [] [a] th [])
 | k6 {nm hd:Str} {l:List Ex} (hl:∀ a∈l,Ex.all lP a=true):FmS (.mk 6 nm hd l [] [])
 | k7 {hd:Str} {a:Ex} {l:List Ex} (ha:Ex.all lP a=true) (hl:∀ a∈l,Ex.all lP a=true):FmS (.mk 7 [] hd (a::l) [] [])
 | k8 {a b:Ex} {el:List Sm} (ha:Ex.all lP a=true) (hb:Ex.all lP b=true):FmS (.mk 8 [] [] [a,b] [] el)
 | k9 {nm:Str} {a:Ex} {el:List Sm} (ha:Ex.all lP a=true):FmS (.mk 9 nm [] [a] [] el)
 | k10:FmS (.mk 10 [] [] [] [] [])
theorem XZ {s:Sm} (h:BE s=true):FmS s:=by
 obtain ⟨kd,nm,hd,ex,th,el⟩:=s;simp only [BE,aF,cO,aB] at h;obtain ⟨⟨⟨⟨⟨⟨⟨hk,h1⟩,h2⟩,h3⟩,h4⟩,h5⟩,h6⟩,h7⟩:=h;have z:∀ {l:List Sm},l.length=0->l=[]:=cQ;rcases aV9 hk with rfl | rfl | rfl | rfl | rfl | rfl | rfl | rfl | rfl | rfl
 ·obtain rfl:=h4.resolve_left (by decide);obtain rfl:=z (h5.resolve_left (by decide));obtain rfl:=z (h6.resolve_left (by decide));obtain ⟨a,rfl,ha⟩:=cF1 (lZ h2 h1) h7;exact .k1 ha
 ·obtain rfl:=h4.resolve_left (by decide);obtain rfl:=z (h5.resolve_left (by decide));obtain rfl:=z (h6.resolve_left (by decide));obtain ⟨a,b,rfl,ha,hb⟩:=dD8 (lZ h2 h1) h7;exact .k2 ha hb
 ·obtain rfl:=h4.resolve_left (by decide);obtain rfl:=z (h5.resolve_left (by decide));obtain rfl:=z (h6.resolve_left (by decide));obtain ⟨a,rfl,ha⟩:=cF1 (lZ h2 h1) h7;exact .k3 ha
 ·obtain rfl:=h3.resolve_left (by decide);obtain rfl:=h4.resolve_left (by decide);obtain ⟨a,rfl,ha⟩:=cF1 (lZ h2 h1) h7;exact .k4 ha
 ·obtain rfl:=h3.resolve_left (by decide);obtain rfl:=h4.resolve_left (by decide);obtain rfl:=z (h6.resolve_left (by decide));obtain ⟨a,rfl,ha⟩:=cF1 (lZ h2 h1) h7;exact .k5 ha
 ·obtain rfl:=z (h5.resolve_left (by decide));obtain rfl:=z (h6.resolve_left (by decide));exact .k6 λa ha=>iV ha h7
 ·obtain rfl:=h3.resolve_left (by decide);obtain rfl:=z (h5.resolve_left (by decide));obtain rfl:=z (h6.resolve_left (by decide));cases ex with
  | nil=>exact absurd h1 (by decide)
  | cons a l=>exact .k7 (iV (by simp) h7) λb hb=>iV (by simp [hb]) h7
 ·obtain rfl:=h3.resolve_left (by decide);obtain rfl:=h4.resolve_left (by decide);obtain rfl:=z (h5.resolve_left (by decide));obtain ⟨a,b,rfl,ha,hb⟩:=dD8 (lZ h2 h1) h7;exact .k8 ha hb
 ·obtain rfl:=h4.resolve_left (by decide);obtain rfl:=z (h5.resolve_left (by decide));obtain ⟨a,rfl,ha⟩:=cF1 (lZ h2 h1) h7;exact .k9 ha
 ·obtain rfl:=h3.resolve_left (by decide);obtain rfl:=h4.resolve_left (by decide);obtain rfl:=z (h5.resolve_left (by decide));obtain rfl:=z (h6.resolve_left (by decide));obtain rfl:=YR (Nat.le_zero.1 h2);exact .k10
theorem cC6 {s:Sm} (h:FmS s):∃ x k,ktS s=x::k/\isK [125] x=false/\isK [101,108,115,101] x=false:=by
 cases h <;> rw [CP] <;> exact ⟨_,_,Z,Z,Z⟩
def RdS (s:Sm):Prop:=Rdc (gSt gB) (ktS s) s (aC4 [101,108,115,101])
theorem aB2 {x:Kt} (h1:(List.range 5).all (λi=>(opK i x).isNone)=true) (h2:isK [91] x=false):cV2 (some x):=⟨λi hi=>by simpa using aP.1 h1 i hi,h2⟩
theorem Rdc.oth {C:Option Kt->Prop} {el:List Sm} (h:Rdc gB (CO el) el bO2):Rdc (vD gB) (if decide (el.length=0)=true then [(4,[59])] else (2,[101,108,115,101])::(4,[123])::(CO el++[(4,[125])])) el C:=by
 split
 ·rename_i e;obtain rfl:=cQ (dF e);exact .altF Z (.nd Z .pure)
 ·exact .altT Z (.blk h)
theorem bF2 (el:List Sm) (o:Option Kt):cV2 (hdC (if decide (el.length=0)=true then [(4,[59])] else (2,[101,108,115,101])::(4,[123])::(CO el++[(4,[125])])) o):=by
 split <;> exact aB2 rfl rfl
theorem Rdc.st {s:Sm} (h:FmS s) (ht:∀ nm hd kd ex th el,s=.mk kd nm hd ex th el->Rdc gB (CO th) th bO2/\Rdc gB (CO el) el bO2):RdS s:=by
 unfold RdS;cases h with
 | k1 ha=>exact .altF rfl<|.altF rfl<|.altF rfl<|.altF rfl<|.altF rfl<|.altF rfl<|.altF rfl<|.altF rfl<|.nm<|.altF rfl<|.nd rfl<|.seq (.ex ha) (λ_ _=>aB2 rfl rfl)<|.nd rfl .pure
 | k2 ha hb=>exact .altF rfl<|.altF rfl<|.altF rfl<|.altF rfl<|.altF rfl<|.altF rfl<|.altF rfl<|.altF rfl<|.nm<|.altT rfl<|.seq (.ex ha) (λ_ _=>aB2 rfl rfl)<|.nd rfl<|.nd rfl<|.seq (.ex hb) (λ_ _=>aB2 rfl rfl)<|.nd rfl .pure
 | k3 ha=>exact .altF rfl<|.altF rfl<|.altF rfl<|.altF rfl<|.altF rfl<|.altF rfl<|.altF rfl<|.altT rfl<|.nm<|.nd rfl<|.seq (.ex ha) (λ_ _=>aB2 rfl rfl)<|.nd rfl<|.nd rfl .pure
 | @k4 a th el ha =>
  obtain ⟨h1,h2⟩:=ht _ _ _ _ _ _ rfl;refine .altT Z<|.seq (.ex ha) (λ_ _=>aB2 Z Z)<|.seq (C1:=WC) (.blk h1) (λ_ _=>trivial) ?_
  split
  ·rename_i e;obtain rfl:=cQ (dF e);exact Rdc.seq (k1:=[]) (k2:=[]) (C1:=aC4 [101,108,115,101]) (.altE (λo c=>c) .pure) (λo c=>c) .pure
  ·have:=Rdc.seq (C2:=aC4 [101,108,115,101]) (f:=λl=>eR (Sm.mk 4 [] [] [a] th l)) (k2:=[]) (C1:=WC) (.altT (w:=[101,108,115,101]) (q:=eR []) (x:=(2,[101,108,115,101])) rfl (.blk h2)) (λo c=>trivial) .pure
   rwa [aX] at this
 | @k5 a th ha =>
  obtain ⟨h1,_⟩:=ht _ _ _ _ _ _ rfl;have:=Rdc.seq (C2:=aC4 [101,108,115,101]) (f:=λt=>eR (Sm.mk 5 [] [] [a] t [])) (k2:=[]) (C1:=WC) (.blk h1) (λo c=>trivial) .pure;rw [aX] at this;exact .altF Z<|.altT Z<|.seq (.ex ha) (λ_ _=>aB2 Z Z) this
 | k6 hl=>exact .altF rfl<|.altF rfl<|.altF rfl<|.altF rfl<|.altT rfl<|.nm<|.nd rfl<|.nm<|.seq (C1:=WC) (.exs hl) (λ_ _=>trivial)<|.nd rfl .pure
 | k7 ha hl=>exact .altF rfl<|.altF rfl<|.altF rfl<|.altF rfl<|.altF rfl<|.altT rfl<|.seq (.ex ha) (λ_ _=>aB2 rfl rfl)<|.nd rfl<|.nm<|.seq (C1:=WC) (.exs hl) (λ_ _=>trivial)<|.nd rfl .pure
 | @k8 a b el ha hb =>
  obtain ⟨_,h2⟩:=ht _ _ _ _ _ _ rfl;have:=Rdc.seq (C2:=aC4 [101,108,115,101]) (f:=λl=>eR (Sm.mk 8 [] [] [a,b] [] l)) (k2:=[]) (C1:=WC) (.oth h2) (λo c=>trivial) .pure;rw [aX] at this;exact .altF Z<|.altF Z<|.altT Z<|.seq (.ex ha) (λ_ _=>aB2 Z Z)<|.nd Z<|.seq (.ex hb) (λo _=>bF2 el o) this
 | @k9 nm a el ha =>
  obtain ⟨_,h2⟩:=ht _ _ _ _ _ _ rfl;have:=Rdc.seq (C2:=aC4 [101,108,115,101]) (f:=λl=>eR (Sm.mk 9 nm [] [a] [] l)) (k2:=[]) (C1:=WC) (.oth h2) (λo c=>trivial) .pure;rw [aX] at this;exact .altF Z<|.altF Z<|.altF Z<|.altT Z<|.nm<|.nd Z<|.seq (.ex ha) (λo _=>bF2 el o) this
 | k10=>exact .altF rfl<|.altF rfl<|.altF rfl<|.altF rfl<|.altF rfl<|.altF rfl<|.altT rfl<|.nd rfl .pure
theorem Rdc.b:∀ (l:List Sm),(∀ s∈l,FmS s/\RdS s)->Rdc gB (CO l) l bO2
 | [],_=>λle r e c=>by
  obtain rfl:=gR.1 (by rw [CO] at e;exact e);rw [TJ,bU,aD6];have c:hdO r=some (4,[125]):=c;rw [c]
  rfl
 | s::l,h=>λle r e c=>by
  rw [CO] at e;obtain ⟨l1,l2,rfl,e1,e2⟩:=kD.1 e;obtain ⟨hf,hs⟩:=h s (eE ..);obtain ⟨x,k,hx,hx1,_⟩:=cC6 hf;have ih:=Rdc.b l (λa ha=>h a (gA _ ha)) l2 r e2 c
  have h2:=hs l1 (l2++r) e1 (by
   rw [aD9 e2];cases l with
   | nil=>rw [show hdC (CO []) (hdO r)=hdO r from rfl,show hdO r=some (4,[125]) from c];rfl
   | cons b l =>
    obtain ⟨y,k2,hy,_,hy2⟩:=cC6 (h b (by simp)).1;rw [CO,hy];exact hy2)
  rw [TJ,aQ,aD6,aD9 e1,hx];show (if isK [125] x=true then _ else _)=_;rw [hx1,aA (by decide),h2];show (gB (l2++r)).bind _=_;rw [ih]
  rfl
theorem tV {q:Sm->Bool}:∀ {l:List Sm} {a:Sm},a∈l->Sm.alls q l=true->Sm.all q a=true
 | b::l,a,h,k=>by
  rw [Sm.alls,aF] at k;rcases bJ.1 h with rfl | h
  ·exact k.1
  ·exact tV h k.2
theorem cL7 (s:Sm):Sm.all BE s=true->FmS s/\RdS s:=by
 induction s using Sm.ind with
 | _ kd nm hd ex th el ih1 ih2 =>
  intro h;rw [oM,aF,aF] at h;obtain ⟨⟨h1,h2⟩,h3⟩:=h;have hf:=XZ h1
  exact ⟨hf,.st hf λnm' hd' kd' ex' th' el' e=>by
   injection e with _ _ _ _ e1 e2
   subst e1 e2;exact ⟨.b _ λs hs=>ih1 s hs (tV hs h2),.b _ λs hs=>ih2 s hs (tV hs h3)⟩⟩
theorem Rdc.body {l:List Sm} (h:Sm.alls BE l=true):Rdc gB (CO l) l bO2:=.b l λs hs=>cL7 s (tV hs h)
/-! ### Fleets -/
def cU6 (b:Bool):Kt:=(2,if b then [116,114,117,101] else [102,97,108,115,101])
def fgK (f:Fg):List Kt:=[(1,f.nm),(4,[61]),cU6 f.init,(4,[59])]
def lkK (l:Lk):List Kt:=[(1,l.fr),(4,[45,62]),(1,l.to),(2,[108,97,116,101,110,99,121]),(3,Lib.decDigits l.lat.toInt.toNat),(4,[59])]
def cY2 (n:Int64):List Kt:=if n.toInt<0 then [(4,[45]),(3,Lib.decDigits (-n.toInt).toNat)] else [(3,Lib.decDigits n.toInt.toNat)]
def vrK (v:Vr):List Kt:=(1,v.nm)::(4,[58])::(if v.ty=1 then (2,[105,110,116])::(4,[61])::(cY2 v.init++[(4,[59])]) else if v.ty=2 then [(2,[98,111,111,108]),(4,[61]),cU6 (decide (v.init.toInt=1)),(4,[59])] else [(2,[116,97,98,108,101]),(4,[59])])
def hdK (h:Hd):List Kt:=(1,h.nm)::(aM3 (h.ps.map λp=>[(1,p)])++(4,[123])::(CO h.body++[(4,[125])]))
def vsK (v:List Hd):List Kt:=(v.map λh=>(2,[111,110])::hdK h).flatten
def vnK (n:Str) (v:List Hd):List Kt:=(2,[118,101,114,115,105,111,110])::(3,n)::(4,[123])::(vsK v++[(4,[125])])
def vmK:List (List Hd)->List Kt
 | [v]=>vnK [50] v
 | v::w::_=>vnK [50] v++vnK [51] w
 | []=>[]
def cpK (c:Cp):List Kt:=(1,c.nm)::(4,[123])::((c.vars.map λv=>(2,[118,97,114])::vrK v).flatten++(vsK (c.vers.headD [])++(vmK c.vers.tail++[(4,[125])])))
def ftK (f:Ft):List Kt:=(2,[102,108,101,101,116])::(1,f.nm)::(4,[123])::((f.flags.map λx=>(2,[102,108,97,103])::fgK x).flatten++((f.links.map λx=>(2,[108,105,110,107])::lkK x).flatten++((f.comps.map λx=>(2,[99,111,109,112,111,110,101,110,116])::cpK x).flatten++[(4,[125])])))
section
variable {C:Option Kt->Prop}
theorem Rdc.hd {h:Hd} (hf:HG h=true):Rdc gHd (hdK h) h C:=by
 have h1:Rdc (jN gNm) (aM3 (h.ps.map λp=>[(1,p)])) h.ps WC:=.list Shs.nm.le (Cp:=WC) trivial trivial (λa _=>.nm1) λa _=>⟨_,_,Z,by simp [isK]⟩;have h2:=Rdc.seq (C1:=WC) (C2:=C) (f:=λb=>eR (Hd.mk h.nm h.ps b)) (k2:=[]) (.blk (.body hf)) (λ_ _=>trivial) .pure;rw [aX] at h2;exact .nm<|.seq h1 (λ_ _=>trivial) h2
theorem Shs.hd:Shs gHd:=.bind .nm λ_=>.bind (Shs.list Shs.nm.le).le λ_=>.bind (Shs.blk Shr.b).le λ_=>.pure _
theorem Shs.tr:Shs gTr:=.alt (.pure _) (.bind (.nd _) λ_=>.pure _)
theorem Shs.fg:Shs gFg:=.bind .nm λ_=>.bind (Shs.nd _).le λ_=>.bind Shs.tr.le λ_=>.bind (Shs.nd _).le λ_=>.pure _
theorem Shs.lk:Shs gLk:=.bind .nm λ_=>.bind (Shs.nd _).le λ_=>.bind Shs.nm.le λ_=>.bind (Shs.nd _).le λ_=>.bind Shs.nu.le λ_=>.bind (Shs.nd _).le λ_=>.pure _
theorem Shs.int:Shs EZ:=.alt (.bind Shs.nu.le λ_=>.pure _) .nu
theorem Shs.vr:Shs gVr:=.bind .nm λ_=>.bind (Shs.nd _).le λ_=>.alt (.bind (Shs.nd _).le λ_=>.bind Shs.int.le λ_=>.bind (Shs.nd _).le λ_=>.pure _) (.alt (.bind (Shs.nd _).le λ_=>.bind Shs.tr.le λ_=>.bind (Shs.nd _).le λ_=>.pure _) (.bind (Shs.nd _).le λ_=>.bind (Shs.nd _).le λ_=>.pure _))
theorem Shr.vs:Shr gVs:=.many Shs.hd.le
theorem Shs.vn (n:Str):Shs (gVn n):=.bind (.nn _) λ_=>.bind (Shs.nd _).le λ_=>.bind .vs λ_=>.bind (Shs.nd _).le λ_=>.pure _
theorem Shr.vm:Shr gVm:=.alt (.bind (Shs.vn _).le λ_=>.alt (.bind (Shs.vn _).le λ_=>.pure _) (.pure _)) (.pure _)
theorem Shs.cp:Shs gCp:=.bind .nm λ_=>.bind (Shs.nd _).le λ_=>.bind (.many Shs.vr.le) λ_=>.bind .vs λ_=>.bind .vm λ_=>.bind (Shs.nd _).le λ_=>.pure _
end
structure Tok (x:Kt) (r:Str):Prop where
 ne:x.2≠[]
 read:bK (x.2++r)=(x.1,x.2.length)
 skip:fZ false (x.2++r)=x.2++r
 k5:x.1≠5
 sh:x.2.length<=1000000
inductive Lx:Str->List Kt->Prop where
 | nil:Lx [] []
 | blk {c:UInt8} {s:Str} {k:List Kt} (h:oV c=true) (l:Lx s k):Lx (c::s) k
 | tok {x:Kt} {s:Str} {k:List Kt} (h:Tok x s) (l:Lx s k):Lx (x.2++s) (x::k)
theorem Lx.toks {s:Str} {k:List Kt} (h:Lx s k):∀ (f o:Nat),(fZ false s).length<f->(GP f o (fZ false s)).map kt=k:=by
 induction h with
 | nil=>intro f o _;rw [yE,wQ];rfl
 | blk h _ ih=>intro f o hf;rw [NY h] at hf|-;exact ih f o hf
 | @tok x s k h _ ih =>
  intro f o hf;rw [h.skip] at hf|-
  match f,hf with
  | f+1,hf =>
   have hne:x.2++s≠[]:=by intro e;exact h.ne (iD.1 e).1
   rw [tU hne,h.read];simp only [oQ,List.drop_left,dT];have hl:=qQ false s;have h1:1<=x.2.length:=tI.2 h.ne;rw [ih f _ (by rw [aD] at hf;omega)]
   rfl
theorem Lx.lex {s:Str} {k:List Kt} (h:Lx s k):(sE s).map kt=k:=by
 unfold sE;have:=qQ false s;exact h.toks _ _ (by omega)
def BD (r:Str):Prop:=∀ c,r.head? = some c->kY c=false/\c≠46/\c≠61/\c≠62/\c≠47
def hdB (r:Str):Prop:=∀ c,r.head? = some c->c≠46/\c≠61/\c≠62/\c≠47
variable {r:Str}
theorem BD.hd (h:BD r):hdB r:=λc e=>(h c e).2
theorem kP {c:UInt8} (h:kY c=false/\c≠46/\c≠61/\c≠62/\c≠47):BD (c::r):=λd e=>by cases e;exact h
theorem fQ {c:UInt8} (h:c≠46/\c≠61/\c≠62/\c≠47):hdB (c::r):=λd e=>by cases e;exact h
theorem IK {q:UInt8->Bool}:∀ {w r:Str},w.all q=true->(∀ c,r.head? = some c->q c=false)->pre q (w++r)=w.length
 | [],[],_,_=>rfl
 | [],c::r,_,h=>by unfold pre;rw [bU,fW,h c rfl];rfl
 | a::w,r,hw,h=>by
  rw [sS,aF] at hw;have:=IK hw.2 h;unfold pre at this|-;rw [aR,fW,hw.1];simp [this]
theorem RI {q:UInt8->Bool}:∀ {w:Str},pre q w=w.length->w.all q=true
 | [],_=>rfl
 | a::w,h=>by
  unfold pre at h;rw [fW] at h;cases ha:q a with
  | false=>rw [ha] at h;simp at h
  | true =>
   rw [ha] at h;have:=RI (q:=q) (w:=w) (by unfold pre;simpa using h);rw [sS,ha,this];rfl
theorem TV {Q:UInt8->Prop} (h:∀ i∈List.range 256,Q (UInt8.ofNat i)) (c:UInt8):Q c:=by
 have:=h c.toNat (bQ.2 c.toNat_lt)
 rwa [oH] at this
theorem RS (c:UInt8) (h:rV c=true):oV c=false/\c≠47/\c≠46/\c≠61/\c≠62/\kY c=true/\kK c=false:=by
 revert h
 exact TV (Q:=λc=>rV c=true->oV c=false/\c≠47/\c≠46/\c≠61/\c≠62/\kY c=true/\kK c=false) (by decide +kernel) c
theorem bH8 (c:UInt8) (h:kK c=true):oV c=false/\c≠47/\c≠46/\c≠61/\c≠62/\rV c=false:=by
 revert h
 exact TV (Q:=λc=>kK c=true->oV c=false/\c≠47/\c≠46/\c≠61/\c≠62/\rV c=false) (by decide +kernel) c
theorem cO4 (c:UInt8) (h:kY c=false):kK c=false:=by
 revert h
 exact TV (Q:=λc=>kY c=false->kK c=false) (by decide +kernel) c
theorem bI9:∀ w∈words,w.length<=12:=by decide +kernel
theorem aI0 {k:UInt8} (h0:w≠[]) (hl:rV (w.headD 0)=true) (hw:w.all kY=true) (hk:(if words.contains w then (2:UInt8) else if w.length<=12 then 1 else 5)=k) (h5:k≠5) (hr:BD r):Tok (k,w) r:=by
 match w,h0 with
 | c::t,h0 =>
  have hlb:=RS c hl;have hp:pre kY ((c::t)++r)=(c::t).length:=IK hw λd hd=>(hr d hd).1;refine ⟨h0,?_,?_,h5,?_⟩
  ·show bK ((c::t)++r)=(k,(c::t).length);unfold bK;simp only;rw [show ((c::t)++r).headD 0=c from rfl,show rV c=true from hl,aE rfl,hp,oQ]
   split at hk
   ·rename_i e;rw [aE e,<-hk]
   ·rename_i e;rw [aA e]
    split at hk
    ·rename_i e2;rw [aE e2,<-hk]
    ·exact absurd hk.symm h5
  ·exact xS hlb.1 (λe=>hlb.2.1 e.1)
  ·show (c::t).length<=1000000
   split at hk
   ·rename_i e;have:=bI9 _ (iL.1 e);omega
   ·split at hk
    ·omega
    ·exact absurd hk.symm h5
theorem aM9:∀ w∈words,w≠[]/\rV (w.headD 0)=true/\w.all kY=true:=by decide +kernel
theorem bX2 (hw:w∈words) (hr:BD r):Tok (2,w) r:=by
 obtain ⟨h1,h2,h3⟩:=aM9 w hw;exact aI0 h1 h2 h3 (by rw [aE (iL.2 hw)]) (by decide) hr
theorem HB (h:fK w=true):w≠[]/\rV (w.headD 0)=true/\w.all kY=true/\words.contains w=false/\w.length<=12:=by
 have hlen:=tO h;simp only [fK,aF,aB,fC] at h;obtain ⟨⟨h0,h1⟩,h2⟩:=h
 match w,h0 with
 | c::t,h0 =>
  have hl:=bL2 h1
  have h3:words.contains ((c::t).take (pre kY (c::t)))=false/\pre kY (c::t)=(c::t).length:=by
   unfold bK at h1 h2;simp only [aG,hl,aN] at h1 h2
   split at h1
   ·simp at h1
   ·rename_i e;rw [aA e] at h2
    split at h1
    ·rename_i e2;rw [aE e2] at h2;exact ⟨by simpa using e,h2⟩
    ·simp at h1
  obtain ⟨h4,h5⟩:=h3;rw [h5,aI] at h4;exact ⟨h0,hl,RI h5,h4,hlen⟩
theorem bX1 (hw:fK w=true) (hr:BD r):Tok (1,w) r:=by
 obtain ⟨h1,h2,h3,h4,h5⟩:=HB hw;exact aI0 h1 h2 h3 (by rw [h4,aA (by decide),aE h5]) (by decide) hr
theorem RP (hw:fK w=true):hdB (w++r):=by
 obtain ⟨h1,h2,_⟩:=HB hw
 match w,h1 with
 | c::t,_=>have:=RS c h2;exact fQ ⟨this.2.2.1,this.2.2.2.1,this.2.2.2.2.1,this.2.1⟩
theorem TF (hw:w∈words):hdB (w++r):=by
 obtain ⟨h1,h2,_⟩:=aM9 w hw
 match w,h1 with
 | c::t,_=>have:=RS c h2;exact fQ ⟨this.2.2.1,this.2.2.2.1,this.2.2.2.2.1,this.2.1⟩
theorem YH:∀ (u:Nat),∃ c t,Lib.decDigits u=c::t/\(t=[]\/c≠48)/\(u≠0->c≠48):=by
 intro u;induction u using Nat.strongRecOn with
 | _ u ih =>
  by_cases h:u<10
  ·rw [Lib.decDigits_one h];refine ⟨_,[],Z,.inl rfl,λhu e=>?_⟩;have:=congrArg UInt8.toNat e;rw [Plain.digit_nat u h] at this;have h48:(48:UInt8).toNat=48:=rfl;omega
  ·rw [Plain.digits_more u h];obtain ⟨c,t,e,_,h2⟩:=ih (u / 10) (by omega);rw [e];exact ⟨c,_,Z,.inr (h2 (by omega)),λ_=>h2 (by omega)⟩
theorem cQ1 {u:Nat} (h:u<=9223372036854775808):(Lib.decDigits u).length<=21:=by
 have h1:=Lib.itoa_length_le (-(u:Int)) (by omega) (by omega)
 by_cases h0:u=0
 ·subst h0;decide +kernel
 ·rw [Lib.itoa,aE (by omega),show (-(u:Int)).natAbs=u by omega,aH] at h1;omega
theorem cF8 {n:Int64} :n.toInt.toNat<=9223372036854775808:=by have:=n.toInt_lt;omega
theorem cK1 {u:Nat} (hu:u<=9223372036854775808) (hr:BD r):Tok (3,Lib.decDigits u) r:=by
 have hdl:=cQ1 hu;obtain ⟨c,t,e,h2,_⟩:=YH u
 have hall:(Lib.decDigits u).all kK=true:=aP.2 λd hd=>by
  have:=Plain.digits_are u d hd;simp only [kK,aF,aB];exact this
 have hp:pre kK (Lib.decDigits u++r)=(Lib.decDigits u).length:=IK hall λd hd=>cO4 d (hr d hd).1;rw [e] at hall hp hdl|-;rw [sS,aF] at hall;have hb:=bH8 c hall.1;refine ⟨by simp,?_,xS hb.1 (λe=>hb.2.1 e.1),(show (3:UInt8)≠5 by decide),(by show (c::t).length<=1000000;omega)⟩;show bK ((c::t)++r)=(3,(c::t).length);unfold bK;simp only;rw [show ((c::t)++r).headD 0=c from rfl,hb.2.2.2.2.2,aA (by decide),hall.1,aE rfl,hp];refine aE ?_;rcases h2 with rfl | h2
 ·exact .inl Z
 ·exact .inr h2
theorem cA5 {u:Nat} :hdB (Lib.decDigits u++r):=by
 obtain ⟨c,t,e,_⟩:=YH u;have:=Plain.digits_are u c (by rw [e];simp);have hd:kK c=true:=by simp only [kK,aF,aB];exact this
 have hb:=bH8 c hd;rw [e];exact fQ ⟨hb.2.2.1,hb.2.2.2.1,hb.2.2.2.2.1,hb.2.1⟩
def cK2:Str:=[123,125,40,41,91,93,44,59,58,46,61,60,62,43,45,42,47,37]
theorem bE5 {c:UInt8} (hc:c∈cK2) (hr:hdB r):Tok (4,[c]) r:=by
 have hx:∀ d,r.head? = some d->d≠46/\d≠61/\d≠62/\d≠47:=hr;refine ⟨by simp,?_,?_,(show (4:UInt8)≠5 by decide),(by show (1:Nat)<=_;omega)⟩
 ·show bK (c::r)=(4,1);have hl:rV c=false/\kK c=false:=by revert c;decide
  have hf:symbols.find? (λx=>x.isPrefixOf (c::r))=some [c]:=by
   cases r with
   | nil=>revert c;decide
   | cons d t =>
    obtain ⟨e1,e2,e3,e4⟩:=hx d rfl;have b1:((46:UInt8) == d)=false:=yB (rR e1);have b2:((61:UInt8) == d)=false:=yB (rR e2);have b3:((62:UInt8) == d)=false:=yB (rR e3);simp only [cK2,bJ,List.not_mem_nil,or_false] at hc
    rcases hc with rfl | rfl | rfl | rfl | rfl | rfl | rfl | rfl | rfl | rfl | rfl | rfl | rfl | rfl | rfl | rfl | rfl | rfl <;>
     simp [symbols,List.find?,List.isPrefixOf,b1,b2,b3]
  unfold bK;simp only [aG,hl.1,hl.2,hf,aC,aL,gT]
 ·refine xS (by revert c;decide) ?_;rintro ⟨_,h⟩;exact (hx 47 h).2.2.2 rfl
def cV0:List Str:=[[61,61],[33,61],[60,61],[62,61],[45,62]]
theorem bE4 (hw:w∈cV0):Tok (4,w) r:=by
 simp only [cV0,bJ,List.not_mem_nil,or_false] at hw;rcases hw with rfl | rfl | rfl | rfl | rfl <;> refine ⟨by simp,?_,?_,(show (4:UInt8)≠5 by decide),(by show (2:Nat)<=_;omega)⟩ <;> simp [bK,rV,kK,symbols,List.find?,List.isPrefixOf,fZ,oV]
theorem sB:BD (32::r):=kP (by decide)
theorem aX3:BD (41::r):=kP (by decide)
theorem aF0:BD (91::r):=kP (by decide)
theorem aX7:BD (93::r):=kP (by decide)
theorem Lx.sp {k:List Kt} (h:Lx r k):Lx (32::r) k:=.blk (by decide) h
theorem Lx.sy {c:UInt8} {k:List Kt} (hc:c∈cK2) (hr:hdB r) (h:Lx r k):Lx (c::r) ((4,[c])::k):=.tok (x:=(4,[c])) (bE5 hc hr) h
theorem Lx.kw {k:List Kt} (hw:w∈words) (hr:BD r) (h:Lx r k):Lx (w++r) ((2,w)::k):=.tok (x:=(2,w)) (bX2 hw hr) h
theorem Lx.nm {k:List Kt} (hw:fK w=true) (hr:BD r) (h:Lx r k):Lx (w++r) ((1,w)::k):=.tok (x:=(1,w)) (bX1 hw hr) h
theorem Lx.nu {u:Nat} {k:List Kt} (hu:u<=9223372036854775808) (hr:BD r) (h:Lx r k):Lx (Lib.decDigits u++r) ((3,Lib.decDigits u)::k):=.tok (x:=(3,Lib.decDigits u)) (cK1 hu hr) h
def LxE (e:Ex):Prop:=∀ r ks,BD r->Lx r ks->Lx (e.text++r) (ktE e++ks)/\hdB (e.text++r)
variable {ks:List Kt}
theorem LxE.opnd {e:Ex} (h:LxE e) (n:Nat) (hr:BD r) (hk:Lx r ks):Lx (opT n (e.lv,e.text)++r) (JN n e.lv (ktE e)++ks)/\hdB (opT n (e.lv,e.text)++r):=by
 unfold opT JN;simp only
 split
 ·simp only [aR,bU,aQ];obtain ⟨h1,h2⟩:=h (41::r) ((4,[41])::ks) aX3 (.sy (by decide) hr.hd hk);exact ⟨.sy (by decide) h2 h1,fQ (by decide)⟩
 ·exact h r ks hr hk
theorem cH1:∀ op∈([11,12,13,14,15,16,17,18,19,20,21,22,23]:List UInt8),(cW op).tx=32::((KR op).2++[32])/\(((KR op).1=2/\(KR op).2∈words)\/((KR op).1=4/\((KR op).2∈cV0\/∃ c∈cK2,(KR op).2=[c]))):=by decide +kernel
theorem Lx.bin {op:UInt8} (h:op∈([11,12,13,14,15,16,17,18,19,20,21,22,23]:List UInt8)) {k:List Kt} (hk:Lx r k):Lx ((cW op).tx++r) (KR op::k):=by
 obtain ⟨h1,h2⟩:=cH1 op h;rw [h1];simp only [aR,aQ,bU];refine .sp ?_;have hs:=hk.sp;refine .tok (x:=KR op) ?_ hs;generalize KR op=x at h2;obtain ⟨k,w⟩:=x;rcases h2 with ⟨e,hw⟩ | ⟨e,hw | ⟨c,hc,hw⟩⟩
 ·obtain rfl:k=2:=e;exact bX2 hw sB
 ·obtain rfl:k=4:=e;exact bE4 hw
 ·obtain rfl:k=4:=e;obtain rfl:w=[c]:=hw;exact bE5 hc sB.hd
theorem cX7 (e:Ex):Ex.all lP e=true->Ex.all wS e=true->LxE e:=by
 induction e using Ex.ind with
 | _ op nm n args ih =>
  intro h hq;rw [nK,aF] at h hq;obtain ⟨hf,hr⟩:=h;obtain ⟨hg,hq⟩:=hq;have ha:∀ a∈args,LxE a:=λa m=>ih a m (iV m hr) (iV m hq);simp only [lP,aF,cO,aB] at hf;simp only [wS,cO,dY] at hg;obtain ⟨⟨⟨hop,hl⟩,hnm⟩,hn⟩:=hf;have hm:=MJ hop;intro r ks hs hk
  by_cases h1:op=1
  ·subst h1;rw [aE rfl,aB] at hn
   have e1:Ex.text (.mk 1 nm n args)=Lib.decDigits n.toInt.toNat:=by
    rw [Ex.text,txt,aE rfl,Lib.itoa,aA (by omega)]
   have e2:ktE (.mk 1 nm n args)=[(3,Lib.decDigits n.toInt.toNat)]:=by
    rw [ktE,ktx,aE rfl,Lib.itoa,aA (by omega)]
   rw [e1,e2];exact ⟨.nu cF8 hs hk,cA5⟩
  rw [aA h1,aB] at hn;obtain rfl:=aN5 hn
  by_cases hb:op∈([11,12,13,14,15,16,17,18,19,20,21,22,23]:List UInt8)
  ·obtain ⟨b1,_,_,_,_,_,_,g1,g2,g3,g4,g5,g6,g7⟩:=FD op hb;obtain ⟨a,b,rfl⟩:=zC (l:=args) (by omega)
   have e1:Ex.text (.mk op nm 0 [a,b])=opT (JO (cW op).lv) (a.lv,a.text)++(cW op).tx++opT ((cW op).lv+1) (b.lv,b.text):=by
    rw [Ex.text,txt,aA g1,aA (by simp [g2,g3]),aA (by simp [g4,g5]),aA (by simp [g6,g7]),aA (by omega)]
    rfl
   rw [e1,aD5 hb];simp only [aQ,aR];obtain ⟨k1,_⟩:=(ha b (by simp)).opnd ((cW op).lv+1) hs hk;have k2:=Lx.bin hb k1;refine (ha a (by simp)).opnd (JO (cW op).lv) ?_ k2;rw [(cH1 op hb).1];exact sB
  have hs9:op=2\/op=3\/op=4\/op=5\/op=6\/op=7\/op=8\/op=9\/op=10:=((SV hop).resolve_left h1).resolve_left hb
  have key:∀ a,LxE a->Lx (91::(a.text++93::r)) ((4,[91])::(ktE a++(4,[93])::ks)):=by
   intro a hA;obtain ⟨k1,k2⟩:=hA (93::r) ((4,[93])::ks) aX7 (.sy (by decide) hs.hd hk);exact .sy (by decide) k2 k1
  have hn5:(cW op).nm=true->fK nm=true:=λe=>hg.resolve_left (by rw [e];decide);rcases hs9 with rfl | rfl | rfl | rfl | rfl | rfl | rfl | rfl | rfl
  ·exact ⟨Lx.kw (w:=[116,114,117,101]) (by decide) hs hk,TF (w:=[116,114,117,101]) (by decide)⟩
  ·exact ⟨Lx.kw (w:=[102,97,108,115,101]) (by decide) hs hk,TF (w:=[102,97,108,115,101]) (by decide)⟩
  ·exact ⟨Lx.kw (w:=[110,111,119]) (by decide) hs hk,TF (w:=[110,111,119]) (by decide)⟩
  ·exact ⟨Lx.nm (hn5 rfl) hs hk,RP (hn5 rfl)⟩
  ·obtain ⟨a,rfl⟩:=NC hl;have e1:Ex.text (.mk 6 nm 0 [a])++r=nm++91::(a.text++93::r):=by rw [gN];simp [txt,cW,wJ,shapes]
   have e2:ktE (.mk 6 nm 0 [a])++ks=(1,nm)::(4,[91])::(ktE a++(4,[93])::ks):=by
    rw [show ktE (.mk 6 nm 0 [a])=(1,nm)::(4,[91])::(ktE a++[(4,[93])]) from rfl];simp
   rw [e1,e2];exact ⟨.nm (hn5 rfl) aF0 (key a (ha a (by simp))),RP (hn5 rfl)⟩
  ·obtain ⟨a,rfl⟩:=NC hl;have e1:Ex.text (.mk 7 nm 0 [a])++r=[104,97,115]++32::(nm++91::(a.text++93::r)):=by rw [gN];simp [txt,cW,wJ,shapes]
   have e2:ktE (.mk 7 nm 0 [a])++ks=(2,[104,97,115])::(1,nm)::(4,[91])::(ktE a++(4,[93])::ks):=by
    rw [show ktE (.mk 7 nm 0 [a])=(2,[104,97,115])::(1,nm)::(4,[91])::(ktE a++[(4,[93])]) from rfl];simp
   rw [e1,e2];exact ⟨.kw (by decide) sB (.sp (.nm (hn5 rfl) aF0 (key a (ha a (by simp))))),TF (by decide)⟩
  ·obtain rfl:=YR hl;have e1:Ex.text (.mk 8 nm 0 [])++r=[115,105,122,101]++32::(nm++r):=by rw [gN];simp [txt,cW,wJ,shapes]
   rw [e1];exact ⟨.kw (by decide) sB (.sp (.nm (hn5 rfl) hs hk)),TF (by decide)⟩
  ·obtain ⟨a,rfl⟩:=NC hl;obtain ⟨k1,k2⟩:=(ha a (by simp)).opnd 6 hs hk;have e1:Ex.text (.mk 9 nm 0 [a])++r=45::(opT 6 (a.lv,a.text)++r):=by rw [gN];rfl
   rw [e1];exact ⟨.sy (by decide) k2 k1,fQ (by decide)⟩
  ·obtain ⟨a,rfl⟩:=NC hl;obtain ⟨k1,k2⟩:=(ha a (by simp)).opnd 6 hs hk;have e1:Ex.text (.mk 10 nm 0 [a])++r=[110,111,116]++32::(opT 6 (a.lv,a.text)++r):=by rw [gN];rfl
   rw [e1];exact ⟨.kw (by decide) sB (.sp k1),TF (by decide)⟩
theorem Lx.nl {k:List Kt} (h:Lx r k):Lx (10::r) k:=.blk (by decide) h
theorem Lx.spT {r:Str} {k:List Kt}:∀ (n:Nat),Lx r k->Lx (spT n++r) k
 | 0,h=>h
 | n+1,h=>by
  rw [Go.Proofs.YthhoebdlfjffkaaGreatDoor.spT,aQ];exact Lx.spT n (.sp (.sp h))
theorem Lx.line {parts:List Str} {k:List Kt} (h:Lx (parts.flatten++10::r) k):Lx (kB n parts++r) k:=by
 unfold kB;rw [aQ,aQ];exact .spT n h
theorem Lx.to {k:List Kt} (h:Lx r k):Lx (45::62::r) ((4,[45,62])::k):=.tok (x:=(4,[45,62])) (bE4 (by decide)) h
theorem bJ4 (hw:fK w=true) (hr:∀ d,r.head? = some d->kY d=false):Tok (1,w) r:=by
 obtain ⟨h1,h2,h3,h4,h5⟩:=HB hw
 match w,h1 with
 | c::t,h1 =>
  have hlb:=RS c h2;have hp:pre kY ((c::t)++r)=(c::t).length:=IK h3 hr;refine ⟨h1,?_,xS hlb.1 (λe=>hlb.2.1 e.1),(show (1:UInt8)≠5 by decide),(by show (c::t).length<=1000000;omega)⟩;show bK ((c::t)++r)=(1,(c::t).length);unfold bK;simp only;rw [show ((c::t)++r).headD 0=c from rfl,show rV c=true from h2,aE rfl,hp,oQ,h4,aA (by decide),aE h5]
theorem Lx.nm2 {k:List Kt} (hw:fK w=true) (hr:∀ d,r.head? = some d->kY d=false) (h:Lx r k):Lx (w++r) ((1,w)::k):=.tok (x:=(1,w)) (bJ4 hw hr) h
def LxI (t:Str) (k:List Kt):Prop:=∀ r ks,BD r->Lx r ks->Lx (t++r) (k++ks)/\hdB (t++r)
variable {t:Str}
theorem LxI.one {k:List Kt} (h:LxI t k) (hr:BD r) (l:Lx r ks):Lx (t++r) (k++ks):=(h r ks hr l).1
theorem LxI.nm (h:fK w=true):LxI w [(1,w)]:=λr ks hr l=>⟨.nm h hr l,RP h⟩
theorem LxI.ex {e:Ex} (h:Ex.all lP e=true) (hq:Ex.all wS e=true):LxI e.text (ktE e):=cX7 e h hq
theorem bG0 {α:Type} {tx:α->Str} {g:α->List Kt}:∀ (l:List α) (r:Str) (ks:List Kt),(∀ a∈l,LxI (tx a) (g a))->BD r->Lx r ks->Lx (Lib.joinTail [44,32] (l.map tx)++r) (bO4 (l.map g)++ks)/\BD (Lib.joinTail [44,32] (l.map tx)++r)
 | [],r,ks,_,hr,h=>⟨h,hr⟩
 | a::l,r,ks,hl,hr,h=>by
  obtain ⟨h1,h2⟩:=bG0 l r ks (λb hb=>hl b (gA _ hb)) hr h;have h3:=hl a (eE ..) _ _ h2 h1;unfold Lib.joinTail bO4 at *;simp only [dT,eY,aR,aQ,bU];exact ⟨.sy (by decide) (fQ (by decide)) (.sp h3.1),kP (by decide)⟩
theorem aD1 {α:Type} {tx:α->Str} {g:α->List Kt} {l:List α} (hl:∀ a∈l,LxI (tx a) (g a)) (hr:hdB r) (h:Lx r ks):Lx (40::(wH (l.map tx)++41::r)) (aM3 (l.map g)++ks):=by
 have h0:Lx (41::r) ((4,[41])::ks):=.sy (by decide) hr h;unfold aM3 wH;cases l with
 | nil=>exact .sy (by decide) (fQ (by decide)) h0
 | cons a l =>
  simp only [dT,Lib.join_cons,cV7,aR,aQ,bU];obtain ⟨h1,h2⟩:=bG0 l (41::r) _ (λb hb=>hl b (gA _ hb)) aX3 h0;obtain ⟨h3,h4⟩:=hl a (eE ..) _ _ h2 h1;exact .sy (by decide) h4 h3
def LxS (s:Sm):Prop:=∀ n r ks,Lx r ks->Lx (Sm.text n s++r) (ktS s++ks)
def LxB (l:List Sm):Prop:=∀ n r ks,Lx r ks->Lx (Sm.texts n l++r) (CO l++ks)
theorem LxB.of:∀ {l:List Sm},(∀ s∈l,LxS s)->LxB l
 | [],_=>λn r ks h=>by rw [Sm.texts,CO];exact h
 | s::l,hs=>λn r ks h=>by
  rw [Sm.texts,CO,aQ,aQ];exact hs s (eE ..) n _ _ (LxB.of (λa ha=>hs a (gA _ ha)) n r ks h)
theorem wG {k:List Kt} (hw:w∈words) (h:Lx r k):Lx (w++32::r) ((2,w)::k):=.kw hw sB (.sp h)
theorem HC (h:Lx r ks):Lx (kB n [[125]]++r) ((4,[125])::ks):=.line (.sy (by decide) (fQ (by decide)) (.nl h))
theorem cB9 {el:List Sm} (hb:LxB el) {first:Str} {k:List Kt} (hf:LxI first k) (h:Lx r ks) :
 Lx (AW n first (decide (el.length=0)) (Sm.texts (n+1) el)++r) (k++((if decide (el.length=0)=true then [(4,[59])] else (2,[101,108,115,101])::(4,[123])::(CO el++[(4,[125])]))++ks)):=by
 unfold AW
 split
 ·refine .line ?_;simp only [eY,jS,aX,aQ,aR,bU];exact hf.one (kP (by decide)) (.sy (by decide) (fQ (by decide)) (.nl h))
 ·simp only [aQ];refine .line ?_;simp only [eY,jS,aX,aQ,aR,bU];exact hf.one sB (.sp (wG (w:=[101,108,115,101]) (by decide) (.sy (by decide) (fQ (by decide)) (.nl (hb _ _ _ (HC h))))))
theorem LxI.app {t2:Str} {k k2:List Kt} (h:LxI t k) (h2:∀ r ks,BD r->Lx r ks->Lx (t2++r) (k2++ks)/\BD (t2++r)):LxI (t++t2) (k++k2):=λr ks hr l=>by
 rw [aQ,aQ];obtain ⟨h3,h4⟩:=h2 r ks hr l;exact h _ _ h4 h3
theorem LxI.kw (hw:w∈words) {k:List Kt} (h:LxI t k):LxI (w++32::t) ((2,w)::k):=λr ks hr l=>by
 rw [aQ];exact ⟨wG hw (h r ks hr l).1,TF hw⟩
theorem LxI.eq {t2:Str} {k k2:List Kt} (h:LxI t k) (h2:LxI t2 k2):LxI (t++([32,32,61,32].drop 1++t2)) (k++(4,[61])::k2):=h.app λr ks hr l =>
 ⟨.sp (.sy (by decide) (fQ (by decide)) (.sp (h2.one hr l))),sB⟩
theorem cX8 {s:Sm} (h:FmS s) (hn:vB s=true) (hb:∀ nm hd kd ex th el,s=.mk kd nm hd ex th el->LxB th/\LxB el):LxS s:=by
 intro n r ks hk;cases h with
 | @k1 nm a ha =>
  simp only [vB,aF] at hn;have h1:fK nm=true:=by simpa [fM,uI,forms] using hn.1.1
  have h2:=LxI.ex ha (iV (eE ..) hn.2);refine .line ?_;rw [CP];simp [stK];exact .nm h1 sB<|.sp<|.sy (by decide) (fQ (by decide))<|.sp<|h2.one (kP (by decide))<|.sy (by decide) (fQ (by decide)) (.nl hk)
 | @k2 nm a b ha hb2 =>
  simp only [vB,aF] at hn;have h1:fK nm=true:=by simpa [fM,uI,forms] using hn.1.1
  have h2:=LxI.ex ha (iV (by simp) hn.2);have h3:=LxI.ex hb2 (iV (by simp) hn.2);refine .line ?_;rw [CP];simp [stK];have h4:=h3.one (kP (by decide))<|Lx.sy (c:=59) (by decide) (fQ (by decide)) (.nl hk)
  obtain ⟨h5,h6⟩:=h2 _ _ aX7<|Lx.sy (c:=93) (by decide) (fQ (by decide))<|.sp<|.sy (c:=61) (by decide) (fQ (by decide))<|.sp h4
  exact .nm h1 aF0<|.sy (by decide) h6 h5
 | @k3 nm a ha =>
  simp only [vB,aF] at hn;have h1:fK nm=true:=by simpa [fM,uI,forms] using hn.1.1
  have h2:=LxI.ex ha (iV (by simp) hn.2);refine .line ?_;rw [CP];simp [stK];obtain ⟨h5,h6⟩:=h2 _ _ aX7<|Lx.sy (c:=93) (by decide) (fQ (by decide))<|.sy (c:=59) (by decide) (fQ (by decide)) (.nl hk)
  exact wG (w:=[100,101,108,101,116,101]) (by decide)<|.nm h1 aF0<|.sy (by decide) h6 h5
 | @k4 a th el ha =>
  obtain ⟨b1,b2⟩:=hb _ _ _ _ _ _ rfl;simp only [vB,aF] at hn;have h2:=LxI.ex ha (iV (by simp) hn.2);rw [bW,CP]
  by_cases he:el.length=0
  ·simp [stT,stK,he];refine .line ?_;simp;exact wG (w:=[105,102]) (by decide)<|h2.one sB<|.sp<|.sy (by decide) (fQ (by decide))<|.nl<|b1 _ _ _<|HC hk
  ·have he2:¬ el=[]:=λe=>he (by rw [e];rfl);simp [stT,stK,he2];refine .line ?_;simp;exact wG (w:=[105,102]) (by decide)<|h2.one sB<|.sp<|.sy (by decide) (fQ (by decide))<|.nl<|b1 _ _ _<|.line<|.sy (by decide) (fQ (by decide))<|.sp<|wG (w:=[101,108,115,101]) (by decide)<|.sy (by decide) (fQ (by decide))<|.nl<|b2 _ _ _<|HC hk
 | @k5 a th ha =>
  obtain ⟨b1,b2⟩:=hb _ _ _ _ _ _ rfl;simp only [vB,aF] at hn;have h2:=LxI.ex ha (iV (by simp) hn.2);rw [bW,CP];simp [stT,stK];refine .line ?_;simp;exact wG (w:=[119,104,105,108,101]) (by decide)<|h2.one sB<|.sp<|.sy (by decide) (fQ (by decide))<|.nl<|b1 _ _ _<|HC hk
 | @k6 nm hd l hl =>
  simp only [vB,aF] at hn;have h1:fK nm=true:=by simpa [fM,uI,forms] using hn.1.1
  have h2:fK hd=true:=by simpa [fM,uI,forms] using hn.1.2
  refine .line ?_;rw [CP];simp [stK];exact wG (w:=[115,101,110,100]) (by decide)<|.nm2 h1 (λd e=>by cases e;rfl)<|.sy (by decide) (RP h2)<|.nm h2 (kP (by decide))<|aD1 (λa ha=>.ex (hl a ha) (iV ha hn.2)) (fQ (by decide))<|.sy (by decide) (fQ (by decide)) (.nl hk)
 | @k7 hd a l ha hl =>
  simp only [vB,aF] at hn;have h2:fK hd=true:=by simpa [fM,uI,forms] using hn.1.2
  have h3:=LxI.ex ha (iV (by simp) hn.2);refine .line ?_;rw [CP];simp [stK];exact wG (w:=[97,102,116,101,114]) (by decide)<|h3.one sB<|.sp<|wG (w:=[100,111]) (by decide)<|.nm h2 (kP (by decide))<|aD1 (λb hb=>.ex (hl b hb) (iV (by simp [hb]) hn.2)) (fQ (by decide))<|.sy (by decide) (fQ (by decide)) (.nl hk)
 | @k8 a b el ha hb2 =>
  obtain ⟨_,b2⟩:=hb _ _ _ _ _ _ rfl;simp only [vB,aF] at hn;have h2:=LxI.ex ha (iV (by simp) hn.2);have h3:=LxI.ex hb2 (iV (by simp) hn.2);have h4:=cB9 b2 (n:=n) (LxI.kw (w:=[115,116,111,114,101]) (by decide) (h2.eq h3)) hk;rw [bW,CP];simp [stT,stK] at h4|-;exact h4
 | @k9 nm a el ha =>
  obtain ⟨_,b2⟩:=hb _ _ _ _ _ _ rfl;simp only [vB,aF] at hn;have h1:fK nm=true:=by simpa [fM,uI,forms] using hn.1.1
  have h2:=LxI.ex ha (iV (by simp) hn.2);have h4:=cB9 b2 (n:=n) (LxI.kw (w:=[102,101,116,99,104]) (by decide) ((LxI.nm h1).eq h2)) hk;rw [bW,CP];simp [stT,stK] at h4|-;exact h4
 | k10 =>
  refine .line ?_;rw [CP];simp [stK];exact .kw (w:=[115,116,111,112]) (by decide) (kP (by decide))<|.sy (by decide) (fQ (by decide)) (.nl hk)
theorem cN6 (s:Sm):Sm.all BE s=true->Sm.all vB s=true->LxS s:=by
 induction s using Sm.ind with
 | _ kd nm hd ex th el ih1 ih2 =>
  intro h k;rw [oM,aF,aF] at h k;obtain ⟨⟨h1,h2⟩,h3⟩:=h;obtain ⟨⟨k1,k2⟩,k3⟩:=k;refine cX8 (XZ h1) k1 λnm' hd' kd' ex' th' el' e=>?_;injection e with _ _ _ _ e1 e2
  subst e1 e2;exact ⟨.of λs hs=>ih1 s hs (tV hs h2) (tV hs k2),.of λs hs=>ih2 s hs (tV hs h3) (tV hs k3)⟩
theorem LxB.all {l:List Sm} (h:Sm.alls BE l=true) (k:Sm.alls vB l=true):LxB l:=.of λs hs=>cN6 s (tV hs h) (tV hs k)
/-! ### Fleets -/
theorem IM {α:Type} {tx:α->Str} {g:α->List Kt}:∀ (l:List α) (r:Str) (ks:List Kt),(∀ a∈l,∀ r ks,Lx r ks->Lx (tx a++r) (g a++ks))->Lx r ks->Lx ((l.map tx).flatten++r) ((l.map g).flatten++ks)
 | [],r,ks,_,h=>h
 | a::l,r,ks,hl,h=>by
  simp only [dT,eY,aQ];exact hl a (eE ..) _ _ (IM l r ks (λb hb=>hl b (gA _ hb)) h)
theorem cB8 {b:Bool} (hr:BD r) (h:Lx r ks):Lx (QJ b++r) (cU6 b::ks):=by
 cases b
 ·exact .kw (w:=[102,97,108,115,101]) (by decide) hr h
 ·exact .kw (w:=[116,114,117,101]) (by decide) hr h
theorem dC4 {f:Fg} (h:fK f.nm=true) (hk:Lx r ks):Lx (fgT f++r) ((2,[102,108,97,103])::fgK f++ks):=by
 refine .line ?_;simp [fgK];exact wG (w:=[102,108,97,103]) (by decide)<|.nm h sB<|.sp<|.sy (by decide) (fQ (by decide))<|.sp<|cB8 (kP (by decide))<|.sy (by decide) (fQ (by decide)) (.nl hk)
theorem aN1 {n:Int64} (h:0<=n.toInt):Lib.itoa n.toInt=Lib.decDigits n.toInt.toNat:=by rw [Lib.itoa,aA (by omega)]
theorem dC2 {l:Lk} (h:lkB l=true) (h1:fK l.fr=true) (h2:fK l.to=true) (hk:Lx r ks):Lx (lkT l++r) ((2,[108,105,110,107])::lkK l++ks):=by
 simp only [lkB,aF,aB] at h;refine .line ?_;rw [aN1 (by omega)];simp [lkK];exact wG (w:=[108,105,110,107]) (by decide)<|.nm h1 sB<|.sp<|.to<|.sp<|.nm h2 sB<|.sp<|wG (w:=[108,97,116,101,110,99,121]) (by decide)<|.nu cF8 (kP (by decide))<|.sy (by decide) (fQ (by decide)) (.nl hk)
theorem cX6 {n:Int64} (hr:BD r) (h:Lx r ks):Lx (Lib.itoa n.toInt++r) (cY2 n++ks):=by
 unfold cY2
 split
 ·rename_i hn;rw [Lib.itoa,aE hn,show n.toInt.natAbs=(-n.toInt).toNat by omega];exact .sy (by decide) cA5 (.nu (by have:=n.le_toInt;omega) hr h)
 ·rw [aN1 (by omega)];exact .nu cF8 hr h
theorem dC1 {v:Vr} (h:fK v.nm=true) (hf:vS v=true) (hk:Lx r ks):Lx (vrT n v++r) ((2,[118,97,114])::vrK v++ks):=by
 unfold vrT vrK;unfold vS at hf
 split
 ·refine .line ?_;simp;exact wG (w:=[118,97,114]) (by decide)<|.nm h (kP (by decide))<|.sy (by decide) (fQ (by decide))<|.sp<|wG (w:=[105,110,116]) (by decide)<|.sy (by decide) (fQ (by decide))<|.sp<|cX6 (kP (by decide))<|.sy (by decide) (fQ (by decide)) (.nl hk)
 rename_i h1;rw [aA h1] at hf
 split
 ·refine .line ?_;simp;exact wG (w:=[118,97,114]) (by decide)<|.nm h (kP (by decide))<|.sy (by decide) (fQ (by decide))<|.sp<|wG (w:=[98,111,111,108]) (by decide)<|.sy (by decide) (fQ (by decide))<|.sp<|cB8 (kP (by decide))<|.sy (by decide) (fQ (by decide)) (.nl hk)
 rename_i h2;rw [aA h2] at hf
 split
 ·refine .line ?_;simp;exact wG (w:=[118,97,114]) (by decide)<|.nm h (kP (by decide))<|.sy (by decide) (fQ (by decide))<|.sp<|.kw (w:=[116,97,98,108,101]) (by decide) (kP (by decide))<|.sy (by decide) (fQ (by decide)) (.nl hk)
 ·rename_i h3;rw [aA h3] at hf;cases hf
variable {h:Hd}
theorem dC3 (hn:BU h=true) (hf:HG h=true) (hk:Lx r ks):Lx (hdT n h++r) ((2,[111,110])::hdK h++ks):=by
 simp only [BU,aF] at hn;obtain ⟨⟨h1,h2⟩,h3⟩:=hn;have hb:=LxB.all hf h3;unfold hdT hdK;simp only [aQ];refine .line ?_;simp;refine wG (w:=[111,110]) (by decide)<|.nm h1 (kP (by decide)) ?_
 have h4:=aD1 (tx:=λx=>x) (g:=λp=>[((1,p):Kt)]) (l:=h.ps) (λa ha=>.nm (aP.1 h2 a ha)) (r:=32::123::10::(Sm.texts (n+1) h.body++(kB n [[125]]++r))) (fQ (by decide))<|.sp<|.sy (by decide) (fQ (by decide))<|.nl<|hb _ _ _<|HC hk
 simpa using h4
theorem aD2 {v:List Hd} (hn:v.all BU=true) (hf:v.all HG=true) (hk:Lx r ks):Lx (KZ n v++r) (vsK v++ks) :=
 IM v r ks (λa ha r ks h=>dC3 (aP.1 hn a ha) (aP.1 hf a ha) h) hk
theorem aW2 (w:Str) (hi:Lib.itoa ((i+1:Nat):Int)=w) (hw:w=Lib.decDigits (i+1)) (h0:i≠0) (h9:i<=100) {v:List Hd} (hn:v.all BU=true) (hf:v.all HG=true) (hk:Lx r ks):Lx (vsT n i v++r) (vnK w v++ks):=by
 unfold vsT vnK;rw [aA h0,hi];simp only [aQ];refine .line ?_;simp;have h2:=Lx.nu (u:=i+1) (r:=32::123::10::(KZ (n+1) v++(kB n [[125]]++r))) (by omega) sB<|.sp<|.sy (by decide) (fQ (by decide))<|.nl<|aD2 hn hf<|HC hk
 rw [<-hw] at h2;exact wG (w:=[118,101,114,115,105,111,110]) (by decide) (by simpa using h2)
theorem cN5 {l:List (List Hd)} (hn:∀ v∈l,v.all BU=true) (hf:∀ v∈l,v.all HG=true) (h1:1<=l.length) (h3:l.length<=3) (hk:Lx r ks):Lx (DG n 0 l++r) (vsK (l.headD [])++(vmK l.tail++ks)):=by
 have e2:Lib.itoa ((1+1:Nat):Int)=[50]:=by decide +kernel
 have e3:Lib.itoa ((2+1:Nat):Int)=[51]:=by decide +kernel
 have d2:[50]=Lib.decDigits (1+1):=by decide +kernel
 have d3:[51]=Lib.decDigits (2+1):=by decide +kernel
 match l,h1,h3 with
 | [v],_,_ =>
  simp only [DG,aX,vsT,aN];exact aD2 (hn v (by simp)) (hf v (by simp)) hk
 | [v,w],_,_ =>
  simp only [DG,aX,aQ];rw [vsT,aE rfl];exact aD2 (hn v (by simp)) (hf v (by simp)) (aW2 _ e2 d2 (by decide) (by decide) (hn w (by simp)) (hf w (by simp)) hk)
 | [v,w,u],_,_ =>
  simp only [DG,aX,aQ];rw [vsT,aE rfl];have:=aW2 (n:=n) _ e2 d2 (by decide) (by decide) (hn w (by simp)) (hf w (by simp)) (aW2 (n:=n) _ e3 d3 (by decide) (by decide) (hn u (by simp)) (hf u (by simp)) hk);refine aD2 (hn v (by simp)) (hf v (by simp)) ?_;simpa [vmK] using this
theorem dC5 {c:Cp} (hn:fK c.nm=true) (hv:c.vars.all (λv=>fK v.nm)=true) (hf:c.vars.all vS=true) (h1:FC BU c=true) (h2:FC HG c=true) (h3:1<=c.vers.length) (h4:c.vers.length<=3) (hk:Lx r ks):Lx (cpT c++r) ((2,[99,111,109,112,111,110,101,110,116])::cpK c++ks):=by
 unfold cpT cpK;simp only [aQ];refine .line ?_;simp [-List.headD_eq_head?_getD];exact wG (w:=[99,111,109,112,111,110,101,110,116]) (by decide)<|.nm hn sB<|.sp<|.sy (by decide) (fQ (by decide))<|.nl<|IM c.vars _ _ (λa ha r ks h=>dC1 (aP.1 hv a ha) (aP.1 hf a ha) h)<|cN5 (aP.1 h1) (aP.1 h2) h3 h4<|HC hk
theorem cT7 {f:Ft} (h:kA f=0):Lx (ftT f) (ftK f):=by
 unfold kA at h
 split at h
 ·cases h
 rename_i h1
 split at h
 ·cases h
 rename_i h3
 split at h
 ·cases h
 rename_i h2;rw [Bool.not_eq_false] at h1 h2 h3;simp only [uW,aF] at h1;simp only [FA,aF] at h2;simp only [QU,aF] at h3;obtain ⟨_,hs,_⟩:=h1;obtain ⟨⟨hl,hv⟩,hb⟩:=h2;obtain ⟨⟨⟨⟨n1,n2⟩,n3⟩,n4⟩,n5⟩:=h3;rw [HM] at hb n5;unfold ftT ftK;have key:Lx (kB 0 [[125]]) [(4,[125])]:=by have:=HC (n:=0) Lx.nil;rwa [aX] at this
 simp only [aQ];refine .line ?_;simp
 refine wG (w:=[102,108,101,101,116]) (by decide)<|.nm n1 sB<|.sp<|.sy (by decide) (fQ (by decide))<|.nl<|IM f.flags _ _ (λa ha r ks h=>dC4 (aP.1 n2 a ha) h)<|IM f.links _ _ (λa ha r ks h=>by have:=aP.1 n3 a ha;rw [aF] at this;exact dC2 (aP.1 hl a ha) this.1 this.2 h)<|IM f.comps _ _ (λa ha r ks h=>by
  have h3:=aP.1 hs a ha;simp only [BP,aF,aB] at h3;have h4:=aP.1 n4 a ha;rw [aF] at h4;exact dC5 h4.1 h4.2 (aP.1 hv a ha) (aP.1 n5 a ha) (aP.1 hb a ha) h3.1.1.2 h3.1.2 h) key
theorem bK1 {f:Ft} (h:kA f=0):(sE (ftT f)).map kt=ftK f:=(cT7 h).lex
end Go.Proofs.YthhoebdlfjffkaaGreatDoor
namespace Go.Proofs.YthhoebdlfjffkaaGreatDoor
open Go.RowKit Go.Par Go.Sx
abbrev Bs:=List UInt8
def dU8 (c:UInt8):D:=.val (.int .u8 c.toNat)
def aE5 (n:Nat):D:=.val (iN n)
def dAr (l:List Nat):D:=.seq 1 (l.map aE5)
structure Mk where
 ints:Nat
 tables:Nat
 flags:Nat
 own:Nat
 ars:List (List Nat)
 params:Nat
def bY (b:Bs) (n:Nat):Nat × Bs:=match b with | []=>(0,[]) | c::r=>(c.toNat % n,r)
variable {n:Nat}
theorem jB (b:Bs) (h:0<n):(bY b n).1<n:=by
 cases b with
 | nil=>exact h
 | cons c r=>exact xH _ h
def nmB (c:UInt8) (k:Nat):Str:=[c,UInt8.ofNat (48+k)]
def zH (c:UInt8) (n:Nat):List Str:=(List.range n).map (nmB c)
theorem aL9 (c:UInt8) (n:Nat):zH c (n+1)=zH c n++[nmB c n]:=by simp [zH,mB]
theorem lK (c:UInt8) (n:Nat):(zH c n).length=n:=by simp [zH]
variable {k:Nat}
theorem bM8 {c:UInt8} (h:k<n):(zH c n)[k]? = some (nmB c k):=by simp [zH,h]
def EA (M:Mk) (d:Nat) (rec:Bs->Ex × Bs) (k:Nat) (b:Bs):Ex × Bs :=
 if k<2\/(2<d/\5<k) then (.mk 1 [] (Int64.ofNat (bY b 9).1) [],(bY b 9).2)
 else if k<4\/(k=4/\M.params=0) then (.mk 5 (nmB 120 (bY b M.ints).1) 0 [],(bY b M.ints).2)
 else if k=4 then (.mk 5 (nmB 112 (bY b M.params).1) 0 [],(bY b M.params).2)
 else if k=5 then (.mk 4 [] 0 [],b)
 else if k=6/\0<M.tables then (.mk 6 [116,48] 0 [(rec b).1],(rec b).2)
 else if k=7/\0<M.tables then (.mk 8 [116,48] 0 [],b)
 else if k=8 then (.mk 9 [] 0 [(rec b).1],(rec b).2)
 else (.mk (([14,15,11,12,13,14]:List UInt8).getD (bY b 6).1 14) [] 0 [(rec (bY b 6).2).1,(rec (rec (bY b 6).2).2).1],(rec (rec (bY b 6).2).2).2)
def cM8 (M:Mk) (d:Nat) (rec:Bs->Ex × Bs) (b0:Bs):Ex × Bs:=EA M d rec (bY b0 12).1 (bY b0 12).2
def pM (M:Mk):Nat->Bs->Ex × Bs
 | 0=>cM8 M 3 λb=>(.mk 1 [] 0 [],b)
 | f+1=>cM8 M (2 - f) (pM M f)
def yJ (M:Mk):Nat->Bs->List Ex × Bs
 | 0,b=>([],b)
 | n+1,b=>((pM M 2 b).1::(yJ M n (pM M 2 b).2).1,(yJ M n (pM M 2 b).2).2)
def FP (M:Mk) (d:Nat) (rec:Bs->Ex × Bs) (k:Nat) (b:Bs):Ex × Bs :=
 if k=0 then (.mk (2+UInt8.ofNat (bY b 2).1) [] 0 [],(bY b 2).2)
 else if k=1\/(1<d/\4<k) then (.mk 5 [98,48] 0 [],b)
 else if k=2/\0<M.flags then (.mk 5 (nmB 102 (bY b M.flags).1) 0 [],(bY b M.flags).2)
 else if k=3/\0<M.tables then (.mk 7 [116,48] 0 [(pM M 2 b).1],(pM M 2 b).2)
 else if k=5 then (.mk 10 [] 0 [(rec b).1],(rec b).2)
 else if k=6\/k=7 then (.mk (16+UInt8.ofNat k) [] 0 [(rec b).1,(rec (rec b).2).1],(rec (rec b).2).2)
 else (.mk (16+UInt8.ofNat (bY b 6).1) [] 0 [(pM M 2 (bY b 6).2).1,(pM M 2 (pM M 2 (bY b 6).2).2).1],(pM M 2 (pM M 2 (bY b 6).2).2).2)
def cJ9 (M:Mk) (d:Nat) (rec:Bs->Ex × Bs) (b0:Bs):Ex × Bs:=FP M d rec (bY b0 10).1 (bY b0 10).2
def BC (M:Mk):Nat->Bs->Ex × Bs
 | 0=>cJ9 M 2 λb=>(.mk 1 [] 0 [],b)
 | f+1=>cJ9 M (1 - f) (BC M f)
def arN (M:Mk) (c h:Nat):Nat:=(M.ars.getD c []).getD h 0
def arL (M:Mk) (c:Nat):Nat:=(M.ars.getD c []).length
def aU9 (M:Mk) (lf c h:Nat) (b:Bs):Sm × (Bs × Nat):=(.mk 6 [UInt8.ofNat (97+c)] (nmB 104 h) (yJ M (arN M c h) b).1 [] [],((yJ M (arN M c h) b).2,lf))
def aY2 (M:Mk) (lf h:Nat) (e:Ex × Bs):Sm × (Bs × Nat):=(.mk 7 [] (nmB 104 h) (e.1::(yJ M (arN M M.own h) e.2).1) [] [],((yJ M (arN M M.own h) e.2).2,lf))
def cE8 (bd:Bs × Nat->List Sm × (Bs × Nat)) (lf x:Nat) (e:Ex × Bs):Sm × (Bs × Nat):=(.mk 9 (nmB 120 x) [] [e.1] [] (bd (e.2,lf)).1,(bd (e.2,lf)).2)
def cZ8 (M:Mk) (lf:Nat) (b:Bs):Sm × (Bs × Nat):=(.mk 1 (nmB 120 (bY b M.ints).1) [] [(pM M 3 (bY b M.ints).2).1] [] [],((pM M 3 (bY b M.ints).2).2,lf))
def jI (M:Mk) (k d:Nat) (bd:Bs × Nat->List Sm × (Bs × Nat)) (b:Bs) (lf:Nat):Sm × (Bs × Nat) :=
 if k=2 then (.mk 1 [98,48] [] [(BC M 2 b).1] [] [],((BC M 2 b).2,lf))
 else if k=3/\0<M.tables then (.mk 2 [116,48] [] [(pM M 3 b).1,(pM M 3 (pM M 3 b).2).1] [] [],((pM M 3 (pM M 3 b).2).2,lf))
 else if k=4/\0<M.tables then (.mk 3 [116,48] [] [(pM M 3 b).1] [] [],((pM M 3 b).2,lf))
 else if (k=5\/k=6)/\d<3 then
  (.mk 4 [] [] [(BC M 2 b).1] (bd ((BC M 2 b).2,lf)).1 (bd (bd ((BC M 2 b).2,lf)).2).1,(bd (bd ((BC M 2 b).2,lf)).2).2)
 else if k=7/\d<2 then (.mk 5 [] [] [(BC M 2 b).1] (bd ((BC M 2 b).2,lf)).1 [],(bd ((BC M 2 b).2,lf)).2)
 else if k=8\/k=9 then aU9 M lf (bY b M.ars.length).1 (bY (bY b M.ars.length).2 (arL M (bY b M.ars.length).1)).1 (bY (bY b M.ars.length).2 (arL M (bY b M.ars.length).1)).2
 else if k=10 then aY2 M lf (bY b (arL M M.own)).1 (pM M 2 (bY b (arL M M.own)).2)
 else if k=11/\d<3 then
  if (bY b 2).1=0 then (.mk 8 [] [] (yJ M 2 (bY b 2).2).1 [] (bd ((yJ M 2 (bY b 2).2).2,lf)).1,(bd ((yJ M 2 (bY b 2).2).2,lf)).2)
  else cE8 bd lf (bY (bY b 2).2 M.ints).1 (pM M 3 (bY (bY b 2).2 M.ints).2)
 else if k=12/\(bY b 3).1=0 then (.mk 10 [] [] [] [] [],((bY b 3).2,lf))
 else cZ8 M lf (if k=12 then (bY b 3).2 else b)
def BF (st:Nat->Bs->Nat->Sm × (Bs × Nat)):Nat->Bs × Nat->List Sm × (Bs × Nat)
 | 0,x=>([],x)
 | f+1,(b,lf) =>
  if b=[]\/lf=0 then ([],(b,lf))
  else if (bY b 14).1=13 then ([],((bY b 14).2,lf))
  else ((st (bY b 14).1 (bY b 14).2 (lf - 1)).1::(BF st f (st (bY b 14).1 (bY b 14).2 (lf - 1)).2).1,(BF st f (st (bY b 14).1 (bY b 14).2 (lf - 1)).2).2)
def OX (M:Mk):Nat->Bs × Nat->List Sm × (Bs × Nat)
 | 0=>BF (λk=>jI M k 3 λx=>([],x)) 13
 | f+1=>BF (λk=>jI M k (2 - f) (OX M f)) 13
structure Cd where
 ps:UInt8
 bytes:Bs
def dCd (c:Cd):D:=.str [.val (.int .u8 c.ps.toNat),.seq 1 (c.bytes.map dU8)]
variable {H:Hp}
theorem aE8 {x:Cd} {cs:List Value} (h:Rep H (dCd x) cs):∃ p c,cs=[.int .u8 x.ps.toNat,.slice p x.bytes.length c]/\Rep H (.seq 1 (x.bytes.map dU8)) [.slice p x.bytes.length c]:=by
 rw [dCd,AS] at h;obtain ⟨_,rfl,_,_,h⟩:=eW.1 h;obtain ⟨p,c,_,rfl,hs,h⟩:=oZ.1 h;rw [kG] at h;subst h;rw [aJ] at hs|-;exact ⟨p,c,Z,hs⟩
def Mk.at (M:Mk) (k:Nat):Mk:={ M with params:=arN M M.own k }
def hdS (M:Mk) (k:Nat) (c:Cd):Hd:=⟨nmB 104 k,zH 112 (arN M M.own k),(OX (M.at k) 3 (c.bytes.take 40,12)).1⟩
def BV (M:Mk):Nat->List Cd->List Hd
 | _,[]=>[]
 | k,c::r=>hdS M k c::BV M (k+1) r
theorem aN7 (M:Mk):∀ (a:List Cd) (k:Nat) (b:List Cd),BV M k (a++b)=BV M k a++BV M (k+a.length) b
 | [],k,b=>by simp [BV]
 | c::r,k,b=>by
  simp only [aR,BV,aN7 M r (k+1) b,aH];rw [show k+1+r.length=k+(r.length+1) by omega]
variable {M:Mk}
theorem bN4 {l:List Cd} (h:k<l.length):BV M 0 (l.take (k+1))=BV M 0 (l.take k)++[hdS M k l[k]]:=by
 rw [gC h,aN7,dJ,iA (by omega)];simp [BV]
theorem AV (M:Mk):∀ (l:List Cd) (k:Nat),(BV M k l).length=l.length
 | [],_=>rfl
 | c::r,k=>by simp [BV,AV M r (k+1)]
structure Prt where
 ints:UInt8
 tables:UInt8
 hs:List Cd
 sec:List Cd
structure Pln where
 flags:UInt8
 links:Bs
 comps:List Prt
def QX (x:Prt):D:=.str [.val (.int .u8 x.ints.toNat),.val (.int .u8 x.tables.toNat),.seq 2 (x.hs.map dCd),.seq 2 (x.sec.map dCd)]
def aX1 (x:Pln):D:=.str [.val (.int .u8 x.flags.toNat),.seq 1 (x.links.map dU8),.seq 4 (x.comps.map QX)]
section
variable {H:Hp}
theorem aK2 {x:Prt} {cs:List Value} (h:Rep H (QX x) cs):∃ p1 c1 p2 c2,cs=[.int .u8 x.ints.toNat,.int .u8 x.tables.toNat,.slice p1 x.hs.length c1,.slice p2 x.sec.length c2]/\Rep H (.seq 2 (x.hs.map dCd)) [.slice p1 x.hs.length c1]/\Rep H (.seq 2 (x.sec.map dCd)) [.slice p2 x.sec.length c2]:=by
 rw [QX,AS] at h;obtain ⟨_,rfl,_,_,h⟩:=eW.1 h;obtain ⟨_,rfl,_,_,h⟩:=eW.1 h;obtain ⟨p1,c1,_,rfl,k1,h⟩:=oZ.1 h;obtain ⟨p2,c2,_,rfl,k2,h⟩:=oZ.1 h;rw [kG] at h;subst h;exact ⟨p1,c1,p2,c2,by simp,(by simpa using k1),(by simpa using k2)⟩
theorem bZ6 {x:Prt} {s1 s2:Value} (k1:Rep H (.seq 2 (x.hs.map dCd)) [s1]) (k2:Rep H (.seq 2 (x.sec.map dCd)) [s2]):Rep H (QX x) [.int .u8 x.ints.toNat,.int .u8 x.tables.toNat,s1,s2]:=by
 rw [QX,AS];exact eW.2 ⟨_,Z,Z,Jt,eW.2 ⟨_,Z,Z,Jt,nD.2 ⟨[s1],_,Z,k1,nD.2 ⟨[s2],_,Z,k2,kG.2 rfl⟩⟩⟩⟩
theorem cQ8 {x:Cd} {s:Value} (k:Rep H (.seq 1 (x.bytes.map dU8)) [s]):Rep H (dCd x) [.int .u8 x.ps.toNat,s]:=by
 rw [dCd,AS];exact eW.2 ⟨_,Z,Z,Jt,nD.2 ⟨[s],_,Z,k,kG.2 rfl⟩⟩
theorem SR {x:Pln} {cs:List Value} (h:Rep H (aX1 x) cs):∃ p1 c1 p2 c2,cs=[.int .u8 x.flags.toNat,.slice p1 x.links.length c1,.slice p2 x.comps.length c2]/\Rep H (.seq 1 (x.links.map dU8)) [.slice p1 x.links.length c1]/\Rep H (.seq 4 (x.comps.map QX)) [.slice p2 x.comps.length c2]:=by
 rw [aX1,AS] at h;obtain ⟨_,rfl,_,_,h⟩:=eW.1 h;obtain ⟨p1,c1,_,rfl,k1,h⟩:=oZ.1 h;obtain ⟨p2,c2,_,rfl,k2,h⟩:=oZ.1 h;rw [kG] at h;subst h;exact ⟨p1,c1,p2,c2,by simp,(by simpa using k1),(by simpa using k2)⟩
end
def arK (x:Prt) (k:Nat):List Nat :=
 if h:k<x.hs.length then [x.hs[k].ps.toNat % 3] else if k=0 then [1] else if h:k<x.sec.length then [x.sec[k].ps.toNat % 3] else []
def WB (x:Prt) (m:Nat):List Nat:=(List.range m).flatMap (arK x)
def arP (x:Prt):List Nat:=WB x 3
theorem vV (x:Prt) (m:Nat):WB x (m+1)=WB x m++arK x m:=by simp [WB,mB]
theorem cZ9 (x:Prt) (k:Nat):(arK x k).length<=1:=by
 unfold arK;split
 ·simp
 ·split
  ·simp
  ·split <;> simp
theorem UA (x:Prt):∀ m,(WB x m).length<=m
 | 0=>by simp [WB]
 | m+1=>by
  rw [vV,aD];have:=UA x m;have:=cZ9 x m;omega
theorem cR2 {x:Prt} (h:n∈arK x k):n<=2:=by
 unfold arK at h
 split at h
 ·simp at h;omega
 ·split at h
  ·simp at h;omega
  ·split at h
   ·simp at h;omega
   ·simp at h
theorem bI2 {x:Prt} (h:n∈arP x):n<=2:=by
 obtain ⟨k,_,hk⟩:=List.mem_flatMap.1 h;exact cR2 hk
theorem RX (x:Prt):(arP x).length=max 1 (max (min x.hs.length 3) (min x.sec.length 3)):=by
 have e:arP x=arK x 0++(arK x 1++arK x 2):=by simp [arP,WB,mB]
 have key:∀ k,(arK x k).length=if k<x.hs.length\/k=0\/k<x.sec.length then 1 else 0:=by
  intro k;unfold arK
  by_cases h1:k<x.hs.length
  ·rw [zY h1,aE (.inl h1)];rfl
  ·rw [vM h1]
   by_cases h2:k=0
   ·rw [aE h2,aE (.inr (.inl h2))];rfl
   ·rw [aA h2]
    by_cases h3:k<x.sec.length
    ·rw [zY h3,aE (.inr (.inr h3))];rfl
    ·rw [vM h3,aA (by omega)];rfl
 rw [e,aD,aD,key,key,key];rw [aE (.inr (.inl Z))]
 split <;> split <;> omega
def fJ (p:Pln):List Prt:=if p.comps.length=0 then [⟨0,0,[],[]⟩] else p.comps.take 3
theorem IJ (p:Pln):0<(fJ p).length/\(fJ p).length<=3:=by
 unfold fJ
 split
 ·simp
 ·simp only [dJ];omega
def yK (k:Nat):Str:=[UInt8.ofNat (97+k)]
def bN7 (c:UInt8) (k:Nat):Fg:=⟨nmB 102 k,decide (((c.toNat / 2 ^ (4+k) % 2:Nat):Int)=1)⟩
def MX (c:UInt8) (n:Nat):List Fg:=(List.range n).map (bN7 c)
theorem aW7 (c:UInt8) (n:Nat):MX c (n+1)=MX c n++[bN7 c n]:=by simp [MX,mB]
theorem OM (c:UInt8) (n:Nat):(MX c n).length=n:=by simp [MX]
def aD3 (n:Nat) (l:Bs) (k:Nat):List Lk:=if 0<(l.getD k 0).toNat % 4 then [⟨yK (k / n),yK (k % n),Int64.ofNat ((l.getD k 0).toNat % 4)⟩] else []
def EW (n:Nat) (l:Bs) (m:Nat):List Lk:=(List.range m).flatMap (aD3 n l)
theorem CM (n:Nat) (l:Bs) (m:Nat):EW n l (m+1)=EW n l m++aD3 n l m:=by simp [EW,mB]
theorem IP (n:Nat) (l:Bs):∀ m,(EW n l m).length<=m
 | 0=>by simp [EW]
 | m+1=>by
  rw [CM,aD];have:=IP n l m;have:(aD3 n l m).length<=1:=by unfold aD3;split <;> simp
  omega
def sF (x:Prt):Nat:=1+x.ints.toNat % 3
def yD (x:Prt):Nat:=x.tables.toNat % 2
def vrI (k:Nat):Vr:=⟨nmB 120 k,1,Int64.ofNat k⟩
def cJ6 (k:Nat):Vr:=⟨nmB 116 k,3,0⟩
def aA7 (n:Nat):List Vr:=(List.range n).map vrI
def aA6 (n:Nat):List Vr:=(List.range n).map cJ6
theorem bJ2 (n:Nat):aA7 (n+1)=aA7 n++[vrI n]:=by simp [aA7,mB]
theorem bJ1 (n:Nat):aA6 (n+1)=aA6 n++[cJ6 n]:=by simp [aA6,mB]
def vrB:Vr:=⟨[98,48],2,0⟩
def PU (x:Prt):List Vr:=aA7 (sF x)++[vrB]++aA6 (yD x)
theorem SB (n:Nat):(aA7 n).length=n:=by simp [aA7]
theorem SA (n:Nat):(aA6 n).length=n:=by simp [aA6]
def mkP (ars:List (List Nat)) (nf i:Nat) (x:Prt):Mk:={ ints:=sF x,tables:=yD x,flags:=nf,own:=i,ars:=ars,params:=0 }
def VV (x:Prt):List Cd:=if x.hs.length=0 then [⟨1,[]⟩] else x.hs.take 3
def EN (M:Mk) (x:Prt):List (List Hd):=BV M 0 (VV x)::(if 0<x.sec.length then [BV M 0 (x.sec.take 3)] else [])
def aE7 (ars:List (List Nat)) (nf i:Nat) (x:Prt):Cp:=⟨yK i,PU x,EN (mkP ars nf i x) x⟩
def JY (ars:List (List Nat)) (nf:Nat) (l:List Prt):List Cp:=l.mapIdx (λi x=>aE7 ars nf i x)
theorem aX2 {ars:List (List Nat)} {nf:Nat} {l:List Prt} (h:k<l.length):JY ars nf (l.take (k+1))=JY ars nf (l.take k)++[aE7 ars nf k l[k]]:=by
 unfold JY;rw [gC h,List.mapIdx_append];simp [iA (xR h)]
theorem IW (ars:List (List Nat)) (nf:Nat) (l:List Prt):(JY ars nf l).length=l.length:=by simp [JY]
def FU:Str:=[102,108,101,101,116,49]
def rW (p:Pln):List (List Nat):=(fJ p).map arP
def mX (p:Pln):Ft :=
 ⟨FU,MX p.flags (p.flags.toNat % 3),EW (fJ p).length p.links (min p.links.length ((fJ p).length * (fJ p).length)),JY (rW p) (p.flags.toNat % 3) (fJ p)⟩
theorem fR:jP prg 25=some none:=by kernel_rfl
theorem fI:jP prg 27=some (some 4):=by kernel_rfl
theorem PN:cU prg 29=true:=by kernel_rfl
theorem jQ:dL prg 27 3=some 3:=by kernel_rfl
theorem dW:slN prg 25=some 4:=by kernel_rfl
theorem JX (e:Ex):∀ (H:Hp) (cs:List Value) (w:World),Rep H (dEx .u8 e) cs->e.depth<=1000000->Agr H w ->
 Calls prg 29 #[.agg cs.toArray] w λr w'=>r=.returned (iN e.depth)/\Ext w w':=by
 induction e using Ex.ind with | _ op nm nn args ih
 intro H cs w h he hA;rw [sH] at he;obtain ⟨p,c,rfl,hs,hnm⟩:=iR h;have hcap:=hs.cap;refine Sx.enter (H:=H) Tryz.func29 rfl Tryz.ntmps29 rfl hA ?_;refine .sr<|.bx Z Z Z λb1=>.a Z Z<|.ns<|.aq Z<|.sq<|.sr<|.fA Z jQ<|.lD Z fR Hm Z<|.yw (.lenSl dW Z)<|.mv Z<|.nt<|.bk<|.lp (X:=Nat) [(1,_),(7,_)] ⟨Z,Z,Jt⟩ [_] (λk=>[(3,iN (Ex.deeps (args.take k))),(8,iN k)]) (λk=>H) (λk=>[]) (λk=>k<=args.length) (λk=>args.length - k) 0 (λ_ s=>s) ⟨Z,Z,Jt⟩ (by omega) λk hC=>?_
 refine .sr<|.yw (.lss Z Z)<|.nt<|.sq<|.ce Z (λh9=>?_) (λh9=>?_)
 ·have hk:k<args.length:=by omega
  obtain ⟨b5,o5,c5,hp5,r5,l5,m5⟩:=hs.elem (eL hk);cases hp5;have h1:=aW9 args k;have h2:=cF7 hk;have h3:=aX0 hk;exact .sk<|.tN<|.sq<|.bk<|.sm Z<|.aq Z<|.rg<|.mv Z<|.fA Z jQ<|.lD Z fR Hm Z<|.mv Z<|.yw (.indexSl dW Z Z Z (by omega) (q:=o5+k * 4) Z)<|.yw (.loadMW Z fI m5 l5)<|.yw (.call PN Z (λW s=>ih _ (cD hk) H c5 W r5 (by omega) s.agr))<|.yw (.max2 Z Z (c:=((Ex.deeps (args.take (k+1)):Nat):Int)) (by omega))<|.a Z Z<|.nl<|.bN<|.tN<|.rg<|.yw (.add Z Z w7)<|.mv Z<|.nt<|.ag (k+1) ⟨Z,Z,Jt⟩ ⟨Z,Z,Jt⟩ (λ_ s=>s) (by omega) (by omega)
 obtain rfl:k=args.length:=by omega
 rw [aI];refine .ex<|.eb<|.sm Z<|.yw (.add Z Z w7)<|.az Z<|?_
 exact y9 Z Z λW s=>⟨by rw [sH];rfl,s.ext⟩
theorem bV2:jP prg 242=some (some 39):=by kernel_rfl
theorem bV0:cR0 prg 242=true:=by kernel_rfl
theorem bU7:aF5 prg 242=some (39,1):=by kernel_rfl
theorem UZ:cU prg 114=true:=by kernel_rfl
theorem GJ:cU prg 117=true:=by kernel_rfl
theorem aZ9:cU prg 145=true:=by kernel_rfl
theorem eQ:DQ prg 9=true:=by kernel_rfl
end Go.Proofs.YthhoebdlfjffkaaGreatDoor
